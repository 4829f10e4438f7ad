/- The number at a place: the document's TakeBig. -/
import Derived.Test.YtiaigekmkmampaaDoorEnvC
set_option linter.unusedSimpArgs false
set_option linter.unusedVariables false
namespace Go.Proofs.YtiaigekmkmampaaDoor
open Go.RowKit

set_option maxRecDepth 100000 in
set_option maxHeartbeats 1000000 in
theorem refTakeBig_any (a : Option Addr) (c : Nat) (l : List UInt8) (at_ z : Nat) (hz : 1 ≤ z) (hz8 : z ≤ 8) (hat : at_ + z ≤ l.length) (hc : l.length ≤ c) (hc63 : c ≤ maxLen) (w : World) (h : BytesAt w a l) :
    Calls Tryd.prog 29 #[.slice a l.length c, .int .i64 at_, .int .i64 z] w (TakeOut w l at_ z) := by
  unfold maxLen at hc63
  have d1 : ¬ (z : Int) < 1 := by omega
  have d2 : ¬ (8 : Int) < (z : Int) := by omega
  have d3 : ¬ (at_ : Int) < 0 := by omega
  have d4 : ¬ (l.length : Int) < (at_ : Int) := by omega
  have d5 : ¬ (l.length : Int) - (at_ : Int) < (z : Int) := by omega
  obtain ⟨b, off, rfl, hbw, hcs⟩ := bytes_cell h (by omega)
  have Hcs := Lib.hid hcs
  obtain ⟨V, hV⟩ : ∃ V : Array Value, V = (if z = 8 ∧ 127 < (l.getD at_ 0).toNat then #[.int .i64 0, .int .i64 0, .int .i64 2] else #[.int .i64 (numF l at_ z), .int .i64 ((at_ + z : Nat) : Int), .int .i64 0]) := ⟨_, rfl⟩
  have HV := Lib.hid hV
  unfold TakeOut
  rw [← hV]
  clear hV hcs
  have h0 : w.cell? ⟨b, off + at_, none⟩ = some (.int .u8 (bv (l.getD at_ 0))) := Hcs.out at_ (by omega)
  have H127 := Lib.hid (show (128 : Int) ≤ bv (l.getD at_ 0) ↔ 127 < (l.getD at_ 0).toNat by rw [bv_nat]; omega)
  have Hget := Lib.hid (show l.getD at_ 0 = l.getD at_ 0 from rfl)
  have H63 := Lib.hid (fun k => numF_63 l at_ z k hz8)
  obtain ⟨x0, hx0⟩ : ∃ x0, x0 = l.getD at_ 0 := ⟨_, rfl⟩
  rw [← hx0] at h0 H127 HV H63
  clear Hget hx0
  by_cases hbad : z = 8 ∧ 127 < x0.toNat
  · obtain ⟨rfl, h127⟩ := hbad
    have hd : (128 : Int) ≤ bv x0 := H127.out.2 h127
    have HV2 := Lib.hid (show V = #[.int .i64 0, .int .i64 0, .int .i64 2] by rw [HV.out, if_pos ⟨rfl, h127⟩])
    clear HV H63
    go_enter Tryd.func29, Tryd.ntmps29
    go_wp2_with fail
    go_ret3
    exact ⟨by rw [HV2.out]; rfl, rfl⟩
  · have HV2 := Lib.hid (show V = #[.int .i64 (numF l at_ z), .int .i64 ((at_ + z : Nat) : Int), .int .i64 0] by rw [HV.out, if_neg hbad])
    have H63' := Lib.hid (fun k => H63.out k (fun h8 => by rcases Nat.lt_or_ge 127 x0.toNat with h | h; exact (hbad ⟨h8, h⟩).elim; exact h))
    have Hbad := Lib.hid hbad
    clear HV H63
    go_enter Tryd.func29, Tryd.ntmps29
    go_upto_region 5 with (fail)
    go_cut [41] (fun v wx => v = .bool false ∧ w = wx)
    case first =>
      by_cases h8 : z = 8
      · subst h8
        have hd : ¬ (128 : Int) ≤ bv x0 := fun h => Hbad.out ⟨rfl, H127.out.1 h⟩
        go_wp2_with fail
        go_meet
        exact ⟨rfl, rfl⟩
      · have hd : ¬ (z : Int) = 8 := by omega
        go_wp2_with fail
        go_meet
        exact ⟨rfl, rfl⟩
    case rest =>
      obtain ⟨rfl, rfl⟩ := hcut
      go_wp2_with fail
      go_loopw [9, 10] (fun v9 v10 wx => ∃ k N : Nat, k ≤ z ∧ N = numF l at_ k ∧ v9 = .int .i64 N ∧ v10 = .int .i64 k ∧ w = wx) (fun _ v10 _ => z - (intOf v10).toNat)
      case atStart => exact ⟨0, 0, Nat.zero_le _, rfl, rfl, rfl, rfl⟩
      case round =>
        obtain ⟨k, N, hk, hN, rfl, rfl, rfl⟩ := hrel
        by_cases hlt : k < z
        · have hck : w.cell? ⟨b, off + (at_ + k), none⟩ = some (.int .u8 (bv (l.getD (at_ + k) 0))) := by exact Hcs.out (at_ + k) (by omega)
          have hb := H63'.out k hlt
          rw [← hN] at hb
          have HN := Lib.hid (show numF l at_ (k + 1) = N * 256 + (l.getD (at_ + k) 0).toNat by rw [hN]; rfl)
          generalize l.getD (at_ + k) 0 = x at hck HN
          have hx := x.toNat_lt
          have h1 : (256 : Int) * (N : Int) = ((N * 256 : Nat) : Int) := by omega
          have hat2 : (at_ : Int) + (k : Int) = ((at_ + k : Nat) : Int) := by omega
          have hatl : at_ + k < l.length := by omega
          have h2 := cv_byte (P := Tryd.prog) 5 3 (by kernel_rfl) Tryd.underlying3 x
          have h3 : ((N * 256 : Nat) : Int) + (x.toNat : Int) = ((numF l at_ (k + 1) : Nat) : Int) := by rw [HN.out]; omega
          have h4 : N * 256 ≤ 9223372036854775807 := by omega
          have h5 : numF l at_ (k + 1) ≤ 9223372036854775807 := by rw [HN.out]; omega
          have Hb := Lib.hid hb
          clear hN hb hx
          have hM := x.toNat_lt
          generalize x.toNat = M at h2 h3 hM
          obtain ⟨N', hN'⟩ : ∃ N', N' = numF l at_ (k + 1) := ⟨_, rfl⟩
          rw [← hN'] at h3 h5
          have HN' := Lib.hid hN'
          clear hN' HN
          generalize N * 256 = S at h1 h3 h4
          generalize at_ + k = P at hat2 hatl hck
          go_wp2_with fail
          exact ⟨⟨k + 1, N', by omega, HN'.out, rfl, by go_num, by trivial⟩, by first | (simp [intOf]; done) | (simp [intOf]; omega)⟩
        · obtain rfl : k = z := by omega
          have HN := Lib.hid hN
          have hat2 : (at_ : Int) + (k : Int) = ((at_ + k : Nat) : Int) := by omega
          generalize at_ + k = T at hat2 HV2
          clear hN
          go_wp2_with fail
          go_ret3
          exact ⟨by rw [HV2.out, ← HN.out]; rfl, rfl⟩
end Go.Proofs.YtiaigekmkmampaaDoor
