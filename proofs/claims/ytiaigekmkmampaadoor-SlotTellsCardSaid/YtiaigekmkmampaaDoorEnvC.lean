/- The number at a place: the program's TakeBig and the document's. -/
import Derived.Test.YtiaigekmkmampaaDoorEnvB
import Derived.Laws.BitsLemmas
import Derived.OwnWalk
set_option linter.unusedSimpArgs false
set_option linter.unusedVariables false
namespace Go.Proofs.YtiaigekmkmampaaDoor
open Go.RowKit

def numF (l : List UInt8) (at_ : Nat) : Nat → Nat
  | 0 => 0
  | k + 1 => numF l at_ k * 256 + (l.getD (at_ + k) 0).toNat
theorem numF_lt (l : List UInt8) (at_ : Nat) : ∀ k, numF l at_ k < 256 ^ k
  | 0 => by simp [numF]
  | k + 1 => by
    have h1 := numF_lt l at_ k
    have h2 := (l.getD (at_ + k) 0).toNat_lt
    show numF l at_ k * 256 + (l.getD (at_ + k) 0).toNat < 256 ^ (k + 1)
    rw [Nat.pow_succ]; omega
theorem numF_low (l : List UInt8) (at_ : Nat) (h : (l.getD at_ 0).toNat ≤ 127) : ∀ k, numF l at_ (k + 1) < 128 * 256 ^ k
  | 0 => by
    show 0 * 256 + (l.getD (at_ + 0) 0).toNat < 128 * 256 ^ 0
    rw [Nat.add_zero]; omega
  | k + 1 => by
    have h1 := numF_low l at_ h k
    have h2 := (l.getD (at_ + (k + 1)) 0).toNat_lt
    show numF l at_ (k + 1) * 256 + (l.getD (at_ + (k + 1)) 0).toNat < 128 * 256 ^ (k + 1)
    rw [Nat.pow_succ, ← Nat.mul_assoc]; omega
theorem numF_63 (l : List UInt8) (at_ z k : Nat) (hz : z ≤ 8) (h : z = 8 → (l.getD at_ 0).toNat ≤ 127) (hk : k < z) : numF l at_ k * 256 + 255 ≤ 9223372036854775807 := by
  by_cases h7 : k = 7
  · subst h7
    have := numF_low l at_ (h (by omega)) 6
    have e : 128 * 256 ^ 6 = 36028797018963968 := by decide
    rw [e] at this
    change numF l at_ 7 < _ at this
    omega
  · have h1 := numF_lt l at_ k
    have h2 : 256 ^ k ≤ 256 ^ 6 := Nat.pow_le_pow_right (by decide) (by omega)
    have e : 256 ^ 6 = 281474976710656 := by decide
    omega
theorem wrap_nat64 (m : Nat) (h : m ≤ 9223372036854775807) : IntKind.i64.wrap (m : Int) = (m : Int) := by rw [IntKind.wrap_i64]; omega
theorem or_num (t : TypeId) (n b : Nat) (hb : b < 256) (hn : n * 256 + b ≤ 9223372036854775807) : binOp .or t (.int .i64 ((n * 256 : Nat) : Int)) (.int .i64 (b : Int)) = pure (.int .i64 ((n * 256 + b : Nat) : Int)) := by
  show pure (Value.int .i64 (IntKind.i64.wrap (((BitVec.ofInt 64 ((n * 256 : Nat) : Int) ||| BitVec.ofInt 64 (b : Int)).toNat : Nat) : Int))) = _
  have e : (BitVec.ofInt 64 ((n * 256 : Nat) : Int) ||| BitVec.ofInt 64 (b : Int)).toNat = n * 256 + b := by
    rw [BitVec.ofInt_natCast, BitVec.ofInt_natCast, BitVec.toNat_or, BitVec.toNat_ofNat, BitVec.toNat_ofNat, Nat.mod_eq_of_lt (by omega), Nat.mod_eq_of_lt (by omega)]
    have := Nat.shiftLeft_add_eq_or_of_lt (i := 8) (b := b) (by omega) n
    rw [Nat.shiftLeft_eq] at this
    exact this.symm
  rw [e, wrap_nat64 _ hn]
theorem shl_num (t : TypeId) (n : Nat) (hn : n * 256 ≤ 9223372036854775807) : binOp .shl t (.int .i64 (n : Int)) (.int .u64 8) = pure (.int .i64 ((n * 256 : Nat) : Int)) := by
  show Op.shift .shl .i64 (n : Int) .u64 8 = _
  unfold Op.shift
  rw [if_neg (by omega)]
  show pure (Value.int .i64 (IntKind.i64.wrap ((n : Int) * 2 ^ (Int.toNat 8)))) = _
  rw [show (2 : Int) ^ (Int.toNat 8) = 256 by decide, show (n : Int) * 256 = ((n * 256 : Nat) : Int) by omega, wrap_nat64 _ hn]
theorem cv_byte {P : Program} (s d : TypeId) (hs : (P.underlying s).isSome = true) (hd : P.underlying d = some (.int .i64)) (x : UInt8) (w : World) : (convert s d (.int .u8 (bv x))).run P w = .ok (.int .i64 (x.toNat : Int)) w := by
  obtain ⟨d', hd'⟩ := Option.isSome_iff_exists.mp hs
  have h := x.toNat_lt
  have e : IntKind.i64.wrap (bv x) = (x.toNat : Int) := by rw [IntKind.wrap_i64]; unfold bv; omega
  simp [convert, run_underlying hd', run_underlying hd, Conv.intToInt, e]

/-- what the number at a place is -/
def TakeOut (w : World) (l : List UInt8) (at_ z : Nat) (e : Ending) (w' : World) : Prop :=
  e = .returned (.tuple (if z = 8 ∧ 127 < (l.getD at_ 0).toNat then #[.int .i64 0, .int .i64 0, .int .i64 2] else #[.int .i64 (numF l at_ z), .int .i64 ((at_ + z : Nat) : Int), .int .i64 0])) ∧ w = w'
theorem bv_nat (x : UInt8) : bv x = (x.toNat : Int) := rfl

set_option maxRecDepth 100000 in
set_option maxHeartbeats 1000000 in
theorem takeBig_any (a : Option Addr) (c : Nat) (l : List UInt8) (at_ z : Nat) (hz : 1 ≤ z) (hz8 : z ≤ 8) (hat : at_ + z ≤ l.length) (hc : l.length ≤ c) (hc63 : c ≤ maxLen) (w : World) (h : BytesAt w a l) :
    Calls Tryd.prog 27 #[.slice a l.length c, .int .i64 at_, .int .i64 z] w (TakeOut w l at_ z) := by
  unfold maxLen at hc63
  have d1 : ¬ (z : Int) < 1 := by omega
  have d2 : ¬ (8 : Int) < (z : Int) := by omega
  have d3 : ¬ (at_ : Int) < 0 := by omega
  have d4 : ¬ (l.length : Int) < (at_ : Int) := by omega
  have d5 : ¬ (l.length : Int) - (at_ : Int) < (z : Int) := by omega
  obtain ⟨b, off, rfl, hbw, hcs⟩ := bytes_cell h (by omega)
  have Hcs := Lib.hid hcs
  obtain ⟨V, hV⟩ : ∃ V : Array Value, V = (if z = 8 ∧ 127 < (l.getD at_ 0).toNat then #[.int .i64 0, .int .i64 0, .int .i64 2] else #[.int .i64 (numF l at_ z), .int .i64 ((at_ + z : Nat) : Int), .int .i64 0]) := ⟨_, rfl⟩
  have HV := Lib.hid hV
  unfold TakeOut
  rw [← hV]
  clear hV hcs
  have h0 : w.cell? ⟨b, off + at_, none⟩ = some (.int .u8 (bv (l.getD at_ 0))) := Hcs.out at_ (by omega)
  have H127 := Lib.hid (show (127 : Int) < bv (l.getD at_ 0) ↔ 127 < (l.getD at_ 0).toNat by rw [bv_nat]; omega)
  have Hget := Lib.hid (show l.getD at_ 0 = l.getD at_ 0 from rfl)
  have H63 := Lib.hid (fun k => numF_63 l at_ z k hz8)
  obtain ⟨x0, hx0⟩ : ∃ x0, x0 = l.getD at_ 0 := ⟨_, rfl⟩
  rw [← hx0] at h0 H127 HV H63
  clear Hget hx0
  by_cases hbad : z = 8 ∧ 127 < x0.toNat
  · obtain ⟨rfl, h127⟩ := hbad
    have hd : (127 : Int) < bv x0 := H127.out.2 h127
    have HV2 := Lib.hid (show V = #[.int .i64 0, .int .i64 0, .int .i64 2] by rw [HV.out, if_pos ⟨rfl, h127⟩])
    clear HV H63
    go_enter Tryd.func27, Tryd.ntmps27
    go_wp2_with fail
    go_ret3
    exact ⟨by rw [HV2.out]; rfl, rfl⟩
  · have HV2 := Lib.hid (show V = #[.int .i64 (numF l at_ z), .int .i64 ((at_ + z : Nat) : Int), .int .i64 0] by rw [HV.out, if_neg hbad])
    have H63' := Lib.hid (fun k => H63.out k (fun h8 => by rcases Nat.lt_or_ge 127 x0.toNat with h | h; exact (hbad ⟨h8, h⟩).elim; exact h))
    have Hbad := Lib.hid hbad
    clear HV H63
    go_enter Tryd.func27, Tryd.ntmps27
    go_upto_region 5 with (fail)
    go_cut [36] (fun v wx => v = .bool false ∧ w = wx)
    case first =>
      by_cases h8 : z = 8
      · subst h8
        have hd : ¬ (127 : Int) < bv x0 := fun h => Hbad.out ⟨rfl, H127.out.1 h⟩
        go_wp2_with fail
        go_meet
        exact ⟨rfl, rfl⟩
      · have hd : ¬ (z : Int) = 8 := by omega
        go_wp2_with fail
        go_meet
        exact ⟨rfl, rfl⟩
    case rest =>
      obtain ⟨rfl, rfl⟩ := hcut
      have hsl := fun W => run_adv_lh Tryd.underlying22 size_u8 W (some ⟨b, off, none⟩) l.length c (at_ : Int) ((at_ : Int) + (z : Int)) (by omega) (by omega) (by omega)
      rw [show ((at_ : Int) + (z : Int)).toNat - (at_ : Int).toNat = z by omega, Int.toNat_natCast] at hsl
      have hadv : adv (some ⟨b, off, none⟩) c at_ 1 = some ⟨b, off + at_, none⟩ := by unfold adv; rw [if_neg (by omega)]; simp [Addr.add]
      rw [hadv] at hsl
      clear hadv
      go_wp2_with fail
      go_loopw [9, 53] (fun v9 v53 wx => ∃ k N : Nat, k ≤ z ∧ N = numF l at_ k ∧ v9 = .int .i64 N ∧ v53 = .int .i64 k ∧ w = wx) (fun _ v53 _ => z - (intOf v53).toNat)
      case atStart => exact ⟨0, 0, Nat.zero_le _, rfl, rfl, rfl, rfl⟩
      case round =>
        obtain ⟨k, N, hk, hN, rfl, rfl, rfl⟩ := hrel
        by_cases hlt : k < z
        · have hck : w.cell? ⟨b, off + at_ + k, none⟩ = some (.int .u8 (bv (l.getD (at_ + k) 0))) := by rw [Nat.add_assoc]; exact Hcs.out (at_ + k) (by omega)
          have hb := H63'.out k hlt
          rw [← hN] at hb
          have HN := Lib.hid (show numF l at_ (k + 1) = N * 256 + (l.getD (at_ + k) 0).toNat by rw [hN]; rfl)
          generalize l.getD (at_ + k) 0 = x at hck HN
          have hx := x.toNat_lt
          have h1 := shl_num 3 N (by omega)
          have h2 := cv_byte (P := Tryd.prog) 5 3 (by kernel_rfl) Tryd.underlying3 x
          have h3 := or_num 3 N x.toNat hx (by omega)
          rw [← HN.out] at h3
          have Hb := Lib.hid hb
          clear hN hb hx
          generalize x.toNat = M at h2 h3
          obtain ⟨N', hN'⟩ : ∃ N', N' = numF l at_ (k + 1) := ⟨_, rfl⟩
          rw [← hN'] at h3
          have HN' := Lib.hid hN'
          clear hN' HN
          generalize N * 256 = S at h1 h3
          go_wp2_with fail
          exact ⟨⟨k + 1, N', by omega, HN'.out, rfl, by go_num, by trivial⟩, by first | (simp [intOf]; done) | (simp [intOf]; omega)⟩
        · obtain rfl : k = z := by omega
          have HN := Lib.hid hN
          have hat2 : (at_ : Int) + (k : Int) = ((at_ + k : Nat) : Int) := by omega
          generalize at_ + k = T at hat2 HV2
          clear hN hsl
          go_wp2_with fail
          go_ret3
          exact ⟨by rw [HV2.out, ← HN.out]; rfl, rfl⟩
end Go.Proofs.YtiaigekmkmampaaDoor
