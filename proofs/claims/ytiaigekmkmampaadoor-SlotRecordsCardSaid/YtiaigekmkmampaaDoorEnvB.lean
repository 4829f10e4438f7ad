/- A number as bytes: the document's Big. -/
import Derived.Test.YtiaigekmkmampaaDoorEnvA
set_option linter.unusedSimpArgs false
set_option linter.unusedVariables false
namespace Go.Proofs.YtiaigekmkmampaaDoor
open Go.RowKit

set_option maxRecDepth 100000 in
set_option maxHeartbeats 400000 in
theorem power_any (z : Nat) (hz : z ≤ 7) (w : World) :
    Calls Tryd.prog 38 #[.int .i64 256, .int .i64 z] w fun e w' => e = .returned (.int .i64 ((256 ^ z : Nat) : Int)) ∧ w = w' := by
  go_enter Tryd.func38, Tryd.ntmps38
  go_wp2_with fail
  go_loopw [5, 6] (fun v5 v6 wx => ∃ k p : Nat, k ≤ z ∧ p = 256 ^ k ∧ v5 = .int .i64 p ∧ v6 = .int .i64 k ∧ w = wx) (fun _ v6 _ => z - (intOf v6).toNat)
  case atStart => exact ⟨0, 1, Nat.zero_le _, rfl, rfl, rfl, rfl⟩
  case round =>
    obtain ⟨k, p, hk, hp, rfl, rfl, rfl⟩ := hrel
    by_cases hlt : k < z
    · have hp6 : p ≤ 281474976710656 := by rw [hp]; exact Nat.le_trans (Nat.pow_le_pow_right (by decide) (by omega : k ≤ 6)) (by decide)
      have Hp := Lib.hid hp
      clear hp
      go_wp2_with fail
      exact ⟨⟨k + 1, p * 256, by omega, by rw [Hp.out, Nat.pow_succ], by go_num, by go_num, by trivial⟩, by simp [intOf]; omega⟩
    · obtain rfl : k = z := by omega
      have Hp := Lib.hid hp
      clear hp
      go_wp2_with fail
      go_ret
      exact ⟨by rw [Hp.out]; rfl, rfl⟩

set_option maxRecDepth 100000 in
set_option maxHeartbeats 1000000 in
theorem refBig_any (n z : Nat) (hz : 1 ≤ z) (hz8 : z ≤ 8) (hn : n < 256 ^ z) (hn63 : n ≤ 9223372036854775807) (w : World) :
    Calls Tryd.prog 26 #[.int .i64 n, .int .i64 z] w (BigOut w n z) := by
  obtain ⟨Z, hZ⟩ : ∃ Z, Z = List.replicate z (.int .u8 0 : Value) := ⟨_, rfl⟩
  have hmk : ∀ w, (Instr.makeSlice 22 (.int .i64 z) (.int .i64 z)).run Tryd.prog w = .ok (.slice (some ⟨w.heap.size, 0, none⟩) z z) (w.alloc (.cells Z.toArray 5)) := fun w => by
    rw [hZ]; exact run_mk elemB w .i64 .i64 z (by omega) (by unfold maxLen; omega) rfl
  have HZ := Lib.hid (show Z = B8s (bigC n z 0) by rw [hZ, bigC_zero])
  have d1 : ¬ (z : Int) < 1 := by omega
  have d2 : ¬ (8 : Int) < (z : Int) := by omega
  have d3 : ¬ (n : Int) < 0 := by omega
  have HP := Lib.hid (fun (h : z ≤ 7) => power_any z h)
  obtain ⟨p, hp⟩ : ∃ p, p = 256 ^ z := ⟨_, rfl⟩
  rw [← hp] at HP hn
  have Hn := Lib.hid hn
  clear hZ hn hp
  go_enter Tryd.func26, Tryd.ntmps26
  go_upto_region 3 with (fail)
  go_cut [25] (fun v wx => v = .bool false ∧ w = wx)
  case first =>
    by_cases h8 : z < 8
    · have hd : (z : Int) < 8 := by omega
      go_wp2_with (first | (go_at_call 38; go_must ((refine (HP.out (by omega) _).mono ?_); rintro e w2 ⟨rfl, rfl⟩; have hd4 : ¬ p ≤ n := (by have := Hn.out; omega))))
      go_meet
      exact ⟨rfl, rfl⟩
    · have hd : ¬ (z : Int) < 8 := by omega
      go_wp2_with fail
      go_meet
      exact ⟨rfl, rfl⟩
  case rest =>
    obtain ⟨rfl, rfl⟩ := hcut
    go_wp2_with fail
    generalize hW : World.alloc w _ = W
    have hB0 : BlkT 5 W w.heap.size (B8s (bigC n z 0)) ∧ Below w.heap.size w W := by rw [← hW, ← HZ.out]; exact ⟨BlkT.new w Z _, ba w _⟩
    clear hW HZ hmk HP Hn
    go_loopw [0, 7] (fun v0 v7 wx => ∃ (k N : Nat) (x : Int), k ≤ z ∧ N = n / 256 ^ k ∧ x = (z : Int) - 1 - k ∧ v0 = .int .i64 N ∧ v7 = .int .i64 x ∧ BlkT 5 wx w.heap.size (B8s (bigC n z k)) ∧ Below w.heap.size w wx) (fun _ v7 _ => (intOf v7 + 1).toNat)
    case atStart => exact ⟨0, n, (z : Int) - 1, Nat.zero_le _, by simp, by omega, rfl, by first | rfl | go_num, hB0.1, hB0.2⟩
    case round =>
      clear hB0
      obtain ⟨k, N, x, hk, hN, hx, rfl, rfl, hB, hb⟩ := hrel
      have HB := Lib.hid hB
      have Hb := Lib.hid hb
      clear hB hb
      have HN := Lib.hid hN
      have hN63 : N ≤ 9223372036854775807 := by rw [hN]; exact Nat.le_trans (Nat.div_le_self _ _) hn63
      clear hN
      by_cases hlt : k < z
      · obtain ⟨P, hP⟩ : ∃ P, P + 1 + k = z := ⟨z - 1 - k, by omega⟩
        obtain rfl : x = (P : Int) := by omega
        have hr : Int.tmod (N : Int) 256 = ((N % 256 : Nat) : Int) := by rw [Int.tmod_eq_emod_of_nonneg (by omega)]; simp
        have hq : Int.tdiv (N : Int) 256 = ((N / 256 : Nat) : Int) := by rw [Int.tdiv_eq_ediv_of_nonneg (by omega)]; simp
        have hw := wrap8 ((N % 256 : Nat) : Int)
        have Hset := Lib.hid (bigC_set n z k P hlt hP _ (low_rem n k N HN.out))
        have HN2 := Lib.hid (show N / 256 = n / 256 ^ (k + 1) by rw [HN.out, digit_next])
        have hcell := HB.out.blk.cell P (by rw [List.length_map, bigC_len]; omega)
        have hfr := HB.out.blk.frozen
        generalize lowByte ((N % 256 : Nat) : Int) = y at hw Hset
        have hm : N % 256 ≤ 255 := by omega
        have hdv : N / 256 ≤ 9223372036854775807 := by omega
        generalize N % 256 = R at hr hw hm
        generalize N / 256 = M at hq HN2 hdv
        have Hx := Lib.hid hx
        clear hx
        go_wp2_with fail
        refine ⟨⟨k + 1, M, (P : Int) - 1, by omega, HN2.out, by omega, by first | rfl | go_num, by first | rfl | go_num, ?_, ?_⟩, by first | (simp [intOf]; done) | (simp [intOf]; omega)⟩
        · rw [← Hset.out]; exact HB.out.set P _
        · exact Hb.out.setCell (Nat.le_refl _) _
      · obtain rfl : k = z := by omega
        have hd : ¬ (0 : Int) ≤ x := by omega
        have Hx := Lib.hid hx
        clear hx
        go_wp2_with fail
        go_ret2
        exact ⟨rfl, HB.out, Hb.out⟩
end Go.Proofs.YtiaigekmkmampaaDoor
