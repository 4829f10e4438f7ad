/- The walk of PhaseRuns. -/
import Derived.Test.YtekidelgopciaaaPhaseLaws
import Derived.Test.YtekidelgopciaaaIn
set_option linter.unusedSimpArgs false
set_option linter.unusedVariables false
namespace Go.Proofs.Ytekidelgopciaaa
open Go.RowKit

theorem size_int (w : World) : (sizeOf 3).run Try.prog w = .ok 1 w := by kernel_rfl
theorem bounds_u8 {n : Int} (h : (Lit.int .u8 n).wf = true) : 0 ≤ n ∧ n ≤ 255 := by
  simp [Lit.wf, IntKind.min, IntKind.max, IntKind.bits, IntKind.signed] at h; omega

theorem run_at (p : Int) (a : Option Addr) (len cap : Nat) (l : List Int) (w : World) (he : len = l.length) (hm : l.length ≤ maxLen) (hl : IntsAt .i64 w a l) :
    Calls Try.prog 18 #[.int .i64 p, .slice a len cap] w fun e w' => e = .returned (.tuple #[.int .i64 (runF p l).1, .int .i64 (runF p l).2]) ∧ Below w.heap.size w w' := by
  subst he; exact run_any p a cap l w hm hl

set_option maxHeartbeats 1000000 in
theorem runs14_walk (p : Int) (w : World) (a : Option Addr) (cap : Nat) (l : List Int) (hl : InInts .i64 w a cap l) (cut : Int) (hc : (Lit.int .u8 cut).wf = true) :
    Calls Try.prog 4 #[.int .i64 p, .slice a l.length cap, .int .u8 cut] w fun e w' => e = .returned (.bool true) ∧ Below w.heap.size w w' := by
  obtain ⟨hlc, hcm, hat, hwf⟩ := hl
  have hlm : l.length ≤ maxLen := Nat.le_trans hlc hcm
  have Hat := Lib.hid hat
  have Hlm := Lib.hid hlm
  clear hat hwf hlm
  unfold maxLen at hcm
  obtain ⟨hc0, hc1⟩ := bounds_u8 hc
  clear hc
  by_cases h60 : 60 < l.length
  · go_enter Try.func4, Try.ntmps4
    go_wp2_with fail
    refine (shown14_any _).mono ?_; rintro e w1 ⟨rfl, hb1⟩
    go_wp2_with fail
    go_ret
    exact ⟨rfl, hb1⟩
  · obtain ⟨k, hk⟩ : ∃ k : Nat, cut % (↑l.length + 1) = (k : Int) := ⟨(cut % (↑l.length + 1)).toNat, by rw [Int.toNat_of_nonneg]; exact Int.emod_nonneg _ (by omega)⟩
    have hkl : k ≤ l.length := by have := Int.emod_lt_of_pos cut (show (0 : Int) < ↑l.length + 1 by omega); omega
    have hsh := @run_adv_h Try.prog 28 3 1 Try.underlying28 size_int
    have hsl := @run_adv_l Try.prog 28 3 1 Try.underlying28 size_int
    go_enter Try.func4, Try.ntmps4
    go_wp2_with fail
    refine (shown14_any _).mono ?_; rintro e w1 ⟨rfl, hb1⟩
    go_wp2_with fail
    refine (run_any _ _ _ _ _ Hlm.out (At.mono Hat.out hb1)).mono ?_; rintro e w2 ⟨rfl, hb2⟩
    go_wp2_with fail
    refine (refRun_any _ _ _ _ _ Hlm.out (At.mono Hat.out (bt hb1 hb2))).mono ?_; rintro e w3 ⟨rfl, hb3⟩
    go_wp2_with fail
    have Ht : Hid (IntsAt .i64 w a (l.take k)) := by
      have := At.take Hat.out k; rw [← List.map_take] at this; exact this
    have Hd : Hid (IntsAt .i64 w (adv a cap k 1) (l.drop k)) := by
      have := At.adv Hat.out (cap := cap) (l := k) (n := 1) (len := l.length) (by simp) hlc
      rw [Nat.mul_one, ← List.map_drop] at this; exact this
    have Hb3 := Lib.hid (bt (bt hb1 hb2) hb3)
    have Hc := Lib.hid (runF_cut p l k)
    refine (run_at _ _ _ _ (l.take k) _ (by rw [List.length_take]; omega) (Nat.le_trans (List.length_take_le _ _) (by have := Hlm.out; omega)) (At.mono Ht.out Hb3.out)).mono ?_; rintro e w4 ⟨rfl, hb4⟩
    go_wp2_with fail
    have hy2 : (runF p (l.take k)).2 ≤ 60 := by have := runF_le p (l.take k); have := List.length_take_le k l; omega
    have hz2 : (runF (runF p (l.take k)).1 (l.drop k)).2 ≤ 60 := by have := runF_le (runF p (l.take k)).1 (l.drop k); rw [List.length_drop] at this; omega
    refine (run_at _ _ _ _ (l.drop k) _ (by rw [List.length_drop]) (by rw [List.length_drop]; have := Hlm.out; omega) (At.mono Hd.out (bt Hb3.out hb4))).mono ?_; rintro e w5 ⟨rfl, hb5⟩
    have Hb5 := Lib.hid (bt (bt Hb3.out hb4) hb5)
    clear Ht Hd Hat hlc hkl hk Hlm Hb3 hb1 hb2 hb3 hb4 hb5
    generalize runF (runF p (l.take k)).1 (l.drop k) = Z at Hc hz2 ⊢
    generalize runF p (l.take k) = Y at Hc hy2 ⊢
    generalize runF p l = X at Hc ⊢
    obtain rfl := Hc.out
    clear Hc
    go_wp2_with fail
    go_ret
    exact ⟨rfl, Hb5.out⟩
end Go.Proofs.Ytekidelgopciaaa
