/- Envelopes: which are right, of the program and of the document. -/
import Derived.Test.YtkjckokejbnapaaEnvD
set_option linter.unusedSimpArgs false
set_option linter.unusedVariables false
namespace Go.Proofs.Ytkjckokejbnapaa
open Go.RowKit

abbrev envV (k d e0 e1 g s : Int) (vb vt : Value) : Value := .agg #[.int .i64 k, .int .i64 d, .int .i64 e0, .int .i64 e1, .int .i64 g, .int .i64 s, vb, vt]
def wB (x hi : Int) : Bool := decide (0 ≤ x) && decide (x ≤ hi)
abbrev lastN : Int := 4611686018427387904
def kindB (k : Int) : Bool := decide (k = 1) || decide (k = 2)
def lenB (n : Nat) : Bool := decide (1 ≤ n) && decide (n ≤ 900)
def partsB (k d e0 e1 g s : Int) (n : Nat) : Bool := kindB k && (wB e0 lastN && (wB e1 lastN && (wB s lastN && (wB d 1 && (wB g 2147483647 && lenB n)))))
def rightB (k d e0 e1 g s : Int) (n m : Nat) : Bool := partsB k d e0 e1 g s n && decide (m = 16)

set_option maxHeartbeats 400000 in
theorem within_any (n hi : Int) (w : World) :
    Calls Try.prog 35 #[.int .i64 n, .int .i64 hi] w fun e w' => e = .returned (.bool (wB n hi)) ∧ w = w' := by
  go_enter Try.func35, Try.ntmps35
  go_wp2_with fail
  all_goals
    go_ret
    exact ⟨by simp [wB, *] <;> omega, rfl⟩
set_option maxHeartbeats 400000 in
theorem number_any (n : Int) (w : World) :
    Calls Try.prog 36 #[.int .i64 n] w fun e w' => e = .returned (.bool (wB n lastN)) ∧ w = w' := by
  go_enter Try.func36, Try.ntmps36
  go_wp2_with fail
  all_goals
    go_ret
    exact ⟨by simp [wB, lastN, *] <;> omega, rfl⟩
theorem run_n0 (a b c : Value) (w : World) : (Instr.index 58 (.agg #[a, b, c]) (.int .i64 0)).run Try.prog w = .ok a w := by kernel_rfl
theorem run_n1 (a b c : Value) (w : World) : (Instr.index 58 (.agg #[a, b, c]) (.int .i64 1)).run Try.prog w = .ok b w := by kernel_rfl
theorem run_n2 (a b c : Value) (w : World) : (Instr.index 58 (.agg #[a, b, c]) (.int .i64 2)).run Try.prog w = .ok c w := by kernel_rfl

set_option maxRecDepth 100000 in
set_option maxHeartbeats 1000000 in
theorem parts_any (k d e0 e1 g s : Int) (ba_ ta : Option Addr) (n bc m tc : Nat) (hn : n ≤ maxLen) (w : World) :
    Calls Try.prog 24 #[envV k d e0 e1 g s (.slice ba_ n bc) (.slice ta m tc)] w fun e w' => e = .returned (.bool (partsB k d e0 e1 g s n)) ∧ Below w.heap.size w w' := by
  unfold maxLen at hn
  obtain ⟨V, hV⟩ : ∃ V, V = partsB k d e0 e1 g s n := ⟨_, rfl⟩
  rw [← hV]
  by_cases hk : k = 1 ∨ k = 2
  · have hkB : kindB k = true := by rcases hk with rfl | rfl <;> rfl
    have hV2 : V = (wB e0 lastN && (wB e1 lastN && (wB s lastN && (wB d 1 && (wB g 2147483647 && lenB n))))) := by rw [hV]; unfold partsB; rw [hkB]; rfl
    have HV := Lib.hid hV2
    clear hV hV2 hkB
    go_enter Try.func24, Try.ntmps24
    go_upto_region 1 with (fail)
    go_cut [12] (fun v wx => v = .bool false ∧ wx = w.alloc (.cells #[.int .i64 k, .int .i64 d, .int .i64 e0, .int .i64 e1, .int .i64 g, .int .i64 s, .slice ba_ n bc, .slice ta m tc] 25))
    case first =>
      rcases hk with rfl | rfl
      · go_wp2_with fail
        go_meet
        exact ⟨rfl, rfl⟩
      · go_wp2_with fail
        go_meet
        exact ⟨rfl, rfl⟩
    case rest =>
      obtain ⟨rfl, rfl⟩ := hcut
      clear hk
      have i0 := fun W => run_n0 (.int .i64 e0) (.int .i64 e1) (.int .i64 s) W
      have i1 := fun W => run_n1 (.int .i64 e0) (.int .i64 e1) (.int .i64 s) W
      have i2 := fun W => run_n2 (.int .i64 e0) (.int .i64 e1) (.int .i64 s) W
      go_wp2_with fail
      go_loopw [22] (fun v22 wx => ∃ j : Nat, j ≤ 3 ∧ v22 = .int .i64 j ∧ (1 ≤ j → wB e0 lastN = true) ∧ (2 ≤ j → wB e1 lastN = true) ∧ (3 ≤ j → wB s lastN = true) ∧ wx = w.alloc (.cells #[.int .i64 k, .int .i64 d, .int .i64 e0, .int .i64 e1, .int .i64 g, .int .i64 s, .slice ba_ n bc, .slice ta m tc] 25)) (fun v22 _ => 3 - (intOf v22).toNat)
      case atStart => exact ⟨0, by omega, rfl, by omega, by omega, by omega, rfl⟩
      case round =>
        obtain ⟨j, hj, rfl, h1, h2, h3, rfl⟩ := hrel
        rcases (show j = 0 ∨ j = 1 ∨ j = 2 ∨ j = 3 by omega) with rfl | rfl | rfl | rfl
        · rcases hq : wB e0 lastN with _ | _
          · go_wp2_with (first | (go_at_call 35; go_must ((refine (within_any _ _ _).mono ?_); rintro e w2 ⟨rfl, rfl⟩)))
            go_ret
            exact ⟨by rw [HV.out, hq]; rfl, ba _ _⟩
          · go_wp2_with (first | (go_at_call 35; go_must ((refine (within_any _ _ _).mono ?_); rintro e w2 ⟨rfl, rfl⟩)))
            exact ⟨⟨1, by omega, by rfl, by simp, by omega, by omega, by trivial⟩, by simp [intOf]⟩
        · rcases hq : wB e1 lastN with _ | _
          · go_wp2_with (first | (go_at_call 35; go_must ((refine (within_any _ _ _).mono ?_); rintro e w2 ⟨rfl, rfl⟩)))
            go_ret
            exact ⟨by rw [HV.out, h1 (by omega), hq]; rfl, ba _ _⟩
          · go_wp2_with (first | (go_at_call 35; go_must ((refine (within_any _ _ _).mono ?_); rintro e w2 ⟨rfl, rfl⟩)))
            exact ⟨⟨2, by omega, by rfl, by simpa using h1, by simp, by omega, by trivial⟩, by simp [intOf]⟩
        · rcases hq : wB s lastN with _ | _
          · go_wp2_with (first | (go_at_call 35; go_must ((refine (within_any _ _ _).mono ?_); rintro e w2 ⟨rfl, rfl⟩)))
            go_ret
            exact ⟨by rw [HV.out, h1 (by omega), h2 (by omega), hq]; rfl, ba _ _⟩
          · go_wp2_with (first | (go_at_call 35; go_must ((refine (within_any _ _ _).mono ?_); rintro e w2 ⟨rfl, rfl⟩)))
            exact ⟨⟨3, by omega, by rfl, by simpa using h1, by simpa using h2, by simp, by trivial⟩, by simp [intOf]⟩
        · have HV := Lib.hid (show V = (wB d 1 && (wB g 2147483647 && lenB n)) by rw [HV.out, h1 (by omega), h2 (by omega), h3 (by omega)]; rfl)
          clear h1 h2 h3 i0 i1 i2
          rcases hd : wB d 1 with _ | _
          · go_wp2_with (first | (go_at_call 35; go_must ((refine (within_any _ _ _).mono ?_); rintro e w2 ⟨rfl, rfl⟩)))
            go_ret
            exact ⟨by rw [HV.out, hd]; rfl, ba _ _⟩
          · rcases hg : wB g 2147483647 with _ | _
            · go_wp2_with (first | (go_at_call 35; go_must ((refine (within_any _ _ _).mono ?_); rintro e w2 ⟨rfl, rfl⟩)))
              go_ret
              exact ⟨by rw [HV.out, hd, hg]; rfl, ba _ _⟩
            · by_cases hl1 : 1 ≤ n
              · have hi1 : (1 : Int) ≤ (n : Int) := by omega
                go_wp2_with (first | (go_at_call 35; go_must ((refine (within_any _ _ _).mono ?_); rintro e w2 ⟨rfl, rfl⟩)))
                all_goals
                  go_ret
                  exact ⟨by rw [HV.out, hd, hg]; simp [lenB, *]; try omega, ba _ _⟩
              · have hi1 : ¬ (1 : Int) ≤ (n : Int) := by omega
                go_wp2_with (first | (go_at_call 35; go_must ((refine (within_any _ _ _).mono ?_); rintro e w2 ⟨rfl, rfl⟩)))
                all_goals
                  go_ret
                  exact ⟨by rw [HV.out, hd, hg]; simp [lenB, *]; try omega, ba _ _⟩
  · have h1 : ¬ k = 1 := fun h => hk (.inl h)
    have h2 : ¬ k = 2 := fun h => hk (.inr h)
    have HV := Lib.hid (show V = false by rw [hV]; simp [partsB, kindB, h1, h2])
    have b1 : (k != 1) = true := by simp [h1]
    have b2 : (k != 2) = true := by simp [h2]
    clear hV hk h1 h2
    go_enter Try.func24, Try.ntmps24
    go_wp2_with fail
    go_ret
    exact ⟨by rw [HV.out]; rfl, ba _ _⟩
end Go.Proofs.Ytkjckokejbnapaa
