/- Walks of the statements of layer 14. -/
import Derived.Test.YtekidelgopciaaaRun
set_option linter.unusedSimpArgs false
set_option linter.unusedVariables false
namespace Go.Proofs.Ytekidelgopciaaa
open Go.RowKit

set_option maxHeartbeats 1000000 in
theorem shown14_any (w : World) :
    Calls Try.prog 9 #[] w fun e w' => e = .returned (.bool true) ∧ Below w.heap.size w w' := by
  have r1 : runF 0 [0, 1, 6] = (4, 3) := by decide
  have x1 : nextF 8 11 = (0, true) := by decide
  have x2 : nextF 7 0 = (7, false) := by decide
  have g6 : gateF 6 = false := by decide
  have g3 : gateF 3 = true := by decide
  have l2 : linkedF 2 = true := by decide
  have l8 : linkedF 8 = false := by decide
  have n7 : nameF 7 = ⟨#[102, 97, 105, 108, 101, 100]⟩ := by rfl
  go_enter Try.func9, Try.ntmps9
  go_wp2_with fail
  refine (run_any 0 _ _ [0, 1, 6] _ (by decide) (.inr ⟨_, _, rfl, by simp, ?_⟩)).mono ?_
  · intro i hi
    have : i = 0 ∨ i = 1 ∨ i = 2 := by simp at hi; omega
    rcases this with rfl | rfl | rfl <;> simp
  rintro e w1 ⟨rfl, hb1⟩
  go_wp2_with fail
  refine (next_any _ _ _).mono ?_
  rintro e w2 ⟨rfl, hb2⟩
  go_wp2_with fail
  refine (next_any _ _ _).mono ?_
  rintro e w3 ⟨rfl, hb3⟩
  go_wp2_with (first | (go_at_call 12; refine (gate_any _ _).mono ?_; rintro e w' ⟨rfl, rfl⟩) | (go_at_call 14; refine (linked_any _ _).mono ?_; rintro e w' ⟨rfl, rfl⟩) | (go_at_call 16; refine (name_any _ _).mono ?_; rintro e w4 ⟨rfl, hb4⟩))
  go_ret
  exact ⟨rfl, bt (bt (bt (bt (ba _ _) hb1) hb2) hb3) hb4⟩

set_option maxHeartbeats 1000000 in
theorem tells14_walk (p v : Int) (w : World) :
    Calls Try.prog 3 #[.int .i64 p, .int .i64 v] w fun e w' => e = .returned (.bool true) ∧ Below w.heap.size w w' := by
  go_enter Try.func3, Try.ntmps3
  go_wp2_with (first
    | (go_at_call 9; refine (shown14_any _).mono ?_; rintro e w1 ⟨rfl, hb1⟩)
    | (go_at_call 10; refine (next_any _ _ _).mono ?_; rintro e w2 ⟨rfl, hb2⟩)
    | (go_at_call 11; refine (refNext_any _ _ _).mono ?_; rintro e w3 ⟨rfl, hb3⟩)
    | (go_at_call 12; refine (gate_any _ _).mono ?_; rintro e w' ⟨rfl, rfl⟩)
    | (go_at_call 13; refine (refGate_any _ _).mono ?_; rintro e w' ⟨rfl, rfl⟩)
    | (go_at_call 14; refine (linked_any _ _).mono ?_; rintro e w' ⟨rfl, rfl⟩)
    | (go_at_call 15; refine (refLinked_any _ _).mono ?_; rintro e w' ⟨rfl, rfl⟩)
    | (go_at_call 16; refine (name_any _ _).mono ?_; rintro e w4 ⟨rfl, hb4⟩)
    | (go_at_call 17; refine (refName_any _ _).mono ?_; rintro e w5 ⟨rfl, hb5⟩))
  go_ret
  exact ⟨rfl, bt (bt (bt (bt hb1 hb2) hb3) hb4) hb5⟩
end Go.Proofs.Ytekidelgopciaaa
