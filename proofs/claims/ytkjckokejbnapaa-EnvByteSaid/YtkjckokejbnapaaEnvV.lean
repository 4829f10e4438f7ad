/- The numbers of what is written, in plain Lean. -/
import Derived.Test.YtkjckokejbnapaaEnvT
import Derived.Test.YtkjckokejbnapaaEnvL
set_option linter.unusedSimpArgs false
set_option linter.unusedVariables false
namespace Go.Proofs.Ytkjckokejbnapaa
open Go.RowKit

theorem inF_eq (k d e0 e1 g s : Nat) (bl : List UInt8) : inF k d e0 e1 g s bl = bigF k 1 ++ (bigF d 1 ++ (bigF e0 8 ++ (bigF e1 8 ++ (bigF g 4 ++ (bigF s 8 ++ bl))))) := by
  show ((((((([] ++ bigF k 1) ++ bigF d 1) ++ bigF e0 8) ++ bigF e1 8) ++ bigF g 4) ++ bigF s 8) ++ bl) = _
  simp only [List.nil_append, List.append_assoc]
theorem numF_at (X Y l : List UInt8) (n z at_ : Nat) (hX : X.length = at_) (hl : l = X ++ bigF n z ++ Y) (hn : n < 256 ^ z) : numF l at_ z = n := by
  subst hX; subst hl; exact numF_big X Y n z hn
theorem MayBe.nums {k d e0 e1 g s n : Nat} (h : MayBe k d e0 e1 g s n) (bl tl : List UInt8) : ∀ l, l = inF k d e0 e1 g s bl ++ tl →
    numF l 0 1 = k ∧ numF l 1 1 = d ∧ numF l 2 8 = e0 ∧ numF l 10 8 = e1 ∧ numF l 18 4 = g ∧ numF l 22 8 = s := by
  intro l hl
  rw [inF_eq] at hl
  obtain ⟨h1, h2, h3, h4, h5, h6, h7, h8, h9⟩ := h
  refine ⟨?_, ?_, ?_, ?_, ?_, ?_⟩
  · exact numF_at [] _ l k 1 0 rfl (by rw [hl]; simp only [List.nil_append, List.append_assoc]; rfl) (by omega)
  · exact numF_at (bigF k 1) _ l d 1 1 (bigF_len _ _) (by rw [hl]; simp only [List.append_assoc]; rfl) (by omega)
  · exact numF_at (bigF k 1 ++ bigF d 1) _ l e0 8 2 (by simp [bigF_len]) (by rw [hl]; simp only [List.append_assoc]; rfl) (by omega)
  · exact numF_at (bigF k 1 ++ (bigF d 1 ++ bigF e0 8)) _ l e1 8 10 (by simp [bigF_len]) (by rw [hl]; simp only [List.append_assoc]; rfl) (by omega)
  · exact numF_at (bigF k 1 ++ (bigF d 1 ++ (bigF e0 8 ++ bigF e1 8))) _ l g 4 18 (by simp [bigF_len]) (by rw [hl]; simp only [List.append_assoc]; rfl) (by omega)
  · exact numF_at (bigF k 1 ++ (bigF d 1 ++ (bigF e0 8 ++ (bigF e1 8 ++ bigF g 4)))) _ l s 8 22 (by simp [bigF_len]) (by rw [hl]; simp only [List.append_assoc]; rfl) (by omega)
end Go.Proofs.Ytkjckokejbnapaa
