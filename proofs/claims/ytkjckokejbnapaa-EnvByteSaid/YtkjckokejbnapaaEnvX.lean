/- What is written is read, and the other way round, in plain Lean. -/
import Derived.Test.YtkjckokejbnapaaEnvW
import Derived.Test.YtkjckokejbnapaaEnvP
set_option linter.unusedSimpArgs false
set_option linter.unusedVariables false
namespace Go.Proofs.Ytkjckokejbnapaa
open Go.RowKit

theorem not_badT {l : List UInt8} {at_ : Nat} (h : numF l at_ 8 < 9223372036854775808) : ¬ badT l at_ 8 := by
  rintro ⟨-, h2⟩
  have e := numF_div l at_ 1 7
  have e1 : numF l at_ 1 = (l.getD at_ 0).toNat := by
    show 0 * 256 + (l.getD (at_ + 0) 0).toNat = _
    rw [Nat.zero_mul, Nat.zero_add, Nat.add_zero]
  rw [e1, show (1 + 7 : Nat) = 8 from rfl] at e
  omega
theorem inF_body (k d e0 e1 g s : Nat) (bl tl : List UInt8) (ht : tl.length = 16) : bodyR (inF k d e0 e1 g s bl ++ tl) = bl ∧ tagR (inF k d e0 e1 g s bl ++ tl) = tl ∧ (inF k d e0 e1 g s bl ++ tl).length = bl.length + 46 := by
  have hl := inF_len k d e0 e1 g s bl
  have h1 : (inF k d e0 e1 g s bl ++ tl).length = bl.length + 46 := by rw [List.length_append, hl, ht]; omega
  refine ⟨?_, ?_, h1⟩
  · unfold bodyR
    rw [h1]
    unfold inF
    rw [List.append_assoc, List.drop_append_of_le_length (by rw [inH_len]; exact Nat.le_refl _), List.drop_of_length_le (by rw [inH_len]; exact Nat.le_refl _), List.nil_append, show bl.length + 46 - 46 = bl.length by omega, List.take_left]
  · unfold tagR
    rw [h1, show bl.length + 46 - 16 = (inF k d e0 e1 g s bl).length by rw [hl]; omega, List.drop_left]
theorem MayBe.good {k d e0 e1 g s : Nat} {bl : List UInt8} (h : MayBe k d e0 e1 g s bl.length) (tl : List UInt8) (ht : tl.length = 16) : readGood (inF k d e0 e1 g s bl ++ tl) := by
  obtain ⟨q1, q2, q3, q4, q5, q6⟩ := h.nums bl tl _ rfl
  have hp := h.parts
  obtain ⟨h1, h2, h3, h4, h5, h6, h7, h8, h9⟩ := h
  refine ⟨⟨not_badT (by omega), not_badT (by omega), not_badT (by omega)⟩, ?_⟩
  rw [q1, q2, q3, q4, q5, q6, (inF_body k d e0 e1 g s bl tl ht).2.2, show bl.length + 46 - 46 = bl.length by omega]
  unfold rightB
  rw [hp]
  rfl
/-- what was read is written so -/
theorem inF_read (l : List UInt8) (h : 46 ≤ l.length) : inF (numF l 0 1) (numF l 1 1) (numF l 2 8) (numF l 10 8) (numF l 18 4) (numF l 22 8) (bodyR l) ++ tagR l = l := by
  rw [inF_eq, big_numF l 0 1 (by omega), big_numF l 1 1 (by omega), big_numF l 2 8 (by omega), big_numF l 10 8 (by omega), big_numF l 18 4 (by omega), big_numF l 22 8 (by omega)]
  unfold bodyR tagR
  simp only [List.append_assoc]
  have hd : l.drop (l.length - 16) = (l.drop 30).drop (l.length - 46) := by rw [List.drop_drop]; congr 1; omega
  rw [hd, List.take_append_drop]
  have k : ∀ a b, (l.drop a).take b ++ l.drop (a + b) = l.drop a := fun a b => by rw [← List.drop_drop, List.take_append_drop]
  rw [k 22 8, k 18 4, k 10 8, k 2 8, k 1 1, k 0 1, List.drop_zero]
theorem readGood.may {l : List UInt8} (h : readGood l) : MayBe (numF l 0 1) (numF l 1 1) (numF l 2 8) (numF l 10 8) (numF l 18 4) (numF l 22 8) (bodyR l).length := by
  have hp := h.2
  unfold rightB at hp
  rw [Bool.and_eq_true] at hp
  obtain ⟨K, D, E0, E1, G, S, k1, k2, k3, k4, k5, k6, hM⟩ := parts_nat hp.1
  rw [bodyR_len]
  have e1 := Int.ofNat_inj.1 k1
  have e2 := Int.ofNat_inj.1 k2
  have e3 := Int.ofNat_inj.1 k3
  have e4 := Int.ofNat_inj.1 k4
  have e5 := Int.ofNat_inj.1 k5
  have e6 := Int.ofNat_inj.1 k6
  rw [e1, e2, e3, e4, e5, e6]
  exact hM
end Go.Proofs.Ytkjckokejbnapaa
