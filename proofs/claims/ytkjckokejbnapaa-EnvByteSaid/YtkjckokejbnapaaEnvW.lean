/- What is tagged is one-to-one, in plain Lean. -/
import Derived.Test.YtkjckokejbnapaaEnvV
set_option linter.unusedSimpArgs false
set_option linter.unusedVariables false
namespace Go.Proofs.Ytkjckokejbnapaa
open Go.RowKit

theorem inF_inj {k d e0 e1 g s k2 d2 f0 f1 g2 s2 : Nat} {bl bl2 : List UInt8} (h : MayBe k d e0 e1 g s bl.length) (h2 : MayBe k2 d2 f0 f1 g2 s2 bl2.length) (he : inF k d e0 e1 g s bl = inF k2 d2 f0 f1 g2 s2 bl2) :
    k = k2 ∧ d = d2 ∧ e0 = f0 ∧ e1 = f1 ∧ g = g2 ∧ s = s2 ∧ bl = bl2 := by
  obtain ⟨q1, q2, q3, q4, q5, q6⟩ := h.nums bl [] _ rfl
  obtain ⟨r1, r2, r3, r4, r5, r6⟩ := h2.nums bl2 [] _ rfl
  rw [← he] at r1 r2 r3 r4 r5 r6
  have hb : bl = bl2 := by
    have h3 : (inF k d e0 e1 g s bl).drop 30 = bl := by unfold inF; rw [List.drop_append_of_le_length (by rw [inH_len]; exact Nat.le_refl _), List.drop_of_length_le (by rw [inH_len]; exact Nat.le_refl _), List.nil_append]
    have h4 : (inF k2 d2 f0 f1 g2 s2 bl2).drop 30 = bl2 := by unfold inF; rw [List.drop_append_of_le_length (by rw [inH_len]; exact Nat.le_refl _), List.drop_of_length_le (by rw [inH_len]; exact Nat.le_refl _), List.nil_append]
    rw [← h3, he, h4]
  exact ⟨q1.symm.trans r1, q2.symm.trans r2, q3.symm.trans r3, q4.symm.trans r4, q5.symm.trans r5, q6.symm.trans r6, hb⟩
theorem inF_beq {k d e0 e1 g s k2 d2 f0 f1 g2 s2 : Nat} {bl bl2 : List UInt8} (h : MayBe k d e0 e1 g s bl.length) (h2 : MayBe k2 d2 f0 f1 g2 s2 bl2.length) (tl : List UInt8) :
    (inF k d e0 e1 g s bl == inF k2 d2 f0 f1 g2 s2 bl2) = sameB k d e0 e1 g s bl tl k2 d2 f0 f1 g2 s2 bl2 tl := by
  rw [Bool.eq_iff_iff]
  constructor
  · intro he
    obtain ⟨rfl, rfl, rfl, rfl, rfl, rfl, rfl⟩ := inF_inj h h2 (eq_of_beq he)
    simp [sameB]
  · intro he
    simp [sameB] at he
    obtain ⟨h1, h3, h4, h5, h6, h7, rfl⟩ := he
    obtain rfl : k = k2 := by omega
    obtain rfl : d = d2 := by omega
    obtain rfl : e0 = f0 := by omega
    obtain rfl : e1 = f1 := by omega
    obtain rfl : g = g2 := by omega
    obtain rfl : s = s2 := by omega
    simp
end Go.Proofs.Ytkjckokejbnapaa
