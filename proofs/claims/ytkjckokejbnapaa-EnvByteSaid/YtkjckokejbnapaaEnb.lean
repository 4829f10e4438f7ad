/- One byte of an envelope's bytes changed: facts for the law EnvByte. -/
import Derived.Test.YtkjckokejbnapaaEnw
import Derived.Test.YtkjckokejbnapaaSet
set_option linter.unusedSimpArgs false
set_option linter.unusedVariables false
namespace Go.Proofs.Ytkjckokejbnapaa
open Go.RowKit

theorem num_set (l : List UInt8) (i : Nat) (v : UInt8) (at_ : Nat) : ∀ z, at_ + z ≤ i → numF (l.set i v) at_ z = numF l at_ z
  | 0, _ => rfl
  | z + 1, h => by
    show numF (l.set i v) at_ z * 256 + ((l.set i v).getD (at_ + z) 0).toNat = numF l at_ z * 256 + (l.getD (at_ + z) 0).toNat
    rw [num_set l i v at_ z (by omega), getD_set_other l i _ v (by omega)]
theorem good_set {l : List UInt8} (h : readGood l) (i : Nat) (v : UInt8) (hi : 30 ≤ i) : readGood (l.set i v) := by
  obtain ⟨⟨h1, h2, h3⟩, h4⟩ := h
  have key : ∀ at_, at_ < 30 → ¬ badT l at_ 8 → ¬ badT (l.set i v) at_ 8 := fun at_ ha h => by
    unfold badT at h ⊢
    rwa [getD_set_other l i _ v (by omega)]
  refine ⟨⟨key 2 (by decide) h1, key 10 (by decide) h2, key 22 (by decide) h3⟩, ?_⟩
  rw [num_set l i v 0 1 (by omega), num_set l i v 1 1 (by omega), num_set l i v 2 8 (by omega), num_set l i v 10 8 (by omega), num_set l i v 18 4 (by omega), num_set l i v 22 8 (by omega), List.length_set]
  exact h4
theorem input_read {l : List UInt8} (hg : readGood l) (h47 : 47 ≤ l.length) (a1 a2 : Option Addr) (c1 c2 : Nat) (W : World) (h1 : BytesAt W a1 (bodyR l)) :
    Calls Try.prog 11 #[envV (numF l 0 1) (numF l 1 1) (numF l 2 8) (numF l 10 8) (numF l 18 4) (numF l 22 8) (.slice a1 (bodyR l).length c1) (.slice a2 (tagR l).length c2)] W (RowOut W (l.take (l.length - 16))) := by
  have h := input_ok _ _ _ _ _ _ a1 a2 c1 (tagR l).length c2 (bodyR l) hg.may W h1
  have e := inF_read l (by omega)
  have hn : (inF (numF l 0 1) (numF l 1 1) (numF l 2 8) (numF l 10 8) (numF l 18 4) (numF l 22 8) (bodyR l)).length = l.length - 16 := by rw [inF_len, bodyR_len]; omega
  have e2 : l.take (l.length - 16) = inF (numF l 0 1) (numF l 1 1) (numF l 2 8) (numF l 10 8) (numF l 18 4) (numF l 22 8) (bodyR l) := by
    rw [← hn]
    conv => lhs; arg 2; rw [← e]
    rw [List.take_left]
  rw [e2]; exact h
theorem byte_facts (k d e0 e1 g s : Int) (a1 t1 : Option Addr) (bc tc : Nat) (bl tl : List UInt8) (hp : rightB k d e0 e1 g s bl.length tl.length = true) : ∃ XW : List UInt8,
    47 ≤ XW.length ∧ XW.length ≤ 946 ∧ tl.length = 16 ∧ tl = XW.drop (XW.length - 16) ∧ readGood XW ∧
    (∀ W, BytesAt W a1 bl → Calls Try.prog 11 #[envV k d e0 e1 g s (.slice a1 bl.length bc) (.slice t1 tl.length tc)] W (RowOut W (XW.take (XW.length - 16)))) ∧
    (∀ W, BytesAt W a1 bl → BytesAt W t1 tl → Calls Try.prog 13 #[envV k d e0 e1 g s (.slice a1 bl.length bc) (.slice t1 tl.length tc)] W (RowOut W XW)) := by
  unfold rightB at hp
  rw [Bool.and_eq_true] at hp
  obtain ⟨K, D, E0, E1, G, S, rfl, rfl, rfl, rfl, rfl, rfl, hM⟩ := parts_nat hp.1
  have h16 := of_decide_eq_true hp.2
  obtain ⟨b1, b2, b3⟩ := inF_body K D E0 E1 G S bl tl h16
  have n1 := hM.n1
  have n2 := hM.n2
  have hl := inF_len K D E0 E1 G S bl
  refine ⟨_, by rw [b3]; omega, by rw [b3]; omega, h16, b2.symm, hM.good tl h16, fun W h => ?_, fun W h h' => write_ok K D E0 E1 G S a1 t1 bc tc bl tl hM h16 W h h'⟩
  rw [b3, show bl.length + 46 - 16 = (inF K D E0 E1 G S bl).length by rw [hl]; omega, List.take_left]
  exact input_ok K D E0 E1 G S a1 t1 bc tl.length tc bl hM W h
end Go.Proofs.Ytkjckokejbnapaa
