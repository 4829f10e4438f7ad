/- The walk of the law EnvBack. -/
import Derived.Test.YtkjckokejbnapaaEnvZ
import Derived.Test.YtkjckokejbnapaaEnvS
set_option linter.unusedSimpArgs false
set_option linter.unusedVariables false
namespace Go.Proofs.Ytkjckokejbnapaa
open Go.RowKit

/-- what Read answers, in two cases -/
theorem read_is (a : Option Addr) (c : Nat) (l : List UInt8) (hm : l.length ≤ maxLen) (hc : l.length ≤ c) (hcm : c ≤ maxLen) :
    (∃ er : Int, er ≠ 0 ∧ (l.length < 47 → er = 3) ∧ (946 < l.length → er = 4) ∧ (47 ≤ l.length → l.length ≤ 946 → er = 2 ∧ ¬ readGood l) ∧ ∀ W, BytesAt W a l → Calls Try.prog 20 #[.slice a l.length c] W (ReadE W 0 0 0 0 0 0 [] [] er)) ∨
    (47 ≤ l.length ∧ l.length ≤ 946 ∧ readGood l ∧ ∀ W, BytesAt W a l → Calls Try.prog 20 #[.slice a l.length c] W (ReadE W (numF l 0 1) (numF l 1 1) (numF l 2 8) (numF l 10 8) (numF l 18 4) (numF l 22 8) (bodyR l) (tagR l) 0)) := by
  by_cases h1 : l.length < 47
  · exact .inl ⟨3, by decide, fun _ => rfl, fun h => by omega, fun h => by omega, fun W _ => (read_short a c l h1 W).mono fun _ _ h => h.e⟩
  by_cases h2 : 946 < l.length
  · exact .inl ⟨4, by decide, fun h => by omega, fun _ => rfl, fun h => by omega, fun W _ => (read_long a c l h2 hm W).mono fun _ _ h => h.e⟩
  by_cases h3 : readGood l
  · exact .inr ⟨by omega, by omega, h3, fun W hl => (read_mid a c l (by omega) (by omega) hc hcm W hl).mono fun _ _ h => (h.1 h3).e⟩
  · exact .inl ⟨2, by decide, fun h => by omega, fun h => by omega, fun _ _ => ⟨rfl, h3⟩, fun W hl => (read_mid a c l (by omega) (by omega) hc hcm W hl).mono fun _ _ h => (h.2 h3).e⟩
/-- what was written is read -/
theorem read_written {K D E0 E1 G S : Nat} {bl : List UInt8} (hM : MayBe K D E0 E1 G S bl.length) (tl : List UInt8) (ht : tl.length = 16) (a : Option Addr) (c : Nat) (XW : List UInt8) (hX : XW = inF K D E0 E1 G S bl ++ tl) (hc : XW.length ≤ c) (hcm : c ≤ maxLen) (W : World) (h : BytesAt W a XW) :
    Calls Try.prog 20 #[.slice a XW.length c] W (ReadE W K D E0 E1 G S bl tl 0) := by
  obtain ⟨b1, b2, b3⟩ := inF_body K D E0 E1 G S bl tl ht
  obtain ⟨q1, q2, q3, q4, q5, q6⟩ := hM.nums bl tl _ rfl
  have hg := hM.good tl ht
  have n1 := hM.n1
  have n2 := hM.n2
  subst hX
  have h := read_mid a c _ (by rw [b3]; omega) (by rw [b3]; omega) hc hcm W h
  rw [q1, q2, q3, q4, q5, q6, b1, b2] at h
  exact h.mono fun _ _ h => (h.1 hg).e
/-- what was read is written -/
theorem write_read {l : List UInt8} (hg : readGood l) (h47 : 47 ≤ l.length) (a1 a2 : Option Addr) (c1 c2 : Nat) (W : World) (h1 : BytesAt W a1 (bodyR l)) (h2 : BytesAt W a2 (tagR l)) :
    Calls Try.prog 13 #[envV (numF l 0 1) (numF l 1 1) (numF l 2 8) (numF l 10 8) (numF l 18 4) (numF l 22 8) (.slice a1 (bodyR l).length c1) (.slice a2 (tagR l).length c2)] W (RowE W l 0) := by
  have h := write_ok _ _ _ _ _ _ a1 a2 c1 c2 (bodyR l) (tagR l) hg.may (tagR_len l (by omega)) W h1 h2
  rw [inF_read l (by omega)] at h
  exact h.mono fun _ _ h => h.e
theorem right_read {l : List UInt8} (hg : readGood l) (h47 : 47 ≤ l.length) : rightB (numF l 0 1) (numF l 1 1) (numF l 2 8) (numF l 10 8) (numF l 18 4) (numF l 22 8) (bodyR l).length (tagR l).length = true := by
  rw [bodyR_len, tagR_len l (by omega)]; exact hg.2
theorem write_two (k d e0 e1 g s : Int) (b_ t_ : Option Addr) (bc tc : Nat) (bl tl : List UInt8) (hb : bl.length ≤ maxLen) (ht : tl.length ≤ maxLen) :
    (rightB k d e0 e1 g s bl.length tl.length = false ∧ ∀ W, Calls Try.prog 13 #[envV k d e0 e1 g s (.slice b_ bl.length bc) (.slice t_ tl.length tc)] W (NoOut W)) ∨
    (∃ XW : List UInt8, rightB k d e0 e1 g s bl.length tl.length = true ∧ XW.length = bl.length + 46 ∧ (1 ≤ bl.length ∧ bl.length ≤ 900) ∧ tl.length = 16 ∧ (∀ W, BytesAt W b_ bl → BytesAt W t_ tl → Calls Try.prog 13 #[envV k d e0 e1 g s (.slice b_ bl.length bc) (.slice t_ tl.length tc)] W (RowOut W XW)) ∧
      ∀ a c W, XW.length ≤ c → c ≤ maxLen → BytesAt W a XW → Calls Try.prog 20 #[.slice a XW.length c] W (ReadE W k d e0 e1 g s bl tl 0)) := by
  rcases hp : rightB k d e0 e1 g s bl.length tl.length with _ | _
  · exact .inl ⟨rfl, fun W => write_bad k d e0 e1 g s b_ t_ bl.length bc tl.length tc hb ht hp W⟩
  · unfold rightB at hp
    rw [Bool.and_eq_true] at hp
    obtain ⟨K, D, E0, E1, G, S, rfl, rfl, rfl, rfl, rfl, rfl, hM⟩ := parts_nat hp.1
    have h16 := of_decide_eq_true hp.2
    exact .inr ⟨_, rfl, (inF_body K D E0 E1 G S bl tl h16).2.2, ⟨hM.n1, hM.n2⟩, h16, fun W h h' => write_ok K D E0 E1 G S b_ t_ bc tc bl tl hM h16 W h h', fun a c W h1 h2 h => read_written hM tl h16 a c _ rfl h1 h2 W h⟩
end Go.Proofs.Ytkjckokejbnapaa
