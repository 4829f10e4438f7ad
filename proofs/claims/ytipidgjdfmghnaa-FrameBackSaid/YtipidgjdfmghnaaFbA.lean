/- FrameBack: the plain law; an append of rows as a step of a drawn region. -/
import Derived.Test.YtipidgjdfmghnaaFrT
import Derived.Test.YtipidgjdfmghnaaFrX
set_option linter.unusedSimpArgs false
set_option linter.unusedVariables false
namespace Go.Proofs.Ytipidgjdfmghnaa
open Go.RowKit

/-- the rows that may be packed, and all that they are packed to -/
def goodR (rows : List (List UInt8)) : List (List UInt8) := rows.filter packs
def allR (rows : List (List UInt8)) : List UInt8 := ((goodR rows).map packL).flatten
theorem goodR_app (a b : List (List UInt8)) : goodR (a ++ b) = goodR a ++ goodR b := List.filter_append ..
theorem allR_app (a b : List (List UInt8)) : allR (a ++ b) = allR a ++ allR b := by simp [allR, goodR_app]
theorem back_yes (rows : List (List UInt8)) (k : Nat) (h : k < rows.length) (hp : packs (rows.getD k []) = true) : goodR (rows.take (k + 1)) = goodR (rows.take k) ++ [rows.getD k []] ∧ allR (rows.take (k + 1)) = allR (rows.take k) ++ packL (rows.getD k []) := by
  rw [take_snoc rows k h [], goodR_app, allR_app]
  generalize rows.getD k [] = r at hp
  simp [goodR, allR, hp]
theorem back_no (rows : List (List UInt8)) (k : Nat) (h : k < rows.length) (hp : packs (rows.getD k []) = false) : goodR (rows.take (k + 1)) = goodR (rows.take k) ∧ allR (rows.take (k + 1)) = allR (rows.take k) := by
  rw [take_snoc rows k h [], goodR_app, allR_app]
  generalize rows.getD k [] = r at hp
  simp [goodR, allR, hp]
theorem allR_len (rows : List (List UInt8)) : (allR rows).length ≤ 2 * totalF rows := by
  induction rows with
  | nil => simp [allR, goodR]
  | cons r t ih =>
    have e : allR (r :: t) = allR [r] ++ allR t := allR_app [r] t
    have h1 : (allR [r]).length ≤ r.length + 2 := by
      rcases hp : packs r with _ | _ <;> simp [allR, goodR, hp, packL_len]
    rw [e, List.length_append]
    simp only [totalF, List.length_cons, List.map_cons, List.sum_cons] at ih ⊢
    omega
theorem allR_take (rows : List (List UInt8)) (k : Nat) : (allR (rows.take k)).length ≤ 2 * totalF rows := by
  have e : allR rows = allR (rows.take k) ++ allR (rows.drop k) := by rw [← allR_app, List.take_append_drop]
  have := allR_len rows
  rw [e, List.length_append] at this
  omega
theorem goodR_take (rows : List (List UInt8)) (k : Nat) : (goodR (rows.take k)).length ≤ totalF rows := by
  have h1 : (goodR (rows.take k)).length ≤ (rows.take k).length := List.length_filter_le ..
  have h2 : (rows.take k).length ≤ rows.length := by rw [List.length_take]; omega
  unfold totalF; omega
theorem all_run (rows : List (List UInt8)) : R 0 0 (allR rows) = (⟨[], 0, 0⟩, goodR rows) := by
  induction rows with
  | nil => rfl
  | cons r t ih =>
    have e1 : allR (r :: t) = allR [r] ++ allR t := allR_app [r] t
    have e2 : goodR (r :: t) = goodR [r] ++ goodR t := goodR_app [r] t
    rcases hp : packs r with _ | _
    · have h1 : allR [r] = [] := by simp [allR, goodR, hp]
      have h2 : goodR [r] = [] := by simp [goodR, hp]
      rw [e1, e2, h1, h2]; exact ih
    · have h1 : allR [r] = packL r := by simp [allR, goodR, hp]
      have h2 : goodR [r] = [r] := by simp [goodR, hp]
      rw [e1, e2, h1, h2, packL_run 0 r (allR t) hp, ih]; rfl
theorem wrap_pos (n : Nat) (h : n ≤ 100000) : wrap64 ((0 : Int) + n) = n := by unfold wrap64; omega
theorem wrap_two (a b : Nat) (h : a ≤ 100000) (h2 : b ≤ 100000) : wrap64 ((a : Int) + b) = a + b := by unfold wrap64; omega
/-- in two pieces -/
theorem back_split (A : List UInt8) (G : List (List UInt8)) (hA : A.length ≤ 8000) (h : R 0 0 A = (⟨[], 0, 0⟩, G)) (k : Nat) (hk : k ≤ A.length) :
    (runF (R 0 0 (A.take k)).1 (A.drop k)).1 = ⟨[], 0, 0⟩ ∧ (R 0 0 (A.take k)).2 ++ (runF (R 0 0 (A.take k)).1 (A.drop k)).2 = G ∧ (R 0 0 (A.take k)).1.buf.length + packedF (R 0 0 (A.take k)).2 = k := by
  have hr0 : rightF ⟨[], 0, 0⟩ = true := by decide
  have e : runF ⟨[], 0, 0⟩ (A.take k ++ A.drop k) = (⟨[], 0, 0⟩, G) := by rw [List.take_append_drop]; exact h
  rw [runF_append] at e
  have e1 := congrArg Prod.fst e
  have e2 := congrArg Prod.snd e
  simp only at e1 e2
  refine ⟨e1, e2, ?_⟩
  have hr1 := run_stays hr0 (A.take k)
  obtain ⟨k1, m1, p1, a1, a2, a3, a4, a5, -⟩ := run_counts (A.take k) ⟨[], 0, 0⟩ (right_fits hr0)
  obtain ⟨k2, m2, p2, b1, b2, b3, b4, b5, -⟩ := run_counts (A.drop k) (runF ⟨[], 0, 0⟩ (A.take k)).1 (right_fits hr1)
  have hs := (right_fits hr1).1
  rw [e1] at b1
  have hl1 : (A.take k).length = k := by rw [List.length_take]; omega
  have hl2 : (A.drop k).length ≤ 8000 := by rw [List.length_drop]; omega
  have hk1 : k1 = 0 := by
    by_cases h0 : k1 = 0
    · exact h0
    · exfalso
      rw [if_neg h0] at a1
      simp only at a1
      rw [wrap_pos k1 (by omega)] at a1
      by_cases h2 : k2 = 0
      · rw [if_pos h2, a1] at b1; simp only at b1; omega
      · rw [if_neg h2, a1, wrap_two k1 k2 (by omega) (by omega)] at b1; simp only at b1; omega
  have hm := a5 hk1
  subst hk1 hm
  simp only [List.length_nil] at a3 a4
  show (runF ⟨[], 0, 0⟩ (A.take k)).1.buf.length + packedF (runF ⟨[], 0, 0⟩ (A.take k)).2 = k
  omega

/-- an append of rows onto rows of the call's own, as a step of a region that draws -/
theorem step_own {ops : Array Oper} {o : Oper} {a : Act} {w : World} {K : Act → World → Prop} {Q : Exit → Act → World → Prop} {E : Prop} (hw : Region.wanted o (yielded ops a.tmps) = true) (s x : Operand)
    (ho : o.op = .call { callee := .builtin .append, args := #[s, x], argTypes := #[35, 35] }) {B n : Nat} {v : Value} {xs : List Value} (hs : a.eval s = v) (hB : Own B w v n xs)
    {sp : Option Addr} {m c : Nat} {news : List Value} (hx : a.eval x = .slice sp m c) (hS : At w sp news) (hl : news.length = m) (h1 : ∀ u ∈ news, u.oneCell' = true) (h63 : n + m ≤ 1099511627776)
    (k : Nat) (hk : n + m = k)
    (h : ∀ a' cap' w', Own B w' (.slice a' k cap') k (xs ++ news) → w.grownBy w' v.ownBlock → K (a.put o.dst (.slice a' k cap')) w') : if Region.wanted o (yielded ops a.tmps) = true then Oper.wp Try.prog o a w K Q else E := by
  subst hk
  rw [if_pos hw]
  obtain ⟨a', cap', w', hr, ho', hg⟩ := run_app elemR hB.own (m := m) c hS (by omega) h1 (by unfold maxLen; omega) (by omega) hB.le o.type
  unfold Oper.wp execOp
  simp only [ho, resolve, List.map_toArray, List.map_cons, List.map_nil, hs, hx, invoke, builtin, Sem.run_bind, Sem.run_pure, Result.andThen_ok, hr]
  exact h _ _ _ ⟨ho', Nat.le_trans hB.le hg.size⟩ hg
theorem own_new {B : Nat} {w : World} {k : Nat} (hk : k = w.heap.size) (hB : B ≤ w.heap.size) : Own B (w.alloc (.cells #[] 22)) (.slice (some ⟨k, 0, none⟩) 0 0) 0 [] := by
  subst hk
  refine ⟨⟨rfl, .inr ⟨w.heap.size, 0, #[], rfl, hB, ?_, Nat.le_refl _, Nat.zero_le _, rfl, rfl⟩⟩, by rw [size_alloc]; omega⟩
  have := BlkT.new w [] 22
  exact this
end Go.Proofs.Ytipidgjdfmghnaa
