/- One byte of bytes of the call's own written anew. -/
import Derived.Test.YthmcmkdncaccbaaDoorBase
import Derived.Test.YthmcmkdncaccbaaDoorBlk2
import Derived.Test.YthmcmkdncaccbaaDoorMacD
set_option linter.unusedSimpArgs false
set_option linter.unusedVariables false
namespace Go.Proofs.YthmcmkdncaccbaaDoor
open Go.RowKit

@[go_sem high] theorem xorB8 (t : TypeId) (a b : UInt8) : binOp .xor t (.int .u8 (bv a)) (.int .u8 (bv b)) = pure (.int .u8 (bv (a ^^^ b))) := by
  show pure (Value.int .u8 (IntKind.u8.wrap (BitVec.ofInt 8 (bv a) ^^^ BitVec.ofInt 8 (bv b)).toNat)) = _
  rw [ofInt_bv, ofInt_bv, wrap_nat8 _ (BitVec.isLt _)]; rfl
theorem ownSet {w0 w : World} {a : Option Addr} {n c : Nat} {l : List UInt8} (h : OwnR w0 w (.slice a n c) l) (I : Nat) (hI : I < l.length) :
    ∃ g, a = some ⟨g, 0, none⟩ ∧ w0.heap.size ≤ g ∧ w.cell? ⟨g, I, none⟩ = some (.int .u8 (bv (l.getD I 0))) ∧ w.frozen? ⟨g, I, none⟩ = false ∧ ∀ y, BytesAt (w.setCell ⟨g, I, none⟩ (.int .u8 (bv y))) (some ⟨g, 0, none⟩) (l.set I y) := by
  rcases h.own.2 with ⟨h1, h2⟩ | ⟨g, cap, cur, hv, hg, hh, h3, h4, h5, h6⟩
  · have h0 : l = [] := by simpa using h2
    rw [h0] at hI; simp at hI
  · cases hv
    have hB : Blk w g cur.toList := ⟨_, by rw [hh]⟩
    have h6' : cur.toList.take l.length = B8s l := by simpa using h6
    have hlen : l.length ≤ cur.toList.length := by
      have := congrArg List.length h6'
      simp only [List.length_take, List.length_map] at this; omega
    have hget : ∀ i, i < l.length → cur.toList.getD i undef = .int .u8 (bv (l.getD i 0)) := fun i hi => by
      rw [← getD_B8 l i hi, ← h6']
      simp [List.getD, List.getElem?_take, hi]
    refine ⟨g, rfl, hg, by rw [hB.cell I (by omega), hget I hI], hB.frozen I, fun y => ?_⟩
    have hB2 := hB.set I (.int .u8 (bv y))
    refine .inr ⟨g, 0, rfl, hB2.lt, fun i hi => ?_⟩
    have hi' : i < l.length := by simpa using hi
    rw [Nat.zero_add, hB2.cell i (by simp; simp at hlen; omega), getD_B8 _ i (by simpa using hi')]
    by_cases hiI : i = I
    · subst hiI
      have e1 : (cur.toList.set i (Value.int .u8 (bv y))).getD i undef = .int .u8 (bv y) := by
        rw [List.getD, List.getElem?_set_self (by omega)]; rfl
      have e2 : (l.set i y).getD i 0 = y := by rw [List.getD, List.getElem?_set_self hi']; rfl
      rw [e1, e2]
    · have h7 := hget i hi'
      have e1 : (cur.toList.set I (Value.int .u8 (bv y))).getD i undef = cur.toList.getD i undef := by
        rw [List.getD, List.getD, List.getElem?_set_ne (Ne.symm hiI)]
      have e2 : (l.set I y).getD i 0 = l.getD i 0 := by rw [List.getD, List.getD, List.getElem?_set_ne (Ne.symm hiI)]
      rw [e1, e2, h7]
theorem xorSelf (x y : UInt8) : (x = x ^^^ y) ↔ y = 0 := by
  constructor
  · intro h
    have h1 : x ^^^ x = x ^^^ (x ^^^ y) := by rw [← h]
    rw [UInt8.xor_self, ← UInt8.xor_assoc, UInt8.xor_self, UInt8.zero_xor] at h1
    exact h1.symm
  · rintro rfl; simp
theorem getD_set_other (l : List UInt8) (i j : Nat) (v : UInt8) (h : i ≠ j) : (l.set i v).getD j 0 = l.getD j 0 := by
  rw [List.getD, List.getD, List.getElem?_set_ne h]
theorem cut_same (l : List UInt8) (i n : Nat) (v : UInt8) (hi : i < l.length) (hn : n ≤ l.length) (hv : l.getD i 0 ≠ v) :
    (l.take n == (l.set i v).take n) = decide (n ≤ i) ∧ ((l.set i v).drop n == l.drop n) = decide (i < n) := by
  by_cases h : i < n
  · rw [decide_eq_false (by omega), decide_eq_true h]
    constructor
    · rw [beq_eq_false_iff_ne]
      intro he
      have h1 := congrArg (fun k => k[i]?) he
      simp only [List.getElem?_take, if_pos h, List.getElem?_set_self hi] at h1
      exact hv (by rw [List.getD, h1]; rfl)
    · rw [beq_iff_eq]
      apply List.ext_getElem?
      intro j
      rw [List.getElem?_drop, List.getElem?_drop, List.getElem?_set_ne (by omega)]
  · rw [decide_eq_true (by omega), decide_eq_false h]
    constructor
    · rw [beq_iff_eq]
      apply List.ext_getElem?
      intro j
      rw [List.getElem?_take, List.getElem?_take]
      by_cases hj : j < n
      · rw [if_pos hj, if_pos hj, List.getElem?_set_ne (by omega)]
      · rw [if_neg hj, if_neg hj]
    · rw [beq_eq_false_iff_ne]
      intro he
      have h1 := congrArg (fun k => k[i - n]?) he
      simp only [List.getElem?_drop] at h1
      rw [show n + (i - n) = i by omega, List.getElem?_set_self hi] at h1
      exact hv (by rw [List.getD, ← h1]; rfl)
end Go.Proofs.YthmcmkdncaccbaaDoor
