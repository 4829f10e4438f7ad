/- Hubs: a slice of numbers of the call's own (the connections picked so far). -/
import Derived.Test.YtcccgjpmfbmplaaHuR
set_option linter.unusedSimpArgs false
set_option linter.unusedVariables false
namespace Go.Proofs.Ytcccgjpmfbmplaa
open Go.RowKit

/-- a slice of numbers of the call's own, from block B on -/
structure OwnI (B : Nat) (w : World) (v : Value) (n : Nat) (xs : List Value) : Prop where
  own : w.ownsRow B 3 1 v n xs
  le : B ≤ w.heap.size
theorem OwnI.up {B : Nat} {w w' : World} {v : Value} {n : Nat} {xs : List Value} (h : OwnI B w v n xs) (hb : Below w.heap.size w w') : OwnI B w' v n xs := by
  obtain ⟨⟨h1, h2⟩, h3⟩ := h
  refine ⟨⟨h1, ?_⟩, Nat.le_trans h3 hb.size⟩
  rcases h2 with h2 | ⟨g, cap, cur, hv, hg, hh, r⟩
  · exact .inl h2
  · exact .inr ⟨g, cap, cur, hv, hg, by rw [hb.block g (Array.getElem?_eq_some_iff.1 hh).1]; exact hh, r⟩
theorem OwnI.set {B g j : Nat} {w : World} {v : Value} {n : Nat} {xs : List Value} (h : OwnI B w v n xs) (hg : g < B) (x : Value) : OwnI B (w.setCell ⟨g, j, none⟩ x) v n xs := by
  obtain ⟨⟨h1, h2⟩, h3⟩ := h
  refine ⟨⟨h1, ?_⟩, by simpa using h3⟩
  rcases h2 with h2 | ⟨g', cap, cur, hv, hg', hh, r⟩
  · exact .inl h2
  · exact .inr ⟨g', cap, cur, hv, hg', by rw [Below.heap_setCell _ _ _ _ (by simp only; omega)]; exact hh, r⟩
theorem OwnI.row {B g : Nat} {w : World} {v : Value} {n : Nat} {xs : List Value} (h : OwnI B w v n xs) (hg : g < B) (ds : Array Value) : OwnI B (w.setRow g ds) v n xs := by
  obtain ⟨⟨h1, h2⟩, h3⟩ := h
  refine ⟨⟨h1, ?_⟩, by simpa using h3⟩
  rcases h2 with h2 | ⟨g', cap, cur, hv, hg', hh, r⟩
  · exact .inl h2
  · exact .inr ⟨g', cap, cur, hv, hg', by rw [setRow_other w g g' ds (by omega)]; exact hh, r⟩
theorem OwnI.slice {B : Nat} {w : World} {v : Value} {n : Nat} {xs : List Value} (h : OwnI B w v n xs) : ∃ a cap, v = .slice a n cap ∧ n ≤ cap ∧ cap ≤ maxLen := own_slice h.own
theorem OwnI.at {B : Nat} {w : World} {a : Option Addr} {n cap : Nat} {xs : List Value} (h : OwnI B w (.slice a n cap) n xs) : At w a xs := own_at h.own
theorem OwnI.nil {B : Nat} {w : World} (h : B ≤ w.heap.size) : OwnI B w (.slice none 0 0) 0 [] := ⟨⟨rfl, .inl ⟨rfl, rfl⟩⟩, h⟩
theorem BlkT.grownI {T : TypeId} {B n b : Nat} {w w' : World} {v : Value} {xs cs : List Value} (h : BlkT T w b cs) (hown : OwnI B w v n xs) (hg : w.grownBy w' v.ownBlock) (hb : b < B) : BlkT T w' b cs := by
  unfold BlkT
  rw [hg.block b h.blk.lt fun hv => by have := (hown.own.lt b hv.symm).1; omega]
  exact h
theorem elemI : ElemT Try.prog 49 3 1 8 (.int .i64 0) := ElemT.mk1 Try.underlying49 (by kernel_rfl) rfl (by decide)
/-- an append onto it -/
theorem wpList_ownI {ops : Array Oper} {rest : List Oper} {o : Oper} {a : Act} {w : World} {Q : Exit → Act → World → Prop} (s x : Operand) (hgd : o.guard = Option.none)
    (ho : o.op = .call { callee := .builtin .append, args := #[s, x], argTypes := #[49, 49] }) {B n : Nat} {v : Value} {xs : List Value} (hs : a.eval s = v) (hB : OwnI B w v n xs)
    {sp : Option Addr} {m c : Nat} {news : List Value} (hx : a.eval x = .slice sp m c) (hS : At w sp news) (hl : news.length = m) (h1 : ∀ u ∈ news, u.oneCell' = true) (h63 : n + m ≤ 1099511627776)
    (k : Nat) (hk : n + m = k)
    (h : ∀ a' cap' w', OwnI B w' (.slice a' k cap') k (xs ++ news) → w.grownBy w' v.ownBlock → wpList Try.prog ops Q rest (a.put o.dst (.slice a' k cap')) w') : wpList Try.prog ops Q (o :: rest) a w := by
  subst hk
  refine wpList_plain hgd fun K hK => ?_
  obtain ⟨a', cap', w', hr, ho', hg⟩ := run_app elemI hB.own (m := m) c hS (by omega) h1 (by unfold maxLen; omega) (by omega) hB.le o.type
  unfold Oper.wp execOp
  simp only [ho, resolve, List.map_toArray, List.map_cons, List.map_nil, hs, hx, invoke, builtin, Sem.run_bind, Sem.run_pure, Result.andThen_ok, hr]
  exact hK _ _ (h a' cap' w' ⟨ho', Nat.le_trans hB.le hg.size⟩ hg)
theorem BlkT.grownI2 {T : TypeId} {B n b : Nat} {w w' : World} {v : Value} {xs cs : List Value} (h : BlkT T w b cs) (hT : T ≠ 3) (hown : OwnI B w v n xs) (hg : w.grownBy w' v.ownBlock) : BlkT T w' b cs := by
  unfold BlkT
  rw [hg.block b h.blk.lt fun hv => ?_]
  · exact h
  · rcases hown.own.2 with ⟨rfl, -⟩ | ⟨g, cap, cur, rfl, -, hg', -⟩
    · simp [Value.ownBlock] at hv
    · simp [Value.ownBlock] at hv
      subst hv
      rw [show w.heap[b]? = _ from h] at hg'
      injection hg' with hg'; injection hg' with _ k2 _; exact hT k2
theorem OwnI.row2 {B g : Nat} {w : World} {v : Value} {n : Nat} {xs : List Value} (h : OwnI B w v n xs) {T : TypeId} {cs : List Value} (hb : BlkT T w g cs) (hT : T ≠ 3) (ds : Array Value) : OwnI B (w.setRow g ds) v n xs := by
  obtain ⟨⟨h1, h2⟩, h3⟩ := h
  refine ⟨⟨h1, ?_⟩, by simpa using h3⟩
  rcases h2 with h2 | ⟨g', cap, cur, hv, hg', hh, r⟩
  · exact .inl h2
  · refine .inr ⟨g', cap, cur, hv, hg', ?_, r⟩
    rw [setRow_other w g g' ds ?_]
    · exact hh
    · rintro rfl
      rw [show w.heap[_]? = _ from hb] at hh
      injection hh with hh; injection hh with _ k2 _; exact hT k2
theorem ownI_new {B : Nat} {w : World} {k : Nat} (hk : k = w.heap.size) (hB : B ≤ w.heap.size) : OwnI B (w.alloc (.cells #[] 3)) (.slice (some ⟨k, 0, none⟩) 0 0) 0 [] := by
  subst hk
  refine ⟨⟨rfl, .inr ⟨w.heap.size, 0, #[], rfl, hB, ?_, Nat.le_refl _, Nat.zero_le _, rfl, rfl⟩⟩, by rw [size_alloc]; omega⟩
  have := BlkT.new w [] 3
  exact this
theorem below_grownI {B C n : Nat} {w0 w w' : World} {v : Value} {xs : List Value} (h : Below C w0 w) (hown : OwnI B w v n xs) (hC : C ≤ B) (hg : w.grownBy w' v.ownBlock) : Below C w0 w' := by
  refine h.grown hg (Nat.le_trans hC hown.le) ?_
  intro k hk
  have := (hown.own.lt k hk).1
  omega
/-- the number at k -/
theorem own_at_int {B n : Nat} {w : World} {a : Option Addr} {cap : Nat} {xs : List Value} (h : OwnI B w (.slice a n cap) n xs) : At w a xs := h.at
end Go.Proofs.Ytcccgjpmfbmplaa
