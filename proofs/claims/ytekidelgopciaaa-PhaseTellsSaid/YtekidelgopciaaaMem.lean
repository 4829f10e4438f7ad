/- Slices whose elements are single cells: what a walk is told of them. No program in sight. -/
import Derived.WalkKit
import Derived.WalkSpells
import Derived.Lib.Hide
set_option linter.unusedSimpArgs false
set_option linter.unusedVariables false
namespace Go.Proofs.Ytekidelgopciaaa
open Go.RowKit

/-- The slice with address a holds the values cs, in world w. -/
def At (w : World) (a : Option Addr) (cs : List Value) : Prop :=
  cs = [] ∨ ∃ b off, a = some ⟨b, off, none⟩ ∧ b < w.heap.size ∧ ∀ i, i < cs.length → w.cell? ⟨b, off + i, none⟩ = some (cs.getD i undef)

theorem At.mono {w w' : World} {a : Option Addr} {cs : List Value} (h : At w a cs) (hb : Below w.heap.size w w') : At w' a cs := by
  rcases h with h | ⟨b, off, rfl, hlt, hc⟩
  · exact .inl h
  · exact .inr ⟨b, off, rfl, Nat.lt_of_lt_of_le hlt hb.size, fun i hi => by rw [hb.cell (p := ⟨b, off + i, none⟩) hlt]; exact hc i hi⟩

theorem At.take {w : World} {a : Option Addr} {cs : List Value} (h : At w a cs) (k : Nat) : At w a (cs.take k) := by
  rcases h with rfl | ⟨b, off, rfl, hlt, hc⟩
  · exact .inl (by simp)
  · refine .inr ⟨b, off, rfl, hlt, fun i hi => ?_⟩
    have h1 : i < k ∧ i < cs.length := by simpa [List.length_take, Nat.lt_min] using hi
    rw [hc i h1.2]; simp [List.getD, List.getElem?_take, h1.1]

/-- the integers l, of kind q -/
abbrev IntsAt (q : IntKind) (w : World) (a : Option Addr) (l : List Int) : Prop := At w a (l.map (Value.int q))

theorem getD_map_int (q : IntKind) (l : List Int) (i : Nat) (h : i < l.length) : (l.map (Value.int q)).getD i undef = .int q (l.getD i 0) := by
  simp [List.getD, h]

theorem IntsAt.cell {q : IntKind} {w : World} {a : Option Addr} {l : List Int} (h : IntsAt q w a l) (hl : 0 < l.length) :
    ∃ b off, a = some ⟨b, off, none⟩ ∧ b < w.heap.size ∧ ∀ i, i < l.length → w.cell? ⟨b, off + i, none⟩ = some (.int q (l.getD i 0)) := by
  rcases h with h | ⟨b, off, rfl, hlt, hc⟩
  · simp at h; subst h; simp at hl
  · exact ⟨b, off, rfl, hlt, fun i hi => by rw [hc i (by simpa using hi), getD_map_int q l i hi]⟩

theorem bcell {W w1 : World} (hb : Below W.heap.size W w1) : (∀ b o, b < W.heap.size → w1.cell? ⟨b, o, none⟩ = W.cell? ⟨b, o, none⟩) ∧ (∀ b o, b < W.heap.size → w1.frozen? ⟨b, o, none⟩ = W.frozen? ⟨b, o, none⟩) :=
  ⟨fun b o h => hb.cell (p := ⟨b, o, none⟩) h, fun b o h => hb.frozen (p := ⟨b, o, none⟩) h⟩

theorem take_snoc {α : Type} [Inhabited α] (l : List α) (k : Nat) (h : k < l.length) (d : α) : l.take (k + 1) = l.take k ++ [l.getD k d] := by
  rw [List.take_succ_eq_append_getElem h]; simp [List.getD, h]

theorem bt {a b c : World} (h : Below a.heap.size a b) (k : Below b.heap.size b c) : Below a.heap.size a c := h.trans (k.mono h.size)
theorem ba (w : World) (o : Obj) : Below w.heap.size w (w.alloc o) := (Below.refl _ _).alloc (Nat.le_refl _) _
theorem bd (w : World) : Below w.heap.size w w.drew := (Below.refl _ _).drew

end Go.Proofs.Ytekidelgopciaaa
