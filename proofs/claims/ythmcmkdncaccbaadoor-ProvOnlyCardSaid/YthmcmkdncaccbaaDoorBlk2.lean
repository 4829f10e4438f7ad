/- Blocks of the call's own, and orders of worlds. No program in sight. -/
import Derived.Test.YthmcmkdncaccbaaDoorBuf
set_option linter.unusedSimpArgs false
set_option linter.unusedVariables false
namespace Go.Proofs.YthmcmkdncaccbaaDoor
open Go.RowKit

theorem Blk.up {w w' : World} {b : Nat} {cs : List Value} (h : Blk w b cs) (hb : Below w.heap.size w w') : Blk w' b cs := h.below hb h.lt
theorem Blk.upR {w w' : World} (hb : Below w.heap.size w w') {b : Nat} {cs : List Value} (h : Blk w b cs) : Blk w' b cs := h.up hb
theorem bta {W w : World} (h : Below W.heap.size W w) (o : Obj) : Below W.heap.size W (w.alloc o) := bt h (ba w o)
theorem btd {W w : World} (h : Below W.heap.size W w) : Below W.heap.size W w.drew := bt h (bd w)
theorem btn {W w : World} (h : Below W.heap.size W w) (k : Nat) : Below W.heap.size W (w.drewN k) := h.trans ⟨rfl, rfl, rfl, Nat.le_refl _, fun _ _ => rfl⟩
theorem bt3 {W a b : World} (k : Below a.heap.size a b) (h : Below W.heap.size W a) : Below W.heap.size W b := bt h k
/-- blocks one behind the other -/
def Blks (W : World) (n : Nat) (L : List (List Value)) : Prop := ∀ i l, L[i]? = some l → Blk W (n + i) l
theorem blkN {w : World} {k : Nat} {cs : List Value} (o : Obj) (h : Blk w k cs) : Blk (w.alloc o) k cs := h.alloc o
theorem blk_at {w : World} {k : Nat} (hk : k = w.heap.size) (cs : List Value) (T : TypeId) : Blk (w.alloc (.cells cs.toArray T)) k cs := by subst hk; exact Blk.new w cs T
theorem size_alloc (w : World) (o : Obj) : (w.alloc o).heap.size = w.heap.size + 1 := by simp
theorem two_world {w W : World} {a b : List Value} {A B : TypeId} (h : (w.alloc (.cells a.toArray A)).alloc (.cells b.toArray B) = W) : Blk W w.heap.size a ∧ Blk W (w.heap.size + 1) b ∧ Below w.heap.size w W := by
  subst h
  exact ⟨(Blk.new w a A).alloc _, blk_at (size_alloc w _).symm b B, bta (ba w _) _⟩
theorem three_world {w W : World} {a b c : List Value} {A B C : TypeId} (h : ((w.alloc (.cells a.toArray A)).alloc (.cells b.toArray B)).alloc (.cells c.toArray C) = W) : Blk W w.heap.size a ∧ Blk W (w.heap.size + 1) b ∧ Blk W (w.heap.size + 1 + 1) c ∧ Below w.heap.size w W := by
  subst h
  exact ⟨((Blk.new w a A).alloc _).alloc _, (blk_at (size_alloc w _).symm b B).alloc _, blk_at (by rw [size_alloc, size_alloc]) c C, bta (bta (ba w _) _) _⟩
theorem cells3 {w : World} {b : Nat} {v0 v1 v2 : Value} (h : Blk w b [v0, v1, v2]) : w.cell? ⟨b, 0, none⟩ = some v0 ∧ w.cell? ⟨b, 1, none⟩ = some v1 ∧ w.cell? ⟨b, 2, none⟩ = some v2 :=
  ⟨h.cell 0 (by simp), h.cell 1 (by simp), h.cell 2 (by simp)⟩
end Go.Proofs.YthmcmkdncaccbaaDoor
