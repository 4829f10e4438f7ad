/- Slices whose elements are single cells: what a walk is told of them. No program in sight. -/
import Derived.WalkKit
import Derived.WalkSpells
import Derived.Lib.Hide
set_option linter.unusedSimpArgs false
set_option linter.unusedVariables false
namespace Go.Proofs.Ytekidelgopciaaa
open Go.RowKit

/-- The slice with address a holds the values cs, in world w. -/
def At (w : World) (a : Option Addr) (cs : List Value) : Prop :=
  cs = [] ∨ ∃ b off, a = some ⟨b, off, none⟩ ∧ b < w.heap.size ∧ ∀ i, i < cs.length → w.cell? ⟨b, off + i, none⟩ = some (cs.getD i undef)

theorem At.mono {w w' : World} {a : Option Addr} {cs : List Value} (h : At w a cs) (hb : Below w.heap.size w w') : At w' a cs := by
  rcases h with h | ⟨b, off, rfl, hlt, hc⟩
  · exact .inl h
  · exact .inr ⟨b, off, rfl, Nat.lt_of_lt_of_le hlt hb.size, fun i hi => by rw [hb.cell (p := ⟨b, off + i, none⟩) hlt]; exact hc i hi⟩

theorem At.take {w : World} {a : Option Addr} {cs : List Value} (h : At w a cs) (k : Nat) : At w a (cs.take k) := by
  rcases h with rfl | ⟨b, off, rfl, hlt, hc⟩
  · exact .inl (by simp)
  · refine .inr ⟨b, off, rfl, hlt, fun i hi => ?_⟩
    have h1 : i < k ∧ i < cs.length := by simpa [List.length_take, Nat.lt_min] using hi
    rw [hc i h1.2]; simp [List.getD, List.getElem?_take, h1.1]

/-- the integers l, of kind q -/
abbrev IntsAt (q : IntKind) (w : World) (a : Option Addr) (l : List Int) : Prop := At w a (l.map (Value.int q))

theorem getD_map_int (q : IntKind) (l : List Int) (i : Nat) (h : i < l.length) : (l.map (Value.int q)).getD i undef = .int q (l.getD i 0) := by
  simp [List.getD, h]

theorem IntsAt.cell {q : IntKind} {w : World} {a : Option Addr} {l : List Int} (h : IntsAt q w a l) (hl : 0 < l.length) :
    ∃ b off, a = some ⟨b, off, none⟩ ∧ b < w.heap.size ∧ ∀ i, i < l.length → w.cell? ⟨b, off + i, none⟩ = some (.int q (l.getD i 0)) := by
  rcases h with h | ⟨b, off, rfl, hlt, hc⟩
  · simp at h; subst h; simp at hl
  · exact ⟨b, off, rfl, hlt, fun i hi => by rw [hc i (by simpa using hi), getD_map_int q l i hi]⟩

theorem bcell {W w1 : World} (hb : Below W.heap.size W w1) : (∀ b o, b < W.heap.size → w1.cell? ⟨b, o, none⟩ = W.cell? ⟨b, o, none⟩) ∧ (∀ b o, b < W.heap.size → w1.frozen? ⟨b, o, none⟩ = W.frozen? ⟨b, o, none⟩) :=
  ⟨fun b o h => hb.cell (p := ⟨b, o, none⟩) h, fun b o h => hb.frozen (p := ⟨b, o, none⟩) h⟩

theorem take_snoc {α : Type} [Inhabited α] (l : List α) (k : Nat) (h : k < l.length) (d : α) : l.take (k + 1) = l.take k ++ [l.getD k d] := by
  rw [List.take_succ_eq_append_getElem h]; simp [List.getD, h]

theorem bt {a b c : World} (h : Below a.heap.size a b) (k : Below b.heap.size b c) : Below a.heap.size a c := h.trans (k.mono h.size)
theorem ba (w : World) (o : Obj) : Below w.heap.size w (w.alloc o) := (Below.refl _ _).alloc (Nat.le_refl _) _
theorem bd (w : World) : Below w.heap.size w w.drew := (Below.refl _ _).drew

/-- the address of s[l:], where an element takes n cells -/
def adv (a : Option Addr) (cap l n : Nat) : Option Addr := if cap = l then a else a.map (·.add (l * n))

theorem At.adv {w : World} {a : Option Addr} {cs : List Value} (h : At w a cs) {cap l n len : Nat} (hl : cs.length = len * n) (hc : len ≤ cap) : At w (adv a cap l n) (cs.drop (l * n)) := by
  by_cases hd : cs.drop (l * n) = []
  · exact .inl hd
  · have hlt : l * n < cs.length := by
      rcases Nat.lt_or_ge (l * n) cs.length with h | h
      · exact h
      · exact (hd (List.drop_of_length_le h)).elim
    rcases h with rfl | ⟨b, off, rfl, hb, hcell⟩
    · simp at hd
    · have hll : l < len := by rw [hl] at hlt; exact Nat.lt_of_mul_lt_mul_right hlt
      refine .inr ⟨b, off + l * n, ?_, hb, fun i hi => ?_⟩
      · unfold Proofs.Ytekidelgopciaaa.adv; rw [if_neg (by omega)]
        simp only [Option.map_some]
        by_cases h0 : l * n = 0
        · simp [Addr.add, h0]
        · simp [Addr.add, h0]
      · have h2 : l * n + i < cs.length := by simp at hi; omega
        have := hcell (l * n + i) h2
        rw [← Nat.add_assoc] at this
        rw [this]; simp [List.getD]

theorem run_adv_l {P : Program} {t e : TypeId} {n : Nat} (ht : P.underlying t = some (.slice e)) (hs : ∀ w, (sizeOf e).run P w = .ok n w) (w : World) (a : Option Addr) (len cap : Nat) (l : Int) (h0 : 0 ≤ l) (h1 : l ≤ len) :
    (Instr.sliceAt t (.slice a len cap) (some (.int .i64 l)) none none).run P w = .ok (.slice (adv a cap l.toNat n) (len - l.toNat) (cap - l.toNat)) w := by
  have he : P.elem t = e := by simp [Program.elem, ht]
  rw [run_sliceAt_slice _ _ _ _ _ _ (by rw [he]; exact ht), run_slice_l _ _ _ _ _ (by rw [he]; exact ht) _ _ h0 h1, he, hs]; rfl

theorem run_adv_h {P : Program} {t e : TypeId} {n : Nat} (ht : P.underlying t = some (.slice e)) (hs : ∀ w, (sizeOf e).run P w = .ok n w) (w : World) (a : Option Addr) (len cap : Nat) (h : Int) (h0 : 0 ≤ h) (h1 : h ≤ cap) :
    (Instr.sliceAt t (.slice a len cap) none (some (.int .i64 h)) none).run P w = .ok (.slice (adv a cap 0 n) (h.toNat - 0) (cap - 0)) w := by
  have he : P.elem t = e := by simp [Program.elem, ht]
  rw [run_sliceAt_slice _ _ _ _ _ _ (by rw [he]; exact ht), run_slice_h _ _ _ _ _ (by rw [he]; exact ht) _ _ h0 h1, he, hs]; rfl

theorem run_adv_lh {P : Program} {t e : TypeId} {n : Nat} (ht : P.underlying t = some (.slice e)) (hs : ∀ w, (sizeOf e).run P w = .ok n w) (w : World) (a : Option Addr) (len cap : Nat) (l h : Int) (h0 : 0 ≤ l) (h1 : l ≤ h) (h2 : h ≤ cap) :
    (Instr.sliceAt t (.slice a len cap) (some (.int .i64 l)) (some (.int .i64 h)) none).run P w = .ok (.slice (adv a cap l.toNat n) (h.toNat - l.toNat) (cap - l.toNat)) w := by
  have he : P.elem t = e := by simp [Program.elem, ht]
  rw [run_sliceAt_slice _ _ _ _ _ _ (by rw [he]; exact ht), run_slice_lh _ _ _ _ _ (by rw [he]; exact ht) _ _ _ _ h0 h1 h2, he, hs]; rfl

end Go.Proofs.Ytekidelgopciaaa
