/- Rows of rows of bytes in memory. No program in sight. -/
import Derived.Test.YthmcmkdncaccbaaDoorBuf
set_option linter.unusedSimpArgs false
set_option linter.unusedVariables false
namespace Go.Proofs.YthmcmkdncaccbaaDoor
open Go.RowKit

/-- the value v is a slice of the bytes r -/
def RowIs (w : World) (v : Value) (r : List UInt8) : Prop := ∃ p c, v = .slice p r.length c ∧ r.length ≤ c ∧ c ≤ maxLen ∧ BytesAt w p r
theorem RowIs.mono {w w' : World} {v : Value} {r : List UInt8} (h : RowIs w v r) (hb : Below w.heap.size w w') : RowIs w' v r := by
  obtain ⟨p, c, h1, h2, h3, h4⟩ := h
  exact ⟨p, c, h1, h2, h3, h4.mono hb⟩
/-- the values are slices of the rows -/
def RowsOf (w : World) (vs : List Value) (rows : List (List UInt8)) : Prop := vs.length = rows.length ∧ ∀ i, i < rows.length → RowIs w (vs.getD i undef) (rows.getD i [])
theorem RowsOf.mono {w w' : World} {vs : List Value} {rows : List (List UInt8)} (h : RowsOf w vs rows) (hb : Below w.heap.size w w') : RowsOf w' vs rows := ⟨h.1, fun i hi => (h.2 i hi).mono hb⟩
theorem RowsOf.nil (w : World) : RowsOf w [] [] := ⟨rfl, fun i hi => absurd hi (by simp)⟩
theorem RowsOf.app {w : World} {vs us : List Value} {r q : List (List UInt8)} (h : RowsOf w vs r) (k : RowsOf w us q) : RowsOf w (vs ++ us) (r ++ q) := by
  refine ⟨by simp [h.1, k.1], fun i hi => ?_⟩
  by_cases hl : i < r.length
  · have e1 : (vs ++ us).getD i undef = vs.getD i undef := by simp [List.getD, List.getElem?_append_left (by rw [h.1]; exact hl : i < vs.length)]
    have e2 : (r ++ q).getD i [] = r.getD i [] := by simp [List.getD, List.getElem?_append_left hl]
    rw [e1, e2]; exact h.2 i hl
  · have e1 : (vs ++ us).getD i undef = us.getD (i - r.length) undef := by simp [List.getD, List.getElem?_append_right (by rw [h.1]; omega : vs.length ≤ i), h.1]
    have e2 : (r ++ q).getD i [] = q.getD (i - r.length) [] := by simp [List.getD, List.getElem?_append_right (by omega : r.length ≤ i)]
    rw [e1, e2]
    exact k.2 _ (by simp at hi; omega)
theorem RowsOf.one {w : World} {v : Value} {r : List UInt8} (h : RowIs w v r) : RowsOf w [v] [r] :=
  ⟨rfl, fun i hi => by
    have h0 : i = 0 := by simp at hi; exact hi
    subst h0; exact h⟩
theorem RowsOf.cells {w : World} {vs : List Value} {rows : List (List UInt8)} (h : RowsOf w vs rows) : ∀ v ∈ vs, v.oneCell' = true := by
  intro v hv
  obtain ⟨i, hi, rfl⟩ := List.getElem_of_mem hv
  obtain ⟨p, c, h1, -⟩ := h.2 i (by rw [← h.1]; exact hi)
  have : vs[i] = .slice p (rows.getD i []).length c := by rw [← h1]; simp [List.getD, hi]
  rw [this]; rfl

/-- the rows lie at a -/
def RowsAt (w : World) (a : Option Addr) (rows : List (List UInt8)) : Prop := ∃ vs, At w a vs ∧ RowsOf w vs rows
theorem RowsAt.mono {w w' : World} {a : Option Addr} {rows : List (List UInt8)} (h : RowsAt w a rows) (hb : Below w.heap.size w w') : RowsAt w' a rows := by
  obtain ⟨vs, h1, h2⟩ := h
  exact ⟨vs, h1.mono hb, h2.mono hb⟩
theorem RowsAt.nil (w : World) (a : Option Addr) : RowsAt w a [] := ⟨[], .inl rfl, .nil w⟩
theorem RowsAt.row {w : World} {a : Option Addr} {rows : List (List UInt8)} (h : RowsAt w a rows) (i : Nat) (hi : i < rows.length) :
    ∃ b off p c, a = some ⟨b, off, none⟩ ∧ b < w.heap.size ∧ w.cell? ⟨b, off + i, none⟩ = some (.slice p (rows.getD i []).length c) ∧ (rows.getD i []).length ≤ c ∧ c ≤ maxLen ∧ BytesAt w p (rows.getD i []) := by
  obtain ⟨vs, h1, h2⟩ := h
  obtain ⟨p, c, e, h3, h4, h5⟩ := h2.2 i hi
  rcases h1 with rfl | ⟨b, off, rfl, hlt, hc⟩
  · have := h2.1; simp at this; omega
  · exact ⟨b, off, p, c, rfl, hlt, by rw [hc i (by rw [h2.1]; exact hi), e], h3, h4, h5⟩
theorem RowsAt.old {w w' : World} {a : Option Addr} {rows : List (List UInt8)} (h : RowsAt w a rows) (hb : Below w.heap.size w w') (i : Nat) (hi : i < rows.length) :
    ∃ b off p c, a = some ⟨b, off, none⟩ ∧ b < w.heap.size ∧ w'.cell? ⟨b, off + i, none⟩ = some (.slice p (rows.getD i []).length c) ∧ (rows.getD i []).length ≤ c ∧ c ≤ maxLen ∧ BytesAt w p (rows.getD i []) := by
  obtain ⟨b, off, p, c, rfl, h2, h3, h4⟩ := h.row i hi
  exact ⟨b, off, p, c, rfl, h2, by rw [hb.cell (p := ⟨b, off + i, none⟩) h2]; exact h3, h4⟩
end Go.Proofs.YthmcmkdncaccbaaDoor
