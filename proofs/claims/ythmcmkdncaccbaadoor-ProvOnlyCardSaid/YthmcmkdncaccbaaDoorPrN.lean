/- A provider's own block is written over: what stays. -/
import Derived.Test.YthmcmkdncaccbaaDoorPrL
set_option linter.unusedSimpArgs false
set_option linter.unusedVariables false
namespace Go.Proofs.YthmcmkdncaccbaaDoor
open Go.RowKit

theorem BytesAt.notIn {w : World} {b : Nat} {cs : List Value} {a : Option Addr} {l : List UInt8} (h : BytesAt w a l) (hb : Blk w b cs) (hcs : ∀ v ∈ cs, ∀ k n, v ≠ .int k n) (ds : Array Value) : BytesAt (w.setRow b ds) a l := by
  rcases h with h | ⟨b', off, rfl, hlt, hc⟩
  · exact .inl h
  by_cases h0 : l = []
  · subst h0; exact .inl rfl
  refine .inr ⟨b', off, rfl, by simpa using hlt, fun i hi => ?_⟩
  have hne : b' ≠ b := by
    rintro rfl
    have h1 := hc i hi
    obtain ⟨T, hg⟩ := hb
    rw [cell_of_row w b' (off + i) cs.toArray T (0, 0) hg] at h1
    have h2 := Array.mem_of_getElem? h1
    have hi' : i < l.length := by simpa using hi
    have h3 : (B8s l).getD i undef = .int .u8 (bv (l.getD i 0)) := by simp [List.getD, hi']
    rw [h3] at h2
    exact hcs _ (by simpa using h2) _ _ rfl
  have e : (w.setRow b ds).heap[b']? = w.heap[b']? := setRow_other w b b' ds hne
  rw [World.cell?_of_block (w := w) (w' := w.setRow b ds) (a := ⟨b', off + i, none⟩) e]
  exact hc i hi
theorem BytesAt.notSet {w : World} {b j : Nat} {cs : List Value} {a : Option Addr} {l : List UInt8} (h : BytesAt w a l) (hb : Blk w b cs) (hcs : ∀ v ∈ cs, ∀ k n, v ≠ .int k n) (x : Value) : BytesAt (w.setCell ⟨b, j, none⟩ x) a l := by
  rcases h with h | ⟨b', off, rfl, hlt, hc⟩
  · exact .inl h
  refine .inr ⟨b', off, rfl, by simpa using hlt, fun i hi => ?_⟩
  have hne : b' ≠ b := by
    rintro rfl
    have h1 := hc i hi
    obtain ⟨T, hg⟩ := hb
    rw [cell_of_row w b' (off + i) cs.toArray T (0, 0) hg] at h1
    have h2 := Array.mem_of_getElem? h1
    have hi' : i < l.length := by simpa using hi
    have h3 : (B8s l).getD i undef = .int .u8 (bv (l.getD i 0)) := by simp [List.getD, hi']
    rw [h3] at h2
    exact hcs _ (by simpa using h2) _ _ rfl
  have e : (w.setCell ⟨b, j, none⟩ x).heap[b']? = w.heap[b']? := Below.heap_setCell _ _ _ _ hne
  rw [World.cell?_of_block (w := w) (w' := w.setCell ⟨b, j, none⟩ x) (a := ⟨b', off + i, none⟩) e]
  exact hc i hi
theorem prov_noint {x y : Bool} {a : Option Addr} {n c : Nat} : ∀ v ∈ ([.bool x, .slice a n c, .bool y] : List Value), ∀ k m, v ≠ .int k m := by
  intro v hv k m
  simp only [List.mem_cons, List.not_mem_nil, or_false] at hv
  rcases hv with rfl | rfl | rfl <;> intro h <;> cases h
theorem RowIs.rowP {w : World} {b : Nat} {x y : Bool} {a : Option Addr} {n c : Nat} {v : Value} {r : List UInt8} (h : RowIs w v r) (hb : Blk w b [.bool x, .slice a n c, .bool y]) (ds : Array Value) : RowIs (w.setRow b ds) v r := by
  obtain ⟨p, d, h1, h2, h3, h4⟩ := h
  exact ⟨p, d, h1, h2, h3, h4.notIn hb prov_noint ds⟩
theorem EntsAt.rowP {w : World} {b : Nat} {x y : Bool} {a A : Option Addr} {n c : Nat} {es : List Ent} (h : EntsAt w A es) (hb : Blk w b [.bool x, .slice a n c, .bool y]) (ds : Array Value) : EntsAt (w.setRow b ds) A es := by
  by_cases h0 : es = []
  · subst h0; exact EntsAt.nil _ _
  obtain ⟨vs, h1, h2, h3⟩ := h
  refine ⟨vs, h1, ?_, fun i hi => ⟨(h3 i hi).1.rowP hb ds, (h3 i hi).2.rowP hb ds⟩⟩
  rcases h2 with h2 | ⟨g, off, rfl, hlt, hc⟩
  · exact .inl h2
  refine .inr ⟨g, off, rfl, by simpa using hlt, fun i hi => ?_⟩
  have hne : g ≠ b := by
    rintro rfl
    have hl : 0 < es.length := List.length_pos_iff.2 h0
    obtain ⟨⟨p0, c0, e0, _⟩, ⟨p1, c1, e1, _⟩⟩ := h3 0 hl
    have k0 := hc 0 (by rw [h1]; omega)
    have k1 := hc 1 (by rw [h1]; omega)
    rw [show vs.getD 0 undef = _ from e0] at k0
    rw [show vs.getD 1 undef = _ from e1] at k1
    obtain ⟨T, hg⟩ := hb
    rw [cell_of_row w g (off + 0) _ T (0, 0) hg] at k0
    rw [cell_of_row w g (off + 1) _ T (0, 0) hg] at k1
    match off, k0, k1 with
    | 0, k0, _ => simp at k0
    | 1, _, k1 => simp at k1
    | 2, k0, _ => simp at k0
    | off + 3, k0, _ => simp at k0
  rw [World.cell?_of_block (w := w) (a := ⟨g, off + i, none⟩) (by simp [World.setRow, Array.getElem?_modify, Ne.symm hne])]
  exact hc i hi
theorem PrF.rowP {w : World} {b : Nat} {x y : Bool} {a A : Option Addr} {n c N C : Nat} {es : List Ent} (h : PrF w A N C es) (hb : Blk w b [.bool x, .slice a n c, .bool y]) (ds : Array Value) : PrF (w.setRow b ds) A N C es :=
  ⟨h.ents.rowP hb ds, h.hn, h.hc, h.hcm, h.few⟩
theorem RowIs.setP {w : World} {b j : Nat} {x y : Bool} {a : Option Addr} {n c : Nat} {v u : Value} {r : List UInt8} (h : RowIs w v r) (hb : Blk w b [.bool x, .slice a n c, .bool y]) : RowIs (w.setCell ⟨b, j, none⟩ u) v r := by
  obtain ⟨p, d, h1, h2, h3, h4⟩ := h
  exact ⟨p, d, h1, h2, h3, h4.notSet hb prov_noint u⟩
theorem EntsAt.setP {w : World} {b j : Nat} {x y : Bool} {a A : Option Addr} {n c : Nat} {es : List Ent} {u : Value} (h : EntsAt w A es) (hb : Blk w b [.bool x, .slice a n c, .bool y]) : EntsAt (w.setCell ⟨b, j, none⟩ u) A es := by
  by_cases h0 : es = []
  · subst h0; exact EntsAt.nil _ _
  obtain ⟨vs, h1, h2, h3⟩ := h
  refine ⟨vs, h1, ?_, fun i hi => ⟨(h3 i hi).1.setP hb, (h3 i hi).2.setP hb⟩⟩
  rcases h2 with h2 | ⟨g, off, rfl, hlt, hc⟩
  · exact .inl h2
  refine .inr ⟨g, off, rfl, by simpa using hlt, fun i hi => ?_⟩
  have hne : g ≠ b := by
    rintro rfl
    have hl : 0 < es.length := List.length_pos_iff.2 h0
    obtain ⟨⟨p0, c0, e0, _⟩, ⟨p1, c1, e1, _⟩⟩ := h3 0 hl
    have k0 := hc 0 (by rw [h1]; omega)
    have k1 := hc 1 (by rw [h1]; omega)
    rw [show vs.getD 0 undef = _ from e0] at k0
    rw [show vs.getD 1 undef = _ from e1] at k1
    obtain ⟨T, hg⟩ := hb
    rw [cell_of_row w g (off + 0) _ T (0, 0) hg] at k0
    rw [cell_of_row w g (off + 1) _ T (0, 0) hg] at k1
    match off, k0, k1 with
    | 0, k0, _ => simp at k0
    | 1, _, k1 => simp at k1
    | 2, k0, _ => simp at k0
    | off + 3, k0, _ => simp at k0
  rw [World.cell?_of_block (w := w) (a := ⟨g, off + i, none⟩) (Below.heap_setCell w ⟨b, j, none⟩ u g hne)]
  exact hc i hi
theorem PrF.set3 {w : World} {T : TypeId} {b : Nat} {x y x2 y2 : Bool} {a a2 A : Option Addr} {n c n2 c2 N C : Nat} {es : List Ent} (h : PrF w A N C es) (hb : BlkT T w b [.bool x, .slice a n c, .bool y]) : PrF (((w.setCell ⟨b, 0, none⟩ (.bool x2)).setCell ⟨b, 1, none⟩ (.slice a2 n2 c2)).setCell ⟨b, 2, none⟩ (.bool y2)) A N C es :=
  ⟨((h.ents.setP hb.blk).setP (hb.set 0 (.bool x2)).blk).setP ((hb.set 0 (.bool x2)).set 1 (.slice a2 n2 c2)).blk, h.hn, h.hc, h.hcm, h.few⟩
theorem bytes_set3 {w : World} {T : TypeId} {b : Nat} {x y x2 y2 : Bool} {a a2 A : Option Addr} {n c n2 c2 : Nat} {l : List UInt8} (h : BytesAt w A l) (hb : BlkT T w b [.bool x, .slice a n c, .bool y]) : BytesAt (((w.setCell ⟨b, 0, none⟩ (.bool x2)).setCell ⟨b, 1, none⟩ (.slice a2 n2 c2)).setCell ⟨b, 2, none⟩ (.bool y2)) A l :=
  ((h.notSet hb.blk prov_noint _).notSet (hb.set 0 (.bool x2)).blk prov_noint _).notSet ((hb.set 0 (.bool x2)).set 1 (.slice a2 n2 c2)).blk prov_noint _
end Go.Proofs.YthmcmkdncaccbaaDoor
