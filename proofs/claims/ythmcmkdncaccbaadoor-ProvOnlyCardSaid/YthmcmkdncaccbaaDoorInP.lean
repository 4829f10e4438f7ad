/- How providers that came in are told to the walks. -/
import Derived.Test.YthmcmkdncaccbaaDoorInC
import Derived.Test.YthmcmkdncaccbaaDoorInB
import Derived.Test.YthmcmkdncaccbaaDoorPrA
import Derived.ChangeSame
import Derived.Deep.Fields
import Derived.Deep.Slices
import Derived.Deep.SlicePairs
set_option linter.unusedSimpArgs false
set_option linter.unusedVariables false
namespace Go.Proofs.YthmcmkdncaccbaaDoor
open Go.ChangeShapes Go.WideShapes Go.ChangeAt Go.RowKit

section
variable {H : Type} {enc : TypeId × Value → H} {w : World}
theorem slice13_of {n : Nat} {t e : TypeId} {c : Value} {x : DataW H × List MemPlace} (ht : Tryd.prog.underlying t = some (.slice e)) (h : DataW.trod enc Tryd.prog w 0 (fun _ => true) true n t [c] = some x) : ∃ a len cap, c = .slice a len cap := by
  rcases Go.Deep.open_slice ht h with ⟨h4, _⟩ | ⟨a, len, cap, _, _, _, _, h4, _⟩
  · exact ⟨_, _, _, by simpa using h4⟩
  · exact ⟨_, _, _, by simpa using h4⟩

/-- what is told of pairs that came in -/
def InEnts (w : World) (a : Option Addr) (len cap : Nat) (es : List Ent) : Prop := len = es.length ∧ len ≤ cap ∧ cap ≤ maxLen ∧ EntsAt w a es
theorem rowP_of {P : Program} {t f : TypeId} {fuel : Nat} {v : Value} {x : DataW H × List MemPlace} (ht : P.underlying t = some (.slice f)) (hf : P.underlying f = some (.int .u8)) (hcf : P.cellsOf f = 1)
    (h : DataW.trod enc P w 0 (fun _ => true) true fuel t [v] = some x) : ∃ r, RowIs w v r := by
  obtain ⟨p, pl, pc, rfl⟩ : ∃ p pl pc, v = .slice p pl pc := by
    rcases Go.Deep.open_slice ht h with ⟨h4, _⟩ | ⟨a, len, cap, _, _, _, _, h4, _⟩
    · exact ⟨_, _, _, by simpa using h4⟩
    · exact ⟨_, _, _, by simpa using h4⟩
  obtain ⟨r, hr1, hr2, hr3, hr4⟩ := bytes_in (enc := enc) (w := w) (a := p) (len := pl) (cap := pc) (d := x.1) (ps := x.2) ht hf hcf ⟨_, h⟩
  exact ⟨r, p, pc, by rw [hr1], by omega, hr3, hr4⟩
theorem entsP_in {P : Program} {t e f : TypeId} {f0 f1 : Field} {a : Option Addr} {len cap : Nat} {d : DataW H} {ps : List MemPlace}
    (ht : P.underlying t = some (.slice e)) (he : P.underlying e = some (.struct #[f0, f1])) (ce : P.cellsOf e = 2) (o0 : f0.offset = 0) (o1 : f1.offset = 1) (c0 : P.cellsOf f0.type = 1) (c1 : P.cellsOf f1.type = 1)
    (h0 : P.underlying f0.type = some (.slice f)) (h1 : P.underlying f1.type = some (.slice f)) (hf : P.underlying f = some (.int .u8)) (hcf : P.cellsOf f = 1)
    (h : DataW.Trod enc P w 0 (fun _ => true) true t (.slice a len cap) d ps) : ∃ es, InEnts w a len cap es := by
  obtain ⟨fuel, hfu⟩ := h
  rcases Go.Deep.open_slice_pairs ht he ce o0 o1 c0 c1 hfu with ⟨h4, _⟩ | ⟨x, l, c, m, n, V0, V1, D0, D1, P0, P1, hcs, hb, hl, hm, hmm, hx, hi⟩
  · simp [Value.cells] at h4
    obtain ⟨rfl, rfl, rfl⟩ := h4
    exact ⟨[], rfl, Nat.le_refl _, Nat.zero_le _, EntsAt.nil w _⟩
  · simp [Value.cells] at hcs
    obtain ⟨rfl, rfl, rfl⟩ := hcs
    have hcell : ∀ i, i < len → ∃ e : Ent, w.cell? (x.add (i * 2)) = some (V0 i) ∧ w.cell? (x.add (i * 2 + 1)) = some (V1 i) ∧ RowIs w (V0 i) e.1 ∧ RowIs w (V1 i) e.2 := fun i hil => by
      have him : i < m := by rw [hmm]; split <;> omega
      obtain ⟨k0, k1, k2, k3⟩ := hi i him
      obtain ⟨r0, g0⟩ := rowP_of h0 hf hcf k2
      obtain ⟨r1, g1⟩ := rowP_of h1 hf hcf k3
      exact ⟨(r0, r1), k0, k1, g0, g1⟩
    by_cases hz : len = 0
    · subst hz; exact ⟨[], rfl, hl, hm, EntsAt.nil w _⟩
    · obtain ⟨hxs, hxb⟩ : x.spot = none ∧ x.block < w.heap.size := by
        obtain ⟨e, h2, _⟩ := hcell 0 (by omega)
        have hx0 : x.add (0 * 2) = x := by simp [Addr.add]
        rw [hx0] at h2
        exact cell_block h2
      obtain ⟨xb, xo, xs⟩ := x
      simp only at hxs hxb
      subst hxs
      obtain ⟨E, hE⟩ := Go.Deep.choose_lt (α := Ent) hcell
      have hg : ∀ i, i < len → ((List.range len).map E).getD i ([], []) = E i := fun i hi => by simp [List.getD, hi]
      let vs : List Value := (List.range (len * 2)).map fun j => if j % 2 = 0 then V0 (j / 2) else V1 (j / 2)
      have hv : ∀ j, j < len * 2 → vs.getD j undef = if j % 2 = 0 then V0 (j / 2) else V1 (j / 2) := fun j hj => by simp [vs, List.getD, hj]
      refine ⟨(List.range len).map E, by simp, hl, hm, vs, by simp [vs], .inr ⟨xb, xo, rfl, hxb, fun j hj => ?_⟩, fun i hi => ?_⟩
      · have hj' : j < len * 2 := by simpa [vs] using hj
        obtain ⟨k0, k1, _, _⟩ := hE (j / 2) (by omega)
        rw [WideShapes.add_plain] at k0 k1
        rw [hv j hj']
        split
        · rw [show xo + j = xo + j / 2 * 2 by omega]; exact k0
        · rw [show xo + j = xo + (j / 2 * 2 + 1) by omega]; exact k1
      · have hi' : i < len := by simpa using hi
        obtain ⟨_, _, k2, k3⟩ := hE i hi'
        rw [hg i hi', hv (i * 2) (by omega), hv (i * 2 + 1) (by omega), if_pos (by omega), if_neg (by omega), show i * 2 / 2 = i by omega, show (i * 2 + 1) / 2 = i by omega]
        exact ⟨k2, k3⟩
theorem prov_of {fuel : Nat} {cs : List Value} {x : DataW H × List MemPlace} (h : DataW.trod enc Tryd.prog w 0 (fun _ => true) true fuel 24 cs = some x) :
    ∃ (m0 : Bool) (a1 : Option Addr) (n1 : Nat) (c1 : Nat) (l1 : List Ent) (m2 : Bool), cs = [.bool m0, .slice a1 n1 c1, .bool m2] ∧ InEnts w a1 n1 c1 l1 := by
  obtain ⟨xs, n, rfl, hx, hl, hxl, hg⟩ := DataW.trod_struct Tryd.underlying24 h
  have h0 := hg 0 _ rfl
  have h1 := hg 1 _ rfl
  have h2 := hg 2 _ rfl
  have hxl' : xs.length = 3 := hxl
  rw [List.getElem?_eq_getElem (by omega : 0 < xs.length)] at h0
  rw [List.getElem?_eq_getElem (by omega : 1 < xs.length)] at h1
  rw [List.getElem?_eq_getElem (by omega : 2 < xs.length)] at h2
  have e0 : Tryd.prog.cellsOf 4 = 1 := by kernel_rfl
  have e1 : Tryd.prog.cellsOf 22 = 1 := by kernel_rfl
  have eN : Tryd.prog.cellsOf 24 = 3 := by kernel_rfl
  have hl' : cs.length = 3 := by rw [← eN]; exact hl
  have k0 : DataW.trod enc Tryd.prog w 0 (fun _ => true) true n 4 ((cs.drop 0).take (Tryd.prog.cellsOf 4)) = some xs[0] := h0
  rw [e0] at k0
  have k1 : DataW.trod enc Tryd.prog w 0 (fun _ => true) true n 22 ((cs.drop 1).take (Tryd.prog.cellsOf 22)) = some xs[1] := h1
  rw [e1] at k1
  have k2 : DataW.trod enc Tryd.prog w 0 (fun _ => true) true n 4 ((cs.drop 2).take (Tryd.prog.cellsOf 4)) = some xs[2] := h2
  rw [e0] at k2
  clear h hg hx h0 h1 h2
  match cs, hl' with
  | [q0, q1, q2], _ =>
    have j0 : DataW.trod enc Tryd.prog w 0 (fun _ => true) true n 4 [q0] = some xs[0] := k0
    obtain ⟨m0, r0, _⟩ := DataW.trod_bool Tryd.underlying4 j0
    simp only [List.cons.injEq, and_true] at r0
    have j1 : DataW.trod enc Tryd.prog w 0 (fun _ => true) true n 22 [q1] = some xs[1] := k1
    obtain ⟨a1, n1, c1, rfl⟩ := slice13_of Tryd.underlying22 j1
    obtain ⟨l1, w1⟩ := entsP_in (enc := enc) (w := w) (a := a1) (len := n1) (cap := c1) (d := xs[1].1) (ps := xs[1].2) Tryd.underlying22 Tryd.underlying59 (by kernel_rfl) rfl rfl (by kernel_rfl) (by kernel_rfl) Tryd.underlying25 Tryd.underlying25 Tryd.underlying5 (by kernel_rfl) ⟨n, j1⟩
    have j2 : DataW.trod enc Tryd.prog w 0 (fun _ => true) true n 4 [q2] = some xs[2] := k2
    obtain ⟨m2, r2, _⟩ := DataW.trod_bool Tryd.underlying4 j2
    simp only [List.cons.injEq, and_true] at r2
    exact ⟨m0, a1, n1, c1, l1, m2, by rw [r0, r2], w1⟩
theorem prov_in {r : Reach} {b0 : Nat} {v : Value} {d : DataW H} {p : List MemPlace} (hv : Value.okWide Tryd.prog w r b0 24 v) (h : DataW.Trod enc Tryd.prog w 0 (fun _ => true) true 24 v d p) :
    ∃ (m0 : Bool) (a1 : Option Addr) (n1 : Nat) (c1 : Nat) (l1 : List Ent) (m2 : Bool), v = .agg #[.bool m0, .slice a1 n1 c1, .bool m2] ∧ InEnts w a1 n1 c1 l1 := by
  obtain ⟨⟨cs⟩, rfl, hsz⟩ := okWide_struct Tryd.underlying24 hv
  obtain ⟨fuel, hf⟩ := h
  obtain ⟨m0, a1, n1, c1, l1, m2, e, u0⟩ := prov_of hf
  simp only [Value.cells] at e
  subst e
  exact ⟨m0, a1, n1, c1, l1, m2, rfl, u0⟩
theorem once04_of {fuel : Nat} {cs : List Value} {x : DataW H × List MemPlace} (h : DataW.trod enc Tryd.prog w 0 (fun _ => true) true fuel 49 cs = some x) :
    ∃ (m0_0 : Bool) (a1_0 : Option Addr) (n1_0 : Nat) (c1_0 : Nat) (l1_0 : List Ent) (m2_0 : Bool) (a1 : Option Addr) (n1 : Nat) (c1 : Nat) (l1 : List UInt8) (a2 : Option Addr) (n2 : Nat) (c2 : Nat) (l2 : List UInt8) (a3 : Option Addr) (n3 : Nat) (c3 : Nat) (l3 : List UInt8), cs = [.bool m0_0, .slice a1_0 n1_0 c1_0, .bool m2_0, .slice a1 n1 c1, .slice a2 n2 c2, .slice a3 n3 c3] ∧ InEnts w a1_0 n1_0 c1_0 l1_0 ∧ InBytes w a1 n1 c1 l1 ∧ InBytes w a2 n2 c2 l2 ∧ InBytes w a3 n3 c3 l3 := by
  obtain ⟨xs, n, rfl, hx, hl, hxl, hg⟩ := DataW.trod_struct Tryd.underlying49 h
  have h0 := hg 0 _ rfl
  have h1 := hg 1 _ rfl
  have h2 := hg 2 _ rfl
  have h3 := hg 3 _ rfl
  have hxl' : xs.length = 4 := hxl
  rw [List.getElem?_eq_getElem (by omega : 0 < xs.length)] at h0
  rw [List.getElem?_eq_getElem (by omega : 1 < xs.length)] at h1
  rw [List.getElem?_eq_getElem (by omega : 2 < xs.length)] at h2
  rw [List.getElem?_eq_getElem (by omega : 3 < xs.length)] at h3
  have e0 : Tryd.prog.cellsOf 24 = 3 := by kernel_rfl
  have e1 : Tryd.prog.cellsOf 25 = 1 := by kernel_rfl
  have eN : Tryd.prog.cellsOf 49 = 6 := by kernel_rfl
  have hl' : cs.length = 6 := by rw [← eN]; exact hl
  have k0 : DataW.trod enc Tryd.prog w 0 (fun _ => true) true n 24 ((cs.drop 0).take (Tryd.prog.cellsOf 24)) = some xs[0] := h0
  rw [e0] at k0
  have k1 : DataW.trod enc Tryd.prog w 0 (fun _ => true) true n 25 ((cs.drop 3).take (Tryd.prog.cellsOf 25)) = some xs[1] := h1
  rw [e1] at k1
  have k2 : DataW.trod enc Tryd.prog w 0 (fun _ => true) true n 25 ((cs.drop 4).take (Tryd.prog.cellsOf 25)) = some xs[2] := h2
  rw [e1] at k2
  have k3 : DataW.trod enc Tryd.prog w 0 (fun _ => true) true n 25 ((cs.drop 5).take (Tryd.prog.cellsOf 25)) = some xs[3] := h3
  rw [e1] at k3
  clear h hg hx h0 h1 h2 h3
  match cs, hl' with
  | [q0, q1, q2, q3, q4, q5], _ =>
    have j0 : DataW.trod enc Tryd.prog w 0 (fun _ => true) true n 24 [q0, q1, q2] = some xs[0] := k0
    obtain ⟨m0_0, a1_0, n1_0, c1_0, l1_0, m2_0, r0, w0_0⟩ := prov_of j0
    simp only [List.cons.injEq, and_true] at r0
    obtain ⟨r0_0, r0_1, r0_2⟩ := r0
    have j1 : DataW.trod enc Tryd.prog w 0 (fun _ => true) true n 25 [q3] = some xs[1] := k1
    obtain ⟨a1, n1, c1, rfl⟩ := slice13_of Tryd.underlying25 j1
    obtain ⟨l1, w1⟩ := bytes_in (enc := enc) (w := w) (a := a1) (len := n1) (cap := c1) (d := xs[1].1) (ps := xs[1].2) Tryd.underlying25 Tryd.underlying5 (by kernel_rfl) ⟨n, j1⟩
    have j2 : DataW.trod enc Tryd.prog w 0 (fun _ => true) true n 25 [q4] = some xs[2] := k2
    obtain ⟨a2, n2, c2, rfl⟩ := slice13_of Tryd.underlying25 j2
    obtain ⟨l2, w2⟩ := bytes_in (enc := enc) (w := w) (a := a2) (len := n2) (cap := c2) (d := xs[2].1) (ps := xs[2].2) Tryd.underlying25 Tryd.underlying5 (by kernel_rfl) ⟨n, j2⟩
    have j3 : DataW.trod enc Tryd.prog w 0 (fun _ => true) true n 25 [q5] = some xs[3] := k3
    obtain ⟨a3, n3, c3, rfl⟩ := slice13_of Tryd.underlying25 j3
    obtain ⟨l3, w3⟩ := bytes_in (enc := enc) (w := w) (a := a3) (len := n3) (cap := c3) (d := xs[3].1) (ps := xs[3].2) Tryd.underlying25 Tryd.underlying5 (by kernel_rfl) ⟨n, j3⟩
    exact ⟨m0_0, a1_0, n1_0, c1_0, l1_0, m2_0, a1, n1, c1, l1, a2, n2, c2, l2, a3, n3, c3, l3, by rw [r0_0, r0_1, r0_2], w0_0, w1, w2, w3⟩
theorem once04_in {r : Reach} {b0 : Nat} {v : Value} {d : DataW H} {p : List MemPlace} (hv : Value.okWide Tryd.prog w r b0 49 v) (h : DataW.Trod enc Tryd.prog w 0 (fun _ => true) true 49 v d p) :
    ∃ (m0_0 : Bool) (a1_0 : Option Addr) (n1_0 : Nat) (c1_0 : Nat) (l1_0 : List Ent) (m2_0 : Bool) (a1 : Option Addr) (n1 : Nat) (c1 : Nat) (l1 : List UInt8) (a2 : Option Addr) (n2 : Nat) (c2 : Nat) (l2 : List UInt8) (a3 : Option Addr) (n3 : Nat) (c3 : Nat) (l3 : List UInt8), v = .agg #[.bool m0_0, .slice a1_0 n1_0 c1_0, .bool m2_0, .slice a1 n1 c1, .slice a2 n2 c2, .slice a3 n3 c3] ∧ InEnts w a1_0 n1_0 c1_0 l1_0 ∧ InBytes w a1 n1 c1 l1 ∧ InBytes w a2 n2 c2 l2 ∧ InBytes w a3 n3 c3 l3 := by
  obtain ⟨⟨cs⟩, rfl, hsz⟩ := okWide_struct Tryd.underlying49 hv
  obtain ⟨fuel, hf⟩ := h
  obtain ⟨m0_0, a1_0, n1_0, c1_0, l1_0, m2_0, a1, n1, c1, l1, a2, n2, c2, l2, a3, n3, c3, l3, e, u0, u1, u2, u3⟩ := once04_of hf
  simp only [Value.cells] at e
  subst e
  exact ⟨m0_0, a1_0, n1_0, c1_0, l1_0, m2_0, a1, n1, c1, l1, a2, n2, c2, l2, a3, n3, c3, l3, rfl, u0, u1, u2, u3⟩
theorem spoilt04_of {fuel : Nat} {cs : List Value} {x : DataW H × List MemPlace} (h : DataW.trod enc Tryd.prog w 0 (fun _ => true) true fuel 52 cs = some x) :
    ∃ (m0_0 : Bool) (a1_0 : Option Addr) (n1_0 : Nat) (c1_0 : Nat) (l1_0 : List Ent) (m2_0 : Bool) (a1 : Option Addr) (n1 : Nat) (c1 : Nat) (l1 : List UInt8) (a2 : Option Addr) (n2 : Nat) (c2 : Nat) (l2 : List UInt8) (m3 : Int) (m4 : Int), cs = [.bool m0_0, .slice a1_0 n1_0 c1_0, .bool m2_0, .slice a1 n1 c1, .slice a2 n2 c2, .int .u8 m3, .int .u8 m4] ∧ InEnts w a1_0 n1_0 c1_0 l1_0 ∧ InBytes w a1 n1 c1 l1 ∧ InBytes w a2 n2 c2 l2 ∧ (Lit.int .u8 m3).wf = true ∧ (Lit.int .u8 m4).wf = true := by
  obtain ⟨xs, n, rfl, hx, hl, hxl, hg⟩ := DataW.trod_struct Tryd.underlying52 h
  have h0 := hg 0 _ rfl
  have h1 := hg 1 _ rfl
  have h2 := hg 2 _ rfl
  have h3 := hg 3 _ rfl
  have h4 := hg 4 _ rfl
  have hxl' : xs.length = 5 := hxl
  rw [List.getElem?_eq_getElem (by omega : 0 < xs.length)] at h0
  rw [List.getElem?_eq_getElem (by omega : 1 < xs.length)] at h1
  rw [List.getElem?_eq_getElem (by omega : 2 < xs.length)] at h2
  rw [List.getElem?_eq_getElem (by omega : 3 < xs.length)] at h3
  rw [List.getElem?_eq_getElem (by omega : 4 < xs.length)] at h4
  have e0 : Tryd.prog.cellsOf 24 = 3 := by kernel_rfl
  have e1 : Tryd.prog.cellsOf 25 = 1 := by kernel_rfl
  have e2 : Tryd.prog.cellsOf 5 = 1 := by kernel_rfl
  have eN : Tryd.prog.cellsOf 52 = 7 := by kernel_rfl
  have hl' : cs.length = 7 := by rw [← eN]; exact hl
  have k0 : DataW.trod enc Tryd.prog w 0 (fun _ => true) true n 24 ((cs.drop 0).take (Tryd.prog.cellsOf 24)) = some xs[0] := h0
  rw [e0] at k0
  have k1 : DataW.trod enc Tryd.prog w 0 (fun _ => true) true n 25 ((cs.drop 3).take (Tryd.prog.cellsOf 25)) = some xs[1] := h1
  rw [e1] at k1
  have k2 : DataW.trod enc Tryd.prog w 0 (fun _ => true) true n 25 ((cs.drop 4).take (Tryd.prog.cellsOf 25)) = some xs[2] := h2
  rw [e1] at k2
  have k3 : DataW.trod enc Tryd.prog w 0 (fun _ => true) true n 5 ((cs.drop 5).take (Tryd.prog.cellsOf 5)) = some xs[3] := h3
  rw [e2] at k3
  have k4 : DataW.trod enc Tryd.prog w 0 (fun _ => true) true n 5 ((cs.drop 6).take (Tryd.prog.cellsOf 5)) = some xs[4] := h4
  rw [e2] at k4
  clear h hg hx h0 h1 h2 h3 h4
  match cs, hl' with
  | [q0, q1, q2, q3, q4, q5, q6], _ =>
    have j0 : DataW.trod enc Tryd.prog w 0 (fun _ => true) true n 24 [q0, q1, q2] = some xs[0] := k0
    obtain ⟨m0_0, a1_0, n1_0, c1_0, l1_0, m2_0, r0, w0_0⟩ := prov_of j0
    simp only [List.cons.injEq, and_true] at r0
    obtain ⟨r0_0, r0_1, r0_2⟩ := r0
    have j1 : DataW.trod enc Tryd.prog w 0 (fun _ => true) true n 25 [q3] = some xs[1] := k1
    obtain ⟨a1, n1, c1, rfl⟩ := slice13_of Tryd.underlying25 j1
    obtain ⟨l1, w1⟩ := bytes_in (enc := enc) (w := w) (a := a1) (len := n1) (cap := c1) (d := xs[1].1) (ps := xs[1].2) Tryd.underlying25 Tryd.underlying5 (by kernel_rfl) ⟨n, j1⟩
    have j2 : DataW.trod enc Tryd.prog w 0 (fun _ => true) true n 25 [q4] = some xs[2] := k2
    obtain ⟨a2, n2, c2, rfl⟩ := slice13_of Tryd.underlying25 j2
    obtain ⟨l2, w2⟩ := bytes_in (enc := enc) (w := w) (a := a2) (len := n2) (cap := c2) (d := xs[2].1) (ps := xs[2].2) Tryd.underlying25 Tryd.underlying5 (by kernel_rfl) ⟨n, j2⟩
    have j3 : DataW.trod enc Tryd.prog w 0 (fun _ => true) true n 5 [q5] = some xs[3] := k3
    obtain ⟨m3, r3, _, w3⟩ := DataW.trod_int Tryd.underlying5 j3
    simp only [List.cons.injEq, and_true] at r3
    have j4 : DataW.trod enc Tryd.prog w 0 (fun _ => true) true n 5 [q6] = some xs[4] := k4
    obtain ⟨m4, r4, _, w4⟩ := DataW.trod_int Tryd.underlying5 j4
    simp only [List.cons.injEq, and_true] at r4
    exact ⟨m0_0, a1_0, n1_0, c1_0, l1_0, m2_0, a1, n1, c1, l1, a2, n2, c2, l2, m3, m4, by rw [r0_0, r0_1, r0_2, r3, r4], w0_0, w1, w2, w3, w4⟩
theorem spoilt04_in {r : Reach} {b0 : Nat} {v : Value} {d : DataW H} {p : List MemPlace} (hv : Value.okWide Tryd.prog w r b0 52 v) (h : DataW.Trod enc Tryd.prog w 0 (fun _ => true) true 52 v d p) :
    ∃ (m0_0 : Bool) (a1_0 : Option Addr) (n1_0 : Nat) (c1_0 : Nat) (l1_0 : List Ent) (m2_0 : Bool) (a1 : Option Addr) (n1 : Nat) (c1 : Nat) (l1 : List UInt8) (a2 : Option Addr) (n2 : Nat) (c2 : Nat) (l2 : List UInt8) (m3 : Int) (m4 : Int), v = .agg #[.bool m0_0, .slice a1_0 n1_0 c1_0, .bool m2_0, .slice a1 n1 c1, .slice a2 n2 c2, .int .u8 m3, .int .u8 m4] ∧ InEnts w a1_0 n1_0 c1_0 l1_0 ∧ InBytes w a1 n1 c1 l1 ∧ InBytes w a2 n2 c2 l2 ∧ (Lit.int .u8 m3).wf = true ∧ (Lit.int .u8 m4).wf = true := by
  obtain ⟨⟨cs⟩, rfl, hsz⟩ := okWide_struct Tryd.underlying52 hv
  obtain ⟨fuel, hf⟩ := h
  obtain ⟨m0_0, a1_0, n1_0, c1_0, l1_0, m2_0, a1, n1, c1, l1, a2, n2, c2, l2, m3, m4, e, u0, u1, u2, u3, u4⟩ := spoilt04_of hf
  simp only [Value.cells] at e
  subst e
  exact ⟨m0_0, a1_0, n1_0, c1_0, l1_0, m2_0, a1, n1, c1, l1, a2, n2, c2, l2, m3, m4, rfl, u0, u1, u2, u3, u4⟩
theorem tells04_of {fuel : Nat} {cs : List Value} {x : DataW H × List MemPlace} (h : DataW.trod enc Tryd.prog w 0 (fun _ => true) true fuel 27 cs = some x) :
    ∃ (m0_0 : Bool) (a1_0 : Option Addr) (n1_0 : Nat) (c1_0 : Nat) (l1_0 : List Ent) (m2_0 : Bool) (m0_1 : Bool) (a1_1 : Option Addr) (n1_1 : Nat) (c1_1 : Nat) (l1_1 : List Ent) (m2_1 : Bool) (a2 : Option Addr) (n2 : Nat) (c2 : Nat) (l2 : List UInt8) (a3 : Option Addr) (n3 : Nat) (c3 : Nat) (l3 : List UInt8) (a4 : Option Addr) (n4 : Nat) (c4 : Nat) (l4 : List UInt8), cs = [.bool m0_0, .slice a1_0 n1_0 c1_0, .bool m2_0, .bool m0_1, .slice a1_1 n1_1 c1_1, .bool m2_1, .slice a2 n2 c2, .slice a3 n3 c3, .slice a4 n4 c4] ∧ InEnts w a1_0 n1_0 c1_0 l1_0 ∧ InEnts w a1_1 n1_1 c1_1 l1_1 ∧ InBytes w a2 n2 c2 l2 ∧ InBytes w a3 n3 c3 l3 ∧ InBytes w a4 n4 c4 l4 := by
  obtain ⟨xs, n, rfl, hx, hl, hxl, hg⟩ := DataW.trod_struct Tryd.underlying27 h
  have h0 := hg 0 _ rfl
  have h1 := hg 1 _ rfl
  have h2 := hg 2 _ rfl
  have h3 := hg 3 _ rfl
  have h4 := hg 4 _ rfl
  have hxl' : xs.length = 5 := hxl
  rw [List.getElem?_eq_getElem (by omega : 0 < xs.length)] at h0
  rw [List.getElem?_eq_getElem (by omega : 1 < xs.length)] at h1
  rw [List.getElem?_eq_getElem (by omega : 2 < xs.length)] at h2
  rw [List.getElem?_eq_getElem (by omega : 3 < xs.length)] at h3
  rw [List.getElem?_eq_getElem (by omega : 4 < xs.length)] at h4
  have e0 : Tryd.prog.cellsOf 24 = 3 := by kernel_rfl
  have e1 : Tryd.prog.cellsOf 25 = 1 := by kernel_rfl
  have eN : Tryd.prog.cellsOf 27 = 9 := by kernel_rfl
  have hl' : cs.length = 9 := by rw [← eN]; exact hl
  have k0 : DataW.trod enc Tryd.prog w 0 (fun _ => true) true n 24 ((cs.drop 0).take (Tryd.prog.cellsOf 24)) = some xs[0] := h0
  rw [e0] at k0
  have k1 : DataW.trod enc Tryd.prog w 0 (fun _ => true) true n 24 ((cs.drop 3).take (Tryd.prog.cellsOf 24)) = some xs[1] := h1
  rw [e0] at k1
  have k2 : DataW.trod enc Tryd.prog w 0 (fun _ => true) true n 25 ((cs.drop 6).take (Tryd.prog.cellsOf 25)) = some xs[2] := h2
  rw [e1] at k2
  have k3 : DataW.trod enc Tryd.prog w 0 (fun _ => true) true n 25 ((cs.drop 7).take (Tryd.prog.cellsOf 25)) = some xs[3] := h3
  rw [e1] at k3
  have k4 : DataW.trod enc Tryd.prog w 0 (fun _ => true) true n 25 ((cs.drop 8).take (Tryd.prog.cellsOf 25)) = some xs[4] := h4
  rw [e1] at k4
  clear h hg hx h0 h1 h2 h3 h4
  match cs, hl' with
  | [q0, q1, q2, q3, q4, q5, q6, q7, q8], _ =>
    have j0 : DataW.trod enc Tryd.prog w 0 (fun _ => true) true n 24 [q0, q1, q2] = some xs[0] := k0
    obtain ⟨m0_0, a1_0, n1_0, c1_0, l1_0, m2_0, r0, w0_0⟩ := prov_of j0
    simp only [List.cons.injEq, and_true] at r0
    obtain ⟨r0_0, r0_1, r0_2⟩ := r0
    have j1 : DataW.trod enc Tryd.prog w 0 (fun _ => true) true n 24 [q3, q4, q5] = some xs[1] := k1
    obtain ⟨m0_1, a1_1, n1_1, c1_1, l1_1, m2_1, r1, w1_0⟩ := prov_of j1
    simp only [List.cons.injEq, and_true] at r1
    obtain ⟨r1_0, r1_1, r1_2⟩ := r1
    have j2 : DataW.trod enc Tryd.prog w 0 (fun _ => true) true n 25 [q6] = some xs[2] := k2
    obtain ⟨a2, n2, c2, rfl⟩ := slice13_of Tryd.underlying25 j2
    obtain ⟨l2, w2⟩ := bytes_in (enc := enc) (w := w) (a := a2) (len := n2) (cap := c2) (d := xs[2].1) (ps := xs[2].2) Tryd.underlying25 Tryd.underlying5 (by kernel_rfl) ⟨n, j2⟩
    have j3 : DataW.trod enc Tryd.prog w 0 (fun _ => true) true n 25 [q7] = some xs[3] := k3
    obtain ⟨a3, n3, c3, rfl⟩ := slice13_of Tryd.underlying25 j3
    obtain ⟨l3, w3⟩ := bytes_in (enc := enc) (w := w) (a := a3) (len := n3) (cap := c3) (d := xs[3].1) (ps := xs[3].2) Tryd.underlying25 Tryd.underlying5 (by kernel_rfl) ⟨n, j3⟩
    have j4 : DataW.trod enc Tryd.prog w 0 (fun _ => true) true n 25 [q8] = some xs[4] := k4
    obtain ⟨a4, n4, c4, rfl⟩ := slice13_of Tryd.underlying25 j4
    obtain ⟨l4, w4⟩ := bytes_in (enc := enc) (w := w) (a := a4) (len := n4) (cap := c4) (d := xs[4].1) (ps := xs[4].2) Tryd.underlying25 Tryd.underlying5 (by kernel_rfl) ⟨n, j4⟩
    exact ⟨m0_0, a1_0, n1_0, c1_0, l1_0, m2_0, m0_1, a1_1, n1_1, c1_1, l1_1, m2_1, a2, n2, c2, l2, a3, n3, c3, l3, a4, n4, c4, l4, by rw [r0_0, r0_1, r0_2, r1_0, r1_1, r1_2], w0_0, w1_0, w2, w3, w4⟩
theorem tells04_in {r : Reach} {b0 : Nat} {v : Value} {d : DataW H} {p : List MemPlace} (hv : Value.okWide Tryd.prog w r b0 27 v) (h : DataW.Trod enc Tryd.prog w 0 (fun _ => true) true 27 v d p) :
    ∃ (m0_0 : Bool) (a1_0 : Option Addr) (n1_0 : Nat) (c1_0 : Nat) (l1_0 : List Ent) (m2_0 : Bool) (m0_1 : Bool) (a1_1 : Option Addr) (n1_1 : Nat) (c1_1 : Nat) (l1_1 : List Ent) (m2_1 : Bool) (a2 : Option Addr) (n2 : Nat) (c2 : Nat) (l2 : List UInt8) (a3 : Option Addr) (n3 : Nat) (c3 : Nat) (l3 : List UInt8) (a4 : Option Addr) (n4 : Nat) (c4 : Nat) (l4 : List UInt8), v = .agg #[.bool m0_0, .slice a1_0 n1_0 c1_0, .bool m2_0, .bool m0_1, .slice a1_1 n1_1 c1_1, .bool m2_1, .slice a2 n2 c2, .slice a3 n3 c3, .slice a4 n4 c4] ∧ InEnts w a1_0 n1_0 c1_0 l1_0 ∧ InEnts w a1_1 n1_1 c1_1 l1_1 ∧ InBytes w a2 n2 c2 l2 ∧ InBytes w a3 n3 c3 l3 ∧ InBytes w a4 n4 c4 l4 := by
  obtain ⟨⟨cs⟩, rfl, hsz⟩ := okWide_struct Tryd.underlying27 hv
  obtain ⟨fuel, hf⟩ := h
  obtain ⟨m0_0, a1_0, n1_0, c1_0, l1_0, m2_0, m0_1, a1_1, n1_1, c1_1, l1_1, m2_1, a2, n2, c2, l2, a3, n3, c3, l3, a4, n4, c4, l4, e, u0, u1, u2, u3, u4⟩ := tells04_of hf
  simp only [Value.cells] at e
  subst e
  exact ⟨m0_0, a1_0, n1_0, c1_0, l1_0, m2_0, m0_1, a1_1, n1_1, c1_1, l1_1, m2_1, a2, n2, c2, l2, a3, n3, c3, l3, a4, n4, c4, l4, rfl, u0, u1, u2, u3, u4⟩
end
end Go.Proofs.YthmcmkdncaccbaaDoor
