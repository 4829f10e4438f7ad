/- How pairs of bytes, and questions, that came in are told to the walks. -/
import Derived.Test.YthmcmkdncaccbaaDoorInP
set_option linter.unusedSimpArgs false
set_option linter.unusedVariables false
namespace Go.Proofs.YthmcmkdncaccbaaDoor
open Go.ChangeShapes Go.WideShapes Go.ChangeAt Go.RowKit

section
variable {H : Type} {enc : TypeId × Value → H} {w : World}

theorem pair2_of {fuel : Nat} {cs : List Value} {x : DataW H × List MemPlace} (h : DataW.trod enc Tryd.prog w 0 (fun _ => true) true fuel 54 cs = some x) :
    ∃ (a0 : Option Addr) (n0 : Nat) (c0 : Nat) (l0 : List UInt8) (a1 : Option Addr) (n1 : Nat) (c1 : Nat) (l1 : List UInt8), cs = [.slice a0 n0 c0, .slice a1 n1 c1] ∧ InBytes w a0 n0 c0 l0 ∧ InBytes w a1 n1 c1 l1 := by
  obtain ⟨xs, n, rfl, hx, hl, hxl, hg⟩ := DataW.trod_array Tryd.underlying54 h
  have e0 : Tryd.prog.cellsOf 25 = 1 := by kernel_rfl
  have eN : Tryd.prog.cellsOf 54 = 2 := by kernel_rfl
  have hl' : cs.length = 2 := by rw [← eN]; exact hl
  have h0 := hg 0 (by decide)
  have h1 := hg 1 (by decide)
  rw [e0, List.getElem?_eq_getElem (by omega : 0 < xs.length)] at h0
  rw [e0, List.getElem?_eq_getElem (by omega : 1 < xs.length)] at h1
  clear h hg hx
  match cs, hl' with
  | [q0, q1], _ =>
    have j0 : DataW.trod enc Tryd.prog w 0 (fun _ => true) true n 25 [q0] = some xs[0] := h0
    have j1 : DataW.trod enc Tryd.prog w 0 (fun _ => true) true n 25 [q1] = some xs[1] := h1
    obtain ⟨a0, n0, c0, rfl⟩ := slice13_of Tryd.underlying25 j0
    obtain ⟨a1, n1, c1, rfl⟩ := slice13_of Tryd.underlying25 j1
    obtain ⟨l0, w0⟩ := bytes_in (enc := enc) (w := w) (a := a0) (len := n0) (cap := c0) (d := xs[0].1) (ps := xs[0].2) Tryd.underlying25 Tryd.underlying5 (by kernel_rfl) ⟨n, j0⟩
    obtain ⟨l1, w1⟩ := bytes_in (enc := enc) (w := w) (a := a1) (len := n1) (cap := c1) (d := xs[1].1) (ps := xs[1].2) Tryd.underlying25 Tryd.underlying5 (by kernel_rfl) ⟨n, j1⟩
    exact ⟨a0, n0, c0, l0, a1, n1, c1, l1, rfl, w0, w1⟩
theorem order04_of {fuel : Nat} {cs : List Value} {x : DataW H × List MemPlace} (h : DataW.trod enc Tryd.prog w 0 (fun _ => true) true fuel 56 cs = some x) :
    ∃ (a0_0 : Option Addr) (n0_0 : Nat) (c0_0 : Nat) (l0_0 : List UInt8) (a1_0 : Option Addr) (n1_0 : Nat) (c1_0 : Nat) (l1_0 : List UInt8) (a0_1 : Option Addr) (n0_1 : Nat) (c0_1 : Nat) (l0_1 : List UInt8) (a1_1 : Option Addr) (n1_1 : Nat) (c1_1 : Nat) (l1_1 : List UInt8) (a2 : Option Addr) (n2 : Nat) (c2 : Nat) (l2 : List UInt8) (a3 : Option Addr) (n3 : Nat) (c3 : Nat) (l3 : List UInt8), cs = [.slice a0_0 n0_0 c0_0, .slice a1_0 n1_0 c1_0, .slice a0_1 n0_1 c0_1, .slice a1_1 n1_1 c1_1, .slice a2 n2 c2, .slice a3 n3 c3] ∧ InBytes w a0_0 n0_0 c0_0 l0_0 ∧ InBytes w a1_0 n1_0 c1_0 l1_0 ∧ InBytes w a0_1 n0_1 c0_1 l0_1 ∧ InBytes w a1_1 n1_1 c1_1 l1_1 ∧ InBytes w a2 n2 c2 l2 ∧ InBytes w a3 n3 c3 l3 := by
  obtain ⟨xs, n, rfl, hx, hl, hxl, hg⟩ := DataW.trod_struct Tryd.underlying56 h
  have h0 := hg 0 _ rfl
  have h1 := hg 1 _ rfl
  have h2 := hg 2 _ rfl
  have h3 := hg 3 _ rfl
  have hxl' : xs.length = 4 := hxl
  rw [List.getElem?_eq_getElem (by omega : 0 < xs.length)] at h0
  rw [List.getElem?_eq_getElem (by omega : 1 < xs.length)] at h1
  rw [List.getElem?_eq_getElem (by omega : 2 < xs.length)] at h2
  rw [List.getElem?_eq_getElem (by omega : 3 < xs.length)] at h3
  have e0 : Tryd.prog.cellsOf 54 = 2 := by kernel_rfl
  have e1 : Tryd.prog.cellsOf 25 = 1 := by kernel_rfl
  have eN : Tryd.prog.cellsOf 56 = 6 := by kernel_rfl
  have hl' : cs.length = 6 := by rw [← eN]; exact hl
  have k0 : DataW.trod enc Tryd.prog w 0 (fun _ => true) true n 54 ((cs.drop 0).take (Tryd.prog.cellsOf 54)) = some xs[0] := h0
  rw [e0] at k0
  have k1 : DataW.trod enc Tryd.prog w 0 (fun _ => true) true n 54 ((cs.drop 2).take (Tryd.prog.cellsOf 54)) = some xs[1] := h1
  rw [e0] at k1
  have k2 : DataW.trod enc Tryd.prog w 0 (fun _ => true) true n 25 ((cs.drop 4).take (Tryd.prog.cellsOf 25)) = some xs[2] := h2
  rw [e1] at k2
  have k3 : DataW.trod enc Tryd.prog w 0 (fun _ => true) true n 25 ((cs.drop 5).take (Tryd.prog.cellsOf 25)) = some xs[3] := h3
  rw [e1] at k3
  clear h hg hx h0 h1 h2 h3
  match cs, hl' with
  | [q0, q1, q2, q3, q4, q5], _ =>
    have j0 : DataW.trod enc Tryd.prog w 0 (fun _ => true) true n 54 [q0, q1] = some xs[0] := k0
    obtain ⟨a0_0, n0_0, c0_0, l0_0, a1_0, n1_0, c1_0, l1_0, r0, w0_0, w0_1⟩ := pair2_of j0
    simp only [List.cons.injEq, and_true] at r0
    obtain ⟨r0_0, r0_1⟩ := r0
    have j1 : DataW.trod enc Tryd.prog w 0 (fun _ => true) true n 54 [q2, q3] = some xs[1] := k1
    obtain ⟨a0_1, n0_1, c0_1, l0_1, a1_1, n1_1, c1_1, l1_1, r1, w1_0, w1_1⟩ := pair2_of j1
    simp only [List.cons.injEq, and_true] at r1
    obtain ⟨r1_0, r1_1⟩ := r1
    have j2 : DataW.trod enc Tryd.prog w 0 (fun _ => true) true n 25 [q4] = some xs[2] := k2
    obtain ⟨a2, n2, c2, rfl⟩ := slice13_of Tryd.underlying25 j2
    obtain ⟨l2, w2⟩ := bytes_in (enc := enc) (w := w) (a := a2) (len := n2) (cap := c2) (d := xs[2].1) (ps := xs[2].2) Tryd.underlying25 Tryd.underlying5 (by kernel_rfl) ⟨n, j2⟩
    have j3 : DataW.trod enc Tryd.prog w 0 (fun _ => true) true n 25 [q5] = some xs[3] := k3
    obtain ⟨a3, n3, c3, rfl⟩ := slice13_of Tryd.underlying25 j3
    obtain ⟨l3, w3⟩ := bytes_in (enc := enc) (w := w) (a := a3) (len := n3) (cap := c3) (d := xs[3].1) (ps := xs[3].2) Tryd.underlying25 Tryd.underlying5 (by kernel_rfl) ⟨n, j3⟩
    exact ⟨a0_0, n0_0, c0_0, l0_0, a1_0, n1_0, c1_0, l1_0, a0_1, n0_1, c0_1, l0_1, a1_1, n1_1, c1_1, l1_1, a2, n2, c2, l2, a3, n3, c3, l3, by rw [r0_0, r0_1, r1_0, r1_1], w0_0, w0_1, w1_0, w1_1, w2, w3⟩
theorem order04_in {r : Reach} {b0 : Nat} {v : Value} {d : DataW H} {p : List MemPlace} (hv : Value.okWide Tryd.prog w r b0 56 v) (h : DataW.Trod enc Tryd.prog w 0 (fun _ => true) true 56 v d p) :
    ∃ (a0_0 : Option Addr) (n0_0 : Nat) (c0_0 : Nat) (l0_0 : List UInt8) (a1_0 : Option Addr) (n1_0 : Nat) (c1_0 : Nat) (l1_0 : List UInt8) (a0_1 : Option Addr) (n0_1 : Nat) (c0_1 : Nat) (l0_1 : List UInt8) (a1_1 : Option Addr) (n1_1 : Nat) (c1_1 : Nat) (l1_1 : List UInt8) (a2 : Option Addr) (n2 : Nat) (c2 : Nat) (l2 : List UInt8) (a3 : Option Addr) (n3 : Nat) (c3 : Nat) (l3 : List UInt8), v = .agg #[.slice a0_0 n0_0 c0_0, .slice a1_0 n1_0 c1_0, .slice a0_1 n0_1 c0_1, .slice a1_1 n1_1 c1_1, .slice a2 n2 c2, .slice a3 n3 c3] ∧ InBytes w a0_0 n0_0 c0_0 l0_0 ∧ InBytes w a1_0 n1_0 c1_0 l1_0 ∧ InBytes w a0_1 n0_1 c0_1 l0_1 ∧ InBytes w a1_1 n1_1 c1_1 l1_1 ∧ InBytes w a2 n2 c2 l2 ∧ InBytes w a3 n3 c3 l3 := by
  obtain ⟨⟨cs⟩, rfl, hsz⟩ := okWide_struct Tryd.underlying56 hv
  obtain ⟨fuel, hf⟩ := h
  obtain ⟨a0_0, n0_0, c0_0, l0_0, a1_0, n1_0, c1_0, l1_0, a0_1, n0_1, c0_1, l0_1, a1_1, n1_1, c1_1, l1_1, a2, n2, c2, l2, a3, n3, c3, l3, e, u0, u1, u2, u3, u4, u5⟩ := order04_of hf
  simp only [Value.cells] at e
  subst e
  exact ⟨a0_0, n0_0, c0_0, l0_0, a1_0, n1_0, c1_0, l1_0, a0_1, n0_1, c0_1, l0_1, a1_1, n1_1, c1_1, l1_1, a2, n2, c2, l2, a3, n3, c3, l3, rfl, u0, u1, u2, u3, u4, u5⟩
theorem ask04_of {fuel : Nat} {cs : List Value} {x : DataW H × List MemPlace} (h : DataW.trod enc Tryd.prog w 0 (fun _ => true) true fuel 42 cs = some x) :
    ∃ (m0 : Int) (m1 : Int) (m2 : Int) (a3 : Option Addr) (n3 : Nat) (c3 : Nat) (l3 : List UInt8), cs = [.int .u8 m0, .int .u8 m1, .int .u8 m2, .slice a3 n3 c3] ∧ (Lit.int .u8 m0).wf = true ∧ (Lit.int .u8 m1).wf = true ∧ (Lit.int .u8 m2).wf = true ∧ InBytes w a3 n3 c3 l3 := by
  obtain ⟨xs, n, rfl, hx, hl, hxl, hg⟩ := DataW.trod_struct Tryd.underlying42 h
  have h0 := hg 0 _ rfl
  have h1 := hg 1 _ rfl
  have h2 := hg 2 _ rfl
  have h3 := hg 3 _ rfl
  have hxl' : xs.length = 4 := hxl
  rw [List.getElem?_eq_getElem (by omega : 0 < xs.length)] at h0
  rw [List.getElem?_eq_getElem (by omega : 1 < xs.length)] at h1
  rw [List.getElem?_eq_getElem (by omega : 2 < xs.length)] at h2
  rw [List.getElem?_eq_getElem (by omega : 3 < xs.length)] at h3
  have e0 : Tryd.prog.cellsOf 5 = 1 := by kernel_rfl
  have e1 : Tryd.prog.cellsOf 25 = 1 := by kernel_rfl
  have eN : Tryd.prog.cellsOf 42 = 4 := by kernel_rfl
  have hl' : cs.length = 4 := by rw [← eN]; exact hl
  have k0 : DataW.trod enc Tryd.prog w 0 (fun _ => true) true n 5 ((cs.drop 0).take (Tryd.prog.cellsOf 5)) = some xs[0] := h0
  rw [e0] at k0
  have k1 : DataW.trod enc Tryd.prog w 0 (fun _ => true) true n 5 ((cs.drop 1).take (Tryd.prog.cellsOf 5)) = some xs[1] := h1
  rw [e0] at k1
  have k2 : DataW.trod enc Tryd.prog w 0 (fun _ => true) true n 5 ((cs.drop 2).take (Tryd.prog.cellsOf 5)) = some xs[2] := h2
  rw [e0] at k2
  have k3 : DataW.trod enc Tryd.prog w 0 (fun _ => true) true n 25 ((cs.drop 3).take (Tryd.prog.cellsOf 25)) = some xs[3] := h3
  rw [e1] at k3
  clear h hg hx h0 h1 h2 h3
  match cs, hl' with
  | [q0, q1, q2, q3], _ =>
    have j0 : DataW.trod enc Tryd.prog w 0 (fun _ => true) true n 5 [q0] = some xs[0] := k0
    obtain ⟨m0, r0, _, w0⟩ := DataW.trod_int Tryd.underlying5 j0
    simp only [List.cons.injEq, and_true] at r0
    have j1 : DataW.trod enc Tryd.prog w 0 (fun _ => true) true n 5 [q1] = some xs[1] := k1
    obtain ⟨m1, r1, _, w1⟩ := DataW.trod_int Tryd.underlying5 j1
    simp only [List.cons.injEq, and_true] at r1
    have j2 : DataW.trod enc Tryd.prog w 0 (fun _ => true) true n 5 [q2] = some xs[2] := k2
    obtain ⟨m2, r2, _, w2⟩ := DataW.trod_int Tryd.underlying5 j2
    simp only [List.cons.injEq, and_true] at r2
    have j3 : DataW.trod enc Tryd.prog w 0 (fun _ => true) true n 25 [q3] = some xs[3] := k3
    obtain ⟨a3, n3, c3, rfl⟩ := slice13_of Tryd.underlying25 j3
    obtain ⟨l3, w3⟩ := bytes_in (enc := enc) (w := w) (a := a3) (len := n3) (cap := c3) (d := xs[3].1) (ps := xs[3].2) Tryd.underlying25 Tryd.underlying5 (by kernel_rfl) ⟨n, j3⟩
    exact ⟨m0, m1, m2, a3, n3, c3, l3, by rw [r0, r1, r2], w0, w1, w2, w3⟩
theorem ask04_in {r : Reach} {b0 : Nat} {v : Value} {d : DataW H} {p : List MemPlace} (hv : Value.okWide Tryd.prog w r b0 42 v) (h : DataW.Trod enc Tryd.prog w 0 (fun _ => true) true 42 v d p) :
    ∃ (m0 : Int) (m1 : Int) (m2 : Int) (a3 : Option Addr) (n3 : Nat) (c3 : Nat) (l3 : List UInt8), v = .agg #[.int .u8 m0, .int .u8 m1, .int .u8 m2, .slice a3 n3 c3] ∧ (Lit.int .u8 m0).wf = true ∧ (Lit.int .u8 m1).wf = true ∧ (Lit.int .u8 m2).wf = true ∧ InBytes w a3 n3 c3 l3 := by
  obtain ⟨⟨cs⟩, rfl, hsz⟩ := okWide_struct Tryd.underlying42 hv
  obtain ⟨fuel, hf⟩ := h
  obtain ⟨m0, m1, m2, a3, n3, c3, l3, e, u0, u1, u2, u3⟩ := ask04_of hf
  simp only [Value.cells] at e
  subst e
  exact ⟨m0, m1, m2, a3, n3, c3, l3, rfl, u0, u1, u2, u3⟩

/-- a question: its kind, its key, its bytes, its tag -/
structure Qn where
  kind : UInt8
  key : UInt8
  b : UInt8
  tag : List UInt8
instance : Inhabited Qn := ⟨⟨0, 0, 0, []⟩⟩
/-- what a cell-row of a question holds -/
def QnAt (w : World) (g o : Nat) (q : Qn) : Prop := ∃ p c, w.cell? ⟨g, o, none⟩ = some (.int .u8 (bv q.kind)) ∧ w.cell? ⟨g, o + 1, none⟩ = some (.int .u8 (bv q.key)) ∧ w.cell? ⟨g, o + 2, none⟩ = some (.int .u8 (bv q.b)) ∧ w.cell? ⟨g, o + 3, none⟩ = some (.slice p q.tag.length c) ∧ q.tag.length ≤ c ∧ c ≤ maxLen ∧ BytesAt w p q.tag
/-- what is told of questions that came in -/
def InQns (w : World) (a : Option Addr) (len cap : Nat) (qs : List Qn) : Prop := len = qs.length ∧ len ≤ cap ∧ cap ≤ maxLen ∧ (qs = [] ∨ ∃ g off, a = some ⟨g, off, none⟩ ∧ g < w.heap.size ∧ ∀ i, i < qs.length → QnAt w g (off + i * 4) (qs.getD i default))
theorem qns_in {a : Option Addr} {len cap : Nat} {d : DataW H} {ps : List MemPlace}
    (h : DataW.Trod enc Tryd.prog w 0 (fun _ => true) true 39 (.slice a len cap) d ps) : ∃ qs, InQns w a len cap qs := by
  obtain ⟨fuel, hfu⟩ := h
  have e4 : Tryd.prog.cellsOf 42 = 4 := by kernel_rfl
  rcases Go.Deep.open_slice Tryd.underlying39 hfu with ⟨h0, _⟩ | ⟨x, l, c, m, n, D, Pl, hcs, hb, hl, hm, hmm, hx, hi⟩
  · simp [Value.cells] at h0
    obtain ⟨rfl, rfl, rfl⟩ := h0
    exact ⟨[], rfl, Nat.le_refl _, Nat.zero_le _, .inl rfl⟩
  · simp [Value.cells] at hcs
    obtain ⟨rfl, rfl, rfl⟩ := hcs
    have hcell : ∀ i, i < len → ∃ q : Qn, ∃ p c, (∀ j, j < 4 → w.cell? ((x.add (i * 4)).add j) = some ([.int .u8 (bv q.kind), .int .u8 (bv q.key), .int .u8 (bv q.b), .slice p q.tag.length c].getD j undef)) ∧ q.tag.length ≤ c ∧ c ≤ maxLen ∧ BytesAt w p q.tag := fun i hil => by
      have him : i < m := by rw [hmm]; split <;> omega
      obtain ⟨cs', hc, ht'⟩ := hi i him
      rw [e4] at hc
      obtain ⟨_, hcl, hat⟩ := World.cells?_some hc
      obtain ⟨k0, k1, k2, p, pl, pc, t, rfl, f0, f1, f2, f3⟩ := ask04_of ht'
      obtain ⟨u0, rfl⟩ := exists_bv f0
      obtain ⟨u1, rfl⟩ := exists_bv f1
      obtain ⟨u2, rfl⟩ := exists_bv f2
      obtain ⟨g1, g2, g3, g4⟩ := f3
      refine ⟨⟨u0, u1, u2, t⟩, p, pc, fun j hj => ?_, by rw [← g1]; exact g2, g3, g4⟩
      have h5 := hat j (by show j < 4; exact hj)
      rw [g1] at h5
      rcases (show j = 0 ∨ j = 1 ∨ j = 2 ∨ j = 3 by omega) with rfl | rfl | rfl | rfl <;> exact h5
    by_cases hz : len = 0
    · subst hz; exact ⟨[], rfl, hl, hm, .inl rfl⟩
    · obtain ⟨hxs, hxb⟩ : x.spot = none ∧ x.block < w.heap.size := by
        obtain ⟨q, p, c, h2, _⟩ := hcell 0 (by omega)
        have h3 := h2 0 (by decide)
        have hx0 : (x.add (0 * 4)).add 0 = x := by simp [Addr.add]
        rw [hx0] at h3
        exact cell_block h3
      obtain ⟨xb, xo, xs⟩ := x
      simp only at hxs hxb
      subst hxs
      obtain ⟨E, hE⟩ := Go.Deep.choose_lt (α := Qn) hcell
      refine ⟨(List.range len).map E, by simp, hl, hm, .inr ⟨xb, xo, rfl, hxb, fun i hi => ?_⟩⟩
      have hi' : i < len := by simpa using hi
      obtain ⟨p, c, k, k1, k2, k3⟩ := hE i hi'
      have hg : ((List.range len).map E).getD i default = E i := by simp [List.getD, hi']
      rw [hg]
      have kk : ∀ j, j < 4 → w.cell? ⟨xb, xo + i * 4 + j, none⟩ = some ([.int .u8 (bv (E i).kind), .int .u8 (bv (E i).key), .int .u8 (bv (E i).b), .slice p (E i).tag.length c].getD j undef) := fun j hj => by
        have h5 := k j hj
        rw [WideShapes.add_plain, WideShapes.add_plain] at h5
        exact h5
      exact ⟨p, c, kk 0 (by decide), kk 1 (by decide), kk 2 (by decide), kk 3 (by decide), k1, k2, k3⟩
end
end Go.Proofs.YthmcmkdncaccbaaDoor
