/- How stores that came in are told to the walks. -/
import Derived.Test.YtiaigekmkmampaaDoorInC
import Derived.Test.YtiaigekmkmampaaDoorInB
import Derived.ChangeSame
import Derived.Deep.Fields
import Derived.Deep.Slices
set_option linter.unusedSimpArgs false
set_option linter.unusedVariables false
namespace Go.Proofs.YtiaigekmkmampaaDoor
open Go.ChangeShapes Go.WideShapes Go.ChangeAt Go.RowKit

section
variable {H : Type} {enc : TypeId × Value → H} {w : World}
theorem slice13_of {n : Nat} {t e : TypeId} {c : Value} {x : DataW H × List MemPlace} (ht : Tryd.prog.underlying t = some (.slice e)) (h : DataW.trod enc Tryd.prog w 0 (fun _ => true) true n t [c] = some x) : ∃ a len cap, c = .slice a len cap := by
  rcases Go.Deep.open_slice ht h with ⟨h4, _⟩ | ⟨a, len, cap, _, _, _, _, h4, _⟩
  · exact ⟨_, _, _, by simpa using h4⟩
  · exact ⟨_, _, _, by simpa using h4⟩
theorem store_of {fuel : Nat} {cs : List Value} {x : DataW H × List MemPlace} (h : DataW.trod enc Tryd.prog w 0 (fun _ => true) true fuel 24 cs = some x) :
    ∃ (a0 : Option Addr) (n0 : Nat) (c0 : Nat) (l0 : List UInt8) (a1 : Option Addr) (n1 : Nat) (c1 : Nat) (l1 : List UInt8), cs = [.slice a0 n0 c0, .slice a1 n1 c1] ∧ InBytes w a0 n0 c0 l0 ∧ InBytes w a1 n1 c1 l1 := by
  obtain ⟨xs, n, rfl, hx, hl, hxl, hg⟩ := DataW.trod_struct Tryd.underlying24 h
  have h0 := hg 0 _ rfl
  have h1 := hg 1 _ rfl
  have hxl' : xs.length = 2 := hxl
  rw [List.getElem?_eq_getElem (by omega : 0 < xs.length)] at h0
  rw [List.getElem?_eq_getElem (by omega : 1 < xs.length)] at h1
  have e0 : Tryd.prog.cellsOf 22 = 1 := by kernel_rfl
  have eN : Tryd.prog.cellsOf 24 = 2 := by kernel_rfl
  have hl' : cs.length = 2 := by rw [← eN]; exact hl
  have k0 : DataW.trod enc Tryd.prog w 0 (fun _ => true) true n 22 ((cs.drop 0).take (Tryd.prog.cellsOf 22)) = some xs[0] := h0
  rw [e0] at k0
  have k1 : DataW.trod enc Tryd.prog w 0 (fun _ => true) true n 22 ((cs.drop 1).take (Tryd.prog.cellsOf 22)) = some xs[1] := h1
  rw [e0] at k1
  clear h hg hx h0 h1
  match cs, hl' with
  | [q0, q1], _ =>
    have j0 : DataW.trod enc Tryd.prog w 0 (fun _ => true) true n 22 [q0] = some xs[0] := k0
    obtain ⟨a0, n0, c0, rfl⟩ := slice13_of Tryd.underlying22 j0
    obtain ⟨l0, w0⟩ := bytes_in (enc := enc) (w := w) (a := a0) (len := n0) (cap := c0) (d := xs[0].1) (ps := xs[0].2) Tryd.underlying22 Tryd.underlying5 (by kernel_rfl) ⟨n, j0⟩
    have j1 : DataW.trod enc Tryd.prog w 0 (fun _ => true) true n 22 [q1] = some xs[1] := k1
    obtain ⟨a1, n1, c1, rfl⟩ := slice13_of Tryd.underlying22 j1
    obtain ⟨l1, w1⟩ := bytes_in (enc := enc) (w := w) (a := a1) (len := n1) (cap := c1) (d := xs[1].1) (ps := xs[1].2) Tryd.underlying22 Tryd.underlying5 (by kernel_rfl) ⟨n, j1⟩
    exact ⟨a0, n0, c0, l0, a1, n1, c1, l1, rfl, w0, w1⟩
theorem store_in {r : Reach} {b0 : Nat} {v : Value} {d : DataW H} {p : List MemPlace} (hv : Value.okWide Tryd.prog w r b0 24 v) (h : DataW.Trod enc Tryd.prog w 0 (fun _ => true) true 24 v d p) :
    ∃ (a0 : Option Addr) (n0 : Nat) (c0 : Nat) (l0 : List UInt8) (a1 : Option Addr) (n1 : Nat) (c1 : Nat) (l1 : List UInt8), v = .agg #[.slice a0 n0 c0, .slice a1 n1 c1] ∧ InBytes w a0 n0 c0 l0 ∧ InBytes w a1 n1 c1 l1 := by
  obtain ⟨⟨cs⟩, rfl, hsz⟩ := okWide_struct Tryd.underlying24 hv
  obtain ⟨fuel, hf⟩ := h
  obtain ⟨a0, n0, c0, l0, a1, n1, c1, l1, e, u0, u1⟩ := store_of hf
  simp only [Value.cells] at e
  subst e
  exact ⟨a0, n0, c0, l0, a1, n1, c1, l1, rfl, u0, u1⟩
theorem tells13_of {fuel : Nat} {cs : List Value} {x : DataW H × List MemPlace} (h : DataW.trod enc Tryd.prog w 0 (fun _ => true) true fuel 26 cs = some x) :
    ∃ (m0 : Int) (a1 : Option Addr) (n1 : Nat) (c1 : Nat) (l1 : List UInt8) (a0_2 : Option Addr) (n0_2 : Nat) (c0_2 : Nat) (l0_2 : List UInt8) (a1_2 : Option Addr) (n1_2 : Nat) (c1_2 : Nat) (l1_2 : List UInt8) (a0_3 : Option Addr) (n0_3 : Nat) (c0_3 : Nat) (l0_3 : List UInt8) (a1_3 : Option Addr) (n1_3 : Nat) (c1_3 : Nat) (l1_3 : List UInt8), cs = [.int .i64 m0, .slice a1 n1 c1, .slice a0_2 n0_2 c0_2, .slice a1_2 n1_2 c1_2, .slice a0_3 n0_3 c0_3, .slice a1_3 n1_3 c1_3] ∧ (Lit.int .i64 m0).wf = true ∧ InBytes w a1 n1 c1 l1 ∧ InBytes w a0_2 n0_2 c0_2 l0_2 ∧ InBytes w a1_2 n1_2 c1_2 l1_2 ∧ InBytes w a0_3 n0_3 c0_3 l0_3 ∧ InBytes w a1_3 n1_3 c1_3 l1_3 := by
  obtain ⟨xs, n, rfl, hx, hl, hxl, hg⟩ := DataW.trod_struct Tryd.underlying26 h
  have h0 := hg 0 _ rfl
  have h1 := hg 1 _ rfl
  have h2 := hg 2 _ rfl
  have h3 := hg 3 _ rfl
  have hxl' : xs.length = 4 := hxl
  rw [List.getElem?_eq_getElem (by omega : 0 < xs.length)] at h0
  rw [List.getElem?_eq_getElem (by omega : 1 < xs.length)] at h1
  rw [List.getElem?_eq_getElem (by omega : 2 < xs.length)] at h2
  rw [List.getElem?_eq_getElem (by omega : 3 < xs.length)] at h3
  have e0 : Tryd.prog.cellsOf 3 = 1 := by kernel_rfl
  have e1 : Tryd.prog.cellsOf 22 = 1 := by kernel_rfl
  have e2 : Tryd.prog.cellsOf 24 = 2 := by kernel_rfl
  have eN : Tryd.prog.cellsOf 26 = 6 := by kernel_rfl
  have hl' : cs.length = 6 := by rw [← eN]; exact hl
  have k0 : DataW.trod enc Tryd.prog w 0 (fun _ => true) true n 3 ((cs.drop 0).take (Tryd.prog.cellsOf 3)) = some xs[0] := h0
  rw [e0] at k0
  have k1 : DataW.trod enc Tryd.prog w 0 (fun _ => true) true n 22 ((cs.drop 1).take (Tryd.prog.cellsOf 22)) = some xs[1] := h1
  rw [e1] at k1
  have k2 : DataW.trod enc Tryd.prog w 0 (fun _ => true) true n 24 ((cs.drop 2).take (Tryd.prog.cellsOf 24)) = some xs[2] := h2
  rw [e2] at k2
  have k3 : DataW.trod enc Tryd.prog w 0 (fun _ => true) true n 24 ((cs.drop 4).take (Tryd.prog.cellsOf 24)) = some xs[3] := h3
  rw [e2] at k3
  clear h hg hx h0 h1 h2 h3
  match cs, hl' with
  | [q0, q1, q2, q3, q4, q5], _ =>
    have j0 : DataW.trod enc Tryd.prog w 0 (fun _ => true) true n 3 [q0] = some xs[0] := k0
    obtain ⟨m0, r0, _, w0⟩ := DataW.trod_int Tryd.underlying3 j0
    simp only [List.cons.injEq, and_true] at r0
    have j1 : DataW.trod enc Tryd.prog w 0 (fun _ => true) true n 22 [q1] = some xs[1] := k1
    obtain ⟨a1, n1, c1, rfl⟩ := slice13_of Tryd.underlying22 j1
    obtain ⟨l1, w1⟩ := bytes_in (enc := enc) (w := w) (a := a1) (len := n1) (cap := c1) (d := xs[1].1) (ps := xs[1].2) Tryd.underlying22 Tryd.underlying5 (by kernel_rfl) ⟨n, j1⟩
    have j2 : DataW.trod enc Tryd.prog w 0 (fun _ => true) true n 24 [q2, q3] = some xs[2] := k2
    obtain ⟨a0_2, n0_2, c0_2, l0_2, a1_2, n1_2, c1_2, l1_2, r2, w2_0, w2_1⟩ := store_of j2
    simp only [List.cons.injEq, and_true] at r2
    obtain ⟨r2_0, r2_1⟩ := r2
    have j3 : DataW.trod enc Tryd.prog w 0 (fun _ => true) true n 24 [q4, q5] = some xs[3] := k3
    obtain ⟨a0_3, n0_3, c0_3, l0_3, a1_3, n1_3, c1_3, l1_3, r3, w3_0, w3_1⟩ := store_of j3
    simp only [List.cons.injEq, and_true] at r3
    obtain ⟨r3_0, r3_1⟩ := r3
    exact ⟨m0, a1, n1, c1, l1, a0_2, n0_2, c0_2, l0_2, a1_2, n1_2, c1_2, l1_2, a0_3, n0_3, c0_3, l0_3, a1_3, n1_3, c1_3, l1_3, by rw [r0, r2_0, r2_1, r3_0, r3_1], w0, w1, w2_0, w2_1, w3_0, w3_1⟩
theorem tells13_in {r : Reach} {b0 : Nat} {v : Value} {d : DataW H} {p : List MemPlace} (hv : Value.okWide Tryd.prog w r b0 26 v) (h : DataW.Trod enc Tryd.prog w 0 (fun _ => true) true 26 v d p) :
    ∃ (m0 : Int) (a1 : Option Addr) (n1 : Nat) (c1 : Nat) (l1 : List UInt8) (a0_2 : Option Addr) (n0_2 : Nat) (c0_2 : Nat) (l0_2 : List UInt8) (a1_2 : Option Addr) (n1_2 : Nat) (c1_2 : Nat) (l1_2 : List UInt8) (a0_3 : Option Addr) (n0_3 : Nat) (c0_3 : Nat) (l0_3 : List UInt8) (a1_3 : Option Addr) (n1_3 : Nat) (c1_3 : Nat) (l1_3 : List UInt8), v = .agg #[.int .i64 m0, .slice a1 n1 c1, .slice a0_2 n0_2 c0_2, .slice a1_2 n1_2 c1_2, .slice a0_3 n0_3 c0_3, .slice a1_3 n1_3 c1_3] ∧ (Lit.int .i64 m0).wf = true ∧ InBytes w a1 n1 c1 l1 ∧ InBytes w a0_2 n0_2 c0_2 l0_2 ∧ InBytes w a1_2 n1_2 c1_2 l1_2 ∧ InBytes w a0_3 n0_3 c0_3 l0_3 ∧ InBytes w a1_3 n1_3 c1_3 l1_3 := by
  obtain ⟨⟨cs⟩, rfl, hsz⟩ := okWide_struct Tryd.underlying26 hv
  obtain ⟨fuel, hf⟩ := h
  obtain ⟨m0, a1, n1, c1, l1, a0_2, n0_2, c0_2, l0_2, a1_2, n1_2, c1_2, l1_2, a0_3, n0_3, c0_3, l0_3, a1_3, n1_3, c1_3, l1_3, e, u0, u1, u2, u3, u4, u5⟩ := tells13_of hf
  simp only [Value.cells] at e
  subst e
  exact ⟨m0, a1, n1, c1, l1, a0_2, n0_2, c0_2, l0_2, a1_2, n1_2, c1_2, l1_2, a0_3, n0_3, c0_3, l0_3, a1_3, n1_3, c1_3, l1_3, rfl, u0, u1, u2, u3, u4, u5⟩
theorem rec13_of {fuel : Nat} {cs : List Value} {x : DataW H × List MemPlace} (h : DataW.trod enc Tryd.prog w 0 (fun _ => true) true fuel 47 cs = some x) :
    ∃ (m0 : Int) (m1 : Int) (m2 : Int) (m3 : Int), cs = [.int .i64 m0, .int .i64 m1, .int .u8 m2, .int .u8 m3] ∧ (Lit.int .i64 m0).wf = true ∧ (Lit.int .i64 m1).wf = true ∧ (Lit.int .u8 m2).wf = true ∧ (Lit.int .u8 m3).wf = true := by
  obtain ⟨xs, n, rfl, hx, hl, hxl, hg⟩ := DataW.trod_struct Tryd.underlying47 h
  have h0 := hg 0 _ rfl
  have h1 := hg 1 _ rfl
  have h2 := hg 2 _ rfl
  have h3 := hg 3 _ rfl
  have hxl' : xs.length = 4 := hxl
  rw [List.getElem?_eq_getElem (by omega : 0 < xs.length)] at h0
  rw [List.getElem?_eq_getElem (by omega : 1 < xs.length)] at h1
  rw [List.getElem?_eq_getElem (by omega : 2 < xs.length)] at h2
  rw [List.getElem?_eq_getElem (by omega : 3 < xs.length)] at h3
  have e0 : Tryd.prog.cellsOf 3 = 1 := by kernel_rfl
  have e1 : Tryd.prog.cellsOf 5 = 1 := by kernel_rfl
  have eN : Tryd.prog.cellsOf 47 = 4 := by kernel_rfl
  have hl' : cs.length = 4 := by rw [← eN]; exact hl
  have k0 : DataW.trod enc Tryd.prog w 0 (fun _ => true) true n 3 ((cs.drop 0).take (Tryd.prog.cellsOf 3)) = some xs[0] := h0
  rw [e0] at k0
  have k1 : DataW.trod enc Tryd.prog w 0 (fun _ => true) true n 3 ((cs.drop 1).take (Tryd.prog.cellsOf 3)) = some xs[1] := h1
  rw [e0] at k1
  have k2 : DataW.trod enc Tryd.prog w 0 (fun _ => true) true n 5 ((cs.drop 2).take (Tryd.prog.cellsOf 5)) = some xs[2] := h2
  rw [e1] at k2
  have k3 : DataW.trod enc Tryd.prog w 0 (fun _ => true) true n 5 ((cs.drop 3).take (Tryd.prog.cellsOf 5)) = some xs[3] := h3
  rw [e1] at k3
  clear h hg hx h0 h1 h2 h3
  match cs, hl' with
  | [q0, q1, q2, q3], _ =>
    have j0 : DataW.trod enc Tryd.prog w 0 (fun _ => true) true n 3 [q0] = some xs[0] := k0
    obtain ⟨m0, r0, _, w0⟩ := DataW.trod_int Tryd.underlying3 j0
    simp only [List.cons.injEq, and_true] at r0
    have j1 : DataW.trod enc Tryd.prog w 0 (fun _ => true) true n 3 [q1] = some xs[1] := k1
    obtain ⟨m1, r1, _, w1⟩ := DataW.trod_int Tryd.underlying3 j1
    simp only [List.cons.injEq, and_true] at r1
    have j2 : DataW.trod enc Tryd.prog w 0 (fun _ => true) true n 5 [q2] = some xs[2] := k2
    obtain ⟨m2, r2, _, w2⟩ := DataW.trod_int Tryd.underlying5 j2
    simp only [List.cons.injEq, and_true] at r2
    have j3 : DataW.trod enc Tryd.prog w 0 (fun _ => true) true n 5 [q3] = some xs[3] := k3
    obtain ⟨m3, r3, _, w3⟩ := DataW.trod_int Tryd.underlying5 j3
    simp only [List.cons.injEq, and_true] at r3
    exact ⟨m0, m1, m2, m3, by rw [r0, r1, r2, r3], w0, w1, w2, w3⟩
theorem rec13_in {r : Reach} {b0 : Nat} {v : Value} {d : DataW H} {p : List MemPlace} (hv : Value.okWide Tryd.prog w r b0 47 v) (h : DataW.Trod enc Tryd.prog w 0 (fun _ => true) true 47 v d p) :
    ∃ (m0 : Int) (m1 : Int) (m2 : Int) (m3 : Int), v = .agg #[.int .i64 m0, .int .i64 m1, .int .u8 m2, .int .u8 m3] ∧ (Lit.int .i64 m0).wf = true ∧ (Lit.int .i64 m1).wf = true ∧ (Lit.int .u8 m2).wf = true ∧ (Lit.int .u8 m3).wf = true := by
  obtain ⟨⟨cs⟩, rfl, hsz⟩ := okWide_struct Tryd.underlying47 hv
  obtain ⟨fuel, hf⟩ := h
  obtain ⟨m0, m1, m2, m3, e, u0, u1, u2, u3⟩ := rec13_of hf
  simp only [Value.cells] at e
  subst e
  exact ⟨m0, m1, m2, m3, rfl, u0, u1, u2, u3⟩
end
end Go.Proofs.YtiaigekmkmampaaDoor
