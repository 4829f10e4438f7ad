/- How what LaneKeys is asked of is told to the walk. -/
import Derived.Test.YtadpiemjgfndgaaGreatDoorKa06
import Derived.Test.YtadpiemjgfndgaaGreatDoorKa02
import Derived.Deep.Slices
import Derived.Test.YtadpiemjgfndgaaGreatDoorKa25
import Derived.ChangeSame
import Derived.Deep.Fields
set_option maxRecDepth 100000
set_option linter.unusedSimpArgs false
set_option linter.unusedVariables false
namespace Go.Proofs.YtadpiemjgfndgaaGreatDoor
open Go.ChangeShapes Go.WideShapes Go.ChangeAt Go.RowKit
section
variable {H : Type} {enc : TypeId × Value → H} {w : World}
theorem slice13_of {n : Nat} {t e : TypeId} {c : Value} {x : DataW H × List MemPlace} (ht : Tryz.prog.underlying t = some (.slice e)) (h : DataW.trod enc Tryz.prog w 0 (fun _ => true) true n t [c] = some x) : ∃ a len cap, c = .slice a len cap := by
  rcases Go.Deep.open_slice ht h with ⟨h4, _⟩ | ⟨a, len, cap, _, _, _, _, h4, _⟩
  · exact ⟨_, _, _, by simpa using h4⟩
  · exact ⟨_, _, _, by simpa using h4⟩
theorem pairI_of {fuel : Nat} {cs : List Value} {x : DataW H × List MemPlace} (h : DataW.trod enc Tryz.prog w 0 (fun _ => true) true fuel 63 cs = some x) :
    ∃ (m0 m1 : Int), cs = [.int .i64 m0, .int .i64 m1] ∧ (Lit.int .i64 m0).wf = true ∧ (Lit.int .i64 m1).wf = true := by
  obtain ⟨xs, n, rfl, hx, hl, hxl, hg⟩ := DataW.trod_array Tryz.underlying63 h
  have e0 : Tryz.prog.cellsOf 3 = 1 := by kernel_rfl
  have eN : Tryz.prog.cellsOf 63 = 2 := by kernel_rfl
  have hl' : cs.length = 2 := by rw [← eN]; exact hl
  have h0 := hg 0 (by decide)
  have h1 := hg 1 (by decide)
  rw [e0, List.getElem?_eq_getElem (by omega : 0 < xs.length)] at h0
  rw [e0, List.getElem?_eq_getElem (by omega : 1 < xs.length)] at h1
  clear h hg hx
  match cs, hl' with
  | [q0, q1], _ =>
    have j0 : DataW.trod enc Tryz.prog w 0 (fun _ => true) true n 3 [q0] = some xs[0] := h0
    have j1 : DataW.trod enc Tryz.prog w 0 (fun _ => true) true n 3 [q1] = some xs[1] := h1
    obtain ⟨m0, r0, _, w0⟩ := DataW.trod_int Tryz.underlying3 j0
    obtain ⟨m1, r1, _, w1⟩ := DataW.trod_int Tryz.underlying3 j1
    simp only [List.cons.injEq, and_true] at r0 r1
    exact ⟨m0, m1, by rw [r0, r1], w0, w1⟩
theorem keys18_of {fuel : Nat} {cs : List Value} {x : DataW H × List MemPlace} (h : DataW.trod enc Tryz.prog w 0 (fun _ => true) true fuel 112 cs = some x) :
    ∃ (a0 : Option Addr) (n0 : Nat) (c0 : Nat) (l0 : List UInt8) (m0_1 : Int) (m1_1 : Int) (m0_2 : Int) (m1_2 : Int) (m3 : Int) (m4 : Int) (a5 : Option Addr) (n5 : Nat) (c5 : Nat) (l5 : List UInt8) (a6 : Option Addr) (n6 : Nat) (c6 : Nat) (l6 : List UInt8), cs = [.slice a0 n0 c0, .int .i64 m0_1, .int .i64 m1_1, .int .i64 m0_2, .int .i64 m1_2, .int .u32 m3, .int .u32 m4, .slice a5 n5 c5, .slice a6 n6 c6] ∧ Aj9 w a0 n0 c0 l0 ∧ (Lit.int .i64 m0_1).wf = true ∧ (Lit.int .i64 m1_1).wf = true ∧ (Lit.int .i64 m0_2).wf = true ∧ (Lit.int .i64 m1_2).wf = true ∧ (Lit.int .u32 m3).wf = true ∧ (Lit.int .u32 m4).wf = true ∧ Aj9 w a5 n5 c5 l5 ∧ Aj9 w a6 n6 c6 l6 := by
  obtain ⟨xs, n, rfl, hx, hl, hxl, hg⟩ := DataW.trod_struct Tryz.underlying112 h
  have h0 := hg 0 _ rfl
  have h1 := hg 1 _ rfl
  have h2 := hg 2 _ rfl
  have h3 := hg 3 _ rfl
  have h4 := hg 4 _ rfl
  have h5 := hg 5 _ rfl
  have h6 := hg 6 _ rfl
  have hxl' : xs.length = 7 := hxl
  rw [List.getElem?_eq_getElem (by omega : 0 < xs.length)] at h0
  rw [List.getElem?_eq_getElem (by omega : 1 < xs.length)] at h1
  rw [List.getElem?_eq_getElem (by omega : 2 < xs.length)] at h2
  rw [List.getElem?_eq_getElem (by omega : 3 < xs.length)] at h3
  rw [List.getElem?_eq_getElem (by omega : 4 < xs.length)] at h4
  rw [List.getElem?_eq_getElem (by omega : 5 < xs.length)] at h5
  rw [List.getElem?_eq_getElem (by omega : 6 < xs.length)] at h6
  have e0 : Tryz.prog.cellsOf 22 = 1 := by kernel_rfl
  have e1 : Tryz.prog.cellsOf 63 = 2 := by kernel_rfl
  have e2 : Tryz.prog.cellsOf 110 = 1 := by kernel_rfl
  have eN : Tryz.prog.cellsOf 112 = 9 := by kernel_rfl
  have hl' : cs.length = 9 := by rw [← eN]; exact hl
  have k0 : DataW.trod enc Tryz.prog w 0 (fun _ => true) true n 22 ((cs.drop 0).take (Tryz.prog.cellsOf 22)) = some xs[0] := h0
  rw [e0] at k0
  have k1 : DataW.trod enc Tryz.prog w 0 (fun _ => true) true n 63 ((cs.drop 1).take (Tryz.prog.cellsOf 63)) = some xs[1] := h1
  rw [e1] at k1
  have k2 : DataW.trod enc Tryz.prog w 0 (fun _ => true) true n 63 ((cs.drop 3).take (Tryz.prog.cellsOf 63)) = some xs[2] := h2
  rw [e1] at k2
  have k3 : DataW.trod enc Tryz.prog w 0 (fun _ => true) true n 110 ((cs.drop 5).take (Tryz.prog.cellsOf 110)) = some xs[3] := h3
  rw [e2] at k3
  have k4 : DataW.trod enc Tryz.prog w 0 (fun _ => true) true n 110 ((cs.drop 6).take (Tryz.prog.cellsOf 110)) = some xs[4] := h4
  rw [e2] at k4
  have k5 : DataW.trod enc Tryz.prog w 0 (fun _ => true) true n 22 ((cs.drop 7).take (Tryz.prog.cellsOf 22)) = some xs[5] := h5
  rw [e0] at k5
  have k6 : DataW.trod enc Tryz.prog w 0 (fun _ => true) true n 22 ((cs.drop 8).take (Tryz.prog.cellsOf 22)) = some xs[6] := h6
  rw [e0] at k6
  clear h hg hx h0 h1 h2 h3 h4 h5 h6
  match cs, hl' with
  | [q0, q1, q2, q3, q4, q5, q6, q7, q8], _ =>
    have j0 : DataW.trod enc Tryz.prog w 0 (fun _ => true) true n 22 [q0] = some xs[0] := k0
    obtain ⟨a0, n0, c0, rfl⟩ := slice13_of Tryz.underlying22 j0
    obtain ⟨l0, w0⟩ := Bn0 (enc := enc) (w := w) (a := a0) (len := n0) (cap := c0) (d := xs[0].1) (ps := xs[0].2) Tryz.underlying22 Tryz.underlying5 (by kernel_rfl) ⟨n, j0⟩
    have j1 : DataW.trod enc Tryz.prog w 0 (fun _ => true) true n 63 [q1, q2] = some xs[1] := k1
    obtain ⟨m0_1, m1_1, r1, w1_0, w1_1⟩ := pairI_of j1
    simp only [List.cons.injEq, and_true] at r1
    obtain ⟨r1_0, r1_1⟩ := r1
    have j2 : DataW.trod enc Tryz.prog w 0 (fun _ => true) true n 63 [q3, q4] = some xs[2] := k2
    obtain ⟨m0_2, m1_2, r2, w2_0, w2_1⟩ := pairI_of j2
    simp only [List.cons.injEq, and_true] at r2
    obtain ⟨r2_0, r2_1⟩ := r2
    have j3 : DataW.trod enc Tryz.prog w 0 (fun _ => true) true n 110 [q5] = some xs[3] := k3
    obtain ⟨m3, r3, _, w3⟩ := DataW.trod_int Tryz.underlying110 j3
    simp only [List.cons.injEq, and_true] at r3
    have j4 : DataW.trod enc Tryz.prog w 0 (fun _ => true) true n 110 [q6] = some xs[4] := k4
    obtain ⟨m4, r4, _, w4⟩ := DataW.trod_int Tryz.underlying110 j4
    simp only [List.cons.injEq, and_true] at r4
    have j5 : DataW.trod enc Tryz.prog w 0 (fun _ => true) true n 22 [q7] = some xs[5] := k5
    obtain ⟨a5, n5, c5, rfl⟩ := slice13_of Tryz.underlying22 j5
    obtain ⟨l5, w5⟩ := Bn0 (enc := enc) (w := w) (a := a5) (len := n5) (cap := c5) (d := xs[5].1) (ps := xs[5].2) Tryz.underlying22 Tryz.underlying5 (by kernel_rfl) ⟨n, j5⟩
    have j6 : DataW.trod enc Tryz.prog w 0 (fun _ => true) true n 22 [q8] = some xs[6] := k6
    obtain ⟨a6, n6, c6, rfl⟩ := slice13_of Tryz.underlying22 j6
    obtain ⟨l6, w6⟩ := Bn0 (enc := enc) (w := w) (a := a6) (len := n6) (cap := c6) (d := xs[6].1) (ps := xs[6].2) Tryz.underlying22 Tryz.underlying5 (by kernel_rfl) ⟨n, j6⟩
    exact ⟨a0, n0, c0, l0, m0_1, m1_1, m0_2, m1_2, m3, m4, a5, n5, c5, l5, a6, n6, c6, l6, by rw [r1_0, r1_1, r2_0, r2_1, r3, r4], w0, w1_0, w1_1, w2_0, w2_1, w3, w4, w5, w6⟩
theorem keys18_in {r : Reach} {b0 : Nat} {v : Value} {d : DataW H} {p : List MemPlace} (hv : Value.okWide Tryz.prog w r b0 112 v) (h : DataW.Trod enc Tryz.prog w 0 (fun _ => true) true 112 v d p) :
    ∃ (a0 : Option Addr) (n0 : Nat) (c0 : Nat) (l0 : List UInt8) (m0_1 : Int) (m1_1 : Int) (m0_2 : Int) (m1_2 : Int) (m3 : Int) (m4 : Int) (a5 : Option Addr) (n5 : Nat) (c5 : Nat) (l5 : List UInt8) (a6 : Option Addr) (n6 : Nat) (c6 : Nat) (l6 : List UInt8), v = .agg #[.slice a0 n0 c0, .int .i64 m0_1, .int .i64 m1_1, .int .i64 m0_2, .int .i64 m1_2, .int .u32 m3, .int .u32 m4, .slice a5 n5 c5, .slice a6 n6 c6] ∧ Aj9 w a0 n0 c0 l0 ∧ (Lit.int .i64 m0_1).wf = true ∧ (Lit.int .i64 m1_1).wf = true ∧ (Lit.int .i64 m0_2).wf = true ∧ (Lit.int .i64 m1_2).wf = true ∧ (Lit.int .u32 m3).wf = true ∧ (Lit.int .u32 m4).wf = true ∧ Aj9 w a5 n5 c5 l5 ∧ Aj9 w a6 n6 c6 l6 := by
  obtain ⟨⟨cs⟩, rfl, hsz⟩ := okWide_struct Tryz.underlying112 hv
  obtain ⟨fuel, hf⟩ := h
  obtain ⟨a0, n0, c0, l0, m0_1, m1_1, m0_2, m1_2, m3, m4, a5, n5, c5, l5, a6, n6, c6, l6, e, u0, u1, u2, u3, u4, u5, u6, u7, u8⟩ := keys18_of hf
  simp only [Value.cells] at e
  subst e
  exact ⟨a0, n0, c0, l0, m0_1, m1_1, m0_2, m1_2, m3, m4, a5, n5, c5, l5, a6, n6, c6, l6, rfl, u0, u1, u2, u3, u4, u5, u6, u7, u8⟩
end
theorem laneKeys_in (_t : True) (W : World) (hks : I9 W) (ka : Option Addr) (kn kc : Nat) (key : List UInt8) (e0 e1 f0 f1 m n : Int) (aa : Option Addr) (an ac : Nat) (A : List UInt8) (bb : Option Addr) (bn bc : Nat) (B : List UInt8)
    (u0 : Aj9 W ka kn kc key) (_u1 : (Lit.int .i64 e0).wf = true) (_u2 : (Lit.int .i64 e1).wf = true) (_u3 : (Lit.int .i64 f0).wf = true) (_u4 : (Lit.int .i64 f1).wf = true) (u5 : (Lit.int .u32 m).wf = true) (u6 : (Lit.int .u32 n).wf = true) (u7 : Aj9 W aa an ac A) (u8 : Aj9 W bb bn bc B) :
    Calls Tryz.prog 11 #[.agg #[.slice ka kn kc, .int .i64 e0, .int .i64 e1, .int .i64 f0, .int .i64 f1, .int .u32 m, .int .u32 n, .slice aa an ac, .slice bb bn bc]] W (G6 W true) := by
  obtain ⟨rfl, k1, k2, k3⟩ := u0
  obtain ⟨rfl, a1, a2, a3⟩ := u7
  obtain ⟨rfl, b1, b2, b3⟩ := u8
  obtain ⟨m, rfl⟩ := Int.eq_ofNat_of_zero_le (show 0 ≤ m from by simp [Lit.wf, IntKind.min, IntKind.max, IntKind.bits, IntKind.signed] at u5; omega)
  obtain ⟨n, rfl⟩ := Int.eq_ofNat_of_zero_le (show 0 ≤ n from by simp [Lit.wf, IntKind.min, IntKind.max, IntKind.bits, IntKind.signed] at u6; omega)
  exact Ci7 ka aa bb kc ac bc key A B e0 e1 f0 f1 m n W ⟨a1, a2⟩ ⟨b1, b2⟩ k3 a3 b3 hks
end Go.Proofs.YtadpiemjgfndgaaGreatDoor
