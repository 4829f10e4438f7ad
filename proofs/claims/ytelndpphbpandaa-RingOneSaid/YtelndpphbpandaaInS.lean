/- How what RingOne is asked of is told to the walks. -/
import Derived.Test.YtelndpphbpandaaInR
set_option linter.unusedSimpArgs false
set_option linter.unusedVariables false
namespace Go.Proofs.Ytelndpphbpandaa
open Go.ChangeShapes Go.WideShapes Go.ChangeAt Go.RowKit

/-- what RingOne is asked of -/
theorem one_in {H : Type} {enc : TypeId × Value → H} {w : World} {r : Reach} {b0 : Nat} {v : Value} {d : DataW H} {p : List MemPlace}
    (hv : Value.okWide Try.prog w r b0 59 v) (h : DataW.Trod enc Try.prog w 0 (fun _ => true) true 59 v d p) :
    ∃ (R : Rg) (no a b : Int), v = .agg (R.L ++ [Value.int .i64 no, Value.int .u8 a, Value.int .u8 b]).toArray ∧ InRing w R ∧ (Lit.int .i64 no).wf = true ∧ (Lit.int .u8 a).wf = true ∧ (Lit.int .u8 b).wf = true := by
  obtain ⟨⟨cs⟩, rfl, hsz⟩ := okWide_struct Try.underlying59 hv
  obtain ⟨fuel, hf⟩ := h
  obtain ⟨xs, n, rfl, hx, hl, hxl, hg⟩ := DataW.trod_struct Try.underlying59 hf
  have h0 := hg 0 _ rfl
  have h1 := hg 1 _ rfl
  have h2 := hg 2 _ rfl
  have h3 := hg 3 _ rfl
  have hxl' : xs.length = 4 := hxl
  rw [List.getElem?_eq_getElem (by omega : 0 < xs.length)] at h0
  rw [List.getElem?_eq_getElem (by omega : 1 < xs.length)] at h1
  rw [List.getElem?_eq_getElem (by omega : 2 < xs.length)] at h2
  rw [List.getElem?_eq_getElem (by omega : 3 < xs.length)] at h3
  have e0 : Try.prog.cellsOf 3 = 1 := by kernel_rfl
  have e1 : Try.prog.cellsOf 5 = 1 := by kernel_rfl
  have e8 : Try.prog.cellsOf 26 = 8 := by kernel_rfl
  have e11 : Try.prog.cellsOf 59 = 11 := by kernel_rfl
  have hl' : cs.length = 11 := by rw [← e11]; exact hl
  have k0 : DataW.trod enc Try.prog w 0 (fun _ => true) true n 26 ((cs.drop 0).take (Try.prog.cellsOf 26)) = some xs[0] := h0
  have k1 : DataW.trod enc Try.prog w 0 (fun _ => true) true n 3 ((cs.drop 8).take (Try.prog.cellsOf 3)) = some xs[1] := h1
  have k2 : DataW.trod enc Try.prog w 0 (fun _ => true) true n 5 ((cs.drop 9).take (Try.prog.cellsOf 5)) = some xs[2] := h2
  have k3 : DataW.trod enc Try.prog w 0 (fun _ => true) true n 5 ((cs.drop 10).take (Try.prog.cellsOf 5)) = some xs[3] := h3
  rw [e8] at k0
  rw [e0] at k1
  rw [e1] at k2 k3
  obtain ⟨R, qR, iR⟩ := ring_of k0
  obtain ⟨no, q1, _, w1⟩ := DataW.trod_int Try.underlying3 k1
  obtain ⟨a, q2, _, w2⟩ := DataW.trod_int Try.underlying5 k2
  obtain ⟨b, q3, _, w3⟩ := DataW.trod_int Try.underlying5 k3
  refine ⟨R, no, a, b, ?_, iR, w1, w2, w3⟩
  have hcs : cs = (cs.drop 0).take 8 ++ ((cs.drop 8).take 1 ++ ((cs.drop 9).take 1 ++ (cs.drop 10).take 1)) := by
    match cs, hl' with
    | [c0, c1, c2, c3, c4, c5, c6, c7, c8, c9, c10], _ => rfl
  rw [qR, q1, q2, q3] at hcs
  rw [hcs]; rfl
end Go.Proofs.Ytelndpphbpandaa
