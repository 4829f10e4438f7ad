/- How what HubApart is asked of is told to the walk. -/
import Derived.Test.YtcccgjpmfbmplaaInL
set_option linter.unusedSimpArgs false
set_option linter.unusedVariables false
namespace Go.Proofs.Ytcccgjpmfbmplaa
open Go.ChangeShapes Go.WideShapes Go.ChangeAt Go.RowKit

section
variable {H : Type} {enc : TypeId × Value → H} {w : World}
theorem apart_of {fuel : Nat} {cs : List Value} {x : DataW H × List MemPlace} (h : DataW.trod enc Try.prog w 0 (fun _ => true) true fuel 51 cs = some x) :
    ∃ (hv : Hv) (s : Nat → Fd) (c : Int) (a : Option Addr) (n ca : Nat) (la : List UInt8) (ot : Int), cs = hv.L ++ [.int .i64 c, .slice a n ca, .int .u8 ot] ∧ HbAt w hv s ∧ InBytes w a n ca la ∧ (Lit.int .u8 ot).wf = true := by
  obtain ⟨xs, n, rfl, hx, hl, hxl, hg⟩ := DataW.trod_struct Try.underlying51 h
  have hxl' : xs.length = 4 := hxl
  have h0 := hg 0 _ rfl
  have h1 := hg 1 _ rfl
  have h2 := hg 2 _ rfl
  have h3 := hg 3 _ rfl
  rw [List.getElem?_eq_getElem (by omega : 0 < xs.length)] at h0
  rw [List.getElem?_eq_getElem (by omega : 1 < xs.length)] at h1
  rw [List.getElem?_eq_getElem (by omega : 2 < xs.length)] at h2
  rw [List.getElem?_eq_getElem (by omega : 3 < xs.length)] at h3
  have e0 : Try.prog.cellsOf 29 = 21 := by kernel_rfl
  have e1 : Try.prog.cellsOf 5 = 1 := by kernel_rfl
  have e2 : Try.prog.cellsOf 23 = 1 := by kernel_rfl
  have e3 : Try.prog.cellsOf 3 = 1 := by kernel_rfl
  have e8 : Try.prog.cellsOf 51 = 24 := by kernel_rfl
  have hl' : cs.length = 24 := by rw [← e8]; exact hl
  have k0 : DataW.trod enc Try.prog w 0 (fun _ => true) true n 29 ((cs.drop 0).take (Try.prog.cellsOf 29)) = some xs[0] := h0
  have k1 : DataW.trod enc Try.prog w 0 (fun _ => true) true n 3 ((cs.drop 21).take (Try.prog.cellsOf 3)) = some xs[1] := h1
  have k2 : DataW.trod enc Try.prog w 0 (fun _ => true) true n 23 ((cs.drop 22).take (Try.prog.cellsOf 23)) = some xs[2] := h2
  have k3 : DataW.trod enc Try.prog w 0 (fun _ => true) true n 5 ((cs.drop 23).take (Try.prog.cellsOf 5)) = some xs[3] := h3
  rw [e0] at k0
  rw [e3] at k1
  rw [e2] at k2
  rw [e1] at k3
  obtain ⟨hv, s, q0, hH⟩ := hub_of k0
  obtain ⟨c21, c22, c23, hc⟩ : ∃ c21 c22 c23, cs.drop 21 = [c21, c22, c23] := by
    have : (cs.drop 21).length = 3 := by rw [List.length_drop]; omega
    match hd : cs.drop 21, this with
    | [p, q, r], _ => exact ⟨p, q, r, rfl⟩
  have d22 : cs.drop 22 = [c22, c23] := by have := congrArg (List.drop 1) hc; rw [List.drop_drop] at this; exact this
  have d23 : cs.drop 23 = [c23] := by have := congrArg (List.drop 2) hc; rw [List.drop_drop] at this; exact this
  rw [hc] at k1
  rw [d22] at k2
  rw [d23] at k3
  obtain ⟨m1, q1, _, _⟩ := DataW.trod_int Try.underlying3 (show DataW.trod enc Try.prog w 0 (fun _ => true) true n 3 [c21] = some xs[1] from k1)
  obtain ⟨a, na, ca, la, q2, ha⟩ := sl_of9 (show DataW.trod enc Try.prog w 0 (fun _ => true) true n 23 [c22] = some xs[2] from k2)
  obtain ⟨m3, q3, _, hw⟩ := DataW.trod_int Try.underlying5 (show DataW.trod enc Try.prog w 0 (fun _ => true) true n 5 [c23] = some xs[3] from k3)
  simp only [List.cons.injEq, and_true] at q1 q3
  refine ⟨hv, s, m1, a, na, ca, la, m3, ?_, hH, ha, hw⟩
  rw [← q0, List.drop_zero, ← q1, ← q2, ← q3, ← hc, List.take_append_drop]
end
theorem apart_in {H : Type} {enc : TypeId × Value → H} {w : World} {r : Reach} {b0 : Nat} {v : Value} {d : DataW H} {p : List MemPlace}
    (hv : Value.okWide Try.prog w r b0 51 v) (h : DataW.Trod enc Try.prog w 0 (fun _ => true) true 51 v d p) :
    ∃ (hv : Hv) (s : Nat → Fd) (c : Int) (a : Option Addr) (n ca : Nat) (la : List UInt8) (ot : Int), v = .agg (hv.L ++ ([.int .i64 c, .slice a n ca, .int .u8 ot] : List Value)).toArray ∧ HbAt w hv s ∧ InBytes w a n ca la ∧ (Lit.int .u8 ot).wf = true := by
  obtain ⟨⟨cs⟩, rfl, hsz⟩ := okWide_struct Try.underlying51 hv
  obtain ⟨fuel, hf⟩ := h
  obtain ⟨hv, s, c, a, n, ca, la, ot, hR, hI⟩ := apart_of hf
  have hR' : cs = hv.L ++ [.int .i64 c, .slice a n ca, .int .u8 ot] := hR
  exact ⟨hv, s, c, a, n, ca, la, ot, by rw [hR'], hI⟩
end Go.Proofs.Ytcccgjpmfbmplaa
