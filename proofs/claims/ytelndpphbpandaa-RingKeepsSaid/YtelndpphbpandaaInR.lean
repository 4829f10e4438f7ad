/- How rings that came in are told to the walks. -/
import Derived.Test.YtelndpphbpandaaInB
import Derived.Test.YtelndpphbpandaaRingE
import Derived.Deep.Slices
set_option linter.unusedSimpArgs false
set_option linter.unusedVariables false
namespace Go.Proofs.Ytelndpphbpandaa
open Go.ChangeShapes Go.WideShapes Go.ChangeAt Go.RowKit

section
variable {H : Type} {enc : TypeId × Value → H} {w : World}
theorem gen_of {fuel : Nat} {cs : List Value} {x : DataW H × List MemPlace} (h : DataW.trod enc Try.prog w 0 (fun _ => true) true fuel 24 cs = some x) :
    ∃ (g : G) (l : List UInt8), cs = [.int .i64 g.no, .slice g.a g.len g.cap] ∧ InBytes w g.a g.len g.cap l ∧ (Lit.int .i64 g.no).wf = true := by
  obtain ⟨xs, n, rfl, hx, hl, hxl, hg⟩ := DataW.trod_struct Try.underlying24 h
  have h0 := hg 0 _ rfl
  have h1 := hg 1 _ rfl
  have hxl' : xs.length = 2 := hxl
  rw [List.getElem?_eq_getElem (by omega : 0 < xs.length)] at h0
  rw [List.getElem?_eq_getElem (by omega : 1 < xs.length)] at h1
  have e0 : Try.prog.cellsOf 3 = 1 := by kernel_rfl
  have e1 : Try.prog.cellsOf 22 = 1 := by kernel_rfl
  have e2 : Try.prog.cellsOf 24 = 2 := by kernel_rfl
  have hl' : cs.length = 2 := by rw [← e2]; exact hl
  obtain ⟨m, hm, _, hw⟩ := DataW.trod_int Try.underlying3 h0
  have hm1 : (cs.drop 0).take (Try.prog.cellsOf 3) = [Value.int .i64 m] := hm
  have h1' : DataW.trod enc Try.prog w 0 (fun _ => true) true n 22 ((cs.drop 1).take (Try.prog.cellsOf 22)) = some xs[1] := h1
  rw [e0] at hm1
  rw [e1] at h1'
  match cs, hl' with
  | [c0, c1], _ =>
    have hm' : c0 = Value.int .i64 m := by have : [c0] = [Value.int .i64 m] := hm1; simpa using this
    have h3 : DataW.trod enc Try.prog w 0 (fun _ => true) true n 22 [c1] = some xs[1] := h1'
    obtain ⟨a, len, cap, hc⟩ : ∃ a len cap, c1 = .slice a len cap := by
      rcases Go.Deep.open_slice Try.underlying22 h3 with ⟨h4, _⟩ | ⟨a, len, cap, _, _, _, _, h4, _⟩
      · exact ⟨_, _, _, by simpa using h4⟩
      · exact ⟨_, _, _, by simpa using h4⟩
    subst hc
    obtain ⟨l, hin⟩ := bytes_in (enc := enc) (w := w) (a := a) (len := len) (cap := cap) (d := xs[1].1) (ps := xs[1].2) Try.underlying22 Try.underlying5 (by kernel_rfl) ⟨n, h3⟩
    exact ⟨⟨m, a, len, cap⟩, l, by rw [hm'], hin, hw⟩

/-- what is told of a ring that came in -/
def InRing (w : World) (r : Rg) : Prop := ∃ kc ko kp, InBytes w r.c.a r.c.len r.c.cap kc ∧ InBytes w r.o.a r.o.len r.o.cap ko ∧ InBytes w r.p.a r.p.len r.p.cap kp ∧
  (Lit.int .i64 r.c.no).wf = true ∧ (Lit.int .i64 r.o.no).wf = true ∧ (Lit.int .i64 r.p.no).wf = true ∧ (Lit.int .i64 r.l).wf = true ∧ (Lit.int .i64 r.t).wf = true
theorem InRing.at {w : World} {r : Rg} (h : InRing w r) : ∃ kc ko kp, RgAt w r kc ko kp := by
  obtain ⟨kc, ko, kp, h1, h2, h3, -⟩ := h
  exact ⟨kc, ko, kp, h1.1, h1.2.2.2, h2.1, h2.2.2.2, h3.1, h3.2.2.2⟩

theorem ring_of {fuel : Nat} {cs : List Value} {x : DataW H × List MemPlace} (h : DataW.trod enc Try.prog w 0 (fun _ => true) true fuel 26 cs = some x) :
    ∃ r : Rg, cs = r.L ∧ InRing w r := by
  obtain ⟨xs, n, rfl, hx, hl, hxl, hg⟩ := DataW.trod_struct Try.underlying26 h
  have h0 := hg 0 _ rfl
  have h1 := hg 1 _ rfl
  have h2 := hg 2 _ rfl
  have h3 := hg 3 _ rfl
  have h4 := hg 4 _ rfl
  have hxl' : xs.length = 5 := hxl
  rw [List.getElem?_eq_getElem (by omega : 0 < xs.length)] at h0
  rw [List.getElem?_eq_getElem (by omega : 1 < xs.length)] at h1
  rw [List.getElem?_eq_getElem (by omega : 2 < xs.length)] at h2
  rw [List.getElem?_eq_getElem (by omega : 3 < xs.length)] at h3
  rw [List.getElem?_eq_getElem (by omega : 4 < xs.length)] at h4
  have e0 : Try.prog.cellsOf 3 = 1 := by kernel_rfl
  have e2 : Try.prog.cellsOf 24 = 2 := by kernel_rfl
  have e8 : Try.prog.cellsOf 26 = 8 := by kernel_rfl
  have hl' : cs.length = 8 := by rw [← e8]; exact hl
  have k0 : DataW.trod enc Try.prog w 0 (fun _ => true) true n 24 ((cs.drop 0).take (Try.prog.cellsOf 24)) = some xs[0] := h0
  have k1 : DataW.trod enc Try.prog w 0 (fun _ => true) true n 24 ((cs.drop 2).take (Try.prog.cellsOf 24)) = some xs[1] := h1
  have k2 : DataW.trod enc Try.prog w 0 (fun _ => true) true n 24 ((cs.drop 4).take (Try.prog.cellsOf 24)) = some xs[2] := h2
  have k3 : DataW.trod enc Try.prog w 0 (fun _ => true) true n 3 ((cs.drop 6).take (Try.prog.cellsOf 3)) = some xs[3] := h3
  have k4 : DataW.trod enc Try.prog w 0 (fun _ => true) true n 3 ((cs.drop 7).take (Try.prog.cellsOf 3)) = some xs[4] := h4
  rw [e2] at k0 k1 k2
  rw [e0] at k3 k4
  match cs, hl' with
  | [c0, c1, c2, c3, c4, c5, c6, c7], _ =>
    obtain ⟨g0, l0, q0, i0, w0⟩ := gen_of (show DataW.trod enc Try.prog w 0 (fun _ => true) true n 24 [c0, c1] = some xs[0] from k0)
    obtain ⟨g1, l1, q1, i1, w1⟩ := gen_of (show DataW.trod enc Try.prog w 0 (fun _ => true) true n 24 [c2, c3] = some xs[1] from k1)
    obtain ⟨g2, l2, q2, i2, w2⟩ := gen_of (show DataW.trod enc Try.prog w 0 (fun _ => true) true n 24 [c4, c5] = some xs[2] from k2)
    obtain ⟨m3, q3, _, w3⟩ := DataW.trod_int Try.underlying3 (show DataW.trod enc Try.prog w 0 (fun _ => true) true n 3 [c6] = some xs[3] from k3)
    obtain ⟨m4, q4, _, w4⟩ := DataW.trod_int Try.underlying3 (show DataW.trod enc Try.prog w 0 (fun _ => true) true n 3 [c7] = some xs[4] from k4)
    simp only [List.cons.injEq, and_true] at q0 q1 q2 q3 q4
    exact ⟨⟨g0, g1, g2, m3, m4⟩, by rw [q0.1, q0.2, q1.1, q1.2, q2.1, q2.2, q3, q4], l0, l1, l2, i0, i1, i2, w0, w1, w2, w3, w4⟩
end

theorem ring_in {H : Type} {enc : TypeId × Value → H} {w : World} {r : Reach} {b0 : Nat} {v : Value} {d : DataW H} {p : List MemPlace}
    (hv : Value.okWide Try.prog w r b0 26 v) (h : DataW.Trod enc Try.prog w 0 (fun _ => true) true 26 v d p) :
    ∃ R : Rg, v = R.v ∧ InRing w R := by
  obtain ⟨⟨cs⟩, rfl, hsz⟩ := okWide_struct Try.underlying26 hv
  obtain ⟨fuel, hf⟩ := h
  obtain ⟨R, hR, hI⟩ := ring_of hf
  have hR' : cs = R.L := hR
  exact ⟨R, by rw [hR'], hI⟩

/-- what RingTells is asked of -/
theorem tells_in {H : Type} {enc : TypeId × Value → H} {w : World} {r : Reach} {b0 : Nat} {v : Value} {d : DataW H} {p : List MemPlace}
    (hv : Value.okWide Try.prog w r b0 28 v) (h : DataW.Trod enc Try.prog w 0 (fun _ => true) true 28 v d p) :
    ∃ (A B : Rg) (no : Int) (a : Option Addr) (len cap : Nat) (l : List UInt8), v = .agg (A.L ++ (B.L ++ [Value.int .i64 no, Value.slice a len cap])).toArray ∧ InRing w A ∧ InRing w B ∧ (Lit.int .i64 no).wf = true ∧ InBytes w a len cap l := by
  obtain ⟨⟨cs⟩, rfl, hsz⟩ := okWide_struct Try.underlying28 hv
  obtain ⟨fuel, hf⟩ := h
  obtain ⟨xs, n, rfl, hx, hl, hxl, hg⟩ := DataW.trod_struct Try.underlying28 hf
  have h0 := hg 0 _ rfl
  have h1 := hg 1 _ rfl
  have h2 := hg 2 _ rfl
  have h3 := hg 3 _ rfl
  have hxl' : xs.length = 4 := hxl
  rw [List.getElem?_eq_getElem (by omega : 0 < xs.length)] at h0
  rw [List.getElem?_eq_getElem (by omega : 1 < xs.length)] at h1
  rw [List.getElem?_eq_getElem (by omega : 2 < xs.length)] at h2
  rw [List.getElem?_eq_getElem (by omega : 3 < xs.length)] at h3
  have e0 : Try.prog.cellsOf 3 = 1 := by kernel_rfl
  have e1 : Try.prog.cellsOf 22 = 1 := by kernel_rfl
  have e8 : Try.prog.cellsOf 26 = 8 := by kernel_rfl
  have e18 : Try.prog.cellsOf 28 = 18 := by kernel_rfl
  have hl' : cs.length = 18 := by rw [← e18]; exact hl
  have k0 : DataW.trod enc Try.prog w 0 (fun _ => true) true n 26 ((cs.drop 0).take (Try.prog.cellsOf 26)) = some xs[0] := h0
  have k1 : DataW.trod enc Try.prog w 0 (fun _ => true) true n 26 ((cs.drop 8).take (Try.prog.cellsOf 26)) = some xs[1] := h1
  have k2 : DataW.trod enc Try.prog w 0 (fun _ => true) true n 3 ((cs.drop 16).take (Try.prog.cellsOf 3)) = some xs[2] := h2
  have k3 : DataW.trod enc Try.prog w 0 (fun _ => true) true n 22 ((cs.drop 17).take (Try.prog.cellsOf 22)) = some xs[3] := h3
  rw [e8] at k0 k1
  rw [e0] at k2
  rw [e1] at k3
  obtain ⟨A, qA, iA⟩ := ring_of k0
  obtain ⟨B, qB, iB⟩ := ring_of k1
  obtain ⟨no, q2, _, w2⟩ := DataW.trod_int Try.underlying3 k2
  obtain ⟨a, len, cap, l, q3, i3⟩ : ∃ a len cap l, (cs.drop 17).take 1 = [Value.slice a len cap] ∧ InBytes w a len cap l := by
    obtain ⟨a, len, cap, hc⟩ : ∃ a len cap, (cs.drop 17).take 1 = [Value.slice a len cap] := by
      rcases Go.Deep.open_slice Try.underlying22 k3 with ⟨h4, _⟩ | ⟨a, len, cap, _, _, _, _, h4, _⟩
      · exact ⟨_, _, _, h4⟩
      · exact ⟨_, _, _, h4⟩
    rw [hc] at k3
    obtain ⟨l, hin⟩ := bytes_in (enc := enc) (w := w) (a := a) (len := len) (cap := cap) (d := xs[3].1) (ps := xs[3].2) Try.underlying22 Try.underlying5 (by kernel_rfl) ⟨n, k3⟩
    exact ⟨a, len, cap, l, hc, hin⟩
  refine ⟨A, B, no, a, len, cap, l, ?_, iA, iB, w2, i3⟩
  have hcs : cs = (cs.drop 0).take 8 ++ ((cs.drop 8).take 8 ++ ((cs.drop 16).take 1 ++ (cs.drop 17).take 1)) := by
    match cs, hl' with
    | [c0, c1, c2, c3, c4, c5, c6, c7, c8, c9, c10, c11, c12, c13, c14, c15, c16, c17], _ => rfl
  rw [qA, qB, q2, q3] at hcs
  rw [hcs]; rfl
end Go.Proofs.Ytelndpphbpandaa
