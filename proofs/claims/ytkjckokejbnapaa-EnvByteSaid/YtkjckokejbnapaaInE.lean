/- How envelopes that came in are told to the walks. -/
import Derived.Test.YtkjckokejbnapaaInB
import Derived.Test.YtkjckokejbnapaaEnvG
import Derived.Deep.Slices
import Derived.ChangeSame
import Derived.Deep.Fields
set_option linter.unusedSimpArgs false
set_option linter.unusedVariables false
namespace Go.Proofs.Ytkjckokejbnapaa
open Go.ChangeShapes Go.WideShapes Go.ChangeAt Go.RowKit

section
variable {H : Type} {enc : TypeId × Value → H} {w : World}
theorem two_of {fuel : Nat} {cs : List Value} {x : DataW H × List MemPlace} (h : DataW.trod enc Try.prog w 0 (fun _ => true) true fuel 22 cs = some x) : ∃ n m : Int, cs = [.int .i64 n, .int .i64 m] := by
  obtain ⟨xs, m, rfl, hx, hl, hxl, hg⟩ := DataW.trod_array Try.underlying22 h
  have e2 : Try.prog.cellsOf 22 = 2 := by kernel_rfl
  have e1 : Try.prog.cellsOf 3 = 1 := by kernel_rfl
  rw [e2] at hl
  have key : ∀ i, i < 2 → ∃ u : Int, (cs.drop i).take 1 = [.int .i64 u] := fun i hi => by
    have h1 := hg i hi
    rw [e1, Nat.mul_one, List.getElem?_eq_getElem (by omega : i < xs.length)] at h1
    obtain ⟨n, h2, _, h3⟩ := DataW.trod_int Try.underlying3 h1
    exact ⟨n, h2⟩
  match cs, hl with
  | [c0, c1], _ =>
    obtain ⟨u0, k0⟩ := key 0 (by decide)
    obtain ⟨u1, k1⟩ := key 1 (by decide)
    simp at k0 k1
    exact ⟨u0, u1, by rw [k0, k1]⟩
theorem sl_of {n : Nat} {c0 : Value} {x : DataW H × List MemPlace} (h3 : DataW.trod enc Try.prog w 0 (fun _ => true) true n 23 [c0] = some x) : ∃ a len cap l, c0 = .slice a len cap ∧ InBytes w a len cap l := by
  obtain ⟨a, len, cap, hc⟩ : ∃ a len cap, c0 = .slice a len cap := by
    rcases Go.Deep.open_slice Try.underlying23 h3 with ⟨h4, _⟩ | ⟨a, len, cap, _, _, _, _, h4, _⟩
    · exact ⟨_, _, _, by simpa using h4⟩
    · exact ⟨_, _, _, by simpa using h4⟩
  subst hc
  obtain ⟨l, hin⟩ := bytes_in (enc := enc) (w := w) (a := a) (len := len) (cap := cap) (d := x.1) (ps := x.2) Try.underlying23 Try.underlying5 (by kernel_rfl) ⟨n, h3⟩
  exact ⟨a, len, cap, l, rfl, hin⟩
theorem env_of {fuel : Nat} {cs : List Value} {x : DataW H × List MemPlace} (h : DataW.trod enc Try.prog w 0 (fun _ => true) true fuel 25 cs = some x) :
    ∃ (k d e0 e1 g s : Int) (a1 : Option Addr) (n1 c1 : Nat) (l1 : List UInt8) (a2 : Option Addr) (n2 c2 : Nat) (l2 : List UInt8), cs = [.int .i64 k, .int .i64 d, .int .i64 e0, .int .i64 e1, .int .i64 g, .int .i64 s, .slice a1 n1 c1, .slice a2 n2 c2] ∧ InBytes w a1 n1 c1 l1 ∧ InBytes w a2 n2 c2 l2 := by
  obtain ⟨xs, n, rfl, hx, hl, hxl, hg⟩ := DataW.trod_struct Try.underlying25 h
  have hxl' : xs.length = 7 := hxl
  have h0 := hg 0 _ rfl
  have h1 := hg 1 _ rfl
  have h2 := hg 2 _ rfl
  have h3 := hg 3 _ rfl
  have h4 := hg 4 _ rfl
  have h5 := hg 5 _ rfl
  have h6 := hg 6 _ rfl
  rw [List.getElem?_eq_getElem (by omega : 0 < xs.length)] at h0
  rw [List.getElem?_eq_getElem (by omega : 1 < xs.length)] at h1
  rw [List.getElem?_eq_getElem (by omega : 2 < xs.length)] at h2
  rw [List.getElem?_eq_getElem (by omega : 3 < xs.length)] at h3
  rw [List.getElem?_eq_getElem (by omega : 4 < xs.length)] at h4
  rw [List.getElem?_eq_getElem (by omega : 5 < xs.length)] at h5
  rw [List.getElem?_eq_getElem (by omega : 6 < xs.length)] at h6
  have e0 : Try.prog.cellsOf 3 = 1 := by kernel_rfl
  have e1 : Try.prog.cellsOf 23 = 1 := by kernel_rfl
  have e2 : Try.prog.cellsOf 22 = 2 := by kernel_rfl
  have e8 : Try.prog.cellsOf 25 = 8 := by kernel_rfl
  have hl' : cs.length = 8 := by rw [← e8]; exact hl
  have k0 : DataW.trod enc Try.prog w 0 (fun _ => true) true n 3 ((cs.drop 0).take (Try.prog.cellsOf 3)) = some xs[0] := h0
  have k1 : DataW.trod enc Try.prog w 0 (fun _ => true) true n 3 ((cs.drop 1).take (Try.prog.cellsOf 3)) = some xs[1] := h1
  have k2 : DataW.trod enc Try.prog w 0 (fun _ => true) true n 22 ((cs.drop 2).take (Try.prog.cellsOf 22)) = some xs[2] := h2
  have k3 : DataW.trod enc Try.prog w 0 (fun _ => true) true n 3 ((cs.drop 4).take (Try.prog.cellsOf 3)) = some xs[3] := h3
  have k4 : DataW.trod enc Try.prog w 0 (fun _ => true) true n 3 ((cs.drop 5).take (Try.prog.cellsOf 3)) = some xs[4] := h4
  have k5 : DataW.trod enc Try.prog w 0 (fun _ => true) true n 23 ((cs.drop 6).take (Try.prog.cellsOf 23)) = some xs[5] := h5
  have k6 : DataW.trod enc Try.prog w 0 (fun _ => true) true n 23 ((cs.drop 7).take (Try.prog.cellsOf 23)) = some xs[6] := h6
  rw [e0] at k0 k1 k3 k4
  rw [e2] at k2
  rw [e1] at k5 k6
  match cs, hl' with
  | [c0, c1, c2, c3, c4, c5, c6, c7], _ =>
    obtain ⟨m0, q0, _, _⟩ := DataW.trod_int Try.underlying3 (show DataW.trod enc Try.prog w 0 (fun _ => true) true n 3 [c0] = some xs[0] from k0)
    obtain ⟨m1, q1, _, _⟩ := DataW.trod_int Try.underlying3 (show DataW.trod enc Try.prog w 0 (fun _ => true) true n 3 [c1] = some xs[1] from k1)
    obtain ⟨u, v, q2⟩ := two_of (show DataW.trod enc Try.prog w 0 (fun _ => true) true n 22 [c2, c3] = some xs[2] from k2)
    obtain ⟨m3, q3, _, _⟩ := DataW.trod_int Try.underlying3 (show DataW.trod enc Try.prog w 0 (fun _ => true) true n 3 [c4] = some xs[3] from k3)
    obtain ⟨m4, q4, _, _⟩ := DataW.trod_int Try.underlying3 (show DataW.trod enc Try.prog w 0 (fun _ => true) true n 3 [c5] = some xs[4] from k4)
    obtain ⟨a1, n1, p1, l1, rfl, i1⟩ := sl_of (show DataW.trod enc Try.prog w 0 (fun _ => true) true n 23 [c6] = some xs[5] from k5)
    obtain ⟨a2, n2, p2, l2, rfl, i2⟩ := sl_of (show DataW.trod enc Try.prog w 0 (fun _ => true) true n 23 [c7] = some xs[6] from k6)
    simp only [List.cons.injEq, and_true] at q0 q1 q2 q3 q4
    exact ⟨m0, m1, u, v, m3, m4, a1, n1, p1, l1, a2, n2, p2, l2, by rw [q0, q1, q2.1, q2.2, q3, q4], i1, i2⟩
end
theorem env_in {H : Type} {enc : TypeId × Value → H} {w : World} {r : Reach} {b0 : Nat} {v : Value} {d : DataW H} {p : List MemPlace}
    (hv : Value.okWide Try.prog w r b0 25 v) (h : DataW.Trod enc Try.prog w 0 (fun _ => true) true 25 v d p) :
    ∃ (k d e0 e1 g s : Int) (a1 : Option Addr) (n1 c1 : Nat) (l1 : List UInt8) (a2 : Option Addr) (n2 c2 : Nat) (l2 : List UInt8), v = envV k d e0 e1 g s (.slice a1 n1 c1) (.slice a2 n2 c2) ∧ InBytes w a1 n1 c1 l1 ∧ InBytes w a2 n2 c2 l2 := by
  obtain ⟨⟨cs⟩, rfl, hsz⟩ := okWide_struct Try.underlying25 hv
  obtain ⟨fuel, hf⟩ := h
  obtain ⟨k, d, e0, e1, g, s, a1, n1, c1, l1, a2, n2, c2, l2, hR, hI⟩ := env_of hf
  have hR' : cs = [.int .i64 k, .int .i64 d, .int .i64 e0, .int .i64 e1, .int .i64 g, .int .i64 s, .slice a1 n1 c1, .slice a2 n2 c2] := hR
  exact ⟨k, d, e0, e1, g, s, a1, n1, c1, l1, a2, n2, c2, l2, by rw [hR'], hI⟩
end Go.Proofs.Ytkjckokejbnapaa
