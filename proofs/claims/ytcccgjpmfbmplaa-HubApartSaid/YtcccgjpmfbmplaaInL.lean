/- How what HubLives is asked of is told to the walk. -/
import Derived.Test.YtcccgjpmfbmplaaInH
set_option linter.unusedSimpArgs false
set_option linter.unusedVariables false
namespace Go.Proofs.Ytcccgjpmfbmplaa
open Go.ChangeShapes Go.WideShapes Go.ChangeAt Go.RowKit

section
variable {H : Type} {enc : TypeId × Value → H} {w : World}
theorem sl_of9 {n : Nat} {c0 : Value} {x : DataW H × List MemPlace} (h3 : DataW.trod enc Try.prog w 0 (fun _ => true) true n 23 [c0] = some x) : ∃ a len cap l, c0 = .slice a len cap ∧ InBytes w a len cap l := by
  obtain ⟨a, len, cap, hc⟩ : ∃ a len cap, c0 = .slice a len cap := by
    rcases Go.Deep.open_slice Try.underlying23 h3 with ⟨h4, _⟩ | ⟨a, len, cap, _, _, _, _, h4, _⟩
    · exact ⟨_, _, _, by simpa using h4⟩
    · exact ⟨_, _, _, by simpa using h4⟩
  subst hc
  obtain ⟨l, hin⟩ := bytes_in (enc := enc) (w := w) (a := a) (len := len) (cap := cap) (d := x.1) (ps := x.2) Try.underlying23 Try.underlying5 (by kernel_rfl) ⟨n, h3⟩
  exact ⟨a, len, cap, l, rfl, hin⟩
theorem lives_of {fuel : Nat} {cs : List Value} {x : DataW H × List MemPlace} (h : DataW.trod enc Try.prog w 0 (fun _ => true) true fuel 55 cs = some x) :
    ∃ (hv : Hv) (s : Nat → Fd) (c : Int) (a : Option Addr) (n ca : Nat) (la : List UInt8) (b : Option Addr) (m cb : Nat) (lb : List UInt8), cs = hv.L ++ [.int .u8 c, .slice a n ca, .slice b m cb] ∧ HbAt w hv s ∧ (Lit.int .u8 c).wf = true ∧ InBytes w a n ca la ∧ InBytes w b m cb lb := by
  obtain ⟨xs, n, rfl, hx, hl, hxl, hg⟩ := DataW.trod_struct Try.underlying55 h
  have hxl' : xs.length = 4 := hxl
  have h0 := hg 0 _ rfl
  have h1 := hg 1 _ rfl
  have h2 := hg 2 _ rfl
  have h3 := hg 3 _ rfl
  rw [List.getElem?_eq_getElem (by omega : 0 < xs.length)] at h0
  rw [List.getElem?_eq_getElem (by omega : 1 < xs.length)] at h1
  rw [List.getElem?_eq_getElem (by omega : 2 < xs.length)] at h2
  rw [List.getElem?_eq_getElem (by omega : 3 < xs.length)] at h3
  have e0 : Try.prog.cellsOf 29 = 21 := by kernel_rfl
  have e1 : Try.prog.cellsOf 5 = 1 := by kernel_rfl
  have e2 : Try.prog.cellsOf 23 = 1 := by kernel_rfl
  have e8 : Try.prog.cellsOf 55 = 24 := by kernel_rfl
  have hl' : cs.length = 24 := by rw [← e8]; exact hl
  have k0 : DataW.trod enc Try.prog w 0 (fun _ => true) true n 29 ((cs.drop 0).take (Try.prog.cellsOf 29)) = some xs[0] := h0
  have k1 : DataW.trod enc Try.prog w 0 (fun _ => true) true n 5 ((cs.drop 21).take (Try.prog.cellsOf 5)) = some xs[1] := h1
  have k2 : DataW.trod enc Try.prog w 0 (fun _ => true) true n 23 ((cs.drop 22).take (Try.prog.cellsOf 23)) = some xs[2] := h2
  have k3 : DataW.trod enc Try.prog w 0 (fun _ => true) true n 23 ((cs.drop 23).take (Try.prog.cellsOf 23)) = some xs[3] := h3
  rw [e0] at k0
  rw [e1] at k1
  rw [e2] at k2 k3
  obtain ⟨hv, s, q0, hH⟩ := hub_of k0
  obtain ⟨c21, c22, c23, hc⟩ : ∃ c21 c22 c23, cs.drop 21 = [c21, c22, c23] := by
    have : (cs.drop 21).length = 3 := by rw [List.length_drop]; omega
    match hd : cs.drop 21, this with
    | [p, q, r], _ => exact ⟨p, q, r, rfl⟩
  have d22 : cs.drop 22 = [c22, c23] := by have := congrArg (List.drop 1) hc; rw [List.drop_drop] at this; exact this
  have d23 : cs.drop 23 = [c23] := by have := congrArg (List.drop 2) hc; rw [List.drop_drop] at this; exact this
  rw [hc] at k1
  rw [d22] at k2
  rw [d23] at k3
  obtain ⟨m1, q1, _, hw⟩ := DataW.trod_int Try.underlying5 (show DataW.trod enc Try.prog w 0 (fun _ => true) true n 5 [c21] = some xs[1] from k1)
  obtain ⟨a, na, ca, la, q2, ha⟩ := sl_of9 (show DataW.trod enc Try.prog w 0 (fun _ => true) true n 23 [c22] = some xs[2] from k2)
  obtain ⟨b, nb, cb, lb, q3, hb⟩ := sl_of9 (show DataW.trod enc Try.prog w 0 (fun _ => true) true n 23 [c23] = some xs[3] from k3)
  simp only [List.cons.injEq, and_true] at q1
  refine ⟨hv, s, m1, a, na, ca, la, b, nb, cb, lb, ?_, hH, hw, ha, hb⟩
  rw [← q0, List.drop_zero, ← q1, ← q2, ← q3, ← hc, List.take_append_drop]
end
theorem lives_in {H : Type} {enc : TypeId × Value → H} {w : World} {r : Reach} {b0 : Nat} {v : Value} {d : DataW H} {p : List MemPlace}
    (hv : Value.okWide Try.prog w r b0 55 v) (h : DataW.Trod enc Try.prog w 0 (fun _ => true) true 55 v d p) :
    ∃ (hv : Hv) (s : Nat → Fd) (c : Int) (a : Option Addr) (n ca : Nat) (la : List UInt8) (b : Option Addr) (m cb : Nat) (lb : List UInt8), v = .agg (hv.L ++ ([.int .u8 c, .slice a n ca, .slice b m cb] : List Value)).toArray ∧ HbAt w hv s ∧ (Lit.int .u8 c).wf = true ∧ InBytes w a n ca la ∧ InBytes w b m cb lb := by
  obtain ⟨⟨cs⟩, rfl, hsz⟩ := okWide_struct Try.underlying55 hv
  obtain ⟨fuel, hf⟩ := h
  obtain ⟨hv, s, c, a, n, ca, la, b, m, cb, lb, hR, hI⟩ := lives_of hf
  have hR' : cs = hv.L ++ [.int .u8 c, .slice a n ca, .slice b m cb] := hR
  exact ⟨hv, s, c, a, n, ca, la, b, m, cb, lb, by rw [hR'], hI⟩
end Go.Proofs.Ytcccgjpmfbmplaa
