/- How what MacApart is asked of is told to the walks. -/
import Derived.Test.YtbpmgjnjcdjdfaaDoorInC
import Derived.Test.YtbpmgjnjcdjdfaaDoorInG
set_option linter.unusedSimpArgs false
set_option linter.unusedVariables false
namespace Go.Proofs.YtbpmgjnjcdjdfaaDoor
open Go.ChangeShapes Go.WideShapes Go.ChangeAt Go.RowKit

section
variable {H : Type} {enc : TypeId × Value → H} {w : World}
theorem slice_of {n : Nat} {t e : TypeId} {c : Value} {x : DataW H × List MemPlace} (ht : Tryd.prog.underlying t = some (.slice e)) (h : DataW.trod enc Tryd.prog w 0 (fun _ => true) true n t [c] = some x) : ∃ a len cap, c = .slice a len cap := by
  rcases Go.Deep.open_slice ht h with ⟨h4, _⟩ | ⟨a, len, cap, _, _, _, _, h4, _⟩
  · exact ⟨_, _, _, by simpa using h4⟩
  · exact ⟨_, _, _, by simpa using h4⟩
theorem apart_in {r : Reach} {b0 : Nat} {v : Value} {d : DataW H} {p : List MemPlace}
    (hv : Value.okWide Tryd.prog w r b0 36 v) (h : DataW.Trod enc Tryd.prog w 0 (fun _ => true) true 36 v d p) :
    ∃ (a : Option Addr) (la ca : Nat) (l : List UInt8) (s t : ByteArray) (pa : Option Addr) (pl pc : Nat) (ps : List (List UInt8)) (qa : Option Addr) (ql qc : Nat) (qs : List (List UInt8)),
      v = .agg #[.slice a la ca, .string s, .string t, .slice pa pl pc, .slice qa ql qc] ∧ InBytes w a la ca l ∧ s.size ≤ maxLen ∧ t.size ≤ maxLen ∧ InRows w pa pl pc ps ∧ InRows w qa ql qc qs := by
  obtain ⟨⟨cs⟩, rfl, hsz⟩ := okWide_struct Tryd.underlying36 hv
  obtain ⟨fuel, hf⟩ := h
  obtain ⟨xs, n, rfl, hx, hl, hxl, hg⟩ := DataW.trod_struct Tryd.underlying36 hf
  have h0 := hg 0 _ rfl
  have h1 := hg 1 _ rfl
  have h2 := hg 2 _ rfl
  have h3 := hg 3 _ rfl
  have h4 := hg 4 _ rfl
  have hxl' : xs.length = 5 := hxl
  rw [List.getElem?_eq_getElem (by omega : 0 < xs.length)] at h0
  rw [List.getElem?_eq_getElem (by omega : 1 < xs.length)] at h1
  rw [List.getElem?_eq_getElem (by omega : 2 < xs.length)] at h2
  rw [List.getElem?_eq_getElem (by omega : 3 < xs.length)] at h3
  rw [List.getElem?_eq_getElem (by omega : 4 < xs.length)] at h4
  have e22 : Tryd.prog.cellsOf 22 = 1 := by kernel_rfl
  have e9 : Tryd.prog.cellsOf 9 = 1 := by kernel_rfl
  have e27 : Tryd.prog.cellsOf 27 = 1 := by kernel_rfl
  have e36 : Tryd.prog.cellsOf 36 = 5 := by kernel_rfl
  have hl' : cs.length = 5 := by rw [← e36]; exact hl
  have k0 : DataW.trod enc Tryd.prog w 0 (fun _ => true) true n 22 ((cs.drop 0).take (Tryd.prog.cellsOf 22)) = some xs[0] := h0
  have k1 : DataW.trod enc Tryd.prog w 0 (fun _ => true) true n 9 ((cs.drop 1).take (Tryd.prog.cellsOf 9)) = some xs[1] := h1
  have k2 : DataW.trod enc Tryd.prog w 0 (fun _ => true) true n 9 ((cs.drop 2).take (Tryd.prog.cellsOf 9)) = some xs[2] := h2
  have k3 : DataW.trod enc Tryd.prog w 0 (fun _ => true) true n 27 ((cs.drop 3).take (Tryd.prog.cellsOf 27)) = some xs[3] := h3
  have k4 : DataW.trod enc Tryd.prog w 0 (fun _ => true) true n 27 ((cs.drop 4).take (Tryd.prog.cellsOf 27)) = some xs[4] := h4
  rw [e22] at k0
  rw [e9] at k1 k2
  rw [e27] at k3 k4
  match cs, hl' with
  | [c0, c1, c2, c3, c4], _ =>
    have m0 : DataW.trod enc Tryd.prog w 0 (fun _ => true) true n 22 [c0] = some xs[0] := k0
    have m1 : DataW.trod enc Tryd.prog w 0 (fun _ => true) true n 9 [c1] = some xs[1] := k1
    have m2 : DataW.trod enc Tryd.prog w 0 (fun _ => true) true n 9 [c2] = some xs[2] := k2
    have m3 : DataW.trod enc Tryd.prog w 0 (fun _ => true) true n 27 [c3] = some xs[3] := k3
    have m4 : DataW.trod enc Tryd.prog w 0 (fun _ => true) true n 27 [c4] = some xs[4] := k4
    obtain ⟨a, la, ca, rfl⟩ := slice_of Tryd.underlying22 m0
    obtain ⟨pa, pl, pc, rfl⟩ := slice_of Tryd.underlying27 m3
    obtain ⟨qa, ql, qc, rfl⟩ := slice_of Tryd.underlying27 m4
    obtain ⟨s, q1, _, w1⟩ := DataW.trod_string Tryd.underlying9 m1
    obtain ⟨t, q2, _, w2⟩ := DataW.trod_string Tryd.underlying9 m2
    obtain ⟨l, i0⟩ := bytes_in (enc := enc) (w := w) (a := a) (len := la) (cap := ca) (d := xs[0].1) (ps := xs[0].2) Tryd.underlying22 Tryd.underlying5 (by kernel_rfl) ⟨n, m0⟩
    obtain ⟨ps, i3⟩ := rows_in (enc := enc) (w := w) (a := pa) (len := pl) (cap := pc) (d := xs[3].1) (ps := xs[3].2) Tryd.underlying27 Tryd.underlying22 Tryd.underlying5 (by kernel_rfl) (by kernel_rfl) ⟨n, m3⟩
    obtain ⟨qs, i4⟩ := rows_in (enc := enc) (w := w) (a := qa) (len := ql) (cap := qc) (d := xs[4].1) (ps := xs[4].2) Tryd.underlying27 Tryd.underlying22 Tryd.underlying5 (by kernel_rfl) (by kernel_rfl) ⟨n, m4⟩
    cases q1
    cases q2
    exact ⟨a, la, ca, l, s, t, pa, pl, pc, ps, qa, ql, qc, qs, rfl, i0, w1, w2, i3, i4⟩
end
end Go.Proofs.YtbpmgjnjcdjdfaaDoor
