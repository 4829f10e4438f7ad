/- How hubs that came in are told to the walks. -/
import Derived.Test.YtcccgjpmfbmplaaInF
import Derived.Test.YtcccgjpmfbmplaaHuI
set_option linter.unusedSimpArgs false
set_option linter.unusedVariables false
namespace Go.Proofs.Ytcccgjpmfbmplaa
open Go.ChangeShapes Go.WideShapes Go.ChangeAt Go.RowKit

section
variable {H : Type} {enc : TypeId × Value → H} {w : World}
theorem bools_of {fuel : Nat} {c0 c1 c2 c3 : Value} {x : DataW H × List MemPlace} (h : DataW.trod enc Try.prog w 0 (fun _ => true) true fuel 22 [c0, c1, c2, c3] = some x) : ∃ u0 u1 u2 u3 : Bool, c0 = .bool u0 ∧ c1 = .bool u1 ∧ c2 = .bool u2 ∧ c3 = .bool u3 := by
  obtain ⟨xs, m, rfl, hx, hl, hxl, hg⟩ := DataW.trod_array Try.underlying22 h
  have e1 : Try.prog.cellsOf 4 = 1 := by kernel_rfl
  have key : ∀ i, i < 4 → ∃ u : Bool, (([c0, c1, c2, c3] : List Value).drop i).take 1 = [.bool u] := fun i hi => by
    have h1 := hg i hi
    rw [e1, Nat.mul_one, List.getElem?_eq_getElem (by omega : i < xs.length)] at h1
    obtain ⟨u, h2, _⟩ := DataW.trod_bool Try.underlying4 h1
    exact ⟨u, h2⟩
  obtain ⟨u0, k0⟩ := key 0 (by decide)
  obtain ⟨u1, k1⟩ := key 1 (by decide)
  obtain ⟨u2, k2⟩ := key 2 (by decide)
  obtain ⟨u3, k3⟩ := key 3 (by decide)
  simp at k0 k1 k2 k3
  exact ⟨u0, u1, u2, u3, k0, k1, k2, k3⟩
theorem ints_of {fuel : Nat} {c0 c1 c2 c3 : Value} {x : DataW H × List MemPlace} (h : DataW.trod enc Try.prog w 0 (fun _ => true) true fuel 27 [c0, c1, c2, c3] = some x) : ∃ u0 u1 u2 u3 : Int, c0 = .int .i64 u0 ∧ c1 = .int .i64 u1 ∧ c2 = .int .i64 u2 ∧ c3 = .int .i64 u3 := by
  obtain ⟨xs, m, rfl, hx, hl, hxl, hg⟩ := DataW.trod_array Try.underlying27 h
  have e1 : Try.prog.cellsOf 3 = 1 := by kernel_rfl
  have key : ∀ i, i < 4 → ∃ u : Int, (([c0, c1, c2, c3] : List Value).drop i).take 1 = [.int .i64 u] := fun i hi => by
    have h1 := hg i hi
    rw [e1, Nat.mul_one, List.getElem?_eq_getElem (by omega : i < xs.length)] at h1
    obtain ⟨u, h2, _, _⟩ := DataW.trod_int Try.underlying3 h1
    exact ⟨u, h2⟩
  obtain ⟨u0, k0⟩ := key 0 (by decide)
  obtain ⟨u1, k1⟩ := key 1 (by decide)
  obtain ⟨u2, k2⟩ := key 2 (by decide)
  obtain ⟨u3, k3⟩ := key 3 (by decide)
  simp at k0 k1 k2 k3
  exact ⟨u0, u1, u2, u3, k0, k1, k2, k3⟩
theorem feeds_of {fuel : Nat} {c0 c1 c2 c3 c4 c5 c6 c7 c8 c9 c10 c11 : Value} {x : DataW H × List MemPlace} (h : DataW.trod enc Try.prog w 0 (fun _ => true) true fuel 26 [c0, c1, c2, c3, c4, c5, c6, c7, c8, c9, c10, c11] = some x) :
    ∃ (f0 f1 f2 f3 : Fv) (s0 s1 s2 s3 : Fd), [c0, c1, c2] = f0.L ∧ [c3, c4, c5] = f1.L ∧ [c6, c7, c8] = f2.L ∧ [c9, c10, c11] = f3.L ∧ FdAt w f0 s0 ∧ FdAt w f1 s1 ∧ FdAt w f2 s2 ∧ FdAt w f3 s3 := by
  obtain ⟨xs, m, rfl, hx, hl, hxl, hg⟩ := DataW.trod_array Try.underlying26 h
  have e1 : Try.prog.cellsOf 25 = 3 := by kernel_rfl
  have key : ∀ i, i < 4 → ∃ (f : Fv) (s : Fd), (([c0, c1, c2, c3, c4, c5, c6, c7, c8, c9, c10, c11] : List Value).drop (i * 3)).take 3 = f.L ∧ FdAt w f s := fun i hi => by
    have h1 := hg i hi
    rw [e1, List.getElem?_eq_getElem (by omega : i < xs.length)] at h1
    obtain ⟨a, len, cap, sk, bd, l, h2, h3, _, _⟩ := feed_of h1
    exact ⟨⟨a, len, cap, sk, bd⟩, ⟨l, sk, bd⟩, h2, ⟨h3.1, h3.2.1, h3.2.2.1, h3.2.2.2, rfl, rfl⟩⟩
  obtain ⟨f0, s0, k0, g0⟩ := key 0 (by decide)
  obtain ⟨f1, s1, k1, g1⟩ := key 1 (by decide)
  obtain ⟨f2, s2, k2, g2⟩ := key 2 (by decide)
  obtain ⟨f3, s3, k3, g3⟩ := key 3 (by decide)
  exact ⟨f0, f1, f2, f3, s0, s1, s2, s3, k0, k1, k2, k3, g0, g1, g2, g3⟩
theorem hub_of {fuel : Nat} {cs : List Value} {x : DataW H × List MemPlace} (h : DataW.trod enc Try.prog w 0 (fun _ => true) true fuel 29 cs = some x) : ∃ (hv : Hv) (s : Nat → Fd), cs = hv.L ∧ HbAt w hv s := by
  obtain ⟨xs, n, rfl, hx, hl, hxl, hg⟩ := DataW.trod_struct Try.underlying29 h
  have hxl' : xs.length = 4 := hxl
  have h0 := hg 0 _ rfl
  have h1 := hg 1 _ rfl
  have h2 := hg 2 _ rfl
  have h3 := hg 3 _ rfl
  rw [List.getElem?_eq_getElem (by omega : 0 < xs.length)] at h0
  rw [List.getElem?_eq_getElem (by omega : 1 < xs.length)] at h1
  rw [List.getElem?_eq_getElem (by omega : 2 < xs.length)] at h2
  rw [List.getElem?_eq_getElem (by omega : 3 < xs.length)] at h3
  have e0 : Try.prog.cellsOf 3 = 1 := by kernel_rfl
  have e1 : Try.prog.cellsOf 22 = 4 := by kernel_rfl
  have e2 : Try.prog.cellsOf 26 = 12 := by kernel_rfl
  have e3 : Try.prog.cellsOf 27 = 4 := by kernel_rfl
  have e8 : Try.prog.cellsOf 29 = 21 := by kernel_rfl
  have hl' : cs.length = 21 := by rw [← e8]; exact hl
  have k0 : DataW.trod enc Try.prog w 0 (fun _ => true) true n 22 ((cs.drop 0).take (Try.prog.cellsOf 22)) = some xs[0] := h0
  have k1 : DataW.trod enc Try.prog w 0 (fun _ => true) true n 26 ((cs.drop 4).take (Try.prog.cellsOf 26)) = some xs[1] := h1
  have k2 : DataW.trod enc Try.prog w 0 (fun _ => true) true n 27 ((cs.drop 16).take (Try.prog.cellsOf 27)) = some xs[2] := h2
  have k3 : DataW.trod enc Try.prog w 0 (fun _ => true) true n 3 ((cs.drop 20).take (Try.prog.cellsOf 3)) = some xs[3] := h3
  rw [e1] at k0
  rw [e2] at k1
  rw [e3] at k2
  rw [e0] at k3
  match cs, hl' with
  | [c0, c1, c2, c3, c4, c5, c6, c7, c8, c9, c10, c11, c12, c13, c14, c15, c16, c17, c18, c19, c20], _ =>
    obtain ⟨u0, u1, u2, u3, rfl, rfl, rfl, rfl⟩ := bools_of (show DataW.trod enc Try.prog w 0 (fun _ => true) true n 22 [c0, c1, c2, c3] = some xs[0] from k0)
    obtain ⟨f0, f1, f2, f3, s0, s1, s2, s3, q0, q1, q2, q3, g0, g1, g2, g3⟩ := feeds_of (show DataW.trod enc Try.prog w 0 (fun _ => true) true n 26 [c4, c5, c6, c7, c8, c9, c10, c11, c12, c13, c14, c15] = some xs[1] from k1)
    obtain ⟨l0, l1, l2, l3, rfl, rfl, rfl, rfl⟩ := ints_of (show DataW.trod enc Try.prog w 0 (fun _ => true) true n 27 [c16, c17, c18, c19] = some xs[2] from k2)
    obtain ⟨nx, q4, _, _⟩ := DataW.trod_int Try.underlying3 (show DataW.trod enc Try.prog w 0 (fun _ => true) true n 3 [c20] = some xs[3] from k3)
    simp only [Fv.L, List.cons.injEq, and_true] at q0 q1 q2 q3 q4
    obtain ⟨rfl, rfl, rfl⟩ := q0
    obtain ⟨rfl, rfl, rfl⟩ := q1
    obtain ⟨rfl, rfl, rfl⟩ := q2
    obtain ⟨rfl, rfl, rfl⟩ := q3
    subst q4
    refine ⟨⟨fun i => match i with | 0 => u0 | 1 => u1 | 2 => u2 | _ => u3, fun i => match i with | 0 => f0 | 1 => f1 | 2 => f2 | _ => f3, fun i => match i with | 0 => l0 | 1 => l1 | 2 => l2 | _ => l3, nx⟩, fun i => match i with | 0 => s0 | 1 => s1 | 2 => s2 | _ => s3, rfl, fun i hi => ?_⟩
    rcases (show i = 0 ∨ i = 1 ∨ i = 2 ∨ i = 3 by omega) with rfl | rfl | rfl | rfl
    · exact g0
    · exact g1
    · exact g2
    · exact g3
end
theorem hub_in {H : Type} {enc : TypeId × Value → H} {w : World} {r : Reach} {b0 : Nat} {v : Value} {d : DataW H} {p : List MemPlace}
    (hv : Value.okWide Try.prog w r b0 29 v) (h : DataW.Trod enc Try.prog w 0 (fun _ => true) true 29 v d p) : ∃ (hv : Hv) (s : Nat → Fd), v = hv.v ∧ HbAt w hv s := by
  obtain ⟨⟨cs⟩, rfl, hsz⟩ := okWide_struct Try.underlying29 hv
  obtain ⟨fuel, hf⟩ := h
  obtain ⟨hv, s, hR, hI⟩ := hub_of hf
  have hR' : cs = hv.L := hR
  exact ⟨hv, s, by rw [hR'], hI⟩
end Go.Proofs.Ytcccgjpmfbmplaa
