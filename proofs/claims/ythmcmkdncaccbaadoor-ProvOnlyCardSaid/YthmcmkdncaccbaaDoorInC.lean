/- How eight words, and a digest under way, that came in are told to the walks. -/
import Derived.Test.YthmcmkdncaccbaaDoorInB
import Derived.Test.YthmcmkdncaccbaaDoorShaE
import Derived.Deep.Slices
set_option linter.unusedSimpArgs false
set_option linter.unusedVariables false
namespace Go.Proofs.YthmcmkdncaccbaaDoor
open Go.ChangeShapes Go.WideShapes Go.ChangeAt Go.RowKit

section
variable {H : Type} {enc : TypeId × Value → H} {P : Program} {w : World}

theorem cells8_of {t e : TypeId} {base : Nat} {sp : Nat → Bool} {held : Bool} {fuel : Nat} {cs : List Value} {x : DataW H × List MemPlace} (ht : P.underlying t = some (.array 8 e)) (he : P.underlying e = some (.int .u32)) (hce : P.cellsOf e = 1) (hct : P.cellsOf t = 8)
    (h : DataW.trod enc P w base sp held fuel t cs = some x) : ∃ s : R8, cs = s.cells := by
  obtain ⟨xs, m, rfl, hx, hl, hxl, hg⟩ := DataW.trod_array ht h
  rw [hct] at hl
  have key : ∀ i, i < 8 → ∃ u : UInt32, (cs.drop i).take 1 = [.int .u32 (uv u)] := fun i hi => by
    have h1 := hg i hi
    rw [hce, Nat.mul_one, List.getElem?_eq_getElem (by omega : i < xs.length)] at h1
    obtain ⟨n, h2, _, h3⟩ := DataW.trod_int he h1
    obtain ⟨u, rfl⟩ := exists_uv h3
    exact ⟨u, h2⟩
  match cs, hl with
  | [c0, c1, c2, c3, c4, c5, c6, c7], _ =>
    obtain ⟨u0, k0⟩ := key 0 (by decide)
    obtain ⟨u1, k1⟩ := key 1 (by decide)
    obtain ⟨u2, k2⟩ := key 2 (by decide)
    obtain ⟨u3, k3⟩ := key 3 (by decide)
    obtain ⟨u4, k4⟩ := key 4 (by decide)
    obtain ⟨u5, k5⟩ := key 5 (by decide)
    obtain ⟨u6, k6⟩ := key 6 (by decide)
    obtain ⟨u7, k7⟩ := key 7 (by decide)
    simp at k0 k1 k2 k3 k4 k5 k6 k7
    exact ⟨⟨u0, u1, u2, u3, u4, u5, u6, u7⟩, by simp [R8.cells, k0, k1, k2, k3, k4, k5, k6, k7]⟩

theorem words8_in {t e : TypeId} {r : Reach} {b0 : Nat} {v : Value} {d : DataW H} {p : List MemPlace} (ht : P.underlying t = some (.array 8 e)) (he : P.underlying e = some (.int .u32)) (hce : P.cellsOf e = 1) (hct : P.cellsOf t = 8)
    (hv : Value.okWide P w r b0 t v) (h : DataW.Trod enc P w 0 (fun _ => true) true t v d p) : ∃ s : R8, v = .agg s.cells.toArray := by
  simp only [Value.okWide, ht] at hv
  obtain ⟨⟨cs⟩, rfl, h2, _⟩ := hv
  obtain ⟨fuel, hf⟩ := h
  obtain ⟨s, hs⟩ := cells8_of ht he hce hct hf
  exact ⟨s, by simpa [Value.cells] using hs⟩
end

theorem hash_in {H : Type} {enc : TypeId × Value → H} {w : World} {r : Reach} {b0 : Nat} {v : Value} {d : DataW H} {p : List MemPlace}
    (hv : Value.okWide Tryd.prog w r b0 74 v) (h : DataW.Trod enc Tryd.prog w 0 (fun _ => true) true 74 v d p) :
    ∃ (s : R8) (n : Int) (a : Option Addr) (len cap : Nat) (l : List UInt8), v = .agg (hashC s n a len cap).toArray ∧ InBytes w a len cap l ∧ (Lit.int .i64 n).wf = true := by
  obtain ⟨⟨cs⟩, rfl, hsz⟩ := okWide_struct Tryd.underlying74 hv
  obtain ⟨fuel, hf⟩ := h
  obtain ⟨xs, n, rfl, hx, hl, hxl, hg⟩ := DataW.trod_struct Tryd.underlying74 hf
  have h0 := hg 0 _ rfl
  have h1 := hg 1 _ rfl
  have h2 := hg 2 _ rfl
  have hxl' : xs.length = 3 := hxl
  rw [List.getElem?_eq_getElem (by omega : 0 < xs.length)] at h0
  rw [List.getElem?_eq_getElem (by omega : 1 < xs.length)] at h1
  rw [List.getElem?_eq_getElem (by omega : 2 < xs.length)] at h2
  have e28 : Tryd.prog.cellsOf 72 = 8 := by kernel_rfl
  have e3 : Tryd.prog.cellsOf 3 = 1 := by kernel_rfl
  have e22 : Tryd.prog.cellsOf 25 = 1 := by kernel_rfl
  have e36 : Tryd.prog.cellsOf 74 = 10 := by kernel_rfl
  have hl' : cs.length = 10 := by rw [← e36]; exact hl
  obtain ⟨s, hs⟩ := cells8_of Tryd.underlying72 Tryd.underlying71 (by kernel_rfl) e28 h0
  obtain ⟨m, hm, _, hw⟩ := DataW.trod_int Tryd.underlying3 h1
  have hs1 : (cs.drop 0).take (Tryd.prog.cellsOf 72) = s.cells := hs
  have hm1 : (cs.drop 8).take (Tryd.prog.cellsOf 3) = [Value.int .i64 m] := hm
  have h2' : DataW.trod enc Tryd.prog w 0 (fun _ => true) true n 25 ((cs.drop 9).take (Tryd.prog.cellsOf 25)) = some xs[2] := h2
  rw [e28] at hs1
  rw [e3] at hm1
  rw [e22] at h2'
  match cs, hl' with
  | [c0, c1, c2, c3, c4, c5, c6, c7, c8, c9], _ =>
    have hs' : [c0, c1, c2, c3, c4, c5, c6, c7] = s.cells := hs1
    have hm' : [c8] = [Value.int .i64 m] := hm1
    have h3 : DataW.trod enc Tryd.prog w 0 (fun _ => true) true n 25 [c9] = some xs[2] := h2'
    obtain ⟨a, len, cap, hc9⟩ : ∃ a len cap, c9 = .slice a len cap := by
      rcases Go.Deep.open_slice Tryd.underlying25 h3 with ⟨h4, _⟩ | ⟨a, len, cap, _, _, _, _, h4, _⟩
      · exact ⟨_, _, _, by simpa using h4⟩
      · exact ⟨_, _, _, by simpa using h4⟩
    subst hc9
    obtain ⟨l, hin⟩ := bytes_in (enc := enc) (w := w) (a := a) (len := len) (cap := cap) (d := xs[2].1) (ps := xs[2].2) Tryd.underlying25 Tryd.underlying5 (by kernel_rfl) ⟨n, h3⟩
    refine ⟨s, m, a, len, cap, l, ?_, hin, hw⟩
    have hc8 : c8 = .int .i64 m := by simpa using hm'
    have he : [c0, c1, c2, c3, c4, c5, c6, c7, c8, Value.slice a len cap] = [c0, c1, c2, c3, c4, c5, c6, c7] ++ [c8, .slice a len cap] := rfl
    rw [he, hs', hc8]
end Go.Proofs.YthmcmkdncaccbaaDoor
