/- How what came in is told to the walks: slices of integers. No program in sight. -/
import Derived.Test.YthmcmkdncaccbaaDoorMem
import Derived.ProofKit
import Derived.OpenShut
import Derived.ShutString
import Derived.ChangeOld
import Derived.Below
set_option linter.unusedSimpArgs false
set_option linter.unusedVariables false
namespace Go.Proofs.YthmcmkdncaccbaaDoor
open Go.ChangeShapes Go.WideShapes Go.ChangeAt Go.RowKit

/-- what is told of a slice of integers that came in: its elements, and their range -/
def InInts (q : IntKind) (w : World) (a : Option Addr) (cap : Nat) (l : List Int) : Prop :=
  l.length ≤ cap ∧ cap ≤ maxLen ∧ IntsAt q w a l ∧ ∀ n ∈ l, (Lit.int q n).wf = true

theorem cell_block {w : World} {a : Addr} {v : Value} (h : w.cell? a = some v) : a.spot = none ∧ a.block < w.heap.size := by
  refine ⟨?_, World.block_lt_of_cell? _ _ h⟩
  unfold World.cell? at h
  split at h
  · split at h
    · cases h
    · rename_i hs; cases e : a.spot with
      | none => rfl
      | some x => rw [e] at hs; simp at hs
  · cases h

theorem ints_in {H : Type} {enc : TypeId × Value → H} {P : Program} {w : World} {t e : TypeId} {q : IntKind} {a : Option Addr} {len cap : Nat} {d : DataW H} {ps : List MemPlace}
    (ht : P.underlying t = some (.slice e)) (he : P.underlying e = some (.int q)) (hc : P.cellsOf e = 1)
    (h : DataW.Trod enc P w 0 (fun _ => true) true t (.slice a len cap) d ps) : ∃ l : List Int, len = l.length ∧ InInts q w a cap l := by
  obtain ⟨fuel, hf⟩ := h
  rcases open_ints ht he hc hf with ⟨hcs, _⟩ | ⟨x, l, c, zs, hcs, _, hl, hm, hz, _, hcell, hwz⟩
  · simp [Value.cells] at hcs
    obtain ⟨rfl, rfl, rfl⟩ := hcs
    exact ⟨[], rfl, Nat.le_refl _, Nat.zero_le _, .inl rfl, by simp⟩
  · simp [Value.cells] at hcs
    obtain ⟨rfl, rfl, rfl⟩ := hcs
    have hz' : zs.length = cap := by simpa using hz
    have hlen : (zs.take len).length = len := by rw [List.length_take]; omega
    refine ⟨zs.take len, hlen.symm, by omega, hm, ?_, fun n hn => hwz n (List.mem_of_mem_take hn)⟩
    by_cases h0 : len = 0
    · subst h0; exact .inl (by simp)
    · refine .inr ?_
      have h1 := hcell 0 (by omega)
      have hx0 : x.add 0 = x := by simp [Addr.add]
      rw [hx0] at h1
      obtain ⟨hs, hb⟩ := cell_block h1
      obtain ⟨xb, xo, xs⟩ := x
      simp only at hs hb
      subst hs
      refine ⟨xb, xo, rfl, hb, fun i hi => ?_⟩
      have hi' : i < len := by rw [List.length_map, hlen] at hi; exact hi
      have h2 := hcell i (by omega)
      rw [WideShapes.add_plain] at h2
      rw [h2]
      have e1 : (List.map (Value.int q) (zs.take len)).getD i undef = .int q (zs.getD i 0) := by
        simp [List.getD, List.getElem?_take, hi', show i < zs.length by omega]
      rw [e1]
end Go.Proofs.YthmcmkdncaccbaaDoor
