/- How bytes and words that came in are told to the walks. No program in sight. -/
import Derived.Test.YthmcmkdncaccbaaDoorIn
import Derived.Test.YthmcmkdncaccbaaDoorBytes
set_option linter.unusedSimpArgs false
set_option linter.unusedVariables false
namespace Go.Proofs.YthmcmkdncaccbaaDoor
open Go.ChangeShapes Go.WideShapes Go.ChangeAt Go.RowKit

theorem bytes_of (l : List Int) (h : ∀ n ∈ l, (Lit.int .u8 n).wf = true) : ∃ m : List UInt8, l = m.map bv := by
  induction l with
  | nil => exact ⟨[], rfl⟩
  | cons x l ih =>
    obtain ⟨m, rfl⟩ := ih fun n hn => h n (List.mem_cons_of_mem _ hn)
    obtain ⟨b, rfl⟩ := exists_bv (h x List.mem_cons_self)
    exact ⟨b :: m, rfl⟩

/-- what is told of a slice of bytes that came in -/
def InBytes (w : World) (a : Option Addr) (len cap : Nat) (l : List UInt8) : Prop := len = l.length ∧ len ≤ cap ∧ cap ≤ maxLen ∧ BytesAt w a l

theorem bytes_in {H : Type} {enc : TypeId × Value → H} {P : Program} {w : World} {t e : TypeId} {a : Option Addr} {len cap : Nat} {d : DataW H} {ps : List MemPlace}
    (ht : P.underlying t = some (.slice e)) (he : P.underlying e = some (.int .u8)) (hc : P.cellsOf e = 1)
    (h : DataW.Trod enc P w 0 (fun _ => true) true t (.slice a len cap) d ps) : ∃ l : List UInt8, InBytes w a len cap l := by
  obtain ⟨l, rfl, h1, h2, h3, h4⟩ := ints_in ht he hc h
  obtain ⟨m, rfl⟩ := bytes_of l h4
  refine ⟨m, by simp, by simpa using h1, h2, ?_⟩
  have h5 : At w a ((m.map bv).map (Value.int .u8)) := h3
  rw [List.map_map] at h5
  exact h5
end Go.Proofs.YthmcmkdncaccbaaDoor
