/- The document's Same of digests under way, Hex, Long, Block. -/
import Derived.Test.YthmcmkdncaccbaaDoorShaK
set_option linter.unusedSimpArgs false
set_option linter.unusedVariables false
namespace Go.Proofs.YthmcmkdncaccbaaDoor
open Go.RowKit

theorem eq8 (r : R8) (W : World) : (Op.equalIn 10000 72 (.agg r.cells.toArray) (.agg r.cells.toArray)).run Tryd.prog W = .ok true W := by
  have h1 : ∀ (x : Int) (w : World), (Op.equalIn 9999 71 (.int .u32 x) (.int .u32 x)).run Tryd.prog w = .ok true w := fun x w => by
    rw [run_equalIn_int w 9998 _ .u32 .u32 x x Tryd.underlying71]; simp
  have hp : ∀ (w : World) (i : Nat) (h : i < 8), (part 71 r.cells.toArray i).run Tryd.prog w = .ok (.int .u32 (uv (r.l.getD i 0))) w := fun w i h => by
    rw [part_u32 w r.cells.toArray i (by simpa using h)]
    have := cells_at r i h
    rw [← this]; simp [List.getD, Array.getD, h]
  show (Op.equalIn (9999 + 1) 72 _ _).run Tryd.prog W = _
  unfold Op.equalIn
  simp only [Sem.run_bind, run_underlying Tryd.underlying72, Result.andThen_ok, size_u32]
  have e0 := fun w => hp w 0 (by decide)
  have e1 := fun w => hp w 1 (by decide)
  have e2 := fun w => hp w 2 (by decide)
  have e3 := fun w => hp w 3 (by decide)
  have e4 := fun w => hp w 4 (by decide)
  have e5 := fun w => hp w 5 (by decide)
  have e6 := fun w => hp w 6 (by decide)
  have e7 := fun w => hp w 7 (by decide)
  generalize r.cells.toArray = A at *
  simp [Std.Legacy.Range.forIn_eq_forIn_range', Std.Legacy.Range.size, List.range', Sem.run_bind, e0, e1, e2, e3, e4, e5, e6, e7, h1]

def signF (b : UInt8) : UInt8 := if b < 10 then 48 + b else 87 + b
theorem bv_le {a b : UInt8} : a < b ↔ bv a < bv b := by unfold bv; rw [UInt8.lt_iff_toNat_lt]; omega
theorem add8 (a b : UInt8) : IntKind.u8.wrap (bv a + bv b) = bv (a + b) := by
  unfold bv; rw [IntKind.wrap_u8, UInt8.toNat_add]; omega
@[go_sem high] theorem quo8_16 (t : TypeId) (b : UInt8) : binOp .quo t (.int .u8 (bv b)) (.int .u8 16) = pure (.int .u8 (bv (b / 16))) := by
  show Op.intDiv .quo .u8 (bv b) 16 = _
  unfold Op.intDiv
  rw [if_neg (by decide)]
  show pure (Value.int .u8 (IntKind.u8.wrap ((bv b).tdiv 16))) = _
  have e : (bv b).tdiv 16 = ((b.toNat / 16 : Nat) : Int) := by unfold bv; rw [Int.tdiv_eq_ediv_of_nonneg (by omega)]; simp
  rw [e, wrap_nat8 _ (by have := b.toNat_lt; omega)]
  unfold bv; rw [UInt8.toNat_div]; rfl
@[go_sem high] theorem rem8_16 (t : TypeId) (b : UInt8) : binOp .rem t (.int .u8 (bv b)) (.int .u8 16) = pure (.int .u8 (bv (b % 16))) := by
  show Op.intDiv .rem .u8 (bv b) 16 = _
  unfold Op.intDiv
  rw [if_neg (by decide)]
  show pure (Value.int .u8 ((bv b).tmod 16)) = _
  have e : (bv b).tmod 16 = ((b.toNat % 16 : Nat) : Int) := by unfold bv; rw [Int.tmod_eq_emod_of_nonneg (by omega)]; simp
  rw [e]; unfold bv; rw [UInt8.toNat_mod]; rfl

def hexF : List UInt8 → List UInt8
  | [] => []
  | b :: l => signF (b / 16) :: signF (b % 16) :: hexF l
theorem hexF_append (l m : List UInt8) : hexF (l ++ m) = hexF l ++ hexF m := by
  induction l with
  | nil => rfl
  | cons b l ih => simp [hexF, ih]
theorem hexF_length (l : List UInt8) : (hexF l).length = 2 * l.length := by
  induction l with
  | nil => rfl
  | cons b l ih => simp [hexF, ih]; omega

def StrOut (w : World) (l : List UInt8) (e : Ending) (w' : World) : Prop := e = .returned (.string ⟨l.toArray⟩) ∧ Below w.heap.size w w'

def BoolOut (w : World) (b : Bool) (e : Ending) (w' : World) : Prop := e = .returned (.bool b) ∧ Below w.heap.size w w'
end Go.Proofs.YthmcmkdncaccbaaDoor
