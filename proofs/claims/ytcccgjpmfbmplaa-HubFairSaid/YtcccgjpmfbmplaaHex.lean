/- The document's Hex. -/
import Derived.Test.YtcccgjpmfbmplaaBase
import Derived.Deep.DeepCutAuto
import Derived.Deep.RegionHeld3
set_option linter.unusedSimpArgs false
set_option linter.unusedVariables false
namespace Go.Proofs.Ytcccgjpmfbmplaa
open Go.RowKit

def signF (b : UInt8) : UInt8 := if b < 10 then 48 + b else 87 + b
theorem bv_le {a b : UInt8} : a < b ↔ bv a < bv b := by unfold bv; rw [UInt8.lt_iff_toNat_lt]; omega
theorem add8 (a b : UInt8) : IntKind.u8.wrap (bv a + bv b) = bv (a + b) := by
  unfold bv; rw [IntKind.wrap_u8, UInt8.toNat_add]; omega
@[go_sem high] theorem quo8_16 (t : TypeId) (b : UInt8) : binOp .quo t (.int .u8 (bv b)) (.int .u8 16) = pure (.int .u8 (bv (b / 16))) := by
  show Op.intDiv .quo .u8 (bv b) 16 = _
  unfold Op.intDiv
  rw [if_neg (by decide)]
  show pure (Value.int .u8 (IntKind.u8.wrap ((bv b).tdiv 16))) = _
  have e : (bv b).tdiv 16 = ((b.toNat / 16 : Nat) : Int) := by unfold bv; rw [Int.tdiv_eq_ediv_of_nonneg (by omega)]; simp
  rw [e, wrap_nat8 _ (by have := b.toNat_lt; omega)]
  unfold bv; rw [UInt8.toNat_div]; rfl
@[go_sem high] theorem rem8_16 (t : TypeId) (b : UInt8) : binOp .rem t (.int .u8 (bv b)) (.int .u8 16) = pure (.int .u8 (bv (b % 16))) := by
  show Op.intDiv .rem .u8 (bv b) 16 = _
  unfold Op.intDiv
  rw [if_neg (by decide)]
  show pure (Value.int .u8 ((bv b).tmod 16)) = _
  have e : (bv b).tmod 16 = ((b.toNat % 16 : Nat) : Int) := by unfold bv; rw [Int.tmod_eq_emod_of_nonneg (by omega)]; simp
  rw [e]; unfold bv; rw [UInt8.toNat_mod]; rfl

def hexF : List UInt8 → List UInt8
  | [] => []
  | b :: l => signF (b / 16) :: signF (b % 16) :: hexF l
theorem hexF_append (l m : List UInt8) : hexF (l ++ m) = hexF l ++ hexF m := by
  induction l with
  | nil => rfl
  | cons b l ih => simp [hexF, ih]
theorem hexF_length (l : List UInt8) : (hexF l).length = 2 * l.length := by
  induction l with
  | nil => rfl
  | cons b l ih => simp [hexF, ih]; omega

def StrOut (w : World) (l : List UInt8) (e : Ending) (w' : World) : Prop := e = .returned (.string ⟨l.toArray⟩) ∧ Below w.heap.size w w'

def BoolOut (w : World) (b : Bool) (e : Ending) (w' : World) : Prop := e = .returned (.bool b) ∧ Below w.heap.size w w'
end Go.Proofs.Ytcccgjpmfbmplaa
