/- Proved here, for use further on: Hex. Conditions: none but those each theorem names. -/
import Derived.Test.YtadpiemjgfndgaaGreatDoorKc00
import Derived.Test.YtadpiemjgfndgaaGreatDoorKc02
import Derived.Deep.DeepCutAuto
import Derived.Deep.RegionHeld3
set_option linter.unusedSimpArgs false
set_option linter.unusedVariables false
set_option maxRecDepth 100000
set_option maxHeartbeats 8000000
namespace Go.Proofs.YtadpiemjgfndgaaGreatDoor
open Go.RowKit
@[go_sem high] theorem Fn9 (t : TypeId) (b : UInt8) : binOp .quo t (.int .u8 (bv b)) (.int .u8 16) = pure (.int .u8 (bv (b / 16))) := by
 show Op.intDiv .quo .u8 (bv b) 16=_;unfold Op.intDiv;rw[if_neg (by decide)];show pure (Value.int .u8 (IntKind.u8.wrap ((bv b).tdiv 16)))=_;have e:(bv b).tdiv 16=((b.toNat/16:Nat):Int):=by unfold bv;rw[Int.tdiv_eq_ediv_of_nonneg (by omega)];simp
 rw[e,Bh2 _ (by have:=b.toNat_lt;omega)];unfold bv;rw[UInt8.toNat_div];rfl
@[go_sem high] theorem Fo0 (t : TypeId) (b : UInt8) : binOp .rem t (.int .u8 (bv b)) (.int .u8 16) = pure (.int .u8 (bv (b % 16))) := by
 show Op.intDiv .rem .u8 (bv b) 16=_;unfold Op.intDiv;rw[if_neg (by decide)];show pure (Value.int .u8 ((bv b).tmod 16))=_;have e:(bv b).tmod 16=((b.toNat%16:Nat):Int):=by unfold bv;rw[Int.tmod_eq_emod_of_nonneg (by omega)];simp
 rw[e];unfold bv;rw[UInt8.toNat_mod];rfl
def F9(w:World)(b:Bool)(e:Ending)(w':World):Prop:=e=.returned (.bool b)∧Below w.heap.size w w'
end Go.Proofs.YtadpiemjgfndgaaGreatDoor
