/- SHA-256, what it computes; the walks of RotateLeft32 and of the document's turn. -/
import Derived.Test.YthmcmkdncaccbaaDoorProg
import Derived.Test.YthmcmkdncaccbaaDoorBytes
set_option linter.unusedSimpArgs false
set_option linter.unusedVariables false
namespace Go.Proofs.YthmcmkdncaccbaaDoor
open Go.RowKit

/-- a word, turned right by n -/
def rotr (x n : UInt32) : UInt32 := (x >>> n) ||| (x <<< (32 - n))
def sig0 (x : UInt32) : UInt32 := rotr x 7 ^^^ rotr x 18 ^^^ (x >>> 3)
def sig1 (x : UInt32) : UInt32 := rotr x 17 ^^^ rotr x 19 ^^^ (x >>> 10)
def bsig0 (x : UInt32) : UInt32 := rotr x 2 ^^^ rotr x 13 ^^^ rotr x 22
def bsig1 (x : UInt32) : UInt32 := rotr x 6 ^^^ rotr x 11 ^^^ rotr x 25

theorem or_comm32 (a b : UInt32) : a ||| b = b ||| a := by
  apply UInt32.toBitVec_inj.1; simp only [UInt32.toBitVec_or]; exact BitVec.or_comm _ _

set_option maxHeartbeats 400000 in
theorem rot7 (x : UInt32) (w : World) :
    Calls Tryd.prog 52 #[.int .u32 (uv x), .int .i64 (-7)] w fun e w' => e = .returned (.int .u32 (uv (rotr x 7))) ∧ w = w' := by
  have h0 : bits BinOp.and IntKind.u64 (IntKind.u64.wrap (-7)) 31 = 25 := by decide
  have h1 : ∀ y, Op.shift .shl .u32 (uv y) .u64 25 = pure (.int .u32 (uv (y <<< 25))) := fun y => shl32 0 y 25 (by decide) .u64
  have h2 : ∀ y, Op.shift .shr .u32 (uv y) .u64 7 = pure (.int .u32 (uv (y >>> 7))) := fun y => shr32 0 y 7 (by decide) .u64
  have hc := Lib.hid (show (x <<< 25) ||| (x >>> 7) = rotr x 7 from or_comm32 _ _)
  go_enter Tryd.func52, Tryd.ntmps52
  go_wp2
  go_ret
  exact ⟨by rw [← hc.out]; rfl, rfl⟩

set_option maxHeartbeats 400000 in
theorem turn7 (x : UInt32) (w : World) :
    Calls Tryd.prog 53 #[.int .u32 (uv x), .int .u32 7] w fun e w' => e = .returned (.int .u32 (uv (rotr x 7))) ∧ w = w' := by
  have h1 : ∀ y, Op.shift .shl .u32 (uv y) .u32 25 = pure (.int .u32 (uv (y <<< 25))) := fun y => shl32 0 y 25 (by decide) .u32
  have h2 : ∀ y, Op.shift .shr .u32 (uv y) .u32 7 = pure (.int .u32 (uv (y >>> 7))) := fun y => shr32 0 y 7 (by decide) .u32
  go_enter Tryd.func53, Tryd.ntmps53
  go_wp2
  go_ret
  exact ⟨rfl, rfl⟩

set_option maxHeartbeats 400000 in
theorem rot18 (x : UInt32) (w : World) :
    Calls Tryd.prog 52 #[.int .u32 (uv x), .int .i64 (-18)] w fun e w' => e = .returned (.int .u32 (uv (rotr x 18))) ∧ w = w' := by
  have h0 : bits BinOp.and IntKind.u64 (IntKind.u64.wrap (-18)) 31 = 14 := by decide
  have h1 : ∀ y, Op.shift .shl .u32 (uv y) .u64 14 = pure (.int .u32 (uv (y <<< 14))) := fun y => shl32 0 y 14 (by decide) .u64
  have h2 : ∀ y, Op.shift .shr .u32 (uv y) .u64 18 = pure (.int .u32 (uv (y >>> 18))) := fun y => shr32 0 y 18 (by decide) .u64
  have hc := Lib.hid (show (x <<< 14) ||| (x >>> 18) = rotr x 18 from or_comm32 _ _)
  go_enter Tryd.func52, Tryd.ntmps52
  go_wp2
  go_ret
  exact ⟨by rw [← hc.out]; rfl, rfl⟩

set_option maxHeartbeats 400000 in
theorem turn18 (x : UInt32) (w : World) :
    Calls Tryd.prog 53 #[.int .u32 (uv x), .int .u32 18] w fun e w' => e = .returned (.int .u32 (uv (rotr x 18))) ∧ w = w' := by
  have h1 : ∀ y, Op.shift .shl .u32 (uv y) .u32 14 = pure (.int .u32 (uv (y <<< 14))) := fun y => shl32 0 y 14 (by decide) .u32
  have h2 : ∀ y, Op.shift .shr .u32 (uv y) .u32 18 = pure (.int .u32 (uv (y >>> 18))) := fun y => shr32 0 y 18 (by decide) .u32
  go_enter Tryd.func53, Tryd.ntmps53
  go_wp2
  go_ret
  exact ⟨rfl, rfl⟩

set_option maxHeartbeats 400000 in
theorem rot17 (x : UInt32) (w : World) :
    Calls Tryd.prog 52 #[.int .u32 (uv x), .int .i64 (-17)] w fun e w' => e = .returned (.int .u32 (uv (rotr x 17))) ∧ w = w' := by
  have h0 : bits BinOp.and IntKind.u64 (IntKind.u64.wrap (-17)) 31 = 15 := by decide
  have h1 : ∀ y, Op.shift .shl .u32 (uv y) .u64 15 = pure (.int .u32 (uv (y <<< 15))) := fun y => shl32 0 y 15 (by decide) .u64
  have h2 : ∀ y, Op.shift .shr .u32 (uv y) .u64 17 = pure (.int .u32 (uv (y >>> 17))) := fun y => shr32 0 y 17 (by decide) .u64
  have hc := Lib.hid (show (x <<< 15) ||| (x >>> 17) = rotr x 17 from or_comm32 _ _)
  go_enter Tryd.func52, Tryd.ntmps52
  go_wp2
  go_ret
  exact ⟨by rw [← hc.out]; rfl, rfl⟩

set_option maxHeartbeats 400000 in
theorem turn17 (x : UInt32) (w : World) :
    Calls Tryd.prog 53 #[.int .u32 (uv x), .int .u32 17] w fun e w' => e = .returned (.int .u32 (uv (rotr x 17))) ∧ w = w' := by
  have h1 : ∀ y, Op.shift .shl .u32 (uv y) .u32 15 = pure (.int .u32 (uv (y <<< 15))) := fun y => shl32 0 y 15 (by decide) .u32
  have h2 : ∀ y, Op.shift .shr .u32 (uv y) .u32 17 = pure (.int .u32 (uv (y >>> 17))) := fun y => shr32 0 y 17 (by decide) .u32
  go_enter Tryd.func53, Tryd.ntmps53
  go_wp2
  go_ret
  exact ⟨rfl, rfl⟩

set_option maxHeartbeats 400000 in
theorem rot19 (x : UInt32) (w : World) :
    Calls Tryd.prog 52 #[.int .u32 (uv x), .int .i64 (-19)] w fun e w' => e = .returned (.int .u32 (uv (rotr x 19))) ∧ w = w' := by
  have h0 : bits BinOp.and IntKind.u64 (IntKind.u64.wrap (-19)) 31 = 13 := by decide
  have h1 : ∀ y, Op.shift .shl .u32 (uv y) .u64 13 = pure (.int .u32 (uv (y <<< 13))) := fun y => shl32 0 y 13 (by decide) .u64
  have h2 : ∀ y, Op.shift .shr .u32 (uv y) .u64 19 = pure (.int .u32 (uv (y >>> 19))) := fun y => shr32 0 y 19 (by decide) .u64
  have hc := Lib.hid (show (x <<< 13) ||| (x >>> 19) = rotr x 19 from or_comm32 _ _)
  go_enter Tryd.func52, Tryd.ntmps52
  go_wp2
  go_ret
  exact ⟨by rw [← hc.out]; rfl, rfl⟩

set_option maxHeartbeats 400000 in
theorem turn19 (x : UInt32) (w : World) :
    Calls Tryd.prog 53 #[.int .u32 (uv x), .int .u32 19] w fun e w' => e = .returned (.int .u32 (uv (rotr x 19))) ∧ w = w' := by
  have h1 : ∀ y, Op.shift .shl .u32 (uv y) .u32 13 = pure (.int .u32 (uv (y <<< 13))) := fun y => shl32 0 y 13 (by decide) .u32
  have h2 : ∀ y, Op.shift .shr .u32 (uv y) .u32 19 = pure (.int .u32 (uv (y >>> 19))) := fun y => shr32 0 y 19 (by decide) .u32
  go_enter Tryd.func53, Tryd.ntmps53
  go_wp2
  go_ret
  exact ⟨rfl, rfl⟩

set_option maxHeartbeats 400000 in
theorem rot6 (x : UInt32) (w : World) :
    Calls Tryd.prog 52 #[.int .u32 (uv x), .int .i64 (-6)] w fun e w' => e = .returned (.int .u32 (uv (rotr x 6))) ∧ w = w' := by
  have h0 : bits BinOp.and IntKind.u64 (IntKind.u64.wrap (-6)) 31 = 26 := by decide
  have h1 : ∀ y, Op.shift .shl .u32 (uv y) .u64 26 = pure (.int .u32 (uv (y <<< 26))) := fun y => shl32 0 y 26 (by decide) .u64
  have h2 : ∀ y, Op.shift .shr .u32 (uv y) .u64 6 = pure (.int .u32 (uv (y >>> 6))) := fun y => shr32 0 y 6 (by decide) .u64
  have hc := Lib.hid (show (x <<< 26) ||| (x >>> 6) = rotr x 6 from or_comm32 _ _)
  go_enter Tryd.func52, Tryd.ntmps52
  go_wp2
  go_ret
  exact ⟨by rw [← hc.out]; rfl, rfl⟩

set_option maxHeartbeats 400000 in
theorem turn6 (x : UInt32) (w : World) :
    Calls Tryd.prog 53 #[.int .u32 (uv x), .int .u32 6] w fun e w' => e = .returned (.int .u32 (uv (rotr x 6))) ∧ w = w' := by
  have h1 : ∀ y, Op.shift .shl .u32 (uv y) .u32 26 = pure (.int .u32 (uv (y <<< 26))) := fun y => shl32 0 y 26 (by decide) .u32
  have h2 : ∀ y, Op.shift .shr .u32 (uv y) .u32 6 = pure (.int .u32 (uv (y >>> 6))) := fun y => shr32 0 y 6 (by decide) .u32
  go_enter Tryd.func53, Tryd.ntmps53
  go_wp2
  go_ret
  exact ⟨rfl, rfl⟩

set_option maxHeartbeats 400000 in
theorem rot11 (x : UInt32) (w : World) :
    Calls Tryd.prog 52 #[.int .u32 (uv x), .int .i64 (-11)] w fun e w' => e = .returned (.int .u32 (uv (rotr x 11))) ∧ w = w' := by
  have h0 : bits BinOp.and IntKind.u64 (IntKind.u64.wrap (-11)) 31 = 21 := by decide
  have h1 : ∀ y, Op.shift .shl .u32 (uv y) .u64 21 = pure (.int .u32 (uv (y <<< 21))) := fun y => shl32 0 y 21 (by decide) .u64
  have h2 : ∀ y, Op.shift .shr .u32 (uv y) .u64 11 = pure (.int .u32 (uv (y >>> 11))) := fun y => shr32 0 y 11 (by decide) .u64
  have hc := Lib.hid (show (x <<< 21) ||| (x >>> 11) = rotr x 11 from or_comm32 _ _)
  go_enter Tryd.func52, Tryd.ntmps52
  go_wp2
  go_ret
  exact ⟨by rw [← hc.out]; rfl, rfl⟩

set_option maxHeartbeats 400000 in
theorem turn11 (x : UInt32) (w : World) :
    Calls Tryd.prog 53 #[.int .u32 (uv x), .int .u32 11] w fun e w' => e = .returned (.int .u32 (uv (rotr x 11))) ∧ w = w' := by
  have h1 : ∀ y, Op.shift .shl .u32 (uv y) .u32 21 = pure (.int .u32 (uv (y <<< 21))) := fun y => shl32 0 y 21 (by decide) .u32
  have h2 : ∀ y, Op.shift .shr .u32 (uv y) .u32 11 = pure (.int .u32 (uv (y >>> 11))) := fun y => shr32 0 y 11 (by decide) .u32
  go_enter Tryd.func53, Tryd.ntmps53
  go_wp2
  go_ret
  exact ⟨rfl, rfl⟩

set_option maxHeartbeats 400000 in
theorem rot25 (x : UInt32) (w : World) :
    Calls Tryd.prog 52 #[.int .u32 (uv x), .int .i64 (-25)] w fun e w' => e = .returned (.int .u32 (uv (rotr x 25))) ∧ w = w' := by
  have h0 : bits BinOp.and IntKind.u64 (IntKind.u64.wrap (-25)) 31 = 7 := by decide
  have h1 : ∀ y, Op.shift .shl .u32 (uv y) .u64 7 = pure (.int .u32 (uv (y <<< 7))) := fun y => shl32 0 y 7 (by decide) .u64
  have h2 : ∀ y, Op.shift .shr .u32 (uv y) .u64 25 = pure (.int .u32 (uv (y >>> 25))) := fun y => shr32 0 y 25 (by decide) .u64
  have hc := Lib.hid (show (x <<< 7) ||| (x >>> 25) = rotr x 25 from or_comm32 _ _)
  go_enter Tryd.func52, Tryd.ntmps52
  go_wp2
  go_ret
  exact ⟨by rw [← hc.out]; rfl, rfl⟩

set_option maxHeartbeats 400000 in
theorem turn25 (x : UInt32) (w : World) :
    Calls Tryd.prog 53 #[.int .u32 (uv x), .int .u32 25] w fun e w' => e = .returned (.int .u32 (uv (rotr x 25))) ∧ w = w' := by
  have h1 : ∀ y, Op.shift .shl .u32 (uv y) .u32 7 = pure (.int .u32 (uv (y <<< 7))) := fun y => shl32 0 y 7 (by decide) .u32
  have h2 : ∀ y, Op.shift .shr .u32 (uv y) .u32 25 = pure (.int .u32 (uv (y >>> 25))) := fun y => shr32 0 y 25 (by decide) .u32
  go_enter Tryd.func53, Tryd.ntmps53
  go_wp2
  go_ret
  exact ⟨rfl, rfl⟩

set_option maxHeartbeats 400000 in
theorem rot2 (x : UInt32) (w : World) :
    Calls Tryd.prog 52 #[.int .u32 (uv x), .int .i64 (-2)] w fun e w' => e = .returned (.int .u32 (uv (rotr x 2))) ∧ w = w' := by
  have h0 : bits BinOp.and IntKind.u64 (IntKind.u64.wrap (-2)) 31 = 30 := by decide
  have h1 : ∀ y, Op.shift .shl .u32 (uv y) .u64 30 = pure (.int .u32 (uv (y <<< 30))) := fun y => shl32 0 y 30 (by decide) .u64
  have h2 : ∀ y, Op.shift .shr .u32 (uv y) .u64 2 = pure (.int .u32 (uv (y >>> 2))) := fun y => shr32 0 y 2 (by decide) .u64
  have hc := Lib.hid (show (x <<< 30) ||| (x >>> 2) = rotr x 2 from or_comm32 _ _)
  go_enter Tryd.func52, Tryd.ntmps52
  go_wp2
  go_ret
  exact ⟨by rw [← hc.out]; rfl, rfl⟩

set_option maxHeartbeats 400000 in
theorem turn2 (x : UInt32) (w : World) :
    Calls Tryd.prog 53 #[.int .u32 (uv x), .int .u32 2] w fun e w' => e = .returned (.int .u32 (uv (rotr x 2))) ∧ w = w' := by
  have h1 : ∀ y, Op.shift .shl .u32 (uv y) .u32 30 = pure (.int .u32 (uv (y <<< 30))) := fun y => shl32 0 y 30 (by decide) .u32
  have h2 : ∀ y, Op.shift .shr .u32 (uv y) .u32 2 = pure (.int .u32 (uv (y >>> 2))) := fun y => shr32 0 y 2 (by decide) .u32
  go_enter Tryd.func53, Tryd.ntmps53
  go_wp2
  go_ret
  exact ⟨rfl, rfl⟩

set_option maxHeartbeats 400000 in
theorem rot13 (x : UInt32) (w : World) :
    Calls Tryd.prog 52 #[.int .u32 (uv x), .int .i64 (-13)] w fun e w' => e = .returned (.int .u32 (uv (rotr x 13))) ∧ w = w' := by
  have h0 : bits BinOp.and IntKind.u64 (IntKind.u64.wrap (-13)) 31 = 19 := by decide
  have h1 : ∀ y, Op.shift .shl .u32 (uv y) .u64 19 = pure (.int .u32 (uv (y <<< 19))) := fun y => shl32 0 y 19 (by decide) .u64
  have h2 : ∀ y, Op.shift .shr .u32 (uv y) .u64 13 = pure (.int .u32 (uv (y >>> 13))) := fun y => shr32 0 y 13 (by decide) .u64
  have hc := Lib.hid (show (x <<< 19) ||| (x >>> 13) = rotr x 13 from or_comm32 _ _)
  go_enter Tryd.func52, Tryd.ntmps52
  go_wp2
  go_ret
  exact ⟨by rw [← hc.out]; rfl, rfl⟩

set_option maxHeartbeats 400000 in
theorem turn13 (x : UInt32) (w : World) :
    Calls Tryd.prog 53 #[.int .u32 (uv x), .int .u32 13] w fun e w' => e = .returned (.int .u32 (uv (rotr x 13))) ∧ w = w' := by
  have h1 : ∀ y, Op.shift .shl .u32 (uv y) .u32 19 = pure (.int .u32 (uv (y <<< 19))) := fun y => shl32 0 y 19 (by decide) .u32
  have h2 : ∀ y, Op.shift .shr .u32 (uv y) .u32 13 = pure (.int .u32 (uv (y >>> 13))) := fun y => shr32 0 y 13 (by decide) .u32
  go_enter Tryd.func53, Tryd.ntmps53
  go_wp2
  go_ret
  exact ⟨rfl, rfl⟩

set_option maxHeartbeats 400000 in
theorem rot22 (x : UInt32) (w : World) :
    Calls Tryd.prog 52 #[.int .u32 (uv x), .int .i64 (-22)] w fun e w' => e = .returned (.int .u32 (uv (rotr x 22))) ∧ w = w' := by
  have h0 : bits BinOp.and IntKind.u64 (IntKind.u64.wrap (-22)) 31 = 10 := by decide
  have h1 : ∀ y, Op.shift .shl .u32 (uv y) .u64 10 = pure (.int .u32 (uv (y <<< 10))) := fun y => shl32 0 y 10 (by decide) .u64
  have h2 : ∀ y, Op.shift .shr .u32 (uv y) .u64 22 = pure (.int .u32 (uv (y >>> 22))) := fun y => shr32 0 y 22 (by decide) .u64
  have hc := Lib.hid (show (x <<< 10) ||| (x >>> 22) = rotr x 22 from or_comm32 _ _)
  go_enter Tryd.func52, Tryd.ntmps52
  go_wp2
  go_ret
  exact ⟨by rw [← hc.out]; rfl, rfl⟩

set_option maxHeartbeats 400000 in
theorem turn22 (x : UInt32) (w : World) :
    Calls Tryd.prog 53 #[.int .u32 (uv x), .int .u32 22] w fun e w' => e = .returned (.int .u32 (uv (rotr x 22))) ∧ w = w' := by
  have h1 : ∀ y, Op.shift .shl .u32 (uv y) .u32 10 = pure (.int .u32 (uv (y <<< 10))) := fun y => shl32 0 y 10 (by decide) .u32
  have h2 : ∀ y, Op.shift .shr .u32 (uv y) .u32 22 = pure (.int .u32 (uv (y >>> 22))) := fun y => shr32 0 y 22 (by decide) .u32
  go_enter Tryd.func53, Tryd.ntmps53
  go_wp2
  go_ret
  exact ⟨rfl, rfl⟩
end Go.Proofs.YthmcmkdncaccbaaDoor
