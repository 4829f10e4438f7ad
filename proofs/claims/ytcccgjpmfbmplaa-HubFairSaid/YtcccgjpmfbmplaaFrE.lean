/- Frames: packed, of the program and of the document. -/
import Derived.Test.YtcccgjpmfbmplaaFrD
set_option linter.unusedSimpArgs false
set_option linter.unusedVariables false
namespace Go.Proofs.Ytcccgjpmfbmplaa
open Go.RowKit

section
variable (t : TypeId) (n : Nat)
@[go_sem high] theorem shr64_8 (h : n ≤ 9223372036854775807) : binOp .shr t (.int .i64 (n : Int)) (.int .u64 8) = pure (.int .i64 ((n / 256 : Nat) : Int)) := by
  show Op.shift .shr .i64 (n : Int) .u64 8 = _
  unfold Op.shift
  rw [if_neg (by omega)]
  show pure (Value.int .i64 ((n : Int).fdiv (2 ^ (min (Int.toNat 8) 64)))) = _
  have h1 : (2 : Int) ^ (min (Int.toNat 8) 64) = 256 := by decide
  have h2 : ((n : Int).fdiv 256) = ((n / 256 : Nat) : Int) := by rw [Int.fdiv_eq_ediv_of_nonneg _ (by decide)]; omega
  rw [h1, h2]
theorem byte_wrap (n : Nat) : IntKind.u8.wrap (n : Int) = bv (UInt8.ofNat n) := by
  rw [wrap8]; unfold lowByte
  congr 1
  have : ((n : Int) % 256).toNat = n % 256 := by omega
  rw [this]
  apply UInt8.toNat_inj.1
  rw [UInt8.toNat_ofNat', UInt8.toNat_ofNat']
  omega
@[go_sem high] theorem conv64_8 {P : Program} (w : World) (s d : TypeId) (hs : (P.underlying s).isSome = true) (hd : P.underlying d = some (.int .u8)) :
    (convert s d (.int .i64 (n : Int))).run P w = .ok (.int .u8 (bv (UInt8.ofNat n))) w := by
  obtain ⟨d', hd'⟩ := Option.isSome_iff_exists.mp hs
  simp [convert, run_underlying hd', run_underlying hd, Conv.intToInt, byte_wrap]
end
theorem ofNat_mod (n : Nat) : UInt8.ofNat (n % 256) = UInt8.ofNat n := by
  apply UInt8.toNat_inj.1
  rw [UInt8.toNat_ofNat', UInt8.toNat_ofNat']
  omega
/-- a frame -/
def packL (l : List UInt8) : List UInt8 := UInt8.ofNat (l.length / 256) :: UInt8.ofNat l.length :: l
def packs (l : List UInt8) : Bool := decide (1 ≤ l.length) && decide (l.length ≤ 1024)
theorem packL_len (l : List UInt8) : (packL l).length = l.length + 2 := rfl
/-- what packing answers -/
def PackOut (w : World) (l : List UInt8) (e : Ending) (w' : World) : Prop :=
  Below w.heap.size w w' ∧ ((packs l = true ∧ ∃ a c, e = .returned (.tuple #[.slice a (l.length + 2) c, .int .i64 0]) ∧ l.length + 2 ≤ c ∧ c ≤ maxLen ∧ BytesAt w' a (packL l)) ∨ (packs l = false ∧ e = .returned (.tuple #[.slice none 0 0, .int .i64 1])))

end Go.Proofs.Ytcccgjpmfbmplaa
