/- Frames: the small functions of the program and of the document. -/
import Derived.Test.YtcccgjpmfbmplaaBase
import Derived.Test.YtcccgjpmfbmplaaBlk2
import Derived.Test.YtcccgjpmfbmplaaFrA
import Derived.Test.YtcccgjpmfbmplaaRows2
import Derived.Lib.AppendZeros
set_option linter.unusedSimpArgs false
set_option linter.unusedVariables false
namespace Go.Proofs.Ytcccgjpmfbmplaa
open Go.RowKit

section
variable (t : TypeId) (x y : UInt8)
/-- a byte that stands eight bits up, and two bytes' number -/
def hiB (x : UInt8) : Int := 256 * bv x
theorem hiB_eq (x : UInt8) : hiB x = 256 * bv x := rfl
@[go_sem high] theorem shl64_8 : binOp .shl t (.int .i64 (bv x)) (.int .u64 8) = pure (.int .i64 (hiB x)) := by
  show Op.shift .shl .i64 (bv x) .u64 8 = _
  have := bv_lt x
  unfold Op.shift hiB
  rw [if_neg (by omega)]
  show pure (Value.int .i64 (IntKind.i64.wrap (bv x * 2 ^ (min (Int.toNat 8) 64)))) = _
  have h1 : (2 : Int) ^ (min (Int.toNat 8) 64) = 256 := by decide
  have h2 : IntKind.i64.wrap (bv x * 256) = 256 * bv x := by rw [IntKind.wrap_i64]; omega
  rw [h1, h2]
@[go_sem high] theorem mul64_256 : binOp .mul t (.int .i64 256) (.int .i64 (bv x)) = pure (.int .i64 (hiB x)) := by
  show pure (Value.int .i64 (IntKind.i64.wrap (256 * bv x))) = _
  have := bv_lt x
  have h2 : IntKind.i64.wrap (256 * bv x) = hiB x := by unfold hiB; rw [IntKind.wrap_i64]; omega
  rw [h2]
@[go_sem high] theorem add64_hi : binOp .add t (.int .i64 (hiB x)) (.int .i64 (bv y)) = pure (.int .i64 ((toldL [x, y] : Nat) : Int)) := by
  show pure (Value.int .i64 (IntKind.i64.wrap (hiB x + bv y))) = _
  have := bv_lt x; have := bv_lt y
  have e : ((toldL [x, y] : Nat) : Int) = hiB x + bv y := by simp [toldL, hiB, bv]
  have h2 : IntKind.i64.wrap (hiB x + bv y) = hiB x + bv y := by unfold hiB; rw [IntKind.wrap_i64]; omega
  rw [e, h2]
theorem or_bytes (a b : Nat) (ha : a < 256) (hb : b < 256) : (256 * a) ||| b = 256 * a + b := by
  have := Nat.shiftLeft_add_eq_or_of_lt (i := 8) (b := b) (by simpa using hb) a
  rw [Nat.shiftLeft_eq] at this
  simp at this
  rw [Nat.mul_comm 256 a]; exact this.symm
@[go_sem high] theorem or64_hi : binOp .or t (.int .i64 (hiB x)) (.int .i64 (bv y)) = pure (.int .i64 ((toldL [x, y] : Nat) : Int)) := by
  show pure (Value.int .i64 (IntKind.i64.wrap (BitVec.ofInt 64 (hiB x) ||| BitVec.ofInt 64 (bv y)).toNat)) = _
  have hx := x.toNat_lt; have hy := y.toNat_lt
  have e1 : hiB x = ((256 * x.toNat : Nat) : Int) := by simp [hiB, bv]
  have e2 : bv y = ((y.toNat : Nat) : Int) := rfl
  rw [e1, e2, BitVec.ofInt_natCast, BitVec.ofInt_natCast, BitVec.toNat_or, BitVec.toNat_ofNat, BitVec.toNat_ofNat, Nat.mod_eq_of_lt (by omega), Nat.mod_eq_of_lt (by omega), or_bytes _ _ (by omega) (by omega)]
  have e : toldL [x, y] = 256 * x.toNat + y.toNat := by simp [toldL]
  have h2 : IntKind.i64.wrap ((256 * x.toNat + y.toNat : Nat) : Int) = ((256 * x.toNat + y.toNat : Nat) : Int) := by rw [IntKind.wrap_i64]; omega
  rw [e, h2]
@[go_sem high] theorem conv8_64 {P : Program} (w : World) (s d : TypeId) (hs : (P.underlying s).isSome = true) (hd : P.underlying d = some (.int .i64)) :
    (convert s d (.int .u8 (bv x))).run P w = .ok (.int .i64 (bv x)) w := by
  obtain ⟨d', hd'⟩ := Option.isSome_iff_exists.mp hs
  have : IntKind.i64.wrap (bv x) = bv x := by have := bv_lt x; rw [IntKind.wrap_i64]; omega
  simp [convert, run_underlying hd', run_underlying hd, Conv.intToInt, this]
end
theorem told_two (l : List UInt8) : toldL [l.getD 0 0, l.getD 1 0] = toldL l := by simp [toldL]
/-- the first two bytes -/
theorem bytes_two {w : World} {a : Option Addr} {l : List UInt8} (h : BytesAt w a l) (hl : 2 ≤ l.length) :
    ∃ b off, a = some ⟨b, off, none⟩ ∧ b < w.heap.size ∧ w.cell? ⟨b, off, none⟩ = some (.int .u8 (bv (l.getD 0 0))) ∧ w.cell? ⟨b, off + 1, none⟩ = some (.int .u8 (bv (l.getD 1 0))) := by
  obtain ⟨b, off, h1, h2, h3⟩ := bytes_cell h (by omega)
  exact ⟨b, off, h1, h2, by have := h3 0 (by omega); rwa [Nat.add_zero] at this, h3 1 (by omega)⟩

set_option maxHeartbeats 400000 in
theorem told_any (a : Option Addr) (len cap : Nat) (l : List UInt8) (w : World) (hl : len = l.length) (h2 : 2 ≤ len) (h : BytesAt w a l) :
    Calls Try.prog 36 #[.slice a len cap] w fun e w' => e = .returned (.int .i64 ((toldL l : Nat) : Int)) ∧ Below w.heap.size w w' := by
  obtain ⟨b, off, rfl, hlt, c0, c1⟩ := bytes_two h (by omega)
  have Ht := Lib.hid (told_two l)
  have h0 : 0 < len := by omega
  have h1 : 1 < len := by omega
  clear h hl h2
  generalize l.getD 0 0 = x0 at c0 Ht
  generalize l.getD 1 0 = x1 at c1 Ht
  go_enter Try.func36, Try.ntmps36
  go_wp2_with fail
  go_quiet (fail)
  go_wp2_with fail
  go_ret
  exact ⟨by rw [Ht.out]; rfl, btn (Below.refl _ _) _⟩
end Go.Proofs.Ytcccgjpmfbmplaa
