/- Words of 32 bits and bytes as the walks spell them: 'uv x', 'bv b'. No program in sight. -/
import Derived.Test.YthmcmkdncaccbaaDoorMem
set_option linter.unusedSimpArgs false
set_option linter.unusedVariables false
namespace Go.Proofs.YthmcmkdncaccbaaDoor
open Go.RowKit

/-- a word's number -/
def uv (x : UInt32) : Int := x.toNat
/-- a byte's number -/
def bv (b : UInt8) : Int := b.toNat
abbrev W32 (x : UInt32) : Value := .int .u32 (uv x)
abbrev B8 (b : UInt8) : Value := .int .u8 (bv b)

theorem uv_inj {x y : UInt32} : uv x = uv y ↔ x = y := by
  unfold uv; rw [Int.natCast_inj, UInt32.toNat_inj]
theorem bv_inj {x y : UInt8} : bv x = bv y ↔ x = y := by
  unfold bv; rw [Int.natCast_inj, UInt8.toNat_inj]
theorem uv_lt (x : UInt32) : 0 ≤ uv x ∧ uv x < 4294967296 := by
  unfold uv; have := x.toNat_lt; omega
theorem bv_lt (x : UInt8) : 0 ≤ bv x ∧ bv x ≤ 255 := by
  unfold bv; have := x.toNat_lt; omega
theorem exists_uv {n : Int} (h : (Lit.int .u32 n).wf = true) : ∃ x, n = uv x := by
  simp [Lit.wf, IntKind.min, IntKind.max, IntKind.bits, IntKind.signed] at h
  refine ⟨UInt32.ofNat n.toNat, ?_⟩
  unfold uv; rw [UInt32.toNat_ofNat']; omega
theorem exists_bv {n : Int} (h : (Lit.int .u8 n).wf = true) : ∃ x, n = bv x := by
  simp [Lit.wf, IntKind.min, IntKind.max, IntKind.bits, IntKind.signed] at h
  refine ⟨UInt8.ofNat n.toNat, ?_⟩
  unfold bv; rw [UInt8.toNat_ofNat']; omega
theorem wf_uv (x : UInt32) : (Lit.int .u32 (uv x)).wf = true := by
  have := uv_lt x
  simp [Lit.wf, IntKind.min, IntKind.max, IntKind.bits, IntKind.signed]; omega
theorem wf_bv (x : UInt8) : (Lit.int .u8 (bv x)).wf = true := by
  have := bv_lt x
  simp [Lit.wf, IntKind.min, IntKind.max, IntKind.bits, IntKind.signed]; omega

theorem ofInt_uv (x : UInt32) : BitVec.ofInt 32 (uv x) = x.toBitVec := by
  unfold uv; rw [BitVec.ofInt_natCast]; exact BitVec.ofNat_toNat 32 x.toBitVec |>.trans (by simp)
theorem ofInt_bv (x : UInt8) : BitVec.ofInt 8 (bv x) = x.toBitVec := by
  unfold bv; rw [BitVec.ofInt_natCast]; exact BitVec.ofNat_toNat 8 x.toBitVec |>.trans (by simp)
theorem wrap_nat32 (n : Nat) (h : n < 4294967296) : IntKind.u32.wrap (n : Int) = n := by
  rw [IntKind.wrap_u32]; omega
theorem wrap_nat8 (n : Nat) (h : n < 256) : IntKind.u8.wrap (n : Int) = n := by
  rw [IntKind.wrap_u8]; omega

variable (t : TypeId) (x y : UInt32) (a b : UInt8)
@[go_sem high] theorem add32 : binOp .add t (.int .u32 (uv x)) (.int .u32 (uv y)) = pure (.int .u32 (uv (x + y))) := by
  show pure (Value.int .u32 (IntKind.u32.wrap (uv x + uv y))) = _
  have h : IntKind.u32.wrap (uv x + uv y) = uv (x + y) := by unfold uv; rw [IntKind.wrap_u32, UInt32.toNat_add]; omega
  rw [h]
@[go_sem high] theorem xor32 : binOp .xor t (.int .u32 (uv x)) (.int .u32 (uv y)) = pure (.int .u32 (uv (x ^^^ y))) := by
  show pure (Value.int .u32 (IntKind.u32.wrap (BitVec.ofInt 32 (uv x) ^^^ BitVec.ofInt 32 (uv y)).toNat)) = _
  rw [ofInt_uv, ofInt_uv, wrap_nat32 _ (BitVec.isLt _)]; rfl
@[go_sem high] theorem and32 : binOp .and t (.int .u32 (uv x)) (.int .u32 (uv y)) = pure (.int .u32 (uv (x &&& y))) := by
  show pure (Value.int .u32 (IntKind.u32.wrap (BitVec.ofInt 32 (uv x) &&& BitVec.ofInt 32 (uv y)).toNat)) = _
  rw [ofInt_uv, ofInt_uv, wrap_nat32 _ (BitVec.isLt _)]; rfl
@[go_sem high] theorem or32 : binOp .or t (.int .u32 (uv x)) (.int .u32 (uv y)) = pure (.int .u32 (uv (x ||| y))) := by
  show pure (Value.int .u32 (IntKind.u32.wrap (BitVec.ofInt 32 (uv x) ||| BitVec.ofInt 32 (uv y)).toNat)) = _
  rw [ofInt_uv, ofInt_uv, wrap_nat32 _ (BitVec.isLt _)]; rfl
@[go_sem high] theorem not32 : Op.unary .xor (.int .u32 (uv x)) = pure (.int .u32 (uv (~~~x))) := by
  show pure (Value.int .u32 (IntKind.u32.wrap (BitVec.ofInt 32 (IntKind.u32.max) ^^^ BitVec.ofInt 32 (uv x)).toNat)) = _
  rw [ofInt_uv, wrap_nat32 _ (BitVec.isLt _)]
  have : BitVec.ofInt 32 IntKind.u32.max = BitVec.allOnes 32 := by decide
  rw [this, BitVec.allOnes_xor]; rfl
theorem shl32 (k : Nat) (hk : k < 32) (yk : IntKind) : binOp .shl t (.int .u32 (uv x)) (.int yk k) = pure (.int .u32 (uv (x <<< UInt32.ofNat k))) := by
  show Op.shift .shl .u32 (uv x) yk k = _
  unfold Op.shift
  rw [if_neg (by omega)]
  show pure (Value.int .u32 (IntKind.u32.wrap (uv x * 2 ^ (min (Int.toNat k) 32)))) = _
  have h1 : min (Int.toNat k) 32 = k := by rw [Int.toNat_natCast]; omega
  rw [h1]
  congr 2; unfold uv; rw [IntKind.wrap_u32, UInt32.toNat_shiftLeft]
  have h2 : (UInt32.ofNat k).toNat % 32 = k := by rw [UInt32.toNat_ofNat']; omega
  rw [h2, Nat.shiftLeft_eq]; simp
theorem shr32 (k : Nat) (hk : k < 32) (yk : IntKind) : binOp .shr t (.int .u32 (uv x)) (.int yk k) = pure (.int .u32 (uv (x >>> UInt32.ofNat k))) := by
  show Op.shift .shr .u32 (uv x) yk k = _
  unfold Op.shift
  rw [if_neg (by omega)]
  show pure (Value.int .u32 ((uv x).fdiv (2 ^ (min (Int.toNat k) 32)))) = _
  have h1 : min (Int.toNat k) 32 = k := by rw [Int.toNat_natCast]; omega
  rw [h1]
  congr 2; unfold uv; rw [UInt32.toNat_shiftRight]
  have h2 : (UInt32.ofNat k).toNat % 32 = k := by rw [UInt32.toNat_ofNat']; omega
  rw [h2, Nat.shiftRight_eq_div_pow]
  rw [Int.fdiv_eq_ediv_of_nonneg _ (by exact Int.le_of_lt (Int.pow_pos (by decide)))]
  simp
theorem eql32 : binOp .eql t (.int .u32 (uv x)) (.int .u32 (uv y)) = pure (.bool (x == y)) := by
  show pure (Value.bool (uv x == uv y)) = _
  congr 2; rw [Bool.eq_iff_iff, beq_iff_eq, beq_iff_eq, uv_inj]
@[go_sem high] theorem conv8_32 {P : Program} (w : World) (s d : TypeId) (hs : (P.underlying s).isSome = true) (hd : P.underlying d = some (.int .u32)) :
    (convert s d (.int .u8 (bv a))).run P w = .ok (.int .u32 (uv a.toUInt32)) w := by
  obtain ⟨d', hd'⟩ := Option.isSome_iff_exists.mp hs
  have : IntKind.u32.wrap (bv a) = uv a.toUInt32 := by
    unfold bv uv; rw [wrap_nat32 _ (by have := a.toNat_lt; omega), UInt8.toNat_toUInt32]
  simp [convert, run_underlying hd', run_underlying hd, Conv.intToInt, this]
end Go.Proofs.YthmcmkdncaccbaaDoor
