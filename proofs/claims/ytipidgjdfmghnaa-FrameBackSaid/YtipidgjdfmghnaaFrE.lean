/- Frames: packed, of the program and of the document. -/
import Derived.Test.YtipidgjdfmghnaaFrD
set_option linter.unusedSimpArgs false
set_option linter.unusedVariables false
namespace Go.Proofs.Ytipidgjdfmghnaa
open Go.RowKit

section
variable (t : TypeId) (n : Nat)
@[go_sem high] theorem shr64_8 (h : n ≤ 9223372036854775807) : binOp .shr t (.int .i64 (n : Int)) (.int .u64 8) = pure (.int .i64 ((n / 256 : Nat) : Int)) := by
  show Op.shift .shr .i64 (n : Int) .u64 8 = _
  unfold Op.shift
  rw [if_neg (by omega)]
  show pure (Value.int .i64 ((n : Int).fdiv (2 ^ (min (Int.toNat 8) 64)))) = _
  have h1 : (2 : Int) ^ (min (Int.toNat 8) 64) = 256 := by decide
  have h2 : ((n : Int).fdiv 256) = ((n / 256 : Nat) : Int) := by rw [Int.fdiv_eq_ediv_of_nonneg _ (by decide)]; omega
  rw [h1, h2]
theorem byte_wrap (n : Nat) : IntKind.u8.wrap (n : Int) = bv (UInt8.ofNat n) := by
  rw [wrap8]; unfold lowByte
  congr 1
  have : ((n : Int) % 256).toNat = n % 256 := by omega
  rw [this]
  apply UInt8.toNat_inj.1
  rw [UInt8.toNat_ofNat', UInt8.toNat_ofNat']
  omega
@[go_sem high] theorem conv64_8 {P : Program} (w : World) (s d : TypeId) (hs : (P.underlying s).isSome = true) (hd : P.underlying d = some (.int .u8)) :
    (convert s d (.int .i64 (n : Int))).run P w = .ok (.int .u8 (bv (UInt8.ofNat n))) w := by
  obtain ⟨d', hd'⟩ := Option.isSome_iff_exists.mp hs
  simp [convert, run_underlying hd', run_underlying hd, Conv.intToInt, byte_wrap]
end
theorem ofNat_mod (n : Nat) : UInt8.ofNat (n % 256) = UInt8.ofNat n := by
  apply UInt8.toNat_inj.1
  rw [UInt8.toNat_ofNat', UInt8.toNat_ofNat']
  omega
/-- a frame -/
def packL (l : List UInt8) : List UInt8 := UInt8.ofNat (l.length / 256) :: UInt8.ofNat l.length :: l
def packs (l : List UInt8) : Bool := decide (1 ≤ l.length) && decide (l.length ≤ 1024)
theorem packL_len (l : List UInt8) : (packL l).length = l.length + 2 := rfl
/-- what packing answers -/
def PackOut (w : World) (l : List UInt8) (e : Ending) (w' : World) : Prop :=
  Below w.heap.size w w' ∧ ((packs l = true ∧ ∃ a c, e = .returned (.tuple #[.slice a (l.length + 2) c, .int .i64 0]) ∧ l.length + 2 ≤ c ∧ c ≤ maxLen ∧ BytesAt w' a (packL l)) ∨ (packs l = false ∧ e = .returned (.tuple #[.slice none 0 0, .int .i64 1])))

set_option maxHeartbeats 1000000 in
theorem pack_any (a : Option Addr) (cap : Nat) (l : List UInt8) (w : World) (hm : l.length ≤ maxLen) (hl : BytesAt w a l) :
    Calls Try.prog 10 #[.slice a l.length cap] w (PackOut w l) := by
  unfold maxLen at hm
  by_cases h1 : 1 ≤ l.length
  · by_cases h2 : l.length ≤ 1024
    · have hd1 : decide (((l.length : Nat) : Int) < 1) = false := by simp; omega
      have hd2 : decide ((1024 : Int) < ((l.length : Nat) : Int)) = false := by simp; omega
      have h63 : l.length ≤ 9223372036854775807 := by omega
      have HP := Lib.hid (show packs l = true by simp [packs, h1, h2])
      have HQ := Lib.hid (show (((l.length : Nat) : Int) / 256) = bv (UInt8.ofNat (l.length / 256)) by
        unfold bv; rw [UInt8.toNat_ofNat']; omega)
      have Hl := Lib.hid (hl.mono (ba w (.cells #[.int .u8 (((l.length : Nat) : Int) / 256), .int .u8 (bv (UInt8.ofNat l.length))] 5)))
      have H2 := Lib.hid h2
      clear hl
      go_enter Try.func10, Try.ntmps10
      go_wp2_with (at_builtin; go_must (refine wpList_buf (.tmp 19) (.tmp 20) 22 rfl rfl elemB rfl (Buf.made w 5 [.int .u8 (((l.length : Nat) : Int) / 256), .int .u8 (bv (UInt8.ofNat l.length))] 2 2 (by decide) rfl (by decide)) (sp := a) (m := l.length) (news := B8s l) rfl Hl.out (by simp) (bytes_one l) (by have := H2.out; omega) (by decide) (l.length + 2) (by omega) (B8s (packL l)) (by rw [HQ.out]; rfl) ?_; intro a1 c1 w1 hB1))
      go_ret2
      obtain ⟨-, g1, g2⟩ := hB1.cap
      exact ⟨hB1.bel, .inl ⟨HP.out, a1, c1, rfl, g1, g2, hB1.at⟩⟩
    · have hd1 : decide (((l.length : Nat) : Int) < 1) = false := by simp; omega
      have hd2 : decide ((1024 : Int) < ((l.length : Nat) : Int)) = true := by simp; omega
      have HP := Lib.hid (show packs l = false by simp [packs, h2])
      clear hl
      go_enter Try.func10, Try.ntmps10
      go_wp2_with fail
      go_ret2
      exact ⟨Below.refl _ _, .inr ⟨HP.out, rfl⟩⟩
  · have hd1 : decide (((l.length : Nat) : Int) < 1) = true := by simp; omega
    have HP := Lib.hid (show packs l = false by simp [packs, h1])
    clear hl
    go_enter Try.func10, Try.ntmps10
    go_wp2_with fail
    go_ret2
    exact ⟨Below.refl _ _, .inr ⟨HP.out, rfl⟩⟩
set_option maxHeartbeats 1000000 in
theorem refPack_any (a : Option Addr) (cap : Nat) (l : List UInt8) (w : World) (hm : l.length ≤ maxLen) (hl : BytesAt w a l) :
    Calls Try.prog 11 #[.slice a l.length cap] w (PackOut w l) := by
  unfold maxLen at hm
  by_cases h1 : 1 ≤ l.length
  · by_cases h2 : l.length ≤ 1024
    · have hd1 : decide (((l.length : Nat) : Int) < 1) = false := by simp; omega
      have hd2 : decide ((1024 : Int) < ((l.length : Nat) : Int)) = false := by simp; omega
      have h63 : l.length ≤ 9223372036854775807 := by omega
      have HP := Lib.hid (show packs l = true by simp [packs, h1, h2])
      have HQ := Lib.hid (show (((l.length : Nat) : Int) / 256) = bv (UInt8.ofNat (l.length / 256)) by
        unfold bv; rw [UInt8.toNat_ofNat']; omega)
      have Hl := Lib.hid (hl.mono (ba w (.cells #[.int .u8 (((l.length : Nat) : Int) / 256), .int .u8 (bv (UInt8.ofNat l.length))] 5)))
      have H2 := Lib.hid h2
      clear hl
      go_enter Try.func11, Try.ntmps11
      go_wp2_with (at_builtin; go_must (refine wpList_buf (.tmp 20) (.tmp 21) 22 rfl rfl elemB rfl (Buf.made w 5 [.int .u8 (((l.length : Nat) : Int) / 256), .int .u8 (bv (UInt8.ofNat l.length))] 2 2 (by decide) rfl (by decide)) (sp := a) (m := l.length) (news := B8s l) rfl Hl.out (by simp) (bytes_one l) (by have := H2.out; omega) (by decide) (l.length + 2) (by omega) (B8s (packL l)) (by rw [HQ.out]; rfl) ?_; intro a1 c1 w1 hB1))
      go_ret2
      obtain ⟨-, g1, g2⟩ := hB1.cap
      exact ⟨hB1.bel, .inl ⟨HP.out, a1, c1, rfl, g1, g2, hB1.at⟩⟩
    · have hd1 : decide (((l.length : Nat) : Int) < 1) = false := by simp; omega
      have hd2 : decide ((1024 : Int) < ((l.length : Nat) : Int)) = true := by simp; omega
      have HP := Lib.hid (show packs l = false by simp [packs, h2])
      clear hl
      go_enter Try.func11, Try.ntmps11
      go_wp2_with fail
      go_ret2
      exact ⟨Below.refl _ _, .inr ⟨HP.out, rfl⟩⟩
  · have hd1 : decide (((l.length : Nat) : Int) < 1) = true := by simp; omega
    have HP := Lib.hid (show packs l = false by simp [packs, h1])
    clear hl
    go_enter Try.func11, Try.ntmps11
    go_wp2_with fail
    go_ret2
    exact ⟨Below.refl _ _, .inr ⟨HP.out, rfl⟩⟩
end Go.Proofs.Ytipidgjdfmghnaa
