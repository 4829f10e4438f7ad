/- A key of 32 bytes. -/
import Derived.Test.YtelndpphbpandaaRingF
set_option linter.unusedSimpArgs false
set_option linter.unusedVariables false
namespace Go.Proofs.Ytelndpphbpandaa
open Go.RowKit

theorem newRep' (w : World) (n : Nat) (v : Value) (T : TypeId) : Blk (w.alloc (.cells (Array.replicate n v) T)) w.heap.size (List.replicate n v) := by
  have := Blk.new w (List.replicate n v) T
  rwa [show (List.replicate n v).toArray = Array.replicate n v by simp] at this
/-- a key of 32 bytes n comes back -/
def KeyOut (w : World) (n : UInt8) (e : Ending) (w' : World) : Prop := ∃ b, e = .returned (.slice (some ⟨b, 0, none⟩) 32 32) ∧ Blk w' b (B8s (List.replicate 32 n)) ∧ w.heap.size ≤ b ∧ Below w.heap.size w w'
theorem Blk.bytes {w : World} {b : Nat} {l : List UInt8} (h : Blk w b (B8s l)) : BytesAt w (some ⟨b, 0, none⟩) l := h.at
theorem key_row (n : UInt8) (k : Nat) (hk : k < 32) : (B8s (List.replicate k n) ++ List.replicate (32 - k) (Value.int .u8 0)).set k (.int .u8 (bv n)) = B8s (List.replicate (k + 1) n) ++ List.replicate (32 - (k + 1)) (Value.int .u8 0) := by
  rw [set_mid _ _ _ 32 k (by simp) hk, List.replicate_succ']; simp

set_option maxHeartbeats 1000000 in
theorem key_any (n : UInt8) (w : World) : Calls Try.prog 29 #[.int .u8 (bv n)] w (KeyOut w n) := by
  have hm : ∀ W, (Instr.makeSlice 22 (.int .i64 32) (.int .i64 32)).run Try.prog W = .ok (.slice (some ⟨W.heap.size, 0, none⟩) 32 32) (W.alloc (.cells (Array.replicate 32 (Value.int .u8 0)) 5)) := fun W => by
    have := run_mk elemB W .i64 .i64 32 (by decide) (by decide) rfl
    rwa [List.toArray_replicate] at this
  go_enter Try.func29, Try.ntmps29
  go_wp2_with fail
  go_loopw [4] (fun v wr => ∃ k : Nat, k ≤ 32 ∧ v = .int .i64 k ∧ Blk wr w.heap.size (B8s (List.replicate k n) ++ List.replicate (32 - k) (Value.int .u8 0)) ∧ Below w.heap.size w wr) (fun v _ => 32 - (intOf v).toNat)
  case atStart => exact ⟨0, by omega, rfl, newRep' w 32 _ _, ba w _⟩
  case round =>
    obtain ⟨k, hk, rfl, hB, hb⟩ := hrel
    have HB := Lib.hid hB
    have Hb := Lib.hid hb
    clear hB hb
    by_cases hlt : k < 32
    · have hlb := HB.out.lt
      have hc : (wr.cell? ⟨w.heap.size, k, none⟩).isSome = true := by rw [HB.out.cell k (by simp; omega)]; rfl
      obtain ⟨z, hz⟩ := Option.isSome_iff_exists.1 hc
      have hf := HB.out.frozen k
      have HS := Lib.hid (key_row n k hlt)
      clear hc
      go_wp2_with fail
      go_roundw
      case rel => exact ⟨k + 1, by omega, by go_num, by rw [← HS.out]; exact HB.out.set k _, Hb.out.setCell (Nat.le_refl _) _⟩
      case measure => simp [intOf]; omega
    · obtain rfl : k = 32 := by omega
      go_wp2_with fail
      go_ret
      exact ⟨_, rfl, by have := HB.out; rw [Nat.sub_self, List.replicate_zero, List.append_nil] at this; exact this, Nat.le_refl _, Hb.out⟩
end Go.Proofs.Ytelndpphbpandaa
