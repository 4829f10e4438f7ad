/- A number as bytes: the program's Big and the document's. -/
import Derived.Test.YtiaigekmkmampaaDoorEnvU
import Derived.Deep.DeepCutAuto
set_option linter.unusedSimpArgs false
set_option linter.unusedVariables false
namespace Go.Proofs.YtiaigekmkmampaaDoor
open Go.RowKit

def digitB (n i : Nat) : UInt8 := UInt8.ofNat (n / 256 ^ i)
def bigC (n w k : Nat) : List UInt8 := (List.range w).map fun i => if w - 1 - i < k then digitB n (w - 1 - i) else 0
def bigF (n w : Nat) : List UInt8 := bigC n w w
theorem bigC_len (n w k : Nat) : (bigC n w k).length = w := by simp [bigC]
theorem bigF_len (n w : Nat) : (bigF n w).length = w := bigC_len n w w
theorem bigC_zero (n w : Nat) : B8s (bigC n w 0) = List.replicate w (.int .u8 0) := by
  apply List.ext_getElem (by simp [bigC])
  intro i h1 h2
  simp [bigC, bv]
theorem bigC_set (n w k P : Nat) (h : k < w) (hP : P + 1 + k = w) (x : UInt8) (hx : x = digitB n k) : (B8s (bigC n w k)).set P (.int .u8 (bv x)) = B8s (bigC n w (k + 1)) := by
  subst hx
  apply List.ext_getElem (by simp [bigC])
  intro i h1 h2
  have hi : i < w := by simpa [bigC] using h2
  by_cases hp : P = i
  · subst hp
    have e1 : w - 1 - P = k := by omega
    simp [bigC, e1]
  · have e1 : (w - 1 - i < k) ↔ (w - 1 - i < k + 1) := by omega
    simp [bigC, List.getElem_set, hp]
    by_cases h3 : w - 1 - i < k
    · rw [if_pos h3, if_pos (e1.1 h3)]
    · rw [if_neg h3, if_neg (fun h => h3 (e1.2 h))]
theorem low_nat (m : Nat) : lowByte (m : Int) = UInt8.ofNat m := by
  unfold lowByte
  apply UInt8.toNat_inj.1
  rw [UInt8.toNat_ofNat', UInt8.toNat_ofNat']
  omega
theorem pow256 (k : Nat) : (2 : Int) ^ (8 * k) = ((256 ^ k : Nat) : Int) := by
  rw [Int.pow_mul]; norm_cast
theorem low_shr (n k : Nat) : lowByte ((n : Int) / 2 ^ (8 * (k : Int)).toNat) = digitB n k := by
  rw [show (8 * (k : Int)).toNat = 8 * k by omega, pow256, ← Int.natCast_ediv, low_nat]; rfl
theorem shr_none (n w : Nat) (h : n < 256 ^ w) : (n : Int) / 2 ^ (8 * (w : Int)).toNat = 0 := by
  rw [show (8 * (w : Int)).toNat = 8 * w by omega, pow256, ← Int.natCast_ediv, Nat.div_eq_of_lt h]; rfl
theorem low_rem (n k N : Nat) (h : N = n / 256 ^ k) : lowByte ((N % 256 : Nat) : Int) = digitB n k := by
  rw [low_nat, h]
  apply UInt8.toNat_inj.1
  unfold digitB
  rw [UInt8.toNat_ofNat', UInt8.toNat_ofNat']
  omega
theorem digit_next (n k : Nat) : n / 256 ^ k / 256 = n / 256 ^ (k + 1) := by rw [Nat.div_div_eq_div_mul, Nat.pow_succ]

/-- a block of a number's bytes -/
def BigOut (w : World) (n z : Nat) (e : Ending) (w' : World) : Prop :=
  e = .returned (.tuple #[.slice (some ⟨w.heap.size, 0, none⟩) z z, .int .i64 0]) ∧ BlkT 5 w' w.heap.size (B8s (bigF n z)) ∧ Below w.heap.size w w'

set_option maxRecDepth 100000 in
set_option maxHeartbeats 1000000 in
theorem big_any (n z : Nat) (hz : 1 ≤ z) (hz8 : z ≤ 8) (hn : n < 256 ^ z) (hn63 : n ≤ 9223372036854775807) (w : World) :
    Calls Tryd.prog 24 #[.int .i64 n, .int .i64 z] w (BigOut w n z) := by
  obtain ⟨Z, hZ⟩ : ∃ Z, Z = List.replicate z (.int .u8 0 : Value) := ⟨_, rfl⟩
  have hmk : ∀ w, (Instr.makeSlice 22 (.int .i64 z) (.int .i64 z)).run Tryd.prog w = .ok (.slice (some ⟨w.heap.size, 0, none⟩) z z) (w.alloc (.cells Z.toArray 5)) := fun w => by
    rw [hZ]; exact run_mk elemB w .i64 .i64 z (by omega) (by unfold maxLen; omega) rfl
  have HZ := Lib.hid (show Z = B8s (bigC n z 0) by rw [hZ, bigC_zero])
  have hs0 := shrI 3 (n : Int) (8 * (z : Int)) .i64 (by omega)
  rw [shr_none n z hn] at hs0
  have d1 : ¬ (z : Int) < 1 := by omega
  have d2 : ¬ (8 : Int) < (z : Int) := by omega
  have d3 : ¬ (n : Int) < 0 := by omega
  clear hZ hn
  go_enter Tryd.func24, Tryd.ntmps24
  go_upto_region 1 with (fail)
  go_cut [28] (fun v wx => v = .bool false ∧ w = wx)
  case first =>
    by_cases h8 : z < 8
    · have hd : (z : Int) < 8 := by omega
      have hs1 := hs0 (by omega)
      clear hs0
      go_wp2_with fail
      go_meet
      exact ⟨rfl, rfl⟩
    · have hd : ¬ (z : Int) < 8 := by omega
      clear hs0
      go_wp2_with fail
      go_meet
      exact ⟨rfl, rfl⟩
  case rest =>
    obtain ⟨rfl, rfl⟩ := hcut
    clear hs0
    go_wp2_with fail
    generalize hW : World.alloc w _ = W
    have hB0 : BlkT 5 W w.heap.size (B8s (bigC n z 0)) ∧ Below w.heap.size w W := by rw [← hW, ← HZ.out]; exact ⟨BlkT.new w Z _, ba w _⟩
    clear hW HZ hmk
    go_loopw [33] (fun v wx => ∃ k : Nat, k ≤ z ∧ v = .int .i64 k ∧ BlkT 5 wx w.heap.size (B8s (bigC n z k)) ∧ Below w.heap.size w wx) (fun v _ => z - (intOf v).toNat)
    case atStart => exact ⟨0, Nat.zero_le _, rfl, hB0.1, hB0.2⟩
    case round =>
      clear hB0
      obtain ⟨k, hk, rfl, hB, hb⟩ := hrel
      have HB := Lib.hid hB
      have Hb := Lib.hid hb
      clear hB hb
      by_cases hlt : k < z
      · obtain ⟨P, hP⟩ : ∃ P, P + 1 + k = z := ⟨z - 1 - k, by omega⟩
        have hPi : (z : Int) - 1 - k = (P : Int) := by omega
        have hs := shrI 3 (n : Int) (8 * (k : Int)) .i64 (by omega) (by omega)
        have hw := wrap8 ((n : Int) / 2 ^ (8 * (k : Int)).toNat)
        have Hset := Lib.hid (bigC_set n z k P hlt hP _ (low_shr n k))
        have hcell := HB.out.blk.cell P (by rw [List.length_map, bigC_len]; omega)
        have hfr := HB.out.blk.frozen
        generalize lowByte ((n : Int) / 2 ^ (8 * (k : Int)).toNat) = x at hw Hset
        generalize (n : Int) / 2 ^ (8 * (k : Int)).toNat = y at hw hs
        go_wp2_with fail
        refine ⟨⟨k + 1, by omega, by go_num, ?_, ?_⟩, by simp [intOf]; omega⟩
        · rw [← Hset.out]; exact HB.out.set P _
        · exact Hb.out.setCell (Nat.le_refl _) _
      · obtain rfl : k = z := by omega
        go_wp2_with fail
        go_ret2
        exact ⟨rfl, HB.out, Hb.out⟩
end Go.Proofs.YtiaigekmkmampaaDoor
