/- What is laid is taken again, in plain Lean. -/
import Derived.Test.YtiaigekmkmampaaDoorEnvD
set_option linter.unusedSimpArgs false
set_option linter.unusedVariables false
namespace Go.Proofs.YtiaigekmkmampaaDoor
open Go.RowKit

theorem digitB_nat (n i : Nat) : (digitB n i).toNat = n / 256 ^ i % 256 := by unfold digitB; rw [UInt8.toNat_ofNat']
/-- a number's bytes, wherever they lie, are that number -/
theorem numF_digits (l : List UInt8) (at_ n z : Nat) (h : ∀ i, i < z → l.getD (at_ + i) 0 = digitB n (z - 1 - i)) (hn : n < 256 ^ z) : ∀ k, k ≤ z → numF l at_ k = n / 256 ^ (z - k)
  | 0, _ => by
    show 0 = _
    rw [Nat.sub_zero, Nat.div_eq_of_lt hn]
  | k + 1, hk => by
    show numF l at_ k * 256 + (l.getD (at_ + k) 0).toNat = _
    rw [numF_digits l at_ n z h hn k (by omega), h k (by omega), digitB_nat]
    obtain ⟨j, hj⟩ : ∃ j, z - k = j + 1 := ⟨z - k - 1, by omega⟩
    rw [show z - 1 - k = j by omega, show z - (k + 1) = j by omega, hj, Nat.pow_succ, ← Nat.div_div_eq_div_mul]
    omega
theorem numF_all (l : List UInt8) (at_ n z : Nat) (h : ∀ i, i < z → l.getD (at_ + i) 0 = digitB n (z - 1 - i)) (hn : n < 256 ^ z) : numF l at_ z = n := by
  rw [numF_digits l at_ n z h hn z (Nat.le_refl _), Nat.sub_self, Nat.pow_zero, Nat.div_one]
theorem bigF_get (n z i : Nat) (h : i < z) : (bigF n z).getD i 0 = digitB n (z - 1 - i) := by
  unfold bigF bigC
  simp [List.getD, h]
  omega
theorem numF_big (X Y : List UInt8) (n z : Nat) (hn : n < 256 ^ z) : numF (X ++ bigF n z ++ Y) X.length z = n := by
  refine numF_all _ _ _ _ (fun i hi => ?_) hn
  rw [← bigF_get n z i hi]
  have hl := bigF_len n z
  simp [List.getD, List.getElem?_append_left, List.getElem?_append_right, hl, hi]
theorem numF_div (l : List UInt8) (at_ : Nat) (k : Nat) : ∀ j, numF l at_ (k + j) / 256 ^ j = numF l at_ k
  | 0 => by simp
  | j + 1 => by
    have h := (l.getD (at_ + (k + j)) 0).toNat_lt
    show (numF l at_ (k + j) * 256 + (l.getD (at_ + (k + j)) 0).toNat) / 256 ^ (j + 1) = _
    rw [Nat.pow_succ, Nat.mul_comm (256 ^ j) 256, ← Nat.div_div_eq_div_mul, show (numF l at_ (k + j) * 256 + (l.getD (at_ + (k + j)) 0).toNat) / 256 = numF l at_ (k + j) by omega]
    exact numF_div l at_ k j
theorem digit_num (l : List UInt8) (at_ z i : Nat) (h : i < z) : digitB (numF l at_ z) (z - 1 - i) = l.getD (at_ + i) 0 := by
  apply UInt8.toNat_inj.1
  obtain ⟨j, hj⟩ : ∃ j, z = (i + 1) + j := ⟨z - (i + 1), by omega⟩
  rw [digitB_nat, show z - 1 - i = j by omega, hj, numF_div]
  show (numF l at_ i * 256 + (l.getD (at_ + i) 0).toNat) % 256 = _
  have := (l.getD (at_ + i) 0).toNat_lt
  omega
/-- the number's bytes are those it was taken of -/
theorem big_numF (l : List UInt8) (at_ z : Nat) (h : at_ + z ≤ l.length) : bigF (numF l at_ z) z = (l.drop at_).take z := by
  apply List.ext_getElem
  · rw [bigF_len, List.length_take, List.length_drop]; omega
  · intro i h1 h2
    have hi : i < z := by rw [bigF_len] at h1; exact h1
    have e := bigF_get (numF l at_ z) z i hi
    rw [digit_num l at_ z i hi] at e
    simp [List.getD, h1, show at_ + i < l.length by omega] at e
    simpa using e
end Go.Proofs.YtiaigekmkmampaaDoor
