/- Primes: the walk of prime. -/
import Derived.Test.YtmcbhffkaaaijaaDoorBase
set_option linter.unusedSimpArgs false
set_option linter.unusedVariables false
namespace Go.Proofs.YtmcbhffkaaaijaaDoor
open Go.RowKit

/-- is a number below 400 a prime? -/
def primeF (n : Nat) : Bool := decide (1 < n) && (List.range 20).all fun d => !(decide (2 ≤ d) && (decide (d * d ≤ n) && decide (n % d = 0)))
theorem prime_no (n d : Nat) (hn : n < 400) (h2 : 2 ≤ d) (hd : d * d ≤ n) (hm : n % d = 0) : primeF n = false := by
  have h20 : d < 20 := by
    rcases Nat.lt_or_ge d 20 with h | h
    · exact h
    · have := Nat.mul_le_mul h h; omega
  have : ((List.range 20).all fun d => !(decide (2 ≤ d) && (decide (d * d ≤ n) && decide (n % d = 0)))) = false := by
    rw [List.all_eq_false]
    exact ⟨d, List.mem_range.2 h20, by simp [h2, hd, hm]⟩
  unfold primeF; rw [this, Bool.and_false]
theorem prime_end (n d : Nat) (hd : ¬ d * d ≤ n) (hall : ∀ j, 2 ≤ j → j < d → n % j ≠ 0) : primeF n = decide (1 < n) := by
  have : ((List.range 20).all fun d => !(decide (2 ≤ d) && (decide (d * d ≤ n) && decide (n % d = 0)))) = true := by
    rw [List.all_eq_true]
    intro j _
    by_cases h2 : 2 ≤ j
    · by_cases hj : j * j ≤ n
      · have hlt : j < d := by
          rcases Nat.lt_or_ge j d with h | h
          · exact h
          · have := Nat.mul_le_mul h h; omega
        simp [h2, hj, hall j h2 hlt]
      · simp [hj]
    · simp [h2]
  unfold primeF; rw [this, Bool.and_true]
theorem sq_lt (n d : Nat) (hn : n < 400) (hd : d * d ≤ n) : d < 20 := by
  rcases Nat.lt_or_ge d 20 with h | h
  · exact h
  · have := Nat.mul_le_mul h h; omega
theorem sq_w (d : Nat) (h : d ≤ 20) : wrap64 ((d : Int) * (d : Int)) = ((d * d : Nat) : Int) := by
  have h1 : d * d ≤ 400 := Nat.mul_le_mul h h
  have h2 : (d : Int) * (d : Int) = ((d * d : Nat) : Int) := by simp
  rw [h2]; unfold wrap64; omega
theorem tm_nat (n d : Nat) : ((n : Int)).tmod (d : Int) = ((n % d : Nat) : Int) := by rw [Int.tmod_eq_emod_of_nonneg (by omega)]; rfl
theorem mod_stay (n d : Nat) (h : ∀ j, 2 ≤ j → j < d → n % j ≠ 0) (hm : n % d ≠ 0) : ∀ j, 2 ≤ j → j < d + 1 → n % j ≠ 0 := fun j h2 hj => by
  rcases Nat.lt_or_ge j d with h' | h'
  · exact h j h2 h'
  · obtain rfl : j = d := by omega
    exact hm

theorem next20 (d : Nat) (h : d ≤ 1000) : wrap64 ((d : Int) + 1) = ((d + 1 : Nat) : Int) := by unfold wrap64; omega

set_option maxRecDepth 100000 in
set_option maxHeartbeats 1000000 in
theorem prime_any (n : Nat) (hn : n < 400) (w : World) :
    Calls Tryd.prog 28 #[.int .i64 (n : Int)] w fun e w' => e = .returned (.bool (primeF n)) ∧ w = w' := by
  obtain ⟨b, hb⟩ : ∃ b, b = primeF n := ⟨_, rfl⟩
  rw [← hb]
  have HB := Lib.hid hb
  clear hb
  go_enter Tryd.func28, Tryd.ntmps28
  go_wp2_with fail
  go_loopw [3] (fun v wx => ∃ d : Nat, 2 ≤ d ∧ d ≤ 20 ∧ v = .int .i64 (d : Int) ∧ (∀ j, 2 ≤ j → j < d → n % j ≠ 0) ∧ wx = w) (fun v _ => 30 - (intOf v).toNat)
  case atStart => exact ⟨2, by omega, by omega, rfl, fun j h1 h2 => by omega, rfl⟩
  case round =>
    obtain ⟨d, h2, h20, rfl, hall, rfl⟩ := hrel
    have Hall := Lib.hid hall
    have hw := sq_w d h20
    obtain ⟨D, hD⟩ : ∃ D, D = d * d := ⟨_, rfl⟩
    rw [← hD] at hw
    have HD := Lib.hid hD
    clear hall hD
    by_cases hle : D ≤ n
    · have hd : (D : Int) ≤ (n : Int) := by omega
      have hz : ¬ (d : Int) = 0 := by omega
      have ht := tm_nat n d
      have Hlt := Lib.hid (sq_lt n d hn (by rw [← HD.out]; exact hle))
      obtain ⟨M, hM⟩ : ∃ M, M = n % d := ⟨_, rfl⟩
      rw [← hM] at ht
      have HM := Lib.hid hM
      clear hM
      by_cases hm : M = 0
      · subst hm
        have hbf : b = false := by rw [HB.out]; exact prime_no n d hn h2 (by rw [← HD.out]; exact hle) HM.out.symm
        subst hbf
        clear hle
        go_wp2_with fail
        go_ret
        exact ⟨rfl, rfl⟩
      · have hne : ¬ (M : Int) = 0 := by omega
        have hnx := next20 d (by omega)
        clear hle
        go_wp2_with fail
        exact ⟨⟨d + 1, by omega, by have := Hlt.out; omega, by first | rfl | rw [hnx], mod_stay n d Hall.out (by rw [← HM.out]; exact hm), by first | rfl | trivial⟩, by have := Hlt.out; simp [intOf]; omega⟩
    · have hd : ¬ (D : Int) ≤ (n : Int) := by omega
      have hbf : b = decide ((1 : Int) < (n : Int)) := by
        rw [HB.out, prime_end n d (by rw [← HD.out]; exact hle) Hall.out]
        exact decide_eq_decide.2 ⟨fun h => by omega, fun h => by omega⟩
      subst hbf
      clear hle
      go_wp2_with fail
      go_ret
      exact ⟨rfl, rfl⟩
end Go.Proofs.YtmcbhffkaaaijaaDoor
