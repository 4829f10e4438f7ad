/- The walks of PhaseNames and PhaseOn. -/
import Derived.Test.YtekidelgopciaaaDarkLaw
set_option linter.unusedSimpArgs false
set_option linter.unusedVariables false
namespace Go.Proofs.Ytekidelgopciaaa
open Go.RowKit

def nameN (n : Nat) : ByteArray := nameT.getD n ⟨#[]⟩
theorem nameF_in (n : Nat) : nameF n = nameN n := by simp [nameF, nameN]
theorem nameF_out (p : Int) (h : ¬ (0 ≤ p ∧ p ≤ 8)) : nameF p = ⟨#[]⟩ := by
  unfold nameF
  split
  · have h9 : 9 ≤ p.toNat := by omega
    simp [nameT, List.getD, List.getElem?_eq_none, h9]
  · rfl
theorem name_same_all : ∀ a, a < 9 → ∀ b, b < 9 → ((nameN a).data.toList == (nameN b).data.toList) = (a == b) := by decide
theorem name_full_all : ∀ a, a < 9 → ((nameN a).data.toList.isEmpty) = false := by decide
theorem name_full (p : Int) (h : 0 ≤ p ∧ p ≤ 8) : (nameF p).toList.isEmpty = false := by
  obtain ⟨a, rfl⟩ := Int.eq_ofNat_of_zero_le h.1
  rw [nameF_in, ByteArray.toList_eq]; exact name_full_all a (by omega)
theorem name_same (p q : Int) (h : 0 ≤ p ∧ p ≤ 8) : ((nameF p).toList == (nameF q).toList) = (p == q) := by
  by_cases hq : 0 ≤ q ∧ q ≤ 8
  · obtain ⟨a, rfl⟩ := Int.eq_ofNat_of_zero_le h.1
    obtain ⟨b, rfl⟩ := Int.eq_ofNat_of_zero_le hq.1
    rw [nameF_in, nameF_in, ByteArray.toList_eq, ByteArray.toList_eq, name_same_all a (by omega) b (by omega)]
    rw [Bool.eq_iff_iff, beq_iff_eq, beq_iff_eq]; omega
  · have h1 := name_full p h
    rw [nameF_out q hq]
    have e : (p == q) = false := by simp; omega
    rw [e]
    cases hl : (nameF p).toList with
    | nil => rw [hl] at h1; cases h1
    | cons x l => rw [ByteArray.toList_eq]; rfl

set_option maxHeartbeats 1000000 in
theorem names14_walk (p q : Int) (w : World) :
    Calls Try.prog 7 #[.int .i64 p, .int .i64 q] w fun e w' => e = .returned (.bool true) ∧ Below w.heap.size w w' := by
  have r0 : runF p [] = (p, 0) := rfl
  by_cases hin : 0 ≤ p ∧ p ≤ 8
  · have h1 := name_full p hin
    have h2 := name_same p q hin
    have h3 : ¬ (nameF p).toList = [] := by intro e; rw [e] at h1; cases h1
    go_enter Try.func7, Try.ntmps7
    go_wp2_with (first
          | (go_at_call 9; refine (shown14_any _).mono ?_; rintro e w1 ⟨rfl, hb1⟩)
          | (go_at_call 16; have tok := hb1; refine (name_any _ _).mono ?_; rintro e w2 ⟨rfl, hb2⟩; replace hb1 := bt tok hb2; clear tok hb2)
          | (go_at_call 18; refine (run_at _ _ _ _ [] _ rfl (by decide) (.inl rfl)).mono ?_; rintro e w4 ⟨rfl, hb4⟩))
    all_goals (go_ret; exact ⟨rfl, bt hb1 hb4⟩)
  · have hn := nameF_out p hin
    have hi : p ≤ -1 ∨ 9 ≤ p := by omega
    clear hin
    rcases hi with hi | hi
    all_goals
      go_enter Try.func7, Try.ntmps7
      go_wp2_with (first
          | (go_at_call 9; refine (shown14_any _).mono ?_; rintro e w1 ⟨rfl, hb1⟩)
          | (go_at_call 16; have tok := hb1; refine (name_any _ _).mono ?_; rintro e w2 ⟨rfl, hb2⟩; replace hb1 := bt tok hb2; clear tok hb2)
          | (go_at_call 18; refine (run_at _ _ _ _ [] _ rfl (by decide) (.inl rfl)).mono ?_; rintro e w4 ⟨rfl, hb4⟩))
      all_goals (go_ret; exact ⟨rfl, bt hb1 hb4⟩)

/- PhaseOn: three runs from p. -/
theorem on_yes_all : ∀ p, p < 7 → runF (p : Nat) [0, 1, 4, 5] = (0, 4) ∧ runF (p : Nat) [2, 3, 4, 9] = (0, 4) ∧ runF (p : Nat) [0, 9] = (0, 2) := by decide
theorem on_no_all : ∀ p : Nat, p = 7 ∨ p = 8 → runF (p : Int) [0, 1, 4, 5] = ((p : Int), 0) ∧ runF (p : Int) [2, 3, 4, 9] = ((p : Int), 0) ∧ runF (p : Int) [0, 9] = ((p : Int), 0) := by
  rintro p (rfl | rfl) <;> decide
theorem run_out (p : Int) (h : p ≤ -1 ∨ 9 ≤ p) (l : List Int) : runF p l = (p, 0) := by
  have hs : ∀ v, stepF (p, 0) v = (p, 0) := fun v => by
    have hx := next_false p v (next_no p v (by omega))
    simp [stepF, hx]
  unfold runF
  induction l with
  | nil => rfl
  | cons v l ih => rw [List.foldl_cons, hs]; exact ih
theorem on_no (p : Int) (h : ¬ (0 ≤ p ∧ p ≤ 6)) : runF p [0, 1, 4, 5] = (p, 0) ∧ runF p [2, 3, 4, 9] = (p, 0) ∧ runF p [0, 9] = (p, 0) := by
  by_cases h7 : p = 7 ∨ p = 8
  · rcases h7 with rfl | rfl
    · exact on_no_all 7 (.inl rfl)
    · exact on_no_all 8 (.inr rfl)
  · exact ⟨run_out p (by omega) _, run_out p (by omega) _, run_out p (by omega) _⟩
theorem on_yes (p : Int) (h : 0 ≤ p ∧ p ≤ 6) : runF p [0, 1, 4, 5] = (0, 4) ∧ runF p [2, 3, 4, 9] = (0, 4) ∧ runF p [0, 9] = (0, 2) := by
  obtain ⟨a, rfl⟩ := Int.eq_ofNat_of_zero_le h.1
  exact on_yes_all a (by omega)
theorem at_new (w : World) (q : IntKind) (l : List Int) (T : TypeId) : IntsAt q (w.alloc (.cells (l.map (Value.int q)).toArray T)) (some ⟨w.heap.size, 0, none⟩) l :=
  .inr ⟨_, 0, rfl, by simp, fun i hi => by
    rw [Nat.zero_add, World.cell?_alloc_new]
    have hi' : i < l.length := by simpa using hi
    simp [List.getD, hi']⟩

set_option maxHeartbeats 1000000 in
theorem on14_walk (p : Int) (w : World) :
    Calls Try.prog 8 #[.int .i64 p] w fun e w' => e = .returned (.bool true) ∧ Below w.heap.size w w' := by
  by_cases hin : 0 ≤ p ∧ p ≤ 6
  · obtain ⟨r1, r2, r3⟩ := on_yes p hin
    go_enter Try.func8, Try.ntmps8
    go_wp2_with fail
    refine (shown14_any _).mono ?_; rintro e w1 ⟨rfl, hb1⟩
    go_wp2_with fail
    refine (run_at _ _ _ _ [0, 1, 4, 5] _ rfl (by decide) (at_new _ _ _ _)).mono ?_; rintro e w2 ⟨rfl, hb2⟩
    go_wp2_with fail
    refine (run_at _ _ _ _ [2, 3, 4, 9] _ rfl (by decide) (at_new _ _ _ _)).mono ?_; rintro e w3 ⟨rfl, hb3⟩
    go_wp2_with fail
    refine (run_at _ _ _ _ [0, 9] _ rfl (by decide) (at_new _ _ _ _)).mono ?_; rintro e w4 ⟨rfl, hb4⟩
    go_wp2_with fail
    go_ret
    exact ⟨rfl, bt (bt (bt (bt (bt (bt hb1 (ba _ _)) hb2) (ba _ _)) hb3) (ba _ _)) hb4⟩
  · obtain ⟨r1, r2, r3⟩ := on_no p hin
    have hi : p ≤ -1 ∨ 7 ≤ p := by omega
    clear hin
    rcases hi with hi | hi
    all_goals
      try (have hd : decide (p ≤ 6) = false := by simp; omega)
      go_enter Try.func8, Try.ntmps8
      go_wp2_with fail
      refine (shown14_any _).mono ?_; rintro e w1 ⟨rfl, hb1⟩
      go_wp2_with fail
      refine (run_at _ _ _ _ [0, 1, 4, 5] _ rfl (by decide) (at_new _ _ _ _)).mono ?_; rintro e w2 ⟨rfl, hb2⟩
      go_wp2_with fail
      refine (run_at _ _ _ _ [2, 3, 4, 9] _ rfl (by decide) (at_new _ _ _ _)).mono ?_; rintro e w3 ⟨rfl, hb3⟩
      go_wp2_with fail
      refine (run_at _ _ _ _ [0, 9] _ rfl (by decide) (at_new _ _ _ _)).mono ?_; rintro e w4 ⟨rfl, hb4⟩
      go_wp2_with fail
      go_ret
      exact ⟨rfl, bt (bt (bt (bt (bt (bt hb1 (ba _ _)) hb2) (ba _ _)) hb3) (ba _ _)) hb4⟩
end Go.Proofs.Ytekidelgopciaaa
