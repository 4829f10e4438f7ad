/- Walks of Run, of the program and of the document. -/
import Derived.Test.YtekidelgopciaaaPhaseB
import Derived.Test.YtekidelgopciaaaMem
set_option linter.unusedSimpArgs false
set_option linter.unusedVariables false
namespace Go.Proofs.Ytekidelgopciaaa
open Go.RowKit

def stepF (s : Int × Nat) (v : Int) : Int × Nat := ((nextF s.1 v).1, s.2 + if (nextF s.1 v).2 = true then 1 else 0)
def runF (p : Int) (l : List Int) : Int × Nat := l.foldl stepF (p, 0)
theorem runF_snoc (p : Int) (l : List Int) (v : Int) : runF p (l ++ [v]) = stepF (runF p l) v := by simp [runF]
theorem foldl_step (l : List Int) : ∀ (p : Int) (n : Nat), l.foldl stepF (p, n) = ((l.foldl stepF (p, 0)).1, n + (l.foldl stepF (p, 0)).2) := by
  induction l with
  | nil => intro p n; rfl
  | cons v l ih =>
    intro p n
    have e1 : stepF (p, n) v = ((nextF p v).1, n + if (nextF p v).2 = true then 1 else 0) := rfl
    have e2 : stepF (p, 0) v = ((nextF p v).1, 0 + if (nextF p v).2 = true then 1 else 0) := rfl
    rw [List.foldl_cons, List.foldl_cons, e1, e2, ih, ih _ (0 + _)]
    simp [Nat.add_assoc]
theorem runF_cut (p : Int) (l : List Int) (k : Nat) : runF p l = ((runF (runF p (l.take k)).1 (l.drop k)).1, (runF p (l.take k)).2 + (runF (runF p (l.take k)).1 (l.drop k)).2) := by
  have h : runF p l = (l.drop k).foldl stepF (runF p (l.take k)) := by
    unfold runF; rw [← List.foldl_append, List.take_append_drop]
  rw [h]
  exact foldl_step (l.drop k) (runF p (l.take k)).1 (runF p (l.take k)).2
theorem runF_le (p : Int) (l : List Int) : (runF p l).2 ≤ l.length := by
  have h : ∀ (l : List Int) (p : Int), (l.foldl stepF (p, 0)).2 ≤ l.length := by
    intro l
    induction l with
    | nil => intro p; simp
    | cons v l ih =>
      intro p
      have e2 : stepF (p, 0) v = ((nextF p v).1, 0 + if (nextF p v).2 = true then 1 else 0) := rfl
      rw [List.foldl_cons, e2, foldl_step]
      have := ih (nextF p v).1
      simp only [List.length_cons]
      split <;> omega
  exact h l p

set_option maxHeartbeats 1000000 in
theorem run_any (p : Int) (a : Option Addr) (cap : Nat) (l : List Int) (w : World) (hm : l.length ≤ maxLen) (hl : IntsAt .i64 w a l) :
    Calls Try.prog 18 #[.int .i64 p, .slice a l.length cap] w fun e w' => e = .returned (.tuple #[.int .i64 (runF p l).1, .int .i64 (runF p l).2]) ∧ Below w.heap.size w w' := by
  unfold maxLen at hm
  have Hl := Lib.hid hl
  clear hl
  go_enter Try.func18, Try.ntmps18
  go_wp2_with fail
  go_loopw [0, 6, 13] (fun x n i wr => ∃ k : Nat, k ≤ l.length ∧ i = .int .i64 k ∧ x = .int .i64 (runF p (l.take k)).1 ∧ n = .int .i64 (runF p (l.take k)).2 ∧ Below w.heap.size w wr) (fun _ _ i _ => l.length - (intOf i).toNat)
  case atStart => exact ⟨0, Nat.zero_le _, rfl, rfl, rfl, Below.refl _ _⟩
  case round =>
    obtain ⟨k, hk, rfl, rfl, rfl, hb⟩ := hrel
    by_cases hlt : k < l.length
    · obtain ⟨b, off, rfl, hbl, hc⟩ := IntsAt.cell (At.mono Hl.out hb) (by omega)
      have hk0 := hc k hlt
      clear hc
      have hle := runF_le p (l.take k)
      have hln : (l.take k).length ≤ k := List.length_take_le _ _
      have Hs := Lib.hid (show runF p (l.take (k + 1)) = stepF (runF p (l.take k)) (l.getD k 0) by rw [take_snoc l k hlt 0, runF_snoc])
      generalize l.getD k 0 = x at hk0 Hs
      go_wp2_with (refine (next_any _ _ _).mono ?_; rintro e w' ⟨rfl, hb'⟩)
      all_goals
        go_roundw
        case rel => exact ⟨k + 1, by omega, by go_num, by rw [Hs.out]; rfl, by rw [Hs.out]; unfold stepF; first | (rw [if_pos (by assumption)]; go_num) | (rw [if_neg (by simp_all)]; rfl), hb.trans (hb'.mono hb.size)⟩
        case measure => simp [intOf]; omega
    · obtain rfl : k = l.length := by omega
      have Ht := Lib.hid (List.take_of_length_le (Nat.le_refl l.length))
      go_wp2_with fail
      go_ret2
      exact ⟨by rw [Ht.out]; rfl, hb⟩

set_option maxHeartbeats 1000000 in
theorem refRun_any (p : Int) (a : Option Addr) (cap : Nat) (l : List Int) (w : World) (hm : l.length ≤ maxLen) (hl : IntsAt .i64 w a l) :
    Calls Try.prog 19 #[.int .i64 p, .slice a l.length cap] w fun e w' => e = .returned (.tuple #[.int .i64 (runF p l).1, .int .i64 (runF p l).2]) ∧ Below w.heap.size w w' := by
  unfold maxLen at hm
  have Hl := Lib.hid hl
  clear hl
  go_enter Try.func19, Try.ntmps19
  go_wp2_with fail
  go_loopw [0, 6, 7] (fun x n i wr => ∃ k : Nat, k ≤ l.length ∧ i = .int .i64 k ∧ x = .int .i64 (runF p (l.take k)).1 ∧ n = .int .i64 (runF p (l.take k)).2 ∧ Below w.heap.size w wr) (fun _ _ i _ => l.length - (intOf i).toNat)
  case atStart => exact ⟨0, Nat.zero_le _, rfl, rfl, rfl, Below.refl _ _⟩
  case round =>
    obtain ⟨k, hk, rfl, rfl, rfl, hb⟩ := hrel
    by_cases hlt : k < l.length
    · obtain ⟨b, off, rfl, hbl, hc⟩ := IntsAt.cell (At.mono Hl.out hb) (by omega)
      have hk0 := hc k hlt
      clear hc
      have hle := runF_le p (l.take k)
      have hln : (l.take k).length ≤ k := List.length_take_le _ _
      have Hs := Lib.hid (show runF p (l.take (k + 1)) = stepF (runF p (l.take k)) (l.getD k 0) by rw [take_snoc l k hlt 0, runF_snoc])
      generalize l.getD k 0 = x at hk0 Hs
      go_wp2_with (refine (refNext_any _ _ _).mono ?_; rintro e w' ⟨rfl, hb'⟩)
      all_goals
        go_roundw
        case rel => exact ⟨k + 1, by omega, by go_num, by rw [Hs.out]; rfl, by rw [Hs.out]; unfold stepF; first | (rw [if_pos (by assumption)]; go_num) | (rw [if_neg (by simp_all)]; rfl), hb.trans (hb'.mono hb.size)⟩
        case measure => simp [intOf]; omega
    · obtain rfl : k = l.length := by omega
      have Ht := Lib.hid (List.take_of_length_le (Nat.le_refl l.length))
      go_wp2_with fail
      go_ret2
      exact ⟨by rw [Ht.out]; rfl, hb⟩
end Go.Proofs.Ytekidelgopciaaa
