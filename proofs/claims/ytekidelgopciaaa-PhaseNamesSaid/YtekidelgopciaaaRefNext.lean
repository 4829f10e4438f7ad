/- Walk of yettref14.Next: the same as phase.Next. -/
import Derived.Test.YtekidelgopciaaaKind
import Derived.Lib.Hide
set_option linter.unusedSimpArgs false
set_option linter.unusedVariables false
namespace Go.Proofs.Ytekidelgopciaaa
open Go.RowKit

def refTab : List Int := [0, 0, 1, 0, 2, 2, 0, 10, 8, 1, 0, 1, 1, 1, 3, 1, 2, 2, 1, 4, 0, 1, 9, 0, 1, 10, 8,
  2, 0, 1, 2, 2, 2, 2, 3, 3, 2, 4, 0, 2, 10, 8,
  3, 0, 1, 3, 2, 2, 3, 4, 6, 3, 5, 0, 3, 6, 4, 3, 7, 5, 3, 9, 0, 3, 10, 8,
  4, 0, 1, 4, 2, 2, 4, 4, 6, 4, 5, 0, 4, 8, 3, 4, 9, 3, 4, 10, 8,
  5, 0, 1, 5, 2, 2, 5, 4, 6, 5, 5, 0, 5, 8, 3, 5, 9, 3, 5, 10, 8,
  6, 0, 1, 6, 2, 2, 6, 5, 0, 6, 9, 0, 6, 10, 8, 7, 10, 8, 8, 11, 0, 8, 12, 7]
def rt (i : Nat) : Int := refTab.getD i 0

theorem rt_hit : ∀ k, k < 44 → nextF (rt (k * 3)) (rt (k * 3 + 1)) = (rt (k * 3 + 2), true) := by decide
theorem rt_all : ∀ p, p < 9 → ∀ v, v < 13 → (nextF (p : Nat) (v : Nat)).2 = false ∨ ∃ k, k < 44 ∧ rt (k * 3) = (p : Nat) ∧ rt (k * 3 + 1) = (v : Nat) := by decide
theorem next_no (p v : Int) (h : ¬ (0 ≤ p ∧ p ≤ 8 ∧ 0 ≤ v ∧ v ≤ 12)) : (nextF p v).2 = false := by
  have hk : kindF p = -1 ∨ (0 ≤ p ∧ p ≤ 6) := by unfold kindF; repeat' (first | omega | split)
  have hh : hit (kindF p) v = false := by
    rcases hk with hk | hk
    · rw [hk]; exact hit_none _ _ (by omega)
    · have hv : v < 0 ∨ 12 < v := by omega
      unfold hit rowsL
      have e : ∀ a : Int, 0 ≤ a → a ≤ 12 → ¬ v = a := fun a h1 h2 h3 => by omega
      split
      · simp [lookL, e]
      · split
        · simp [lookL, e]
        · split
          · simp [lookL, e]
          · split
            · simp [lookL, e]
            · split <;> simp [lookL, e]
  unfold nextF nextG
  rw [if_neg (by omega), if_neg (by omega), if_neg (by omega), if_neg (by omega), if_neg (by omega), hh]; rfl
theorem next_false (p v : Int) (h : (nextF p v).2 = false) : nextF p v = (p, false) := by
  unfold nextF nextG at *
  repeat' (split at h)
  all_goals first | (cases h; done) | skip
  rw [if_neg (by assumption), if_neg (by assumption), if_neg (by assumption), if_neg (by assumption), if_neg (by assumption), if_neg (by assumption)]
theorem cells_ints (q : IntKind) (l : List Int) (i : Nat) (h : i < l.length) : ((l.map (Value.int q)).toArray)[i]? = some (.int q (l.getD i 0)) := by
  simp [List.getD, h]
theorem rt_miss (p v : Int) (h : ∀ k, k < 44 → ¬ (rt (k * 3) = p ∧ rt (k * 3 + 1) = v)) : nextF p v = (p, false) := by
  apply next_false
  by_cases hr : 0 ≤ p ∧ p ≤ 8 ∧ 0 ≤ v ∧ v ≤ 12
  · obtain ⟨a, rfl⟩ := Int.eq_ofNat_of_zero_le hr.1
    obtain ⟨b, rfl⟩ := Int.eq_ofNat_of_zero_le hr.2.2.1
    rcases rt_all a (by omega) b (by omega) with h1 | ⟨k, hk, h1, h2⟩
    · exact h1
    · exact (h k hk ⟨h1, h2⟩).elim
  · exact next_no p v hr

set_option maxRecDepth 100000 in
set_option maxHeartbeats 1000000 in
theorem refNext_any (p v : Int) (w : World) :
    Calls Try.prog 11 #[.int .i64 p, .int .i64 v] w fun e w' => e = .returned (.tuple #[.int .i64 (nextF p v).1, .bool (nextF p v).2]) ∧ Below w.heap.size w w' := by
  go_enter Try.func11, Try.ntmps11
  go_wp2_with fail
  generalize hW : World.alloc w _ = W
  have hcell : ∀ i, i < 132 → W.cell? ⟨w.heap.size, i, none⟩ = some (.int .i64 (rt i)) := by
    intro i hi
    rw [← hW, World.cell?_alloc_new]
    exact cells_ints .i64 refTab i hi
  have hb : Below w.heap.size w W := by rw [← hW]; exact (Below.refl _ _).alloc (Nat.le_refl _) _
  clear hW
  go_loop [7] (fun i => ∃ k : Nat, k ≤ 44 ∧ i = .int .i64 k ∧ ∀ j, j < k → ¬ (rt (j * 3) = p ∧ rt (j * 3 + 1) = v)) (fun i => 44 - (intOf i).toNat)
  case atStart => exact ⟨0, by omega, rfl, fun j hj => absurd hj (by omega)⟩
  case round =>
    obtain ⟨k, hk, rfl, hno⟩ := hrel
    have Hno := Lib.hid hno
    clear hno
    by_cases hlt : k < 44
    · have h0 := hcell (k * 3) (by omega)
      have h1 := hcell (k * 3 + 1) (by omega)
      have h2 := hcell (k * 3 + 2) (by omega)
      clear hcell
      have Hh := Lib.hid (rt_hit k hlt)
      by_cases he1 : rt (k * 3) = p
      · by_cases he2 : rt (k * 3 + 1) = v
        · have e1 : (rt (k * 3) == p) = true := by simpa using he1
          have e2 : (rt (k * 3 + 1) == v) = true := by simpa using he2
          have He1 := Lib.hid he1
          have He2 := Lib.hid he2
          clear he1 he2
          go_wp2_with fail
          go_ret2
          exact ⟨by rw [← He1.out, ← He2.out, Hh.out]; rfl, hb⟩
        · have e1 : (rt (k * 3) == p) = true := by simpa using he1
          have e2 : (rt (k * 3 + 1) == v) = false := by simpa using he2
          have He1 := Lib.hid he1
          have He2 := Lib.hid he2
          clear he1 he2
          go_wp2_with fail
          go_round
          case rel => exact ⟨k + 1, by omega, by go_num, fun j hj => by
            by_cases h : j = k
            · subst h; exact fun h => He2.out h.2
            · exact Hno.out j (by omega)⟩
          case measure => simp [intOf]; omega
      · have e1 : (rt (k * 3) == p) = false := by simpa using he1
        have He1 := Lib.hid he1
        clear he1
        go_wp2_with fail
        go_round
        case rel => exact ⟨k + 1, by omega, by go_num, fun j hj => by
            by_cases h : j = k
            · subst h; exact fun h => He1.out h.1
            · exact Hno.out j (by omega)⟩
        case measure => simp [intOf]; omega
    · obtain rfl : k = 44 := by omega
      have Hm := Lib.hid (rt_miss p v (fun j hj => Hno.out j hj))
      clear hcell
      go_wp2_with fail
      go_ret2
      exact ⟨by rw [Hm.out]; rfl, hb⟩
end Go.Proofs.Ytekidelgopciaaa
