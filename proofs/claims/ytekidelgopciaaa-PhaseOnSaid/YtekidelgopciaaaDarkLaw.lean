/- The walks of PhaseDark, PhaseNames, PhaseOn. -/
import Derived.Test.YtekidelgopciaaaRunsLaw
set_option linter.unusedSimpArgs false
set_option linter.unusedVariables false
namespace Go.Proofs.Ytekidelgopciaaa
open Go.RowKit

def nfB (p v : Int) : Bool :=
  let q := (nextF p v).1
  let is := (nextF p v).2
  if is then decide (0 ≤ q) && decide (q ≤ 8) && (!(p == 8) || (v == 11) || (v == 12)) && (!(p == 7) || (v == 10)) && ((q == 8) == (v == 10)) && ((q == 7) == (v == 12)) && !(p == 8 && v == 10)
    && (!(gateF q) || (linkedF q && (v == 1 || v == 3 || (gateF p && !(v == 0) && !(v == 2) && !(v == 10) && !(v == 5) && !(v == 4)))))
  else (!(p == 8) || (!(v == 11) && !(v == 12))) && ((p == 8) || !(v == 10))
theorem nf_all : ∀ p, p < 9 → ∀ v, v < 13 → nfB (p : Nat) (v : Nat) = true := by decide
theorem nf_in (p v : Int) (h : 0 ≤ p ∧ p ≤ 8 ∧ 0 ≤ v ∧ v ≤ 12) : nfB p v = true := by
  obtain ⟨a, rfl⟩ := Int.eq_ofNat_of_zero_le h.1
  obtain ⟨b, rfl⟩ := Int.eq_ofNat_of_zero_le h.2.2.1
  exact nf_all a (by omega) b (by omega)
theorem next_yes {p v q : Int} (h : nextF p v = (q, true)) : 0 ≤ p ∧ p ≤ 8 ∧ 0 ≤ v ∧ v ≤ 12 := by
  by_cases hr : 0 ≤ p ∧ p ≤ 8 ∧ 0 ≤ v ∧ v ≤ 12
  · exact hr
  · have := next_no p v hr; rw [h] at this; cases this
theorem yes_facts {p v q : Int} (h : nextF p v = (q, true)) : 0 ≤ q ∧ q ≤ 8 ∧ (p = 8 → v = 11 ∨ v = 12) ∧ (p = 7 → v = 10) ∧ (q = 8 ↔ v = 10) ∧ (q = 7 ↔ v = 12) ∧ ¬ (p = 8 ∧ v = 10) := by
  have h1 := nf_in p v (next_yes h)
  unfold nfB at h1
  rw [h] at h1
  simp at h1
  obtain ⟨⟨⟨⟨⟨⟨⟨a1, a2⟩, a3⟩, a4⟩, a5⟩, a6⟩, a7⟩, a8⟩ := h1
  refine ⟨a1, a2, fun e => ?_, fun e => ?_, by rw [← beq_iff_eq, a5, beq_iff_eq], by rw [← beq_iff_eq, a6, beq_iff_eq], by omega⟩
  · rcases a3 with (a3 | a3) | a3
    · exact (a3 e).elim
    · exact .inl a3
    · exact .inr a3
  · rcases a4 with a4 | a4
    · exact (a4 e).elim
    · exact a4
theorem yes_gate {p v q : Int} (h : nextF p v = (q, true)) (hg : gateF q = true) : linkedF q = true ∧ (v = 1 ∨ v = 3 ∨ (gateF p = true ∧ v ≠ 0 ∧ v ≠ 2 ∧ v ≠ 10 ∧ v ≠ 5 ∧ v ≠ 4)) := by
  have h1 := nf_in p v (next_yes h)
  unfold nfB at h1
  rw [h] at h1
  simp at h1
  obtain ⟨⟨⟨⟨⟨⟨⟨a1, a2⟩, a3⟩, a4⟩, a5⟩, a6⟩, a7⟩, a8⟩ := h1
  rcases a8 with a8 | ⟨b1, b2⟩
  · rw [hg] at a8; cases a8
  · refine ⟨b1, ?_⟩
    rcases b2 with (b2 | b2) | b2
    · exact .inl b2
    · exact .inr (.inl b2)
    · obtain ⟨⟨⟨⟨⟨c1, c2⟩, c3⟩, c4⟩, c5⟩, c6⟩ := b2
      exact .inr (.inr ⟨c1, c2, c3, c4, c5, c6⟩)
theorem no_facts {p v : Int} (h : (nextF p v).2 = false) : (p = 8 → v ≠ 11 ∧ v ≠ 12) ∧ (0 ≤ p → p ≤ 7 → v ≠ 10) := by
  by_cases hr : 0 ≤ p ∧ p ≤ 8 ∧ 0 ≤ v ∧ v ≤ 12
  · have h1 := nf_in p v hr
    unfold nfB at h1
    rw [h] at h1
    simp at h1
    omega
  · omega
theorem gate_linked (p : Int) (h : gateF p = true) : linkedF p = true := by
  simp [gateF, linkedF] at *; omega

set_option maxRecDepth 100000 in
set_option maxHeartbeats 4000000 in
theorem dark_no (p v : Int) (hp : p ≤ -1 ∨ (0 ≤ p ∧ p ≤ 6) ∨ p = 7 ∨ p = 8 ∨ 9 ≤ p) (hv : v ≤ 9 ∨ v = 10 ∨ v = 11 ∨ v = 12 ∨ 13 ≤ v) (hX : nextF p v = (p, false)) (w : World) :
    Calls Try.prog 6 #[.int .i64 p, .int .i64 v] w fun e w' => e = .returned (.bool true) ∧ Below w.heap.size w w' := by
  have hf := no_facts (p := p) (v := v) (by rw [hX])
  have l0 : linkedF 0 = false := by decide
  have l7 : linkedF 7 = false := by decide
  have l8 : linkedF 8 = false := by decide
  have l1 : linkedF 1 = false := by decide
  have hgl := gate_linked p
  rcases hg : gateF p with _ | _
  case' true => have hl := hgl hg
  all_goals
    clear hgl
    rcases hp with hp | hp | rfl | rfl | hp <;> rcases hv with hv | rfl | rfl | rfl | hv
    all_goals first
      | (exfalso; omega)
      | (exact absurd hg (by decide))
      | (exact absurd hg (by simp [gateF]; omega))
      | (try (have b10 : (v == 10) = false := by simp; omega)
         try (have b11 : (v == 11) = false := by simp; omega)
         try (have b12 : (v == 12) = false := by simp; omega)
         try (have p7 : (p == 7) = false := by simp; omega)
         try (have p8 : (p == 8) = false := by simp; omega)
         try (have p8n : (p != 8) = true := by simp; omega)
         clear hf
         go_enter Try.func6, Try.ntmps6
         go_wp2_with (first
          | (go_at_call 9; refine (shown14_any _).mono ?_; rintro e w1 ⟨rfl, hb1⟩)
          | (go_at_call 10; refine (next_any _ _ _).mono ?_; rintro e w2 ⟨rfl, hb2⟩)
          | (go_at_call 12; refine (gate_any _ _).mono ?_; rintro e w' ⟨rfl, rfl⟩)
          | (go_at_call 14; refine (linked_any _ _).mono ?_; rintro e w' ⟨rfl, rfl⟩))
         all_goals (go_ret; exact ⟨rfl, bt hb1 hb2⟩))
set_option maxRecDepth 100000 in
set_option maxHeartbeats 4000000 in
theorem dark_yes (p v q : Int) (hp : (0 ≤ p ∧ p ≤ 6) ∨ p = 7 ∨ p = 8) (hv : (v ≤ 9 ∧ q ≤ 6) ∨ (v = 10 ∧ q = 8) ∨ (v = 11 ∧ q ≤ 6) ∨ (v = 12 ∧ q = 7)) (hX : nextF p v = (q, true)) (w : World) :
    Calls Try.prog 6 #[.int .i64 p, .int .i64 v] w fun e w' => e = .returned (.bool true) ∧ Below w.heap.size w w' := by
  obtain ⟨hq0, hq8, f1, f2, -, -, f5⟩ := yes_facts hX
  have l0 : linkedF 0 = false := by decide
  have l7 : linkedF 7 = false := by decide
  have l8 : linkedF 8 = false := by decide
  have l1 : linkedF 1 = false := by decide
  have hgl := gate_linked p
  rcases hg : gateF p with _ | _
  case' true => have hl := hgl hg
  all_goals
    clear hgl
    rcases hp with hp | rfl | rfl <;> rcases hv with hv | ⟨rfl, rfl⟩ | ⟨rfl, hv⟩ | ⟨rfl, rfl⟩
    all_goals first
      | (exfalso; omega)
      | (exact absurd hg (by decide))
      | (exact absurd hg (by simp [gateF]; omega))
      | (try (have b10 : (v == 10) = false := by simp; omega)
         try (have b11 : (v == 11) = false := by simp; omega)
         try (have b12 : (v == 12) = false := by simp; omega)
         try (have p7 : (p == 7) = false := by simp; omega)
         try (have p8 : (p == 8) = false := by simp; omega)
         try (have p8n : (p != 8) = true := by simp; omega)
         try (have q7 : (q == 7) = false := by simp; omega)
         try (have q8 : (q == 8) = false := by simp; omega)
         clear f1 f2 f5
         go_enter Try.func6, Try.ntmps6
         go_wp2_with (first
          | (go_at_call 9; refine (shown14_any _).mono ?_; rintro e w1 ⟨rfl, hb1⟩)
          | (go_at_call 10; refine (next_any _ _ _).mono ?_; rintro e w2 ⟨rfl, hb2⟩)
          | (go_at_call 12; refine (gate_any _ _).mono ?_; rintro e w' ⟨rfl, rfl⟩)
          | (go_at_call 14; refine (linked_any _ _).mono ?_; rintro e w' ⟨rfl, rfl⟩))
         all_goals (go_ret; exact ⟨rfl, bt hb1 hb2⟩))

theorem dark14_walk (p v : Int) (w : World) :
    Calls Try.prog 6 #[.int .i64 p, .int .i64 v] w fun e w' => e = .returned (.bool true) ∧ Below w.heap.size w w' := by
  rcases hX : nextF p v with ⟨q, is⟩
  cases is with
  | true =>
    have hy := next_yes hX
    have hf := yes_facts hX
    exact dark_yes p v q (by omega) (by omega) hX w
  | false =>
    have := next_false p v (by rw [hX])
    exact dark_no p v (by omega) (by omega) this w
end Go.Proofs.Ytekidelgopciaaa
