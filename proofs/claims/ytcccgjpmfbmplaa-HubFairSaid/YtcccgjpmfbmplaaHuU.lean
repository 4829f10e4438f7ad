/- Hubs: in turn: what the walk of HubFair asks of the picks. -/
import Derived.Test.YtcccgjpmfbmplaaHuS
set_option linter.unusedSimpArgs false
set_option linter.unusedVariables false
namespace Go.Proofs.Ytcccgjpmfbmplaa
open Go.RowKit

theorem isC_nat (k : Nat) (hk : k < 4) : isC (k : Int) = true := by
  rcases (show k = 0 ∨ k = 1 ∨ k = 2 ∨ k = 3 by omega) with rfl | rfl | rfl | rfl <;> rfl
theorem fair_facts (h : Hv) (hx : isC h.nx = true) (n : Nat) (hn : n = cntB (h.u 0) (h.u 1) (h.u 2) (h.u 3)) :
    ∃ (C : Nat → Nat) (kH : Nat → Hv), kH 0 = h ∧ (∀ i, (kH i).u = h.u ∧ (kH i).f = h.f ∧ (kH i).l = h.l) ∧
      (∀ i, i < 2 * n → pickF (kH i) = (kH (i + 1), (C i : Int), 0) ∧ isC (kH i).nx = true ∧ C i < 4 ∧ h.u (C i) = true ∧ isC (kH (i + 1)).nx = true) ∧
      (∀ i, i < n → ∀ j, j < i → C j ≠ C i) ∧ (∀ i, i < n → C (n + i) = C i) ∧ (n = 0 → pickF h = (h, 0, 11)) := by
  have h4 := cnt_le (h.u 0) (h.u 1) (h.u 2) (h.u 3)
  rw [← hn] at h4
  obtain ⟨N, hN, hN4⟩ : ∃ N : Nat, h.nx = (N : Int) ∧ N < 4 := by
    have := isC_four hx
    exact ⟨h.nx.toNat, by omega, by omega⟩
  refine ⟨ckB (h.u 0) (h.u 1) (h.u 2) (h.u 3) N, fun i => ⟨h.u, h.f, h.l, ((stB (h.u 0) (h.u 1) (h.u 2) (h.u 3) N i : Nat) : Int)⟩, ?_, fun i => ⟨rfl, rfl, rfl⟩, ?_, ?_, ?_, ?_⟩
  · show (⟨h.u, h.f, h.l, ((N : Nat) : Int)⟩ : Hv) = h
    rw [← hN]
  · intro i hi
    obtain ⟨p1, p2, p3, p4⟩ := fair_pick (h.u 0) (h.u 1) (h.u 2) (h.u 3) N hN4 i (by omega) (by rw [← hn]; exact hi)
    refine ⟨?_, isC_nat _ p4, p2, by rw [up_eq h _ p2]; exact p3, ?_⟩
    · unfold pickF pickC
      rw [pick_eq _ 4 _ (by simpa using p4)]
      simp only [Int.toNat_natCast]
      rw [p1]
      rfl
    · exact isC_nat _ (Nat.mod_lt _ (by decide))
  · intro i hi j hj
    exact fair_once _ _ _ _ N hN4 i (by omega) (by rw [← hn]; exact hi) j hj
  · intro i hi
    have := fair_again (h.u 0) (h.u 1) (h.u 2) (h.u 3) N hN4 i (by omega) (by rw [← hn]; exact hi)
    rw [← hn] at this
    exact this
  · intro h0
    unfold pickF pickC
    rw [hN, Int.toNat_natCast, pick_eq h 4 N hN4, fair_none _ _ _ _ N hN4 (by rw [← hn]; exact h0)]
end Go.Proofs.Ytcccgjpmfbmplaa
