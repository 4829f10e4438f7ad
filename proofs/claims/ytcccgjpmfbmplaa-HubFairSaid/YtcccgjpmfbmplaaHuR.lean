/- Hubs: in turn, in plain Lean: of the connections that are up each one is picked once, ahead of any being picked again. -/
import Derived.Test.YtcccgjpmfbmplaaHuI
set_option linter.unusedSimpArgs false
set_option linter.unusedVariables false
namespace Go.Proofs.Ytcccgjpmfbmplaa
open Go.RowKit

def upB (b0 b1 b2 b3 : Bool) (c : Nat) : Bool := match c with | 0 => b0 | 1 => b1 | 2 => b2 | _ => b3
def pkB (b0 b1 b2 b3 : Bool) : Nat → Nat → Option Nat
  | 0, _ => none
  | f + 1, c => bif upB b0 b1 b2 b3 c then some c else pkB b0 b1 b2 b3 f ((c + 1) % 4)
def cntB (b0 b1 b2 b3 : Bool) : Nat := b0.toNat + b1.toNat + b2.toNat + b3.toNat
/-- where the next one is looked for, behind i picks -/
def stB (b0 b1 b2 b3 : Bool) (N : Nat) : Nat → Nat
  | 0 => N
  | i + 1 => (((pkB b0 b1 b2 b3 4 (stB b0 b1 b2 b3 N i)).getD 0) + 1) % 4
def ckB (b0 b1 b2 b3 : Bool) (N i : Nat) : Nat := (pkB b0 b1 b2 b3 4 (stB b0 b1 b2 b3 N i)).getD 0
theorem fair_pick : ∀ b0 b1 b2 b3 : Bool, ∀ N, N < 4 → ∀ i, i < 8 → i < 2 * cntB b0 b1 b2 b3 → pkB b0 b1 b2 b3 4 (stB b0 b1 b2 b3 N i) = some (ckB b0 b1 b2 b3 N i) ∧ ckB b0 b1 b2 b3 N i < 4 ∧ upB b0 b1 b2 b3 (ckB b0 b1 b2 b3 N i) = true ∧ stB b0 b1 b2 b3 N i < 4 := by decide +kernel
theorem fair_once : ∀ b0 b1 b2 b3 : Bool, ∀ N, N < 4 → ∀ i, i < 4 → i < cntB b0 b1 b2 b3 → ∀ j, j < i → ckB b0 b1 b2 b3 N j ≠ ckB b0 b1 b2 b3 N i := by decide +kernel
theorem fair_again : ∀ b0 b1 b2 b3 : Bool, ∀ N, N < 4 → ∀ i, i < 4 → i < cntB b0 b1 b2 b3 → ckB b0 b1 b2 b3 N (cntB b0 b1 b2 b3 + i) = ckB b0 b1 b2 b3 N i := by decide +kernel
theorem fair_none : ∀ b0 b1 b2 b3 : Bool, ∀ N, N < 4 → cntB b0 b1 b2 b3 = 0 → pkB b0 b1 b2 b3 4 N = none := by decide +kernel
theorem cnt_le : ∀ b0 b1 b2 b3 : Bool, cntB b0 b1 b2 b3 ≤ 4 := by decide
theorem up_eq (h : Hv) (c : Nat) (hc : c < 4) : h.u c = upB (h.u 0) (h.u 1) (h.u 2) (h.u 3) c := by
  rcases (show c = 0 ∨ c = 1 ∨ c = 2 ∨ c = 3 by omega) with rfl | rfl | rfl | rfl <;> rfl
theorem pick_eq (h : Hv) : ∀ f c, c < 4 → pickGo h f c = pkB (h.u 0) (h.u 1) (h.u 2) (h.u 3) f c
  | 0, _, _ => rfl
  | f + 1, c, hc => by
    unfold pickGo pkB
    rw [up_eq h c hc, pick_eq h f _ (Nat.mod_lt _ (by decide))]
end Go.Proofs.Ytcccgjpmfbmplaa
