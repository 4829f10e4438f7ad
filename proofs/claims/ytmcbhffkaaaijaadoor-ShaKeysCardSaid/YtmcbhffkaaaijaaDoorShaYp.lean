/- Primes and roots, in plain numbers. -/
import Derived.Test.YtmcbhffkaaaijaaDoorShaZ
import Derived.Test.YtmcbhffkaaaijaaDoorShaE
set_option linter.unusedSimpArgs false
set_option linter.unusedVariables false
namespace Go.Proofs.YtmcbhffkaaaijaaDoor
open Go.RowKit

def primesL : List Nat := [2, 3, 5, 7, 11, 13, 17, 19, 23, 29, 31, 37, 41, 43, 47, 53, 59, 61, 67, 71, 73, 79, 83, 89, 97, 101, 103, 107, 109, 113, 127, 131, 137, 139, 149, 151, 157, 163, 167, 173, 179, 181, 191, 193, 197, 199, 211, 223, 227, 229, 233, 239, 241, 251, 257, 263, 269, 271, 277, 281, 283, 293, 307, 311]
def pAt (i : Nat) : Nat := primesL.getD i 0
def c3At (i : Nat) : Nat := ([1, 1, 1, 1, 2, 2, 2, 2, 2, 3, 3, 3, 3, 3, 3, 3, 3, 3, 4, 4, 4, 4, 4, 4, 4, 4, 4, 4, 4, 4, 5, 5, 5, 5, 5, 5, 5, 5, 5, 5, 5, 5, 5, 5, 5, 5, 5, 6, 6, 6, 6, 6, 6, 6, 6, 6, 6, 6, 6, 6, 6, 6, 6, 6] : List Nat).getD i 0
def c2At (i : Nat) : Nat := ([1, 1, 2, 2, 3, 3, 4, 4] : List Nat).getD i 0
def gapB (t : Nat) : Bool := decide (pAt t < pAt (t + 1)) && (decide (pAt (t + 1) ≤ pAt t + 20) && (decide (pAt (t + 1) < 350) && (primeF (pAt (t + 1)) && (List.range 20).all fun d => !decide (pAt t + 1 + d < pAt (t + 1)) || !primeF (pAt t + 1 + d))))
theorem gaps : ((List.range 63).all gapB) = true := by decide +kernel
theorem gap_at (t : Nat) (h : t < 63) : pAt t < pAt (t + 1) ∧ pAt (t + 1) < 350 ∧ primeF (pAt (t + 1)) = true ∧ ∀ q, pAt t < q → q < pAt (t + 1) → primeF q = false := by
  have := List.all_eq_true.1 gaps t (List.mem_range.2 h)
  unfold gapB at this
  simp only [Bool.and_eq_true, decide_eq_true_eq, List.all_eq_true, List.mem_range, Bool.or_eq_true, Bool.not_eq_true', decide_eq_false_iff_not] at this
  obtain ⟨h1, h2, h3, h4, h5⟩ := this
  refine ⟨h1, h3, h4, fun q hq1 hq2 => ?_⟩
  have := h5 (q - pAt t - 1) (by omega)
  rw [show pAt t + 1 + (q - pAt t - 1) = q by omega] at this
  rcases this with h | h
  · exact absurd hq2 h
  · exact h
def rootsB (low : Int) (p c n : Nat) : Bool := (List.range c).all (fun j => rootF (low + 4294967296 * ((j : Int) + 1)) p n) && (!rootF (low + 4294967296 * ((c : Int) + 1)) p n && (rootF (low + 4294967296 * (c : Int)) p n && !rootF (low + 4294967296 * (c : Int) + 1) p n))
def key3 (i : Nat) : Int := uv (kAt i)
def key2 (i : Nat) : Int := uv (iv.l.getD i 0)
theorem roots3 : ((List.range 64).all fun i => decide (c3At i ≤ 20) && (decide (pAt i < 350) && rootsB (key3 i) (pAt i) (c3At i) 3)) = true := by decide +kernel
theorem roots2 : ((List.range 8).all fun i => decide (c2At i ≤ 20) && rootsB (key2 i) (pAt i) (c2At i) 2) = true := by decide +kernel
/-- what the checks of a root answer -/
structure RootsAt (low : Int) (p c n : Nat) : Prop where
  le : c ≤ 20
  on : ∀ j, j < c → rootF (low + 4294967296 * ((j : Int) + 1)) p n = true
  off : rootF (low + 4294967296 * ((c : Int) + 1)) p n = false
  yes : rootF (low + 4294967296 * (c : Int)) p n = true
  no : rootF (low + 4294967296 * (c : Int) + 1) p n = false
theorem rootsAt_of {low : Int} {p c n : Nat} (hc : c ≤ 20) (h : rootsB low p c n = true) : RootsAt low p c n := by
  unfold rootsB at h
  simp only [Bool.and_eq_true, List.all_eq_true, List.mem_range, Bool.not_eq_true'] at h
  exact ⟨hc, h.1, h.2.1, h.2.2.1, h.2.2.2⟩
theorem roots3_at (i : Nat) (h : i < 64) : pAt i < 350 ∧ RootsAt (key3 i) (pAt i) (c3At i) 3 := by
  have := List.all_eq_true.1 roots3 i (List.mem_range.2 h)
  simp only [Bool.and_eq_true, decide_eq_true_eq] at this
  exact ⟨this.2.1, rootsAt_of this.1 this.2.2⟩
theorem roots2_at (i : Nat) (h : i < 8) : RootsAt (key2 i) (pAt i) (c2At i) 2 := by
  have := List.all_eq_true.1 roots2 i (List.mem_range.2 h)
  simp only [Bool.and_eq_true, decide_eq_true_eq] at this
  exact rootsAt_of this.1 this.2
theorem low_w (x : UInt32) (j : Nat) (h : j ≤ 20) : wrap64 (uv x + 4294967296 * (j : Int) + 4294967296) = uv x + 4294967296 * ((j : Int) + 1) := by
  have := uv_lt x
  unfold wrap64; omega
theorem low_1 (x : UInt32) (j : Nat) (h : j ≤ 20) : wrap64 (uv x + 4294967296 * (j : Int) + 1) = uv x + 4294967296 * (j : Int) + 1 := by
  have := uv_lt x
  unfold wrap64; omega
theorem uv_w (x : UInt32) : wrap64 (uv x) = uv x := by
  have := uv_lt x
  unfold wrap64; omega
theorem tm64 (n : Nat) : ((n : Int)).tmod 64 = ((n % 64 : Nat) : Int) := by rw [Int.tmod_eq_emod_of_nonneg (by omega)]; rfl
theorem nat_w (n : Nat) (h : n < 256) : wrap64 (n : Int) = n := by unfold wrap64; omega

end Go.Proofs.YtmcbhffkaaaijaaDoor
