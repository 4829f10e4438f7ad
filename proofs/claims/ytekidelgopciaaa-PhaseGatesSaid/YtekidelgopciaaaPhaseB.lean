/- Walks of Gate, Linked and Name, of the program and of the document. -/
import Derived.Test.YtekidelgopciaaaRefNext
set_option linter.unusedSimpArgs false
set_option linter.unusedVariables false
namespace Go.Proofs.Ytekidelgopciaaa
open Go.RowKit

def gateF (p : Int) : Bool := decide (3 ≤ p ∧ p ≤ 5)
def linkedF (p : Int) : Bool := decide (2 ≤ p ∧ p ≤ 6)
def nameT : List ByteArray := [⟨#[111, 102, 102]⟩, ⟨#[97, 115, 107, 101, 100]⟩, ⟨#[116, 111, 108, 100]⟩, ⟨#[111, 112, 101, 110]⟩, ⟨#[114, 101, 107, 101, 121]⟩, ⟨#[99, 117, 116, 116, 105, 110, 103]⟩, ⟨#[99, 108, 111, 115, 105, 110, 103]⟩, ⟨#[102, 97, 105, 108, 101, 100]⟩, ⟨#[100, 97, 114, 107]⟩]
def nameF (p : Int) : ByteArray := if 0 ≤ p then nameT.getD p.toNat ⟨#[]⟩ else ⟨#[]⟩
theorem kind_open (p : Int) : (kindF p == 3) = decide (p = 3) := by
  rw [Bool.eq_iff_iff, beq_iff_eq, decide_eq_true_iff]; unfold kindF; repeat' (first | omega | split)
theorem kind_off (p : Int) : (kindF p == 4) = decide (p = 4 ∨ p = 5) := by
  rw [Bool.eq_iff_iff, beq_iff_eq, decide_eq_true_iff]; unfold kindF; repeat' (first | omega | split)
theorem kind_linked (p : Int) : decide (2 ≤ kindF p) = linkedF p := by
  rw [Bool.eq_iff_iff, decide_eq_true_iff]; unfold linkedF kindF; rw [decide_eq_true_iff]; repeat' (first | omega | split)

set_option maxHeartbeats 400000 in
theorem gate_any (p : Int) (w : World) :
    Calls Try.prog 12 #[.int .i64 p] w fun e w' => e = .returned (.bool (gateF p)) ∧ w = w' := by
  by_cases h3 : p = 3
  · subst h3
    go_enter Try.func12, Try.ntmps12
    go_wp2_with fail
    refine (kind_any _ _).mono ?_; rintro e w' ⟨rfl, rfl⟩
    rw [show kindF 3 = 3 from rfl]
    go_wp2_with fail
    go_ret; exact ⟨rfl, rfl⟩
  · have e1 : (kindF p == 3) = false := by rw [kind_open]; simpa using h3
    by_cases h4 : p = 4 ∨ p = 5
    · have e2 : (kindF p == 4) = true := by rw [kind_off]; simpa using h4
      have hg : gateF p = true := by simp [gateF]; omega
      have Hg := Lib.hid hg
      clear hg h4 h3
      go_enter Try.func12, Try.ntmps12
      go_wp2_with (refine (kind_any _ _).mono ?_; rintro e w' ⟨rfl, rfl⟩)
      go_ret; exact ⟨by rw [Hg.out]; rfl, rfl⟩
    · have e2 : (kindF p == 4) = false := by rw [kind_off]; simpa using h4
      have hg : gateF p = false := by simp [gateF]; omega
      have Hg := Lib.hid hg
      clear hg h4 h3
      go_enter Try.func12, Try.ntmps12
      go_wp2_with (refine (kind_any _ _).mono ?_; rintro e w' ⟨rfl, rfl⟩)
      go_ret; exact ⟨by rw [Hg.out]; rfl, rfl⟩

set_option maxHeartbeats 400000 in
theorem linked_any (p : Int) (w : World) :
    Calls Try.prog 14 #[.int .i64 p] w fun e w' => e = .returned (.bool (linkedF p)) ∧ w = w' := by
  have H := Lib.hid (kind_linked p)
  go_enter Try.func14, Try.ntmps14
  go_wp2_with (refine (kind_any _ _).mono ?_; rintro e w' ⟨rfl, rfl⟩)
  go_ret
  exact ⟨by rw [← H.out]; rfl, rfl⟩

set_option maxHeartbeats 400000 in
theorem refGate_any (p : Int) (w : World) :
    Calls Try.prog 13 #[.int .i64 p] w fun e w' => e = .returned (.bool (gateF p)) ∧ w = w' := by
  by_cases h3 : p = 3 ∨ p = 4 ∨ p = 5
  · rcases h3 with rfl | rfl | rfl
    all_goals
      go_enter Try.func13, Try.ntmps13
      go_wp2_with fail
      go_ret; exact ⟨rfl, rfl⟩
  · have e3 : (p == 3) = false := by simp; omega
    have e4 : (p == 4) = false := by simp; omega
    have e5 : (p == 5) = false := by simp; omega
    have hg : gateF p = false := by simp [gateF]; omega
    have Hg := Lib.hid hg
    clear hg h3
    go_enter Try.func13, Try.ntmps13
    go_wp2_with fail
    go_ret; exact ⟨by rw [Hg.out]; rfl, rfl⟩

set_option maxHeartbeats 400000 in
theorem refLinked_any (p : Int) (w : World) :
    Calls Try.prog 15 #[.int .i64 p] w fun e w' => e = .returned (.bool (linkedF p)) ∧ w = w' := by
  by_cases h2 : 2 ≤ p
  · by_cases h6 : p ≤ 6
    · have hg : linkedF p = true := by simp [linkedF]; omega
      have Hg := Lib.hid hg
      clear hg
      go_enter Try.func15, Try.ntmps15
      go_wp2_with fail
      go_ret; exact ⟨by rw [Hg.out]; rfl, rfl⟩
    · have hg : linkedF p = false := by simp [linkedF]; omega
      have Hg := Lib.hid hg
      clear hg
      go_enter Try.func15, Try.ntmps15
      go_wp2_with fail
      go_ret; exact ⟨by rw [Hg.out]; rfl, rfl⟩
  · have hg : linkedF p = false := by simp [linkedF]; omega
    have Hg := Lib.hid hg
    clear hg
    go_enter Try.func15, Try.ntmps15
    go_wp2_with fail
    go_ret; exact ⟨by rw [Hg.out]; rfl, rfl⟩

set_option maxHeartbeats 1000000 in
theorem name_any (p : Int) (w : World) :
    Calls Try.prog 16 #[.int .i64 p] w fun e w' => e = .returned (.string (nameF p)) ∧ Below w.heap.size w w' := by
  by_cases h : 0 ≤ p ∧ p ≤ 8
  · have : p = 0 ∨ p = 1 ∨ p = 2 ∨ p = 3 ∨ p = 4 ∨ p = 5 ∨ p = 6 ∨ p = 7 ∨ p = 8 := by omega
    clear h
    rcases this with rfl | rfl | rfl | rfl | rfl | rfl | rfl | rfl | rfl
    all_goals
      go_enter Try.func16, Try.ntmps16
      go_wp2_with fail
      go_ret
      exact ⟨rfl, (Below.refl _ _).alloc (Nat.le_refl _) _⟩
  · have hn : nameF p = ⟨#[]⟩ := by
      unfold nameF
      split
      · have h9 : 9 ≤ p.toNat := by omega
        simp [nameT, List.getD, List.getElem?_eq_none, h9]
      · rfl
    have Hn := Lib.hid hn
    clear hn
    by_cases h0 : p < 0
    · clear h
      go_enter Try.func16, Try.ntmps16
      go_wp2_with fail
      go_ret
      exact ⟨by rw [Hn.out]; rfl, (Below.refl _ _).alloc (Nat.le_refl _) _⟩
    · have h9 : 9 ≤ p := by omega
      clear h
      go_enter Try.func16, Try.ntmps16
      go_wp2_with fail
      go_ret
      exact ⟨by rw [Hn.out]; rfl, (Below.refl _ _).alloc (Nat.le_refl _) _⟩

set_option maxHeartbeats 1000000 in
theorem refName_any (p : Int) (w : World) :
    Calls Try.prog 17 #[.int .i64 p] w fun e w' => e = .returned (.string (nameF p)) ∧ Below w.heap.size w w' := by
  by_cases h : 0 ≤ p ∧ p ≤ 8
  · have : p = 0 ∨ p = 1 ∨ p = 2 ∨ p = 3 ∨ p = 4 ∨ p = 5 ∨ p = 6 ∨ p = 7 ∨ p = 8 := by omega
    clear h
    rcases this with rfl | rfl | rfl | rfl | rfl | rfl | rfl | rfl | rfl
    all_goals
      go_enter Try.func17, Try.ntmps17
      go_wp2_with fail
      go_ret
      exact ⟨rfl, (Below.refl _ _).alloc (Nat.le_refl _) _⟩
  · have hn : nameF p = ⟨#[]⟩ := by
      unfold nameF
      split
      · have h9 : 9 ≤ p.toNat := by omega
        simp [nameT, List.getD, List.getElem?_eq_none, h9]
      · rfl
    have Hn := Lib.hid hn
    clear hn
    by_cases h0 : p < 0
    · clear h
      go_enter Try.func17, Try.ntmps17
      go_wp2_with fail
      go_ret
      exact ⟨by rw [Hn.out]; rfl, (Below.refl _ _).alloc (Nat.le_refl _) _⟩
    · have h9 : 8 < p := by omega
      clear h
      go_enter Try.func17, Try.ntmps17
      go_wp2_with fail
      go_ret
      exact ⟨by rw [Hn.out]; rfl, (Below.refl _ _).alloc (Nat.le_refl _) _⟩

end Go.Proofs.Ytekidelgopciaaa
