/- Envelopes: which are right, of the document; Right of both. -/
import Derived.Test.YtkjckokejbnapaaEnvE
set_option linter.unusedSimpArgs false
set_option linter.unusedVariables false
namespace Go.Proofs.Ytkjckokejbnapaa
open Go.RowKit

theorem wB_1 (d : Int) : wB d 1 = (decide (0 ≤ d) && decide (d ≤ 1)) := rfl
theorem wB_g (g : Int) : wB g 2147483647 = (decide (0 ≤ g) && decide (g ≤ 2147483647)) := rfl
theorem lenB_int (n : Nat) : lenB n = (decide ((1 : Int) ≤ (n : Int)) && decide ((n : Int) ≤ 900)) := by
  unfold lenB
  rw [show decide (1 ≤ n) = decide ((1 : Int) ≤ (n : Int)) from decide_eq_decide.2 (by omega), show decide (n ≤ 900) = decide ((n : Int) ≤ 900) from decide_eq_decide.2 (by omega)]
set_option maxRecDepth 100000 in
set_option maxHeartbeats 1000000 in
theorem refParts_any (k d e0 e1 g s : Int) (ba_ ta : Option Addr) (n bc m tc : Nat) (hn : n ≤ maxLen) (w : World) :
    Calls Try.prog 27 #[envV k d e0 e1 g s (.slice ba_ n bc) (.slice ta m tc)] w fun e w' => e = .returned (.bool (partsB k d e0 e1 g s n)) ∧ Below w.heap.size w w' := by
  unfold maxLen at hn
  obtain ⟨V, hV⟩ : ∃ V, V = partsB k d e0 e1 g s n := ⟨_, rfl⟩
  rw [← hV]
  have HV := Lib.hid hV
  clear hV
  go_enter Try.func27, Try.ntmps27
  go_wp2_with (first | (go_at_call 36; go_must ((refine (number_any _ _).mono ?_); rintro e w2 ⟨rfl, rfl⟩)))
  all_goals
    go_ret
    exact ⟨by rw [HV.out]; first | (simp [partsB, kindB, lenB_int, *]; done) | (simp [partsB, kindB, lenB_int, wB_1, wB_g, *]; done) | (simp [partsB, kindB, lenB_int, wB_1, wB_g, *] <;> omega), ba _ _⟩

abbrev envL (k d e0 e1 g s : Int) (vb vt : Value) : List Value := [.int .i64 k, .int .i64 d, .int .i64 e0, .int .i64 e1, .int .i64 g, .int .i64 s, vb, vt]
theorem env_cells {w : World} {b : Nat} {k d e0 e1 g s : Int} {vb vt : Value} (h : Blk w b (envL k d e0 e1 g s vb vt)) :
    w.cell? ⟨b, 0, none⟩ = some (.int .i64 k) ∧ w.cell? ⟨b, 1, none⟩ = some (.int .i64 d) ∧ w.cell? ⟨b, 2, none⟩ = some (.int .i64 e0) ∧ w.cell? ⟨b, 3, none⟩ = some (.int .i64 e1) ∧
    w.cell? ⟨b, 4, none⟩ = some (.int .i64 g) ∧ w.cell? ⟨b, 5, none⟩ = some (.int .i64 s) ∧ w.cell? ⟨b, 6, none⟩ = some vb ∧ w.cell? ⟨b, 7, none⟩ = some vt :=
  ⟨h.cell 0 (by simp), h.cell 1 (by simp), h.cell 2 (by simp), h.cell 3 (by simp), h.cell 4 (by simp), h.cell 5 (by simp), h.cell 6 (by simp), h.cell 7 (by simp)⟩
theorem env_box (w : World) (k d e0 e1 g s : Int) (vb vt : Value) {w2 : World} (h : Below (w.alloc (.cells (envL k d e0 e1 g s vb vt).toArray 25)).heap.size (w.alloc (.cells (envL k d e0 e1 g s vb vt).toArray 25)) w2) : BlkT 25 w2 w.heap.size (envL k d e0 e1 g s vb vt) :=
  (BlkT.new w (envL k d e0 e1 g s vb vt) 25).up h

set_option maxHeartbeats 1000000 in
theorem right_any (k d e0 e1 g s : Int) (ba_ ta : Option Addr) (n bc m tc : Nat) (hn : n ≤ maxLen) (hm : m ≤ maxLen) (w : World) :
    Calls Try.prog 16 #[envV k d e0 e1 g s (.slice ba_ n bc) (.slice ta m tc)] w fun e w' => e = .returned (.bool (rightB k d e0 e1 g s n m)) ∧ Below w.heap.size w w' := by
  have Hp := Lib.hid (fun W => parts_any k d e0 e1 g s ba_ ta n bc m tc hn W)
  obtain ⟨V, hV⟩ : ∃ V, V = rightB k d e0 e1 g s n m := ⟨_, rfl⟩
  rw [← hV]
  have HV := Lib.hid hV
  unfold maxLen at hn hm
  clear hV
  rcases hp : partsB k d e0 e1 g s n with _ | _
  · go_enter Try.func16, Try.ntmps16
    go_wp2_with (first | (go_at_call 24; go_must ((refine (Hp.out _).mono ?_); rintro e w2 ⟨rfl, hb2⟩)))
    go_ret
    exact ⟨by rw [HV.out]; unfold rightB; rw [hp]; rfl, bt (ba _ _) hb2⟩
  · go_enter Try.func16, Try.ntmps16
    go_wp2_with (first | (go_at_call 24; go_must ((refine (Hp.out _).mono ?_); rintro e w2 ⟨rfl, hb2⟩; obtain ⟨-, -, -, -, -, -, -, c7⟩ := env_cells (env_box w k d e0 e1 g s _ _ hb2).blk)))
    all_goals
      go_ret
      exact ⟨by rw [HV.out]; unfold rightB; rw [hp]; first | (simp [*]; done) | (simp [*]; rw [Bool.eq_iff_iff]; simp; omega), bt (ba _ _) hb2⟩

set_option maxHeartbeats 1000000 in
theorem refRight_any (k d e0 e1 g s : Int) (ba_ ta : Option Addr) (n bc m tc : Nat) (hn : n ≤ maxLen) (hm : m ≤ maxLen) (w : World) :
    Calls Try.prog 17 #[envV k d e0 e1 g s (.slice ba_ n bc) (.slice ta m tc)] w fun e w' => e = .returned (.bool (rightB k d e0 e1 g s n m)) ∧ Below w.heap.size w w' := by
  have Hp := Lib.hid (fun W => refParts_any k d e0 e1 g s ba_ ta n bc m tc hn W)
  obtain ⟨V, hV⟩ : ∃ V, V = rightB k d e0 e1 g s n m := ⟨_, rfl⟩
  rw [← hV]
  have HV := Lib.hid hV
  unfold maxLen at hn hm
  clear hV
  rcases hp : partsB k d e0 e1 g s n with _ | _
  · go_enter Try.func17, Try.ntmps17
    go_wp2_with (first | (go_at_call 27; go_must ((refine (Hp.out _).mono ?_); rintro e w2 ⟨rfl, hb2⟩)))
    go_ret
    exact ⟨by rw [HV.out]; unfold rightB; rw [hp]; rfl, bt (ba _ _) hb2⟩
  · go_enter Try.func17, Try.ntmps17
    go_wp2_with (first | (go_at_call 27; go_must ((refine (Hp.out _).mono ?_); rintro e w2 ⟨rfl, hb2⟩; obtain ⟨-, -, -, -, -, -, -, c7⟩ := env_cells (env_box w k d e0 e1 g s _ _ hb2).blk)))
    all_goals
      go_ret
      exact ⟨by rw [HV.out]; unfold rightB; rw [hp]; first | (simp [*]; done) | (simp [*]; rw [Bool.eq_iff_iff]; simp; omega), bt (ba _ _) hb2⟩
end Go.Proofs.Ytkjckokejbnapaa
