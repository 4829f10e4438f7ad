/- Rings of keys: what the small functions of layer 11 answer, of the program and of the document. -/
import Derived.Test.YtelndpphbpandaaBase
set_option linter.unusedSimpArgs false
set_option linter.unusedVariables false
namespace Go.Proofs.Ytelndpphbpandaa
open Go.RowKit

/-- a generation: its number, and its key's slice -/
structure G where
  no : Int
  a : Option Addr
  len : Nat
  cap : Nat
abbrev G0 : G := ⟨0, none, 0, 0⟩
abbrev genV (g : G) : Value := .agg #[.int .i64 g.no, .slice g.a g.len g.cap]
abbrev ringV (c o p : G) (l t : Int) : Value := .agg #[.int .i64 c.no, .slice c.a c.len c.cap, .int .i64 o.no, .slice o.a o.len o.cap, .int .i64 p.no, .slice p.a p.len p.cap, .int .i64 l, .int .i64 t]
def noneB (g : G) : Bool := (g.no == 0) && ((g.len : Int) == 0)
def realB (g : G) : Bool := decide (1 ≤ g.no) && (decide (g.no ≤ 2147483647) && ((g.len : Int) == 32))
def emptyB (c o p : G) (l t : Int) : Bool := noneB c && (noneB o && (noneB p && ((l == 0) && (t == 0))))
def oldB (c o : G) (l : Int) : Bool := bif noneB o then l == 0 else realB o && (decide (o.no < c.no) && (decide (1 ≤ l) && decide (l ≤ 16)))
def pendB (c p : G) : Bool := noneB p || (realB p && decide (c.no < p.no))
def topB (c p : G) (t : Int) : Bool := decide (c.no ≤ t) && (decide (p.no ≤ t) && decide (t ≤ 2147483647))
def rightB (c o p : G) (l t : Int) : Bool := emptyB c o p l t || (realB c && (oldB c o l && (pendB c p && topB c p t)))

set_option maxHeartbeats 400000 in
theorem none_any (g : G) (w : World) :
    Calls Try.prog 36 #[genV g] w fun e w' => e = .returned (.bool (noneB g)) ∧ Below w.heap.size w w' := by
  go_enter Try.func36, Try.ntmps36
  go_wp2_with fail
  all_goals
    go_ret
    exact ⟨by simp [noneB, *], ba w _⟩
set_option maxHeartbeats 400000 in
theorem refNone_any (g : G) (w : World) :
    Calls Try.prog 33 #[genV g] w fun e w' => e = .returned (.bool (noneB g)) ∧ Below w.heap.size w w' := by
  go_enter Try.func33, Try.ntmps33
  go_wp2_with fail
  all_goals
    go_ret
    exact ⟨by simp [noneB, *], ba w _⟩
set_option maxHeartbeats 400000 in
theorem real_any (g : G) (w : World) :
    Calls Try.prog 37 #[genV g] w fun e w' => e = .returned (.bool (realB g)) ∧ Below w.heap.size w w' := by
  go_enter Try.func37, Try.ntmps37
  go_wp2_with fail
  all_goals
    go_ret
    exact ⟨by (try simp only [Int.not_lt, Int.not_le] at *); simp [realB, *]; try omega, ba w _⟩
set_option maxHeartbeats 400000 in
theorem refReal_any (g : G) (w : World) :
    Calls Try.prog 32 #[genV g] w fun e w' => e = .returned (.bool (realB g)) ∧ Below w.heap.size w w' := by
  go_enter Try.func32, Try.ntmps32
  go_wp2_with fail
  all_goals
    go_ret
    exact ⟨by (try simp only [Int.not_lt, Int.not_le] at *); simp [realB, *]; try omega, ba w _⟩
set_option maxHeartbeats 400000 in
theorem all_any (c o p : G) (l t : Int) (w : World) :
    Calls Try.prog 39 #[ringV c o p l t] w fun e w' => e = .returned (.agg #[.int .i64 c.no, .slice c.a c.len c.cap, .int .i64 o.no, .slice o.a o.len o.cap, .int .i64 p.no, .slice p.a p.len p.cap]) ∧ Below w.heap.size w w' := by
  go_enter Try.func39, Try.ntmps39
  go_wp2_with fail
  refine bodyPost_ret (v := .agg #[.int .i64 c.no, .slice c.a c.len c.cap, .int .i64 o.no, .slice o.a o.len o.cap, .int .i64 p.no, .slice p.a p.len p.cap]) (by simp [results, Try.results39, go_sem]) rfl ⟨rfl, bt (ba w _) (ba _ _)⟩
theorem run_gen0 (a b c : Value) (x y z : Value) (w : World) : (Instr.index 66 (.agg #[a, b, c, x, y, z]) (.int .i64 0)).run Try.prog w = .ok (.agg #[a, b]) w := by kernel_rfl
theorem run_gen1 (a b c : Value) (x y z : Value) (w : World) : (Instr.index 66 (.agg #[a, b, c, x, y, z]) (.int .i64 1)).run Try.prog w = .ok (.agg #[c, x]) w := by kernel_rfl
theorem run_gen2 (a b c : Value) (x y z : Value) (w : World) : (Instr.index 66 (.agg #[a, b, c, x, y, z]) (.int .i64 2)).run Try.prog w = .ok (.agg #[y, z]) w := by kernel_rfl
abbrev ringL (c o p : G) (l t : Int) : List Value := [.int .i64 c.no, .slice c.a c.len c.cap, .int .i64 o.no, .slice o.a o.len o.cap, .int .i64 p.no, .slice p.a p.len p.cap, .int .i64 l, .int .i64 t]
theorem ring_cells {w : World} {b : Nat} {c o p : G} {l t : Int} (h : Blk w b (ringL c o p l t)) :
    w.cell? ⟨b, 0, none⟩ = some (.int .i64 c.no) ∧ w.cell? ⟨b, 1, none⟩ = some (.slice c.a c.len c.cap) ∧ w.cell? ⟨b, 2, none⟩ = some (.int .i64 o.no) ∧ w.cell? ⟨b, 3, none⟩ = some (.slice o.a o.len o.cap) ∧
    w.cell? ⟨b, 4, none⟩ = some (.int .i64 p.no) ∧ w.cell? ⟨b, 5, none⟩ = some (.slice p.a p.len p.cap) ∧ w.cell? ⟨b, 6, none⟩ = some (.int .i64 l) ∧ w.cell? ⟨b, 7, none⟩ = some (.int .i64 t) :=
  ⟨h.cell 0 (by simp), h.cell 1 (by simp), h.cell 2 (by simp), h.cell 3 (by simp), h.cell 4 (by simp), h.cell 5 (by simp), h.cell 6 (by simp), h.cell 7 (by simp)⟩

set_option maxHeartbeats 1000000 in
theorem wempty_any (c o p : G) (l t : Int) (w : World) :
    Calls Try.prog 35 #[ringV c o p l t] w fun e w' => e = .returned (.bool (emptyB c o p l t)) ∧ Below w.heap.size w w' := by
  go_enter Try.func35, Try.ntmps35
  go_wp2_with fail
  have Hb0 := Lib.hid (Blk.new w (ringL c o p l t) 65)
  refine (all_any c o p l t _).mono ?_; rintro e w1 ⟨rfl, hb1⟩
  have HB := Lib.hid (Hb0.out.below hb1 (by simp))
  have Hb1 := Lib.hid (bt (ba w _) hb1)
  clear Hb0 hb1
  go_wp2_with fail
  go_loopw [7] (fun i wr => ∃ k : Int, 0 ≤ k ∧ k ≤ 3 ∧ i = .int .i64 k ∧ (0 < k → noneB c = true) ∧ (1 < k → noneB o = true) ∧ (2 < k → noneB p = true) ∧ Below w1.heap.size w1 wr) (fun i _ => 3 - (intOf i).toNat)
  case atStart => exact ⟨0, by omega, by omega, rfl, by omega, by omega, by omega, Below.refl _ _⟩
  case round =>
    obtain ⟨k, hk0, hk3, rfl, h0, h1, h2, hb⟩ := hrel
    have Hb := Lib.hid hb
    clear hb
    have e0 := fun W => run_gen0 (.int .i64 c.no) (.slice c.a c.len c.cap) (.int .i64 o.no) (.slice o.a o.len o.cap) (.int .i64 p.no) (.slice p.a p.len p.cap) W
    have e1 := fun W => run_gen1 (.int .i64 c.no) (.slice c.a c.len c.cap) (.int .i64 o.no) (.slice o.a o.len o.cap) (.int .i64 p.no) (.slice p.a p.len p.cap) W
    have e2 := fun W => run_gen2 (.int .i64 c.no) (.slice c.a c.len c.cap) (.int .i64 o.no) (.slice o.a o.len o.cap) (.int .i64 p.no) (.slice p.a p.len p.cap) W
    rcases (show k = 0 ∨ k = 1 ∨ k = 2 ∨ k = 3 by omega) with rfl | rfl | rfl | rfl
    · skip
      clear h0 h1 h2
      go_wp2_with (go_at_call 36; refine (none_any c _).mono ?_; rintro e w2 ⟨rfl, hb2⟩)
      all_goals first
        | (rename_i hq; exact ⟨⟨1, by decide, by decide, rfl, fun _ => by simpa using hq, by omega, by omega, bt Hb.out (bt (ba _ _) hb2)⟩, by simp [intOf]⟩)
        | (rename_i hq; have hq' : noneB c = false := by simpa using hq
           go_ret; exact ⟨by simp [emptyB, hq'], bt Hb1.out (bt Hb.out (bt (ba _ _) hb2))⟩)
    · have HC := Lib.hid (h0 (by decide))
      clear h0 h1 h2
      go_wp2_with (go_at_call 36; refine (none_any o _).mono ?_; rintro e w2 ⟨rfl, hb2⟩)
      all_goals first
        | (rename_i hq; exact ⟨⟨2, by decide, by decide, rfl, fun _ => HC.out, fun _ => by simpa using hq, by omega, bt Hb.out (bt (ba _ _) hb2)⟩, by simp [intOf]⟩)
        | (rename_i hq; have hq' : noneB o = false := by simpa using hq
           go_ret; exact ⟨by simp [emptyB, HC.out, hq'], bt Hb1.out (bt Hb.out (bt (ba _ _) hb2))⟩)
    · have HC := Lib.hid (h0 (by decide))
      have HO := Lib.hid (h1 (by decide))
      clear h0 h1 h2
      go_wp2_with (go_at_call 36; refine (none_any p _).mono ?_; rintro e w2 ⟨rfl, hb2⟩)
      all_goals first
        | (rename_i hq; exact ⟨⟨3, by decide, by decide, rfl, fun _ => HC.out, fun _ => HO.out, fun _ => by simpa using hq, bt Hb.out (bt (ba _ _) hb2)⟩, by simp [intOf]⟩)
        | (rename_i hq; have hq' : noneB p = false := by simpa using hq
           go_ret; exact ⟨by simp [emptyB, HC.out, HO.out, hq'], bt Hb1.out (bt Hb.out (bt (ba _ _) hb2))⟩)
    · have HC := h0 (by decide)
      have HO := h1 (by decide)
      have HP := h2 (by decide)
      obtain ⟨-, -, -, -, -, -, c6, c7⟩ := ring_cells (HB.out.below Hb.out HB.out.lt)
      clear h0 h1 h2 e0 e1 e2
      go_wp2_with fail
      all_goals
        go_ret
        exact ⟨by simp [emptyB, *], bt Hb1.out Hb.out⟩
end Go.Proofs.Ytelndpphbpandaa
