/- Hubs: which are right, of the program and of the document; few bytes; whether one is up. -/
import Derived.Test.YtcccgjpmfbmplaaHuB
import Derived.Test.YtcccgjpmfbmplaaFrD
import Derived.ChangeKeysEq
import Derived.Deep.RegionHeld3
set_option linter.unusedSimpArgs false
set_option linter.unusedVariables false
namespace Go.Proofs.Ytcccgjpmfbmplaa
open Go.RowKit

/-- the feeds that a hub's values are -/
def HbAt (w : World) (h : Hv) (s : Nat → Fd) : Prop := ∀ i, i < 4 → FdAt w (h.f i) (s i)
theorem HbAt.mono {w w' : World} {h : Hv} {s : Nat → Fd} (hh : HbAt w h s) (hb : Below w.heap.size w w') : HbAt w' h s := fun i hi => (hh i hi).mono hb
def c4 (p : Nat → Bool) : Bool := p 0 && (p 1 && (p 2 && p 3))
def sameFd (s t : Fd) : Bool := (s.buf == t.buf) && ((s.skip == t.skip) && (s.bad == t.bad))
abbrev zeroD : Fd := ⟨[], 0, 0⟩
theorem zeroF_at (w : World) : FdAt w zeroF zeroD := ⟨rfl, Nat.le_refl _, by decide, .inl rfl, rfl, rfl⟩
def okC (h : Hv) (s : Nat → Fd) (i : Nat) : Bool := rightF (s i) && (h.u i || sameFd (s i) zeroD)
def rightH (h : Hv) (s : Nat → Fd) : Bool := c4 (okC h s) && isC h.nx
def fewH (h : Hv) : Bool := c4 fun i => decide ((h.f i).len ≤ 1200)

theorem part_b0 (a b c d : Value) (w : World) : (part 4 #[a, b, c, d] (0 * 1)).run Try.prog w = .ok a w := by kernel_rfl
theorem part_b1 (a b c d : Value) (w : World) : (part 4 #[a, b, c, d] (1 * 1)).run Try.prog w = .ok b w := by kernel_rfl
theorem part_b2 (a b c d : Value) (w : World) : (part 4 #[a, b, c, d] (2 * 1)).run Try.prog w = .ok c w := by kernel_rfl
theorem part_b3 (a b c d : Value) (w : World) : (part 4 #[a, b, c, d] (3 * 1)).run Try.prog w = .ok d w := by kernel_rfl
theorem part_i0 (a b c d : Value) (w : World) : (part 3 #[a, b, c, d] (0 * 1)).run Try.prog w = .ok a w := by kernel_rfl
theorem part_i1 (a b c d : Value) (w : World) : (part 3 #[a, b, c, d] (1 * 1)).run Try.prog w = .ok b w := by kernel_rfl
theorem part_i2 (a b c d : Value) (w : World) : (part 3 #[a, b, c, d] (2 * 1)).run Try.prog w = .ok c w := by kernel_rfl
theorem part_i3 (a b c d : Value) (w : World) : (part 3 #[a, b, c, d] (3 * 1)).run Try.prog w = .ok d w := by kernel_rfl
theorem part_b1' (a b c d : Value) (w : World) : (part 4 #[a, b, c, d] 1).run Try.prog w = .ok b w := part_b1 a b c d w
theorem part_b2' (a b c d : Value) (w : World) : (part 4 #[a, b, c, d] 2).run Try.prog w = .ok c w := part_b2 a b c d w
theorem part_b3' (a b c d : Value) (w : World) : (part 4 #[a, b, c, d] 3).run Try.prog w = .ok d w := part_b3 a b c d w
theorem part_i1' (a b c d : Value) (w : World) : (part 3 #[a, b, c, d] 1).run Try.prog w = .ok b w := part_i1 a b c d w
theorem part_i2' (a b c d : Value) (w : World) : (part 3 #[a, b, c, d] 2).run Try.prog w = .ok c w := part_i2 a b c d w
theorem part_i3' (a b c d : Value) (w : World) : (part 3 #[a, b, c, d] 3).run Try.prog w = .ok d w := part_i3 a b c d w
theorem eqq_int (d : Nat) (a b : Int) (w : World) : (Op.equalIn (d + 1) 3 (.int .i64 a) (.int .i64 b)).run Try.prog w = .ok (decide (a = b)) w := by
  simp [Op.equalIn, run_underlying Try.underlying3]
  rw [Bool.eq_iff_iff]; simp
theorem eqq_bool (d : Nat) (a b : Bool) (w : World) : (Op.equalIn (d + 1) 4 (.bool a) (.bool b)).run Try.prog w = .ok (a == b) w := by
  simp [Op.equalIn, run_underlying Try.underlying4]
theorem eqq_int' (a b : Int) (w : World) : (Op.equalIn 9999 3 (.int .i64 a) (.int .i64 b)).run Try.prog w = .ok (decide (a = b)) w := eqq_int 9998 a b w
theorem eqq_bool' (a b : Bool) (w : World) : (Op.equalIn 9999 4 (.bool a) (.bool b)).run Try.prog w = .ok (a == b) w := eqq_bool 9998 a b w
theorem eq_bools (a0 a1 a2 a3 b0 b1 b2 b3 : Bool) (w : World) : (Op.equalIn 10000 22 (.agg #[.bool a0, .bool a1, .bool a2, .bool a3]) (.agg #[.bool b0, .bool b1, .bool b2, .bool b3])).run Try.prog w = .ok ((a0 == b0) && ((a1 == b1) && ((a2 == b2) && (a3 == b3)))) w := by
  obtain ⟨i, hi⟩ := Option.isSome_iff_exists.1 (show (Try.prog.info? 4).isSome = true by kernel_rfl)
  have h := run_equalIn_array w 9999 #[.bool a0, .bool a1, .bool a2, .bool a3] #[.bool b0, .bool b1, .bool b2, .bool b3] Try.underlying22 hi
  have hc : Try.prog.cellsOf 4 = 1 := by kernel_rfl
  have r4 : List.range 4 = [0, 1, 2, 3] := rfl
  rw [hc, r4] at h
  refine h.trans ?_
  have q := fun a b w => eqq_bool 9998 a b w
  simp only [Op.eqItems, Sem.run_bind, part_b0, part_b1, part_b2, part_b3, Result.andThen_ok, q]
  cases a0 <;> cases b0 <;> cases a1 <;> cases b1 <;> cases a2 <;> cases b2 <;> cases a3 <;> cases b3 <;> simp [eqq_bool', part_b1', part_b2', part_b3', part_b1, part_b2, part_b3]
theorem eq_ints (a0 a1 a2 a3 b0 b1 b2 b3 : Int) (w : World) : (Op.equalIn 10000 27 (.agg #[.int .i64 a0, .int .i64 a1, .int .i64 a2, .int .i64 a3]) (.agg #[.int .i64 b0, .int .i64 b1, .int .i64 b2, .int .i64 b3])).run Try.prog w = .ok (decide (a0 = b0) && (decide (a1 = b1) && (decide (a2 = b2) && decide (a3 = b3)))) w := by
  obtain ⟨i, hi⟩ := Option.isSome_iff_exists.1 (show (Try.prog.info? 3).isSome = true by kernel_rfl)
  have h := run_equalIn_array w 9999 #[.int .i64 a0, .int .i64 a1, .int .i64 a2, .int .i64 a3] #[.int .i64 b0, .int .i64 b1, .int .i64 b2, .int .i64 b3] Try.underlying27 hi
  have hc : Try.prog.cellsOf 3 = 1 := by kernel_rfl
  have r4 : List.range 4 = [0, 1, 2, 3] := rfl
  rw [hc, r4] at h
  refine h.trans ?_
  have q := fun a b w => eqq_int 9998 a b w
  simp only [Op.eqItems, Sem.run_bind, part_i0, part_i1, part_i2, part_i3, Result.andThen_ok, q]
  by_cases h0 : a0 = b0 <;> by_cases h1 : a1 = b1 <;> by_cases h2 : a2 = b2 <;> by_cases h3 : a3 = b3 <;> simp [h0, h1, h2, h3, eqq_int', part_i1', part_i2', part_i3', part_i1, part_i2, part_i3]

set_option maxHeartbeats 400000 in
theorem hubAny_any (h : Hv) (w : World) : Calls Try.prog 16 #[h.v] w fun e w' => e = .returned (.bool (anyH h)) ∧ Below w.heap.size w w' := by
  have q := fun W => eq_bools (h.u 0) (h.u 1) (h.u 2) (h.u 3) false false false false W
  obtain ⟨V, hV⟩ : ∃ V, V = anyH h := ⟨_, rfl⟩
  rw [← hV]
  have HV := Lib.hid hV
  clear hV
  go_enter Try.func16, Try.ntmps16
  go_wp2_with fail
  go_ret
  exact ⟨by rw [HV.out]; unfold anyH; cases h.u 0 <;> cases h.u 1 <;> cases h.u 2 <;> cases h.u 3 <;> rfl, ba w _⟩
set_option maxHeartbeats 400000 in
theorem refAny_any (h : Hv) (w : World) : Calls Try.prog 17 #[h.v] w fun e w' => e = .returned (.bool (anyH h)) ∧ Below w.heap.size w w' := by
  obtain ⟨V, hV⟩ : ∃ V, V = anyH h := ⟨_, rfl⟩
  rw [← hV]
  have HV := Lib.hid hV
  clear hV
  go_enter Try.func17, Try.ntmps17
  go_wp2_with fail
  all_goals
    go_ret
    exact ⟨by rw [HV.out]; simp [anyH, *], ba w _⟩
set_option maxHeartbeats 1000000 in
theorem fewH_any (h : Hv) (hl : ∀ i, i < 4 → (h.f i).len ≤ maxLen) (w : World) : Calls Try.prog 9 #[h.v] w fun e w' => e = .returned (.bool (fewH h)) ∧ Below w.heap.size w w' := by
  obtain ⟨V, hV⟩ : ∃ V, V = fewH h := ⟨_, rfl⟩
  rw [← hV]
  have HV := Lib.hid hV
  have e0 := hl 0 (by decide)
  have e1 := hl 1 (by decide)
  have e2 := hl 2 (by decide)
  have e3 := hl 3 (by decide)
  unfold maxLen at e0 e1 e2 e3
  clear hV hl
  go_enter Try.func9, Try.ntmps9
  go_wp2_with fail
  all_goals
    go_ret
    exact ⟨by rw [HV.out]; first | (simp [fewH, c4, *]; done) | (simp [fewH, c4, *] <;> omega) | (simp [fewH, c4, *]; rw [Bool.eq_iff_iff]; simp; omega), ba w _⟩
end Go.Proofs.Ytcccgjpmfbmplaa
