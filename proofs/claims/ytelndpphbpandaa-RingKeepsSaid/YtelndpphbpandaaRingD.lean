/- Rings of keys: new rings, next numbers, what is offered, turned, withdrawn; ticks. -/
import Derived.Test.YtelndpphbpandaaRingC
set_option linter.unusedSimpArgs false
set_option linter.unusedVariables false
namespace Go.Proofs.Ytelndpphbpandaa
open Go.RowKit

def newF (g : G) : Rg × Int := bif (g.len : Int) == 32 then (⟨⟨1, g.a, g.len, g.cap⟩, G0, G0, 0, 1⟩, 0) else (R0, 1)
def nextF (r : Rg) : Int × Int := bif emptyB r.c r.o r.p r.l r.t then (0, 9) else bif decide (2147483647 ≤ r.t) then (0, 10) else (r.t + 1, 0)
def offB (r : Rg) (no : Int) : Bool := emptyB r.c r.o r.p r.l r.t || (decide (no ≤ r.c.no) || decide (no < r.p.no))
def offerF (r : Rg) (g : G) : Rg × Int := bif realB g then (bif offB r g.no then (r, 9) else (⟨r.c, r.o, g, r.l, (if r.t < g.no then g.no else r.t)⟩, 0)) else (r, 1)
def turnF (r : Rg) : Rg × Int := bif noneB r.p then (r, 9) else (⟨r.p, r.c, G0, 16, r.t⟩, 0)
def tickF (r : Rg) : Rg := bif decide (1 < r.l) then ⟨r.c, r.o, r.p, r.l - 1, r.t⟩ else ⟨r.c, G0, r.p, 0, r.t⟩
def withF (r : Rg) : Rg := ⟨r.c, r.o, G0, r.l, r.t⟩
def fewB (r : Rg) : Bool := decide ((r.c.len : Int) ≤ 100) && (decide ((r.o.len : Int) ≤ 100) && decide ((r.p.len : Int) ≤ 100))

set_option maxHeartbeats 1000000 in
theorem new_any (g : G) (w : World) :
    Calls Try.prog 10 #[.slice g.a g.len g.cap] w fun e w' => e = .returned (.tuple #[(newF g).1.v, .int .i64 (newF g).2]) ∧ Below w.heap.size w w' := by
  obtain ⟨no, a, len, cap⟩ := g
  by_cases h : len = 32
  · have hd : ((len : Int) != 32) = false := by simp; omega
    have HF := Lib.hid (show newF ⟨no, a, len, cap⟩ = (⟨⟨1, a, len, cap⟩, G0, G0, 0, 1⟩, 0) by simp [newF, h])
    clear h
    go_enter Try.func10, Try.ntmps10
    go_wp2_with fail
    rw [HF.out]
    exact bodyPost_ret (v := .tuple #[ringV ⟨1, a, len, cap⟩ G0 G0 0 1, .int .i64 0]) (by simp [results, Try.results10, go_sem, G0]) rfl ⟨rfl, by first | exact bt (ba w _) (ba _ _) | exact ba w _⟩
  · have hd : ((len : Int) != 32) = true := by simp; omega
    have HF := Lib.hid (show newF ⟨no, a, len, cap⟩ = (R0, 1) by simp [newF, show ((len : Int) == 32) = false from beq_eq_false_iff_ne.2 (by omega)])
    clear h
    go_enter Try.func10, Try.ntmps10
    go_wp2_with fail
    rw [HF.out]
    exact bodyPost_ret (v := .tuple #[R0.v, .int .i64 1]) (by simp [results, Try.results10, go_sem, G0, R0]) rfl ⟨rfl, by first | exact bt (ba w _) (ba _ _) | exact ba w _⟩
set_option maxHeartbeats 1000000 in
theorem refNew_any (g : G) (w : World) :
    Calls Try.prog 11 #[.slice g.a g.len g.cap] w fun e w' => e = .returned (.tuple #[(newF g).1.v, .int .i64 (newF g).2]) ∧ Below w.heap.size w w' := by
  obtain ⟨no, a, len, cap⟩ := g
  by_cases h : len = 32
  · have hd : ((len : Int) != 32) = false := by simp; omega
    have HF := Lib.hid (show newF ⟨no, a, len, cap⟩ = (⟨⟨1, a, len, cap⟩, G0, G0, 0, 1⟩, 0) by simp [newF, h])
    clear h
    go_enter Try.func11, Try.ntmps11
    go_wp2_with fail
    rw [HF.out]
    exact bodyPost_ret (v := .tuple #[ringV ⟨1, a, len, cap⟩ G0 G0 0 1, .int .i64 0]) (by simp [results, Try.results11, go_sem, G0]) rfl ⟨rfl, by first | exact bt (ba w _) (ba _ _) | exact ba w _⟩
  · have hd : ((len : Int) != 32) = true := by simp; omega
    have HF := Lib.hid (show newF ⟨no, a, len, cap⟩ = (R0, 1) by simp [newF, show ((len : Int) == 32) = false from beq_eq_false_iff_ne.2 (by omega)])
    clear h
    go_enter Try.func11, Try.ntmps11
    go_wp2_with fail
    rw [HF.out]
    exact bodyPost_ret (v := .tuple #[R0.v, .int .i64 1]) (by simp [results, Try.results11, go_sem, G0, R0]) rfl ⟨rfl, by first | exact bt (ba w _) (ba _ _) | exact ba w _⟩
set_option maxHeartbeats 1000000 in
theorem next_any (r : Rg) (w : World) (h0 : 0 ≤ r.t) (h1 : r.t ≤ 2147483647) :
    Calls Try.prog 16 #[r.v] w fun e w' => e = .returned (.tuple #[.int .i64 (nextF r).1, .int .i64 (nextF r).2]) ∧ Below w.heap.size w w' := by
  obtain ⟨c, o, p, l, t⟩ := r
  have HB := Lib.hid (Blk.new w (ringL c o p l t) 26)
  have Hb := Lib.hid (ba w (.cells (ringL c o p l t).toArray 26))
  simp only at h0 h1
  rcases hE : emptyB c o p l t with _ | _
  · by_cases h : t = 2147483647
    · have HF := Lib.hid (show nextF ⟨c, o, p, l, t⟩ = (0, 10) by simp [nextF, hE, show decide (2147483647 ≤ t) = true by simp [h]])
      have hd : (t == 2147483647) = true := by simpa using h
      have hd2 : decide (2147483647 ≤ t) = true := by simp [h]
      clear h
      go_enter Try.func16, Try.ntmps16
      go_wp2_with (go_at_call 35; ((with_reducible refine Calls.mono (wempty_any c o p l t _) ?_); rintro e w2 ⟨rfl, hb2⟩; have HB := Lib.hid (HB.out.up hb2); have Hb := Lib.hid (bt Hb.out hb2); clear hb2; obtain ⟨c0, c1, c2, c3, c4, c5, c6, c7⟩ := ring_cells HB.out))
      go_ret2
      exact ⟨by rw [HF.out]; rfl, Hb.out⟩
    · have HF := Lib.hid (show nextF ⟨c, o, p, l, t⟩ = (t + 1, 0) by simp [nextF, hE, show decide (2147483647 ≤ t) = false from decide_eq_false (by omega)])
      have hd : (t == 2147483647) = false := by simpa using h
      have hd2 : decide (2147483647 ≤ t) = false := by simp; omega
      have h2 : t < 2147483647 := by omega
      clear h
      go_enter Try.func16, Try.ntmps16
      go_wp2_with (go_at_call 35; ((with_reducible refine Calls.mono (wempty_any c o p l t _) ?_); rintro e w2 ⟨rfl, hb2⟩; have HB := Lib.hid (HB.out.up hb2); have Hb := Lib.hid (bt Hb.out hb2); clear hb2; obtain ⟨c0, c1, c2, c3, c4, c5, c6, c7⟩ := ring_cells HB.out))
      go_ret2
      exact ⟨by rw [HF.out]; rfl, Hb.out⟩
  · have HF := Lib.hid (show nextF ⟨c, o, p, l, t⟩ = (0, 9) by simp [nextF, hE])
    go_enter Try.func16, Try.ntmps16
    go_wp2_with (go_at_call 35; ((with_reducible refine Calls.mono (wempty_any c o p l t _) ?_); rintro e w2 ⟨rfl, hb2⟩; have HB := Lib.hid (HB.out.up hb2); have Hb := Lib.hid (bt Hb.out hb2); clear hb2; obtain ⟨c0, c1, c2, c3, c4, c5, c6, c7⟩ := ring_cells HB.out))
    go_ret2
    exact ⟨by rw [HF.out]; rfl, Hb.out⟩
set_option maxHeartbeats 1000000 in
theorem refNext_any (r : Rg) (w : World) (h0 : 0 ≤ r.t) (h1 : r.t ≤ 2147483647) :
    Calls Try.prog 17 #[r.v] w fun e w' => e = .returned (.tuple #[.int .i64 (nextF r).1, .int .i64 (nextF r).2]) ∧ Below w.heap.size w w' := by
  obtain ⟨c, o, p, l, t⟩ := r
  have HB := Lib.hid (Blk.new w (ringL c o p l t) 26)
  have Hb := Lib.hid (ba w (.cells (ringL c o p l t).toArray 26))
  simp only at h0 h1
  rcases hE : emptyB c o p l t with _ | _
  · by_cases h : t = 2147483647
    · have HF := Lib.hid (show nextF ⟨c, o, p, l, t⟩ = (0, 10) by simp [nextF, hE, show decide (2147483647 ≤ t) = true by simp [h]])
      have hd : (t == 2147483647) = true := by simpa using h
      have hd2 : decide (2147483647 ≤ t) = true := by simp [h]
      clear h
      go_enter Try.func17, Try.ntmps17
      go_wp2_with (go_at_call 31; ((with_reducible refine Calls.mono (refEmpty_any c o p l t _) ?_); rintro e w2 ⟨rfl, hb2⟩; have HB := Lib.hid (HB.out.up hb2); have Hb := Lib.hid (bt Hb.out hb2); clear hb2; obtain ⟨c0, c1, c2, c3, c4, c5, c6, c7⟩ := ring_cells HB.out))
      go_ret2
      exact ⟨by rw [HF.out]; rfl, Hb.out⟩
    · have HF := Lib.hid (show nextF ⟨c, o, p, l, t⟩ = (t + 1, 0) by simp [nextF, hE, show decide (2147483647 ≤ t) = false from decide_eq_false (by omega)])
      have hd : (t == 2147483647) = false := by simpa using h
      have hd2 : decide (2147483647 ≤ t) = false := by simp; omega
      have h2 : t < 2147483647 := by omega
      clear h
      go_enter Try.func17, Try.ntmps17
      go_wp2_with (go_at_call 31; ((with_reducible refine Calls.mono (refEmpty_any c o p l t _) ?_); rintro e w2 ⟨rfl, hb2⟩; have HB := Lib.hid (HB.out.up hb2); have Hb := Lib.hid (bt Hb.out hb2); clear hb2; obtain ⟨c0, c1, c2, c3, c4, c5, c6, c7⟩ := ring_cells HB.out))
      go_ret2
      exact ⟨by rw [HF.out]; rfl, Hb.out⟩
  · have HF := Lib.hid (show nextF ⟨c, o, p, l, t⟩ = (0, 9) by simp [nextF, hE])
    go_enter Try.func17, Try.ntmps17
    go_wp2_with (go_at_call 31; ((with_reducible refine Calls.mono (refEmpty_any c o p l t _) ?_); rintro e w2 ⟨rfl, hb2⟩; have HB := Lib.hid (HB.out.up hb2); have Hb := Lib.hid (bt Hb.out hb2); clear hb2; obtain ⟨c0, c1, c2, c3, c4, c5, c6, c7⟩ := ring_cells HB.out))
    go_ret2
    exact ⟨by rw [HF.out]; rfl, Hb.out⟩
set_option maxHeartbeats 1000000 in
theorem few_any (r : Rg) (w : World) :
    Calls Try.prog 9 #[r.v] w fun e w' => e = .returned (.bool (fewB r)) ∧ Below w.heap.size w w' := by
  obtain ⟨c, o, p, l, t⟩ := r
  go_enter Try.func9, Try.ntmps9
  go_wp2_with fail
  all_goals
    go_ret
    exact ⟨by (try simp only [Int.not_lt, Int.not_le] at *); simp [fewB, *]; try omega, ba w _⟩
set_option maxHeartbeats 1000000 in
theorem with_any (r : Rg) (w : World) :
    Calls Try.prog 25 #[r.v] w fun e w' => e = .returned (withF r).v ∧ Below w.heap.size w w' := by
  obtain ⟨c, o, p, l, t⟩ := r
  go_enter Try.func25, Try.ntmps25
  go_wp2_with fail
  refine bodyPost_ret (v := ringV c o G0 l t) (by simp [results, Try.results25, go_sem, G0]) rfl ⟨rfl, bt (ba w _) (ba _ _)⟩
set_option maxHeartbeats 1000000 in
theorem refWith_any (r : Rg) (w : World) :
    Calls Try.prog 26 #[r.v] w fun e w' => e = .returned (withF r).v ∧ Below w.heap.size w w' := by
  obtain ⟨c, o, p, l, t⟩ := r
  go_enter Try.func26, Try.ntmps26
  go_wp2_with fail
  refine bodyPost_ret (v := ringV c o G0 l t) (by simp [results, Try.results26, go_sem, G0]) rfl ⟨rfl, bt (ba w _) (ba _ _)⟩
set_option maxHeartbeats 1000000 in
theorem tick_any (r : Rg) (w : World) (h0 : 0 ≤ r.l) (h1 : r.l ≤ 16) :
    Calls Try.prog 27 #[r.v] w fun e w' => e = .returned (tickF r).v ∧ Below w.heap.size w w' := by
  obtain ⟨c, o, p, l, t⟩ := r
  simp only at h0 h1
  by_cases h : 1 < l
  · have HF := Lib.hid (show tickF ⟨c, o, p, l, t⟩ = ⟨c, o, p, l - 1, t⟩ by simp [tickF, h])
    go_enter Try.func27, Try.ntmps27
    go_wp2_with fail
    rw [HF.out]
    exact bodyPost_ret (v := ringV c o p (l - 1) t) (by simp [results, Try.results27, go_sem, G0]) rfl ⟨rfl, bt (ba w _) (ba _ _)⟩
  · have HF := Lib.hid (show tickF ⟨c, o, p, l, t⟩ = ⟨c, G0, p, 0, t⟩ by simp [tickF, h])
    go_enter Try.func27, Try.ntmps27
    go_wp2_with fail
    rw [HF.out]
    exact bodyPost_ret (v := ringV c G0 p 0 t) (by simp [results, Try.results27, go_sem, G0]) rfl ⟨rfl, bt (ba w _) (ba _ _)⟩
set_option maxHeartbeats 1000000 in
theorem refTick_any (r : Rg) (w : World) (h0 : 0 ≤ r.l) (h1 : r.l ≤ 16) :
    Calls Try.prog 28 #[r.v] w fun e w' => e = .returned (tickF r).v ∧ Below w.heap.size w w' := by
  obtain ⟨c, o, p, l, t⟩ := r
  simp only at h0 h1
  by_cases h : 1 < l
  · have HF := Lib.hid (show tickF ⟨c, o, p, l, t⟩ = ⟨c, o, p, l - 1, t⟩ by simp [tickF, h])
    go_enter Try.func28, Try.ntmps28
    go_wp2_with fail
    rw [HF.out]
    exact bodyPost_ret (v := ringV c o p (l - 1) t) (by simp [results, Try.results28, go_sem, G0]) rfl ⟨rfl, bt (ba w _) (ba _ _)⟩
  · have HF := Lib.hid (show tickF ⟨c, o, p, l, t⟩ = ⟨c, G0, p, 0, t⟩ by simp [tickF, h])
    go_enter Try.func28, Try.ntmps28
    go_wp2_with fail
    rw [HF.out]
    exact bodyPost_ret (v := ringV c G0 p 0 t) (by simp [results, Try.results28, go_sem, G0]) rfl ⟨rfl, bt (ba w _) (ba _ _)⟩
end Go.Proofs.Ytelndpphbpandaa
