/- Rings of keys: which are right, of the program and of the document. -/
import Derived.Test.YtelndpphbpandaaRingA
set_option linter.unusedSimpArgs false
set_option linter.unusedVariables false
namespace Go.Proofs.Ytelndpphbpandaa
open Go.RowKit

theorem Blk.up {w w' : World} {b : Nat} {cs : List Value} (h : Blk w b cs) (hb : Below w.heap.size w w') : Blk w' b cs := h.below hb h.lt

set_option maxHeartbeats 1000000 in
theorem old_any (c o p : G) (l t : Int) (w : World) :
    Calls Try.prog 38 #[ringV c o p l t] w fun e w' => e = .returned (.bool (oldB c o l)) ∧ Below w.heap.size w w' := by
  have HB := Lib.hid (Blk.new w (ringL c o p l t) 65)
  go_enter Try.func38, Try.ntmps38
  go_wp2_with fail
  refine (none_any o _).mono ?_; rintro e w2 ⟨rfl, hb2⟩
  have HB2 := Lib.hid (HB.out.up hb2)
  have Hb2 := Lib.hid (bt (ba w _) hb2)
  clear HB hb2
  obtain ⟨c0, c1, c2, c3, c4, c5, c6, c7⟩ := ring_cells HB2.out
  rcases hO : noneB o with _ | _
  · go_wp2_with fail
    refine (real_any o _).mono ?_; rintro e w3 ⟨rfl, hb3⟩
    have HB3 := Lib.hid (HB2.out.up hb3)
    have Hb3 := Lib.hid (bt Hb2.out hb3)
    clear HB2 hb3 c0 c1 c2 c3 c4 c5 c6 c7
    obtain ⟨c0, c1, c2, c3, c4, c5, c6, c7⟩ := ring_cells HB3.out
    rcases hR : realB o with _ | _
    all_goals
      go_wp2_with fail
      all_goals
        (try simp only [Int.not_lt, Int.not_le] at *)
        go_ret
        exact ⟨by (try simp only [Int.not_lt, Int.not_le] at *); simp [oldB, *]; try omega, Hb3.out⟩
  · go_wp2_with fail
    all_goals
      go_ret
      exact ⟨by simp [oldB, *], Hb2.out⟩

theorem blk1 (w : World) (o : Obj) (cs : List Value) (T : TypeId) : Blk ((w.alloc o).alloc (.cells cs.toArray T)) (w.heap.size + 1) cs := by
  have := Blk.new (w.alloc o) cs T; rwa [World.size_alloc] at this

set_option maxHeartbeats 1000000 in
theorem right_any (c o p : G) (l t : Int) (w : World) :
    Calls Try.prog 14 #[ringV c o p l t] w fun e w' => e = .returned (.bool (rightB c o p l t)) ∧ Below w.heap.size w w' := by
  have HB := Lib.hid (blk1 w (.cells (ringL c o p l t).toArray 26) (ringL c o p l t) 65)
  go_enter Try.func14, Try.ntmps14
  go_wp2_with fail
  refine (wempty_any c o p l t _).mono ?_; rintro e w2 ⟨rfl, hb2⟩
  have HB2 := Lib.hid (HB.out.up hb2)
  have Hb2 := Lib.hid (bt (bt (ba w _) (ba _ _)) hb2)
  clear HB hb2
  obtain ⟨c0, c1, c2, c3, c4, c5, c6, c7⟩ := ring_cells HB2.out
  rcases hE : emptyB c o p l t with _ | _
  · go_wp2_with fail
    refine (none_any p _).mono ?_; rintro e w3 ⟨rfl, hb3⟩
    have HB3 := Lib.hid (HB2.out.up hb3)
    have Hb3 := Lib.hid (bt Hb2.out hb3)
    clear HB2 hb3 c0 c1 c2 c3 c4 c5 c6 c7
    obtain ⟨c0, c1, c2, c3, c4, c5, c6, c7⟩ := ring_cells HB3.out
    rcases hP : noneB p with _ | _
    all_goals
      rcases hR : realB p with _ | _
      all_goals
        rcases hC : realB c with _ | _
        all_goals
          rcases hO : oldB c o l with _ | _
          all_goals
            go_wp2_with (first
              | (go_at_call 37; ((with_reducible refine Calls.mono (real_any p _) ?_); rintro e w4 ⟨rfl, hb4⟩; have HB3 := Lib.hid (HB3.out.up hb4); have Hb3 := Lib.hid (bt Hb3.out hb4); clear hb4; obtain ⟨c0, c1, c2, c3, c4, c5, c6, c7⟩ := ring_cells HB3.out))
              | (go_at_call 37; ((with_reducible refine Calls.mono (real_any c _) ?_); rintro e w4 ⟨rfl, hb4⟩; have HB3 := Lib.hid (HB3.out.up hb4); have Hb3 := Lib.hid (bt Hb3.out hb4); clear hb4; obtain ⟨c0, c1, c2, c3, c4, c5, c6, c7⟩ := ring_cells HB3.out))
              | (go_at_call 38; ((with_reducible refine Calls.mono (old_any c o p l t _) ?_); rintro e w4 ⟨rfl, hb4⟩; have HB3 := Lib.hid (HB3.out.up hb4); have Hb3 := Lib.hid (bt Hb3.out hb4); clear hb4; obtain ⟨c0, c1, c2, c3, c4, c5, c6, c7⟩ := ring_cells HB3.out)))
            all_goals
              go_ret
              exact ⟨by (try simp only [Int.not_lt, Int.not_le] at *); simp [rightB, pendB, topB, *]; try omega, Hb3.out⟩
  · go_wp2_with fail
    go_ret
    exact ⟨by simp [rightB, *], Hb2.out⟩
end Go.Proofs.Ytelndpphbpandaa
