/- Rings of keys: the document's tests; new rings, next numbers, what is offered. -/
import Derived.Test.YtelndpphbpandaaRingB
import Derived.Deep.DeepMust
set_option linter.unusedSimpArgs false
set_option linter.unusedVariables false
namespace Go.Proofs.Ytelndpphbpandaa
open Go.RowKit

/-- blocks of the call's own, one behind the other, from n on -/
def Blks (W : World) (n : Nat) (L : List (List Value)) : Prop := ∀ i l, L[i]? = some l → Blk W (n + i) l
theorem Blks.get {W : World} {n : Nat} {L : List (List Value)} (h : Blks W n L) (i : Nat) {l : List Value} (hl : L[i]? = some l) : Blk W (n + i) l := h i l hl
theorem Blks.up {w w' : World} {n : Nat} {L : List (List Value)} (h : Blks w n L) (hb : Below w.heap.size w w') : Blks w' n L := fun i l hl => (h i l hl).up hb
theorem Blks.nil (w : World) : Blks w w.heap.size [] := fun i l hl => by simp at hl
theorem Blks.alloc {w : World} {n : Nat} {L : List (List Value)} (h : Blks w n L) (hn : w.heap.size = n + L.length) (cs : List Value) (T : TypeId) : Blks (w.alloc (.cells cs.toArray T)) n (L ++ [cs]) := by
  intro i l hl
  by_cases hi : i < L.length
  · rw [List.getElem?_append_left hi] at hl
    exact (h i l hl).alloc _
  · have : i = L.length := by
      have := (List.getElem?_eq_some_iff.1 hl).1
      simp at this; omega
    subst this
    simp at hl
    subst hl
    have := Blk.new w cs T
    rwa [hn] at this
theorem blks2 {w W : World} {a b : List Value} {A B : TypeId} (h : (w.alloc (.cells a.toArray A)).alloc (.cells b.toArray B) = W) : Blks W w.heap.size [a, b] ∧ Below w.heap.size w W := by
  subst h
  exact ⟨(((Blks.nil w).alloc (by simp) a A).alloc (by simp) b B), bt (ba _ _) (ba _ _)⟩
theorem blks3 {w W : World} {a b c : List Value} {A B C : TypeId} (h : ((w.alloc (.cells a.toArray A)).alloc (.cells b.toArray B)).alloc (.cells c.toArray C) = W) : Blks W w.heap.size [a, b, c] ∧ Below w.heap.size w W := by
  subst h
  exact ⟨((((Blks.nil w).alloc (by simp) a A).alloc (by simp) b B).alloc (by simp) c C), bt (bt (ba _ _) (ba _ _)) (ba _ _)⟩
theorem blks4 {w W : World} {a b c d : List Value} {A B C D : TypeId} (h : (((w.alloc (.cells a.toArray A)).alloc (.cells b.toArray B)).alloc (.cells c.toArray C)).alloc (.cells d.toArray D) = W) : Blks W w.heap.size [a, b, c, d] ∧ Below w.heap.size w W := by
  subst h
  exact ⟨(((((Blks.nil w).alloc (by simp) a A).alloc (by simp) b B).alloc (by simp) c C).alloc (by simp) d D), bt (bt (bt (ba _ _) (ba _ _)) (ba _ _)) (ba _ _)⟩

structure Rg where
  c : G
  o : G
  p : G
  l : Int
  t : Int
abbrev Rg.v (r : Rg) : Value := ringV r.c r.o r.p r.l r.t
abbrev Rg.L (r : Rg) : List Value := ringL r.c r.o r.p r.l r.t
abbrev R0 : Rg := ⟨G0, G0, G0, 0, 0⟩
theorem rset8 {w : World} {b : Nat} {a0 a1 a2 a3 a4 a5 a6 a7 v0 v1 v2 v3 v4 v5 v6 v7 : Value} (h : Blk w b [a0, a1, a2, a3, a4, a5, a6, a7]) :
    Blk ((((((((w.setCell ⟨b, 0, none⟩ v0).setCell ⟨b, 1, none⟩ v1).setCell ⟨b, 2, none⟩ v2).setCell ⟨b, 3, none⟩ v3).setCell ⟨b, 4, none⟩ v4).setCell ⟨b, 5, none⟩ v5).setCell ⟨b, 6, none⟩ v6).setCell ⟨b, 7, none⟩ v7) b [v0, v1, v2, v3, v4, v5, v6, v7] :=
  (((((((h.set 0 _).set 1 _).set 2 _).set 3 _).set 4 _).set 5 _).set 6 _).set 7 _
theorem rset8_below {w0 w : World} {B b : Nat} {v0 v1 v2 v3 v4 v5 v6 v7 : Value} (h : Below B w0 w) (hb : B ≤ b) :
    Below B w0 ((((((((w.setCell ⟨b, 0, none⟩ v0).setCell ⟨b, 1, none⟩ v1).setCell ⟨b, 2, none⟩ v2).setCell ⟨b, 3, none⟩ v3).setCell ⟨b, 4, none⟩ v4).setCell ⟨b, 5, none⟩ v5).setCell ⟨b, 6, none⟩ v6).setCell ⟨b, 7, none⟩ v7) :=
  (((((((h.setCell hb _).setCell hb _).setCell hb _).setCell hb _).setCell hb _).setCell hb _).setCell hb _).setCell hb _
theorem ring_info : (Try.prog.info? 26).map (·.size) = some 8 := by kernel_rfl

theorem real_none {g : G} (h : realB g = true) : noneB g = false := by
  simp [realB] at h; simp [noneB]; omega

set_option maxHeartbeats 1000000 in
theorem refEmpty_any (c o p : G) (l t : Int) (w : World) :
    Calls Try.prog 31 #[ringV c o p l t] w fun e w' => e = .returned (.bool (emptyB c o p l t)) ∧ Below w.heap.size w w' := by
  have HB := Lib.hid (Blk.new w (ringL c o p l t) 26)
  rcases hC : noneB c with _ | _
  all_goals
    rcases hO : noneB o with _ | _
    all_goals
      rcases hP : noneB p with _ | _
      all_goals
        go_enter Try.func31, Try.ntmps31
        go_wp2_with (first
          | (go_at_call 33; ((with_reducible refine Calls.mono (refNone_any c _) ?_); rintro e w2 ⟨rfl, hb2⟩; have HB := Lib.hid (HB.out.up hb2); have Hb := Lib.hid (bt (ba w _) hb2); clear hb2; obtain ⟨c0, c1, c2, c3, c4, c5, c6, c7⟩ := ring_cells HB.out))
          | (go_at_call 33; ((with_reducible refine Calls.mono (refNone_any o _) ?_); rintro e w2 ⟨rfl, hb2⟩; have HB := Lib.hid (HB.out.up hb2); have Hb := Lib.hid (bt Hb.out hb2); clear hb2; obtain ⟨c0, c1, c2, c3, c4, c5, c6, c7⟩ := ring_cells HB.out))
          | (go_at_call 33; ((with_reducible refine Calls.mono (refNone_any p _) ?_); rintro e w2 ⟨rfl, hb2⟩; have HB := Lib.hid (HB.out.up hb2); have Hb := Lib.hid (bt Hb.out hb2); clear hb2; obtain ⟨c0, c1, c2, c3, c4, c5, c6, c7⟩ := ring_cells HB.out)))
        all_goals
          go_ret
          exact ⟨by simp [emptyB, *], Hb.out⟩

set_option maxHeartbeats 2000000 in
theorem refRight_any (c o p : G) (l t : Int) (w : World) :
    Calls Try.prog 12 #[ringV c o p l t] w fun e w' => e = .returned (.bool (rightB c o p l t)) ∧ Below w.heap.size w w' := by
  have HB := Lib.hid (Blk.new w (ringL c o p l t) 26)
  rcases hE : emptyB c o p l t with _ | _
  · rcases hC : realB c with _ | _
    · go_enter Try.func12, Try.ntmps12
      go_wp2_with (first
        | (go_at_call 31; ((with_reducible refine Calls.mono (refEmpty_any c o p l t _) ?_); rintro e w2 ⟨rfl, hb2⟩; have HB := Lib.hid (HB.out.up hb2); have Hb := Lib.hid (bt (ba w _) hb2); clear hb2; obtain ⟨c0, c1, c2, c3, c4, c5, c6, c7⟩ := ring_cells HB.out))
        | (go_at_call 32; ((with_reducible refine Calls.mono (refReal_any c _) ?_); rintro e w2 ⟨rfl, hb2⟩; have HB := Lib.hid (HB.out.up hb2); have Hb := Lib.hid (bt Hb.out hb2); clear hb2; obtain ⟨c0, c1, c2, c3, c4, c5, c6, c7⟩ := ring_cells HB.out)))
      all_goals
        go_ret
        exact ⟨by simp [rightB, *], Hb.out⟩
    · by_cases hT : t ≤ 2147483647 ∧ c.no ≤ t ∧ p.no ≤ t
      · obtain ⟨t1, t2, t3⟩ := hT
        have HCN := Lib.hid (real_none hC)
        rcases hO : noneB o with _ | _
        all_goals
          rcases hOR : realB o with _ | _
          all_goals
            rcases hP : noneB p with _ | _
            all_goals
              rcases hPR : realB p with _ | _
              all_goals
                go_enter Try.func12, Try.ntmps12
                go_wp2_with (first
                  | (go_at_call 31; ((with_reducible refine Calls.mono (refEmpty_any c o p l t _) ?_); rintro e w2 ⟨rfl, hb2⟩; have HB := Lib.hid (HB.out.up hb2); have Hb := Lib.hid (bt (ba w _) hb2); clear hb2; obtain ⟨c0, c1, c2, c3, c4, c5, c6, c7⟩ := ring_cells HB.out))
                  | (go_at_call 32; ((with_reducible refine Calls.mono (refReal_any c _) ?_); rintro e w2 ⟨rfl, hb2⟩; have HB := Lib.hid (HB.out.up hb2); have Hb := Lib.hid (bt Hb.out hb2); clear hb2; obtain ⟨c0, c1, c2, c3, c4, c5, c6, c7⟩ := ring_cells HB.out))
                  | (go_at_call 33; ((with_reducible refine Calls.mono (refNone_any o _) ?_); rintro e w2 ⟨rfl, hb2⟩; have HB := Lib.hid (HB.out.up hb2); have Hb := Lib.hid (bt Hb.out hb2); clear hb2; obtain ⟨c0, c1, c2, c3, c4, c5, c6, c7⟩ := ring_cells HB.out))
                  | (go_at_call 32; ((with_reducible refine Calls.mono (refReal_any o _) ?_); rintro e w2 ⟨rfl, hb2⟩; have HB := Lib.hid (HB.out.up hb2); have Hb := Lib.hid (bt Hb.out hb2); clear hb2; obtain ⟨c0, c1, c2, c3, c4, c5, c6, c7⟩ := ring_cells HB.out))
                  | (go_at_call 33; ((with_reducible refine Calls.mono (refNone_any p _) ?_); rintro e w2 ⟨rfl, hb2⟩; have HB := Lib.hid (HB.out.up hb2); have Hb := Lib.hid (bt Hb.out hb2); clear hb2; obtain ⟨c0, c1, c2, c3, c4, c5, c6, c7⟩ := ring_cells HB.out))
                  | (go_at_call 32; ((with_reducible refine Calls.mono (refReal_any p _) ?_); rintro e w2 ⟨rfl, hb2⟩; have HB := Lib.hid (HB.out.up hb2); have Hb := Lib.hid (bt Hb.out hb2); clear hb2; obtain ⟨c0, c1, c2, c3, c4, c5, c6, c7⟩ := ring_cells HB.out)))
                all_goals
                  go_ret
                  exact ⟨by (try simp only [Int.not_lt, Int.not_le] at *); simp [rightB, emptyB, HCN.out, oldB, pendB, topB, *]; try omega, Hb.out⟩
      · have hT' : topB c p t = false := by
          rcases h : topB c p t with _ | _
          · rfl
          · simp [topB] at h; exact (hT ⟨h.2.2, h.1, h.2.1⟩).elim
        have HR : Hid (rightB c o p l t = false) := Lib.hid (by simp [rightB, hE, hT'])
        have hq : 2147483647 < t ∨ (t ≤ 2147483647 ∧ t < c.no) ∨ (t ≤ 2147483647 ∧ c.no ≤ t ∧ t < p.no) := by omega
        clear hT hT'
        rcases hq with h | ⟨h1, h⟩ | ⟨h1, h2, h⟩
        all_goals
          go_enter Try.func12, Try.ntmps12
          go_wp2_with (first
            | (go_at_call 31; ((with_reducible refine Calls.mono (refEmpty_any c o p l t _) ?_); rintro e w2 ⟨rfl, hb2⟩; have HB := Lib.hid (HB.out.up hb2); have Hb := Lib.hid (bt (ba w _) hb2); clear hb2; obtain ⟨c0, c1, c2, c3, c4, c5, c6, c7⟩ := ring_cells HB.out))
            | (go_at_call 32; ((with_reducible refine Calls.mono (refReal_any c _) ?_); rintro e w2 ⟨rfl, hb2⟩; have HB := Lib.hid (HB.out.up hb2); have Hb := Lib.hid (bt Hb.out hb2); clear hb2; obtain ⟨c0, c1, c2, c3, c4, c5, c6, c7⟩ := ring_cells HB.out)))
          all_goals
            go_ret
            exact ⟨by rw [HR.out]; rfl, Hb.out⟩
  · go_enter Try.func12, Try.ntmps12
    go_wp2_with (first
        | (go_at_call 31; ((with_reducible refine Calls.mono (refEmpty_any c o p l t _) ?_); rintro e w2 ⟨rfl, hb2⟩; have HB := Lib.hid (HB.out.up hb2); have Hb := Lib.hid (bt (ba w _) hb2); clear hb2; obtain ⟨c0, c1, c2, c3, c4, c5, c6, c7⟩ := ring_cells HB.out)))
    go_ret
    exact ⟨by simp [rightB, *], Hb.out⟩
end Go.Proofs.Ytelndpphbpandaa
