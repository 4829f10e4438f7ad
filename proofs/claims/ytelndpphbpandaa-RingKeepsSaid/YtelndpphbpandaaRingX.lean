/- What a step does with a ring: the plain law, and the step's contract. -/
import Derived.Test.YtelndpphbpandaaRingW
set_option linter.unusedSimpArgs false
set_option linter.unusedVariables false
namespace Go.Proofs.Ytelndpphbpandaa
open Go.RowKit

abbrev Rg.right (r : Rg) : Bool := rightB r.c r.o r.p r.l r.t
abbrev Rg.empty (r : Rg) : Bool := emptyB r.c r.o r.p r.l r.t
/-- what holds of the law's ring, with so many ticks since the last turn -/
structure GoodR (r : Rg) (ticks : Int) : Prop where
  right : r.right = true
  full : r.empty = false
  pos : 0 ≤ ticks
  old : (noneB r.o = true ∧ 16 ≤ ticks) ∨ (noneB r.o = false ∧ r.l = 16 - ticks)
/-- what a step of kind q makes of a ring -/
def StepRel (r : Rg) (q : Int) (X : Rg) (ok : Bool) : Prop :=
  (q = 2 ∧ ok = true ∧ noneB r.p = false ∧ X = ⟨r.p, r.c, G0, 16, r.t⟩) ∨ (q = 4 ∧ ok = true ∧ X = tickF r) ∨
  (q ≠ 4 ∧ (q = 2 → ok = false) ∧ X.c = r.c ∧ X.o = r.o ∧ X.l = r.l ∧ X.right = true ∧ r.t ≤ X.t ∧ (ok = false → X = r))

theorem right_parts {r : Rg} (h : r.right = true) (hE : r.empty = false) : realB r.c = true ∧ oldB r.c r.o r.l = true ∧ pendB r.c r.p = true ∧ topB r.c r.p r.t = true := by
  have h' : rightB r.c r.o r.p r.l r.t = true := h
  have hE' : emptyB r.c r.o r.p r.l r.t = false := hE
  simp only [rightB, hE', Bool.false_or, Bool.and_eq_true] at h'
  exact ⟨h'.1, h'.2.1, h'.2.2.1, h'.2.2.2⟩
theorem right_of {r : Rg} (h1 : realB r.c = true) (h2 : oldB r.c r.o r.l = true) (h3 : pendB r.c r.p = true) (h4 : topB r.c r.p r.t = true) : r.right = true := by
  show rightB r.c r.o r.p r.l r.t = true
  simp only [rightB, h1, h2, h3, h4, Bool.and_self, Bool.or_true]
theorem full_of {r : Rg} (h1 : realB r.c = true) : r.empty = false := by
  show emptyB r.c r.o r.p r.l r.t = false
  simp only [emptyB, real_none h1, Bool.false_and]
theorem none0 : noneB G0 = true := rfl
theorem offer_right {r : Rg} {n : Int} {k : Option Addr} (h : r.right = true) (hE : r.empty = false) : (offerF r ⟨n, k, 32, 32⟩).1.right = true ∧ r.t ≤ (offerF r ⟨n, k, 32, 32⟩).1.t ∧ ((offerF r ⟨n, k, 32, 32⟩).2 ≠ 0 → (offerF r ⟨n, k, 32, 32⟩).1 = r) ∧ (offerF r ⟨n, k, 32, 32⟩).1.c = r.c ∧ (offerF r ⟨n, k, 32, 32⟩).1.o = r.o ∧ (offerF r ⟨n, k, 32, 32⟩).1.l = r.l := by
  obtain ⟨h1, h2, h3, h4⟩ := right_parts h hE
  unfold offerF
  rcases hr : realB ⟨n, k, 32, 32⟩ with _ | _
  · exact ⟨h, Int.le_refl _, fun _ => rfl, rfl, rfl, rfl⟩
  · rcases ho : offB r n with _ | _
    · have ho' := ho
      simp only [offB, Bool.or_eq_false_iff, decide_eq_false_iff_not, Int.not_le, Int.not_lt] at ho'
      have hr' := hr
      simp [realB] at hr'
      have h4' := h4
      simp [topB] at h4'
      refine ⟨right_of h1 h2 ?_ ?_, ?_, fun hx => absurd rfl hx, rfl, rfl, rfl⟩
      · simp only [cond_true, cond_false, pendB, hr, Bool.true_and, Bool.or_eq_true, decide_eq_true_eq]; right; exact ho'.2.1
      · simp only [cond_true, cond_false, topB, Bool.and_eq_true, decide_eq_true_eq]
        split <;> (refine ⟨?_, ?_, ?_⟩ <;> omega)
      · simp only [cond_true, cond_false]; split <;> omega
    · exact ⟨h, Int.le_refl _, fun _ => rfl, rfl, rfl, rfl⟩
theorem with_right {r : Rg} (h : r.right = true) (hE : r.empty = false) : (withF r).right = true := by
  obtain ⟨h1, h2, h3, h4⟩ := right_parts h hE
  have h4' := h4
  simp [topB] at h4'
  have h1' := h1
  simp [realB] at h1'
  refine right_of h1 h2 ?_ ?_
  · show pendB r.c G0 = true; simp [pendB, none0]
  · show topB r.c G0 r.t = true; simp [topB]; omega

/-- what follows of a step -/
structure StepSaid (r : Rg) (ticks q : Int) (X : Rg) (ok : Bool) (ticks2 : Int) : Prop where
  good : GoodR X ticks2
  stay : ok = false → X = r
  cur : r.c.no ≤ X.c.no
  top : r.t ≤ X.t
  turned : ((q == 2) && ok) = decide (r.c.no < X.c.no)
  put : ((q == 2) && ok) = true → X.c.no = r.p.no ∧ X.o = r.c
  keep : decide (0 < X.o.no) = decide (ticks2 < 16)
  one : 1 ≤ X.c.no
theorem good_keep {r : Rg} {ticks : Int} (h : GoodR r ticks) : decide (0 < r.o.no) = decide (ticks < 16) ∧ 1 ≤ r.c.no := by
  obtain ⟨h1, h2, h3, h4⟩ := right_parts h.right h.full
  have h1' := h1
  simp [realB] at h1'
  refine ⟨?_, h1'.1⟩
  rcases h.old with ⟨ho, ht⟩ | ⟨ho, hl⟩
  · have ho' := ho
    simp [noneB] at ho'
    have : ¬ ticks < 16 := by omega
    simp [ho'.1, this]
  · have h2' := h2
    simp [oldB, ho, realB] at h2'
    have : ticks < 16 := by omega
    have h0 : 0 < r.o.no := by omega
    simp [this, h0]
theorem step_said {r : Rg} {ticks q : Int} {X : Rg} {ok : Bool} (h : GoodR r ticks) (hs : StepRel r q X ok) :
    StepSaid r ticks q X ok (if q = 4 then (if ((q == 2) && ok) = true then 0 else ticks) + 1 else (if ((q == 2) && ok) = true then 0 else ticks)) := by
  obtain ⟨h1, h2, h3, h4⟩ := right_parts h.right h.full
  have hk := good_keep h
  rcases hs with ⟨rfl, rfl, hp, rfl⟩ | ⟨rfl, rfl, rfl⟩ | ⟨hq4, hq2, hc, ho, hl, hr, ht, hok⟩
  · have h3' := h3
    simp only [pendB, hp, Bool.false_or, Bool.and_eq_true, decide_eq_true_eq] at h3'
    have h4' := h4
    simp [topB] at h4'
    have hg : GoodR ⟨r.p, r.c, G0, 16, r.t⟩ 0 := by
      refine ⟨right_of h3'.1 ?_ ?_ ?_, full_of h3'.1, by omega, .inr ⟨real_none h1, rfl⟩⟩
      · simp only [oldB, real_none h1, cond_false, h1, Bool.true_and, Bool.and_eq_true, decide_eq_true_eq]; exact ⟨h3'.2, by decide, by decide⟩
      · simp [pendB, none0]
      · simp [topB]; omega
    have hk2 := good_keep hg
    have e : (if (2 : Int) = 4 then (if (((2 : Int) == 2) && true) = true then (0 : Int) else ticks) + 1 else (if (((2 : Int) == 2) && true) = true then 0 else ticks)) = 0 := by simp
    rw [e]
    exact ⟨hg, (fun hh => by cases hh), by simp only; omega, Int.le_refl _, by simp [h3'.2], fun _ => ⟨rfl, rfl⟩, hk2.1, hk2.2⟩
  · have e : (if (4 : Int) = 4 then (if (((4 : Int) == 2) && true) = true then (0 : Int) else ticks) + 1 else (if (((4 : Int) == 2) && true) = true then 0 else ticks)) = ticks + 1 := by simp
    rw [e]
    have hX : (tickF r).c = r.c ∧ (tickF r).t = r.t ∧ (tickF r).p = r.p := by unfold tickF; rcases decide (1 < r.l) with _ | _ <;> exact ⟨rfl, rfl, rfl⟩
    have hg : GoodR (tickF r) (ticks + 1) := by
      have hpos := h.pos
      rcases hd : decide (1 < r.l) with _ | _
      · have hl1 : ¬ 1 < r.l := by simpa using hd
        have hX2 : tickF r = ⟨r.c, G0, r.p, 0, r.t⟩ := by simp [tickF, hl1]
        rw [hX2]
        refine ⟨right_of h1 (by simp [oldB, none0]) h3 h4, full_of h1, by omega, .inl ⟨none0, ?_⟩⟩
        rcases h.old with ⟨_, h5⟩ | ⟨_, h5⟩ <;> omega
      · have hl1 : 1 < r.l := by simpa using hd
        have hX2 : tickF r = ⟨r.c, r.o, r.p, r.l - 1, r.t⟩ := by simp [tickF, hl1]
        rw [hX2]
        have hno : noneB r.o = false := by
          rcases hn : noneB r.o with _ | _
          · rfl
          · simp [oldB, hn] at h2; omega
        have h2' := h2
        simp only [oldB, hno, cond_false, Bool.and_eq_true, decide_eq_true_eq] at h2'
        refine ⟨right_of h1 ?_ h3 h4, full_of h1, by omega, .inr ⟨hno, ?_⟩⟩
        · simp only [oldB, hno, cond_false, Bool.and_eq_true, decide_eq_true_eq]; exact ⟨h2'.1, h2'.2.1, by omega, by omega⟩
        · rcases h.old with ⟨h5, _⟩ | ⟨_, h5⟩
          · rw [hno] at h5; cases h5
          · simp only; omega
    have hk2 := good_keep hg
    exact ⟨hg, (fun hh => by cases hh), by rw [hX.1]; exact Int.le_refl _, by rw [hX.2.1]; exact Int.le_refl _, by rw [hX.1]; simp, (fun hh => by simp at hh), hk2.1, hk2.2⟩
  · have ht2 : ((q == 2) && ok) = false := by
      rcases hok2 : ok with _ | _
      · simp
      · have : q ≠ 2 := fun hh => by have := hq2 hh; rw [hok2] at this; cases this
        simp [this]
    have e : (if q = 4 then (if ((q == 2) && ok) = true then (0 : Int) else ticks) + 1 else (if ((q == 2) && ok) = true then 0 else ticks)) = ticks := by simp [hq4, ht2]
    rw [e]
    have hg : GoodR X ticks := ⟨hr, by apply full_of; rw [hc]; exact h1, h.pos, by rw [ho, hl]; exact h.old⟩
    have hk2 := good_keep hg
    exact ⟨hg, hok, by rw [hc]; exact Int.le_refl _, ht, by rw [ht2, hc]; simp, fun hh => by (rw [ht2] at hh; cases hh), hk2.1, hk2.2⟩

/-- what the law's step answers -/
def DoneOut (w : World) (r : Rg) (q : Int) (e : Ending) (w' : World) : Prop := ∃ X ok, e = .returned (.tuple #[X.v, .bool ok]) ∧ (∃ a b c, RgAt w' X a b c) ∧ Below w.heap.size w w' ∧ StepRel r q X ok
theorem done_any (r : Rg) (ticks kind no : Int) (f : UInt8) (kc ko kp : List UInt8) (w : World) (hg : GoodR r ticks) (hr : RgAt w r kc ko kp) (h0 : 0 ≤ kind) (h1 : kind ≤ 255) :
    Calls Try.prog 30 #[r.v, .agg #[.int .u8 kind, .int .i64 no, .int .u8 (bv f)]] w (DoneOut w r (kind % 5)) := by
  have hf := right_facts hg.right
  have h5 : kind % 5 = 0 ∨ kind % 5 = 1 ∨ kind % 5 = 2 ∨ kind % 5 = 3 ∨ kind % 5 = 4 := by omega
  have hoff : ∀ (n : Int) (b : Nat) (w' : World), BytesAt w' (some ⟨b, 0, none⟩) (List.replicate 32 f) → Below w.heap.size w w' → ∃ x y z, RgAt w' (offerF r ⟨n, some ⟨b, 0, none⟩, 32, 32⟩).1 x y z := fun n b w' hk hb =>
    offer_at (g := ⟨n, some ⟨b, 0, none⟩, 32, 32⟩) (hr.mono hb) (by simp) hk
  have hx : ∀ (n : Int) (k j : Option Addr), (offerF r ⟨n, k, 32, 32⟩).2 = (offerF r ⟨n, j, 32, 32⟩).2 := fun n k j => by
    have e : realB ⟨n, k, 32, 32⟩ = realB ⟨n, j, 32, 32⟩ := rfl
    unfold offerF
    rw [e]
    rcases realB ⟨n, j, 32, 32⟩ with _ | _
    · rfl
    · rcases offB r n with _ | _ <;> rfl
  rcases h5 with hq | hq | hq | hq | hq
  · rw [hq]
    rcases hn : nextF r with ⟨n, x⟩
    by_cases hx0 : x = 0
    · subst hx0
      refine (done0 r kind no f w h0 h1 hq n (fun W => by have := next_any r W hf.2.2.1 hf.2.2.2.1; rwa [hn] at this) (fun k => (offerF r ⟨n, k, 32, 32⟩).1) (offerF r ⟨n, none, 32, 32⟩).2 (fun k W => by rw [hx n none k]; exact offer_any r ⟨n, k, 32, 32⟩ W)).mono fun e w' ⟨b, he, hk, hb⟩ => ?_
      obtain ⟨g1, g2, g3, g4, g5, g6⟩ := offer_right (n := n) (k := some ⟨b, 0, none⟩) hg.right hg.full
      exact ⟨_, _, he, hoff n b w' hk hb, hb, .inr (.inr ⟨by decide, fun hh => absurd hh (by decide), g4, g5, g6, g1, g2, fun hh => g3 (by rw [hx n _ none]; simpa using hh)⟩)⟩
    · refine (done0_no r kind no f w h0 h1 hq n x hx0 (fun W => by have := next_any r W hf.2.2.1 hf.2.2.2.1; rwa [hn] at this)).mono fun e w' ⟨he, hb⟩ => ?_
      exact ⟨r, false, he, ⟨_, _, _, hr.mono hb⟩, hb, .inr (.inr ⟨by decide, by decide, rfl, rfl, rfl, hg.right, Int.le_refl _, fun _ => rfl⟩)⟩
  · rw [hq]
    refine (done1 r kind no f w h0 h1 hq (fun k => (offerF r ⟨no, k, 32, 32⟩).1) (offerF r ⟨no, none, 32, 32⟩).2 (fun k W => by rw [hx no none k]; exact offer_any r ⟨no, k, 32, 32⟩ W)).mono fun e w' ⟨b, he, hk, hb⟩ => ?_
    obtain ⟨g1, g2, g3, g4, g5, g6⟩ := offer_right (n := no) (k := some ⟨b, 0, none⟩) hg.right hg.full
    exact ⟨_, _, he, hoff no b w' hk hb, hb, .inr (.inr ⟨by decide, fun hh => absurd hh (by decide), g4, g5, g6, g1, g2, fun hh => g3 (by rw [hx no _ none]; simpa using hh)⟩)⟩
  · rw [hq]
    refine (done2 r kind no f w h0 h1 hq (turnF r).1 (turnF r).2 (fun W => turn_any r W)).mono fun e w' ⟨he, hb⟩ => ?_
    refine ⟨_, _, he, turn_at (hr.mono hb), hb, ?_⟩
    rcases hp : noneB r.p with _ | _
    · exact .inl ⟨rfl, by simp [turnF, hp], hp, by simp [turnF, hp]⟩
    · have hX : turnF r = (r, 9) := by simp [turnF, hp]
      rw [hX]
      exact .inr (.inr ⟨by decide, fun _ => rfl, rfl, rfl, rfl, hg.right, Int.le_refl _, fun _ => rfl⟩)
  · rw [hq]
    refine (done3 r kind no f w h0 h1 hq (withF r) (fun W => with_any r W)).mono fun e w' ⟨he, hb⟩ => ?_
    exact ⟨_, _, he, with_at (hr.mono hb), hb, .inr (.inr ⟨by decide, by decide, rfl, rfl, rfl, with_right hg.right hg.full, Int.le_refl _, fun hh => by cases hh⟩)⟩
  · rw [hq]
    refine (done4 r kind no f w h0 h1 hq (tickF r) (fun W => tick_any r W hf.1 hf.2.1)).mono fun e w' ⟨he, hb⟩ => ?_
    exact ⟨_, _, he, tick_at (hr.mono hb), hb, .inr (.inl ⟨rfl, rfl, rfl⟩)⟩
end Go.Proofs.Ytelndpphbpandaa
