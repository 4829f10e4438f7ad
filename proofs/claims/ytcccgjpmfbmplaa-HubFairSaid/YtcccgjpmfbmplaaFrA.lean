/- Frames in a stream: what is computed, in plain Lean. No program in sight. -/
import Derived.Test.YtcccgjpmfbmplaaBuf
set_option linter.unusedSimpArgs false
set_option linter.unusedVariables false
namespace Go.Proofs.Ytcccgjpmfbmplaa
open Go.RowKit

/-- a feed: bytes that make no frame yet, what is to be passed over, how many frames were none -/
structure Fd where
  buf : List UInt8
  skip : Int
  bad : Int
/-- the number that a frame begins with -/
def toldL (b : List UInt8) : Nat := 256 * (b.getD 0 0).toNat + (b.getD 1 0).toNat
/-- one count more -/
def more (n : Int) : Int := IntKind.i64.wrap (n + 1)
/-- a feed behind one byte -/
def oneF (s : Fd) (c : UInt8) : Fd × List UInt8 :=
  if 0 < s.skip then (⟨s.buf, s.skip - 1, s.bad⟩, [])
  else if s.buf.length + 1 < 2 then (⟨s.buf ++ [c], s.skip, s.bad⟩, [])
  else if toldL (s.buf ++ [c]) = 0 ∨ 1024 < toldL (s.buf ++ [c]) then (⟨[], toldL (s.buf ++ [c]), more s.bad⟩, [])
  else if s.buf.length + 1 < toldL (s.buf ++ [c]) + 2 then (⟨s.buf ++ [c], s.skip, s.bad⟩, [])
  else (⟨[], 0, s.bad⟩, (s.buf ++ [c]).drop 2)
/-- a frame, if one came -/
def got (x : List UInt8) : List (List UInt8) := if x = [] then [] else [x]
/-- a feed behind some bytes, and the frames -/
def runF (s : Fd) : List UInt8 → Fd × List (List UInt8)
  | [] => (s, [])
  | c :: t => ((runF (oneF s c).1 t).1, got (oneF s c).2 ++ (runF (oneF s c).1 t).2)

theorem runF_append (s : Fd) (a b : List UInt8) : runF s (a ++ b) = ((runF (runF s a).1 b).1, (runF s a).2 ++ (runF (runF s a).1 b).2) := by
  induction a generalizing s with
  | nil => simp [runF]
  | cons c t ih => simp only [List.cons_append, runF, ih, List.append_assoc]
theorem runF_snoc (s : Fd) (a : List UInt8) (c : UInt8) : runF s (a ++ [c]) = ((oneF (runF s a).1 c).1, (runF s a).2 ++ got (oneF (runF s a).1 c).2) := by
  rw [runF_append]; simp [runF]

/-- may bytes wait? -/
def waits (b : List UInt8) : Prop := 2 ≤ b.length → 1 ≤ toldL b ∧ toldL b ≤ 1024 ∧ b.length < toldL b + 2
theorem told_app (x y : List UInt8) (h : 2 ≤ x.length) : toldL (x ++ y) = toldL x := by
  match x, h with
  | a :: b :: t, _ => simp [toldL]
theorem waits_pre {x y : List UInt8} (h : waits (x ++ y)) : waits x := by
  intro hx
  have := h (by simp; omega)
  rw [told_app x y hx] at this
  simp at this
  omega
theorem run_grow (bad : Int) (y : List UInt8) : ∀ x, waits (x ++ y) → runF ⟨x, 0, bad⟩ y = (⟨x ++ y, 0, bad⟩, []) := by
  induction y with
  | nil => intro x _; simp [runF]
  | cons c t ih =>
    intro x h
    have h1 : waits (x ++ [c]) := by
      have : x ++ c :: t = (x ++ [c]) ++ t := by simp
      rw [this] at h; exact waits_pre h
    have e : oneF ⟨x, 0, bad⟩ c = (⟨x ++ [c], 0, bad⟩, []) := by
      unfold oneF
      rw [if_neg (by simp)]
      by_cases h2 : x.length + 1 < 2
      · rw [if_pos h2]
      · rw [if_neg h2]
        have := h1 (by simp; omega)
        simp only [List.length_append, List.length_singleton] at this
        rw [if_neg (by simp only; omega), if_pos (by simp only; omega)]
    have h2 := ih (x ++ [c]) (by simpa using h)
    simp only [runF, e, h2]
    simp [got]
theorem run_wait (bad : Int) (y : List UInt8) (h : waits y) : runF ⟨[], 0, bad⟩ y = (⟨y, 0, bad⟩, []) := by
  have := run_grow bad y [] (by simpa using h)
  simpa using this
theorem run_whole (bad : Int) (x : List UInt8) (h1 : 1 ≤ toldL x) (h2 : toldL x ≤ 1024) (h3 : x.length = toldL x + 2) : runF ⟨[], 0, bad⟩ x = (⟨[], 0, bad⟩, [x.drop 2]) := by
  have hne : x ≠ [] := by intro h; subst h; simp at h3
  obtain ⟨y, c, rfl⟩ : ∃ y c, x = y ++ [c] := ⟨x.dropLast, x.getLast hne, (List.dropLast_concat_getLast hne).symm⟩
  simp only [List.length_append, List.length_singleton] at h3
  have hw : waits y := by
    intro hy
    rw [told_app y [c] hy] at h1 h2 h3
    omega
  rw [runF_snoc, run_wait bad y hw]
  have e : oneF ⟨y, 0, bad⟩ c = (⟨[], 0, bad⟩, (y ++ [c]).drop 2) := by
    unfold oneF
    rw [if_neg (by simp), if_neg (by simp only; omega), if_neg (by simp only; omega), if_neg (by simp only; omega)]
  have hd : (y ++ [c]).drop 2 ≠ [] := by
    intro h
    have := congrArg List.length h
    simp only [List.length_drop, List.length_append, List.length_singleton, List.length_nil] at this
    omega
  simp only [e, got, hd, if_false, List.nil_append]
theorem run_skip (b : List UInt8) (bad : Int) (x : List UInt8) : ∀ skip : Int, (x.length : Int) ≤ skip → runF ⟨b, skip, bad⟩ x = (⟨b, skip - x.length, bad⟩, []) := by
  induction x with
  | nil => intro skip _; simp [runF]
  | cons c t ih =>
    intro skip h
    simp only [List.length_cons] at h
    have e : oneF ⟨b, skip, bad⟩ c = (⟨b, skip - 1, bad⟩, []) := by unfold oneF; rw [if_pos (by simp only; omega)]
    have h2 := ih (skip - 1) (by omega)
    simp only [runF, e, h2, got, if_true, List.append_nil, List.length_cons]
    have : skip - 1 - (t.length : Int) = skip - ((t.length + 1 : Nat) : Int) := by omega
    rw [this]
theorem run_two (bad : Int) (a b : UInt8) (h : toldL [a, b] = 0 ∨ 1024 < toldL [a, b]) : runF ⟨[], 0, bad⟩ [a, b] = (⟨[], toldL [a, b], more bad⟩, []) := by
  have e1 : oneF ⟨[], 0, bad⟩ a = (⟨[a], 0, bad⟩, []) := by simp [oneF]
  have e2 : oneF ⟨[a], 0, bad⟩ b = (⟨[], toldL [a, b], more bad⟩, []) := by
    unfold oneF
    rw [if_neg (by simp), if_neg (by simp)]
    simp only [List.cons_append, List.nil_append]
    rw [if_pos h]
  simp [runF, e1, e2, got]

/-- behind so many bytes to pass over, from no bytes that wait -/
abbrev R (skip bad : Int) (A : List UInt8) : Fd × List (List UInt8) := runF ⟨[], skip, bad⟩ A
theorem R_skip (skip bad : Int) (A : List UInt8) (g : Nat) (h : (g : Int) ≤ skip) (hg : g ≤ A.length) : R skip bad A = R (skip - g) bad (A.drop g) := by
  have e : A = A.take g ++ A.drop g := (List.take_append_drop g A).symm
  have hl : (A.take g).length = g := by rw [List.length_take]; omega
  show runF _ A = _
  conv => lhs; rw [e]
  rw [runF_append, run_skip [] bad (A.take g) skip (by rw [hl]; exact h), hl]
  rfl
theorem R_short (skip bad : Int) (A : List UInt8) (h : A.length < 2) (hs : skip = 0 ∨ A = []) : R skip bad A = (⟨A, skip, bad⟩, []) := by
  rcases hs with rfl | rfl
  · exact run_wait bad A (fun h2 => by omega)
  · rfl
theorem R_wait (bad : Int) (A : List UInt8) (h1 : 1 ≤ toldL A) (h2 : toldL A ≤ 1024) (h3 : A.length < toldL A + 2) : R 0 bad A = (⟨A, 0, bad⟩, []) :=
  run_wait bad A fun _ => ⟨h1, h2, h3⟩
theorem R_whole (bad : Int) (A : List UInt8) (h1 : 1 ≤ toldL A) (h2 : toldL A ≤ 1024) (h3 : toldL A + 2 ≤ A.length) : R 0 bad A = ((R 0 bad (A.drop (toldL A + 2))).1, (A.drop 2).take (toldL A) :: (R 0 bad (A.drop (toldL A + 2))).2) := by
  have e : A = A.take (toldL A + 2) ++ A.drop (toldL A + 2) := (List.take_append_drop _ A).symm
  have hl : (A.take (toldL A + 2)).length = toldL A + 2 := by rw [List.length_take]; omega
  have ht : toldL (A.take (toldL A + 2)) = toldL A := by
    have := told_app (A.take (toldL A + 2)) (A.drop (toldL A + 2)) (by omega)
    rw [List.take_append_drop] at this
    exact this.symm
  have hw := run_whole bad (A.take (toldL A + 2)) (by omega) (by omega) (by omega)
  show runF _ A = _
  conv => lhs; rw [e]
  rw [runF_append, hw]
  have : (A.take (toldL A + 2)).drop 2 = (A.drop 2).take (toldL A) := by
    rw [List.drop_take]; rfl
  rw [this]
  rfl
theorem R_bad (bad : Int) (A : List UInt8) (hl : 2 ≤ A.length) (h : toldL A = 0 ∨ 1024 < toldL A) : R 0 bad A = R (toldL A + 2) (more bad) A := by
  match A, hl with
  | a :: b :: t, _ =>
    have ht : toldL (a :: b :: t) = toldL [a, b] := by simp [toldL]
    rw [ht] at h ⊢
    have e : a :: b :: t = [a, b] ++ t := rfl
    show runF _ (a :: b :: t) = runF _ (a :: b :: t)
    rw [e, runF_append, runF_append, run_two bad a b h, run_skip [] (more bad) [a, b] _ (by simp; omega)]
    simp
theorem R_over (skip bad : Int) (A : List UInt8) (h : (A.length : Int) ≤ skip) : R skip bad A = (⟨[], skip - A.length, bad⟩, []) := run_skip [] bad A skip h

/-- is a feed right? -/
def rightF (s : Fd) : Bool :=
  bif (decide (s.skip < 0) || decide (65535 < s.skip)) || (decide (0 < s.skip) && decide (0 < s.buf.length)) then false
  else bif decide (s.buf.length < 2) then true
  else decide (1 ≤ toldL s.buf) && decide (toldL s.buf ≤ 1024) && decide (s.buf.length < toldL s.buf + 2)
theorem right_of_iff (s : Fd) : rightF s = true ↔ 0 ≤ s.skip ∧ s.skip ≤ 65535 ∧ (s.skip = 0 ∨ s.buf = []) ∧ waits s.buf := by
  unfold rightF waits
  by_cases h1 : s.skip < 0
  · simp [h1]; intro h; omega
  · by_cases h2 : 65535 < s.skip
    · simp [h2]; intro _ h; omega
    · by_cases h3 : 0 < s.skip ∧ 0 < s.buf.length
      · simp [h3, h1, h2]
        intro _ _ h
        rcases h with h | h
        · omega
        · rw [h] at h3; simp at h3
      · have h3' : s.skip = 0 ∨ s.buf = [] := by
          by_cases h4 : 0 < s.skip
          · right; exact List.eq_nil_of_length_eq_zero (by omega)
          · left; omega
        have e : (decide (0 < s.skip) && decide (0 < s.buf.length)) = false := by
          rw [← Bool.decide_and]; exact decide_eq_false h3
        have e1 : decide (s.skip < 0) = false := decide_eq_false h1
        have e2 : decide (65535 < s.skip) = false := decide_eq_false h2
        simp only [e, e1, e2, Bool.or_self, cond_false]
        by_cases h5 : s.buf.length < 2
        · simp [h5, h3']; refine ⟨by omega, by omega, fun h => by omega⟩
        · simp [h5]
          constructor
          · rintro ⟨⟨a, b⟩, c⟩; exact ⟨by omega, by omega, h3', fun _ => ⟨a, b, c⟩⟩
          · rintro ⟨_, _, _, h⟩; obtain ⟨a, b, c⟩ := h (by omega); exact ⟨⟨a, b⟩, c⟩
/-- a right feed's bytes are as if they came now -/
theorem run_right {s : Fd} (h : rightF s = true) (b : List UInt8) : runF s b = R s.skip s.bad (s.buf ++ b) := by
  obtain ⟨h1, h2, h3, h4⟩ := (right_of_iff s).1 h
  obtain ⟨buf, skip, bad⟩ := s
  rcases h3 with h3 | h3
  · simp only at h3; subst h3
    show _ = runF _ _
    rw [runF_append, run_wait bad buf h4]
    simp
  · simp only at h3; subst h3
    rfl
theorem told_lt (b : List UInt8) : toldL b ≤ 65535 := by
  unfold toldL
  have := (b.getD 0 0).toNat_lt
  have := (b.getD 1 0).toNat_lt
  omega
theorem one_right {s : Fd} (h : rightF s = true) (c : UInt8) : rightF (oneF s c).1 = true := by
  obtain ⟨h1, h2, h3, h4⟩ := (right_of_iff s).1 h
  rw [right_of_iff]
  unfold oneF
  by_cases h5 : 0 < s.skip
  · rw [if_pos h5]
    have : s.buf = [] := h3.resolve_left (by omega)
    exact ⟨by simp only; omega, by simp only; omega, .inr this, h4⟩
  · rw [if_neg h5]
    have h0 : s.skip = 0 := by omega
    by_cases h6 : s.buf.length + 1 < 2
    · rw [if_pos h6]; exact ⟨h1, h2, .inl h0, fun h => by simp at h; omega⟩
    · rw [if_neg h6]
      have := told_lt (s.buf ++ [c])
      by_cases h7 : toldL (s.buf ++ [c]) = 0 ∨ 1024 < toldL (s.buf ++ [c])
      · rw [if_pos h7]; exact ⟨by simp only; omega, by simp only; omega, .inr rfl, fun h => by simp at h⟩
      · rw [if_neg h7]
        by_cases h8 : s.buf.length + 1 < toldL (s.buf ++ [c]) + 2
        · rw [if_pos h8]
          refine ⟨h1, h2, .inl h0, fun _ => ?_⟩
          show 1 ≤ toldL (s.buf ++ [c]) ∧ toldL (s.buf ++ [c]) ≤ 1024 ∧ (s.buf ++ [c]).length < toldL (s.buf ++ [c]) + 2
          rw [List.length_append]
          exact ⟨by omega, by omega, h8⟩
        · rw [if_neg h8]; exact ⟨by simp, by simp, .inl rfl, fun h => by simp at h⟩
theorem run_stays {s : Fd} (h : rightF s = true) (b : List UInt8) : rightF (runF s b).1 = true := by
  induction b generalizing s with
  | nil => exact h
  | cons c t ih => exact ih (one_right h c)
end Go.Proofs.Ytcccgjpmfbmplaa
