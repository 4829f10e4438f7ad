/- Frames: rows that are the same, how long rows are, and what frames take. -/
import Derived.Test.YtcccgjpmfbmplaaFrI
set_option linter.unusedSimpArgs false
set_option linter.unusedVariables false
namespace Go.Proofs.Ytcccgjpmfbmplaa
open Go.RowKit

/-- how many bytes frames take -/
def packedF (rows : List (List UInt8)) : Nat := (rows.map fun r => r.length + 2).sum
theorem packedF_snoc (rows : List (List UInt8)) (k : Nat) (h : k < rows.length) : packedF (rows.take (k + 1)) = packedF (rows.take k) + ((rows.getD k []).length + 2) := by
  rw [take_snoc rows k h []]
  simp [packedF]

/-- a feed whose bytes may wait -/
def fits (s : Fd) : Prop := 0 ≤ s.skip ∧ (s.skip = 0 ∨ s.buf = []) ∧ waits s.buf
theorem wrap_more (b : Int) (k j : Nat) : wrap64 (wrap64 (b + k) + j) = wrap64 (b + (k + j : Nat)) := by unfold wrap64; omega
/-- what is counted of one byte -/
theorem one_counts {s : Fd} (h : fits s) (c : UInt8) : ∃ k m p : Nat, (oneF s c).1.bad = (if k = 0 then s.bad else wrap64 (s.bad + k)) ∧ k ≤ 1 ∧ s.buf.length + 1 = packedF (got (oneF s c).2) + (oneF s c).1.buf.length + (2 * k + p) ∧ (p : Int) = s.skip - (oneF s c).1.skip + m ∧ (k = 0 → m = 0) ∧ fits (oneF s c).1 ∧ ∀ r ∈ got (oneF s c).2, 1 ≤ r.length ∧ r.length ≤ 1024 := by
  obtain ⟨h1, h2, h3⟩ := h
  unfold oneF
  by_cases c1 : 0 < s.skip
  · rw [if_pos c1]
    have : s.buf = [] := h2.resolve_left (by omega)
    exact ⟨0, 0, 1, rfl, by omega, by simp [got, packedF], by simp; omega, fun _ => rfl, ⟨by simp only; omega, .inr this, h3⟩, by simp [got]⟩
  · rw [if_neg c1]
    have h0 : s.skip = 0 := by omega
    by_cases c2 : s.buf.length + 1 < 2
    · rw [if_pos c2]
      exact ⟨0, 0, 0, rfl, by omega, by simp [got, packedF], by simp, fun _ => rfl, ⟨h1, .inl h0, fun h => by simp at h; omega⟩, by simp [got]⟩
    · rw [if_neg c2]
      have hw : 2 ≤ s.buf.length → toldL (s.buf ++ [c]) = toldL s.buf := told_app s.buf [c]
      by_cases c3 : toldL (s.buf ++ [c]) = 0 ∨ 1024 < toldL (s.buf ++ [c])
      · rw [if_pos c3]
        have hl : s.buf.length = 1 := by
          by_cases h5 : 2 ≤ s.buf.length
          · have := h3 h5; have := hw h5; omega
          · omega
        exact ⟨1, toldL (s.buf ++ [c]), 0, by simp [more_eq], by omega, by simp [got, packedF, hl], by simp only; omega, fun h => absurd h (by decide), ⟨by simp only; omega, .inr rfl, fun h => by simp at h⟩, by simp [got]⟩
      · rw [if_neg c3]
        by_cases c4 : s.buf.length + 1 < toldL (s.buf ++ [c]) + 2
        · rw [if_pos c4]
          exact ⟨0, 0, 0, rfl, by omega, by simp [got, packedF], by simp, fun _ => rfl, ⟨h1, .inl h0, fun _ => ⟨by simp only; omega, by simp only; omega, by simp only [List.length_append, List.length_singleton]; omega⟩⟩, by simp [got]⟩
        · rw [if_neg c4]
          have h5 : 2 ≤ s.buf.length := by omega
          have h6 := h3 h5
          have h7 := hw h5
          have hne : (s.buf ++ [c]).drop 2 ≠ [] := by
            intro h
            have := congrArg List.length h
            simp only [List.length_drop, List.length_append, List.length_singleton, List.length_nil] at this
            omega
          have hgot : got ((s.buf ++ [c]).drop 2) = [(s.buf ++ [c]).drop 2] := by unfold got; rw [if_neg hne]
          simp only [hgot]
          exact ⟨0, 0, 0, rfl, by omega, by simp [packedF]; omega, by simp; omega, fun _ => rfl, ⟨by simp, .inl rfl, fun h => by simp at h⟩, by simp; omega⟩
theorem run_counts (l : List UInt8) : ∀ s : Fd, fits s → ∃ k m p : Nat, (runF s l).1.bad = (if k = 0 then s.bad else wrap64 (s.bad + k)) ∧ k ≤ l.length ∧ s.buf.length + l.length = packedF (runF s l).2 + (runF s l).1.buf.length + (2 * k + p) ∧ (p : Int) = s.skip - (runF s l).1.skip + m ∧ (k = 0 → m = 0) ∧ ∀ r ∈ (runF s l).2, 1 ≤ r.length ∧ r.length ≤ 1024 := by
  induction l with
  | nil => intro s _; exact ⟨0, 0, 0, rfl, by simp, by simp [runF, packedF], by simp [runF], fun _ => rfl, by simp [runF]⟩
  | cons c t ih =>
    intro s h
    obtain ⟨k1, m1, p1, a1, a2, a3, a4, a5, a6, a7⟩ := one_counts h c
    obtain ⟨k2, m2, p2, b1, b2, b3, b4, b5, b6⟩ := ih (oneF s c).1 a6
    refine ⟨k1 + k2, m1 + m2, p1 + p2, ?_, ?_, ?_, ?_, ?_, ?_⟩
    · simp only [runF]
      rw [b1, a1]
      by_cases h1 : k1 = 0
      · subst h1; simp
      · by_cases h2 : k2 = 0
        · subst h2; simp
        · rw [if_neg h1, if_neg h2, if_neg (by omega), wrap_more]
    · simp only [List.length_cons]; omega
    · simp only [runF, List.length_cons]
      have : packedF (got (oneF s c).2 ++ (runF (oneF s c).1 t).2) = packedF (got (oneF s c).2) + packedF (runF (oneF s c).1 t).2 := by simp [packedF]
      rw [this]; omega
    · simp only [runF]; omega
    · intro h; rw [a5 (by omega), b5 (by omega)]
    · simp only [runF]
      intro r hr
      rcases List.mem_append.1 hr with hr | hr
      · exact a7 r hr
      · exact b6 r hr
theorem right_fits {s : Fd} (h : rightF s = true) : fits s := by
  obtain ⟨h1, h2, h3, h4⟩ := (right_of_iff s).1 h
  exact ⟨h1, h3, h4⟩
end Go.Proofs.Ytcccgjpmfbmplaa
