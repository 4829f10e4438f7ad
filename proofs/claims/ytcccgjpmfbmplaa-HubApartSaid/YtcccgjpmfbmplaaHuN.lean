/- The walk of the law HubApart. -/
import Derived.Test.YtcccgjpmfbmplaaHuI
import Derived.Test.YtcccgjpmfbmplaaInH
import Derived.Test.YtcccgjpmfbmplaaHuM
import Derived.Deep.MidRow
set_option linter.unusedSimpArgs false
set_option linter.unusedVariables false
namespace Go.Proofs.Ytcccgjpmfbmplaa
open Go.RowKit

abbrev apartL (h : Hv) (c : Int) (vb : Value) (ot : Int) : List Value := [.bool (h.u 0), .bool (h.u 1), .bool (h.u 2), .bool (h.u 3), .slice (h.f 0).a (h.f 0).len (h.f 0).cap, .int .i64 (h.f 0).skip, .int .i64 (h.f 0).bad, .slice (h.f 1).a (h.f 1).len (h.f 1).cap, .int .i64 (h.f 1).skip, .int .i64 (h.f 1).bad, .slice (h.f 2).a (h.f 2).len (h.f 2).cap, .int .i64 (h.f 2).skip, .int .i64 (h.f 2).bad, .slice (h.f 3).a (h.f 3).len (h.f 3).cap, .int .i64 (h.f 3).skip, .int .i64 (h.f 3).bad, .int .i64 (h.l 0), .int .i64 (h.l 1), .int .i64 (h.l 2), .int .i64 (h.l 3), .int .i64 h.nx, .int .i64 c, vb, .int .u8 ot]
abbrev apartV (h : Hv) (c : Int) (vb : Value) (ot : Int) : Value := .agg #[.bool (h.u 0), .bool (h.u 1), .bool (h.u 2), .bool (h.u 3), .slice (h.f 0).a (h.f 0).len (h.f 0).cap, .int .i64 (h.f 0).skip, .int .i64 (h.f 0).bad, .slice (h.f 1).a (h.f 1).len (h.f 1).cap, .int .i64 (h.f 1).skip, .int .i64 (h.f 1).bad, .slice (h.f 2).a (h.f 2).len (h.f 2).cap, .int .i64 (h.f 2).skip, .int .i64 (h.f 2).bad, .slice (h.f 3).a (h.f 3).len (h.f 3).cap, .int .i64 (h.f 3).skip, .int .i64 (h.f 3).bad, .int .i64 (h.l 0), .int .i64 (h.l 1), .int .i64 (h.l 2), .int .i64 (h.l 3), .int .i64 h.nx, .int .i64 c, vb, .int .u8 ot]
theorem apart_range {w : World} {b : Nat} {h : Hv} {c ot : Int} {vb : Value} {T : TypeId} (hb : BlkT T w b (apartL h c vb ot)) : w.rangeAt b 0 h.L := fun j v hv => by
  have hj : j < 21 := by
    rcases Nat.lt_or_ge j 21 with h' | h'
    · exact h'
    · rw [List.getElem?_eq_none (by simpa using h')] at hv; cases hv
  rw [Nat.zero_add, cell_of_row w b j (apartL h c vb ot).toArray T (0, 0) hb]
  have e : apartL h c vb ot = h.L ++ [.int .i64 c, vb, .int .u8 ot] := rfl
  rw [e]
  simp only [List.getElem?_toArray]
  rw [List.getElem?_append_left (by simpa using hj)]; exact hv
theorem right_iff {h : Hv} {s : Nat → Fd} : rightH h s = true ↔ (∀ i, i < 4 → okC h s i = true) ∧ isC h.nx = true := by
  unfold rightH; rw [Bool.and_eq_true]
  constructor
  · rintro ⟨h1, h2⟩
    refine ⟨fun i hi => ?_, h2⟩
    rcases hq : okC h s i with _ | _
    · rw [c4_bad (p := okC h s) i hi hq] at h1; exact absurd h1 (by decide)
    · rfl
  · rintro ⟨h1, h2⟩
    exact ⟨c4_all h1, h2⟩
theorem turned_right {h : Hv} {s : Nat → Fd} (hr : rightH h s = true) (c : Int) (up : Bool) : rightH (turnedF h c up).1 (bif (turnedF h c up).2 == 0 then upd s c.toNat zeroD else s) = true := by
  unfold turnedF
  rcases isC c with _ | _
  · exact hr
  · rcases (h.u c.toNat == up) with _ | _
    · obtain ⟨h1, h2⟩ := right_iff.1 hr
      refine right_iff.2 ⟨fun i hi => ?_, h2⟩
      show (rightF (upd s c.toNat zeroD i) && (upd h.u c.toNat up i || sameFd (upd s c.toNat zeroD i) zeroD)) = true
      unfold upd
      by_cases hc : i = c.toNat
      · rw [if_pos hc, if_pos hc]
        have e1 : rightF zeroD = true := by kernel_rfl
        have e2 : sameFd zeroD zeroD = true := by kernel_rfl
        rw [e1, e2]; simp
      · rw [if_neg hc, if_neg hc]; exact h1 i hi
    · exact hr
theorem raise_right {h : Hv} {s : Nat → Fd} (hr : rightH h s = true) (c : Int) : rightH (raiseF h c).1 (bif (turnedF h c true).2 == 0 then upd s c.toNat zeroD else s) = true := by
  have := turned_right hr c true
  unfold raiseF
  rcases hq : ((turnedF h c true).2 == 0) with _ | _
  · rw [hq] at this; exact this
  · rw [hq] at this; exact this
theorem push_right {h : Hv} {s : Nat → Fd} (hr : rightH h s = true) (c : Int) (l : List UInt8) (g : Hv) (hu : g.u = h.u) (hn : g.nx = h.nx) : rightH g (pushS h s c l) = true := by
  obtain ⟨h1, h2⟩ := right_iff.1 hr
  refine right_iff.2 ⟨fun i hi => ?_, by rw [hn]; exact h2⟩
  unfold okC
  rw [hu]
  unfold pushS
  rcases hq : (pushE h c == 0) with _ | _
  · exact h1 i hi
  · show (rightF (upd s c.toNat (runF (s c.toNat) l).1 i) && (h.u i || sameFd (upd s c.toNat (runF (s c.toNat) l).1 i) zeroD)) = true
    unfold upd
    by_cases hc : i = c.toNat
    · rw [if_pos hc]
      have hu2 : h.u c.toNat = true := by
        rcases hv : h.u c.toNat with _ | _
        · have e := beq_iff_eq.1 hq
          unfold pushE at e
          rw [hv] at e
          rcases hw : isC c with _ | _
          · rw [hw] at e; exact absurd (show (1 : Int) = 0 from e) (by decide)
          · rw [hw] at e; exact absurd (show (11 : Int) = 0 from e) (by decide)
        · rfl
      rw [hc, hu2, run_stays (right_feed hr c.toNat (by omega))]; rfl
    · rw [if_neg hc]; exact h1 i hi
theorem three_ways (h : Hv) (c : Int) : (isC c = false ∧ raiseF h c = (h, 1) ∧ cutF h c = (h, 1) ∧ pushE h c = 1) ∨ (isC c = true ∧ h.u c.toNat = true ∧ raiseF h c = (h, 9) ∧ (cutF h c).2 = 0 ∧ pushE h c = 0) ∨ (isC c = true ∧ h.u c.toNat = false ∧ (raiseF h c).2 = 0 ∧ cutF h c = (h, 9) ∧ pushE h c = 11) := by
  unfold raiseF cutF turnedF pushE
  rcases hc : isC c with _ | _
  · exact .inl ⟨rfl, rfl, rfl, rfl⟩
  · rcases hu : h.u c.toNat with _ | _
    · exact .inr (.inr ⟨rfl, rfl, rfl, rfl, rfl⟩)
    · exact .inr (.inl ⟨rfl, rfl, rfl, rfl, rfl⟩)
theorem turned_else (h : Hv) (c : Int) (up : Bool) (i : Nat) (hi : (i : Int) ≠ c) : (turnedF h c up).1.u i = h.u i ∧ (turnedF h c up).1.l i = h.l i ∧ (turnedF h c up).1.nx = h.nx ∧ ∀ s : Nat → Fd, (bif (turnedF h c up).2 == 0 then upd s c.toNat zeroD else s) i = s i := by
  unfold turnedF
  rcases hc : isC c with _ | _
  · exact ⟨rfl, rfl, rfl, fun _ => rfl⟩
  · have hne : i ≠ c.toNat := by
      have := isC_four hc
      omega
    rcases (h.u c.toNat == up) with _ | _
    · exact ⟨if_neg hne, rfl, rfl, fun _ => if_neg hne⟩
    · exact ⟨rfl, rfl, rfl, fun _ => rfl⟩
theorem raise_else (h : Hv) (c : Int) (i : Nat) (hi : (i : Int) ≠ c) : (raiseF h c).1.u i = h.u i ∧ (raiseF h c).1.l i = h.l i ∧ (raiseF h c).1.nx = h.nx ∧ ∀ s : Nat → Fd, (bif (turnedF h c true).2 == 0 then upd s c.toNat zeroD else s) i = s i := by
  have ht := turned_else h c true i hi
  unfold raiseF
  rcases hq : ((turnedF h c true).2 == 0) with _ | _
  · rw [hq] at ht; exact ht
  · rw [hq] at ht
    have hne : i ≠ c.toNat := by
      rcases turned_two h c true with ⟨hc, _⟩ | h0
      · have := isC_four hc; omega
      · rw [h0] at hq; cases hq
    exact ⟨ht.1, (if_neg hne : upd (turnedF h c true).1.l c.toNat _ i = _).trans ht.2.1, ht.2.2.1, ht.2.2.2⟩
theorem push_else (h : Hv) (s : Nat → Fd) (c : Int) (l : List UInt8) (i : Nat) (hi : (i : Int) ≠ c) : pushS h s c l i = s i := by
  unfold pushS
  rcases hq : (pushE h c == 0) with _ | _
  · rfl
  · have hne : i ≠ c.toNat := by
      rcases hc : isC c with _ | _
      · have e := beq_iff_eq.1 hq
        unfold pushE at e; rw [hc] at e; exact absurd (show (1 : Int) = 0 from e) (by decide)
      · have := isC_four hc; omega
    exact if_neg hne
theorem isC_of {K : Nat} (hK : K < 4) : isC (K : Int) = true := by unfold isC; simp; omega
theorem sameFd_refl (s : Fd) : sameFd s s = true := by simp [sameFd]
end Go.Proofs.Ytcccgjpmfbmplaa
