/- Hubs: Raise, Cut, Any, of the program and of the document; few bytes. -/
import Derived.Test.YtcccgjpmfbmplaaHuA
import Derived.Test.YtcccgjpmfbmplaaFrI
set_option linter.unusedSimpArgs false
set_option linter.unusedVariables false
namespace Go.Proofs.Ytcccgjpmfbmplaa
open Go.RowKit

def raiseF (h : Hv) (c : Int) : Hv × Int := bif (turnedF h c true).2 == 0 then ((turnedF h c true).1.live c.toNat, 0) else turnedF h c true
def cutF (h : Hv) (c : Int) : Hv × Int := turnedF h c false
theorem turned_two (h : Hv) (c : Int) (up : Bool) : (isC c = true ∧ (turnedF h c up).2 = 0) ∨ ((turnedF h c up).2 == 0) = false := by
  unfold turnedF
  rcases isC c with _ | _
  · exact .inr rfl
  · rcases (h.u c.toNat == up) with _ | _
    · exact .inl ⟨rfl, rfl⟩
    · exact .inr rfl
def anyH (h : Hv) : Bool := h.u 0 || (h.u 1 || (h.u 2 || h.u 3))

set_option maxRecDepth 100000 in
set_option maxHeartbeats 2000000 in
theorem raise_any (h : Hv) (c : Int) (w : World) : Calls Try.prog 18 #[h.v, .int .i64 c] w (HubOut w (raiseF h c)) := by
  obtain ⟨V, hV⟩ : ∃ V, V = raiseF h c := ⟨_, rfl⟩
  rw [← hV]
  have HV := Lib.hid hV
  clear hV
  have HI := Lib.hid hub_size
  have Ht := Lib.hid (fun W => turned_any h c true W)
  obtain ⟨p, hp⟩ : ∃ p, p = turnedF h c true := ⟨_, rfl⟩
  rcases turned_two h c true with ⟨hc, h0⟩ | h0
  · have HV2 := Lib.hid (show V = (p.1.live c.toNat, 0) by rw [HV.out, hp]; unfold raiseF; rw [h0]; rfl)
    rw [← hp] at h0 Ht
    clear HV hp
    obtain ⟨q, e0⟩ := p
    simp only at h0
    subst h0
    have hc4 := isC_four hc
    clear hc
    rcases hc4 with rfl | rfl | rfl | rfl
    all_goals
      go_enter Try.func18, Try.ntmps18
      go_upto_region 1 with (fail)
      generalize hW : World.alloc (World.alloc w _) _ = W
      obtain ⟨hB1, hB2, hB3⟩ : BlkT 29 W w.heap.size h.L ∧ BlkT 29 W (w.heap.size + 1) zeroH.L ∧ Below w.heap.size w W := by rw [← hW]; exact hub_two w h.L zeroH.L
      clear hW
      have B1 := Lib.hid hB1
      have B2 := Lib.hid hB2
      have B3 := Lib.hid hB3
      have B4 := Lib.hid (show w.heap.size ≤ w.heap.size + 1 by omega)
      have B5 := Lib.hid (show w.heap.size + 1 ≠ w.heap.size by omega)
      clear hB1 hB2 hB3
      generalize w.heap.size + 1 = b2 at B2 B4 B5 ⊢
      obtain ⟨u0, u1, u2, u3⟩ := hub_u B1.out.blk
      go_wp2_with (first
        | (refine wpList_load_blk 29 (.tmp 2) w.heap.size (cs := h.L) rfl rfl rfl B1.out.blk Try.underlying29 rfl HI.out ?_))
      refine (Ht.out _).mono ?_; rintro e w1 ⟨rfl, hb1⟩
      have C1 := Lib.hid (B1.out.up hb1)
      have C2 := Lib.hid (B2.out.up hb1)
      have C3 := Lib.hid (bt B3.out hb1)
      clear hb1 u0 u1 u2 u3
      go_upto_region 3 with (first
        | (refine wpList_store_blk 29 (.tmp 2) (.tmp 11) w.heap.size (old := h.L) (cs := q.L) rfl rfl rfl rfl C1.out.blk HI.out rfl rfl ?_))
      generalize hW2 : World.setRow w1 _ _ = W2
      have D1 := Lib.hid (show BlkT 29 W2 w.heap.size q.L by rw [← hW2]; exact C1.out.row q.L)
      have D2 := Lib.hid (show BlkT 29 W2 b2 zeroH.L by rw [← hW2]; exact C2.out.rowOther _ B5.out _)
      have D3 := Lib.hid (show Below w.heap.size w W2 by rw [← hW2]; exact below_setRow C3.out (Nat.le_refl _) _)
      clear hW2 C1 C2 C3
      obtain ⟨l0, l1, l2, l3, -⟩ := hub_l D1.out.blk
      have m0 := more_eq (q.l 0)
      have m1 := more_eq (q.l 1)
      have m2 := more_eq (q.l 2)
      have m3 := more_eq (q.l 3)
      have fz := D1.out.blk.frozen
      go_upto_region 4 with (fail)
      generalize hW3 : World.setCell W2 _ _ = W3
      obtain ⟨hB1, hB2, hB3⟩ : BlkT 29 W3 w.heap.size V.1.L ∧ BlkT 29 W3 b2 zeroH.L ∧ Below w.heap.size w W3 := by
        rw [HV2.out, ← hW3]
        exact ⟨D1.out.set _ _, D2.out.other B5.out _, D3.out.setCell (Nat.le_refl _) _⟩
      have E1 := Lib.hid hB1
      have E2 := Lib.hid hB2
      have E3 := Lib.hid hB3
      clear hB1 hB2 hB3 hW3 D1 D2 D3 l0 l1 l2 l3 fz m0 m1 m2 m3
      go_wp2_with (first
        | (refine wpList_load_blk 29 (.tmp 2) w.heap.size (cs := V.1.L) rfl rfl rfl E1.out.blk Try.underlying29 rfl HI.out ?_)
        | (refine wpList_store_blk 29 (.tmp 4) (.tmp 22) b2 (old := zeroH.L) (cs := V.1.L) rfl rfl rfl rfl E2.out.blk HI.out rfl rfl ?_))
      refine bodyPost_ret (results_blk_tmp rfl _ _ b2 (cs := V.1.L) rfl _ rfl ((E2.out.row V.1.L).blk) Try.underlying29 rfl hub_size) rfl ?_
      exact ⟨by rw [show V.2 = 0 by rw [HV2.out]]; rfl, below_setRow E3.out B4.out _⟩
  · have HV2 := Lib.hid (show V = p by rw [HV.out, hp]; unfold raiseF; rw [h0]; rfl)
    rw [← hp] at h0 Ht
    clear HV hp
    obtain ⟨q, e0⟩ := p
    simp only at h0
    go_enter Try.func18, Try.ntmps18
    go_upto_region 1 with (fail)
    generalize hW : World.alloc (World.alloc w _) _ = W
    obtain ⟨hB1, hB2, hB3⟩ : BlkT 29 W w.heap.size h.L ∧ BlkT 29 W (w.heap.size + 1) zeroH.L ∧ Below w.heap.size w W := by rw [← hW]; exact hub_two w h.L zeroH.L
    clear hW
    have B1 := Lib.hid hB1
    have B2 := Lib.hid hB2
    have B3 := Lib.hid hB3
    have B4 := Lib.hid (show w.heap.size ≤ w.heap.size + 1 by omega)
    have B5 := Lib.hid (show w.heap.size + 1 ≠ w.heap.size by omega)
    clear hB1 hB2 hB3
    generalize w.heap.size + 1 = b2 at B2 B4 B5 ⊢
    go_wp2_with (first
      | (refine wpList_load_blk 29 (.tmp 2) w.heap.size (cs := h.L) rfl rfl rfl B1.out.blk Try.underlying29 rfl HI.out ?_))
    refine (Ht.out _).mono ?_; rintro e w1 ⟨rfl, hb1⟩
    have C1 := Lib.hid (B1.out.up hb1)
    have C2 := Lib.hid (B2.out.up hb1)
    have C3 := Lib.hid (bt B3.out hb1)
    clear hb1
    go_upto_region 4 with (first
      | (refine wpList_store_blk 29 (.tmp 2) (.tmp 11) w.heap.size (old := h.L) (cs := q.L) rfl rfl rfl rfl C1.out.blk HI.out rfl rfl ?_))
    generalize hW2 : World.setRow w1 _ _ = W2
    have D1 := Lib.hid (show BlkT 29 W2 w.heap.size q.L by rw [← hW2]; exact C1.out.row q.L)
    have D2 := Lib.hid (show BlkT 29 W2 b2 zeroH.L by rw [← hW2]; exact C2.out.rowOther _ B5.out _)
    have D3 := Lib.hid (show Below w.heap.size w W2 by rw [← hW2]; exact below_setRow C3.out (Nat.le_refl _) _)
    clear hW2 C1 C2 C3
    go_wp2_with (first
      | (refine wpList_load_blk 29 (.tmp 2) w.heap.size (cs := q.L) rfl rfl rfl D1.out.blk Try.underlying29 rfl HI.out ?_)
      | (refine wpList_store_blk 29 (.tmp 4) (.tmp 22) b2 (old := zeroH.L) (cs := q.L) rfl rfl rfl rfl D2.out.blk HI.out rfl rfl ?_))
    refine bodyPost_ret (results_blk_tmp rfl _ _ b2 (cs := q.L) rfl _ rfl ((D2.out.row q.L).blk) Try.underlying29 rfl hub_size) rfl ?_
    exact ⟨by rw [HV2.out]; rfl, below_setRow D3.out B4.out _⟩

set_option maxRecDepth 100000 in
set_option maxHeartbeats 2000000 in
theorem cut_any (h : Hv) (c : Int) (w : World) : Calls Try.prog 20 #[h.v, .int .i64 c] w (HubOut w (cutF h c)) := by
  have HI := Lib.hid hub_size
  have Ht := Lib.hid (fun W => turned_any h c false W)
  obtain ⟨p, hp⟩ : ∃ p, p = turnedF h c false := ⟨_, rfl⟩
  have HV2 := Lib.hid (show cutF h c = p from hp.symm)
  rw [← hp] at Ht
  clear hp
  obtain ⟨q, e0⟩ := p
  go_enter Try.func20, Try.ntmps20
  go_upto_region 1 with (fail)
  generalize hW : World.alloc (World.alloc w _) _ = W
  obtain ⟨hB1, hB2, hB3⟩ : BlkT 29 W w.heap.size h.L ∧ BlkT 29 W (w.heap.size + 1) zeroH.L ∧ Below w.heap.size w W := by rw [← hW]; exact hub_two w h.L zeroH.L
  clear hW
  have B1 := Lib.hid hB1
  have B2 := Lib.hid hB2
  have B3 := Lib.hid hB3
  have B4 := Lib.hid (show w.heap.size ≤ w.heap.size + 1 by omega)
  have B5 := Lib.hid (show w.heap.size + 1 ≠ w.heap.size by omega)
  clear hB1 hB2 hB3
  generalize w.heap.size + 1 = b2 at B2 B4 B5 ⊢
  go_wp2_with (first
    | (refine wpList_load_blk 29 (.tmp 2) w.heap.size (cs := h.L) rfl rfl rfl B1.out.blk Try.underlying29 rfl HI.out ?_))
  refine (Ht.out _).mono ?_; rintro e w1 ⟨rfl, hb1⟩
  have C2 := Lib.hid (B2.out.up hb1)
  have C3 := Lib.hid (bt B3.out hb1)
  clear hb1
  go_wp2_with (first
    | (refine wpList_store_blk 29 (.tmp 4) (.tmp 9) b2 (old := zeroH.L) (cs := q.L) rfl rfl rfl rfl C2.out.blk HI.out rfl rfl ?_))
  refine bodyPost_ret (results_blk_tmp rfl _ _ b2 (cs := q.L) rfl _ rfl ((C2.out.row q.L).blk) Try.underlying29 rfl hub_size) rfl ?_
  exact ⟨by rw [HV2.out]; rfl, below_setRow C3.out B4.out _⟩

set_option maxRecDepth 100000 in
set_option maxHeartbeats 2000000 in
theorem refRaise_any (h : Hv) (c : Int) (w : World) : Calls Try.prog 19 #[h.v, .int .i64 c] w (HubOut w (raiseF h c)) := by
  obtain ⟨V, hV⟩ : ∃ V, V = raiseF h c := ⟨_, rfl⟩
  rw [← hV]
  have HV := Lib.hid hV
  clear hV
  have HI := Lib.hid hub_size
  rcases hc : isC c with _ | _
  · have HV2 := Lib.hid (show V = (h, 1) by rw [HV.out]; unfold raiseF turnedF; rw [hc]; rfl)
    have hc2 : c < 0 ∨ (¬ c < 0 ∧ 3 < c) := by unfold isC at hc; simp at hc; omega
    clear HV hc
    rcases hc2 with h1 | ⟨h1, h2⟩
    all_goals
      go_enter Try.func19, Try.ntmps19
      go_upto_region 1 with (fail)
      generalize hW : World.alloc (World.alloc w _) _ = W
      obtain ⟨hB1, hB2, hB3⟩ : BlkT 29 W w.heap.size h.L ∧ BlkT 29 W (w.heap.size + 1) zeroH.L ∧ Below w.heap.size w W := by rw [← hW]; exact hub_two w h.L zeroH.L
      clear hW
      have B1 := Lib.hid hB1
      have B2 := Lib.hid hB2
      have B3 := Lib.hid hB3
      have B4 := Lib.hid (show w.heap.size ≤ w.heap.size + 1 by omega)
      have B5 := Lib.hid (show w.heap.size + 1 ≠ w.heap.size by omega)
      clear hB1 hB2 hB3
      generalize w.heap.size + 1 = b2 at B2 B4 B5 ⊢
      go_wp2_with (first
        | (refine wpList_load_blk 29 (.tmp 2) w.heap.size (cs := h.L) rfl rfl rfl B1.out.blk Try.underlying29 rfl HI.out ?_)
        | (refine wpList_store_blk 29 (.tmp 4) (.tmp 12) b2 (old := zeroH.L) (cs := h.L) rfl rfl rfl rfl B2.out.blk HI.out rfl rfl ?_))
      refine bodyPost_ret (results_blk_tmp rfl _ _ b2 (cs := h.L) rfl _ rfl ((B2.out.row h.L).blk) Try.underlying29 rfl hub_size) rfl ?_
      exact ⟨by rw [HV2.out]; rfl, below_setRow B3.out B4.out _⟩
  · have hc4 := isC_four hc
    rcases hq : (h.u c.toNat == true) with _ | _
    · have HV2 := Lib.hid (show V = ((h.turn c.toNat true).live c.toNat, 0) by rw [HV.out]; unfold raiseF turnedF; rw [hc, hq]; rfl)
      have hq2 : h.u c.toNat = false := by revert hq; cases h.u c.toNat <;> decide
      clear HV hc hq
      rcases hc4 with rfl | rfl | rfl | rfl
      all_goals
        first | (have hq3 : h.u 0 = _ := hq2) | (have hq3 : h.u 1 = _ := hq2) | (have hq3 : h.u 2 = _ := hq2) | (have hq3 : h.u 3 = _ := hq2)
        have Hq3 := Lib.hid hq3
        clear hq2 hq3
        go_enter Try.func19, Try.ntmps19
        go_upto_region 1 with (fail)
        generalize hW : World.alloc (World.alloc w _) _ = W
        obtain ⟨hB1, hB2, hB3⟩ : BlkT 29 W w.heap.size h.L ∧ BlkT 29 W (w.heap.size + 1) zeroH.L ∧ Below w.heap.size w W := by rw [← hW]; exact hub_two w h.L zeroH.L
        clear hW
        have B1 := Lib.hid hB1
        have B2 := Lib.hid hB2
        have B3 := Lib.hid hB3
        have B4 := Lib.hid (show w.heap.size ≤ w.heap.size + 1 by omega)
        have B5 := Lib.hid (show w.heap.size + 1 ≠ w.heap.size by omega)
        clear hB1 hB2 hB3
        generalize w.heap.size + 1 = b2 at B2 B4 B5 ⊢
        obtain ⟨u0, u1, u2, u3⟩ := hub_u B1.out.blk
        first | rw [Hq3.out] at u0 | rw [Hq3.out] at u1 | rw [Hq3.out] at u2 | rw [Hq3.out] at u3
        obtain ⟨f0, f1, f2, f3, f4, f5, f6, f7, f8, f9, f10, f11⟩ := hub_f B1.out.blk
        obtain ⟨l0, l1, l2, l3, -⟩ := hub_l B1.out.blk
        have m0 := more_eq (h.l 0)
        have m1 := more_eq (h.l 1)
        have m2 := more_eq (h.l 2)
        have m3 := more_eq (h.l 3)
        have fz := B1.out.blk.frozen
        go_upto_region 8 with (fail)
        generalize hW : World.setCell (World.setCell (World.setCell (World.setCell (World.setCell W _ _) _ _) _ _) _ _) _ _ = W'
        obtain ⟨hB1, hB2, hB3⟩ : BlkT 29 W' w.heap.size V.1.L ∧ BlkT 29 W' b2 zeroH.L ∧ Below w.heap.size w W' := by
          rw [HV2.out, ← hW]
          exact ⟨(((((B1.out).set _ _).set _ _).set _ _).set _ _).set _ _, (((((B2.out).other B5.out _).other B5.out _).other B5.out _).other B5.out _).other B5.out _, (((((B3.out).setCell (Nat.le_refl _) _).setCell (Nat.le_refl _) _).setCell (Nat.le_refl _) _).setCell (Nat.le_refl _) _).setCell (Nat.le_refl _) _⟩
        have C1 := Lib.hid hB1
        have C2 := Lib.hid hB2
        have C3 := Lib.hid hB3
        clear hB1 hB2 hB3 hW u0 u1 u2 u3 f0 f1 f2 f3 f4 f5 f6 f7 f8 f9 f10 f11 l0 l1 l2 l3 m0 m1 m2 m3 fz
        go_wp2_with (first
          | (refine wpList_load_blk 29 (.tmp 2) w.heap.size (cs := V.1.L) rfl rfl rfl C1.out.blk Try.underlying29 rfl HI.out ?_)
          | (refine wpList_store_blk 29 (.tmp 4) (.tmp 33) b2 (old := zeroH.L) (cs := V.1.L) rfl rfl rfl rfl C2.out.blk HI.out rfl rfl ?_))
        refine bodyPost_ret (results_blk_tmp rfl _ _ b2 (cs := V.1.L) rfl _ rfl ((C2.out.row V.1.L).blk) Try.underlying29 rfl hub_size) rfl ?_
        exact ⟨by rw [show V.2 = 0 by rw [HV2.out]]; rfl, below_setRow C3.out B4.out _⟩
    · have HV2 := Lib.hid (show V = (h, 9) by rw [HV.out]; unfold raiseF turnedF; rw [hc, hq]; rfl)
      have hq2 : h.u c.toNat = true := by revert hq; cases h.u c.toNat <;> decide
      clear HV hc hq
      rcases hc4 with rfl | rfl | rfl | rfl
      all_goals
        first | (have hq3 : h.u 0 = _ := hq2) | (have hq3 : h.u 1 = _ := hq2) | (have hq3 : h.u 2 = _ := hq2) | (have hq3 : h.u 3 = _ := hq2)
        have Hq3 := Lib.hid hq3
        clear hq2 hq3
        go_enter Try.func19, Try.ntmps19
        go_upto_region 1 with (fail)
        generalize hW : World.alloc (World.alloc w _) _ = W
        obtain ⟨hB1, hB2, hB3⟩ : BlkT 29 W w.heap.size h.L ∧ BlkT 29 W (w.heap.size + 1) zeroH.L ∧ Below w.heap.size w W := by rw [← hW]; exact hub_two w h.L zeroH.L
        clear hW
        have B1 := Lib.hid hB1
        have B2 := Lib.hid hB2
        have B3 := Lib.hid hB3
        have B4 := Lib.hid (show w.heap.size ≤ w.heap.size + 1 by omega)
        have B5 := Lib.hid (show w.heap.size + 1 ≠ w.heap.size by omega)
        clear hB1 hB2 hB3
        generalize w.heap.size + 1 = b2 at B2 B4 B5 ⊢
        obtain ⟨u0, u1, u2, u3⟩ := hub_u B1.out.blk
        first | rw [Hq3.out] at u0 | rw [Hq3.out] at u1 | rw [Hq3.out] at u2 | rw [Hq3.out] at u3
        go_wp2_with (first
          | (refine wpList_load_blk 29 (.tmp 2) w.heap.size (cs := h.L) rfl rfl rfl B1.out.blk Try.underlying29 rfl HI.out ?_)
          | (refine wpList_store_blk 29 (.tmp 4) (.tmp 17) b2 (old := zeroH.L) (cs := h.L) rfl rfl rfl rfl B2.out.blk HI.out rfl rfl ?_))
        refine bodyPost_ret (results_blk_tmp rfl _ _ b2 (cs := h.L) rfl _ rfl ((B2.out.row h.L).blk) Try.underlying29 rfl hub_size) rfl ?_
        exact ⟨by rw [HV2.out]; rfl, below_setRow B3.out B4.out _⟩

set_option maxRecDepth 100000 in
set_option maxHeartbeats 2000000 in
theorem refCut_any (h : Hv) (c : Int) (w : World) : Calls Try.prog 21 #[h.v, .int .i64 c] w (HubOut w (cutF h c)) := by
  obtain ⟨V, hV⟩ : ∃ V, V = cutF h c := ⟨_, rfl⟩
  rw [← hV]
  have HV := Lib.hid hV
  clear hV
  have HI := Lib.hid hub_size
  rcases hc : isC c with _ | _
  · have HV2 := Lib.hid (show V = (h, 1) by rw [HV.out]; unfold cutF turnedF; rw [hc]; rfl)
    have hc2 : c < 0 ∨ (¬ c < 0 ∧ 3 < c) := by unfold isC at hc; simp at hc; omega
    clear HV hc
    rcases hc2 with h1 | ⟨h1, h2⟩
    all_goals
      go_enter Try.func21, Try.ntmps21
      go_upto_region 1 with (fail)
      generalize hW : World.alloc (World.alloc w _) _ = W
      obtain ⟨hB1, hB2, hB3⟩ : BlkT 29 W w.heap.size h.L ∧ BlkT 29 W (w.heap.size + 1) zeroH.L ∧ Below w.heap.size w W := by rw [← hW]; exact hub_two w h.L zeroH.L
      clear hW
      have B1 := Lib.hid hB1
      have B2 := Lib.hid hB2
      have B3 := Lib.hid hB3
      have B4 := Lib.hid (show w.heap.size ≤ w.heap.size + 1 by omega)
      have B5 := Lib.hid (show w.heap.size + 1 ≠ w.heap.size by omega)
      clear hB1 hB2 hB3
      generalize w.heap.size + 1 = b2 at B2 B4 B5 ⊢
      go_wp2_with (first
        | (refine wpList_load_blk 29 (.tmp 2) w.heap.size (cs := h.L) rfl rfl rfl B1.out.blk Try.underlying29 rfl HI.out ?_)
        | (refine wpList_store_blk 29 (.tmp 4) (.tmp 12) b2 (old := zeroH.L) (cs := h.L) rfl rfl rfl rfl B2.out.blk HI.out rfl rfl ?_))
      refine bodyPost_ret (results_blk_tmp rfl _ _ b2 (cs := h.L) rfl _ rfl ((B2.out.row h.L).blk) Try.underlying29 rfl hub_size) rfl ?_
      exact ⟨by rw [HV2.out]; rfl, below_setRow B3.out B4.out _⟩
  · have hc4 := isC_four hc
    rcases hq : (h.u c.toNat == false) with _ | _
    · have HV2 := Lib.hid (show V = (h.turn c.toNat false, 0) by rw [HV.out]; unfold cutF turnedF; rw [hc, hq]; rfl)
      have hq2 : h.u c.toNat = true := by revert hq; cases h.u c.toNat <;> decide
      clear HV hc hq
      rcases hc4 with rfl | rfl | rfl | rfl
      all_goals
        first | (have hq3 : h.u 0 = _ := hq2) | (have hq3 : h.u 1 = _ := hq2) | (have hq3 : h.u 2 = _ := hq2) | (have hq3 : h.u 3 = _ := hq2)
        have Hq3 := Lib.hid hq3
        clear hq2 hq3
        go_enter Try.func21, Try.ntmps21
        go_upto_region 1 with (fail)
        generalize hW : World.alloc (World.alloc w _) _ = W
        obtain ⟨hB1, hB2, hB3⟩ : BlkT 29 W w.heap.size h.L ∧ BlkT 29 W (w.heap.size + 1) zeroH.L ∧ Below w.heap.size w W := by rw [← hW]; exact hub_two w h.L zeroH.L
        clear hW
        have B1 := Lib.hid hB1
        have B2 := Lib.hid hB2
        have B3 := Lib.hid hB3
        have B4 := Lib.hid (show w.heap.size ≤ w.heap.size + 1 by omega)
        have B5 := Lib.hid (show w.heap.size + 1 ≠ w.heap.size by omega)
        clear hB1 hB2 hB3
        generalize w.heap.size + 1 = b2 at B2 B4 B5 ⊢
        obtain ⟨u0, u1, u2, u3⟩ := hub_u B1.out.blk
        first | rw [Hq3.out] at u0 | rw [Hq3.out] at u1 | rw [Hq3.out] at u2 | rw [Hq3.out] at u3
        obtain ⟨f0, f1, f2, f3, f4, f5, f6, f7, f8, f9, f10, f11⟩ := hub_f B1.out.blk
        obtain ⟨l0, l1, l2, l3, -⟩ := hub_l B1.out.blk
        have m0 := more_eq (h.l 0)
        have m1 := more_eq (h.l 1)
        have m2 := more_eq (h.l 2)
        have m3 := more_eq (h.l 3)
        have fz := B1.out.blk.frozen
        go_upto_region 7 with (fail)
        generalize hW : World.setCell (World.setCell (World.setCell (World.setCell W _ _) _ _) _ _) _ _ = W'
        obtain ⟨hB1, hB2, hB3⟩ : BlkT 29 W' w.heap.size V.1.L ∧ BlkT 29 W' b2 zeroH.L ∧ Below w.heap.size w W' := by
          rw [HV2.out, ← hW]
          exact ⟨((((B1.out).set _ _).set _ _).set _ _).set _ _, ((((B2.out).other B5.out _).other B5.out _).other B5.out _).other B5.out _, ((((B3.out).setCell (Nat.le_refl _) _).setCell (Nat.le_refl _) _).setCell (Nat.le_refl _) _).setCell (Nat.le_refl _) _⟩
        have C1 := Lib.hid hB1
        have C2 := Lib.hid hB2
        have C3 := Lib.hid hB3
        clear hB1 hB2 hB3 hW u0 u1 u2 u3 f0 f1 f2 f3 f4 f5 f6 f7 f8 f9 f10 f11 l0 l1 l2 l3 m0 m1 m2 m3 fz
        go_wp2_with (first
          | (refine wpList_load_blk 29 (.tmp 2) w.heap.size (cs := V.1.L) rfl rfl rfl C1.out.blk Try.underlying29 rfl HI.out ?_)
          | (refine wpList_store_blk 29 (.tmp 4) (.tmp 26) b2 (old := zeroH.L) (cs := V.1.L) rfl rfl rfl rfl C2.out.blk HI.out rfl rfl ?_))
        refine bodyPost_ret (results_blk_tmp rfl _ _ b2 (cs := V.1.L) rfl _ rfl ((C2.out.row V.1.L).blk) Try.underlying29 rfl hub_size) rfl ?_
        exact ⟨by rw [show V.2 = 0 by rw [HV2.out]]; rfl, below_setRow C3.out B4.out _⟩
    · have HV2 := Lib.hid (show V = (h, 9) by rw [HV.out]; unfold cutF turnedF; rw [hc, hq]; rfl)
      have hq2 : h.u c.toNat = false := by revert hq; cases h.u c.toNat <;> decide
      clear HV hc hq
      rcases hc4 with rfl | rfl | rfl | rfl
      all_goals
        first | (have hq3 : h.u 0 = _ := hq2) | (have hq3 : h.u 1 = _ := hq2) | (have hq3 : h.u 2 = _ := hq2) | (have hq3 : h.u 3 = _ := hq2)
        have Hq3 := Lib.hid hq3
        clear hq2 hq3
        go_enter Try.func21, Try.ntmps21
        go_upto_region 1 with (fail)
        generalize hW : World.alloc (World.alloc w _) _ = W
        obtain ⟨hB1, hB2, hB3⟩ : BlkT 29 W w.heap.size h.L ∧ BlkT 29 W (w.heap.size + 1) zeroH.L ∧ Below w.heap.size w W := by rw [← hW]; exact hub_two w h.L zeroH.L
        clear hW
        have B1 := Lib.hid hB1
        have B2 := Lib.hid hB2
        have B3 := Lib.hid hB3
        have B4 := Lib.hid (show w.heap.size ≤ w.heap.size + 1 by omega)
        have B5 := Lib.hid (show w.heap.size + 1 ≠ w.heap.size by omega)
        clear hB1 hB2 hB3
        generalize w.heap.size + 1 = b2 at B2 B4 B5 ⊢
        obtain ⟨u0, u1, u2, u3⟩ := hub_u B1.out.blk
        first | rw [Hq3.out] at u0 | rw [Hq3.out] at u1 | rw [Hq3.out] at u2 | rw [Hq3.out] at u3
        go_wp2_with (first
          | (refine wpList_load_blk 29 (.tmp 2) w.heap.size (cs := h.L) rfl rfl rfl B1.out.blk Try.underlying29 rfl HI.out ?_)
          | (refine wpList_store_blk 29 (.tmp 4) (.tmp 18) b2 (old := zeroH.L) (cs := h.L) rfl rfl rfl rfl B2.out.blk HI.out rfl rfl ?_))
        refine bodyPost_ret (results_blk_tmp rfl _ _ b2 (cs := h.L) rfl _ rfl ((B2.out.row h.L).blk) Try.underlying29 rfl hub_size) rfl ?_
        exact ⟨by rw [HV2.out]; rfl, below_setRow B3.out B4.out _⟩
end Go.Proofs.Ytcccgjpmfbmplaa
