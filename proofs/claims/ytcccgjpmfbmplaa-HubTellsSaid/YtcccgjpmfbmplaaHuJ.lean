/- The walk of the law HubTells. -/
import Derived.Test.YtcccgjpmfbmplaaHuI
import Derived.Test.YtcccgjpmfbmplaaInH
set_option linter.unusedSimpArgs false
set_option linter.unusedVariables false
namespace Go.Proofs.Ytcccgjpmfbmplaa
open Go.RowKit

set_option maxRecDepth 100000 in
set_option maxHeartbeats 4000000 in
theorem hubTells_any (h g : Hv) (s t : Nat → Fd) (w : World) (hh : HbAt w h s) (hg : HbAt w g t) : Calls Try.prog 3 #[h.v, g.v] w (BoolOut w true) := by
  have HI := Lib.hid hub_size
  have Hsh := Lib.hid shown09
  have FA := Lib.hid (fun W => fewH_any h (hub_len hh) W)
  have FB := Lib.hid (fun W => fewH_any g (hub_len hg) W)
  have RA := Lib.hid (fun W (hb : Below w.heap.size w W) => hubRight_any h s W (hh.mono hb))
  have RR := Lib.hid (fun W (hb : Below w.heap.size w W) => refHubRight_any h s W (hh.mono hb))
  have SA := Lib.hid (fun W (hb : Below w.heap.size w W) => hubSame_any h g s t W (hh.mono hb) (hg.mono hb))
  have SR := Lib.hid (fun W (hb : Below w.heap.size w W) => refHubSame_any h g s t W (hh.mono hb) (hg.mono hb))
  have AA := Lib.hid (fun W => hubAny_any h W)
  have AR := Lib.hid (fun W => refAny_any h W)
  have PA := Lib.hid (fun (hr : rightH h s = true) W => pick_any h (right_nx hr) W)
  have PR := Lib.hid (fun (hr : rightH h s = true) W => refPick_any h (right_nx hr) W)
  have SP := Lib.hid (fun W (hb : Below w.heap.size w W) => (show Calls Try.prog 13 #[(pickF h).1.v, (pickF h).1.v] W (BoolOut W true) from (refHubSame_any (pickF h).1 (pickF h).1 s s W (next_at (hh.mono hb)) (next_at (hh.mono hb))).mono fun e w' ⟨p, q⟩ => ⟨by rw [p, sameH_refl rfl rfl rfl], q⟩))
  obtain ⟨fa, hfa⟩ : ∃ x, x = fewH h := ⟨_, rfl⟩
  obtain ⟨fb, hfb⟩ : ∃ x, x = fewH g := ⟨_, rfl⟩
  obtain ⟨rt, hrt⟩ : ∃ x, x = rightH h s := ⟨_, rfl⟩
  obtain ⟨sm, hsm⟩ : ∃ x, x = sameH h s g t := ⟨_, rfl⟩
  obtain ⟨an, han⟩ : ∃ x, x = anyH h := ⟨_, rfl⟩
  obtain ⟨⟨pk, pc, pe⟩, hpk⟩ : ∃ x, x = pickF h := ⟨_, rfl⟩
  rw [← hfa] at FA
  rw [← hfb] at FB
  rw [← hrt] at RA RR PA PR
  rw [← hsm] at SA SR
  rw [← han] at AA AR
  rw [← hpk] at PA PR SP
  clear hfa hfb hrt hsm han hpk hh hg
  go_enter Try.func3, Try.ntmps3
  go_upto_region 1 with (fail)
  generalize hW : World.alloc (World.alloc w _) _ = W
  obtain ⟨hB1, hB2, hB3⟩ : BlkT 29 W w.heap.size h.L ∧ BlkT 29 W (w.heap.size + 1) g.L ∧ Below w.heap.size w W := by rw [← hW]; exact hub_two w h.L g.L
  clear hW
  have B2 := Lib.hid hB1
  have B3 := Lib.hid hB2
  have G := Lib.hid hB3
  clear hB1 hB2 hB3
  generalize w.heap.size + 1 = b3 at B3 ⊢
  generalize w.heap.size = b2 at B2 ⊢
  go_wp2_with fail
  refine (Hsh.out _).mono ?_; rintro e y1 ⟨rfl, hb⟩
  replace B2 := Lib.hid (B2.out.up hb)
  replace B3 := Lib.hid (B3.out.up hb)
  replace G := Lib.hid (bt G.out hb)
  clear hb
  go_wp2_with (first
        | (refine wpList_load_blk 29 (.tmp 2) b2 (cs := h.L) rfl rfl rfl B2.out.blk Try.underlying29 rfl HI.out ?_)
        | (refine wpList_load_blkG 29 (.tmp 2) b2 (cs := h.L) (by first | rfl | simp [Region.wanted, yielded]) rfl rfl B2.out.blk Try.underlying29 rfl HI.out ?_))
  refine (FA.out _).mono ?_; rintro e y2 ⟨rfl, hb⟩
  replace B2 := Lib.hid (B2.out.up hb)
  replace B3 := Lib.hid (B3.out.up hb)
  replace G := Lib.hid (bt G.out hb)
  clear hb
  rcases fa with _ | _
  · go_wp2_with fail
    go_ret
    exact ⟨rfl, G.out⟩
  go_wp2_with (first
        | (refine wpList_load_blk 29 (.tmp 3) b3 (cs := g.L) rfl rfl rfl B3.out.blk Try.underlying29 rfl HI.out ?_)
        | (refine wpList_load_blkG 29 (.tmp 3) b3 (cs := g.L) (by first | rfl | simp [Region.wanted, yielded]) rfl rfl B3.out.blk Try.underlying29 rfl HI.out ?_))
  refine (FB.out _).mono ?_; rintro e y3 ⟨rfl, hb⟩
  replace B2 := Lib.hid (B2.out.up hb)
  replace B3 := Lib.hid (B3.out.up hb)
  replace G := Lib.hid (bt G.out hb)
  clear hb
  rcases fb with _ | _
  · go_wp2_with fail
    go_ret
    exact ⟨rfl, G.out⟩
  go_wp2_with (first
        | (refine wpList_load_blk 29 (.tmp 2) b2 (cs := h.L) rfl rfl rfl B2.out.blk Try.underlying29 rfl HI.out ?_)
        | (refine wpList_load_blkG 29 (.tmp 2) b2 (cs := h.L) (by first | rfl | simp [Region.wanted, yielded]) rfl rfl B2.out.blk Try.underlying29 rfl HI.out ?_))
  refine (RR.out _ G.out).mono ?_; rintro e y4 ⟨rfl, hb⟩
  replace B2 := Lib.hid (B2.out.up hb)
  replace B3 := Lib.hid (B3.out.up hb)
  replace G := Lib.hid (bt G.out hb)
  clear hb
  go_upto_region 5 with (fail)
  go_cut [37] (fun v37 wx => v37 = .bool false ∧ BlkT 29 wx b2 h.L ∧ BlkT 29 wx b3 g.L ∧ Below w.heap.size w wx)
  case first =>
    have hbd := btd G.out
    have E0 := B2.out.up (bd _)
    have F0 := B3.out.up (bd _)
    have Ev0 := E0
    have Fv0 := F0
    have bv0 := hbd
    refine wp_region_held_drew (S := fun w' => BlkT 29 w' b2 h.L ∧ BlkT 29 w' b3 g.L) (by kernel_rfl) ?_ (fun hHeld => ?_)
    · exact ⟨B2.out.up (bd _), B3.out.up (bd _)⟩
    refine wpAnyH_take (i := 0) (oi := ⟨some 25, _, _, _, _, _⟩) (v := .agg (h.L).toArray) rfl (by kernel_rfl) (by kernel_rfl) (by kernel_rfl) (fun _ _ _ h => h) (yieldsIf_blk (by first | rfl | simp [Region.wanted, yielded]) 29 (.tmp 2) rfl b2 rfl (fun w hw => hw.1) Try.underlying29 rfl HI.out) hHeld ?_
    try simp only [Act.put, List.setIfInBounds_toArray, List.set_cons_zero, List.set_cons_succ]
    refine wpAnyH_take (i := 2) (oi := ⟨some 27, _, _, _, _, _⟩) (v := ?_) rfl (by kernel_rfl) (by kernel_rfl) (by kernel_rfl) (fun _ _ _ h => h) (Or.inl ⟨by first | rfl | simp [Region.wanted, yielded], ?_⟩) hHeld ?_
    rotate_left
    · intro w hSw; go_simp; try with_reducible rfl
    try simp only [Act.put, List.setIfInBounds_toArray, List.set_cons_zero, List.set_cons_succ]
    refine wpAnyH_ready (rs := [1]) (by kernel_rfl) (by simp) ?_
    refine AllReadyH.cons (o := ⟨some 26, _, _, _, _, _⟩) rfl (fun K hK => ?_) AllReadyH.nil
    go_simp
    (with_reducible refine Calls.mono (RA.out _ bv0) ?_); rintro e v1 ⟨rfl, hv1⟩; have Ev1 := Ev0.up hv1; have Fv1 := Fv0.up hv1; have bv1 := bt bv0 hv1
    go_wp2_with fail
    refine hK.out _ _ ?_ (fun hHeld => ?_)
    · exact ⟨Ev1, Fv1⟩
    clear hK K
    try simp only [Act.put, List.setIfInBounds_toArray, List.set_cons_zero, List.set_cons_succ]
    refine wpAnyH_take (i := 3) (oi := ⟨some 28, _, _, _, _, _⟩) (v := ?_) rfl (by kernel_rfl) (by kernel_rfl) (by kernel_rfl) (fun _ _ _ h => h) (Or.inl ⟨by first | rfl | simp [Region.wanted, yielded], ?_⟩) hHeld ?_
    rotate_left
    · intro w hSw; go_simp; try with_reducible rfl
    try simp only [Act.put, List.setIfInBounds_toArray, List.set_cons_zero, List.set_cons_succ]
    refine wpAnyH_take (i := 4) (oi := ⟨some 29, _, _, _, _, _⟩) (v := ?_) rfl (by kernel_rfl) (by kernel_rfl) (by kernel_rfl) (fun _ _ _ h => h) (Or.inl ⟨by first | rfl | simp [Region.wanted, yielded], ?_⟩) hHeld ?_
    rotate_left
    · intro w hSw; go_simp; try with_reducible rfl
    try simp only [Act.put, List.setIfInBounds_toArray, List.set_cons_zero, List.set_cons_succ]
    refine wpAnyH_take (i := 5) (oi := ⟨some 30, _, _, _, _, _⟩) (v := .agg (h.L).toArray) rfl (by kernel_rfl) (by kernel_rfl) (by kernel_rfl) (fun _ _ _ h => h) (yieldsIf_blk (by first | rfl | simp [Region.wanted, yielded]) 29 (.tmp 2) rfl b2 rfl (fun w hw => hw.1) Try.underlying29 rfl HI.out) hHeld ?_
    try simp only [Act.put, List.setIfInBounds_toArray, List.set_cons_zero, List.set_cons_succ]
    refine wpAnyH_take (i := 6) (oi := ⟨some 31, _, _, _, _, _⟩) (v := .agg (g.L).toArray) rfl (by kernel_rfl) (by kernel_rfl) (by kernel_rfl) (fun _ _ _ h => h) (yieldsIf_blk (by first | rfl | simp [Region.wanted, yielded]) 29 (.tmp 3) rfl b3 rfl (fun w hw => hw.2) Try.underlying29 rfl HI.out) hHeld ?_
    try simp only [Act.put, List.setIfInBounds_toArray, List.set_cons_zero, List.set_cons_succ]
    refine wpAnyH_take (i := 8) (oi := ⟨some 33, _, _, _, _, _⟩) (v := .agg (h.L).toArray) rfl (by kernel_rfl) (by kernel_rfl) (by kernel_rfl) (fun _ _ _ h => h) (yieldsIf_blk (by first | rfl | simp [Region.wanted, yielded]) 29 (.tmp 2) rfl b2 rfl (fun w hw => hw.1) Try.underlying29 rfl HI.out) hHeld ?_
    try simp only [Act.put, List.setIfInBounds_toArray, List.set_cons_zero, List.set_cons_succ]
    refine wpAnyH_take (i := 9) (oi := ⟨some 34, _, _, _, _, _⟩) (v := .agg (g.L).toArray) rfl (by kernel_rfl) (by kernel_rfl) (by kernel_rfl) (fun _ _ _ h => h) (yieldsIf_blk (by first | rfl | simp [Region.wanted, yielded]) 29 (.tmp 3) rfl b3 rfl (fun w hw => hw.2) Try.underlying29 rfl HI.out) hHeld ?_
    try simp only [Act.put, List.setIfInBounds_toArray, List.set_cons_zero, List.set_cons_succ]
    refine wpAnyH_ready (rs := [7]) (by kernel_rfl) (by simp) ?_
    refine AllReadyH.cons (o := ⟨some 32, _, _, _, _, _⟩) rfl (fun K hK => ?_) AllReadyH.nil
    go_simp
    (with_reducible refine Calls.mono (SA.out _ bv1) ?_); rintro e v2 ⟨rfl, hv2⟩; have Ev2 := Ev1.up hv2; have Fv2 := Fv1.up hv2; have bv2 := bt bv1 hv2
    go_wp2_with fail
    refine hK.out _ _ ?_ (fun hHeld => ?_)
    · exact ⟨Ev2, Fv2⟩
    clear hK K
    try simp only [Act.put, List.setIfInBounds_toArray, List.set_cons_zero, List.set_cons_succ]
    refine wpAnyH_ready (rs := [10]) (by kernel_rfl) (by simp) ?_
    refine AllReadyH.cons (o := ⟨some 35, _, _, _, _, _⟩) rfl (fun K hK => ?_) AllReadyH.nil
    go_simp
    (with_reducible refine Calls.mono (SR.out _ bv2) ?_); rintro e v3 ⟨rfl, hv3⟩; have Ev3 := Ev2.up hv3; have Fv3 := Fv2.up hv3; have bv3 := bt bv2 hv3
    go_wp2_with fail
    refine hK.out _ _ ?_ (fun hHeld => ?_)
    · exact ⟨Ev3, Fv3⟩
    clear hK K
    try simp only [Act.put, List.setIfInBounds_toArray, List.set_cons_zero, List.set_cons_succ]
    refine wpAnyH_take (i := 11) (oi := ⟨some 36, _, _, _, _, _⟩) (v := ?_) rfl (by kernel_rfl) (by kernel_rfl) (by kernel_rfl) (fun _ _ _ h => h) (Or.inl ⟨by first | rfl | simp [Region.wanted, yielded], ?_⟩) hHeld ?_
    rotate_left
    · intro w hSw; go_simp; try with_reducible rfl
    try simp only [Act.put, List.setIfInBounds_toArray, List.set_cons_zero, List.set_cons_succ]
    refine wpAnyH_take (i := 12) (oi := ⟨some 37, _, _, _, _, _⟩) (v := ?_) rfl (by kernel_rfl) (by kernel_rfl) (by kernel_rfl) (fun _ _ _ h => h) (Or.inl ⟨by first | rfl | simp [Region.wanted, yielded], ?_⟩) hHeld ?_
    rotate_left
    · intro w hSw; go_simp; try with_reducible rfl
    try simp only [Act.put, List.setIfInBounds_toArray, List.set_cons_zero, List.set_cons_succ]
    refine wpAnyH_done (by kernel_rfl) ?_ _
    go_wp2_with fail
    go_meet
    exact ⟨by simp, Ev3, Fv3, bv3⟩
  case rest =>
    obtain ⟨rfl, hB2, hB3, hG⟩ := hcut
    replace B2 := Lib.hid hB2
    replace B3 := Lib.hid hB3
    replace G := Lib.hid hG
    clear hB2 hB3 hG RA SA SR FA FB RR
    rcases rt with _ | _
    · go_wp2_with fail
      go_ret
      exact ⟨rfl, G.out⟩
    have P1 := Lib.hid (PA.out (by first | rfl | trivial))
    have P2 := Lib.hid (PR.out (by first | rfl | trivial))
    clear PA PR
    go_upto_region 9 with (fail)
    go_cut [8, 9, 7] (fun v8 v9 v7 wx => ∃ b7 : Nat, v8 = .int .i64 pc ∧ v9 = .int .i64 pe ∧ v7 = .pointer (some ⟨b7, 0, none⟩) ∧ BlkT 29 wx b7 pk.L ∧ BlkT 29 wx b2 h.L ∧ BlkT 29 wx b3 g.L ∧ Below w.heap.size w wx)
    case first =>
      go_wp2_with (first
              | (refine wpList_load_blk 29 (.tmp 2) b2 (cs := h.L) rfl rfl rfl B2.out.blk Try.underlying29 rfl HI.out ?_)
              | (refine wpList_load_blkG 29 (.tmp 2) b2 (cs := h.L) (by first | rfl | simp [Region.wanted, yielded]) rfl rfl B2.out.blk Try.underlying29 rfl HI.out ?_))
      refine (P1.out _).mono ?_; rintro e wn ⟨rfl, hb⟩
      go_wp2_with (refine wpList_store_blk 29 (.tmp 7) (.tmp 44) _ (old := zeroL) (cs := pk.L) rfl rfl rfl rfl (Blk.new _ _ _) HI.out rfl rfl ?_)
      go_meet
      exact ⟨_, rfl, rfl, rfl, lay_blk _ _ _ _, (B2.out.up (bt hb (lay_below _ _ _ _))), (B3.out.up (bt hb (lay_below _ _ _ _))), (bt G.out (bt hb (lay_below _ _ _ _)))⟩
    case rest =>
      obtain ⟨b7, rfl, rfl, rfl, hB7, hB2, hB3, hG⟩ := hcut
      have B7 := Lib.hid hB7
      replace B2 := Lib.hid hB2
      replace B3 := Lib.hid hB3
      replace G := Lib.hid hG
      clear hB7 hB2 hB3 hG
      go_upto_region 10 with (fail)
      go_cut [11, 12, 10] (fun v11 v12 v10 wx => ∃ b10 : Nat, v11 = .int .i64 pc ∧ v12 = .int .i64 pe ∧ v10 = .pointer (some ⟨b10, 0, none⟩) ∧ BlkT 29 wx b10 pk.L ∧ BlkT 29 wx b2 h.L ∧ BlkT 29 wx b3 g.L ∧ BlkT 29 wx b7 pk.L ∧ Below w.heap.size w wx)
      case first =>
        go_wp2_with (first
                  | (refine wpList_load_blk 29 (.tmp 2) b2 (cs := h.L) rfl rfl rfl B2.out.blk Try.underlying29 rfl HI.out ?_)
                  | (refine wpList_load_blkG 29 (.tmp 2) b2 (cs := h.L) (by first | rfl | simp [Region.wanted, yielded]) rfl rfl B2.out.blk Try.underlying29 rfl HI.out ?_))
        refine (P2.out _).mono ?_; rintro e wn ⟨rfl, hb⟩
        go_wp2_with (refine wpList_store_blk 29 (.tmp 10) (.tmp 50) _ (old := zeroL) (cs := pk.L) rfl rfl rfl rfl (Blk.new _ _ _) HI.out rfl rfl ?_)
        go_meet
        exact ⟨_, rfl, rfl, rfl, lay_blk _ _ _ _, (B2.out.up (bt hb (lay_below _ _ _ _))), (B3.out.up (bt hb (lay_below _ _ _ _))), (B7.out.up (bt hb (lay_below _ _ _ _))), (bt G.out (bt hb (lay_below _ _ _ _)))⟩
      case rest =>
        obtain ⟨b10, rfl, rfl, rfl, hB10, hB2, hB3, hB7, hG⟩ := hcut
        have B10 := Lib.hid hB10
        replace B2 := Lib.hid hB2
        replace B3 := Lib.hid hB3
        replace B7 := Lib.hid hB7
        replace G := Lib.hid hG
        clear hB10 hB2 hB3 hB7 hG
        go_upto_region 11 with (fail)
        have bv0 := btd G.out
        have Ev0 := B2.out.up (bd _)
        have Fv0 := B7.out.up (bd _)
        have Hv0 := B10.out.up (bd _)
        refine wp_region_held_drew (S := fun w' => BlkT 29 w' b2 h.L ∧ BlkT 29 w' b7 pk.L ∧ BlkT 29 w' b10 pk.L) (by kernel_rfl) ?_ (fun hHeld => ?_)
        · exact ⟨B2.out.up (bd _), B7.out.up (bd _), B10.out.up (bd _)⟩
        refine wpAnyH_take (i := 0) (oi := ⟨some 53, _, _, _, _, _⟩) (v := ?_) rfl (by kernel_rfl) (by kernel_rfl) (by kernel_rfl) (fun _ _ _ h => h) (Or.inl ⟨by first | rfl | simp [Region.wanted, yielded], ?_⟩) hHeld ?_
        rotate_left
        · intro w hSw; go_simp; try with_reducible rfl
        try simp only [Act.put, List.setIfInBounds_toArray, List.set_cons_zero, List.set_cons_succ]
        refine wpAnyH_take (i := 1) (oi := ⟨some 54, _, _, _, _, _⟩) (v := ?_) rfl (by kernel_rfl) (by kernel_rfl) (by kernel_rfl) (fun _ _ _ h => h) (Or.inl ⟨by first | rfl | simp [Region.wanted, yielded], ?_⟩) hHeld ?_
        rotate_left
        · intro w hSw; go_simp; try with_reducible rfl
        try simp only [Act.put, List.setIfInBounds_toArray, List.set_cons_zero, List.set_cons_succ]
        refine wpAnyH_take (i := 2) (oi := ⟨some 55, _, _, _, _, _⟩) (v := .agg (pk.L).toArray) rfl (by kernel_rfl) (by kernel_rfl) (by kernel_rfl) (fun _ _ _ h => h) (yieldsIf_blk (by first | rfl | simp [Region.wanted, yielded]) 29 (.tmp 7) rfl b7 rfl (fun w hw => hw.2.1) Try.underlying29 rfl HI.out) hHeld ?_
        try simp only [Act.put, List.setIfInBounds_toArray, List.set_cons_zero, List.set_cons_succ]
        refine wpAnyH_take (i := 3) (oi := ⟨some 56, _, _, _, _, _⟩) (v := .agg (pk.L).toArray) rfl (by kernel_rfl) (by kernel_rfl) (by kernel_rfl) (fun _ _ _ h => h) (yieldsIf_blk (by first | rfl | simp [Region.wanted, yielded]) 29 (.tmp 10) rfl b10 rfl (fun w hw => hw.2.2) Try.underlying29 rfl HI.out) hHeld ?_
        try simp only [Act.put, List.setIfInBounds_toArray, List.set_cons_zero, List.set_cons_succ]
        refine wpAnyH_ready (rs := [4]) (by kernel_rfl) (by simp) ?_
        refine AllReadyH.cons (o := ⟨some 57, _, _, _, _, _⟩) rfl (fun K hK => ?_) AllReadyH.nil
        go_simp
        (with_reducible refine Calls.mono (SP.out _ bv0) ?_); rintro e v1 ⟨rfl, hv1⟩; have Ev1 := Ev0.up hv1; have Fv1 := Fv0.up hv1; have Hv1 := Hv0.up hv1; have bv1 := bt bv0 hv1
        go_wp2_with fail
        refine hK.out _ _ ?_ (fun hHeld => ?_)
        · exact ⟨Ev1, Fv1, Hv1⟩
        clear hK K
        try simp only [Act.put, List.setIfInBounds_toArray, List.set_cons_zero, List.set_cons_succ]
        refine wpAnyH_take (i := 5) (oi := ⟨some 58, _, _, _, _, _⟩) (v := ?_) rfl (by kernel_rfl) (by kernel_rfl) (by kernel_rfl) (fun _ _ _ h => h) (Or.inl ⟨by first | rfl | simp [Region.wanted, yielded], ?_⟩) hHeld ?_
        rotate_left
        · intro w hSw; go_simp; try with_reducible rfl
        try simp only [Act.put, List.setIfInBounds_toArray, List.set_cons_zero, List.set_cons_succ]
        refine wpAnyH_take (i := 6) (oi := ⟨some 59, _, _, _, _, _⟩) (v := ?_) rfl (by kernel_rfl) (by kernel_rfl) (by kernel_rfl) (fun _ _ _ h => h) (Or.inl ⟨by first | rfl | simp [Region.wanted, yielded], ?_⟩) hHeld ?_
        rotate_left
        · intro w hSw; go_simp; try with_reducible rfl
        try simp only [Act.put, List.setIfInBounds_toArray, List.set_cons_zero, List.set_cons_succ]
        refine wpAnyH_take (i := 7) (oi := ⟨some 60, _, _, _, _, _⟩) (v := ?_) rfl (by kernel_rfl) (by kernel_rfl) (by kernel_rfl) (fun _ _ _ h => h) (Or.inl ⟨by first | rfl | simp [Region.wanted, yielded], ?_⟩) hHeld ?_
        rotate_left
        · intro w hSw; go_simp; try with_reducible rfl
        try simp only [Act.put, List.setIfInBounds_toArray, List.set_cons_zero, List.set_cons_succ]
        refine wpAnyH_take (i := 8) (oi := ⟨some 61, _, _, _, _, _⟩) (v := ?_) rfl (by kernel_rfl) (by kernel_rfl) (by kernel_rfl) (fun _ _ _ h => h) (Or.inl ⟨by first | rfl | simp [Region.wanted, yielded], ?_⟩) hHeld ?_
        rotate_left
        · intro w hSw; go_simp; try with_reducible rfl
        try simp only [Act.put, List.setIfInBounds_toArray, List.set_cons_zero, List.set_cons_succ]
        refine wpAnyH_take (i := 9) (oi := ⟨some 62, _, _, _, _, _⟩) (v := ?_) rfl (by kernel_rfl) (by kernel_rfl) (by kernel_rfl) (fun _ _ _ h => h) (Or.inl ⟨by first | rfl | simp [Region.wanted, yielded], ?_⟩) hHeld ?_
        rotate_left
        · intro w hSw; go_simp; try with_reducible rfl
        try simp only [Act.put, List.setIfInBounds_toArray, List.set_cons_zero, List.set_cons_succ]
        refine wpAnyH_take (i := 10) (oi := ⟨some 63, _, _, _, _, _⟩) (v := ?_) rfl (by kernel_rfl) (by kernel_rfl) (by kernel_rfl) (fun _ _ _ h => h) (Or.inl ⟨by first | rfl | simp [Region.wanted, yielded], ?_⟩) hHeld ?_
        rotate_left
        · intro w hSw; go_simp; try with_reducible rfl
        try simp only [Act.put, List.setIfInBounds_toArray, List.set_cons_zero, List.set_cons_succ]
        refine wpAnyH_take (i := 11) (oi := ⟨some 64, _, _, _, _, _⟩) (v := ?_) rfl (by kernel_rfl) (by kernel_rfl) (by kernel_rfl) (fun _ _ _ h => h) (Or.inl ⟨by first | rfl | simp [Region.wanted, yielded], ?_⟩) hHeld ?_
        rotate_left
        · intro w hSw; go_simp; try with_reducible rfl
        try simp only [Act.put, List.setIfInBounds_toArray, List.set_cons_zero, List.set_cons_succ]
        refine wpAnyH_take (i := 12) (oi := ⟨some 65, _, _, _, _, _⟩) (v := ?_) rfl (by kernel_rfl) (by kernel_rfl) (by kernel_rfl) (fun _ _ _ h => h) (Or.inl ⟨by first | rfl | simp [Region.wanted, yielded], ?_⟩) hHeld ?_
        rotate_left
        · intro w hSw; go_simp; try with_reducible rfl
        try simp only [Act.put, List.setIfInBounds_toArray, List.set_cons_zero, List.set_cons_succ]
        refine wpAnyH_take (i := 13) (oi := ⟨some 66, _, _, _, _, _⟩) (v := ?_) rfl (by kernel_rfl) (by kernel_rfl) (by kernel_rfl) (fun _ _ _ h => h) (Or.inl ⟨by first | rfl | simp [Region.wanted, yielded], ?_⟩) hHeld ?_
        rotate_left
        · intro w hSw; go_simp; try with_reducible rfl
        try simp only [Act.put, List.setIfInBounds_toArray, List.set_cons_zero, List.set_cons_succ]
        refine wpAnyH_take (i := 14) (oi := ⟨some 67, _, _, _, _, _⟩) (v := ?_) rfl (by kernel_rfl) (by kernel_rfl) (by kernel_rfl) (fun _ _ _ h => h) (Or.inl ⟨by first | rfl | simp [Region.wanted, yielded], ?_⟩) hHeld ?_
        rotate_left
        · intro w hSw; go_simp; try with_reducible rfl
        try simp only [Act.put, List.setIfInBounds_toArray, List.set_cons_zero, List.set_cons_succ]
        refine wpAnyH_take (i := 15) (oi := ⟨some 68, _, _, _, _, _⟩) (v := ?_) rfl (by kernel_rfl) (by kernel_rfl) (by kernel_rfl) (fun _ _ _ h => h) (Or.inl ⟨by first | rfl | simp [Region.wanted, yielded], ?_⟩) hHeld ?_
        rotate_left
        · intro w hSw; go_simp; try with_reducible rfl
        try simp only [Act.put, List.setIfInBounds_toArray, List.set_cons_zero, List.set_cons_succ]
        refine wpAnyH_take (i := 16) (oi := ⟨some 69, _, _, _, _, _⟩) (v := ?_) rfl (by kernel_rfl) (by kernel_rfl) (by kernel_rfl) (fun _ _ _ h => h) (Or.inl ⟨by first | rfl | simp [Region.wanted, yielded], ?_⟩) hHeld ?_
        rotate_left
        · intro w hSw; go_simp; try with_reducible rfl
        try simp only [Act.put, List.setIfInBounds_toArray, List.set_cons_zero, List.set_cons_succ]
        refine wpAnyH_take (i := 17) (oi := ⟨some 70, _, _, _, _, _⟩) (v := .agg (h.L).toArray) rfl (by kernel_rfl) (by kernel_rfl) (by kernel_rfl) (fun _ _ _ h => h) (yieldsIf_blk (by first | rfl | simp [Region.wanted, yielded]) 29 (.tmp 2) rfl b2 rfl (fun w hw => hw.1) Try.underlying29 rfl HI.out) hHeld ?_
        try simp only [Act.put, List.setIfInBounds_toArray, List.set_cons_zero, List.set_cons_succ]
        refine wpAnyH_take (i := 19) (oi := ⟨some 72, _, _, _, _, _⟩) (v := .agg (h.L).toArray) rfl (by kernel_rfl) (by kernel_rfl) (by kernel_rfl) (fun _ _ _ h => h) (yieldsIf_blk (by first | rfl | simp [Region.wanted, yielded]) 29 (.tmp 2) rfl b2 rfl (fun w hw => hw.1) Try.underlying29 rfl HI.out) hHeld ?_
        try simp only [Act.put, List.setIfInBounds_toArray, List.set_cons_zero, List.set_cons_succ]
        refine wpAnyH_ready (rs := [18]) (by kernel_rfl) (by simp) ?_
        refine AllReadyH.cons (o := ⟨some 71, _, _, _, _, _⟩) rfl (fun K hK => ?_) AllReadyH.nil
        go_simp
        (with_reducible refine Calls.mono (AA.out _) ?_); rintro e v2 ⟨rfl, hv2⟩; have Ev2 := Ev1.up hv2; have Fv2 := Fv1.up hv2; have Hv2 := Hv1.up hv2; have bv2 := bt bv1 hv2
        go_wp2_with fail
        refine hK.out _ _ ?_ (fun hHeld => ?_)
        · exact ⟨Ev2, Fv2, Hv2⟩
        clear hK K
        try simp only [Act.put, List.setIfInBounds_toArray, List.set_cons_zero, List.set_cons_succ]
        refine wpAnyH_ready (rs := [20]) (by kernel_rfl) (by simp) ?_
        refine AllReadyH.cons (o := ⟨some 73, _, _, _, _, _⟩) rfl (fun K hK => ?_) AllReadyH.nil
        go_simp
        (with_reducible refine Calls.mono (AR.out _) ?_); rintro e v3 ⟨rfl, hv3⟩; have Ev3 := Ev2.up hv3; have Fv3 := Fv2.up hv3; have Hv3 := Hv2.up hv3; have bv3 := bt bv2 hv3
        go_wp2_with fail
        refine hK.out _ _ ?_ (fun hHeld => ?_)
        · exact ⟨Ev3, Fv3, Hv3⟩
        clear hK K
        try simp only [Act.put, List.setIfInBounds_toArray, List.set_cons_zero, List.set_cons_succ]
        refine wpAnyH_take (i := 21) (oi := ⟨some 74, _, _, _, _, _⟩) (v := ?_) rfl (by kernel_rfl) (by kernel_rfl) (by kernel_rfl) (fun _ _ _ h => h) (Or.inl ⟨by first | rfl | simp [Region.wanted, yielded], ?_⟩) hHeld ?_
        rotate_left
        · intro w hSw; go_simp; try with_reducible rfl
        try simp only [Act.put, List.setIfInBounds_toArray, List.set_cons_zero, List.set_cons_succ]
        refine wpAnyH_take (i := 22) (oi := ⟨some 75, _, _, _, _, _⟩) (v := ?_) rfl (by kernel_rfl) (by kernel_rfl) (by kernel_rfl) (fun _ _ _ h => h) (Or.inl ⟨by first | rfl | simp [Region.wanted, yielded], ?_⟩) hHeld ?_
        rotate_left
        · intro w hSw; go_simp; try with_reducible rfl
        try simp only [Act.put, List.setIfInBounds_toArray, List.set_cons_zero, List.set_cons_succ]
        refine wpAnyH_take (i := 23) (oi := ⟨some 4, _, _, _, _, _⟩) (v := ?_) rfl (by kernel_rfl) (by kernel_rfl) (by kernel_rfl) (fun _ _ _ h => h) (Or.inl ⟨by first | rfl | simp [Region.wanted, yielded], ?_⟩) hHeld ?_
        rotate_left
        · intro w hSw; go_simp; try with_reducible rfl
        try simp only [Act.put, List.setIfInBounds_toArray, List.set_cons_zero, List.set_cons_succ]
        refine wpAnyH_done (by kernel_rfl) ?_ _
        go_wp2_with fail
        go_ret
        exact ⟨by simp, bv3⟩
theorem hubTells_in (w : World) (h : Hv) (s : Nat → Fd) (hh : HbAt w h s) (g : Hv) (t : Nat → Fd) (hg : HbAt w g t) : Calls Try.prog 3 #[h.v, g.v] w (BoolOut w true) := hubTells_any h g s t w hh hg
end Go.Proofs.Ytcccgjpmfbmplaa
