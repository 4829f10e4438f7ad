/- The walk of the law HubDoes. -/
import Derived.Test.YtcccgjpmfbmplaaHuI
import Derived.Test.YtcccgjpmfbmplaaInH
set_option linter.unusedSimpArgs false
set_option linter.unusedVariables false
namespace Go.Proofs.Ytcccgjpmfbmplaa
open Go.RowKit

set_option maxRecDepth 100000 in
set_option maxHeartbeats 4000000 in
theorem hubDoes_any (h : Hv) (s : Nat → Fd) (c : Int) (a : Option Addr) (cap : Nat) (l : List UInt8) (w : World) (hh : HbAt w h s) (hl : BytesAt w a l) : Calls Try.prog 4 #[h.v, .int .i64 c, .slice a l.length cap] w (BoolOut w true) := by
  have HI := Lib.hid hub_size
  have Hsh := Lib.hid shown09
  have FA := Lib.hid (fun W => fewH_any h (hub_len hh) W)
  have RR := Lib.hid (fun W (hb : Below w.heap.size w W) => refHubRight_any h s W (hh.mono hb))
  have K1 := Lib.hid (fun W => raise_any h c W)
  have K2 := Lib.hid (fun W => refRaise_any h c W)
  have K3 := Lib.hid (fun W => cut_any h c W)
  have K4 := Lib.hid (fun W => refCut_any h c W)
  have K5 := Lib.hid (fun (hr : rightH h s = true) (hlen : l.length ≤ 2000) W (hb : Below w.heap.size w W) => hubPush_out c a cap l W (hh.mono hb) (right_feed hr) (hl.mono hb) (by omega))
  have K6 := Lib.hid (fun (hr : rightH h s = true) (hlen : l.length ≤ 2000) W (hb : Below w.heap.size w W) => refHubPush_out c a cap l W (hh.mono hb) (right_feed hr) (hl.mono hb) (by omega))
  have S1 := Lib.hid (fun W (hb : Below w.heap.size w W) => (show Calls Try.prog 13 #[(raiseF h c).1.v, (raiseF h c).1.v] W (BoolOut W true) from (refHubSame_any _ _ _ _ W (raise_at (hh.mono hb) c) (raise_at (hh.mono hb) c)).mono fun e w' ⟨p, q⟩ => ⟨by rw [p, sameH_refl rfl rfl rfl], q⟩))
  have S2 := Lib.hid (fun W (hb : Below w.heap.size w W) => (show Calls Try.prog 13 #[(cutF h c).1.v, (cutF h c).1.v] W (BoolOut W true) from (refHubSame_any _ _ _ _ W (turned_at (hh.mono hb) c false) (turned_at (hh.mono hb) c false)).mono fun e w' ⟨p, q⟩ => ⟨by rw [p, sameH_refl rfl rfl rfl], q⟩))
  have S3 := Lib.hid (fun (p q : Hv) (s2 : Nat → Fd) W (h1 : p.u = h.u ∧ p.l = h.l ∧ p.nx = h.nx) (h2 : q.u = h.u ∧ q.l = h.l ∧ q.nx = h.nx) (h3 : HbAt W p s2) (h4 : HbAt W q s2) => (show Calls Try.prog 13 #[p.v, q.v] W (BoolOut W true) from (refHubSame_any p q s2 s2 W h3 h4).mono fun e w' ⟨r, t⟩ => ⟨by rw [r, sameH_refl (h1.1.trans h2.1.symm) (h1.2.1.trans h2.2.1.symm) (h1.2.2.trans h2.2.2.symm)], t⟩))
  have S4 := Lib.hid (fun (rows : List (List UInt8)) (p q : Option Addr) (j k : Nat) W (hm : rows.length ≤ maxLen) (h1 : RowsAt W p rows) (h2 : RowsAt W q rows) => (show Calls Try.prog 24 #[.slice p rows.length j, .slice q rows.length k] W (BoolOut W true) from (rows_any p q j k rows rows W hm hm h1 h2).mono fun e w' ⟨r, t⟩ => ⟨by rw [r, beq_self_eq_true], t⟩))
  obtain ⟨fa, hfa⟩ : ∃ x, x = fewH h := ⟨_, rfl⟩
  obtain ⟨rt, hrt⟩ : ∃ x, x = rightH h s := ⟨_, rfl⟩
  obtain ⟨⟨hr, er⟩, h1⟩ : ∃ x, x = raiseF h c := ⟨_, rfl⟩
  obtain ⟨⟨hc, ec⟩, h2⟩ : ∃ x, x = cutF h c := ⟨_, rfl⟩
  obtain ⟨ep, h3⟩ : ∃ x, x = pushE h c := ⟨_, rfl⟩
  obtain ⟨s2, h4⟩ : ∃ x, x = pushS h s c l := ⟨_, rfl⟩
  obtain ⟨rows, h5⟩ : ∃ x, x = pushR h s c l := ⟨_, rfl⟩
  rw [← hfa] at FA
  rw [← hrt] at RR K5 K6
  rw [← h1] at K1 K2 S1
  rw [← h2] at K3 K4 S2
  rw [← h3, ← h4, ← h5] at K5 K6
  clear hfa hrt h1 h2 h3 h4 h5 hh hl
  generalize l.length = n at *
  by_cases hn : (2000 : Int) < (n : Int)
  · clear K1 K2 K3 K4 K5 K6 S1 S2 S3 S4
    go_enter Try.func4, Try.ntmps4
    go_upto_region 1 with (fail)
    generalize hW : World.alloc w _ = W
    have B3 := Lib.hid (show BlkT 29 W w.heap.size h.L by rw [← hW]; exact BlkT.new w h.L _)
    have G := Lib.hid (show Below w.heap.size w W by rw [← hW]; exact ba w _)
    clear hW
    obtain ⟨b3, hb3⟩ : ∃ b, b = w.heap.size := ⟨_, rfl⟩
    rw [← hb3] at B3
    simp only [← hb3]
    have Hb3 := Lib.hid hb3
    clear hb3
    go_wp2_with fail
    refine (Hsh.out _).mono ?_; rintro e y1 ⟨rfl, hb⟩
    replace B3 := Lib.hid (B3.out.up hb)
    replace G := Lib.hid (bt G.out hb)
    clear hb
    go_wp2_with (first
            | (refine wpList_load_blk 29 (.tmp 3) b3 (cs := h.L) rfl rfl rfl B3.out.blk Try.underlying29 rfl HI.out ?_)
            | (refine wpList_load_blkG 29 (.tmp 3) b3 (cs := h.L) (by first | rfl | simp [Region.wanted, yielded]) rfl rfl B3.out.blk Try.underlying29 rfl HI.out ?_))
    refine (FA.out _).mono ?_; rintro e y2 ⟨rfl, hb⟩
    replace B3 := Lib.hid (B3.out.up hb)
    replace G := Lib.hid (bt G.out hb)
    clear hb
    rcases fa with _ | _
    · go_wp2_with fail
      go_ret
      exact ⟨rfl, G.out⟩
    go_wp2_with (first
            | (refine wpList_load_blk 29 (.tmp 3) b3 (cs := h.L) rfl rfl rfl B3.out.blk Try.underlying29 rfl HI.out ?_)
            | (refine wpList_load_blkG 29 (.tmp 3) b3 (cs := h.L) (by first | rfl | simp [Region.wanted, yielded]) rfl rfl B3.out.blk Try.underlying29 rfl HI.out ?_))
    refine (RR.out _ G.out).mono ?_; rintro e y3 ⟨rfl, hb⟩
    replace B3 := Lib.hid (B3.out.up hb)
    replace G := Lib.hid (bt G.out hb)
    clear hb
    rcases rt with _ | _
    · go_wp2_with fail
      go_ret
      exact ⟨rfl, G.out⟩
    go_wp2_with fail
    go_ret
    exact ⟨rfl, G.out⟩
  go_enter Try.func4, Try.ntmps4
  go_upto_region 1 with (fail)
  generalize hW : World.alloc w _ = W
  have B3 := Lib.hid (show BlkT 29 W w.heap.size h.L by rw [← hW]; exact BlkT.new w h.L _)
  have G := Lib.hid (show Below w.heap.size w W by rw [← hW]; exact ba w _)
  clear hW
  obtain ⟨b3, hb3⟩ : ∃ b, b = w.heap.size := ⟨_, rfl⟩
  rw [← hb3] at B3
  simp only [← hb3]
  have Hb3 := Lib.hid hb3
  clear hb3
  go_wp2_with fail
  refine (Hsh.out _).mono ?_; rintro e y1 ⟨rfl, hb⟩
  replace B3 := Lib.hid (B3.out.up hb)
  replace G := Lib.hid (bt G.out hb)
  clear hb
  go_wp2_with (first
        | (refine wpList_load_blk 29 (.tmp 3) b3 (cs := h.L) rfl rfl rfl B3.out.blk Try.underlying29 rfl HI.out ?_)
        | (refine wpList_load_blkG 29 (.tmp 3) b3 (cs := h.L) (by first | rfl | simp [Region.wanted, yielded]) rfl rfl B3.out.blk Try.underlying29 rfl HI.out ?_))
  refine (FA.out _).mono ?_; rintro e y2 ⟨rfl, hb⟩
  replace B3 := Lib.hid (B3.out.up hb)
  replace G := Lib.hid (bt G.out hb)
  clear hb
  rcases fa with _ | _
  · go_wp2_with fail
    go_ret
    exact ⟨rfl, G.out⟩
  go_wp2_with (first
        | (refine wpList_load_blk 29 (.tmp 3) b3 (cs := h.L) rfl rfl rfl B3.out.blk Try.underlying29 rfl HI.out ?_)
        | (refine wpList_load_blkG 29 (.tmp 3) b3 (cs := h.L) (by first | rfl | simp [Region.wanted, yielded]) rfl rfl B3.out.blk Try.underlying29 rfl HI.out ?_))
  refine (RR.out _ G.out).mono ?_; rintro e y3 ⟨rfl, hb⟩
  replace B3 := Lib.hid (B3.out.up hb)
  replace G := Lib.hid (bt G.out hb)
  clear hb
  rcases rt with _ | _
  · go_wp2_with fail
    go_ret
    exact ⟨rfl, G.out⟩
  have Hn := Lib.hid (show n ≤ 2000 by omega)
  have P5 := Lib.hid (K5.out (by first | rfl | trivial) Hn.out)
  have P6 := Lib.hid (K6.out (by first | rfl | trivial) Hn.out)
  clear K5 K6
  go_upto_region 4 with (fail)
  go_cut [9, 8] (fun v9 v8 wx => ∃ b8 : Nat, v9 = .int .i64 er ∧ v8 = .pointer (some ⟨b8, 0, none⟩) ∧ BlkT 29 wx b8 hr.L ∧ BlkT 29 wx b3 h.L ∧ Below w.heap.size w wx)
  case first =>
    go_wp2_with (first
          | (refine wpList_load_blk 29 (.tmp 3) b3 (cs := h.L) rfl rfl rfl B3.out.blk Try.underlying29 rfl HI.out ?_)
          | (refine wpList_load_blkG 29 (.tmp 3) b3 (cs := h.L) (by first | rfl | simp [Region.wanted, yielded]) rfl rfl B3.out.blk Try.underlying29 rfl HI.out ?_))
    refine (K1.out _).mono ?_; rintro e wn ⟨rfl, hb⟩
    go_wp2_with (refine wpList_store_blk 29 (.tmp 8) (.tmp 41) _ (old := zeroL) (cs := hr.L) rfl rfl rfl rfl (Blk.new _ _ _) HI.out rfl rfl ?_)
    go_meet
    exact ⟨_, rfl, rfl, lay_blk _ _ _ _, (B3.out.up (bt hb (lay_below _ _ _ _))), (bt G.out (bt hb (lay_below _ _ _ _)))⟩
  case rest =>
    obtain ⟨b8, rfl, rfl, hB8, hB3, hG⟩ := hcut
    have B8 := Lib.hid hB8
    replace B3 := Lib.hid hB3
    replace G := Lib.hid hG
    clear hB8 hB3 hG
    go_upto_region 5 with (fail)
    go_cut [11, 10] (fun v11 v10 wx => ∃ b10 : Nat, v11 = .int .i64 er ∧ v10 = .pointer (some ⟨b10, 0, none⟩) ∧ BlkT 29 wx b10 hr.L ∧ BlkT 29 wx b3 h.L ∧ BlkT 29 wx b8 hr.L ∧ Below w.heap.size w wx)
    case first =>
      go_wp2_with (first
              | (refine wpList_load_blk 29 (.tmp 3) b3 (cs := h.L) rfl rfl rfl B3.out.blk Try.underlying29 rfl HI.out ?_)
              | (refine wpList_load_blkG 29 (.tmp 3) b3 (cs := h.L) (by first | rfl | simp [Region.wanted, yielded]) rfl rfl B3.out.blk Try.underlying29 rfl HI.out ?_))
      refine (K2.out _).mono ?_; rintro e wn ⟨rfl, hb⟩
      go_wp2_with (refine wpList_store_blk 29 (.tmp 10) (.tmp 47) _ (old := zeroL) (cs := hr.L) rfl rfl rfl rfl (Blk.new _ _ _) HI.out rfl rfl ?_)
      go_meet
      exact ⟨_, rfl, rfl, lay_blk _ _ _ _, (B3.out.up (bt hb (lay_below _ _ _ _))), (B8.out.up (bt hb (lay_below _ _ _ _))), (bt G.out (bt hb (lay_below _ _ _ _)))⟩
    case rest =>
      obtain ⟨b10, rfl, rfl, hB10, hB3, hB8, hG⟩ := hcut
      have B10 := Lib.hid hB10
      replace B3 := Lib.hid hB3
      replace B8 := Lib.hid hB8
      replace G := Lib.hid hG
      clear hB10 hB3 hB8 hG
      go_upto_region 6 with (fail)
      go_cut [13, 12] (fun v13 v12 wx => ∃ b12 : Nat, v13 = .int .i64 ec ∧ v12 = .pointer (some ⟨b12, 0, none⟩) ∧ BlkT 29 wx b12 hc.L ∧ BlkT 29 wx b3 h.L ∧ BlkT 29 wx b8 hr.L ∧ BlkT 29 wx b10 hr.L ∧ Below w.heap.size w wx)
      case first =>
        go_wp2_with (first
                  | (refine wpList_load_blk 29 (.tmp 3) b3 (cs := h.L) rfl rfl rfl B3.out.blk Try.underlying29 rfl HI.out ?_)
                  | (refine wpList_load_blkG 29 (.tmp 3) b3 (cs := h.L) (by first | rfl | simp [Region.wanted, yielded]) rfl rfl B3.out.blk Try.underlying29 rfl HI.out ?_))
        refine (K3.out _).mono ?_; rintro e wn ⟨rfl, hb⟩
        go_wp2_with (refine wpList_store_blk 29 (.tmp 12) (.tmp 53) _ (old := zeroL) (cs := hc.L) rfl rfl rfl rfl (Blk.new _ _ _) HI.out rfl rfl ?_)
        go_meet
        exact ⟨_, rfl, rfl, lay_blk _ _ _ _, (B3.out.up (bt hb (lay_below _ _ _ _))), (B8.out.up (bt hb (lay_below _ _ _ _))), (B10.out.up (bt hb (lay_below _ _ _ _))), (bt G.out (bt hb (lay_below _ _ _ _)))⟩
      case rest =>
        obtain ⟨b12, rfl, rfl, hB12, hB3, hB8, hB10, hG⟩ := hcut
        have B12 := Lib.hid hB12
        replace B3 := Lib.hid hB3
        replace B8 := Lib.hid hB8
        replace B10 := Lib.hid hB10
        replace G := Lib.hid hG
        clear hB12 hB3 hB8 hB10 hG
        go_upto_region 7 with (fail)
        go_cut [15, 14] (fun v15 v14 wx => ∃ b14 : Nat, v15 = .int .i64 ec ∧ v14 = .pointer (some ⟨b14, 0, none⟩) ∧ BlkT 29 wx b14 hc.L ∧ BlkT 29 wx b3 h.L ∧ BlkT 29 wx b8 hr.L ∧ BlkT 29 wx b10 hr.L ∧ BlkT 29 wx b12 hc.L ∧ Below w.heap.size w wx)
        case first =>
          go_wp2_with (first
                      | (refine wpList_load_blk 29 (.tmp 3) b3 (cs := h.L) rfl rfl rfl B3.out.blk Try.underlying29 rfl HI.out ?_)
                      | (refine wpList_load_blkG 29 (.tmp 3) b3 (cs := h.L) (by first | rfl | simp [Region.wanted, yielded]) rfl rfl B3.out.blk Try.underlying29 rfl HI.out ?_))
          refine (K4.out _).mono ?_; rintro e wn ⟨rfl, hb⟩
          go_wp2_with (refine wpList_store_blk 29 (.tmp 14) (.tmp 59) _ (old := zeroL) (cs := hc.L) rfl rfl rfl rfl (Blk.new _ _ _) HI.out rfl rfl ?_)
          go_meet
          exact ⟨_, rfl, rfl, lay_blk _ _ _ _, (B3.out.up (bt hb (lay_below _ _ _ _))), (B8.out.up (bt hb (lay_below _ _ _ _))), (B10.out.up (bt hb (lay_below _ _ _ _))), (B12.out.up (bt hb (lay_below _ _ _ _))), (bt G.out (bt hb (lay_below _ _ _ _)))⟩
        case rest =>
          obtain ⟨b14, rfl, rfl, hB14, hB3, hB8, hB10, hB12, hG⟩ := hcut
          have B14 := Lib.hid hB14
          replace B3 := Lib.hid hB3
          replace B8 := Lib.hid hB8
          replace B10 := Lib.hid hB10
          replace B12 := Lib.hid hB12
          replace G := Lib.hid hG
          clear hB14 hB3 hB8 hB10 hB12 hG
          go_upto_region 8 with (fail)
          go_cut [17, 18, 16] (fun v17 v18 v16 wx => ∃ hx : Hv, ∃ ax : Option Addr, ∃ kx : Nat, ∃ b16 : Nat, v17 = .slice ax rows.length kx ∧ v18 = .int .i64 ep ∧ v16 = .pointer (some ⟨b16, 0, none⟩) ∧ BlkT 29 wx b16 hx.L ∧ BlkT 29 wx b3 h.L ∧ BlkT 29 wx b8 hr.L ∧ BlkT 29 wx b10 hr.L ∧ BlkT 29 wx b12 hc.L ∧ BlkT 29 wx b14 hc.L ∧ Below w.heap.size w wx ∧ (hx.u = h.u ∧ hx.l = h.l ∧ hx.nx = h.nx) ∧ HbAt wx hx s2 ∧ RowsAt wx ax rows ∧ rows.length ≤ maxLen)
          case first =>
            go_wp2_with (first
                          | (refine wpList_load_blk 29 (.tmp 3) b3 (cs := h.L) rfl rfl rfl B3.out.blk Try.underlying29 rfl HI.out ?_)
                          | (refine wpList_load_blkG 29 (.tmp 3) b3 (cs := h.L) (by first | rfl | simp [Region.wanted, yielded]) rfl rfl B3.out.blk Try.underlying29 rfl HI.out ?_))
            refine (P5.out _ G.out).mono ?_; rintro e wn ⟨hx, ax, kx, rfl, hEx, hFx, hRx, hMx, hb⟩
            go_wp2_with (refine wpList_store_blk 29 (.tmp 16) (.tmp 66) _ (old := zeroL) (cs := hx.L) rfl rfl rfl rfl (Blk.new _ _ _) HI.out rfl rfl ?_)
            go_meet
            exact ⟨hx, ax, kx, _, rfl, rfl, rfl, lay_blk _ _ _ _, (B3.out.up (bt hb (lay_below _ _ _ _))), (B8.out.up (bt hb (lay_below _ _ _ _))), (B10.out.up (bt hb (lay_below _ _ _ _))), (B12.out.up (bt hb (lay_below _ _ _ _))), (B14.out.up (bt hb (lay_below _ _ _ _))), (bt G.out (bt hb (lay_below _ _ _ _))), hEx, (hFx).mono (lay_below _ _ _ _), (hRx).mono (lay_below _ _ _ _), hMx⟩
          case rest =>
            obtain ⟨hx, ax, kx, b16, rfl, rfl, rfl, hB16, hB3, hB8, hB10, hB12, hB14, hG, hEx, hFx, hRx, hMx⟩ := hcut
            have B16 := Lib.hid hB16
            replace B3 := Lib.hid hB3
            replace B8 := Lib.hid hB8
            replace B10 := Lib.hid hB10
            replace B12 := Lib.hid hB12
            replace B14 := Lib.hid hB14
            replace G := Lib.hid hG
            have Ex := Lib.hid hEx
            have Fx := Lib.hid hFx
            have Rx := Lib.hid hRx
            have Mx := Lib.hid hMx
            clear hB16 hB3 hB8 hB10 hB12 hB14 hG hEx hFx hRx hMx
            go_upto_region 9 with (fail)
            go_cut [20, 21, 19] (fun v20 v21 v19 wx => ∃ hy : Hv, ∃ ay : Option Addr, ∃ ky : Nat, ∃ b19 : Nat, v20 = .slice ay rows.length ky ∧ v21 = .int .i64 ep ∧ v19 = .pointer (some ⟨b19, 0, none⟩) ∧ BlkT 29 wx b19 hy.L ∧ BlkT 29 wx b3 h.L ∧ BlkT 29 wx b8 hr.L ∧ BlkT 29 wx b10 hr.L ∧ BlkT 29 wx b12 hc.L ∧ BlkT 29 wx b14 hc.L ∧ BlkT 29 wx b16 hx.L ∧ Below w.heap.size w wx ∧ HbAt wx hx s2 ∧ RowsAt wx ax rows ∧ (hy.u = h.u ∧ hy.l = h.l ∧ hy.nx = h.nx) ∧ HbAt wx hy s2 ∧ RowsAt wx ay rows ∧ rows.length ≤ maxLen)
            case first =>
              go_wp2_with (first
                              | (refine wpList_load_blk 29 (.tmp 3) b3 (cs := h.L) rfl rfl rfl B3.out.blk Try.underlying29 rfl HI.out ?_)
                              | (refine wpList_load_blkG 29 (.tmp 3) b3 (cs := h.L) (by first | rfl | simp [Region.wanted, yielded]) rfl rfl B3.out.blk Try.underlying29 rfl HI.out ?_))
              refine (P6.out _ G.out).mono ?_; rintro e wn ⟨hy, ay, ky, rfl, hEy, hFy, hRy, hMy, hb⟩
              go_wp2_with (refine wpList_store_blk 29 (.tmp 19) (.tmp 74) _ (old := zeroL) (cs := hy.L) rfl rfl rfl rfl (Blk.new _ _ _) HI.out rfl rfl ?_)
              go_meet
              exact ⟨hy, ay, ky, _, rfl, rfl, rfl, lay_blk _ _ _ _, (B3.out.up (bt hb (lay_below _ _ _ _))), (B8.out.up (bt hb (lay_below _ _ _ _))), (B10.out.up (bt hb (lay_below _ _ _ _))), (B12.out.up (bt hb (lay_below _ _ _ _))), (B14.out.up (bt hb (lay_below _ _ _ _))), (B16.out.up (bt hb (lay_below _ _ _ _))), (bt G.out (bt hb (lay_below _ _ _ _))), (Fx.out.mono (bt hb (lay_below _ _ _ _))), (Rx.out.mono (bt hb (lay_below _ _ _ _))), hEy, (hFy).mono (lay_below _ _ _ _), (hRy).mono (lay_below _ _ _ _), hMy⟩
            case rest =>
              obtain ⟨hy, ay, ky, b19, rfl, rfl, rfl, hB19, hB3, hB8, hB10, hB12, hB14, hB16, hG, hFx, hRx, hEy, hFy, hRy, hMy⟩ := hcut
              have B19 := Lib.hid hB19
              replace B3 := Lib.hid hB3
              replace B8 := Lib.hid hB8
              replace B10 := Lib.hid hB10
              replace B12 := Lib.hid hB12
              replace B14 := Lib.hid hB14
              replace B16 := Lib.hid hB16
              replace G := Lib.hid hG
              replace Fx := Lib.hid hFx
              replace Rx := Lib.hid hRx
              have Ey := Lib.hid hEy
              have Fy := Lib.hid hFy
              have Ry := Lib.hid hRy
              have My := Lib.hid hMy
              clear hB19 hB3 hB8 hB10 hB12 hB14 hB16 hG hFx hRx hEy hFy hRy hMy
              go_wp2_with (first
                                | (refine wpList_load_blk 29 (.tmp 8) b8 (cs := hr.L) rfl rfl rfl B8.out.blk Try.underlying29 rfl HI.out ?_)
                                | (refine wpList_load_blk 29 (.tmp 10) b10 (cs := hr.L) rfl rfl rfl B10.out.blk Try.underlying29 rfl HI.out ?_)
                                | (refine wpList_load_blkG 29 (.tmp 8) b8 (cs := hr.L) (by first | rfl | simp [Region.wanted, yielded]) rfl rfl B8.out.blk Try.underlying29 rfl HI.out ?_)
                                | (refine wpList_load_blkG 29 (.tmp 10) b10 (cs := hr.L) (by first | rfl | simp [Region.wanted, yielded]) rfl rfl B10.out.blk Try.underlying29 rfl HI.out ?_))
              refine (S1.out _ G.out).mono ?_; rintro e y4 ⟨rfl, hb⟩
              replace B3 := Lib.hid (B3.out.up hb)
              replace B8 := Lib.hid (B8.out.up hb)
              replace B10 := Lib.hid (B10.out.up hb)
              replace B12 := Lib.hid (B12.out.up hb)
              replace B14 := Lib.hid (B14.out.up hb)
              replace B16 := Lib.hid (B16.out.up hb)
              replace B19 := Lib.hid (B19.out.up hb)
              replace G := Lib.hid (bt G.out hb)
              replace Fx := Lib.hid (Fx.out.mono hb)
              replace Rx := Lib.hid (Rx.out.mono hb)
              replace Fy := Lib.hid (Fy.out.mono hb)
              replace Ry := Lib.hid (Ry.out.mono hb)
              clear hb
              go_wp2_with (first
                                | (refine wpList_load_blk 29 (.tmp 12) b12 (cs := hc.L) rfl rfl rfl B12.out.blk Try.underlying29 rfl HI.out ?_)
                                | (refine wpList_load_blk 29 (.tmp 14) b14 (cs := hc.L) rfl rfl rfl B14.out.blk Try.underlying29 rfl HI.out ?_)
                                | (refine wpList_load_blkG 29 (.tmp 12) b12 (cs := hc.L) (by first | rfl | simp [Region.wanted, yielded]) rfl rfl B12.out.blk Try.underlying29 rfl HI.out ?_)
                                | (refine wpList_load_blkG 29 (.tmp 14) b14 (cs := hc.L) (by first | rfl | simp [Region.wanted, yielded]) rfl rfl B14.out.blk Try.underlying29 rfl HI.out ?_))
              refine (S2.out _ G.out).mono ?_; rintro e y5 ⟨rfl, hb⟩
              replace B12 := Lib.hid (B12.out.up hb)
              replace B14 := Lib.hid (B14.out.up hb)
              replace B16 := Lib.hid (B16.out.up hb)
              replace B19 := Lib.hid (B19.out.up hb)
              replace G := Lib.hid (bt G.out hb)
              replace Fx := Lib.hid (Fx.out.mono hb)
              replace Rx := Lib.hid (Rx.out.mono hb)
              replace Fy := Lib.hid (Fy.out.mono hb)
              replace Ry := Lib.hid (Ry.out.mono hb)
              clear hb
              go_wp2_with (first
                                | (refine wpList_load_blk 29 (.tmp 16) b16 (cs := hx.L) rfl rfl rfl B16.out.blk Try.underlying29 rfl HI.out ?_)
                                | (refine wpList_load_blk 29 (.tmp 19) b19 (cs := hy.L) rfl rfl rfl B19.out.blk Try.underlying29 rfl HI.out ?_)
                                | (refine wpList_load_blkG 29 (.tmp 16) b16 (cs := hx.L) (by first | rfl | simp [Region.wanted, yielded]) rfl rfl B16.out.blk Try.underlying29 rfl HI.out ?_)
                                | (refine wpList_load_blkG 29 (.tmp 19) b19 (cs := hy.L) (by first | rfl | simp [Region.wanted, yielded]) rfl rfl B19.out.blk Try.underlying29 rfl HI.out ?_))
              refine (S3.out hx hy s2 _ Ex.out Ey.out Fx.out Fy.out).mono ?_; rintro e y6 ⟨rfl, hb⟩
              replace B16 := Lib.hid (B16.out.up hb)
              replace B19 := Lib.hid (B19.out.up hb)
              replace G := Lib.hid (bt G.out hb)
              replace Fx := Lib.hid (Fx.out.mono hb)
              replace Rx := Lib.hid (Rx.out.mono hb)
              replace Fy := Lib.hid (Fy.out.mono hb)
              replace Ry := Lib.hid (Ry.out.mono hb)
              clear hb
              go_wp2_with fail
              refine (S4.out rows ax ay kx ky _ Mx.out Rx.out Ry.out).mono ?_; rintro e y7 ⟨rfl, hb⟩
              replace G := Lib.hid (bt G.out hb)
              replace Fx := Lib.hid (Fx.out.mono hb)
              replace Rx := Lib.hid (Rx.out.mono hb)
              replace Fy := Lib.hid (Fy.out.mono hb)
              replace Ry := Lib.hid (Ry.out.mono hb)
              clear hb
              go_wp2_with fail
              go_ret
              exact ⟨by simp, G.out⟩
theorem hubDoes_in (w : World) (h : Hv) (s : Nat → Fd) (hh : HbAt w h s) (c : Int) (wc : (Lit.int .i64 c).wf = true) (a : Option Addr) (n cap : Nat) (l : List UInt8) (hl : InBytes w a n cap l) : Calls Try.prog 4 #[h.v, .int .i64 c, .slice a n cap] w (BoolOut w true) := by
  obtain ⟨rfl, u1, u2, u3⟩ := hl
  exact hubDoes_any h s c a cap l w hh u3
end Go.Proofs.Ytcccgjpmfbmplaa
