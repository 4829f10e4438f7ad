/- The walk of the law HubApart. -/
import Derived.Test.YtcccgjpmfbmplaaHuN
set_option linter.unusedSimpArgs false
set_option linter.unusedVariables false
namespace Go.Proofs.Ytcccgjpmfbmplaa
open Go.RowKit

set_option maxRecDepth 100000 in
set_option maxHeartbeats 4000000 in
theorem hubApart_B2 (h : Hv) (s : Nat → Fd) (c : Int) (a : Option Addr) (cap : Nat) (l : List UInt8) (ot : Nat) (w : World) (hot : ot < 256) (hh : HbAt w h s) (hl : BytesAt w a l) (hml : l.length ≤ maxLen) (q1 : isC c = true) (q2 : h.u c.toNat = true) (q3 : ((ot % 4 : Nat) : Int) ≠ c) :
    Calls Try.prog 6 #[apartV h c (.slice a l.length cap) ot] w (BoolOut w true) := by
  have HI := Lib.hid hub_size
  have Q1 := Lib.hid q1
  have Q2 := Lib.hid q2
  have Q3 := Lib.hid q3
  clear q1 q2 q3
  have Hsh := Lib.hid shown09
  obtain ⟨K, hKe⟩ : ∃ K, K = ot % 4 := ⟨_, rfl⟩
  have hK : K < 4 := by rw [hKe]; exact Nat.mod_lt _ (by decide)
  have hm : (ot : Int) % 4 = (K : Int) := by rw [hKe]; omega
  have hm2 : (ot : Int).tmod 4 = (K : Int) := by rw [Int.tmod_eq_emod_of_nonneg (by omega), hm]
  have HKe := Lib.hid hKe
  have FA := Lib.hid (fun W => fewH_any h (hub_len hh) W)
  have RR := Lib.hid (fun W (hb : Below w.heap.size w W) => refHubRight_any h s W (hh.mono hb))
  have K1 := Lib.hid (fun W => raise_any h c W)
  have K3 := Lib.hid (fun W => cut_any h c W)
  have K5 := Lib.hid (fun (hr : rightH h s = true) (hlen : l.length ≤ 2000) W (hb : Below w.heap.size w W) => hubPush_out c a cap l W (hh.mono hb) (right_feed hr) (hl.mono hb) (by omega))
  have RX := Lib.hid (fun (hr : rightH h s = true) W (hb : Below w.heap.size w W) => (show Calls Try.prog 10 #[(raiseF h c).1.v] W (BoolOut W true) from (refHubRight_any _ _ W (raise_at (hh.mono hb) c)).mono fun e w' ⟨p, q⟩ => ⟨by rw [p, raise_right hr c], q⟩))
  have RY := Lib.hid (fun (hr : rightH h s = true) W (hb : Below w.heap.size w W) => (show Calls Try.prog 10 #[(cutF h c).1.v] W (BoolOut W true) from (refHubRight_any _ _ W (turned_at (hh.mono hb) c false)).mono fun e w' ⟨p, q⟩ => ⟨by rw [p]; exact congrArg (fun x => Ending.returned (.bool x)) (turned_right hr c false), q⟩))
  have RZ := Lib.hid (fun (hr : rightH h s = true) (p : Hv) W (hp : p.u = h.u ∧ p.l = h.l ∧ p.nx = h.nx) (ha : HbAt W p (pushS h s c l)) => (show Calls Try.prog 10 #[p.v] W (BoolOut W true) from (refHubRight_any _ _ W ha).mono fun e w' ⟨q, r⟩ => ⟨by rw [q, push_right hr c l p hp.1 hp.2.2], r⟩))
  have SX := Lib.hid (fun W (hb : Below w.heap.size w W) => (show Calls Try.prog 13 #[h.v, h.v] W (BoolOut W true) from (refHubSame_any h h s s W (hh.mono hb) (hh.mono hb)).mono fun e w' ⟨p, q⟩ => ⟨by rw [p, sameH_refl rfl rfl rfl], q⟩))
  have SZ := Lib.hid (fun (he : pushE h c ≠ 0) (p : Hv) W (hb : Below w.heap.size w W) (hp : p.u = h.u ∧ p.l = h.l ∧ p.nx = h.nx) (ha : HbAt W p (pushS h s c l)) => (show Calls Try.prog 13 #[p.v, h.v] W (BoolOut W true) from by
    have e : pushS h s c l = s := by
      unfold pushS
      rw [show (pushE h c == 0) = false from by rw [beq_eq_false_iff_ne]; exact he]; rfl
    rw [e] at ha
    exact (refHubSame_any p h s s W ha (hh.mono hb)).mono fun e w' ⟨q, r⟩ => ⟨by rw [q, sameH_refl hp.1 hp.2.1 hp.2.2], r⟩))
  have L1 := Lib.hid (fun (hi : (K : Int) ≠ c) W (hb : Below w.heap.size w W) => left_yes h (raiseF h c).1 s _ K hK (raise_else h c K hi).1 (raise_else h c K hi).2.1 (by rw [(raise_else h c K hi).2.2.2 s]; exact sameFd_refl _) (raise_else h c K hi).2.2.1 W (hh.mono hb) (raise_at (hh.mono hb) c))
  have L2 := Lib.hid (fun (hi : (K : Int) ≠ c) W (hb : Below w.heap.size w W) => left_yes h (cutF h c).1 s _ K hK (turned_else h c false K hi).1 (turned_else h c false K hi).2.1 (by rw [(turned_else h c false K hi).2.2.2 s]; exact sameFd_refl _) (turned_else h c false K hi).2.2.1 W (hh.mono hb) (turned_at (hh.mono hb) c false))
  have L3 := Lib.hid (fun (hi : (K : Int) ≠ c) (p : Hv) W (hb : Below w.heap.size w W) (hp : p.u = h.u ∧ p.l = h.l ∧ p.nx = h.nx) (ha : HbAt W p (pushS h s c l)) => left_yes h p s _ K hK (by rw [hp.1]) (by rw [hp.2.1]) (by rw [push_else h s c l K hi]; exact sameFd_refl _) hp.2.2 W (hh.mono hb) ha)
  have T3 := three_ways h c
  have Rn : pushE h c ≠ 0 → pushR h s c l = [] := fun he => by
    unfold pushR
    rw [show (pushE h c == 0) = false from by rw [beq_eq_false_iff_ne]; exact he]; rfl
  obtain ⟨fa, hfa⟩ : ∃ x, x = fewH h := ⟨_, rfl⟩
  obtain ⟨rt, hrt⟩ : ∃ x, x = rightH h s := ⟨_, rfl⟩
  obtain ⟨⟨hr, er⟩, h1⟩ : ∃ x, x = raiseF h c := ⟨_, rfl⟩
  obtain ⟨⟨hc, ec⟩, h2⟩ : ∃ x, x = cutF h c := ⟨_, rfl⟩
  obtain ⟨ep, h3⟩ : ∃ x, x = pushE h c := ⟨_, rfl⟩
  obtain ⟨s2, h4⟩ : ∃ x, x = pushS h s c l := ⟨_, rfl⟩
  obtain ⟨rows, h5⟩ : ∃ x, x = pushR h s c l := ⟨_, rfl⟩
  rw [← hfa] at FA
  rw [← hrt] at RR K5 RX RY RZ
  rw [← h1] at K1 RX L1 T3
  rw [← h2] at K3 RY L2 T3
  rw [← h3] at K5 SZ T3 Rn
  rw [← h4] at K5 RZ SZ L3
  rw [← h5] at K5 Rn
  have HT3 := Lib.hid T3
  have HRn := Lib.hid Rn
  unfold maxLen at hml
  clear hKe hfa hrt h1 h2 h3 h4 h5 hh hl T3 Rn
  generalize l.length = n at *
  go_enter Try.func6, Try.ntmps6
  go_upto_region 1 with (fail)
  generalize hW : World.alloc w _ = W
  have B1 := Lib.hid (show BlkT 51 W w.heap.size (apartL h c (.slice a n cap) ot) by rw [← hW]; exact BlkT.new w (apartL h c (.slice a n cap) ot) _)
  have G := Lib.hid (show Below w.heap.size w W by rw [← hW]; exact ba w _)
  clear hW
  obtain ⟨b1, hb1⟩ : ∃ b, b = w.heap.size := ⟨_, rfl⟩
  rw [← hb1] at B1
  simp only [← hb1]
  have Hb1 := Lib.hid hb1
  clear hb1
  go_cut [3] (fun v3 wx => ∃ b3 : Nat, v3 = .pointer (some ⟨b3, 0, none⟩) ∧ BlkT 29 wx b3 h.L ∧ BlkT 51 wx b1 (apartL h c (.slice a n cap) ot) ∧ Below w.heap.size w wx)
  case first =>
    go_wp2_with (first | (refine wpList_load_mid rfl 29 (.tmp 16) rfl b1 0 rfl h.L _ (apart_range B1.out) Try.underlying29 rfl HI.out ?_) | (refine wpList_store_blk 29 (.tmp 3) (.tmp 17) _ (old := zeroL) (cs := h.L) rfl rfl rfl rfl (Blk.new _ _ _) HI.out rfl rfl ?_))
    go_meet
    exact ⟨_, rfl, lay_blk _ _ _ _, (B1.out.up (lay_below _ _ _ _)), (bt G.out (lay_below _ _ _ _))⟩
  case rest =>
    obtain ⟨b3, rfl, hB3, hB1, hG⟩ := hcut
    have B3 := Lib.hid hB3
    replace B1 := Lib.hid hB1
    replace G := Lib.hid hG
    clear hB3 hB1 hG
    have l21 := B1.out.blk.cell 21 (by simp)
    have l22 := B1.out.blk.cell 22 (by simp)
    have l23 := B1.out.blk.cell 23 (by simp)
    go_upto_region 5 with (fail)
    clear l21 l22 l23 B1
    go_wp2_with fail
    refine (Hsh.out _).mono ?_; rintro e y1 ⟨rfl, hb⟩
    replace B3 := Lib.hid (B3.out.up hb)
    replace G := Lib.hid (bt G.out hb)
    clear hb
    go_wp2_with (first
            | (refine wpList_load_blk 29 (.tmp 3) b3 (cs := h.L) rfl rfl rfl B3.out.blk Try.underlying29 rfl HI.out ?_)
            | (refine wpList_load_blkG 29 (.tmp 3) b3 (cs := h.L) (by first | rfl | simp [Region.wanted, yielded]) rfl rfl B3.out.blk Try.underlying29 rfl HI.out ?_))
    refine (FA.out _).mono ?_; rintro e y2 ⟨rfl, hb⟩
    replace B3 := Lib.hid (B3.out.up hb)
    replace G := Lib.hid (bt G.out hb)
    clear hb
    rcases fa with _ | _
    · go_wp2_with fail
      go_ret
      exact ⟨rfl, G.out⟩
    go_wp2_with (first
            | (refine wpList_load_blk 29 (.tmp 3) b3 (cs := h.L) rfl rfl rfl B3.out.blk Try.underlying29 rfl HI.out ?_)
            | (refine wpList_load_blkG 29 (.tmp 3) b3 (cs := h.L) (by first | rfl | simp [Region.wanted, yielded]) rfl rfl B3.out.blk Try.underlying29 rfl HI.out ?_))
    refine (RR.out _ G.out).mono ?_; rintro e y3 ⟨rfl, hb⟩
    replace B3 := Lib.hid (B3.out.up hb)
    replace G := Lib.hid (bt G.out hb)
    clear hb
    rcases rt with _ | _
    · go_wp2_with fail
      go_ret
      exact ⟨rfl, G.out⟩
    by_cases hn : (2000 : Int) < n
    · go_wp2_with fail
      go_ret
      exact ⟨rfl, G.out⟩
    have P5 := Lib.hid (K5.out (by first | rfl | trivial) (by omega))
    have QX := Lib.hid (RX.out (by first | rfl | trivial))
    have QY := Lib.hid (RY.out (by first | rfl | trivial))
    have QZ := Lib.hid (RZ.out (by first | rfl | trivial))
    clear K5 RX RY RZ
    go_upto_region 9 with (fail)
    clear hm hm2 hn
    go_cut [10, 9] (fun v10 v9 wx => ∃ b9 : Nat, v10 = .int .i64 er ∧ v9 = .pointer (some ⟨b9, 0, none⟩) ∧ BlkT 29 wx b9 hr.L ∧ BlkT 29 wx b3 h.L ∧ Below w.heap.size w wx)
    case first =>
      go_wp2_with (first
              | (refine wpList_load_blk 29 (.tmp 3) b3 (cs := h.L) rfl rfl rfl B3.out.blk Try.underlying29 rfl HI.out ?_)
              | (refine wpList_load_blkG 29 (.tmp 3) b3 (cs := h.L) (by first | rfl | simp [Region.wanted, yielded]) rfl rfl B3.out.blk Try.underlying29 rfl HI.out ?_))
      refine (K1.out _).mono ?_; rintro e wn ⟨rfl, hb⟩
      go_wp2_with (refine wpList_store_blk 29 (.tmp 9) (.tmp 46) _ (old := zeroL) (cs := hr.L) rfl rfl rfl rfl (Blk.new _ _ _) HI.out rfl rfl ?_)
      go_meet
      exact ⟨_, rfl, rfl, lay_blk _ _ _ _, (B3.out.up (bt hb (lay_below _ _ _ _))), (bt G.out (bt hb (lay_below _ _ _ _)))⟩
    case rest =>
      obtain ⟨b9, rfl, rfl, hB9, hB3, hG⟩ := hcut
      have B9 := Lib.hid hB9
      replace B3 := Lib.hid hB3
      replace G := Lib.hid hG
      clear hB9 hB3 hG
      go_upto_region 10 with (fail)
      go_cut [12, 11] (fun v12 v11 wx => ∃ b11 : Nat, v12 = .int .i64 ec ∧ v11 = .pointer (some ⟨b11, 0, none⟩) ∧ BlkT 29 wx b11 hc.L ∧ BlkT 29 wx b3 h.L ∧ BlkT 29 wx b9 hr.L ∧ Below w.heap.size w wx)
      case first =>
        go_wp2_with (first
                  | (refine wpList_load_blk 29 (.tmp 3) b3 (cs := h.L) rfl rfl rfl B3.out.blk Try.underlying29 rfl HI.out ?_)
                  | (refine wpList_load_blkG 29 (.tmp 3) b3 (cs := h.L) (by first | rfl | simp [Region.wanted, yielded]) rfl rfl B3.out.blk Try.underlying29 rfl HI.out ?_))
        refine (K3.out _).mono ?_; rintro e wn ⟨rfl, hb⟩
        go_wp2_with (refine wpList_store_blk 29 (.tmp 11) (.tmp 52) _ (old := zeroL) (cs := hc.L) rfl rfl rfl rfl (Blk.new _ _ _) HI.out rfl rfl ?_)
        go_meet
        exact ⟨_, rfl, rfl, lay_blk _ _ _ _, (B3.out.up (bt hb (lay_below _ _ _ _))), (B9.out.up (bt hb (lay_below _ _ _ _))), (bt G.out (bt hb (lay_below _ _ _ _)))⟩
      case rest =>
        obtain ⟨b11, rfl, rfl, hB11, hB3, hB9, hG⟩ := hcut
        have B11 := Lib.hid hB11
        replace B3 := Lib.hid hB3
        replace B9 := Lib.hid hB9
        replace G := Lib.hid hG
        clear hB11 hB3 hB9 hG
        go_upto_region 11 with (fail)
        go_cut [14, 15, 13] (fun v14 v15 v13 wx => ∃ hx : Hv, ∃ ax : Option Addr, ∃ kx : Nat, ∃ b13 : Nat, v14 = .slice ax rows.length kx ∧ v15 = .int .i64 ep ∧ v13 = .pointer (some ⟨b13, 0, none⟩) ∧ BlkT 29 wx b13 hx.L ∧ BlkT 29 wx b3 h.L ∧ BlkT 29 wx b9 hr.L ∧ BlkT 29 wx b11 hc.L ∧ Below w.heap.size w wx ∧ (hx.u = h.u ∧ hx.l = h.l ∧ hx.nx = h.nx) ∧ HbAt wx hx s2)
        case first =>
          go_wp2_with (first
                      | (refine wpList_load_blk 29 (.tmp 3) b3 (cs := h.L) rfl rfl rfl B3.out.blk Try.underlying29 rfl HI.out ?_)
                      | (refine wpList_load_blkG 29 (.tmp 3) b3 (cs := h.L) (by first | rfl | simp [Region.wanted, yielded]) rfl rfl B3.out.blk Try.underlying29 rfl HI.out ?_))
          refine (P5.out _ G.out).mono ?_; rintro e wn ⟨hx, ax, kx, rfl, hEx, hFx, -, -, hb⟩
          go_wp2_with (refine wpList_store_blk 29 (.tmp 13) (.tmp 59) _ (old := zeroL) (cs := hx.L) rfl rfl rfl rfl (Blk.new _ _ _) HI.out rfl rfl ?_)
          go_meet
          exact ⟨hx, ax, kx, _, rfl, rfl, rfl, lay_blk _ _ _ _, (B3.out.up (bt hb (lay_below _ _ _ _))), (B9.out.up (bt hb (lay_below _ _ _ _))), (B11.out.up (bt hb (lay_below _ _ _ _))), (bt G.out (bt hb (lay_below _ _ _ _))), hEx, (hFx).mono (lay_below _ _ _ _)⟩
        case rest =>
          obtain ⟨hx, ax, kx, b13, rfl, rfl, rfl, hB13, hB3, hB9, hB11, hG, hEx, hFx⟩ := hcut
          have B13 := Lib.hid hB13
          replace B3 := Lib.hid hB3
          replace B9 := Lib.hid hB9
          replace B11 := Lib.hid hB11
          replace G := Lib.hid hG
          have Ex := Lib.hid hEx
          have Fx := Lib.hid hFx
          clear hB13 hB3 hB9 hB11 hG hEx hFx
          go_wp2_with (first
                        | (refine wpList_load_blk 29 (.tmp 9) b9 (cs := hr.L) rfl rfl rfl B9.out.blk Try.underlying29 rfl HI.out ?_)
                        | (refine wpList_load_blkG 29 (.tmp 9) b9 (cs := hr.L) (by first | rfl | simp [Region.wanted, yielded]) rfl rfl B9.out.blk Try.underlying29 rfl HI.out ?_))
          refine (QX.out _ G.out).mono ?_; rintro e y4 ⟨rfl, hb⟩
          replace B3 := Lib.hid (B3.out.up hb)
          replace B9 := Lib.hid (B9.out.up hb)
          replace B11 := Lib.hid (B11.out.up hb)
          replace B13 := Lib.hid (B13.out.up hb)
          replace G := Lib.hid (bt G.out hb)
          replace Fx := Lib.hid (Fx.out.mono hb)
          clear hb
          go_wp2_with (first
                        | (refine wpList_load_blk 29 (.tmp 11) b11 (cs := hc.L) rfl rfl rfl B11.out.blk Try.underlying29 rfl HI.out ?_)
                        | (refine wpList_load_blkG 29 (.tmp 11) b11 (cs := hc.L) (by first | rfl | simp [Region.wanted, yielded]) rfl rfl B11.out.blk Try.underlying29 rfl HI.out ?_))
          refine (QY.out _ G.out).mono ?_; rintro e y5 ⟨rfl, hb⟩
          replace B3 := Lib.hid (B3.out.up hb)
          replace B9 := Lib.hid (B9.out.up hb)
          replace B11 := Lib.hid (B11.out.up hb)
          replace B13 := Lib.hid (B13.out.up hb)
          replace G := Lib.hid (bt G.out hb)
          replace Fx := Lib.hid (Fx.out.mono hb)
          clear hb
          go_wp2_with (first
                        | (refine wpList_load_blk 29 (.tmp 13) b13 (cs := hx.L) rfl rfl rfl B13.out.blk Try.underlying29 rfl HI.out ?_)
                        | (refine wpList_load_blkG 29 (.tmp 13) b13 (cs := hx.L) (by first | rfl | simp [Region.wanted, yielded]) rfl rfl B13.out.blk Try.underlying29 rfl HI.out ?_))
          refine (QZ.out hx _ Ex.out Fx.out).mono ?_; rintro e y6 ⟨rfl, hb⟩
          replace B3 := Lib.hid (B3.out.up hb)
          replace B9 := Lib.hid (B9.out.up hb)
          replace B11 := Lib.hid (B11.out.up hb)
          replace B13 := Lib.hid (B13.out.up hb)
          replace G := Lib.hid (bt G.out hb)
          replace Fx := Lib.hid (Fx.out.mono hb)
          clear hb
          clear QX QY QZ K1 K3 P5
          rcases HT3.out with ⟨hC, e1, e2, e3⟩ | ⟨hC, hu, e1, e2, e3⟩ | ⟨hC, hu, e1, e2, e3⟩
          · exact absurd (hC.symm.trans Q1.out) (by decide)
          · obtain ⟨e, e4⟩ := Prod.mk.inj e1
            subst e4
            have e5 := e.symm
            subst e5
            subst e3
            have e6 : ec = 0 := e2
            subst e6
            clear HT3 HRn e1 e2 SZ
            go_wp2_with (first
                            | (refine wpList_load_blk 29 (.tmp 3) b3 (cs := h.L) rfl rfl rfl B3.out.blk Try.underlying29 rfl HI.out ?_)
                            | (refine wpList_load_blk 29 (.tmp 9) b9 (cs := h.L) rfl rfl rfl B9.out.blk Try.underlying29 rfl HI.out ?_)
                            | (refine wpList_load_blkG 29 (.tmp 3) b3 (cs := h.L) (by first | rfl | simp [Region.wanted, yielded]) rfl rfl B3.out.blk Try.underlying29 rfl HI.out ?_)
                            | (refine wpList_load_blkG 29 (.tmp 9) b9 (cs := h.L) (by first | rfl | simp [Region.wanted, yielded]) rfl rfl B9.out.blk Try.underlying29 rfl HI.out ?_))
            refine (SX.out _ G.out).mono ?_; rintro e y7 ⟨rfl, hb⟩
            replace B3 := Lib.hid (B3.out.up hb)
            replace B9 := Lib.hid (B9.out.up hb)
            replace B11 := Lib.hid (B11.out.up hb)
            replace B13 := Lib.hid (B13.out.up hb)
            replace G := Lib.hid (bt G.out hb)
            replace Fx := Lib.hid (Fx.out.mono hb)
            clear hb
            have hne : (K : Int) ≠ c := by rw [HKe.out]; exact Q3.out
            have hne' : ((K : Int) == c) = false := by rw [beq_eq_false_iff_ne]; exact hne
            have M1 := Lib.hid (L1.out hne)
            have M2 := Lib.hid (L2.out hne)
            have M3 := Lib.hid (L3.out hne)
            clear L1 L2 L3
            clear hu hC
            go_upto_region 18 with (fail)
            go_wp2_with (first
                            | (refine wpList_load_blk 29 (.tmp 3) b3 (cs := h.L) rfl rfl rfl B3.out.blk Try.underlying29 rfl HI.out ?_)
                            | (refine wpList_load_blk 29 (.tmp 9) b9 (cs := h.L) rfl rfl rfl B9.out.blk Try.underlying29 rfl HI.out ?_)
                            | (refine wpList_load_blkG 29 (.tmp 3) b3 (cs := h.L) (by first | rfl | simp [Region.wanted, yielded]) rfl rfl B3.out.blk Try.underlying29 rfl HI.out ?_)
                            | (refine wpList_load_blkG 29 (.tmp 9) b9 (cs := h.L) (by first | rfl | simp [Region.wanted, yielded]) rfl rfl B9.out.blk Try.underlying29 rfl HI.out ?_))
            refine (M1.out _ G.out).mono ?_; rintro e y8 ⟨rfl, hb⟩
            replace B3 := Lib.hid (B3.out.up hb)
            replace B9 := Lib.hid (B9.out.up hb)
            replace B11 := Lib.hid (B11.out.up hb)
            replace B13 := Lib.hid (B13.out.up hb)
            replace G := Lib.hid (bt G.out hb)
            replace Fx := Lib.hid (Fx.out.mono hb)
            clear hb
            go_wp2_with (first
                            | (refine wpList_load_blk 29 (.tmp 3) b3 (cs := h.L) rfl rfl rfl B3.out.blk Try.underlying29 rfl HI.out ?_)
                            | (refine wpList_load_blk 29 (.tmp 11) b11 (cs := hc.L) rfl rfl rfl B11.out.blk Try.underlying29 rfl HI.out ?_)
                            | (refine wpList_load_blkG 29 (.tmp 3) b3 (cs := h.L) (by first | rfl | simp [Region.wanted, yielded]) rfl rfl B3.out.blk Try.underlying29 rfl HI.out ?_)
                            | (refine wpList_load_blkG 29 (.tmp 11) b11 (cs := hc.L) (by first | rfl | simp [Region.wanted, yielded]) rfl rfl B11.out.blk Try.underlying29 rfl HI.out ?_))
            refine (M2.out _ G.out).mono ?_; rintro e y9 ⟨rfl, hb⟩
            replace B3 := Lib.hid (B3.out.up hb)
            replace B9 := Lib.hid (B9.out.up hb)
            replace B11 := Lib.hid (B11.out.up hb)
            replace B13 := Lib.hid (B13.out.up hb)
            replace G := Lib.hid (bt G.out hb)
            replace Fx := Lib.hid (Fx.out.mono hb)
            clear hb
            go_wp2_with (first
                            | (refine wpList_load_blk 29 (.tmp 3) b3 (cs := h.L) rfl rfl rfl B3.out.blk Try.underlying29 rfl HI.out ?_)
                            | (refine wpList_load_blk 29 (.tmp 13) b13 (cs := hx.L) rfl rfl rfl B13.out.blk Try.underlying29 rfl HI.out ?_)
                            | (refine wpList_load_blkG 29 (.tmp 3) b3 (cs := h.L) (by first | rfl | simp [Region.wanted, yielded]) rfl rfl B3.out.blk Try.underlying29 rfl HI.out ?_)
                            | (refine wpList_load_blkG 29 (.tmp 13) b13 (cs := hx.L) (by first | rfl | simp [Region.wanted, yielded]) rfl rfl B13.out.blk Try.underlying29 rfl HI.out ?_))
            refine (M3.out hx _ G.out Ex.out Fx.out).mono ?_; rintro e y10 ⟨rfl, hb⟩
            replace B3 := Lib.hid (B3.out.up hb)
            replace B9 := Lib.hid (B9.out.up hb)
            replace B11 := Lib.hid (B11.out.up hb)
            replace B13 := Lib.hid (B13.out.up hb)
            replace G := Lib.hid (bt G.out hb)
            replace Fx := Lib.hid (Fx.out.mono hb)
            clear hb
            go_wp2_with fail
            go_ret
            exact ⟨rfl, G.out⟩
          · exact absurd (hu.symm.trans Q2.out) (by decide)
end Go.Proofs.Ytcccgjpmfbmplaa
