/- The walk of the law HubFair. -/
import Derived.Test.YtcccgjpmfbmplaaHuU
import Derived.Deep.LoopGhost
set_option linter.unusedSimpArgs false
set_option linter.unusedVariables false
namespace Go.Proofs.Ytcccgjpmfbmplaa
open Go.RowKit

/-- how many of the first c are up -/
def cntU (h : Hv) : Nat → Nat | 0 => 0 | c + 1 => cntU h c + (h.u c).toNat
theorem cntU_four (h : Hv) : cntU h 4 = cntB (h.u 0) (h.u 1) (h.u 2) (h.u 3) := by simp [cntU, cntB]
theorem cntU_le (h : Hv) : ∀ c, cntU h c ≤ c
  | 0 => Nat.le_refl _
  | c + 1 => by have := cntU_le h c; have := Bool.toNat_le (h.u c); unfold cntU; omega
theorem cntU_yes (h : Hv) (c : Nat) (hu : h.u c = true) : cntU h (c + 1) = cntU h c + 1 := by show cntU h c + (h.u c).toNat = _; rw [hu]; rfl
theorem cntU_no (h : Hv) (c : Nat) (hu : h.u c = false) : cntU h (c + 1) = cntU h c := by show cntU h c + (h.u c).toNat = _; rw [hu]; rfl

set_option maxRecDepth 100000 in
set_option maxHeartbeats 4000000 in
theorem hubFair_any (h : Hv) (s : Nat → Fd) (w : World) (hh : HbAt w h s) : Calls Try.prog 5 #[h.v] w (BoolOut w true) := by
  have HI := Lib.hid hub_size
  have Hsh := Lib.hid shown09
  have FA := Lib.hid (fun W => fewH_any h (hub_len hh) W)
  have RR := Lib.hid (fun W (hb : Below w.heap.size w W) => refHubRight_any h s W (hh.mono hb))
  obtain ⟨fa, hfa⟩ : ∃ x, x = fewH h := ⟨_, rfl⟩
  obtain ⟨rt, hrt⟩ : ∃ x, x = rightH h s := ⟨_, rfl⟩
  rw [← hfa] at FA
  rw [← hrt] at RR
  have HRt := Lib.hid hrt
  have SX := Lib.hid (fun W (hb : Below w.heap.size w W) => (show Calls Try.prog 13 #[h.v, h.v] W (BoolOut W true) from (refHubSame_any h h s s W (hh.mono hb) (hh.mono hb)).mono fun e w' ⟨p, q⟩ => ⟨by rw [p, sameH_refl rfl rfl rfl], q⟩))
  have HH := Lib.hid hh
  clear hfa hrt hh
  go_enter Try.func5, Try.ntmps5
  go_upto_region 1 with (fail)
  generalize hW : World.alloc w _ = W
  have B1 := Lib.hid (show BlkT 29 W w.heap.size h.L by rw [← hW]; exact BlkT.new w h.L _)
  have G := Lib.hid (show Below w.heap.size w W by rw [← hW]; exact ba w _)
  clear hW
  obtain ⟨b1, hb1⟩ : ∃ b, b = w.heap.size := ⟨_, rfl⟩
  rw [← hb1] at B1
  simp only [← hb1]
  have Hb1 := Lib.hid hb1
  clear hb1
  go_wp2_with fail
  refine (Hsh.out _).mono ?_; rintro e y1 ⟨rfl, hb⟩
  replace B1 := Lib.hid (B1.out.up hb)
  replace G := Lib.hid (bt G.out hb)
  clear hb
  go_wp2_with (refine wpList_load_blk 29 (.tmp 1) b1 (cs := h.L) rfl rfl rfl B1.out.blk Try.underlying29 rfl HI.out ?_)
  refine (FA.out _).mono ?_; rintro e y2 ⟨rfl, hb⟩
  replace B1 := Lib.hid (B1.out.up hb)
  replace G := Lib.hid (bt G.out hb)
  clear hb
  rcases fa with _ | _
  · go_wp2_with fail
    go_ret
    exact ⟨rfl, G.out⟩
  go_wp2_with (refine wpList_load_blkG 29 (.tmp 1) b1 (cs := h.L) (by first | rfl | simp [Region.wanted, yielded]) rfl rfl B1.out.blk Try.underlying29 rfl HI.out ?_)
  refine (RR.out _ G.out).mono ?_; rintro e y3 ⟨rfl, hb⟩
  replace B1 := Lib.hid (B1.out.up hb)
  replace G := Lib.hid (bt G.out hb)
  clear hb
  rcases rt with _ | _
  · go_wp2_with fail
    go_ret
    exact ⟨rfl, G.out⟩
  clear FA RR
  go_wp2_with fail
  go_loopw [4, 5] (fun v4 v5 wr => ∃ k : Nat, k ≤ 4 ∧ v5 = .int .i64 k ∧ v4 = .int .i64 (cntU h k) ∧ wr = y3) (fun _ v5 _ => 4 - (intOf v5).toNat)
  case atStart => exact ⟨0, by omega, rfl, rfl, rfl⟩
  case round =>
    obtain ⟨k, hk4, rfl, rfl, rfl⟩ := hrel
    rcases (show k = 0 ∨ k = 1 ∨ k = 2 ∨ k = 3 ∨ k = 4 by omega) with rfl | rfl | rfl | rfl | rfl
    · obtain ⟨u0, u1, u2, u3⟩ := hub_u B1.out.blk
      rcases hu : h.u 0 with _ | _
      · rw [hu] at u0
        go_wp2_with fail
        go_roundw
        case rel => exact ⟨1, by omega, by go_num, by rw [cntU_no h 0 hu], by trivial⟩
        case measure => simp [intOf]
      · rw [hu] at u0
        have hle := cntU_le h 0
        go_wp2_with fail
        go_roundw
        case rel => exact ⟨1, by omega, by go_num, by rw [cntU_yes h 0 hu]; go_num, by trivial⟩
        case measure => simp [intOf]
    · obtain ⟨u0, u1, u2, u3⟩ := hub_u B1.out.blk
      rcases hu : h.u 1 with _ | _
      · rw [hu] at u1
        go_wp2_with fail
        go_roundw
        case rel => exact ⟨2, by omega, by go_num, by rw [cntU_no h 1 hu], by trivial⟩
        case measure => simp [intOf]
      · rw [hu] at u1
        have hle := cntU_le h 1
        go_wp2_with fail
        go_roundw
        case rel => exact ⟨2, by omega, by go_num, by rw [cntU_yes h 1 hu]; go_num, by trivial⟩
        case measure => simp [intOf]
    · obtain ⟨u0, u1, u2, u3⟩ := hub_u B1.out.blk
      rcases hu : h.u 2 with _ | _
      · rw [hu] at u2
        go_wp2_with fail
        go_roundw
        case rel => exact ⟨3, by omega, by go_num, by rw [cntU_no h 2 hu], by trivial⟩
        case measure => simp [intOf]
      · rw [hu] at u2
        have hle := cntU_le h 2
        go_wp2_with fail
        go_roundw
        case rel => exact ⟨3, by omega, by go_num, by rw [cntU_yes h 2 hu]; go_num, by trivial⟩
        case measure => simp [intOf]
    · obtain ⟨u0, u1, u2, u3⟩ := hub_u B1.out.blk
      rcases hu : h.u 3 with _ | _
      · rw [hu] at u3
        go_wp2_with fail
        go_roundw
        case rel => exact ⟨4, by omega, by go_num, by rw [cntU_no h 3 hu], by trivial⟩
        case measure => simp [intOf]
      · rw [hu] at u3
        have hle := cntU_le h 3
        go_wp2_with fail
        go_roundw
        case rel => exact ⟨4, by omega, by go_num, by rw [cntU_yes h 3 hu]; go_num, by trivial⟩
        case measure => simp [intOf]
    rw [cntU_four]
    have hn4 := cnt_le (h.u 0) (h.u 1) (h.u 2) (h.u 3)
    obtain ⟨n, hn⟩ : ∃ n, n = cntB (h.u 0) (h.u 1) (h.u 2) (h.u 3) := ⟨_, rfl⟩
    rw [← hn] at hn4 ⊢
    have Hn := Lib.hid hn
    obtain ⟨C, kH, hk0, hkf, hpk, honce, hagain, hnone⟩ := fair_facts h (right_nx HRt.out.symm) n hn
    clear hn
    have HC0 := Lib.hid hk0
    have HCf := Lib.hid hkf
    have HCo := Lib.hid honce
    have HCa := Lib.hid hagain
    have HCn := Lib.hid hnone
    have PK := Lib.hid (fun i (hi : i < 2 * n) W => (hpk i hi).1 ▸ pick_any (kH i) (hpk i hi).2.1 W)
    have PC := Lib.hid (fun i (hi : i < 2 * n) => (hpk i hi).2.2)
    have RX := Lib.hid (fun i (hi : i < 2 * n) W (hb : Below w.heap.size w W) => (show Calls Try.prog 10 #[(kH (i + 1)).v] W (BoolOut W true) from by
      have ha : HbAt W (kH (i + 1)) s := fun j hj => by rw [(hkf (i + 1)).2.1]; exact (HH.out.mono hb) j hj
      refine (refHubRight_any (kH (i + 1)) s W ha).mono fun e w' ⟨p, q⟩ => ⟨?_, q⟩
      rw [p]
      have h1 : rightH h s = true := HRt.out.symm
      have h2 : rightH (kH (i + 1)) s = true := by
        unfold rightH at h1 ⊢
        rw [Bool.and_eq_true] at h1 ⊢
        refine ⟨?_, (hpk i hi).2.2.2.2⟩
        have e : okC (kH (i + 1)) s = okC h s := by funext j; unfold okC; rw [(hkf (i + 1)).1]
        rw [e]; exact h1.1
      rw [h2]))
    have PL := Lib.hid (fun (h0 : n = 0) W => hnone h0 ▸ pick_any h (right_nx HRt.out.symm) W)
    have PA := Lib.hid (fun W => pick_any h (right_nx HRt.out.symm) W)
    clear hk0 hkf hpk honce hagain hnone HRt HH
    go_upto_region 11 with (fail)
    generalize hW2 : World.alloc wr _ = W2
    have O6 := Lib.hid (show OwnI w.heap.size W2 (.slice (some ⟨wr.heap.size, 0, none⟩) 0 0) 0 [] by rw [← hW2]; exact ownI_new rfl G.out.size)
    replace B1 := Lib.hid (show BlkT 29 W2 b1 h.L by rw [← hW2]; exact B1.out.up (ba _ _))
    replace G := Lib.hid (show Below w.heap.size w W2 by rw [← hW2]; exact bt G.out (ba _ _))
    clear hW2
    generalize wr.heap.size = b6 at O6 ⊢
    go_cut [7] (fun v7 wx => ∃ (b7 : Nat), v7 = .pointer (some ⟨b7, 0, none⟩) ∧ OwnI w.heap.size wx (.slice (some ⟨b6, 0, none⟩) 0 0) 0 [] ∧ BlkT 29 wx b7 h.L ∧ BlkT 29 wx b1 h.L ∧ b1 ≠ b7 ∧ w.heap.size ≤ b7 ∧ Below w.heap.size w wx)
    case first =>
      go_wp2_with (first | (refine wpList_load_blk 29 (.tmp 1) b1 (cs := h.L) rfl rfl rfl B1.out.blk Try.underlying29 rfl HI.out ?_) | (refine wpList_store_blk 29 (.tmp 7) (.tmp 37) _ (old := zeroL) (cs := h.L) rfl rfl rfl rfl (Blk.new _ _ _) HI.out rfl rfl ?_))
      go_meet
      exact ⟨_, rfl, O6.out.up (lay_below _ _ _ _), lay_blk _ _ _ _, B1.out.up (lay_below _ _ _ _), Nat.ne_of_lt B1.out.blk.lt, G.out.size, bt G.out (lay_below _ _ _ _)⟩
    case rest =>
      obtain ⟨b7, rfl, hO, hB7, hB1, hne, hlow, hG⟩ := hcut
      replace B1 := Lib.hid hB1
      replace G := Lib.hid hG
      have B7 := Lib.hid hB7
      replace O6 := Lib.hid hO
      have Ne := Lib.hid hne
      have Low := Lib.hid hlow
      clear hO hB7 hB1 hne hlow hG
      go_wp2_with fail
      go_loopw [6, 8] (fun v6 v8 wr => ∃ (i : Nat) (a : Option Addr) (c : Nat), i ≤ 2 * n ∧ v8 = .int .i64 i ∧ v6 = .slice a i c ∧ OwnI w.heap.size wr (.slice a i c) i ((List.range i).map fun j => Value.int .i64 (C j : Int)) ∧ BlkT 29 wr b7 (kH i).L ∧ BlkT 29 wr b1 h.L ∧ Below w.heap.size w wr) (fun _ v8 _ => 2 * n - (intOf v8).toNat)
      case atStart => exact ⟨0, some ⟨b6, 0, none⟩, 0, by omega, rfl, rfl, O6.out, by rw [HC0.out]; exact B7.out, B1.out, G.out⟩
      case round =>
        obtain ⟨i, a, c, hi, rfl, rfl, hO, hB7, hB1, hG⟩ := hrel
        have O7 := Lib.hid hO
        have C7 := Lib.hid hB7
        have C1 := Lib.hid hB1
        have CG := Lib.hid hG
        clear hO hB7 hB1 hG B1 B7 O6 G
        rcases Nat.lt_or_ge i (2 * n) with hlt | hge
        · go_upto_region 15 with (fail)
          have PKi := Lib.hid (PK.out i hlt)
          have RXi := Lib.hid (RX.out i hlt)
          obtain ⟨pc1, pc2, pc3⟩ := PC.out i hlt
          go_wp2_with (refine wpList_load_blk 29 (.tmp 7) b7 (cs := (kH i).L) rfl rfl rfl C7.out.blk Try.underlying29 rfl HI.out ?_)
          refine (PKi.out _).mono ?_; rintro e wn ⟨rfl, hb⟩
          replace O7 := Lib.hid (O7.out.up hb)
          replace C7 := Lib.hid (C7.out.up hb)
          replace C1 := Lib.hid (C1.out.up hb)
          replace CG := Lib.hid (bt CG.out hb)
          clear hb
          go_upto_region 16 with (refine wpList_store_blk 29 (.tmp 9) (.tmp 47) _ (old := zeroL) (cs := (kH (i + 1)).L) rfl rfl rfl rfl (Blk.new _ _ _) HI.out rfl rfl ?_)
          generalize hW3 : (World.alloc wn _).setRow _ _ = W3
          have B9 := Lib.hid (show BlkT 29 W3 wn.heap.size (kH (i + 1)).L by rw [← hW3]; exact lay_blk _ _ _ _)
          have hbl := show Below wn.heap.size wn W3 by rw [← hW3]; exact lay_below _ _ _ _
          replace O7 := Lib.hid (O7.out.up hbl)
          replace C7 := Lib.hid (C7.out.up hbl)
          replace C1 := Lib.hid (C1.out.up hbl)
          replace CG := Lib.hid (bt CG.out hbl)
          clear hW3 hbl
          generalize wn.heap.size = b9 at B9 ⊢
          have hcell := hub_up C1.out.blk (C i) pc1
          rw [pc2] at hcell
          have pc4 : (C i : Int) < 4 := by omega
          go_wp2_with (refine wpList_load_blkG 29 (.tmp 9) b9 (cs := (kH (i + 1)).L) (by simp [Region.wanted, yielded, pc4]) rfl rfl B9.out.blk Try.underlying29 rfl HI.out ?_)
          refine (RXi.out _ CG.out).mono ?_; rintro e wn ⟨rfl, hb⟩
          replace O7 := Lib.hid (O7.out.up hb)
          replace C7 := Lib.hid (C7.out.up hb)
          replace C1 := Lib.hid (C1.out.up hb)
          replace B9 := Lib.hid (B9.out.up hb)
          replace CG := Lib.hid (bt CG.out hb)
          clear hb hcell
          go_wp2_with (fail)
          rcases Nat.lt_or_ge i n with hin | hin
          · go_loop [12] (fun v12 => ∃ j : Nat, j ≤ i ∧ v12 = .int .i64 j) (fun v12 => i - (intOf v12).toNat)
            case atStart => exact ⟨0, by omega, rfl⟩
            case round =>
              obtain ⟨j, hj, rfl⟩ := hrel
              rcases Nat.lt_or_ge j i with hji | hji
              · have hne := HCo.out i hin j hji
                have hat := O7.out.at
                rcases hat with he | ⟨fb, fo, rfl, hfl, hfc⟩
                · exact absurd (congrArg List.length he) (by simp; omega)
                have hc := hfc j (by simpa using hji)
                rw [show ((List.range i).map fun j => Value.int .i64 (C j : Int)).getD j undef = .int .i64 (C j : Int) by simp [List.getD, hji]] at hc
                have hne2 : (C j : Int) ≠ (C i : Int) := by omega
                clear hfc
                go_wp2_with (fail)
                go_round
                case rel => exact ⟨j + 1, by omega, by go_num⟩
                case measure => simp [intOf]; omega
              · obtain rfl : j = i := by omega
                go_upto_region 25 with (fail)
                obtain ⟨wo, hwo⟩ : ∃ wo : World, wo = wn := ⟨_, rfl⟩
                rw [← hwo] at O7 C7 C1 B9 CG ⊢
                clear hwo
                have hbA := ba wo (.cells #[Value.int .i64 (C j : Int)] 3)
                have hAt : At (wo.alloc (.cells #[Value.int .i64 (C j : Int)] 3)) (some ⟨wo.heap.size, 0, none⟩) [Value.int .i64 (C j : Int)] := at_new wo [Value.int .i64 (C j : Int)] _
                go_upto_region 26 with (refine wpList_ownI (.tmp 102) (.tmp 104) rfl rfl rfl (O7.out.up hbA) rfl hAt rfl (by intro u hu; rcases List.mem_singleton.1 hu with rfl; rfl) (by omega) (j + 1) (by omega) ?_; intro a2 c2 w2 hO2 hg2)
                have hAp := hO2
                have g1 := Lib.hid ((C1.out.up hbA).grownI2 (by decide) (O7.out.up hbA) hg2)
                have g7 := Lib.hid ((C7.out.up hbA).grownI2 (by decide) (O7.out.up hbA) hg2)
                have g9 := Lib.hid ((B9.out.up hbA).grownI2 (by decide) (O7.out.up hbA) hg2)
                have gG := Lib.hid (below_grownI (bt CG.out hbA) (O7.out.up hbA) (Nat.le_refl _) hg2)
                have gO := Lib.hid (show OwnI w.heap.size w2 (.slice a2 (j + 1) c2) (j + 1) ((List.range (j + 1)).map fun j => Value.int .i64 (C j : Int)) by rw [List.range_succ, List.map_append]; exact hO2)
                clear hO2 hg2 hAp hAt hbA
                go_wp2_with (first | (refine wpList_load_blk 29 (.tmp 9) b9 (cs := (kH (j + 1)).L) rfl rfl rfl g9.out.blk Try.underlying29 rfl HI.out ?_) | (refine wpList_store_blk 29 (.tmp 7) (.tmp 106) b7 (old := (kH j).L) (cs := (kH (j + 1)).L) rfl rfl rfl rfl g7.out.blk HI.out rfl rfl ?_))
                go_roundw
                case rel => exact ⟨_, _, .int .i64 ((j + 1 : Nat) : Int), ⟨j + 1, by omega, rfl, a2, c2, rfl, gO.out.row2 g7.out (by decide) _, g7.out.row _, g1.out.rowOther _ Ne.out _, below_setRow gG.out Low.out _⟩, rfl, rfl, by go_num⟩
                case measure => simp [intOf]; omega
          · have hd1 : ¬ (i : Int) < (n : Int) := by omega
            have hsub : (i : Int) - (n : Int) = ((i - n : Nat) : Int) := by omega
            obtain ⟨d, hd⟩ : ∃ d, d = i - n := ⟨_, rfl⟩
            have hdi : d < i := by omega
            have hca := HCa.out d (by omega)
            rw [show n + d = i by omega] at hca
            rw [← hd] at hsub
            have hat := O7.out.at
            rcases hat with he | ⟨fb, fo, rfl, hfl, hfc⟩
            · exact absurd (congrArg List.length he) (by simp; omega)
            have hc := hfc d (by simpa using hdi)
            rw [show ((List.range i).map fun j => Value.int .i64 (C j : Int)).getD d undef = .int .i64 (C i : Int) by simp [List.getD, hdi, ← hca]] at hc
            clear hfc hd hca
            go_loop [12] (fun v12 => v12 = .int .i64 0) (fun v12 => 0)
            case atStart => rfl
            case round =>
              subst hrel
              go_upto_region 25 with (fail)
              obtain ⟨wo, hwo⟩ : ∃ wo : World, wo = wn := ⟨_, rfl⟩
              rw [← hwo] at O7 C7 C1 B9 CG ⊢
              clear hwo
              have hbA := ba wo (.cells #[Value.int .i64 (C i : Int)] 3)
              have hAt : At (wo.alloc (.cells #[Value.int .i64 (C i : Int)] 3)) (some ⟨wo.heap.size, 0, none⟩) [Value.int .i64 (C i : Int)] := at_new wo [Value.int .i64 (C i : Int)] _
              go_upto_region 26 with (refine wpList_ownI (.tmp 102) (.tmp 104) rfl rfl rfl (O7.out.up hbA) rfl hAt rfl (by intro u hu; rcases List.mem_singleton.1 hu with rfl; rfl) (by omega) (i + 1) (by omega) ?_; intro a2 c2 w2 hO2 hg2)
              have hAp := hO2
              have g1 := Lib.hid ((C1.out.up hbA).grownI2 (by decide) (O7.out.up hbA) hg2)
              have g7 := Lib.hid ((C7.out.up hbA).grownI2 (by decide) (O7.out.up hbA) hg2)
              have g9 := Lib.hid ((B9.out.up hbA).grownI2 (by decide) (O7.out.up hbA) hg2)
              have gG := Lib.hid (below_grownI (bt CG.out hbA) (O7.out.up hbA) (Nat.le_refl _) hg2)
              have gO := Lib.hid (show OwnI w.heap.size w2 (.slice a2 (i + 1) c2) (i + 1) ((List.range (i + 1)).map fun j => Value.int .i64 (C j : Int)) by rw [List.range_succ, List.map_append]; exact hO2)
              clear hO2 hg2 hAp hAt hbA
              go_wp2_with (first | (refine wpList_load_blk 29 (.tmp 9) b9 (cs := (kH (i + 1)).L) rfl rfl rfl g9.out.blk Try.underlying29 rfl HI.out ?_) | (refine wpList_store_blk 29 (.tmp 7) (.tmp 106) b7 (old := (kH i).L) (cs := (kH (i + 1)).L) rfl rfl rfl rfl g7.out.blk HI.out rfl rfl ?_))
              go_roundw
              case rel => exact ⟨_, _, .int .i64 ((i + 1 : Nat) : Int), ⟨i + 1, by omega, rfl, a2, c2, rfl, gO.out.row2 g7.out (by decide) _, g7.out.row _, g1.out.rowOther _ Ne.out _, below_setRow gG.out Low.out _⟩, rfl, rfl, by go_num⟩
              case measure => simp [intOf]; omega
        · clear PK PC RX
          go_upto_region 27 with (fail)
          rcases Nat.eq_zero_or_pos n with h0 | hp
          · have PLn := Lib.hid (PL.out h0)
            have hd0 : ¬ (0 : Int) < (n : Int) := by omega
            clear PA PL h0
            go_wp2_with (refine wpList_load_blk 29 (.tmp 1) b1 (cs := h.L) rfl rfl rfl C1.out.blk Try.underlying29 rfl HI.out ?_)
            refine (PLn.out _).mono ?_; rintro e wn ⟨rfl, hb⟩
            replace C1 := Lib.hid (C1.out.up hb)
            replace CG := Lib.hid (bt CG.out hb)
            clear hb PLn
            go_upto_region 28 with (refine wpList_store_blk 29 (.tmp 13) (.tmp 110) _ (old := zeroL) (cs := h.L) rfl rfl rfl rfl (Blk.new _ _ _) HI.out rfl rfl ?_)
            generalize hW3 : (World.alloc wn _).setRow _ _ = W3
            have B13 := Lib.hid (show BlkT 29 W3 wn.heap.size h.L by rw [← hW3]; exact lay_blk _ _ _ _)
            have hbl := show Below wn.heap.size wn W3 by rw [← hW3]; exact lay_below _ _ _ _
            replace C1 := Lib.hid (C1.out.up hbl)
            replace CG := Lib.hid (bt CG.out hbl)
            clear hW3 hbl
            generalize wn.heap.size = b13 at B13 ⊢
            go_wp2_with (first | (refine wpList_load_blkG 29 (.tmp 13) b13 (cs := h.L) (by first | rfl | (simp [Region.wanted, yielded, hd0]; done) | (simp [Region.wanted, yielded]; done)) rfl rfl B13.out.blk Try.underlying29 rfl HI.out ?_) | (refine wpList_load_blkG 29 (.tmp 1) b1 (cs := h.L) (by first | rfl | (simp [Region.wanted, yielded, hd0]; done) | (simp [Region.wanted, yielded]; done)) rfl rfl C1.out.blk Try.underlying29 rfl HI.out ?_))
            refine (SX.out _ CG.out).mono ?_; rintro e w6 ⟨rfl, hb⟩
            replace CG := Lib.hid (bt CG.out hb)
            clear hb
            go_wp2_with (fail)
            go_ret
            exact ⟨rfl, CG.out⟩
          · have hd0 : (0 : Int) < (n : Int) := by omega
            clear PL
            obtain ⟨P, hP⟩ : ∃ P, P = pickF h := ⟨_, rfl⟩
            rw [← hP] at PA
            clear hP
            obtain ⟨P1, P2, P3⟩ := P
            go_wp2_with (refine wpList_load_blk 29 (.tmp 1) b1 (cs := h.L) rfl rfl rfl C1.out.blk Try.underlying29 rfl HI.out ?_)
            refine (PA.out _).mono ?_; rintro e wn ⟨rfl, hb⟩
            replace CG := Lib.hid (bt CG.out hb)
            clear hb PA
            go_upto_region 28 with (refine wpList_store_blk 29 (.tmp 13) (.tmp 110) _ (old := zeroL) (cs := P1.L) rfl rfl rfl rfl (Blk.new _ _ _) HI.out rfl rfl ?_)
            generalize hW3 : (World.alloc wn _).setRow _ _ = W3
            have hbl := show Below wn.heap.size wn W3 by rw [← hW3]; exact lay_below _ _ _ _
            replace CG := Lib.hid (bt CG.out hbl)
            clear hW3 hbl
            go_wp2_with (fail)
            go_ret
            exact ⟨rfl, CG.out⟩
theorem hubFair_in (w : World) (h : Hv) (s : Nat → Fd) (hh : HbAt w h s) : Calls Try.prog 5 #[h.v] w (BoolOut w true) := hubFair_any h s w hh
end Go.Proofs.Ytcccgjpmfbmplaa
