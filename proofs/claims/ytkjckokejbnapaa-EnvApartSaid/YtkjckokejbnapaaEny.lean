/- The walk of the law EnvApart. -/
import Derived.Test.YtkjckokejbnapaaEnw
set_option linter.unusedSimpArgs false
set_option linter.unusedVariables false
namespace Go.Proofs.Ytkjckokejbnapaa
open Go.RowKit

theorem apart_facts (k d e0 e1 g s : Int) (a1 t1 : Option Addr) (bc tc : Nat) (bl tl : List UInt8) (k2 d2 f0 f1 g2 s2 : Int) (a2 t2 : Option Addr) (bc2 tc2 : Nat) (bl2 tl2 : List UInt8)
    (hp : rightB k d e0 e1 g s bl.length tl.length = true) (hp2 : rightB k2 d2 f0 f1 g2 s2 bl2.length tl2.length = true) : ∃ XI YI : List UInt8,
    XI.length = bl.length + 30 ∧ bl.length ≤ 900 ∧ tl.length = 16 ∧
    (∀ W, BytesAt W a1 bl → Calls Try.prog 11 #[envV k d e0 e1 g s (.slice a1 bl.length bc) (.slice t1 tl.length tc)] W (RowOut W XI)) ∧
    (∀ W, BytesAt W a2 bl2 → Calls Try.prog 11 #[envV k2 d2 f0 f1 g2 s2 (.slice a2 bl2.length bc2) (.slice t2 tl2.length tc2)] W (RowOut W YI)) ∧
    (∀ W, BytesAt W a1 bl → BytesAt W t1 tl → Calls Try.prog 13 #[envV k d e0 e1 g s (.slice a1 bl.length bc) (.slice t1 tl.length tc)] W (RowOut W (XI ++ tl))) ∧
    (XI == YI) = sameB k d e0 e1 g s bl tl k2 d2 f0 f1 g2 s2 bl2 tl := by
  unfold rightB at hp hp2
  rw [Bool.and_eq_true] at hp hp2
  obtain ⟨K, D, E0, E1, G, S, rfl, rfl, rfl, rfl, rfl, rfl, hM⟩ := parts_nat hp.1
  obtain ⟨K2, D2, F0, F1, G2, S2, rfl, rfl, rfl, rfl, rfl, rfl, hM2⟩ := parts_nat hp2.1
  have h16 := of_decide_eq_true hp.2
  exact ⟨_, _, by rw [inF_len]; omega, hM.n2, h16, fun W h => input_ok K D E0 E1 G S a1 t1 bc tl.length tc bl hM W h, fun W h => input_ok K2 D2 F0 F1 G2 S2 a2 t2 bc2 tl2.length tc2 bl2 hM2 W h, fun W h h' => write_ok K D E0 E1 G S a1 t1 bc tc bl tl hM h16 W h h', inF_beq hM hM2 tl⟩

set_option maxRecDepth 100000 in
set_option maxHeartbeats 2000000 in
theorem envApart_any (k d e0 e1 g s : Int) (a1 t1 : Option Addr) (bc tc : Nat) (bl tl : List UInt8) (k2 d2 f0 f1 g2 s2 : Int) (a2 t2 : Option Addr) (bc2 tc2 : Nat) (bl2 tl2 : List UInt8) (w : World)
    (hb : bl.length ≤ maxLen) (ht : tl.length ≤ maxLen) (hb2 : bl2.length ≤ maxLen) (ht2 : tl2.length ≤ maxLen) (h1 : BytesAt w a1 bl) (h2 : BytesAt w t1 tl) (h3 : BytesAt w a2 bl2) (h4 : BytesAt w t2 tl2) :
    Calls Try.prog 6 #[envV k d e0 e1 g s (.slice a1 bl.length bc) (.slice t1 tl.length tc), envV k2 d2 f0 f1 g2 s2 (.slice a2 bl2.length bc2) (.slice t2 tl2.length tc2)] w (BoolOut w true) := by
  have HA := apart_facts k d e0 e1 g s a1 t1 bc tc bl tl k2 d2 f0 f1 g2 s2 a2 t2 bc2 tc2 bl2 tl2
  have HF := Lib.hid (fun W => few_any k d e0 e1 g s a1 t1 bl.length bc tl.length tc hb ht W)
  have HF2 := Lib.hid (fun W => few_any k2 d2 f0 f1 g2 s2 a2 t2 bl2.length bc2 tl2.length tc2 hb2 ht2 W)
  have HR := Lib.hid (fun W => refRight_any k d e0 e1 g s a1 t1 bl.length bc tl.length tc hb ht W)
  have HR2 := Lib.hid (fun W => refRight_any k2 d2 f0 f1 g2 s2 a2 t2 bl2.length bc2 tl2.length tc2 hb2 ht2 W)
  have HS := Lib.hid (fun W (h : Below w.heap.size w W) => refEnvSame_any k d e0 e1 g s a1 t1 bc tc bl tl k2 d2 f0 f1 g2 s2 a2 t1 bc2 tc bl2 tl W (h1.mono h) (h2.mono h) (h3.mono h) (h2.mono h))
  generalize (decide (bl.length ≤ 1000) && decide (tl.length ≤ 100)) = fa at HF
  generalize (decide (bl2.length ≤ 1000) && decide (tl2.length ≤ 100)) = fb at HF2
  generalize rightB k d e0 e1 g s bl.length tl.length = rt at HA HR
  generalize rightB k2 d2 f0 f1 g2 s2 bl2.length tl2.length = rt2 at HA HR2
  have HB := Lib.hid (And.intro h1 (And.intro h2 h3))
  have HA := Lib.hid HA
  have Hsh := Lib.hid shown12
  clear h1 h2 h3 h4 hb ht hb2 ht2
  go_enter Try.func6, Try.ntmps6
  go_wp2_with fail
  refine (Hsh.out _).mono ?_; rintro e w1 ⟨rfl, hb1⟩
  obtain ⟨hE, hF, hG⟩ := two_env w (envL k d e0 e1 g s (.slice a1 bl.length bc) (.slice t1 tl.length tc)) (envL k2 d2 f0 f1 g2 s2 (.slice a2 bl2.length bc2) (.slice t2 tl2.length tc2)) hb1
  have E1 := Lib.hid hE
  have F1 := Lib.hid hF
  have G1 := Lib.hid hG
  clear hE hF hG hb1
  obtain ⟨c0, c1, c2, c3, c4, c5, c6, c7⟩ := env_cells E1.out.blk
  obtain ⟨d0, d1, d2', d3, d4, d5, d6, d7⟩ := env_cells F1.out.blk
  go_wp2_with fail
  refine (HF.out _).mono ?_; rintro e w2 ⟨rfl, hb2⟩
  have E2 := Lib.hid (E1.out.up hb2)
  have F2 := Lib.hid (F1.out.up hb2)
  have G2 := Lib.hid (bt G1.out hb2)
  clear c0 c1 c2 c3 c4 c5 c6 c7 d0 d1 d2' d3 d4 d5 d6 d7 hb2 E1 F1 G1
  rcases fa with _ | _
  · go_wp2_with fail
    go_ret
    exact ⟨rfl, G2.out⟩
  obtain ⟨c0, c1, c2, c3, c4, c5, c6, c7⟩ := env_cells E2.out.blk
  obtain ⟨d0, d1, d2', d3, d4, d5, d6, d7⟩ := env_cells F2.out.blk
  go_wp2_with fail
  refine (HF2.out _).mono ?_; rintro e w3 ⟨rfl, hb3⟩
  have E3 := Lib.hid (E2.out.up hb3)
  have F3 := Lib.hid (F2.out.up hb3)
  have G3 := Lib.hid (bt G2.out hb3)
  clear c0 c1 c2 c3 c4 c5 c6 c7 d0 d1 d2' d3 d4 d5 d6 d7 hb3 E2 F2 G2
  rcases fb with _ | _
  · go_wp2_with fail
    go_ret
    exact ⟨rfl, G3.out⟩
  obtain ⟨c0, c1, c2, c3, c4, c5, c6, c7⟩ := env_cells E3.out.blk
  obtain ⟨d0, d1, d2', d3, d4, d5, d6, d7⟩ := env_cells F3.out.blk
  go_wp2_with fail
  refine (HR.out _).mono ?_; rintro e w4 ⟨rfl, hb4⟩
  have E4 := Lib.hid (E3.out.up hb4)
  have F4 := Lib.hid (F3.out.up hb4)
  have G4 := Lib.hid (bt G3.out hb4)
  clear c0 c1 c2 c3 c4 c5 c6 c7 d0 d1 d2' d3 d4 d5 d6 d7 hb4 E3 F3 G3
  rcases rt with _ | _
  · go_wp2_with fail
    go_ret
    exact ⟨rfl, G4.out⟩
  obtain ⟨c0, c1, c2, c3, c4, c5, c6, c7⟩ := env_cells E4.out.blk
  obtain ⟨d0, d1, d2', d3, d4, d5, d6, d7⟩ := env_cells F4.out.blk
  go_wp2_with fail
  refine (HR2.out _).mono ?_; rintro e w5 ⟨rfl, hb5⟩
  have E5 := Lib.hid (E4.out.up hb5)
  have F5 := Lib.hid (F4.out.up hb5)
  have G5 := Lib.hid (bt G4.out hb5)
  clear c0 c1 c2 c3 c4 c5 c6 c7 d0 d1 d2' d3 d4 d5 d6 d7 hb5 E4 F4 G4
  rcases rt2 with _ | _
  · go_wp2_with fail
    go_ret
    exact ⟨rfl, G5.out⟩
  obtain ⟨XI, YI, hXl, h9, h16, hI, hI2, hW, hbeq⟩ := HA.out (by first | rfl | trivial) (by first | rfl | trivial)
  rw [← hbeq] at HS
  generalize hv : (XI == YI) = v at HS
  have HXY := Lib.hid hv
  have HI := Lib.hid hI
  have HI2 := Lib.hid hI2
  have HW := Lib.hid hW
  have H16 := Lib.hid h16
  have HXl := Lib.hid hXl
  obtain ⟨ZW, hZ⟩ : ∃ ZW, ZW = XI ++ tl := ⟨_, rfl⟩
  rw [← hZ] at HW
  have HZ := Lib.hid hZ
  have hn1 : (30 : Int) + (bl.length : Int) = (XI.length : Int) := by omega
  have hn2 : (XI.length : Int) + 16 = (ZW.length : Int) := by rw [hZ, List.length_append]; omega
  have hle : XI.length ≤ ZW.length := by rw [hZ, List.length_append]; omega
  have hn3 : XI.length ≤ 930 := by omega
  clear HA hbeq hI hI2 hW h16 hXl hZ hv
  obtain ⟨c0, c1, c2, c3, c4, c5, c6, c7⟩ := env_cells E5.out.blk
  obtain ⟨d0, d1, d2', d3, d4, d5, d6, d7⟩ := env_cells F5.out.blk
  go_wp2_with fail
  refine (HI.out _ (HB.out.1.mono G5.out)).mono ?_; rintro e w6 ⟨p6, q6, rfl, hx6, hb6⟩
  have E6 := Lib.hid (E5.out.up hb6)
  have F6 := Lib.hid (F5.out.up hb6)
  have G6 := Lib.hid (bt G5.out hb6)
  have X6 := Lib.hid (show BytesAt w6 p6 XI from hx6.at)
  clear c0 c1 c2 c3 c4 c5 c6 c7 d0 d1 d2' d3 d4 d5 d6 d7 hb6 hx6 E5 F5 G5
  obtain ⟨c0, c1, c2, c3, c4, c5, c6, c7⟩ := env_cells E6.out.blk
  obtain ⟨d0, d1, d2', d3, d4, d5, d6, d7⟩ := env_cells F6.out.blk
  go_wp2_with fail
  refine (HI2.out _ (HB.out.2.2.mono G6.out)).mono ?_; rintro e w7 ⟨p7, q7, rfl, hx7, hb7⟩
  have E7 := Lib.hid (E6.out.up hb7)
  have F7 := Lib.hid (F6.out.up hb7)
  have G7 := Lib.hid (bt G6.out hb7)
  have X7 := Lib.hid (X6.out.mono hb7)
  have Y7 := Lib.hid (show BytesAt w7 p7 YI from hx7.at)
  clear c0 c1 c2 c3 c4 c5 c6 c7 d0 d1 d2' d3 d4 d5 d6 d7 hb7 hx7 E6 F6 G6 X6
  obtain ⟨c0, c1, c2, c3, c4, c5, c6, c7⟩ := env_cells E7.out.blk
  obtain ⟨d0, d1, d2', d3, d4, d5, d6, d7⟩ := env_cells F7.out.blk
  go_wp2_with fail
  refine (HW.out _ (HB.out.1.mono G7.out) (HB.out.2.1.mono G7.out)).mono ?_; rintro e w8 ⟨p8, q8, rfl, hx8, hb8⟩
  have E8 := Lib.hid (E7.out.up hb8)
  have F8 := Lib.hid (F7.out.up hb8)
  have G8 := Lib.hid (bt G7.out hb8)
  have X8 := Lib.hid (X7.out.mono hb8)
  have Y8 := Lib.hid (Y7.out.mono hb8)
  have Z8 := Lib.hid (show BytesAt w8 p8 ZW from hx8.at)
  obtain ⟨_, _, hq1, hq2, hq3⟩ := own_slice hx8.own
  cases hq1
  clear c0 c1 c2 c3 c4 c5 c6 c7 d0 d1 d2' d3 d4 d5 d6 d7 hb8 hx8 E7 F7 G7 X7 Y7
  obtain ⟨d0, d1, d2', d3, d4, d5, d6, d7⟩ := env_cells F8.out.blk
  go_upto_region 8 with (fail)
  generalize hW9 : World.alloc w8 _ = W9
  have B9 := Lib.hid (show BlkT 25 W9 w8.heap.size (envL k2 d2 f0 f1 g2 s2 (.slice a2 bl2.length bc2) (.slice t2 tl2.length tc2)) by rw [← hW9]; exact BlkT.new w8 (envL k2 d2 f0 f1 g2 s2 (.slice a2 bl2.length bc2) (.slice t2 tl2.length tc2)) _)
  have E9 := Lib.hid (show BlkT 25 W9 w.heap.size (envL k d e0 e1 g s (.slice a1 bl.length bc) (.slice t1 tl.length tc)) by rw [← hW9]; exact E8.out.up (ba _ _))
  have G9 := Lib.hid (show Below w.heap.size w W9 by rw [← hW9]; exact bta G8.out _)
  have K9 := Lib.hid (show Below w8.heap.size w8 W9 by rw [← hW9]; exact ba w8 _)
  have hlt := E8.out.blk.lt
  clear hW9 d0 d1 d2' d3 d4 d5 d6 d7 E8 F8 G8
  obtain ⟨b9, hk9⟩ : ∃ b9, b9 = w8.heap.size := ⟨_, rfl⟩
  rw [← hk9] at B9 hlt
  simp only [← hk9]
  have Hk9 := Lib.hid hk9
  clear hk9
  obtain ⟨c0, c1, c2, c3, c4, c5, c6, c7⟩ := env_cells E9.out.blk
  have f9 := B9.out.blk.frozen
  have k9 := B9.out.blk.cell 7 (by simp)
  go_upto_region 9 with (fail)
  generalize hW10 : World.setCell W9 _ _ = W10
  have n9 : w.heap.size ≠ b9 := by omega
  have n9' : w.heap.size ≤ b9 := by omega
  have B10 := Lib.hid (show BlkT 25 W10 b9 (envL k2 d2 f0 f1 g2 s2 (.slice a2 bl2.length bc2) (.slice t1 tl.length tc)) by rw [← hW10]; exact B9.out.set 7 (.slice t1 tl.length tc))
  have E10 := Lib.hid (show BlkT 25 W10 w.heap.size (envL k d e0 e1 g s (.slice a1 bl.length bc) (.slice t1 tl.length tc)) by rw [← hW10]; exact E9.out.other n9 _)
  have G10 := Lib.hid (show Below w.heap.size w W10 by rw [← hW10]; exact G9.out.setCell n9' _)
  have K10 : Below w8.heap.size w8 W10 := by rw [← hW10]; exact K9.out.setCell (Nat.le_of_eq Hk9.out.symm) _
  have X10 := Lib.hid (X8.out.mono K10)
  have Y10 := Lib.hid (Y8.out.mono K10)
  have Z10 := Lib.hid (Z8.out.mono K10)
  clear hW10 K10 K9 Hk9 B9 E9 G9 X8 Y8 Z8 c0 c1 c2 c3 c4 c5 c6 c7 f9 k9 n9 n9' hlt
  have hsl1 : ∀ W, (Instr.sliceAt 23 (.slice p8 ZW.length q8) none (some (.int .i64 XI.length)) none).run Try.prog W = .ok (.slice p8 XI.length q8) W := fun W => run_head Try.underlying23 size_u8 W p8 ZW.length q8 XI.length (by omega)
  have hsl2 := fun W => run_tail Try.underlying23 size_u8 W p8 ZW.length q8 XI.length hle
  rw [show ZW.length - XI.length = tl.length by rw [HZ.out, List.length_append]; omega] at hsl2
  have Z1 := Lib.hid (show BytesAt W10 p8 XI by have := BytesAt.take (l := ZW) Z10.out XI.length; rwa [HZ.out, List.take_left] at this)
  have Z2 := Lib.hid (show BytesAt W10 (adv p8 q8 XI.length 1) tl by have := BytesAt.adv (l := ZW) (cap := q8) (k := XI.length) Z10.out rfl hq2; rwa [HZ.out, List.drop_left] at this)
  generalize adv p8 q8 XI.length 1 = p9 at hsl2 Z2
  generalize q8 - XI.length = q9 at hsl2
  obtain ⟨c0, c1, c2, c3, c4, c5, c6, c7⟩ := env_cells E10.out.blk
  go_upto_region 11 with (fail)
  have hbd := btd G10.out
  have S1 := Lib.hid (show Calls Try.prog 15 #[.slice p6 XI.length q6, .slice p7 YI.length q7] W10.drew fun e w' => e = .returned (.bool v) ∧ W10.drew = w' from (same01_any p6 p7 _ q6 _ q7 XI YI W10.drew rfl rfl (X10.out.mono (bd _)) (Y10.out.mono (bd _))).mono fun e w' ⟨h, h'⟩ => ⟨by rw [h, HXY.out], h'⟩)
  have S2 := Lib.hid (fun W (h : Below W10.heap.size W10 W) => (show Calls Try.prog 15 #[.slice p8 XI.length q8, .slice p6 XI.length q6] W fun e w' => e = .returned (.bool true) ∧ W = w' from (same01_any p8 p6 _ q8 _ q6 XI XI W rfl rfl (Z1.out.mono h) (X10.out.mono h)).mono fun e w' ⟨h, h'⟩ => ⟨by rw [h, beq_self_eq_true], h'⟩))
  have S3 := Lib.hid (fun W (h : Below W10.heap.size W10 W) => (show Calls Try.prog 15 #[.slice p9 tl.length q9, .slice t1 tl.length tc] W fun e w' => e = .returned (.bool true) ∧ W = w' from (same01_any p9 t1 _ q9 _ tc tl tl W rfl rfl (Z2.out.mono h) ((HB.out.2.1.mono G10.out).mono h)).mono fun e w' ⟨h, h'⟩ => ⟨by rw [h, beq_self_eq_true], h'⟩))
  clear X10 Y10 Z10 Z1 Z2 c0 c1 c2 c3 c4 c5 c6 c7 hq2 hq3
  have Q10 := And.intro (env_cells E10.out.blk) (env_cells B10.out.blk)
  have hbx : Below W10.heap.size W10 W10.drew := bd W10
  go_region_held3 (fun w' => CellsOf w.heap.size k d e0 e1 g s (.slice a1 bl.length bc) (.slice t1 tl.length tc) w' ∧ CellsOf b9 k2 d2 f0 f1 g2 s2 (.slice a2 bl2.length bc2) (.slice t1 tl.length tc) w') (first | assumption) (first
    | (go_at_call 15; (with_reducible refine Calls.mono (S3.out v9 by9) ?_); rintro e v11 ⟨rfl, rfl⟩)
    | (go_at_call 15; (with_reducible refine Calls.mono (S2.out v9 by9) ?_); rintro e v10 ⟨rfl, rfl⟩)
    | (go_at_call 15; (with_reducible refine Calls.mono S1.out ?_); rintro e v8 ⟨rfl, rfl⟩)
    | (go_at_call 19; (with_reducible refine Calls.mono (HS.out _ hbd) ?_); rintro e v9 ⟨rfl, hv9⟩; have Ev9 := (E10.out.up (bd _)).up hv9; have Bv9 := (B10.out.up (bd _)).up hv9; have bv9 := bt hbd hv9; have by9 := bt hbx hv9; have Qv9 := And.intro (env_cells Ev9.blk) (env_cells Bv9.blk)))
  all_goals
    go_split_ands
    go_wp2_with fail
    go_ret
    exact ⟨by simp, bv9⟩
theorem envApart_in (w : World) (k d e0 e1 g s : Int) (a1 : Option Addr) (n1 c1 : Nat) (l1 : List UInt8) (t1 : Option Addr) (m1 x1 : Nat) (z1 : List UInt8) (h1 : InBytes w a1 n1 c1 l1) (h2 : InBytes w t1 m1 x1 z1)
    (k2 d2 f0 f1 g2 s2 : Int) (a2 : Option Addr) (n2 c2 : Nat) (l2 : List UInt8) (t2 : Option Addr) (m2 x2 : Nat) (z2 : List UInt8) (h3 : InBytes w a2 n2 c2 l2) (h4 : InBytes w t2 m2 x2 z2) :
    Calls Try.prog 6 #[envV k d e0 e1 g s (.slice a1 n1 c1) (.slice t1 m1 x1), envV k2 d2 f0 f1 g2 s2 (.slice a2 n2 c2) (.slice t2 m2 x2)] w (BoolOut w true) := by
  obtain ⟨rfl, q1, q2, q3⟩ := h1
  obtain ⟨rfl, r1, r2, r3⟩ := h2
  obtain ⟨rfl, u1, u2, u3⟩ := h3
  obtain ⟨rfl, v1, v2, v3⟩ := h4
  exact envApart_any k d e0 e1 g s a1 t1 c1 x1 l1 z1 k2 d2 f0 f1 g2 s2 a2 t2 c2 x2 l2 z2 w (Nat.le_trans q1 q2) (Nat.le_trans r1 r2) (Nat.le_trans u1 u2) (Nat.le_trans v1 v2) q3 r3 u3 v3
end Go.Proofs.Ytkjckokejbnapaa
