/- The walk of the law EnvBack. -/
import Derived.Test.YtkjckokejbnapaaEnw
set_option linter.unusedSimpArgs false
set_option linter.unusedVariables false
namespace Go.Proofs.Ytkjckokejbnapaa
open Go.RowKit

set_option maxRecDepth 100000 in
set_option maxHeartbeats 2000000 in
theorem envBack_any (k d e0 e1 g s : Int) (a1 t1 : Option Addr) (bc tc : Nat) (bl tl : List UInt8) (a : Option Addr) (c : Nat) (l : List UInt8) (w : World)
    (hb : bl.length ≤ maxLen) (ht : tl.length ≤ maxLen) (h1 : BytesAt w a1 bl) (h2 : BytesAt w t1 tl) (hm : l.length ≤ maxLen) (hc : l.length ≤ c) (hcm : c ≤ maxLen) (hl : BytesAt w a l) :
    Calls Try.prog 5 #[envV k d e0 e1 g s (.slice a1 bl.length bc) (.slice t1 tl.length tc), .slice a l.length c] w (BoolOut w true) := by
  have HWr := write_two k d e0 e1 g s a1 t1 bc tc bl tl hb ht
  have HRd := read_is a c l hm hc hcm
  have HL := Lib.hid hl
  have HF := Lib.hid (fun W => few_any k d e0 e1 g s a1 t1 bl.length bc tl.length tc hb ht W)
  have HR' := Lib.hid (fun W => refRight_any k d e0 e1 g s a1 t1 bl.length bc tl.length tc hb ht W)
  have HS' := Lib.hid (fun a3 c3 a4 c4 W (h : Below w.heap.size w W) h3 h4 => refEnvSame_any k d e0 e1 g s a3 a4 c3 c4 bl tl k d e0 e1 g s a1 t1 bc tc bl tl W h3 h4 (h1.mono h) (h2.mono h))
  rw [sameB_refl] at HS'
  have A1 := Lib.hid h1
  have A2 := Lib.hid h2
  generalize (decide (bl.length ≤ 1000) && decide (tl.length ≤ 100)) = fa at HF
  have Hsh := Lib.hid shown12
  have HWr := Lib.hid HWr
  have HRd := Lib.hid HRd
  have Hcm := Lib.hid (And.intro hc hcm)
  clear h1 h2 hl hm hc hcm hb ht
  have Hrt : ∃ rt, rt = rightB k d e0 e1 g s bl.length tl.length := ⟨_, rfl⟩
  obtain ⟨rt, Hrt⟩ := Hrt
  rw [← Hrt] at HR' HWr
  clear Hrt
  by_cases hn : (1000 : Int) < (l.length : Int)
  · go_enter Try.func5, Try.ntmps5
    go_wp2_with fail
    refine (Hsh.out _).mono ?_; rintro e w1 ⟨rfl, hb1⟩
    have E1 := Lib.hid (env_box w k d e0 e1 g s _ _ hb1)
    have G1 := Lib.hid (bt (ba w _) hb1)
    clear hb1
    obtain ⟨c0, c1, c2, c3, c4, c5, c6, c7⟩ := env_cells E1.out.blk
    go_wp2_with fail
    refine (HF.out _).mono ?_; rintro e w2 ⟨rfl, hb2⟩
    have G2 := Lib.hid (bt G1.out hb2)
    clear hb2
    rcases fa with _ | _
    all_goals
      go_wp2_with fail
      go_ret
      exact ⟨rfl, G2.out⟩
  go_enter Try.func5, Try.ntmps5
  go_wp2_with fail
  refine (Hsh.out _).mono ?_; rintro e w1 ⟨rfl, hb1⟩
  have E1 := Lib.hid (env_box w k d e0 e1 g s _ _ hb1)
  have G1 := Lib.hid (bt (ba w _) hb1)
  clear hb1
  obtain ⟨c0, c1, c2, c3, c4, c5, c6, c7⟩ := env_cells E1.out.blk
  go_wp2_with fail
  refine (HF.out _).mono ?_; rintro e w2 ⟨rfl, hb2⟩
  have E2 := Lib.hid (E1.out.up hb2)
  have G2 := Lib.hid (bt G1.out hb2)
  clear c0 c1 c2 c3 c4 c5 c6 c7 hb2 E1 G1
  rcases fa with _ | _
  · go_wp2_with fail
    go_ret
    exact ⟨rfl, G2.out⟩
  obtain ⟨c0, c1, c2, c3, c4, c5, c6, c7⟩ := env_cells E2.out.blk
  go_upto_region 4 with (fail)
  rcases HWr.out with ⟨rfl, HW⟩ | ⟨XW, rfl, hXl, h9, h16, HW, HRx⟩
  case' inl =>
    have HW := Lib.hid HW
    clear HWr
    go_wp2_with fail
    refine (HW.out _).mono ?_; rintro e w3 ⟨rfl, hb3⟩
    have E3 := Lib.hid (E2.out.up hb3)
    have G3 := Lib.hid (bt G2.out hb3)
    clear c0 c1 c2 c3 c4 c5 c6 c7 hb3 E2 G2
    obtain ⟨c0, c1, c2, c3, c4, c5, c6, c7⟩ := env_cells E3.out.blk
    go_wp2_with fail
    refine (HR'.out _).mono ?_; rintro e w4 ⟨rfl, hb4⟩
    have G4 := Lib.hid (bt G3.out hb4)
    clear c0 c1 c2 c3 c4 c5 c6 c7 hb4 E3 G3
    go_upto_region 11 with (fail)
  case' inr =>
    have HW := Lib.hid HW
    have HRx := Lib.hid HRx
    have HXl := Lib.hid hXl
    have H16 := Lib.hid h16
    clear HWr hXl h16
    go_wp2_with fail
    refine (HW.out _ (A1.out.mono G2.out) (A2.out.mono G2.out)).mono ?_; rintro e w3 ⟨a3, c3', rfl, hO3, hb3⟩
    have E3 := Lib.hid (E2.out.up hb3)
    have G3 := Lib.hid (bt G2.out hb3)
    obtain ⟨_, _, hq1, hq2, hq3⟩ := own_slice hO3.own
    cases hq1
    have Hq := Lib.hid (And.intro hq2 hq3)
    have X3 := Lib.hid (show BytesAt w3 a3 XW from hO3.at)
    clear c0 c1 c2 c3 c4 c5 c6 c7 hb3 E2 G2 hO3 hq2 hq3
    obtain ⟨c0, c1, c2, c3, c4, c5, c6, c7⟩ := env_cells E3.out.blk
    go_wp2_with fail
    refine (HR'.out _).mono ?_; rintro e w4 ⟨rfl, hb4⟩
    have E4 := Lib.hid (E3.out.up hb4)
    have G4' := Lib.hid (bt G3.out hb4)
    have X4 := Lib.hid (X3.out.mono hb4)
    clear c0 c1 c2 c3 c4 c5 c6 c7 hb4 E3 G3 X3
    go_wp2_with fail
    refine (HRx.out _ _ _ Hq.out.1 Hq.out.2 X4.out).mono ?_; rintro e w5 ⟨a5, c5', a6, c6', rfl, h51, h52, hb5⟩
    have E5 := Lib.hid (E4.out.up hb5)
    have G5 := Lib.hid (bt G4'.out hb5)
    have X5 := Lib.hid h51
    have Y5 := Lib.hid h52
    clear hb5 h51 h52 E4 G4' X4
    go_upto_region 9 with (fail)
    generalize hW6 : World.alloc w5 _ = W6
    have F6 := Lib.hid (show BlkT 25 W6 w5.heap.size (envL k d e0 e1 g s (.slice a5 bl.length c5') (.slice a6 tl.length c6')) by rw [← hW6]; exact BlkT.new w5 (envL k d e0 e1 g s (.slice a5 bl.length c5') (.slice a6 tl.length c6')) _)
    have G6 := Lib.hid (show Below w.heap.size w W6 by rw [← hW6]; exact bta G5.out _)
    have E6 := Lib.hid (show BlkT 25 W6 w.heap.size (envL k d e0 e1 g s (.slice a1 bl.length bc) (.slice t1 tl.length tc)) by rw [← hW6]; exact E5.out.up (ba _ _))
    have HS6 := Lib.hid (HS'.out a5 c5' a6 c6' W6 G6.out (by rw [← hW6]; exact X5.out.mono (ba _ _)) (by rw [← hW6]; exact Y5.out.mono (ba _ _)))
    clear hW6 E5 X5 Y5 G5
    generalize w5.heap.size = b2 at F6 ⊢
    obtain ⟨c0, c1, c2, c3, c4, c5, c6, c7⟩ := env_cells E6.out.blk
    obtain ⟨d0, d1, d2', d3, d4, d5, d6, d7⟩ := env_cells F6.out.blk
    go_wp2_with fail
    refine HS6.out.mono ?_; rintro e w4 ⟨rfl, hb4⟩
    have G4 := Lib.hid (bt G6.out hb4)
    clear c0 c1 c2 c3 c4 c5 c6 c7 d0 d1 d2' d3 d4 d5 d6 d7 hb4 E6 F6 G6
    go_upto_region 11 with (fail)
  all_goals
    rcases HRd.out with ⟨er, her, -, -, -, HRb⟩ | ⟨h47, h946, hg, HRb⟩
    · have HRb := Lib.hid HRb
      go_wp2_with fail
      refine (HRb.out _ (HL.out.mono G4.out)).mono ?_; rintro e w7 ⟨a7, c7', a8, c8', rfl, -, -, hb7⟩
      have G7 := Lib.hid (bt G4.out hb7)
      clear hb7
      go_upto_region 12 with (fail)
      generalize hW8 : World.alloc w7 _ = W8
      have F8 := Lib.hid (show BlkT 25 W8 w7.heap.size (envL 0 0 0 0 0 0 (.slice a7 0 c7') (.slice a8 0 c8')) by rw [← hW8]; exact BlkT.new w7 (envL 0 0 0 0 0 0 (.slice a7 0 c7') (.slice a8 0 c8')) _)
      have G8 := Lib.hid (show Below w.heap.size w W8 by rw [← hW8]; exact bta G7.out _)
      clear hW8
      generalize w7.heap.size = b3 at F8 ⊢
      obtain ⟨d0, d1, d2', d3, d4, d5, d6, d7⟩ := env_cells F8.out.blk
      go_wp2_with fail
      go_ret
      exact ⟨rfl, G8.out⟩
    · have HRb := Lib.hid HRb
      have HWd := Lib.hid (fun a1 c1 a2 c2 W h1 h2 => write_read hg h47 a1 a2 c1 c2 W h1 h2)
      have HRr := Lib.hid (fun a1 c1 a2 c2 W => refRight_any (numF l 0 1) (numF l 1 1) (numF l 2 8) (numF l 10 8) (numF l 18 4) (numF l 22 8) a1 a2 (bodyR l).length c1 (tagR l).length c2 (by rw [bodyR_len]; unfold maxLen; omega) (by rw [tagR_len l (by omega)]; decide) W)
      rw [right_read hg h47] at HRr
      clear hg
      generalize numF l 0 1 = n1 at HRb HWd HRr
      generalize numF l 1 1 = n2 at HRb HWd HRr
      generalize numF l 2 8 = n3 at HRb HWd HRr
      generalize numF l 10 8 = n4 at HRb HWd HRr
      generalize numF l 18 4 = n5 at HRb HWd HRr
      generalize numF l 22 8 = n6 at HRb HWd HRr
      generalize bodyR l = rb at HRb HWd HRr
      generalize tagR l = rt at HRb HWd HRr
      go_wp2_with fail
      refine (HRb.out _ (HL.out.mono G4.out)).mono ?_; rintro e w7 ⟨a7, c7', a8, c8', rfl, h71, h72, hb7⟩
      have G7 := Lib.hid (bt G4.out hb7)
      have X7 := Lib.hid h71
      have Y7 := Lib.hid h72
      clear hb7 h71 h72
      go_upto_region 12 with (fail)
      generalize hW8 : World.alloc w7 _ = W8
      have F8 := Lib.hid (show BlkT 25 W8 w7.heap.size (envL n1 n2 n3 n4 n5 n6 (.slice a7 rb.length c7') (.slice a8 rt.length c8')) by rw [← hW8]; exact BlkT.new w7 (envL n1 n2 n3 n4 n5 n6 (.slice a7 rb.length c7') (.slice a8 rt.length c8')) _)
      have G8 := Lib.hid (show Below w.heap.size w W8 by rw [← hW8]; exact bta G7.out _)
      have HWd8 := Lib.hid (HWd.out a7 c7' a8 c8' W8 (by rw [← hW8]; exact X7.out.mono (ba _ _)) (by rw [← hW8]; exact Y7.out.mono (ba _ _)))
      clear hW8 X7 Y7 G7
      generalize w7.heap.size = b3 at F8 ⊢
      obtain ⟨d0, d1, d2', d3, d4, d5, d6, d7⟩ := env_cells F8.out.blk
      go_wp2_with fail
      refine HWd8.out.mono ?_; rintro e w9 ⟨a9, c9', rfl, h9x, hb9⟩
      have G9 := Lib.hid (bt G8.out hb9)
      have F9 := Lib.hid (F8.out.up hb9)
      have X9 := Lib.hid h9x
      clear hb9 h9x F8 G8 d0 d1 d2' d3 d4 d5 d6 d7
      obtain ⟨d0, d1, d2', d3, d4, d5, d6, d7⟩ := env_cells F9.out.blk
      go_wp2_with fail
      refine (HRr.out _ _ _ _ _).mono ?_; rintro e w10 ⟨rfl, hb10⟩
      have G10 := Lib.hid (bt G9.out hb10)
      have X10 := Lib.hid (X9.out.mono hb10)
      have L10 := Lib.hid (HL.out.mono G10.out)
      clear hb10 d0 d1 d2' d3 d4 d5 d6 d7
      go_wp2_with fail
      refine (same01_any a9 a l.length c9' l.length c l l _ rfl rfl X10.out L10.out).mono ?_; rintro e w11 ⟨rfl, rfl⟩
      go_wp2_with fail
      go_ret
      exact ⟨by simp, G10.out⟩
theorem envBack_in (w : World) (k d e0 e1 g s : Int) (a1 : Option Addr) (n1 c1 : Nat) (l1 : List UInt8) (t1 : Option Addr) (m1 x1 : Nat) (z1 : List UInt8) (h1 : InBytes w a1 n1 c1 l1) (h2 : InBytes w t1 m1 x1 z1)
    (a : Option Addr) (n c : Nat) (l : List UInt8) (h : InBytes w a n c l) :
    Calls Try.prog 5 #[envV k d e0 e1 g s (.slice a1 n1 c1) (.slice t1 m1 x1), .slice a n c] w (BoolOut w true) := by
  obtain ⟨rfl, q1, q2, q3⟩ := h1
  obtain ⟨rfl, r1, r2, r3⟩ := h2
  obtain ⟨rfl, u1, u2, u3⟩ := h
  exact envBack_any k d e0 e1 g s a1 t1 c1 x1 l1 z1 a c l w (Nat.le_trans q1 q2) (Nat.le_trans r1 r2) q3 r3 (Nat.le_trans u1 u2) u1 u2 u3
end Go.Proofs.Ytkjckokejbnapaa
