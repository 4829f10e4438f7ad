/- The walk of the law EnvLong. -/
import Derived.Test.YtkjckokejbnapaaEnw
set_option linter.unusedSimpArgs false
set_option linter.unusedVariables false
namespace Go.Proofs.Ytkjckokejbnapaa
open Go.RowKit

theorem read_gen (a : Option Addr) (c : Nat) (l : List UInt8) (hm : l.length ≤ maxLen) (hc : l.length ≤ c) (hcm : c ≤ maxLen) : ∃ (k d e0 e1 g s : Int) (bl tl : List UInt8) (er : Int),
    (∀ W, BytesAt W a l → Calls Try.prog 20 #[.slice a l.length c] W (ReadE W k d e0 e1 g s bl tl er)) ∧
    ((l.length < 47 ∧ er = 3) ∨ (946 < l.length ∧ er = 4) ∨ (47 ≤ l.length ∧ l.length ≤ 946 ∧ er = 2) ∨ (47 ≤ l.length ∧ l.length ≤ 946 ∧ er = 0 ∧ bl.length = l.length - 46)) := by
  rcases read_is a c l hm hc hcm with ⟨er, h0, h1, h2, h3, h4⟩ | ⟨h47, h946, hg, h4⟩
  · refine ⟨_, _, _, _, _, _, _, _, er, h4, ?_⟩
    by_cases q1 : l.length < 47
    · exact .inl ⟨q1, h1 q1⟩
    by_cases q2 : 946 < l.length
    · exact .inr (.inl ⟨q2, h2 q2⟩)
    exact .inr (.inr (.inl ⟨by omega, by omega, (h3 (by omega) (by omega)).1⟩))
  · exact ⟨_, _, _, _, _, _, _, _, 0, h4, .inr (.inr (.inr ⟨h47, h946, rfl, bodyR_len l⟩))⟩
theorem sameB_ne {k d e0 e1 g s k2 d2 f0 f1 g2 s2 : Int} {bl tl bl2 tl2 : List UInt8} (h : bl.length ≠ bl2.length) : sameB k d e0 e1 g s bl tl k2 d2 f0 f1 g2 s2 bl2 tl2 = false := by
  have : (bl == bl2) = false := by rw [beq_eq_false_iff_ne]; rintro rfl; exact h rfl
  simp [sameB, this]

set_option maxRecDepth 100000 in
set_option maxHeartbeats 2000000 in
theorem envLong_any (k d e0 e1 g s : Int) (a1 t1 : Option Addr) (bc tc : Nat) (bl tl : List UInt8) (cut : Nat) (a : Option Addr) (c : Nat) (l : List UInt8) (w : World) (hcut : cut < 65536)
    (hb : bl.length ≤ maxLen) (ht : tl.length ≤ maxLen) (h1 : BytesAt w a1 bl) (h2 : BytesAt w t1 tl) (hm : l.length ≤ maxLen) (hc : l.length ≤ c) (hcm : c ≤ maxLen) (hl : BytesAt w a l) :
    Calls Try.prog 7 #[envV k d e0 e1 g s (.slice a1 bl.length bc) (.slice t1 tl.length tc), .int .u16 cut, .slice a l.length c] w (BoolOut w true) := by
  have HWr := Lib.hid (write_two k d e0 e1 g s a1 t1 bc tc bl tl hb ht)
  have HRd := Lib.hid (read_gen a c l hm hc hcm)
  have HL := Lib.hid hl
  have HF := Lib.hid (fun W => few_any k d e0 e1 g s a1 t1 bl.length bc tl.length tc hb ht W)
  have HR' := Lib.hid (fun W => refRight_any k d e0 e1 g s a1 t1 bl.length bc tl.length tc hb ht W)
  have HS' := Lib.hid (fun (k2 d2 f0 f1 g2 s2 : Int) (bl2 tl2 : List UInt8) (hne : bl2.length ≠ bl.length) a3 c3 a4 c4 W (h : Below w.heap.size w W) h3 h4 => (refEnvSame_any k2 d2 f0 f1 g2 s2 a3 a4 c3 c4 bl2 tl2 k d e0 e1 g s a1 t1 bc tc bl tl W h3 h4 (h1.mono h) (h2.mono h)).mono fun e w' ⟨p, q⟩ => (⟨by rw [p, sameB_ne hne], q⟩ : BoolOut W false e w'))
  have A1 := Lib.hid h1
  have A2 := Lib.hid h2
  generalize (decide (bl.length ≤ 1000) && decide (tl.length ≤ 100)) = fa at HF
  have Hsh := Lib.hid shown12
  clear h1 h2 hl hm hc hcm hb ht
  have Hrt : ∃ rt, rt = rightB k d e0 e1 g s bl.length tl.length := ⟨_, rfl⟩
  obtain ⟨rt, Hrt⟩ := Hrt
  rw [← Hrt] at HR' HWr
  clear Hrt
  by_cases hn : (1000 : Int) < (l.length : Int)
  · go_enter Try.func7, Try.ntmps7
    go_wp2_with fail
    refine (Hsh.out _).mono ?_; rintro e w1 ⟨rfl, hb1⟩
    have E1 := Lib.hid (env_box w k d e0 e1 g s _ _ hb1)
    have G1 := Lib.hid (bt (ba w _) hb1)
    clear hb1
    obtain ⟨c0, c1, c2, c3, c4, c5, c6, c7⟩ := env_cells E1.out.blk
    go_wp2_with fail
    refine (HF.out _).mono ?_; rintro e w2 ⟨rfl, hb2⟩
    have G2 := Lib.hid (bt G1.out hb2)
    have E2 := Lib.hid (E1.out.up hb2)
    clear hb2 c0 c1 c2 c3 c4 c5 c6 c7
    rcases fa with _ | _
    · go_wp2_with fail
      go_ret
      exact ⟨rfl, G2.out⟩
    obtain ⟨c0, c1, c2, c3, c4, c5, c6, c7⟩ := env_cells E2.out.blk
    go_wp2_with fail
    refine (HR'.out _).mono ?_; rintro e w3 ⟨rfl, hb3⟩
    have G3 := Lib.hid (bt G2.out hb3)
    clear hb3
    rcases rt with _ | _
    all_goals
      go_wp2_with fail
      go_ret
      exact ⟨rfl, G3.out⟩
  go_enter Try.func7, Try.ntmps7
  go_wp2_with fail
  refine (Hsh.out _).mono ?_; rintro e w1 ⟨rfl, hb1⟩
  have E1 := Lib.hid (env_box w k d e0 e1 g s _ _ hb1)
  have G1 := Lib.hid (bt (ba w _) hb1)
  clear hb1
  obtain ⟨c0, c1, c2, c3, c4, c5, c6, c7⟩ := env_cells E1.out.blk
  go_wp2_with fail
  refine (HF.out _).mono ?_; rintro e w2 ⟨rfl, hb2⟩
  have E2 := Lib.hid (E1.out.up hb2)
  have G2 := Lib.hid (bt G1.out hb2)
  clear c0 c1 c2 c3 c4 c5 c6 c7 hb2 E1 G1
  rcases fa with _ | _
  · go_wp2_with fail
    go_ret
    exact ⟨rfl, G2.out⟩
  obtain ⟨c0, c1, c2, c3, c4, c5, c6, c7⟩ := env_cells E2.out.blk
  go_wp2_with fail
  refine (HR'.out _).mono ?_; rintro e w3 ⟨rfl, hb3⟩
  have E3 := Lib.hid (E2.out.up hb3)
  have G3 := Lib.hid (bt G2.out hb3)
  clear c0 c1 c2 c3 c4 c5 c6 c7 hb3 E2 G2
  rcases HWr.out with ⟨rfl, HW⟩ | ⟨XW, rfl, hXl, h9, h16, HW, HRx⟩
  · clear HWr
    go_wp2_with fail
    go_ret
    exact ⟨rfl, G3.out⟩
  have HW := Lib.hid HW
  clear HWr HRx h16
  have hXb := Lib.hid hXl
  obtain ⟨I, hI⟩ : ∃ I, I = cut % XW.length := ⟨_, rfl⟩
  have hIl : I < XW.length := by rw [hI]; exact Nat.mod_lt _ (by omega)
  have hm : (cut : Int) % (XW.length : Int) = ((I : Nat) : Int) := by rw [hI]; exact (Int.natCast_emod _ _).symm
  have hm2 : ((cut : Int)).tmod (XW.length : Int) = ((I : Nat) : Int) := by rw [Int.tmod_eq_emod_of_nonneg (by omega), hm]
  have hz : ¬ (XW.length : Int) = 0 := by omega
  have HI := Lib.hid hI
  clear hI
  have hX2 : XW.length ≤ 946 := by omega
  have hXi : ¬ (XW.length : Int) < 47 := by omega
  clear hXl
  obtain ⟨c0, c1, c2, c3, c4, c5, c6, c7⟩ := env_cells E3.out.blk
  go_wp2_with fail
  refine (HW.out _ (A1.out.mono G3.out) (A2.out.mono G3.out)).mono ?_; rintro e w4 ⟨p4, q4, rfl, hO4, hb4⟩
  have E4 := Lib.hid (E3.out.up hb4)
  have G4 := Lib.hid (bt G3.out hb4)
  obtain ⟨_, _, hq1, hq2, hq3⟩ := own_slice hO4.own
  cases hq1
  have X4 := Lib.hid (show BytesAt w4 p4 XW from hO4.at)
  clear c0 c1 c2 c3 c4 c5 c6 c7 hb4 E3 G3 hO4
  obtain ⟨Y, hY⟩ : ∃ Y, Y = XW.take I := ⟨_, rfl⟩
  have hYl : Y.length = I := by rw [hY, List.length_take]; omega
  have hRg := read_gen p4 q4 Y (by rw [hYl]; unfold maxLen; omega) (by rw [hYl]; omega) hq3
  rw [hYl] at hRg
  obtain ⟨k2, d2, f0, f1, g2, s2, bl2, tl2, er, hRx, hcase⟩ := hRg
  have HRx := Lib.hid hRx
  have HY := Lib.hid (show BytesAt w4 p4 Y by rw [hY]; exact BytesAt.take X4.out I)
  have hsl1 : ∀ W, (Instr.sliceAt 23 (.slice p4 XW.length q4) none (some (.int .i64 I)) none).run Try.prog W = .ok (.slice p4 I q4) W := fun W => run_head Try.underlying23 size_u8 W p4 XW.length q4 I (by omega)
  have Hcase := Lib.hid hcase
  clear hcase hRx hY hYl hq2 hq3 X4
  go_wp2_with fail
  refine (HRx.out _ HY.out).mono ?_; rintro e w5 ⟨a5, c5', a6, c6', rfl, h51, h52, hb5⟩
  have E5 := Lib.hid (E4.out.up hb5)
  have G5 := Lib.hid (bt G4.out hb5)
  have X5 := Lib.hid h51
  have Y5 := Lib.hid h52
  clear hb5 h51 h52 E4 G4 HY hsl1 hm hm2 hz
  go_upto_region 9 with (fail)
  generalize hW6 : World.alloc w5 _ = W6
  have F6 := Lib.hid (show BlkT 25 W6 w5.heap.size (envL k2 d2 f0 f1 g2 s2 (.slice a5 bl2.length c5') (.slice a6 tl2.length c6')) by rw [← hW6]; exact BlkT.new w5 (envL k2 d2 f0 f1 g2 s2 (.slice a5 bl2.length c5') (.slice a6 tl2.length c6')) _)
  have G6 := Lib.hid (show Below w.heap.size w W6 by rw [← hW6]; exact bta G5.out _)
  have E6 := Lib.hid (show BlkT 25 W6 w.heap.size (envL k d e0 e1 g s (.slice a1 bl.length bc) (.slice t1 tl.length tc)) by rw [← hW6]; exact E5.out.up (ba _ _))
  have X6 := Lib.hid (show BytesAt W6 a5 bl2 by rw [← hW6]; exact X5.out.mono (ba _ _))
  have Y6 := Lib.hid (show BytesAt W6 a6 tl2 by rw [← hW6]; exact Y5.out.mono (ba _ _))
  clear hW6 E5 X5 Y5 G5
  generalize w5.heap.size = b2 at F6 ⊢
  obtain ⟨k3, d3, u0, u1, g3, s3, bl3, tl3, er2, hRb, hcase2⟩ := HRd.out
  have HRb := Lib.hid hRb
  have Hcase2 := Lib.hid hcase2
  clear HRd hRb hcase2
  go_wp2_with fail
  refine (HRb.out _ (HL.out.mono G6.out)).mono ?_; rintro e w7 ⟨a7, c7', a8, c8', rfl, -, -, hb7⟩
  have G7 := Lib.hid (bt G6.out hb7)
  have E7 := Lib.hid (E6.out.up hb7)
  have F7 := Lib.hid (F6.out.up hb7)
  have X7 := Lib.hid (X6.out.mono hb7)
  have Y7 := Lib.hid (Y6.out.mono hb7)
  clear hb7 E6 F6 G6 X6 Y6
  go_upto_region 10 with (fail)
  generalize hW8 : World.alloc w7 _ = W8
  have G8 := Lib.hid (show Below w.heap.size w W8 by rw [← hW8]; exact bta G7.out _)
  have E8 := Lib.hid (show BlkT 25 W8 w.heap.size (envL k d e0 e1 g s (.slice a1 bl.length bc) (.slice t1 tl.length tc)) by rw [← hW8]; exact E7.out.up (ba _ _))
  have F8 := Lib.hid (show BlkT 25 W8 b2 (envL k2 d2 f0 f1 g2 s2 (.slice a5 bl2.length c5') (.slice a6 tl2.length c6')) by rw [← hW8]; exact F7.out.up (ba _ _))
  have X8 := Lib.hid (show BytesAt W8 a5 bl2 by rw [← hW8]; exact X7.out.mono (ba _ _))
  have Y8 := Lib.hid (show BytesAt W8 a6 tl2 by rw [← hW8]; exact Y7.out.mono (ba _ _))
  clear hW8 E7 F7 G7 X7 Y7
  generalize w7.heap.size = b3 at *
  have hXl := hXb.out
  rcases Hcase.out with ⟨hI1, rfl⟩ | ⟨hI1, rfl⟩ | ⟨hI1, hI2, rfl⟩ | ⟨hI1, hI2, rfl, hbl2⟩
  · have i1 : (I : Int) < 47 := by omega
    have i2 : ¬ (47 : Int) ≤ (I : Int) := by omega
    clear Hcase hXl
    rcases Hcase2.out with ⟨hl1, rfl⟩ | ⟨hl1, rfl⟩ | ⟨hl1, hl2, rfl⟩ | ⟨hl1, hl2, rfl, -⟩
    all_goals
      first
        | (have j1 : ¬ (47 : Int) ≤ (l.length : Int) := by omega
           have j2 : (l.length : Int) ≤ 946 := by omega
           clear Hcase2
           go_wp2_with fail
           go_ret
           exact ⟨by simp, G8.out⟩)
        | (have j1 : (47 : Int) ≤ (l.length : Int) := by omega
           have j2 : ¬ (l.length : Int) ≤ 946 := by omega
           clear Hcase2
           go_wp2_with fail
           go_ret
           exact ⟨by simp, G8.out⟩)
        | (have j1 : (47 : Int) ≤ (l.length : Int) := by omega
           have j2 : (l.length : Int) ≤ 946 := by omega
           clear Hcase2
           go_wp2_with fail
           go_ret
           exact ⟨by simp, G8.out⟩)
  · omega
  · have i1 : ¬ (I : Int) < 47 := by omega
    have i2 : (47 : Int) ≤ (I : Int) := by omega
    clear Hcase hXl
    rcases Hcase2.out with ⟨hl1, rfl⟩ | ⟨hl1, rfl⟩ | ⟨hl1, hl2, rfl⟩ | ⟨hl1, hl2, rfl, -⟩
    all_goals
      first
        | (have j1 : ¬ (47 : Int) ≤ (l.length : Int) := by omega
           have j2 : (l.length : Int) ≤ 946 := by omega
           clear Hcase2
           go_wp2_with fail
           go_ret
           exact ⟨by simp, G8.out⟩)
        | (have j1 : (47 : Int) ≤ (l.length : Int) := by omega
           have j2 : ¬ (l.length : Int) ≤ 946 := by omega
           clear Hcase2
           go_wp2_with fail
           go_ret
           exact ⟨by simp, G8.out⟩)
        | (have j1 : (47 : Int) ≤ (l.length : Int) := by omega
           have j2 : (l.length : Int) ≤ 946 := by omega
           clear Hcase2
           go_wp2_with fail
           go_ret
           exact ⟨by simp, G8.out⟩)
  · have i1 : ¬ (I : Int) < 47 := by omega
    have i2 : (47 : Int) ≤ (I : Int) := by omega
    have hne : bl2.length ≠ bl.length := by omega
    have i3 : (I : Int) - 46 = (bl2.length : Int) := by omega
    have HSx := Lib.hid (HS'.out k2 d2 f0 f1 g2 s2 bl2 tl2 hne a5 c5' a6 c6' W8 G8.out X8.out Y8.out)
    clear Hcase hXl hne hbl2
    obtain ⟨c0, c1, c2, c3, c4, c5, c6, c7⟩ := env_cells E8.out.blk
    obtain ⟨d0, d1, d2', d3, d4, d5, d6, d7⟩ := env_cells F8.out.blk
    go_wp2_with fail
    refine HSx.out.mono ?_; rintro e w9 ⟨rfl, hb9⟩
    have F9 := Lib.hid (F8.out.up hb9)
    have G9 := Lib.hid (bt G8.out hb9)
    clear c0 c1 c2 c3 c4 c5 c6 c7 d0 d1 d2' d3 d4 d5 d6 d7 hb9
    obtain ⟨d0, d1, d2', d3, d4, d5, d6, d7⟩ := env_cells F9.out.blk
    rcases Hcase2.out with ⟨hl1, rfl⟩ | ⟨hl1, rfl⟩ | ⟨hl1, hl2, rfl⟩ | ⟨hl1, hl2, rfl, -⟩
    all_goals
      first
        | (have j1 : ¬ (47 : Int) ≤ (l.length : Int) := by omega
           have j2 : (l.length : Int) ≤ 946 := by omega
           clear Hcase2
           go_wp2_with fail
           go_ret
           exact ⟨by simp, G9.out⟩)
        | (have j1 : (47 : Int) ≤ (l.length : Int) := by omega
           have j2 : ¬ (l.length : Int) ≤ 946 := by omega
           clear Hcase2
           go_wp2_with fail
           go_ret
           exact ⟨by simp, G9.out⟩)
        | (have j1 : (47 : Int) ≤ (l.length : Int) := by omega
           have j2 : (l.length : Int) ≤ 946 := by omega
           clear Hcase2
           go_wp2_with fail
           go_ret
           exact ⟨by simp, G9.out⟩)
theorem envLong_in (w : World) (k d e0 e1 g s : Int) (a1 : Option Addr) (n1 c1 : Nat) (l1 : List UInt8) (t1 : Option Addr) (m1 x1 : Nat) (z1 : List UInt8) (h1 : InBytes w a1 n1 c1 l1) (h2 : InBytes w t1 m1 x1 z1)
    (cut : Int) (hcut : (Lit.int .u16 cut).wf = true) (a : Option Addr) (n c : Nat) (l : List UInt8) (h : InBytes w a n c l) :
    Calls Try.prog 7 #[envV k d e0 e1 g s (.slice a1 n1 c1) (.slice t1 m1 x1), .int .u16 cut, .slice a n c] w (BoolOut w true) := by
  obtain ⟨rfl, q1, q2, q3⟩ := h1
  obtain ⟨rfl, r1, r2, r3⟩ := h2
  obtain ⟨rfl, u1, u2, u3⟩ := h
  simp [Lit.wf, IntKind.min, IntKind.max, IntKind.bits, IntKind.signed] at hcut
  obtain ⟨x, rfl⟩ : ∃ x : Nat, cut = x := ⟨cut.toNat, by omega⟩
  exact envLong_any k d e0 e1 g s a1 t1 c1 x1 l1 z1 x a c l w (by omega) (Nat.le_trans q1 q2) (Nat.le_trans r1 r2) q3 r3 (Nat.le_trans u1 u2) u1 u2 u3
end Go.Proofs.Ytkjckokejbnapaa
