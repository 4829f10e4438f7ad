/- The walk of the law EnvByte. -/
import Derived.Test.YtkjckokejbnapaaEnb
set_option linter.unusedSimpArgs false
set_option linter.unusedVariables false
namespace Go.Proofs.Ytkjckokejbnapaa
open Go.RowKit

theorem OwnB.setLow {B g j : Nat} {w : World} {v : Value} {n : Nat} {xs : List Value} (h : OwnB B w v n xs) (hg : g < B) (u : Value) : OwnB B (w.setCell ⟨g, j, none⟩ u) v n xs := by
  obtain ⟨⟨h1, h2⟩, h3⟩ := h
  refine ⟨⟨h1, ?_⟩, by simpa using h3⟩
  rcases h2 with h2 | ⟨g', cap, cur, hv, hg', hh, r⟩
  · exact .inl h2
  · refine .inr ⟨g', cap, cur, hv, hg', ?_, r⟩
    rw [Below.heap_setCell _ _ _ _ ?_]
    · exact hh
    · first | (show g' ≠ g; omega) | (show g ≠ g'; omega)
set_option maxRecDepth 100000 in
set_option maxHeartbeats 2000000 in
theorem envByte_any (k d e0 e1 g s : Int) (a1 t1 : Option Addr) (bc tc : Nat) (bl tl : List UInt8) (cut : Nat) (y : UInt8) (w : World) (hcut : cut < 65536)
    (hb : bl.length ≤ maxLen) (ht : tl.length ≤ maxLen) (h1 : BytesAt w a1 bl) (h2 : BytesAt w t1 tl) :
    Calls Try.prog 8 #[envV k d e0 e1 g s (.slice a1 bl.length bc) (.slice t1 tl.length tc), .int .u16 cut, .int .u8 (bv y)] w (BoolOut w true) := by
  have HBf := Lib.hid (byte_facts k d e0 e1 g s a1 t1 bc tc bl tl)
  have HF := Lib.hid (fun W => few_any k d e0 e1 g s a1 t1 bl.length bc tl.length tc hb ht W)
  have HR' := Lib.hid (fun W => refRight_any k d e0 e1 g s a1 t1 bl.length bc tl.length tc hb ht W)
  have A1 := Lib.hid h1
  have A2 := Lib.hid h2
  generalize (decide (bl.length ≤ 1000) && decide (tl.length ≤ 100)) = fa at HF
  have Hsh := Lib.hid shown12
  clear h1 h2 hb ht
  have Hrt : ∃ rt, rt = rightB k d e0 e1 g s bl.length tl.length := ⟨_, rfl⟩
  obtain ⟨rt, Hrt⟩ := Hrt
  rw [← Hrt] at HR' HBf
  clear Hrt
  go_enter Try.func8, Try.ntmps8
  go_wp2_with fail
  refine (Hsh.out _).mono ?_; rintro e w1 ⟨rfl, hb1⟩
  have E1 := Lib.hid (env_box w k d e0 e1 g s _ _ hb1)
  have G1 := Lib.hid (bt (ba w _) hb1)
  clear hb1
  obtain ⟨c0, c1, c2, c3, c4, c5, c6, c7⟩ := env_cells E1.out.blk
  go_wp2_with fail
  refine (HF.out _).mono ?_; rintro e w2 ⟨rfl, hb2⟩
  have E2 := Lib.hid (E1.out.up hb2)
  have G2 := Lib.hid (bt G1.out hb2)
  clear c0 c1 c2 c3 c4 c5 c6 c7 hb2 E1 G1
  rcases fa with _ | _
  · go_wp2_with fail
    go_ret
    exact ⟨rfl, G2.out⟩
  obtain ⟨c0, c1, c2, c3, c4, c5, c6, c7⟩ := env_cells E2.out.blk
  go_wp2_with fail
  refine (HR'.out _).mono ?_; rintro e w3 ⟨rfl, hb3⟩
  have E3 := Lib.hid (E2.out.up hb3)
  have E3lt := Lib.hid E3.out.blk.lt
  have G3 := Lib.hid (bt G2.out hb3)
  clear c0 c1 c2 c3 c4 c5 c6 c7 hb3 E2 G2
  rcases rt with _ | _
  · go_wp2_with fail
    go_ret
    exact ⟨rfl, G3.out⟩
  by_cases hy : y = 0
  · subst hy
    have hy0 : (bv 0 == 0) = true := rfl
    go_wp2_with fail
    go_ret
    exact ⟨rfl, G3.out⟩
  have hy0 : (bv y == 0) = false := by
    rw [beq_eq_false_iff_ne]; intro h; exact hy (bv_inj.1 (by rw [h]; rfl))
  obtain ⟨XW, hX1, hX2, h16, htl, hg, hI, hW⟩ := HBf.out rfl
  have HI := Lib.hid hI
  have HW := Lib.hid hW
  have Hg := Lib.hid hg
  have Htl := Lib.hid htl
  have H16 := Lib.hid h16
  have Hy := Lib.hid hy
  obtain ⟨n, hn⟩ : ∃ n, n = XW.length - 16 := ⟨_, rfl⟩
  rw [← hn] at HI Htl
  have Hn := Lib.hid hn
  have hnX : n + 16 = XW.length := by omega
  obtain ⟨XI, hXI⟩ : ∃ XI, XI = XW.take n := ⟨_, rfl⟩
  have hXIl : XI.length = n := by rw [hXI, List.length_take]; omega
  rw [← hXI] at HI
  have HXI := Lib.hid hXI
  have HXIl := Lib.hid hXIl
  have hi0 : (XI.length : Int) + 16 = (XW.length : Int) := by omega
  obtain ⟨I, hIe⟩ : ∃ I, I = cut % XW.length := ⟨_, rfl⟩
  have hIl : I < XW.length := by rw [hIe]; exact Nat.mod_lt _ (by omega)
  have hm : (cut : Int) % (XW.length : Int) = ((I : Nat) : Int) := by rw [hIe]; exact (Int.natCast_emod _ _).symm
  have hm2 : ((cut : Int)).tmod (XW.length : Int) = ((I : Nat) : Int) := by rw [Int.tmod_eq_emod_of_nonneg (by omega), hm]
  have hz : ¬ (XW.length : Int) = 0 := by omega
  obtain ⟨x, hx⟩ : ∃ x, x = XW.getD I 0 := ⟨_, rfl⟩
  have Hx := Lib.hid hx
  obtain ⟨L2, hL2⟩ : ∃ L2, L2 = XW.set I (x ^^^ y) := ⟨_, rfl⟩
  have hL2l : L2.length = XW.length := by rw [hL2]; simp
  have HL2 := Lib.hid hL2
  have HL2l := Lib.hid hL2l
  have Hcs := Lib.hid (cut_same XW I n (x ^^^ y) hIl (by omega) (by rw [← hx]; intro h; exact hy ((xorSelf x y).1 h)))
  rw [← hL2] at Hcs
  have HX := Lib.hid (And.intro hX1 hX2)
  clear HBf hI hW hg htl h16 hy hn hXI hXIl hIe hx hL2 hL2l
  obtain ⟨c0, c1, c2, c3, c4, c5, c6, c7⟩ := env_cells E3.out.blk
  go_wp2_with fail
  refine (HW.out _ (A1.out.mono G3.out) (A2.out.mono G3.out)).mono ?_; rintro e w4 ⟨p4, q4, rfl, hO4, hb4⟩
  have E4 := Lib.hid (E3.out.up hb4)
  have G4 := Lib.hid (bt G3.out hb4)
  have O4 := Lib.hid (show OwnR w3 w4 (.slice p4 XW.length q4) XW from ⟨hO4.own, hb4⟩)
  obtain ⟨_, _, hq1, hq2, hq3⟩ := own_slice hO4.own
  cases hq1
  have Hq := Lib.hid (And.intro hq2 hq3)
  clear c0 c1 c2 c3 c4 c5 c6 c7 hO4 hb4 hq2 hq3 E3
  obtain ⟨c0, c1, c2, c3, c4, c5, c6, c7⟩ := env_cells E4.out.blk
  go_wp2_with fail
  refine (HI.out _ (A1.out.mono G4.out)).mono ?_; rintro e w5 ⟨p5, q5, rfl, hO5, hb5⟩
  have E5 := Lib.hid (E4.out.up hb5)
  have G5 := Lib.hid (bt G4.out hb5)
  have O5 := Lib.hid (show OwnR w3 w5 (.slice p4 XW.length q4) XW from ⟨(OwnB.up ⟨O4.out.own, O4.out.bel.size⟩ hb5).own, bt O4.out.bel hb5⟩)
  have X5 := Lib.hid (show BytesAt w5 p5 XI from hO5.at)
  have P5 := Lib.hid hO5
  clear c0 c1 c2 c3 c4 c5 c6 c7 hO5 hb5 E4
  obtain ⟨gb, rfl, hgb, hcl, hfr, hset⟩ := ownSet O5.out I hIl
  rw [← Hx.out] at hcl
  have Hset := Lib.hid (hset (x ^^^ y))
  have Hlt := Lib.hid (OwnB.lt (k := gb) ⟨O4.out.own, O4.out.bel.size⟩ rfl).2
  have Hgb := Lib.hid hgb
  clear hset hgb
  go_upto_region 10 with (fail)
  generalize hW6 : World.setCell w5 _ _ = W6
  have G6 := Lib.hid (show Below w.heap.size w W6 by rw [← hW6]; exact G5.out.setCell (Nat.le_trans G3.out.size Hgb.out) _)
  have hne : w.heap.size ≠ gb := by
    have h1 := Hgb.out
    have h2 := G3.out.size
    have h3 := E3lt.out
    omega
  have E6 := Lib.hid (show BlkT 25 W6 w.heap.size (envL k d e0 e1 g s (.slice a1 bl.length bc) (.slice t1 tl.length tc)) by rw [← hW6]; exact E5.out.other hne _)
  have P6 := Lib.hid (show OwnB w4.heap.size W6 (.slice p5 XI.length q5) XI.length (B8s XI) by rw [← hW6]; exact P5.out.setLow Hlt.out _)
  have X6 := Lib.hid (show BytesAt W6 (some ⟨gb, 0, none⟩) L2 by rw [HL2.out, ← hW6]; exact Hset.out)
  clear hW6 E5 O5 X5 P5 Hset G5 hcl hfr hne
  have hRi := read_is (some ⟨gb, 0, none⟩) q4 L2 (by rw [HL2l.out]; have := HX.out.2; unfold maxLen; omega) (by rw [HL2l.out]; exact Hq.out.1) Hq.out.2
  rw [HL2l.out] at hRi
  rcases hRi with ⟨er, her, -, -, hmid, HRb⟩ | ⟨-, -, hg2, HRb⟩
  · obtain ⟨rfl, hng⟩ := hmid HX.out.1 HX.out.2
    have hi30 : (I : Int) < 30 := by
      rcases Nat.lt_or_ge I 30 with h | h
      · omega
      · exact (hng (by rw [HL2.out]; exact good_set Hg.out I _ h)).elim
    have HRb := Lib.hid HRb
    clear hmid hng her
    go_wp2_with fail
    refine (HRb.out _ X6.out).mono ?_; rintro e w7 ⟨a7, c7', a8, c8', rfl, -, -, hb7⟩
    have G7 := Lib.hid (bt G6.out hb7)
    clear hb7
    go_wp2_with fail
    go_ret
    exact ⟨by simp, bta G7.out _⟩
  · have HRb := Lib.hid HRb
    have HId := Lib.hid (fun a1 c1 a2 c2 W h1 => input_read hg2 (by rw [HL2l.out]; exact HX.out.1) a1 a2 c1 c2 W h1)
    have htg : tagR L2 = L2.drop n := by unfold tagR; rw [HL2l.out, ← Hn.out]
    have hqi : L2.take (L2.length - 16) = L2.take n := by rw [HL2l.out, ← Hn.out]
    rw [htg] at HRb HId
    rw [hqi] at HId
    obtain ⟨T2, hT2⟩ : ∃ T2, T2 = L2.drop n := ⟨_, rfl⟩
    obtain ⟨Q2, hQ2⟩ : ∃ Q2, Q2 = L2.take n := ⟨_, rfl⟩
    have hT2l : T2.length = tl.length := by rw [hT2, List.length_drop, HL2l.out, H16.out]; omega
    have hQ2l : Q2.length = XI.length := by rw [hQ2, List.length_take, HL2l.out, HXIl.out]; omega
    rw [← hT2] at HRb HId
    rw [← hQ2] at HId
    obtain ⟨hs1, hs2⟩ := Hcs.out
    rw [← hQ2, ← HXI.out] at hs1
    rw [← hT2, ← Htl.out] at hs2
    have HT2l := Lib.hid hT2l
    have HQ2l := Lib.hid hQ2l
    have Hs1 := Lib.hid (show (XI == Q2) = decide ((XI.length : Int) ≤ (I : Int)) by rw [hs1, HXIl.out]; exact decide_eq_decide.2 (by omega))
    have Hs2 := Lib.hid (show (T2 == tl) = decide ((I : Int) < (XI.length : Int)) by rw [hs2, HXIl.out]; exact decide_eq_decide.2 (by omega))
    clear hg2 htg hqi hT2 hQ2 hT2l hQ2l hs1 hs2
    generalize numF L2 0 1 = n1 at HRb HId
    generalize numF L2 1 1 = n2 at HRb HId
    generalize numF L2 2 8 = n3 at HRb HId
    generalize numF L2 10 8 = n4 at HRb HId
    generalize numF L2 18 4 = n5 at HRb HId
    generalize numF L2 22 8 = n6 at HRb HId
    generalize bodyR L2 = rb at HRb HId
    go_wp2_with fail
    refine (HRb.out _ X6.out).mono ?_; rintro e w7 ⟨a7, c7', a8, c8', rfl, h71, h72, hb7⟩
    have G7 := Lib.hid (bt G6.out hb7)
    have E7 := Lib.hid (E6.out.up hb7)
    have P7 := Lib.hid (P6.out.up hb7)
    have X7 := Lib.hid h71
    have Y7 := Lib.hid h72
    clear hb7 h71 h72 E6 P6 G6 X6
    go_upto_region 11 with (fail)
    generalize hW8 : World.alloc w7 _ = W8
    have F8 := Lib.hid (show BlkT 25 W8 w7.heap.size (envL n1 n2 n3 n4 n5 n6 (.slice a7 rb.length c7') (.slice a8 T2.length c8')) by rw [← hW8]; exact BlkT.new w7 (envL n1 n2 n3 n4 n5 n6 (.slice a7 rb.length c7') (.slice a8 T2.length c8')) _)
    have G8 := Lib.hid (show Below w.heap.size w W8 by rw [← hW8]; exact bta G7.out _)
    have E8 := Lib.hid (show BlkT 25 W8 w.heap.size (envL k d e0 e1 g s (.slice a1 bl.length bc) (.slice t1 tl.length tc)) by rw [← hW8]; exact E7.out.up (ba _ _))
    have P8 := Lib.hid (P7.out.up (show Below w7.heap.size w7 W8 by rw [← hW8]; exact ba _ _))
    have Y8 := Lib.hid (show BytesAt W8 a8 T2 by rw [← hW8]; exact Y7.out.mono (ba _ _))
    have HId8 := Lib.hid (HId.out a7 c7' a8 c8' W8 (by rw [← hW8]; exact X7.out.mono (ba _ _)))
    clear hW8 E7 P7 G7 X7 Y7 HId HRb
    generalize w7.heap.size = b3 at F8 ⊢
    obtain ⟨d0, d1, d2', d3, d4, d5, d6, d7⟩ := env_cells F8.out.blk
    go_wp2_with fail
    refine HId8.out.mono ?_; rintro e w9 ⟨a9, c9', rfl, hO9, hb9⟩
    have E9 := Lib.hid (E8.out.up hb9)
    have F9 := Lib.hid (F8.out.up hb9)
    have G9 := Lib.hid (bt G8.out hb9)
    have P9 := Lib.hid (show BytesAt w9 p5 XI from (P8.out.up hb9).at)
    have Y9 := Lib.hid (Y8.out.mono hb9)
    have Q9 := Lib.hid (show BytesAt w9 a9 Q2 from hO9.at)
    clear hO9 hb9 E8 F8 G8 P8 Y8 HId8 d0 d1 d2' d3 d4 d5 d6 d7
    obtain ⟨c0, c1, c2, c3, c4, c5, c6, c7⟩ := env_cells E9.out.blk
    obtain ⟨d0, d1, d2', d3, d4, d5, d6, d7⟩ := env_cells F9.out.blk
    have S1 := Lib.hid (show Calls Try.prog 15 #[.slice p5 XI.length q5, .slice a9 Q2.length c9'] w9 fun e w' => e = .returned (.bool (decide ((XI.length : Int) ≤ (I : Int)))) ∧ w9 = w' from (same01_any p5 a9 _ q5 _ c9' XI Q2 w9 rfl rfl P9.out Q9.out).mono fun e w' ⟨h, h'⟩ => ⟨by rw [h, Hs1.out], h'⟩)
    have S2 := Lib.hid (show Calls Try.prog 15 #[.slice a8 T2.length c8', .slice t1 tl.length tc] w9 fun e w' => e = .returned (.bool (decide ((I : Int) < (XI.length : Int)))) ∧ w9 = w' from (same01_any a8 t1 _ c8' _ tc T2 tl w9 rfl rfl Y9.out (A2.out.mono G9.out)).mono fun e w' ⟨h, h'⟩ => ⟨by rw [h, Hs2.out], h'⟩)
    clear P9 Y9 Q9 Hs1 Hs2 Hcs
    by_cases hIn : (I : Int) < (XI.length : Int)
    · have hIn2 : ¬ (XI.length : Int) ≤ (I : Int) := by omega
      rw [decide_eq_false hIn2] at S1
      rw [decide_eq_true hIn] at S2
      go_wp2_with fail
      refine S1.out.mono ?_; rintro e w10 ⟨rfl, rfl⟩
      go_wp2_with fail
      refine S2.out.mono ?_; rintro e w11 ⟨rfl, rfl⟩
      go_wp2_with fail
      go_ret
      exact ⟨by first | (simp; done) | (simp; omega), G9.out⟩
    · have hIn2 : (XI.length : Int) ≤ (I : Int) := by omega
      rw [decide_eq_true hIn2] at S1
      rw [decide_eq_false hIn] at S2
      go_wp2_with fail
      refine S1.out.mono ?_; rintro e w10 ⟨rfl, rfl⟩
      go_wp2_with fail
      refine S2.out.mono ?_; rintro e w11 ⟨rfl, rfl⟩
      go_wp2_with fail
      go_ret
      exact ⟨by first | (simp; done) | (simp; omega), G9.out⟩
theorem envByte_in (w : World) (k d e0 e1 g s : Int) (a1 : Option Addr) (n1 c1 : Nat) (l1 : List UInt8) (t1 : Option Addr) (m1 x1 : Nat) (z1 : List UInt8) (h1 : InBytes w a1 n1 c1 l1) (h2 : InBytes w t1 m1 x1 z1)
    (cut : Int) (hcut : (Lit.int .u16 cut).wf = true) (by_ : Int) (hby : (Lit.int .u8 by_).wf = true) :
    Calls Try.prog 8 #[envV k d e0 e1 g s (.slice a1 n1 c1) (.slice t1 m1 x1), .int .u16 cut, .int .u8 by_] w (BoolOut w true) := by
  obtain ⟨rfl, q1, q2, q3⟩ := h1
  obtain ⟨rfl, r1, r2, r3⟩ := h2
  obtain ⟨y, rfl⟩ := exists_bv hby
  simp [Lit.wf, IntKind.min, IntKind.max, IntKind.bits, IntKind.signed] at hcut
  obtain ⟨x, rfl⟩ : ∃ x : Nat, cut = x := ⟨cut.toNat, by omega⟩
  exact envByte_any k d e0 e1 g s a1 t1 c1 x1 l1 z1 x y w (by omega) (Nat.le_trans q1 q2) (Nat.le_trans r1 r2) q3 r3
end Go.Proofs.Ytkjckokejbnapaa
