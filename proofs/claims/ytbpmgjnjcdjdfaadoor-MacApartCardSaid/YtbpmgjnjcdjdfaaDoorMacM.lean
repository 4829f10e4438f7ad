/- The walk of the law MacApart. -/
import Derived.Test.YtbpmgjnjcdjdfaaDoorMacL
import Derived.Test.YtbpmgjnjcdjdfaaDoorInM
set_option linter.unusedSimpArgs false
set_option linter.unusedVariables false
namespace Go.Proofs.YtbpmgjnjcdjdfaaDoor
open Go.RowKit

/-- what the law asks of what came in -/
def FewA (key : List UInt8) (s t : ByteArray) (p q : List (List UInt8)) : Prop := key.length ≤ 100 ∧ s.size ≤ 255 ∧ t.size ≤ 255 ∧ p.length ≤ 16 ∧ q.length ≤ 16 ∧ totalF p ≤ 300 ∧ totalF q ≤ 300
theorem long300 (a : Option Addr) (cap : Nat) (rows : List (List UInt8)) (w : World) (hl : rows.length ≤ maxLen) (h : RowsAt w a rows) :
    (totalF rows ≤ 300 ∧ Calls Tryd.prog 19 #[.slice a rows.length cap, .int .i64 300] w fun e w' => ∃ n : Int, e = .returned (.int .i64 n) ∧ ¬ 300 < n ∧ w' = w) ∨
    (¬ totalF rows ≤ 300 ∧ Calls Tryd.prog 19 #[.slice a rows.length cap, .int .i64 300] w fun e w' => ∃ n : Int, e = .returned (.int .i64 n) ∧ 300 < n ∧ w' = w) := by
  have hc := long_any a cap rows 300 w (by decide) hl h
  by_cases h4 : totalF rows ≤ 300
  · rw [if_pos h4] at hc
    exact .inl ⟨h4, hc.mono fun _ _ ⟨h1, h2⟩ => ⟨_, h1, by omega, h2⟩⟩
  · rw [if_neg h4] at hc
    exact .inr ⟨h4, hc.mono fun _ _ ⟨h1, h2⟩ => ⟨_, h1, by omega, h2⟩⟩

set_option maxRecDepth 100000 in
set_option maxHeartbeats 4000000 in
theorem macApart_any (hsh : Shown03OK) (a : Option Addr) (ca : Nat) (key : List UInt8) (s t : ByteArray) (pa : Option Addr) (pc : Nat) (p : List (List UInt8)) (qa : Option Addr) (qc : Nat) (q : List (List UInt8)) (w : World)
    (hkm : key.length ≤ maxLen) (hsm : s.size ≤ maxLen) (htm : t.size ≤ maxLen) (hpm : p.length ≤ maxLen) (hqm : q.length ≤ maxLen) (ha : BytesAt w a key) (hp : RowsAt w pa p) (hq : RowsAt w qa q) (hk : KeysAt w) :
    Calls Tryd.prog 7 #[.agg #[.slice a key.length ca, .string s, .string t, .slice pa p.length pc, .slice qa q.length qc]] w (BoolOut w true) := by
  have Hsh := Lib.hid hsh
  have Ha := Lib.hid ha
  have Hp := Lib.hid hp
  have Hq := Lib.hid hq
  have Hk := Lib.hid hk
  have Hpm := Lib.hid hpm
  have Hqm := Lib.hid hqm
  unfold maxLen at hkm hsm htm hpm hqm
  clear hsh ha hp hq hk
  go_enter Tryd.func7, Tryd.ntmps7
  go_wp2_with fail
  refine (Hsh.out _ (Hk.out.mono (ba w _))).mono ?_; rintro e w1 ⟨rfl, hb1⟩
  have Hw := Lib.hid (bt (ba w _) hb1)
  clear hb1
  go_upto_region 7 with (fail)
  go_cut [58] (fun v58 wx => ∃ gb, v58 = .bool gb ∧ (gb = false → FewA key s t p q) ∧ w1 = wx)
  case first =>
    by_cases g0 : 100 < key.length
    · have d0 : (100 : Int) < ((key.length : Nat) : Int) := by omega
      go_wp2_with fail
      go_meet
      exact ⟨true, by first | rfl | simp [*], (fun h => by cases h), rfl⟩
    · have d0 : ¬ (100 : Int) < ((key.length : Nat) : Int) := by omega
      by_cases g1 : 255 < s.size
      · have d1 : (255 : Int) < ((s.size : Nat) : Int) := by omega
        go_wp2_with fail
        go_meet
        exact ⟨true, by first | rfl | simp [*], (fun h => by cases h), rfl⟩
      · have d1 : ¬ (255 : Int) < ((s.size : Nat) : Int) := by omega
        by_cases g2 : 255 < t.size
        · have d2 : (255 : Int) < ((t.size : Nat) : Int) := by omega
          go_wp2_with fail
          go_meet
          exact ⟨true, by first | rfl | simp [*], (fun h => by cases h), rfl⟩
        · have d2 : ¬ (255 : Int) < ((t.size : Nat) : Int) := by omega
          by_cases g3 : 16 < p.length
          · have d3 : (16 : Int) < ((p.length : Nat) : Int) := by omega
            go_wp2_with fail
            go_meet
            exact ⟨true, by first | rfl | simp [*], (fun h => by cases h), rfl⟩
          · have d3 : ¬ (16 : Int) < ((p.length : Nat) : Int) := by omega
            by_cases g4 : 16 < q.length
            · have d4 : (16 : Int) < ((q.length : Nat) : Int) := by omega
              go_wp2_with fail
              go_meet
              exact ⟨true, by first | rfl | simp [*], (fun h => by cases h), rfl⟩
            · have d4 : ¬ (16 : Int) < ((q.length : Nat) : Int) := by omega
              rcases long300 pa pc p w1 Hpm.out (Hp.out.mono Hw.out) with ⟨g5, l5⟩ | ⟨g5, l5⟩
              · have L5 := Lib.hid l5
                have G5 := Lib.hid g5
                clear g5 l5
                rcases long300 qa qc q w1 Hqm.out (Hq.out.mono Hw.out) with ⟨g6, l6⟩ | ⟨g6, l6⟩
                · have L6 := Lib.hid l6
                  have HF := Lib.hid (show FewA key s t p q from ⟨by omega, by omega, by omega, by omega, by omega, G5.out, g6⟩)
                  clear g6 l6
                  go_wp2_with fail
                  refine L5.out.mono ?_; rintro e w2 ⟨n5, rfl, hn5, rfl⟩
                  go_wp2_with fail
                  refine L6.out.mono ?_; rintro e w3 ⟨n6, rfl, hn6, rfl⟩
                  go_wp2_with fail
                  go_meet
                  exact ⟨false, by first | rfl | exact congrArg Value.bool (decide_eq_false (by omega)) | (rw [decide_eq_false (show ¬ (300 : Int) < n5 by omega), decide_eq_false (show ¬ (300 : Int) < n6 by omega)]; rfl), fun _ => HF.out, rfl⟩
                · have L6 := Lib.hid l6
                  clear g6 l6
                  go_wp2_with fail
                  refine L5.out.mono ?_; rintro e w2 ⟨n5, rfl, hn5, rfl⟩
                  go_wp2_with fail
                  refine L6.out.mono ?_; rintro e w3 ⟨n6, rfl, hn6, rfl⟩
                  go_wp2_with fail
                  go_meet
                  exact ⟨true, by first | rfl | exact congrArg Value.bool (decide_eq_true (by omega)), (fun h => by cases h), rfl⟩
              · have L5 := Lib.hid l5
                clear g5 l5
                go_wp2_with fail
                refine L5.out.mono ?_; rintro e w2 ⟨n5, rfl, hn5, rfl⟩
                go_wp2_with fail
                go_meet
                exact ⟨true, by first | rfl | simp [*], (fun h => by cases h), rfl⟩
  case rest =>
    obtain ⟨gb, rfl, hgb, rfl⟩ := hcut
    rcases gb with _ | _
    · obtain ⟨h1, h2, h3, h4, h5, h6, h7⟩ := hgb rfl
      have h8 := sum_total h6
      have h9 := sum_total h7
      have HDs := Lib.hid (fun W => macDerive_ok a ca key s pa pc p (by omega) h2 h4 (by omega) W)
      have HDt := Lib.hid (fun W => macDerive_ok a ca key t qa qc q (by omega) h3 h5 (by omega) W)
      have HTs := Lib.hid (fun W => told_any s pa pc p (by omega) (by omega) (by omega) W)
      have HTt := Lib.hid (fun W => told_any t qa qc q (by omega) (by omega) (by omega) W)
      have HRw := Lib.hid (fun W => rowsEq_any pa qa pc qc p q Hpm.out Hqm.out W)
      have HSl := Lib.hid (show (toldF s.data.toList p).length ≤ 90000 by rw [toldF_len, str_size]; omega)
      have HTl := Lib.hid (show (toldF t.data.toList q).length ≤ 90000 by rw [toldF_len, str_size]; omega)
      have Hinj := Lib.hid (fun h => told_inj (l := s.data.toList) (m := t.data.toList) (p := p) (q := q) (by rw [str_size]; omega) (by rw [str_size]; omega) (by omega) (by omega) h)
      have Hsame := Lib.hid (fun (h : s.data.toList = t.data.toList) (h' : p = q) => show toldF s.data.toList p = toldF t.data.toList q by rw [h, h'])
      have HX := Lib.hid (fun (b : Option Addr) (c : Nat) W => refTag_any a b ca c key (toldF s.data.toList p) (by omega) HSl.out W)
      have HY := Lib.hid (fun (b : Option Addr) (c : Nat) W => refTag_any a b ca c key (toldF t.data.toList q) (by omega) HTl.out W)
      have HDl := Lib.hid (tagF_len key (toldF s.data.toList p))
      have HEl := Lib.hid (tagF_len key (toldF t.data.toList q))
      have Htag := Lib.hid (fun h : toldF s.data.toList p = toldF t.data.toList q => show tagF key (toldF s.data.toList p) = tagF key (toldF t.data.toList q) by rw [h])
      have Hstr := Lib.hid (show (s.toList == t.toList) = decide (s.data.toList = t.data.toList) by
        obtain ⟨⟨ls⟩⟩ := s
        obtain ⟨⟨lt⟩⟩ := t
        rw [ByteArray.toList_mk, ByteArray.toList_mk, Bool.eq_iff_iff]; simp)
      generalize tagF key (toldF s.data.toList p) = D at HDs HX HDl Htag
      generalize tagF key (toldF t.data.toList q) = E at HDt HY HEl Htag
      generalize toldF s.data.toList p = S at HTs HX Hinj Hsame Htag HSl
      generalize toldF t.data.toList q = T at HTt HY Hinj Hsame Htag HTl
      clear hgb h1 h2 h3 h4 h5 h6 h7 h8 h9
      go_wp2_with fail
      refine (HDs.out _ (Ha.out.mono Hw.out) (Hp.out.mono Hw.out) (Hk.out.mono Hw.out)).mono ?_; rintro e w2 ⟨a2, c2, rfl, hat2, hb2⟩
      have H2 := Lib.hid hat2
      have Hw2 := Lib.hid (bt Hw.out hb2)
      clear hat2 hb2 HDs
      go_wp2_with fail
      refine (HDt.out _ (Ha.out.mono Hw2.out) (Hq.out.mono Hw2.out) (Hk.out.mono Hw2.out)).mono ?_; rintro e w3 ⟨a3, c3, rfl, hat3, hb3⟩
      have H3 := Lib.hid hat3
      have H2 := Lib.hid (H2.out.mono hb3)
      have Hw3 := Lib.hid (bt Hw2.out hb3)
      clear hat3 hb3 HDt
      by_cases hst : s.data.toList = t.data.toList
      · have hse : (s.toList == t.toList) = true := by rw [Hstr.out]; exact decide_eq_true hst
        go_wp2_with fail
        refine (HRw.out _ (Hp.out.mono Hw3.out) (Hq.out.mono Hw3.out)).mono ?_; rintro e w4 ⟨rfl, hb4⟩
        have Hw4 := Lib.hid (bt Hw3.out hb4)
        have H2 := Lib.hid (H2.out.mono hb4)
        have H3 := Lib.hid (H3.out.mono hb4)
        clear hb4
        by_cases hpq : p = q
        · have hpd : decide (p = q) = true := decide_eq_true hpq
          have hDE := Lib.hid (Htag.out (Hsame.out hst hpq))
          have HSm := Lib.hid (same01_any a2 a3 32 c2 32 c3 D E w4 HDl.out.symm HEl.out.symm H2.out H3.out)
          rw [show (D == E) = true by rw [hDE.out]; exact beq_self_eq_true _] at HSm
          clear hst hpq
          go_wp2_with fail
          refine HSm.out.mono ?_; rintro e w5 ⟨rfl, rfl⟩
          go_wp2_with fail
          go_ret
          exact ⟨rfl, Hw4.out⟩
        · have hpd : decide (p = q) = false := decide_eq_false hpq
          have Hne := Lib.hid (show S ≠ T from fun h => hpq (Hinj.out h).2)
          clear hst hpq
          go_wp2_with fail
          refine (HTs.out _ (Hp.out.mono Hw4.out)).mono ?_; rintro e w6 ⟨a6, c6, rfl, hat6, hb6⟩
          have H6 := Lib.hid hat6
          have Hw6 := Lib.hid (bt Hw4.out hb6)
          have H2 := Lib.hid (H2.out.mono hb6)
          have H3 := Lib.hid (H3.out.mono hb6)
          clear hat6 hb6
          go_wp2_with fail
          refine (HTt.out _ (Hq.out.mono Hw6.out)).mono ?_; rintro e w7 ⟨a7, c7, rfl, hat7, hb7⟩
          have H7 := Lib.hid hat7
          have H6 := Lib.hid (H6.out.mono hb7)
          have Hw7 := Lib.hid (bt Hw6.out hb7)
          have H2 := Lib.hid (H2.out.mono hb7)
          have H3 := Lib.hid (H3.out.mono hb7)
          clear hat7 hb7
          have HS1 := Lib.hid (same01_any a6 a7 S.length c6 T.length c7 S T w7 rfl rfl H6.out H7.out)
          rw [show (S == T) = false from beq_eq_false_iff_ne.2 Hne.out] at HS1
          have HS2 := Lib.hid (same01_any a2 a3 32 c2 32 c3 D E w7 HDl.out.symm HEl.out.symm H2.out H3.out)
          rcases hde : (D == E) with _ | _
          · rw [hde] at HS2
            clear hde
            go_wp2_with fail
            refine HS1.out.mono ?_; rintro e w8 ⟨rfl, rfl⟩
            go_wp2_with fail
            refine HS2.out.mono ?_; rintro e w9 ⟨rfl, rfl⟩
            go_wp2_with fail
            go_ret
            exact ⟨rfl, Hw7.out⟩
          · rw [hde] at HS2
            have Hde := Lib.hid hde
            clear hde
            go_wp2_with fail
            refine HS1.out.mono ?_; rintro e w8 ⟨rfl, rfl⟩
            go_wp2_with fail
            refine HS2.out.mono ?_; rintro e w9 ⟨rfl, rfl⟩
            go_wp2_with fail
            refine (HX.out a6 c6 w7 (Ha.out.mono Hw7.out) H6.out).mono ?_; rintro e w10 ⟨a10, c10, rfl, -, hat10, hb10⟩
            have H10 := Lib.hid hat10
            have H7 := Lib.hid (H7.out.mono hb10)
            have Hw10 := Lib.hid (bt Hw7.out hb10)
            clear hat10 hb10
            go_wp2_with fail
            refine (HY.out a7 c7 w10 (Ha.out.mono Hw10.out) H7.out).mono ?_; rintro e w11 ⟨a11, c11, rfl, -, hat11, hb11⟩
            have H11 := Lib.hid hat11
            have H10 := Lib.hid (H10.out.mono hb11)
            have Hw11 := Lib.hid (bt Hw10.out hb11)
            clear hat11 hb11
            have HS3 := Lib.hid (same01_any a10 a11 32 c10 32 c11 D E w11 HDl.out.symm HEl.out.symm H10.out H11.out)
            rw [Hde.out] at HS3
            go_wp2_with fail
            refine HS3.out.mono ?_; rintro e w12 ⟨rfl, rfl⟩
            go_wp2_with fail
            go_ret
            exact ⟨rfl, Hw11.out⟩
      · have hse : (s.toList == t.toList) = false := by rw [Hstr.out]; exact decide_eq_false hst
        have Hne := Lib.hid (show S ≠ T from fun h => hst (Hinj.out h).1)
        obtain ⟨w4, hw4⟩ : ∃ w4, w4 = w3 := ⟨w3, rfl⟩
        have Hw4 := Hw3
        clear hst
        go_wp2_with fail
        refine (HTs.out _ (Hp.out.mono Hw3.out)).mono ?_; rintro e w6 ⟨a6, c6, rfl, hat6, hb6⟩
        have H6 := Lib.hid hat6
        have Hw6 := Lib.hid (bt Hw3.out hb6)
        have H2 := Lib.hid (H2.out.mono hb6)
        have H3 := Lib.hid (H3.out.mono hb6)
        clear hat6 hb6
        go_wp2_with fail
        refine (HTt.out _ (Hq.out.mono Hw6.out)).mono ?_; rintro e w7 ⟨a7, c7, rfl, hat7, hb7⟩
        have H7 := Lib.hid hat7
        have H6 := Lib.hid (H6.out.mono hb7)
        have Hw7 := Lib.hid (bt Hw6.out hb7)
        have H2 := Lib.hid (H2.out.mono hb7)
        have H3 := Lib.hid (H3.out.mono hb7)
        clear hat7 hb7
        have HS1 := Lib.hid (same01_any a6 a7 S.length c6 T.length c7 S T w7 rfl rfl H6.out H7.out)
        rw [show (S == T) = false from beq_eq_false_iff_ne.2 Hne.out] at HS1
        have HS2 := Lib.hid (same01_any a2 a3 32 c2 32 c3 D E w7 HDl.out.symm HEl.out.symm H2.out H3.out)
        rcases hde : (D == E) with _ | _
        · rw [hde] at HS2
          clear hde
          go_wp2_with fail
          refine HS1.out.mono ?_; rintro e w8 ⟨rfl, rfl⟩
          go_wp2_with fail
          refine HS2.out.mono ?_; rintro e w9 ⟨rfl, rfl⟩
          go_wp2_with fail
          go_ret
          exact ⟨rfl, Hw7.out⟩
        · rw [hde] at HS2
          have Hde := Lib.hid hde
          clear hde
          go_wp2_with fail
          refine HS1.out.mono ?_; rintro e w8 ⟨rfl, rfl⟩
          go_wp2_with fail
          refine HS2.out.mono ?_; rintro e w9 ⟨rfl, rfl⟩
          go_wp2_with fail
          refine (HX.out a6 c6 w7 (Ha.out.mono Hw7.out) H6.out).mono ?_; rintro e w10 ⟨a10, c10, rfl, -, hat10, hb10⟩
          have H10 := Lib.hid hat10
          have H7 := Lib.hid (H7.out.mono hb10)
          have Hw10 := Lib.hid (bt Hw7.out hb10)
          clear hat10 hb10
          go_wp2_with fail
          refine (HY.out a7 c7 w10 (Ha.out.mono Hw10.out) H7.out).mono ?_; rintro e w11 ⟨a11, c11, rfl, -, hat11, hb11⟩
          have H11 := Lib.hid hat11
          have H10 := Lib.hid (H10.out.mono hb11)
          have Hw11 := Lib.hid (bt Hw10.out hb11)
          clear hat11 hb11
          have HS3 := Lib.hid (same01_any a10 a11 32 c10 32 c11 D E w11 HDl.out.symm HEl.out.symm H10.out H11.out)
          rw [Hde.out] at HS3
          go_wp2_with fail
          refine HS3.out.mono ?_; rintro e w12 ⟨rfl, rfl⟩
          go_wp2_with fail
          go_ret
          exact ⟨rfl, Hw11.out⟩
    · clear hgb
      go_wp2_with fail
      go_ret
      exact ⟨rfl, Hw.out⟩
theorem macApart_in (hsh : Shown03OK) (w : World) (hk : KeysAt w) (a : Option Addr) (la ca : Nat) (l : List UInt8) (s t : ByteArray) (pa : Option Addr) (pl pc : Nat) (ps : List (List UInt8)) (qa : Option Addr) (ql qc : Nat) (qs : List (List UInt8))
    (h : InBytes w a la ca l) (hs : s.size ≤ maxLen) (ht : t.size ≤ maxLen) (hp : InRows w pa pl pc ps) (hq : InRows w qa ql qc qs) :
    Calls Tryd.prog 7 #[.agg #[.slice a la ca, .string s, .string t, .slice pa pl pc, .slice qa ql qc]] w (BoolOut w true) := by
  obtain ⟨rfl, h3, h4, h5⟩ := h
  obtain ⟨rfl, p3, p4, p5⟩ := hp
  obtain ⟨rfl, q3, q4, q5⟩ := hq
  exact macApart_any hsh a ca l s t pa pc ps qa qc qs w (Nat.le_trans h3 h4) hs ht (Nat.le_trans p3 p4) (Nat.le_trans q3 q4) h5 p5 q5 hk
end Go.Proofs.YtbpmgjnjcdjdfaaDoor
