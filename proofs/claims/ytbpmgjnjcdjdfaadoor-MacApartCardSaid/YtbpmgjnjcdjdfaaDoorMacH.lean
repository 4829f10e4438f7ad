/- The walk of the law MacDerives. -/
import Derived.Test.YtbpmgjnjcdjdfaaDoorMacG
import Derived.Test.YtbpmgjnjcdjdfaaDoorInG
import Derived.Deep.DeepCutAuto
set_option linter.unusedSimpArgs false
set_option linter.unusedVariables false
namespace Go.Proofs.YtbpmgjnjcdjdfaaDoor
open Go.RowKit

theorem sum_total {rows : List (List UInt8)} {n : Nat} (h : totalF rows ≤ n) : sumL rows ≤ n := by unfold totalF at h; unfold sumL; omega
theorem longV_no {rows : List (List UInt8)} {n : Nat} (h : ¬ totalF rows ≤ n) : (if totalF rows ≤ n then (totalF rows : Int) else (n : Int) + 1) = (n : Int) + 1 := if_neg h

set_option maxRecDepth 100000 in
set_option maxHeartbeats 2000000 in
theorem macDerives_any (hsh : Shown03OK) (a : Option Addr) (ca : Nat) (key : List UInt8) (str : ByteArray) (pa : Option Addr) (pc : Nat) (rows : List (List UInt8)) (w : World)
    (hkm : key.length ≤ maxLen) (hsm : str.size ≤ maxLen) (hrm : rows.length ≤ maxLen) (ha : BytesAt w a key) (hr : RowsAt w pa rows) (hk : KeysAt w) :
    Calls Tryd.prog 4 #[.slice a key.length ca, .string str, .slice pa rows.length pc] w (BoolOut w true) := by
  have Hsh := Lib.hid hsh
  have Ha := Lib.hid ha
  have Hr := Lib.hid hr
  have Hk := Lib.hid hk
  have Hrm := Lib.hid hrm
  unfold maxLen at hkm hsm hrm
  clear hsh ha hr hk
  go_enter Tryd.func4, Tryd.ntmps4
  go_wp2_with fail
  refine (Hsh.out w Hk.out).mono ?_; rintro e w1 ⟨rfl, hb1⟩
  have Hw := Lib.hid hb1
  clear hb1
  go_upto_region 2 with (fail)
  go_cut [30] (fun v30 wx => ∃ gb, v30 = .bool gb ∧ (gb = false → key.length ≤ 100 ∧ str.size ≤ 300 ∧ rows.length ≤ 20 ∧ totalF rows ≤ 400) ∧ w1 = wx)
  case first =>
    by_cases h1 : 100 < key.length
    · have hd : (100 : Int) < (key.length : Int) := by omega
      go_wp2_with fail
      go_meet
      exact ⟨true, rfl, (fun h => by cases h), rfl⟩
    · have hd : ¬ (100 : Int) < (key.length : Int) := by omega
      by_cases h2 : 300 < str.size
      · have hd2 : (300 : Int) < (str.size : Int) := by omega
        go_wp2_with fail
        go_meet
        exact ⟨true, rfl, (fun h => by cases h), rfl⟩
      · have hd2 : ¬ (300 : Int) < (str.size : Int) := by omega
        by_cases h3 : 20 < rows.length
        · have hd3 : (20 : Int) < (rows.length : Int) := by omega
          go_wp2_with fail
          go_meet
          exact ⟨true, rfl, (fun h => by cases h), rfl⟩
        · have hd3 : ¬ (20 : Int) < (rows.length : Int) := by omega
          have hc := long_any pa pc rows 400 w1 (by decide) Hrm.out (Hr.out.mono Hw.out)
          by_cases h4 : totalF rows ≤ 400
          · rw [if_pos h4] at hc
            have Hc := Lib.hid hc
            have hd4 : ¬ (400 : Int) < ((totalF rows : Nat) : Int) := by omega
            have Hdd := Lib.hid (show decide ((400 : Int) < ((totalF rows : Nat) : Int)) = false from decide_eq_false hd4)
            have HX := Lib.hid (show key.length ≤ 100 ∧ str.size ≤ 300 ∧ rows.length ≤ 20 ∧ totalF rows ≤ 400 from ⟨by omega, by omega, by omega, h4⟩)
            clear hc h4
            go_wp2_with fail
            refine Hc.out.mono ?_; rintro e w2 ⟨rfl, rfl⟩
            go_wp2_with fail
            go_meet
            exact ⟨false, by first | rfl | rw [Hdd.out], fun _ => HX.out, rfl⟩
          · rw [if_neg h4] at hc
            have Hc := Lib.hid hc
            clear hc h4
            go_wp2_with fail
            refine Hc.out.mono ?_; rintro e w2 ⟨rfl, rfl⟩
            go_wp2_with fail
            go_meet
            exact ⟨true, rfl, (fun h => by cases h), rfl⟩
  case rest =>
    obtain ⟨gb, rfl, hgb, rfl⟩ := hcut
    rcases gb with _ | _
    · obtain ⟨h1, h2, h3, h4⟩ := hgb rfl
      have h5 := sum_total h4
      by_cases hbad : 255 < str.size ∨ 16 < rows.length
      · have HM := Lib.hid (fun W => macDerive_bad a key.length ca str pa rows.length pc hbad (by omega) Hrm.out W)
        have HR := Lib.hid (fun W => refDerive_bad a key.length ca str pa rows.length pc hbad (by omega) Hrm.out W)
        clear hgb hbad
        go_wp2_with fail
        refine (HM.out _).mono ?_; rintro e w2 ⟨rfl, hb2⟩
        have Hw2 := Lib.hid (bt Hw.out hb2)
        clear hb2
        go_wp2_with fail
        refine (HR.out _).mono ?_; rintro e w3 ⟨rfl, hb3⟩
        have Hw3 := Lib.hid (bt Hw2.out hb3)
        clear hb3
        go_wp2_with fail
        refine (same_yes none none 0 0 0 [] rfl w3 (.inl rfl) (.inl rfl)).mono ?_; rintro e w4 ⟨rfl, rfl⟩
        go_wp2_with fail
        go_ret
        exact ⟨rfl, Hw3.out⟩
      · have HM := Lib.hid (fun W => macDerive_ok a ca key str pa pc rows (by omega) (by omega) (by omega) (by omega) W)
        have HR := Lib.hid (fun W => refDerive_ok a ca key str pa pc rows (by omega) (by omega) (by omega) (by omega) W)
        have HT := Lib.hid (tagF_len key (toldF str.data.toList rows))
        generalize tagF key (toldF str.data.toList rows) = T at HM HR HT
        clear hgb hbad
        go_wp2_with fail
        refine (HM.out _ (Ha.out.mono Hw.out) (Hr.out.mono Hw.out) (Hk.out.mono Hw.out)).mono ?_; rintro e w2 ⟨a2, c2, rfl, hat2, hb2⟩
        have H2 := Lib.hid hat2
        have Hw2 := Lib.hid (bt Hw.out hb2)
        clear hat2 hb2
        go_wp2_with fail
        refine (HR.out _ (Ha.out.mono Hw2.out) (Hr.out.mono Hw2.out)).mono ?_; rintro e w3 ⟨a3, c3, rfl, hat3, hb3⟩
        have H3 := Lib.hid hat3
        have H2 := Lib.hid (H2.out.mono hb3)
        have Hw3 := Lib.hid (bt Hw2.out hb3)
        clear hat3 hb3
        go_wp2_with fail
        refine (same_yes a2 a3 32 c2 c3 T HT.out.symm w3 H2.out H3.out).mono ?_; rintro e w4 ⟨rfl, rfl⟩
        go_wp2_with fail
        go_ret
        exact ⟨rfl, Hw3.out⟩
    · clear hgb
      go_wp2_with fail
      go_ret
      exact ⟨rfl, Hw.out⟩
theorem macDerives_in (hsh : Shown03OK) (w : World) (hk : KeysAt w) (a : Option Addr) (la ca : Nat) (l : List UInt8) (h : InBytes w a la ca l) (str : ByteArray) (hs : str.size ≤ maxLen) (b : Option Addr) (lb cb : Nat) (rows : List (List UInt8)) (h2 : InRows w b lb cb rows) :
    Calls Tryd.prog 4 #[.slice a la ca, .string str, .slice b lb cb] w (BoolOut w true) := by
  obtain ⟨rfl, h3, h4, h5⟩ := h
  obtain ⟨rfl, h6, h7, h8⟩ := h2
  exact macDerives_any hsh a ca l str b cb rows w (Nat.le_trans h3 h4) hs (Nat.le_trans h6 h7) h5 h8 hk
end Go.Proofs.YtbpmgjnjcdjdfaaDoor
