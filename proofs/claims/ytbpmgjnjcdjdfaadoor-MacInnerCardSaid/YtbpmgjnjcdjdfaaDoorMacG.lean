/- The walk of the law MacTells. -/
import Derived.Test.YtbpmgjnjcdjdfaaDoorMacF
import Derived.Test.YtbpmgjnjcdjdfaaDoorInB
set_option linter.unusedSimpArgs false
set_option linter.unusedVariables false
namespace Go.Proofs.YtbpmgjnjcdjdfaaDoor
open Go.RowKit

theorem same_yes (a b : Option Addr) (n ca cb : Nat) (l : List UInt8) (hn : n = l.length) (w : World) (hl : BytesAt w a l) (hm : BytesAt w b l) :
    Calls Tryd.prog 11 #[.slice a n ca, .slice b n cb] w fun e w' => e = .returned (.bool true) ∧ w = w' := by
  have := same01_any a b n ca n cb l l w hn hn hl hm
  rwa [beq_self_eq_true] at this

set_option maxRecDepth 100000 in
set_option maxHeartbeats 2000000 in
theorem macTells_any (hsh : Shown03OK) (a b : Option Addr) (ca cb : Nat) (key m : List UInt8) (w : World) (hkm : key.length ≤ maxLen) (hmm : m.length ≤ maxLen) (ha : BytesAt w a key) (hb : BytesAt w b m) (hk : KeysAt w) :
    Calls Tryd.prog 3 #[.slice a key.length ca, .slice b m.length cb] w (BoolOut w true) := by
  have Hsh := Lib.hid hsh
  have Ha := Lib.hid ha
  have Hb := Lib.hid hb
  have Hk := Lib.hid hk
  have Hkm := Lib.hid hkm
  have Hmm := Lib.hid hmm
  unfold maxLen at hkm hmm
  clear hsh ha hb hk
  by_cases h1 : 300 < key.length
  · have hd : (300 : Int) < (key.length : Int) := by omega
    go_enter Tryd.func3, Tryd.ntmps3
    go_wp2_with fail
    refine (Hsh.out w Hk.out).mono ?_; rintro e w1 ⟨rfl, hb1⟩
    go_wp2_with fail
    go_ret
    exact ⟨rfl, hb1⟩
  · have hd : ¬ (300 : Int) < (key.length : Int) := by omega
    by_cases h2 : 300 < m.length
    · have hd2 : (300 : Int) < (m.length : Int) := by omega
      go_enter Tryd.func3, Tryd.ntmps3
      go_wp2_with fail
      refine (Hsh.out w Hk.out).mono ?_; rintro e w1 ⟨rfl, hb1⟩
      go_wp2_with fail
      go_ret
      exact ⟨rfl, hb1⟩
    · have hd2 : ¬ (300 : Int) < (m.length : Int) := by omega
      have HBk := Lib.hid (fun W => macBlock_any a ca key (by omega) W)
      have HRb := Lib.hid (fun W => refBlock_any a ca key (by omega) W)
      have HTg := Lib.hid (fun W => macTag_any a b ca cb key m (by omega) (by omega) W)
      have HRt := Lib.hid (fun W => refTag_any a b ca cb key m (by omega) (by omega) W)
      have HKc := Lib.hid (fun W => macKcv_any a ca key (by omega) W)
      have HRk := Lib.hid (fun W => refKcv_any a ca key (by omega) W)
      have HBl := Lib.hid (blockK_len key)
      have HTl := Lib.hid (tagF_len key m)
      have HKl := Lib.hid (kcvF_len key)
      have HSm := Lib.hid (fun W => macSame_any a b ca cb key m Hkm.out Hmm.out W)
      have HRs := Lib.hid (fun W => same01_any a b key.length ca m.length cb key m W rfl rfl)
      generalize blockK key = K at HBk HRb HBl
      generalize tagF key m = T at HTg HRt HTl
      skip
      obtain ⟨eqb, heqb⟩ : ∃ x, x = (key == m) := ⟨_, rfl⟩
      rw [← heqb] at HSm HRs
      clear heqb h1 h2
      go_enter Tryd.func3, Tryd.ntmps3
      go_wp2_with fail
      refine (Hsh.out w Hk.out).mono ?_; rintro e w1 ⟨rfl, hb1⟩
      have Hw := Lib.hid hb1
      clear hb1
      go_wp2_with fail
      refine (HBk.out _ (Ha.out.mono Hw.out) (Hk.out.mono Hw.out)).mono ?_; rintro e w2 ⟨rfl, hB2, hb2⟩
      have H2 := Lib.hid (Blk.at hB2)
      generalize (some ⟨w1.heap.size, 0, none⟩ : Option Addr) = b2 at H2 ⊢
      have Hw2 := Lib.hid (bt Hw.out hb2)
      clear hb2 hB2
      go_wp2_with fail
      refine (HRb.out _ (Ha.out.mono Hw2.out)).mono ?_; rintro e w3 ⟨a3, c3, rfl, hown3, hb3⟩
      have H3 := Lib.hid (own_at hown3)
      have Hw3 := Lib.hid (bt Hw2.out hb3)
      have H2 := Lib.hid (At.mono H2.out hb3)
      rw [HBl.out]
      clear hown3 hb3
      go_wp2_with fail
      refine (same_yes b2 a3 64 64 c3 K HBl.out.symm w3 H2.out H3.out).mono ?_; rintro e w4 ⟨rfl, rfl⟩
      go_wp2_with fail
      refine (HTg.out _ (Ha.out.mono Hw3.out) (Hb.out.mono Hw3.out) (Hk.out.mono Hw3.out)).mono ?_; rintro e w5 ⟨a5, c5, rfl, -, hat5, hb5⟩
      have H5 := Lib.hid hat5
      have Hw5 := Lib.hid (bt Hw3.out hb5)
      clear hat5 hb5
      go_wp2_with fail
      refine (HRt.out _ (Ha.out.mono Hw5.out) (Hb.out.mono Hw5.out)).mono ?_; rintro e w6 ⟨a6, c6, rfl, -, hat6, hb6⟩
      have H6 := Lib.hid hat6
      have H5 := Lib.hid (H5.out.mono hb6)
      have Hw6 := Lib.hid (bt Hw5.out hb6)
      clear hat6 hb6
      go_wp2_with fail
      refine (same_yes a5 a6 32 c5 c6 T HTl.out.symm w6 H5.out H6.out).mono ?_; rintro e w7 ⟨rfl, rfl⟩
      go_wp2_with fail
      refine (HKc.out _ (Ha.out.mono Hw6.out) (Hk.out.mono Hw6.out)).mono ?_; rintro e w8 ⟨a8, c8, rfl, -, hat8, hb8⟩
      have H8 := Lib.hid hat8
      have Hw8 := Lib.hid (bt Hw6.out hb8)
      clear hat8 hb8
      go_wp2_with fail
      refine (HRk.out _ (Ha.out.mono Hw8.out)).mono ?_; rintro e w9 ⟨a9, c9, rfl, -, hat9, hb9⟩
      have H9 := Lib.hid hat9
      have H8 := Lib.hid (H8.out.mono hb9)
      have Hw9 := Lib.hid (bt Hw8.out hb9)
      clear hat9 hb9
      go_wp2_with fail
      refine (same_yes a8 a9 3 c8 c9 _ (kcvF_len key).symm w9 H8.out H9.out).mono ?_; rintro e w10 ⟨rfl, rfl⟩
      go_wp2_with fail
      refine (HSm.out _ (Ha.out.mono Hw9.out) (Hb.out.mono Hw9.out)).mono ?_; rintro e w11 ⟨rfl, hb11⟩
      have Hw11 := Lib.hid (bt Hw9.out hb11)
      clear hb11
      go_wp2_with fail
      refine (HRs.out _ (Ha.out.mono Hw11.out) (Hb.out.mono Hw11.out)).mono ?_; rintro e w12 ⟨rfl, rfl⟩
      have hee : (eqb == eqb) = true := by cases eqb <;> rfl
      go_wp2_with fail
      go_ret
      exact ⟨rfl, Hw11.out⟩
theorem macTells_in (hsh : Shown03OK) (w : World) (hk : KeysAt w) (a : Option Addr) (la ca : Nat) (l : List UInt8) (h : InBytes w a la ca l) (b : Option Addr) (lb cb : Nat) (m : List UInt8) (h2 : InBytes w b lb cb m) :
    Calls Tryd.prog 3 #[.slice a la ca, .slice b lb cb] w (BoolOut w true) := by
  obtain ⟨rfl, h3, h4, h5⟩ := h
  obtain ⟨rfl, h6, h7, h8⟩ := h2
  exact macTells_any hsh a b ca cb l m w (Nat.le_trans h3 h4) (Nat.le_trans h6 h7) h5 h8 hk
end Go.Proofs.YtbpmgjnjcdjdfaaDoor
