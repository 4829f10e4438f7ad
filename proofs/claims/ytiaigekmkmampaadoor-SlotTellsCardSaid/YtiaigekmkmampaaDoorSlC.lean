/- Stores: which records are good, the program's and the document's. -/
import Derived.Test.YtiaigekmkmampaaDoorSlB
set_option linter.unusedSimpArgs false
set_option linter.unusedVariables false
namespace Go.Proofs.YtiaigekmkmampaaDoor
open Go.RowKit

theorem numF_hi (l : List UInt8) (h : 127 < (l.getD 0 0).toNat) : lastN < numF l 0 8 := by
  have h1 := numF_div l 0 1 7
  have h2 : numF l 0 1 = (l.getD 0 0).toNat := by show 0 * 256 + (l.getD (0 + 0) 0).toNat = _; rw [Nat.zero_mul, Nat.zero_add]
  rw [h2] at h1
  have e : 256 ^ 7 = 72057594037927936 := by decide
  rw [show 1 + 7 = 8 from rfl, e] at h1
  unfold lastN
  omega
theorem good_no {l : List UInt8} (h : l.length ≠ 16 ∨ numF l 0 8 < 1 ∨ lastN < numF l 0 8) : goodF l = 0 := by
  unfold goodF
  rw [if_neg]
  rintro ⟨h1, h2, h3⟩
  rcases h with h | h | h
  · exact h (by rw [← h3, recF_len])
  · omega
  · omega
/-- what is good, as a result -/
def GoodOut (w : World) (l : List UInt8) (e : Ending) (w' : World) : Prop := e = .returned (.tuple #[.int .i64 (goodF l), .bool (decide (0 < goodF l))]) ∧ Below w.heap.size w w'
theorem good_out {w w' : World} {l : List UInt8} (h : goodF l = 0) (hb : Below w.heap.size w w') : GoodOut w l (.returned (.tuple #[.int .i64 0, .bool false])) w' := by
  unfold GoodOut; rw [h]; exact ⟨rfl, hb⟩
theorem takeBig_short (a : Option Addr) (c : Nat) (l : List UInt8) (h : l.length < 8) (w : World) :
    Calls Tryd.prog 27 #[.slice a l.length c, .int .i64 0, .int .i64 8] w fun e w' => e = .returned (.tuple #[.int .i64 0, .int .i64 0, .int .i64 3]) ∧ w = w' := by
  have d1 : ¬ (l.length : Int) < 0 := by omega
  have d2 : (l.length : Int) < 8 := by omega
  go_enter Tryd.func27, Tryd.ntmps27
  go_wp2_with fail
  go_ret3
  exact ⟨rfl, rfl⟩
theorem takeBig_bad (a : Option Addr) (c : Nat) (l : List UInt8) (h8 : 8 ≤ l.length) (h : 127 < (l.getD 0 0).toNat) (hc : l.length ≤ c) (hcm : c ≤ maxLen) (w : World) (hl : BytesAt w a l) :
    Calls Tryd.prog 27 #[.slice a l.length c, .int .i64 0, .int .i64 8] w fun e w' => e = .returned (.tuple #[.int .i64 0, .int .i64 0, .int .i64 2]) ∧ w = w' :=
  (takeBig_any a c l 0 8 (by decide) (by decide) (by omega) hc hcm w hl).mono fun e w' ⟨p, q⟩ => ⟨by rw [p, if_pos ⟨rfl, h⟩], q⟩
theorem takeBig_num (a : Option Addr) (c : Nat) (l : List UInt8) (h8 : 8 ≤ l.length) (h : ¬ 127 < (l.getD 0 0).toNat) (hc : l.length ≤ c) (hcm : c ≤ maxLen) (w : World) (hl : BytesAt w a l) :
    Calls Tryd.prog 27 #[.slice a l.length c, .int .i64 0, .int .i64 8] w fun e w' => e = .returned (.tuple #[.int .i64 (numF l 0 8), .int .i64 8, .int .i64 0]) ∧ w = w' :=
  (takeBig_any a c l 0 8 (by decide) (by decide) (by omega) hc hcm w hl).mono fun e w' ⟨p, q⟩ => ⟨by rw [p, if_neg (fun k => h k.2)]; rfl, q⟩
theorem refTakeBig_bad (a : Option Addr) (c : Nat) (l : List UInt8) (h8 : 8 ≤ l.length) (h : 127 < (l.getD 0 0).toNat) (hc : l.length ≤ c) (hcm : c ≤ maxLen) (w : World) (hl : BytesAt w a l) :
    Calls Tryd.prog 29 #[.slice a l.length c, .int .i64 0, .int .i64 8] w fun e w' => e = .returned (.tuple #[.int .i64 0, .int .i64 0, .int .i64 2]) ∧ w = w' :=
  (refTakeBig_any a c l 0 8 (by decide) (by decide) (by omega) hc hcm w hl).mono fun e w' ⟨p, q⟩ => ⟨by rw [p, if_pos ⟨rfl, h⟩], q⟩
theorem refTakeBig_num (a : Option Addr) (c : Nat) (l : List UInt8) (h8 : 8 ≤ l.length) (h : ¬ 127 < (l.getD 0 0).toNat) (hc : l.length ≤ c) (hcm : c ≤ maxLen) (w : World) (hl : BytesAt w a l) :
    Calls Tryd.prog 29 #[.slice a l.length c, .int .i64 0, .int .i64 8] w fun e w' => e = .returned (.tuple #[.int .i64 (numF l 0 8), .int .i64 8, .int .i64 0]) ∧ w = w' :=
  (refTakeBig_any a c l 0 8 (by decide) (by decide) (by omega) hc hcm w hl).mono fun e w' ⟨p, q⟩ => ⟨by rw [p, if_neg (fun k => h k.2)]; rfl, q⟩

set_option maxRecDepth 100000 in
set_option maxHeartbeats 1000000 in
theorem good_any (a : Option Addr) (c : Nat) (l : List UInt8) (hc : l.length ≤ c) (hcm : c ≤ maxLen) (w : World) (hl : BytesAt w a l) (hk : KeysAt w) :
    Calls Tryd.prog 11 #[.slice a l.length c] w (GoodOut w l) := by
  by_cases h8 : l.length < 8
  · have HG := Lib.hid (good_no (l := l) (.inl (by omega)))
    have HT := Lib.hid (fun W => takeBig_short a c l h8 W)
    clear h8 hl hk hc hcm
    go_enter Tryd.func11, Tryd.ntmps11
    go_wp2_with fail
    refine (HT.out _).mono ?_; rintro e w1 ⟨rfl, rfl⟩
    go_wp2_with fail
    go_ret2
    exact good_out HG.out (Below.refl _ _)
  by_cases h127 : 127 < (l.getD 0 0).toNat
  · have HG := Lib.hid (good_no (l := l) (.inr (.inr (numF_hi l h127))))
    have HT := Lib.hid (takeBig_bad a c l (by omega) h127 hc hcm w hl)
    clear h8 hl hk hc hcm h127
    go_enter Tryd.func11, Tryd.ntmps11
    go_wp2_with fail
    refine HT.out.mono ?_; rintro e w1 ⟨rfl, rfl⟩
    go_wp2_with fail
    go_ret2
    exact good_out HG.out (Below.refl _ _)
  have HT := Lib.hid (takeBig_num a c l (by omega) h127 hc hcm w hl)
  obtain ⟨N, hN⟩ : ∃ N, N = numF l 0 8 := ⟨_, rfl⟩
  rw [← hN] at HT
  by_cases hr : 1 ≤ N ∧ N ≤ lastN
  · have HR := Lib.hid (rec_ok N hr.1 hr.2 w hk)
    obtain ⟨R, hR⟩ : ∃ R, R = recF N := ⟨_, rfl⟩
    have hRl : R.length = 16 := by rw [hR, recF_len]
    have HQ := Lib.hid (fun (o : Option Addr) (oc : Nat) W h k => bequal_any o a 16 oc l.length c R l W hRl.symm rfl h k)
    have Hl := Lib.hid hl
    unfold RecOut at HR
    rw [← hR] at HR
    rcases hq : (R == l) with _ | _
    · rw [hq] at HQ
      have HG := Lib.hid (show goodF l = 0 by
        unfold goodF; rw [← hN, if_neg]; rintro ⟨-, -, h⟩; rw [hR, h, beq_self_eq_true] at hq; cases hq)
      clear hl hk hc hcm h8 h127 hq hr hR hRl hN
      go_enter Tryd.func11, Tryd.ntmps11
      go_wp2_with fail
      refine HT.out.mono ?_; rintro e w1 ⟨rfl, rfl⟩
      go_wp2_with fail
      refine HR.out.mono ?_; rintro e w2 ⟨a2, c2, rfl, ho⟩
      have H2 := Lib.hid ho.at
      have Hb2 := Lib.hid ho.bel
      clear ho
      go_wp2_with fail
      refine (HQ.out a2 c2 w2 H2.out (Hl.out.mono Hb2.out)).mono ?_; rintro e w3 ⟨rfl, rfl⟩
      go_wp2_with fail
      go_ret2
      exact good_out HG.out Hb2.out
    · rw [hq] at HQ
      have HG := Lib.hid (show goodF l = N ∧ 0 < N from ⟨by
        unfold goodF; rw [← hN, if_pos ⟨hr.1, hr.2, by rw [← hR]; exact eq_of_beq hq⟩], hr.1⟩)
      clear hl hk hc hcm h8 h127 hq hr hR hRl hN
      go_enter Tryd.func11, Tryd.ntmps11
      go_wp2_with fail
      refine HT.out.mono ?_; rintro e w1 ⟨rfl, rfl⟩
      go_wp2_with fail
      refine HR.out.mono ?_; rintro e w2 ⟨a2, c2, rfl, ho⟩
      have H2 := Lib.hid ho.at
      have Hb2 := Lib.hid ho.bel
      clear ho
      go_wp2_with fail
      refine (HQ.out a2 c2 w2 H2.out (Hl.out.mono Hb2.out)).mono ?_; rintro e w3 ⟨rfl, rfl⟩
      go_wp2_with fail
      go_ret2
      refine ⟨?_, Hb2.out⟩
      rw [HG.out.1, decide_eq_true HG.out.2]; rfl
  · have hb : (N : Int) < 1 ∨ 4611686018427387904 < (N : Int) := by unfold lastN at hr; omega
    have HR := Lib.hid (rec_bad N hb w)
    have HG := Lib.hid (good_no (l := l) (.inr (by rw [← hN]; omega)))
    clear hl hk hc hcm h8 h127 hr hN hb
    go_enter Tryd.func11, Tryd.ntmps11
    go_wp2_with fail
    refine HT.out.mono ?_; rintro e w1 ⟨rfl, rfl⟩
    go_wp2_with fail
    refine HR.out.mono ?_; rintro e w2 ⟨rfl, rfl⟩
    go_wp2_with fail
    go_ret2
    exact good_out HG.out (Below.refl _ _)

set_option maxRecDepth 100000 in
set_option maxHeartbeats 1000000 in
theorem refGood_any (a : Option Addr) (c : Nat) (l : List UInt8) (hc : l.length ≤ c) (hcm : c ≤ maxLen) (w : World) (hl : BytesAt w a l) :
    Calls Tryd.prog 12 #[.slice a l.length c] w (GoodOut w l) := by
  by_cases h16 : l.length = 16
  rotate_left
  · have HG := Lib.hid (good_no (l := l) (.inl h16))
    have hd : ((l.length : Int) != 16) = true := by rw [bne_iff_ne]; omega
    clear h16 hl hc hcm
    go_enter Tryd.func12, Tryd.ntmps12
    go_wp2_with fail
    go_ret2
    exact good_out HG.out (Below.refl _ _)
  have hd : ((l.length : Int) != 16) = false := by rw [h16]; rfl
  by_cases h127 : 127 < (l.getD 0 0).toNat
  · have HG := Lib.hid (good_no (l := l) (.inr (.inr (numF_hi l h127))))
    have HT := Lib.hid (refTakeBig_bad a c l (by omega) h127 hc hcm w hl)
    clear h16 hl hc hcm h127
    go_enter Tryd.func12, Tryd.ntmps12
    go_wp2_with fail
    refine HT.out.mono ?_; rintro e w1 ⟨rfl, rfl⟩
    go_wp2_with fail
    go_ret2
    exact good_out HG.out (Below.refl _ _)
  have HT := Lib.hid (refTakeBig_num a c l (by omega) h127 hc hcm w hl)
  obtain ⟨N, hN⟩ : ∃ N, N = numF l 0 8 := ⟨_, rfl⟩
  rw [← hN] at HT
  by_cases hr : 1 ≤ N ∧ N ≤ lastN
  · have HR := Lib.hid (refRec_ok N hr.1 hr.2 w)
    obtain ⟨R, hR⟩ : ∃ R, R = recF N := ⟨_, rfl⟩
    have hRl : R.length = 16 := by rw [hR, recF_len]
    have HQ := Lib.hid (fun (o : Option Addr) (oc : Nat) W h k => same01_any o a 16 oc l.length c R l W hRl.symm rfl h k)
    have Hl := Lib.hid hl
    unfold RecOut at HR
    rw [← hR] at HR
    rcases hq : (R == l) with _ | _
    · rw [hq] at HQ
      have HG := Lib.hid (show goodF l = 0 by
        unfold goodF; rw [← hN, if_neg]; rintro ⟨-, -, h⟩; rw [hR, h, beq_self_eq_true] at hq; cases hq)
      clear hl hc hcm h16 h127 hq hr hR hRl hN
      go_enter Tryd.func12, Tryd.ntmps12
      go_wp2_with fail
      refine HT.out.mono ?_; rintro e w1 ⟨rfl, rfl⟩
      go_wp2_with fail
      refine HR.out.mono ?_; rintro e w2 ⟨a2, c2, rfl, ho⟩
      have H2 := Lib.hid ho.at
      have Hb2 := Lib.hid ho.bel
      clear ho
      go_wp2_with fail
      refine (HQ.out a2 c2 w2 H2.out (Hl.out.mono Hb2.out)).mono ?_; rintro e w3 ⟨rfl, rfl⟩
      go_wp2_with fail
      go_ret2
      exact good_out HG.out Hb2.out
    · rw [hq] at HQ
      have HG := Lib.hid (show goodF l = N ∧ 0 < N from ⟨by
        unfold goodF; rw [← hN, if_pos ⟨hr.1, hr.2, by rw [← hR]; exact eq_of_beq hq⟩], hr.1⟩)
      clear hl hc hcm h16 h127 hq hr hR hRl hN
      go_enter Tryd.func12, Tryd.ntmps12
      go_wp2_with fail
      refine HT.out.mono ?_; rintro e w1 ⟨rfl, rfl⟩
      go_wp2_with fail
      refine HR.out.mono ?_; rintro e w2 ⟨a2, c2, rfl, ho⟩
      have H2 := Lib.hid ho.at
      have Hb2 := Lib.hid ho.bel
      clear ho
      go_wp2_with fail
      refine (HQ.out a2 c2 w2 H2.out (Hl.out.mono Hb2.out)).mono ?_; rintro e w3 ⟨rfl, rfl⟩
      go_wp2_with fail
      go_ret2
      refine ⟨?_, Hb2.out⟩
      rw [HG.out.1, decide_eq_true HG.out.2]; rfl
  · have hb : (N : Int) < 1 ∨ 4611686018427387904 < (N : Int) := by unfold lastN at hr; omega
    have HR := Lib.hid (refRec_bad N hb w)
    have HG := Lib.hid (good_no (l := l) (.inr (by rw [← hN]; omega)))
    clear hl hc hcm h16 h127 hr hN hb
    go_enter Tryd.func12, Tryd.ntmps12
    go_wp2_with fail
    refine HT.out.mono ?_; rintro e w1 ⟨rfl, rfl⟩
    go_wp2_with fail
    refine HR.out.mono ?_; rintro e w2 ⟨rfl, rfl⟩
    go_wp2_with fail
    go_ret2
    exact good_out HG.out (Below.refl _ _)
end Go.Proofs.YtiaigekmkmampaaDoor
