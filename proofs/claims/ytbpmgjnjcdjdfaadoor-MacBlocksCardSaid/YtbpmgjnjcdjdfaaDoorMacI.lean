/- The walk of the law MacBlocks. -/
import Derived.Test.YtbpmgjnjcdjdfaaDoorMacG
import Derived.Deep.DeepCutAuto
set_option linter.unusedSimpArgs false
set_option linter.unusedVariables false
namespace Go.Proofs.YtbpmgjnjcdjdfaaDoor
open Go.RowKit

theorem blockK_own (K : List UInt8) (h : K.length = 64) : blockK K = K := by
  unfold blockK ownK padK; rw [if_neg (by omega), h]; simp
theorem blockK_take (key : List UInt8) : (blockK key).take (ownK key).length = ownK key := by
  unfold blockK padK; simp
theorem blockK_zero (key : List UInt8) (i : Nat) (h : (ownK key).length ≤ i) (hi : i < 64) : (blockK key).getD i 0 = 0 := by
  unfold blockK padK
  simp [List.getD, List.getElem?_append_right h, List.getElem?_replicate]
  split <;> rfl
theorem tagF_block (key m : List UInt8) : tagF (blockK key) m = tagF key m := by
  unfold tagF; rw [blockK_own _ (blockK_len key)]
theorem blockK_more (key : List UInt8) (h : key.length ≤ 63) : blockK (key ++ [0]) = blockK key := by
  unfold blockK ownK padK
  rw [if_neg (by simp; omega), if_neg (by omega), List.length_append, List.append_assoc]
  congr 1
  obtain ⟨j, hj⟩ : ∃ j, 64 - key.length = j + 1 := ⟨63 - key.length, by omega⟩
  rw [hj, show 64 - (key.length + [(0 : UInt8)].length) = j by simp; omega, List.replicate_succ]; rfl
theorem tagF_more (key m : List UInt8) (h : key.length ≤ 63) : tagF (key ++ [0]) m = tagF key m := by
  unfold tagF; rw [blockK_more key h]

set_option maxRecDepth 100000 in
set_option maxHeartbeats 2000000 in
theorem macBlocks_any (hsh : Shown03OK) (a b : Option Addr) (ca cb : Nat) (key m : List UInt8) (w : World) (hkm : key.length ≤ maxLen) (hmm : m.length ≤ maxLen) (ha : BytesAt w a key) (hb : BytesAt w b m) (hk : KeysAt w) :
    Calls Tryd.prog 5 #[.slice a key.length ca, .slice b m.length cb] w (BoolOut w true) := by
  have Hsh := Lib.hid hsh
  have Ha := Lib.hid ha
  have Hb := Lib.hid hb
  have Hk := Lib.hid hk
  unfold maxLen at hkm hmm
  clear hsh ha hb hk
  go_enter Tryd.func5, Tryd.ntmps5
  go_wp2_with fail
  refine (Hsh.out w Hk.out).mono ?_; rintro e w1 ⟨rfl, hb1⟩
  have Hw := Lib.hid hb1
  clear hb1
  go_upto_region 2 with (fail)
  go_cut [19] (fun v19 wx => ∃ gb, v19 = .bool gb ∧ (gb = false → key.length ≤ 300 ∧ m.length ≤ 300) ∧ w1 = wx)
  case first =>
    by_cases h1 : 300 < key.length
    · have hd : (300 : Int) < (key.length : Int) := by omega
      go_wp2_with fail
      go_meet
      exact ⟨true, rfl, (fun h => by cases h), rfl⟩
    · have hd : ¬ (300 : Int) < (key.length : Int) := by omega
      have Hdd := Lib.hid (fun h : ¬ 300 < m.length => show decide ((300 : Int) < (m.length : Int)) = false from decide_eq_false (by omega))
      by_cases h2 : 300 < m.length
      · have hd2 : (300 : Int) < (m.length : Int) := by omega
        go_wp2_with fail
        go_meet
        exact ⟨true, by first | rfl | (rw [decide_eq_true hd2]), (fun h => by cases h), rfl⟩
      · have hd2 : ¬ (300 : Int) < (m.length : Int) := by omega
        have HX := Lib.hid (show key.length ≤ 300 ∧ m.length ≤ 300 from ⟨by omega, by omega⟩)
        have Hd2 := Lib.hid (Hdd.out h2)
        go_wp2_with fail
        go_meet
        exact ⟨false, by first | rfl | rw [Hd2.out], fun _ => HX.out, rfl⟩
  case rest =>
    obtain ⟨gb, rfl, hgb, rfl⟩ := hcut
    rcases gb with _ | _
    · obtain ⟨h1, h2⟩ := hgb rfl
      have HBk := Lib.hid (fun W => macBlock_any a ca key (by omega) W)
      have HBl := Lib.hid (blockK_len key)
      have HOl := Lib.hid (ownK_len key)
      have HTk := Lib.hid (blockK_take key)
      have HZ := Lib.hid (blockK_zero key)
      have HTg := Lib.hid (fun W => macTag_any a b ca cb key m (by omega) (by omega) W)
      have HTl := Lib.hid (tagF_len key m)
      have HTb := Lib.hid (tagF_block key m)
      have HOf := Lib.hid (fun W => refOf_own a ca key (by omega) W)
      have HOy := Lib.hid (fun h : 64 < key.length => show ofF key = ownK key by unfold ownK; rw [if_pos h])
      have HOn := Lib.hid (fun h : ¬ 64 < key.length => show key = ownK key by unfold ownK; rw [if_neg h])
      generalize blockK key = K at HBk HBl HTk HZ HTb
      generalize ownK key = O at HOl HTk HZ HOy HOn
      clear hgb
      go_wp2_with fail
      refine (HBk.out _ (Ha.out.mono Hw.out) (Hk.out.mono Hw.out)).mono ?_; rintro e w2 ⟨rfl, hB2, hb2⟩
      have HKb := Lib.hid (Blk.at hB2)
      have Hw2 := Lib.hid (bt Hw.out hb2)
      generalize (some ⟨w1.heap.size, 0, none⟩ : Option Addr) = b2 at HKb ⊢
      clear hB2 hb2 HBk
      go_upto_if 26 with (fail)
      go_cut [7] (fun v7 wx => ∃ (o : Option Addr) (oc : Nat), v7 = .slice o O.length oc ∧ BytesAt wx o O ∧ Below w2.heap.size w2 wx)
      case first =>
        by_cases h64 : 64 < key.length
        · have hd : (64 : Int) < (key.length : Int) := by omega
          have HO := Lib.hid (HOy.out h64)
          clear h64
          go_wp2_with fail
          refine (HOf.out _ (Ha.out.mono Hw2.out)).mono ?_; rintro e w3 ⟨a3, c3, rfl, hown3, hb3⟩
          rw [HO.out] at hown3 ⊢
          have H3 := Lib.hid (own_at hown3)
          have Hb3 := Lib.hid hb3
          clear hown3 hb3
          go_wp2_with fail
          go_meet
          exact ⟨a3, c3, rfl, H3.out, Hb3.out⟩
        · have hd : ¬ (64 : Int) < (key.length : Int) := by omega
          have HO := Lib.hid (HOn.out h64)
          clear h64
          go_wp2_with fail
          go_meet
          exact ⟨a, ca, by rw [← HO.out], by rw [← HO.out]; exact Ha.out.mono Hw2.out, Below.refl _ _⟩
      case rest =>
        obtain ⟨o, oc, rfl, hO, hbc⟩ := hcut
        have HO := Lib.hid hO
        have HKb := Lib.hid (At.mono HKb.out hbc)
        have Hwc := Lib.hid (bt Hw2.out hbc)
        have hsl : (Instr.sliceAt 22 (.slice b2 64 64) none (some (.int .i64 (O.length : Int))) none).run Tryd.prog wc = .ok (.slice b2 O.length 64) wc := run_head Tryd.underlying22 size_u8 wc b2 64 64 O.length HOl.out
        have hS1 := Lib.hid (same_yes b2 o O.length 64 oc O rfl wc (by have := BytesAt.take HKb.out O.length; rwa [HTk.out] at this) HO.out)
        have HBk2 := Lib.hid (fun (W : World) (h1 : BytesAt W b2 K) h2 => macBlock_any b2 64 K (by rw [HBl.out]; decide) W h1 h2)
        rw [HBl.out, blockK_own K HBl.out] at HBk2
        have hol : O.length ≤ 64 := HOl.out
        clear hO hbc
        go_wp2_with fail
        refine hS1.out.mono ?_; rintro e w4 ⟨rfl, rfl⟩
        go_wp2_with fail
        refine (HBk2.out wc HKb.out (Hk.out.mono Hwc.out)).mono ?_; rintro e w5 ⟨rfl, hB5, hb5⟩
        have hS2 := Lib.hid (same_yes (some ⟨wc.heap.size, 0, none⟩) b2 64 64 64 K HBl.out.symm w5 hB5.at (At.mono HKb.out hb5))
        have HKb := Lib.hid (At.mono HKb.out hb5)
        have Hw5 := Lib.hid (bt Hwc.out hb5)
        clear hB5 hb5 hsl hS1
        go_wp2_with fail
        refine hS2.out.mono ?_; rintro e w6 ⟨rfl, rfl⟩
        go_wp2_with fail
        go_loopw [8] (fun v8 wx => ∃ i : Nat, O.length ≤ i ∧ i ≤ 64 ∧ v8 = .int .i64 (i : Int) ∧ w5 = wx) (fun v8 _ => 64 - (intOf v8).toNat)
        case atStart => exact ⟨O.length, Nat.le_refl _, hol, rfl, rfl⟩
        case round =>
          obtain ⟨i, hi0, hi, rfl, rfl⟩ := hrel
          by_cases hlt : i < 64
          · obtain ⟨kb, ko, rfl, hkb, hkc⟩ := bytes_cell HKb.out (by rw [HBl.out]; decide)
            have c0 := hkc i (by rw [HBl.out]; exact hlt)
            rw [HZ.out i hi0 hlt] at c0
            have c0' : w5.cell? ⟨kb, ko + i, none⟩ = some (.int .u8 0) := c0
            clear hkc c0
            go_wp2_with fail
            exact ⟨⟨i + 1, by omega, by omega, by go_num, by first | rfl | trivial⟩, by simp [intOf]; omega⟩
          · obtain rfl : i = 64 := by omega
            clear hlt hi
            go_wp2_with fail
            refine (HTg.out w5 (Ha.out.mono Hw5.out) (Hb.out.mono Hw5.out) (Hk.out.mono Hw5.out)).mono ?_; rintro e w7 ⟨a7, c7, rfl, -, hat7, hb7⟩
            have H7 := Lib.hid hat7
            have HKb := Lib.hid (At.mono HKb.out hb7)
            have Hw7 := Lib.hid (bt Hw5.out hb7)
            clear hat7 hb7
            have HO0 := Lib.hid (show OwnR w7 (w7.alloc (.cells #[] 5)) (.slice (some ⟨w7.heap.size, 0, none⟩) 0 0) [] from OwnR.of rfl (Buf.made w7 5 [] 0 0 (Nat.le_refl _) rfl (by decide)))
            obtain ⟨M, hM⟩ : ∃ M, M = key ++ [0] := ⟨_, rfl⟩
            have HM := Lib.hid hM
            have HMl := Lib.hid (show M.length = key.length + 1 by rw [hM]; simp)
            clear hM
            go_wp2_with (first
              | (at_builtin; (refine wpList_ownR (.tmp 62) (.tmp 63) rfl rfl rfl HO0.out key rfl (Ha.out.mono (bta Hw7.out _)) rfl (by simp; omega) key rfl ?_; intro a8 c8 w8 h8; have H8 := Lib.hid h8; clear h8))
              | (at_builtin; (refine wpList_ownR (.tmp 64) (.tmp 65) rfl rfl rfl (OwnR.of rfl (H8.out.buf.alloc _)) [0] rfl (at_new w8 (B8s [0]) _) rfl (by omega) M HM.out ?_; intro a9 c9 w9 h9; have H9 := Lib.hid h9; clear h9)))
            have Hw9 := Lib.hid (bt Hw7.out H9.out.bel)
            have HKb := Lib.hid (At.mono HKb.out H9.out.bel)
            have H7 := Lib.hid (H7.out.mono H9.out.bel)
            have HTk := Lib.hid (macTag_any b2 b 64 cb K m (by rw [HBl.out]; decide) (by omega) w9 HKb.out (Hb.out.mono Hw9.out) (Hk.out.mono Hw9.out))
            rw [HBl.out, HTb.out] at HTk
            refine HTk.out.mono ?_; rintro e w10 ⟨a10, c10, rfl, -, hat10, hb10⟩
            have H10 := Lib.hid hat10
            have H7 := Lib.hid (H7.out.mono hb10)
            have Hw10 := Lib.hid (bt Hw9.out hb10)
            have H9 := Lib.hid (H9.out.at.mono hb10)
            clear hat10 hb10
            go_wp2_with fail
            refine (same_yes a10 a7 32 c10 c7 _ HTl.out.symm w10 H10.out H7.out).mono ?_; rintro e w11 ⟨rfl, rfl⟩
            by_cases h63 : 63 < key.length
            · have hd : (63 : Int) < (key.length : Int) := by omega
              go_wp2_with fail
              go_ret
              exact ⟨rfl, Hw10.out⟩
            · have hd : ¬ (63 : Int) < (key.length : Int) := by omega
              have HTm := Lib.hid (macTag_any a9 b c9 cb M m (by rw [HMl.out]; omega) (by omega) w10 H9.out (Hb.out.mono Hw10.out) (Hk.out.mono Hw10.out))
              rw [show tagF M m = tagF key m by rw [HM.out]; exact tagF_more key m (by omega)] at HTm
              go_wp2_with fail
              refine HTm.out.mono ?_; rintro e w12 ⟨a12, c12, rfl, -, hat12, hb12⟩
              have H12 := Lib.hid hat12
              have H7 := Lib.hid (H7.out.mono hb12)
              have Hw12 := Lib.hid (bt Hw10.out hb12)
              clear hat12 hb12
              go_wp2_with fail
              refine (same_yes a12 a7 32 c12 c7 _ HTl.out.symm w12 H12.out H7.out).mono ?_; rintro e w13 ⟨rfl, rfl⟩
              go_wp2_with fail
              go_ret
              exact ⟨rfl, Hw12.out⟩
    · clear hgb
      go_wp2_with fail
      go_ret
      exact ⟨rfl, Hw.out⟩
theorem macBlocks_in (hsh : Shown03OK) (w : World) (hk : KeysAt w) (a : Option Addr) (la ca : Nat) (l : List UInt8) (h : InBytes w a la ca l) (b : Option Addr) (lb cb : Nat) (m : List UInt8) (h2 : InBytes w b lb cb m) :
    Calls Tryd.prog 5 #[.slice a la ca, .slice b lb cb] w (BoolOut w true) := by
  obtain ⟨rfl, h3, h4, h5⟩ := h
  obtain ⟨rfl, h6, h7, h8⟩ := h2
  exact macBlocks_any hsh a b ca cb l m w (Nat.le_trans h3 h4) (Nat.le_trans h6 h7) h5 h8 hk
end Go.Proofs.YtbpmgjnjcdjdfaaDoor
