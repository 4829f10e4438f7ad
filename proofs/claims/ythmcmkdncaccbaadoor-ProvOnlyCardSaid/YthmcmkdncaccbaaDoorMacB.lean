/- The program's Tag and Kcv. -/
import Derived.Test.YthmcmkdncaccbaaDoorMacA
set_option linter.unusedSimpArgs false
set_option linter.unusedVariables false
namespace Go.Proofs.YthmcmkdncaccbaaDoor
open Go.RowKit

/-- 32 bytes as a result -/
def Out32 (w : World) (D : List UInt8) (e : Ending) (w' : World) : Prop := ∃ b cb, e = .returned (.slice b 32 cb) ∧ (32 ≤ cb ∧ cb ≤ maxLen) ∧ BytesAt w' b D ∧ Below w.heap.size w w'
theorem out32 {w : World} {l D : List UInt8} (hl : l = D) (h32 : D.length = 32) {e : Ending} {w' : World} (h : OwnOut w l e w') : Out32 w D e w' := by
  subst hl
  obtain ⟨a, c, h1, h2, h3⟩ := h
  obtain ⟨_, _, h4, h5, h6⟩ := own_slice h2
  cases h4
  exact ⟨a, c, by rw [h1, h32], ⟨h32 ▸ h5, h6⟩, own_at h2, h3⟩
/-- the digest under way of bytes -/
abbrev HsC (X : List UInt8) (a : Option Addr) (c : Nat) : List Value := hashC (putS iv X) (X.length : Int) a (putR X).length c
def HsOut (w : World) (X : List UInt8) (e : Ending) (w' : World) : Prop := ∃ a c, e = .returned (.agg (HsC X a c).toArray) ∧ BytesAt w' a (putR X) ∧ Below w.heap.size w w'
theorem put_more (X m : List UInt8) (a b : Option Addr) (c cb : Nat) (hsz : X.length + m.length ≤ 100000) (w : World) (hl : BytesAt w a (putR X)) (hm : BytesAt w b m) (hk : KeysAt w) :
    Calls Tryd.prog 40 #[.agg (HsC X a c).toArray, .slice b m.length cb] w (HsOut w (X ++ m)) :=
  (put_on (putS iv X) X.length a b c cb X (putR X) m (putR_length X) rfl hsz w hl hm hk).mono fun e w' ⟨a', c', h1, h2, h3, _⟩ =>
    ⟨a', c', by rw [h1, putS_app, putR_app, ← List.length_append], by rw [← putR_app]; exact h2, h3⟩
theorem put_more' (XM X m : List UInt8) (hXM : XM = X ++ m) (a b : Option Addr) (c cb : Nat) (hsz : X.length + m.length ≤ 100000) (w : World) (hl : BytesAt w a (putR X)) (hm : BytesAt w b m) (hk : KeysAt w) :
    Calls Tryd.prog 40 #[.agg (HsC X a c).toArray, .slice b m.length cb] w (HsOut w XM) := by
  subst hXM; exact put_more X m a b c cb hsz w hl hm hk
theorem sum_of (X : List UInt8) (a : Option Addr) (c : Nat) (hsz : X.length ≤ 100000) (w : World) (hl : BytesAt w a (putR X)) (hk : KeysAt w) :
    Calls Tryd.prog 42 #[.agg (HsC X a c).toArray] w (Out32 w (ofF X)) :=
  (sum_own (putS iv X) X.length a c (putR X) (by omega) (putR_length X) w hl hk).mono fun _ _ h => out32 rfl (ofF_length X) h
theorem putR_nil (X : List UInt8) (h : X.length % 64 = 0) : putR X = [] := List.eq_nil_of_length_eq_zero (by rw [putR_length, h])
theorem sum_of_own (X : List UInt8) (a : Option Addr) (c : Nat) (hsz : X.length ≤ 100000) (w : World) (hl : BytesAt w a (putR X)) (hk : KeysAt w) :
    Calls Tryd.prog 42 #[.agg (HsC X a c).toArray] w (OwnOut w (ofF X)) :=
  sum_own (putS iv X) X.length a c (putR X) (by omega) (putR_length X) w hl hk
theorem xorK_snoc (k : List UInt8) (b : UInt8) (i : Nat) (h : i < k.length) : xorK (k.take (i + 1)) b = xorK (k.take i) b ++ [k.getD i 0 ^^^ b] := by
  rw [take_snoc k i h 0]; simp [xorK]
/-- a turned key under way -/
def turnC (k : List UInt8) (b : UInt8) (i : Nat) : List Value := B8s (xorK (k.take i) b) ++ List.replicate (64 - i) (.int .u8 0)
theorem turnC_set (k : List UInt8) (b : UInt8) (i : Nat) (hk : k.length = 64) (h : i < 64) : (turnC k b i).set i (.int .u8 (bv (k.getD i 0 ^^^ b))) = turnC k b (i + 1) := by
  unfold turnC
  rw [set_mid _ _ _ 64 i (by rw [List.length_map, xorK_len, List.length_take]; omega) h, xorK_snoc k b i (by omega)]
  simp
theorem turnC_len (k : List UInt8) (b : UInt8) (i : Nat) (hk : k.length = 64) (h : i ≤ 64) : (turnC k b i).length = 64 := by
  simp [turnC, xorK_len]; omega
theorem turnC_zero (k : List UInt8) (b : UInt8) : turnC k b 0 = zs64 := by
  unfold turnC; rfl
theorem turnC_end (k : List UInt8) (b : UInt8) (hk : k.length = 64) : turnC k b 64 = B8s (xorK k b) := by
  unfold turnC; rw [List.take_of_length_le (by omega)]; simp

set_option maxRecDepth 100000 in
set_option maxHeartbeats 2000000 in
theorem turned_any (by_ : UInt8) (kb : Nat) (ka : Option Addr) (k : List UInt8) (hk : k.length = 64) (w : World) (hc : w.cell? ⟨kb, 0, none⟩ = some (.slice ka 64 64)) (hkl : kb < w.heap.size) (hka : BytesAt w ka k) (hks : KeysAt w) :
    Calls Tryd.prog 39 #[.int .u8 (bv by_), .pointer (some ⟨kb, 0, none⟩)] w (HsOut w (xorK k by_)) := by
  have HK := Lib.hid hka
  have Hks := Lib.hid hks
  have Hk := Lib.hid hk
  have HI := Lib.hid (show (Tryd.prog.info? 74).map (·.size) = some 10 by kernel_rfl)
  obtain ⟨Z, hZ⟩ : ∃ Z, Z = zs64 := ⟨_, rfl⟩
  have hmk := mk64
  rw [← hZ] at hmk
  have HZ := Lib.hid (show Z = turnC k by_ 0 by rw [hZ, turnC_zero])
  clear hka hks hk hZ
  go_enter Tryd.func39, Tryd.ntmps39
  go_wp2_with fail
  generalize hW : World.alloc (World.alloc w _) _ = W
  have hB0 : Blk W w.heap.size (hashC ⟨0, 0, 0, 0, 0, 0, 0, 0⟩ 0 none 0 0) := by rw [← hW]; exact (Blk.new w (hashC ⟨0, 0, 0, 0, 0, 0, 0, 0⟩ 0 none 0 0) _).alloc _
  have hB1 : Blk W (w.heap.size + 1) (turnC k by_ 0) := by rw [← hW, HZ.out]; exact blk_at (size_alloc w _).symm _ _
  have hb : Below w.heap.size w W := by rw [← hW]; exact bta (ba w _) _
  clear hW hmk HZ
  go_loopw [5, 6, 10] (fun v5 v6 v10 wx => ∃ i : Nat, i ≤ 64 ∧ v10 = .int .i64 (i : Int) ∧ Blk wx w.heap.size (hashC ⟨0, 0, 0, 0, 0, 0, 0, 0⟩ 0 none 0 0) ∧ Blk wx (w.heap.size + 1) (turnC k by_ i) ∧ Below w.heap.size w wx) (fun _ _ v10 _ => 64 - (intOf v10).toNat)
  case atStart => exact ⟨0, Nat.zero_le _, rfl, hB0, hB1, hb⟩
  case round =>
    clear hB0 hB1 hb
    obtain ⟨i, hi, rfl, hB0, hB1, hb⟩ := hrel
    have HB0 := Lib.hid hB0
    have HB1 := Lib.hid hB1
    have Hb := Lib.hid hb
    by_cases hlt : i < 64
    · obtain ⟨ab, ao, rfl, hal, hac⟩ := bytes_cell HK.out (by rw [Hk.out]; decide)
      have c0 : wr.cell? ⟨ab, ao + i, none⟩ = some (.int .u8 (bv (k.getD i 0))) := by rw [hb.cell (p := ⟨ab, ao + i, none⟩) hal]; exact hac i (by rw [Hk.out]; exact hlt)
      have HS := Lib.hid (turnC_set k by_ i Hk.out hlt)
      have c1 := hB1.cell i (by rw [turnC_len k by_ i Hk.out hi]; exact hlt)
      have fz := hB1.frozen
      clear hac hB0 hB1 hb
      generalize k.getD i 0 = x at c0 HS
      go_wp2_with fail
      go_roundw
      case rel => exact ⟨i + 1, by omega, by go_num, HB0.out.other _ (by simp) _, by rw [← HS.out]; exact HB1.out.set i _, Hb.out.setCell (by simp) _⟩
      case measure => simp [intOf]; omega
    · obtain rfl : i = 64 := by omega
      rw [turnC_end k by_ Hk.out] at HB1
      have Hx := Lib.hid (show (xorK k by_).length = 64 by rw [xorK_len, Hk.out])
      have HP := Lib.hid (fun (W' : World) => put_more [] (xorK k by_) none (some ⟨w.heap.size + 1, 0, none⟩) 0 64 (by rw [Hx.out]; decide) W' (.inl rfl))
      rw [Hx.out, List.nil_append] at HP
      generalize hXe : xorK k by_ = X at HP HB1 Hx
      have HXe := Lib.hid hXe
      clear hXe
      clear hB0 hB1 hb
      go_wp2_with fail
      refine (new_any _).mono ?_; rintro e w5 ⟨rfl, hb5⟩
      have Hb5 := Lib.hid (bt Hb.out hb5)
      have HB0 := Lib.hid (HB0.out.up hb5)
      have HB1 := Lib.hid (HB1.out.up hb5)
      clear hb5
      go_wp2_with fail
      refine Calls.mono (HP.out w5 HB1.out.at (Hks.out.mono Hb5.out)) ?_; rintro e w6 ⟨a6, cp6, rfl, hat6, hb6⟩
      have Hat6 := Lib.hid hat6
      have Hb6 := Lib.hid (bt Hb5.out hb6)
      have HB0 := Lib.hid (HB0.out.up hb6)
      clear hat6 hb6
      go_wp2_with (refine wpList_store_blk 74 (.tmp 3) (.tmp 24) w.heap.size (old := hashC ⟨0, 0, 0, 0, 0, 0, 0, 0⟩ 0 none 0 0) (cs := HsC X a6 cp6) rfl rfl rfl rfl HB0.out HI.out rfl rfl ?_)
      refine bodyPost_ret (v := .agg (HsC X a6 cp6).toArray) (results_blk rfl _ _ w.heap.size rfl (HB0.out.row _) Tryd.underlying74 rfl HI.out) rfl ?_
      rw [HXe.out]
      exact ⟨a6, cp6, rfl, .inl (by rw [putR_nil X (by rw [Hx.out])]; rfl), below_setRow Hb6.out (Nat.le_refl _) _⟩

theorem turned_at (by_ : UInt8) (n : Int) (hn : n = bv by_) (kb : Nat) (ka : Option Addr) (K : List UInt8) (hK : K.length = 64) (w w' : World) (hc : w.cell? ⟨kb, 0, none⟩ = some (.slice ka 64 64)) (hkl : kb < w.heap.size) (hka : BytesAt w ka K) (hks : KeysAt w) (hb : Below w.heap.size w w') :
    Calls Tryd.prog 39 #[.int .u8 n, .pointer (some ⟨kb, 0, none⟩)] w' (HsOut w' (xorK K by_)) := by
  subst hn
  exact turned_any by_ kb ka K hK w' (by rw [hb.cell (p := ⟨kb, 0, none⟩) hkl]; exact hc) (Nat.lt_of_lt_of_le hkl hb.size) (hka.mono hb) (hks.mono hb)

set_option maxRecDepth 100000 in
set_option maxHeartbeats 600000 in
theorem macTag_own (a b : Option Addr) (c cb : Nat) (key m : List UInt8) (hk : key.length ≤ 100000) (hm : m.length ≤ 90000) (w : World) (hkey : BytesAt w a key) (hb : BytesAt w b m) (hks : KeysAt w) :
    Calls Tryd.prog 34 #[.slice a key.length c, .slice b m.length cb] w (OwnOut w (tagF key m)) := by
  have HKey := Lib.hid hkey
  have Hm := Lib.hid hb
  have Hks := Lib.hid hks
  have HK := Lib.hid (blockK_len key)
  have HX := Lib.hid (show (xorK (blockK key) 54).length = 64 by rw [xorK_len, blockK_len])
  have HY := Lib.hid (show (xorK (blockK key) 92).length = 64 by rw [xorK_len, blockK_len])
  have HTg := Lib.hid (show tagF key m = ofF (xorK (blockK key) 92 ++ ofF (xorK (blockK key) 54 ++ m)) from rfl)
  have HB := Lib.hid (macBlock_any a c key hk w hkey hks)
  clear hkey hb hks
  go_enter Tryd.func34, Tryd.ntmps34
  go_wp2_with fail
  refine HB.out.mono ?_; rintro e w2 ⟨rfl, hB2, hb2⟩
  have H2 := Lib.hid (Blk.at hB2)
  have Hb2 := Lib.hid hb2
  generalize (some ⟨w.heap.size, 0, none⟩ : Option Addr) = ka at H2 ⊢
  clear hB2 hb2 HB
  go_upto_region 2 with (fail)
  generalize hW : World.alloc w2 _ = W
  have hcb : Blk W w2.heap.size [.slice ka 64 64] := by rw [← hW]; exact Blk.new w2 [.slice ka 64 64] _
  have hbW : Below w.heap.size w W := by rw [← hW]; exact bt Hb2.out (ba w2 _)
  have hat : BytesAt W ka (blockK key) := by rw [← hW]; exact At.mono H2.out (ba w2 _)
  generalize w2.heap.size = kb at hcb ⊢
  have HbW := Lib.hid hbW
  have HT := Lib.hid (turned_at 92 92 rfl kb ka (blockK key) HK.out W W (hcb.cell 0 Nat.zero_lt_one) hcb.lt hat (Hks.out.mono hbW) (Below.refl _ _))
  have HU := Lib.hid (fun W' (h : Below W.heap.size W W') => turned_at 54 54 rfl kb ka (blockK key) HK.out W W' (hcb.cell 0 Nat.zero_lt_one) hcb.lt hat (Hks.out.mono hbW) h)
  clear hW hcb hbW hat
  generalize xorK (blockK key) 92 = Y at HT HY HTg
  generalize xorK (blockK key) 54 = X at HU HX HTg
  go_wp2_with fail
  refine HT.out.mono ?_; rintro e w3 ⟨a3, c3, rfl, hat3, hb3⟩
  have Hb3 := Lib.hid hb3
  have Hat3 := Lib.hid hat3
  clear hb3 hat3
  go_wp2_with fail
  refine (HU.out _ Hb3.out).mono ?_; rintro e w4 ⟨a4, c4, rfl, hat4, hb4⟩
  have Hb4 := Lib.hid (bt HbW.out (bt Hb3.out hb4))
  have Hat4 := Lib.hid hat4
  have Hat3 := Lib.hid (Hat3.out.mono hb4)
  clear hb4 hat4
  go_wp2_with fail
  obtain ⟨XM, hXM⟩ : ∃ XM, XM = X ++ m := ⟨_, rfl⟩
  have HXl := Lib.hid (show XM.length ≤ 100000 by rw [hXM, List.length_append, HX.out]; omega)
  rw [← hXM] at HTg
  have HXM := Lib.hid hXM
  clear hXM
  refine (put_more' XM X m HXM.out a4 b c4 cb (by rw [HX.out]; omega) w4 Hat4.out (Hm.out.mono Hb4.out) (Hks.out.mono Hb4.out)).mono ?_; rintro e w5 ⟨a5, c5, rfl, hat5, hb5⟩
  have Hat5 := Lib.hid hat5
  have Hat3 := Lib.hid (Hat3.out.mono hb5)
  have Hb5 := Lib.hid (bt Hb4.out hb5)
  clear hb5 hat5
  go_wp2_with fail
  refine (sum_of XM a5 c5 HXl.out w5 Hat5.out (Hks.out.mono Hb5.out)).mono ?_; rintro e w6 ⟨a6, c6, rfl, -, hat6, hb6⟩
  have Hat6 := Lib.hid hat6
  have Hat3 := Lib.hid (Hat3.out.mono hb6)
  have Hb6 := Lib.hid (bt Hb5.out hb6)
  have Hl := Lib.hid (ofF_length XM)
  clear hb6 hat6
  generalize ofF XM = D at Hl HTg Hat6
  obtain ⟨YM, hYM⟩ : ∃ YM, YM = Y ++ D := ⟨_, rfl⟩
  have HYl := Lib.hid (show YM.length ≤ 100000 by rw [hYM, List.length_append, HY.out, Hl.out]; decide)
  have HP := Lib.hid (put_more' YM Y D hYM a3 a6 c3 c6 (by rw [HY.out, Hl.out]; decide) w6 Hat3.out Hat6.out (Hks.out.mono Hb6.out))
  rw [Hl.out] at HP
  rw [← hYM] at HTg
  clear hYM
  go_wp2_with fail
  refine HP.out.mono ?_; rintro e w7 ⟨a7, c7, rfl, hat7, hb7⟩
  have Hat7 := Lib.hid hat7
  have Hb7 := Lib.hid (bt Hb6.out hb7)
  clear hb7 hat7
  go_wp2_with fail
  refine (sum_of_own YM a7 c7 HYl.out w7 Hat7.out (Hks.out.mono Hb7.out)).mono ?_; rintro e w8 ⟨a8, c8, rfl, hown8, hb8⟩
  have Hown8 := Lib.hid (own_base hown8 Hb7.out.size)
  clear hown8
  go_wp2_with fail
  go_ret
  rw [HTg.out]
  exact ⟨a8, c8, rfl, Hown8.out, bt Hb7.out hb8⟩
theorem macTag_any (a b : Option Addr) (c cb : Nat) (key m : List UInt8) (hk : key.length ≤ 100000) (hm : m.length ≤ 90000) (w : World) (hkey : BytesAt w a key) (hb : BytesAt w b m) (hks : KeysAt w) :
    Calls Tryd.prog 34 #[.slice a key.length c, .slice b m.length cb] w (Out32 w (tagF key m)) :=
  (macTag_own a b c cb key m hk hm w hkey hb hks).mono fun _ _ h => out32 rfl (tagF_len key m) h
end Go.Proofs.YthmcmkdncaccbaaDoor
