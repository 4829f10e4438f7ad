/- The document's Tag; both Kcv. -/
import Derived.Test.YthmcmkdncaccbaaDoorMacC
set_option linter.unusedSimpArgs false
set_option linter.unusedVariables false
namespace Go.Proofs.YthmcmkdncaccbaaDoor
open Go.RowKit

/-- two values that do not own one block -/
def Apart (u v : Value) : Prop := ∀ k, u.ownBlock = some k → v.ownBlock = some k → False
theorem Apart.symm {u v : Value} (h : Apart u v) : Apart v u := fun k h1 h2 => h k h2 h1
theorem OwnB.other {B n m : Nat} {w w' : World} {v u : Value} {xs ys : List Value} (h : OwnB B w u m ys) (hg : w.grownBy w' v.ownBlock) (hd : Apart u v) : OwnB B w' u m ys := by
  obtain ⟨⟨h1, h2⟩, h3⟩ := h
  refine ⟨⟨h1, ?_⟩, Nat.le_trans h3 hg.size⟩
  rcases h2 with h2 | ⟨g, cap, cur, hv, hgB, hh, r⟩
  · exact .inl h2
  · refine .inr ⟨g, cap, cur, hv, hgB, ?_, r⟩
    rw [hg.block g (Array.getElem?_eq_some_iff.1 hh).1 (fun hx => hd g (by rw [hv]; rfl) hx.symm)]
    exact hh
theorem Apart.grown {B m : Nat} {w : World} {u v v' : Value} {ys : List Value} (hd : Apart u v) (hu : OwnB B w u m ys) (hat : v'.ownBlock = v.ownBlock ∨ v'.ownBlock = some w.heap.size) : Apart u v' := fun k h1 h2 => by
  rcases hat with hat | hat
  · exact hd k h1 (hat ▸ h2)
  · rw [hat] at h2
    injection h2 with h2
    have := (hu.lt h1).2
    omega
theorem B8s_app (l m : List UInt8) : B8s (l ++ m) = B8s l ++ B8s m := by simp
theorem OwnB.nil (w : World) : OwnB w.heap.size w (.slice none 0 0) 0 [] := ⟨⟨rfl, .inl ⟨rfl, rfl⟩⟩, Nat.le_refl _⟩
@[go_sem high] theorem xor8_54 (t : TypeId) (a : UInt8) : binOp .xor t (.int .u8 (bv a)) (.int .u8 54) = pure (.int .u8 (bv (a ^^^ 54))) := xor8 t a 54
@[go_sem high] theorem xor8_92 (t : TypeId) (a : UInt8) : binOp .xor t (.int .u8 (bv a)) (.int .u8 92) = pure (.int .u8 (bv (a ^^^ 92))) := xor8 t a 92
theorem xorK_step (k : List UInt8) (b : UInt8) (i : Nat) (h : i < k.length) : B8s (xorK (k.take (i + 1)) b) = B8s (xorK (k.take i) b) ++ B8s [k.getD i 0 ^^^ b] := by
  rw [xorK_snoc k b i h, B8s_app]
/-- the loop's state -/
def TgAt (W wx : World) (K : List UInt8) (i : Nat) (v6 v7 : Value) : Prop :=
  ∃ (ai ao : Option Addr) (ci co : Nat), v6 = .slice ai i ci ∧ v7 = .slice ao i co ∧ OwnB W.heap.size wx v6 i (B8s (xorK (K.take i) 54)) ∧ OwnB W.heap.size wx v7 i (B8s (xorK (K.take i) 92)) ∧ Apart v6 v7 ∧ Below W.heap.size W wx

set_option maxRecDepth 100000 in
set_option maxHeartbeats 1000000 in
theorem refTag_any (a b : Option Addr) (c cb : Nat) (key m : List UInt8) (hk : key.length ≤ 100000) (hm : m.length ≤ 90000) (w : World) (hkey : BytesAt w a key) (hb : BytesAt w b m) :
    Calls Tryd.prog 33 #[.slice a key.length c, .slice b m.length cb] w (Out32 w (tagF key m)) := by
  have HM := Lib.hid hb
  have HBk := Lib.hid (refBlock_any a c key hk w hkey)
  have HKl := Lib.hid (blockK_len key)
  have HTg := Lib.hid (show tagF key m = ofF (xorK (blockK key) 92 ++ ofF (xorK (blockK key) 54 ++ m)) from rfl)
  generalize blockK key = K at HBk HKl HTg
  rw [show K.length = K.length from rfl] at HKl
  clear hkey hb
  go_enter Tryd.func33, Tryd.ntmps33
  go_wp2_with fail
  refine HBk.out.mono ?_; rintro e w2 ⟨a2, c2, rfl, hown2, hb2⟩
  rw [HKl.out]
  have HK := Lib.hid (show BytesAt w2 a2 K from own_at hown2)
  have Hb2 := Lib.hid hb2
  clear hown2 hb2 HBk
  go_wp2_with fail
  go_loopw [6, 7, 8] (fun v6 v7 v8 wx => ∃ i : Nat, i ≤ 64 ∧ v8 = .int .i64 (i : Int) ∧ TgAt w2 wx K i v6 v7) (fun _ _ v8 _ => 64 - (intOf v8).toNat)
  case atStart => exact ⟨0, Nat.zero_le _, rfl, none, none, 0, 0, rfl, rfl, OwnB.nil w2, OwnB.nil w2, (fun k h _ => by cases h), Below.refl _ _⟩
  case round =>
    obtain ⟨i, hi, rfl, ai, ao, ci, co, rfl, rfl, hA, hO, hap, hb⟩ := hrel
    have HA := Lib.hid hA
    have HO := Lib.hid hO
    have Hap := Lib.hid hap
    have Hb := Lib.hid hb
    clear hA hO hap hb
    by_cases hlt : i < 64
    · obtain ⟨kb, ko, rfl, hkb, hkc⟩ := bytes_cell HK.out (by rw [HKl.out]; decide)
      have Hc := Lib.hid (show ∀ w', Below w2.heap.size w2 w' → w'.cell? ⟨kb, ko + i, none⟩ = some (.int .u8 (bv (K.getD i 0))) from fun w' h => by rw [h.cell (p := ⟨kb, ko + i, none⟩) hkb]; exact hkc i (by rw [HKl.out]; exact hlt))
      have H54 := Lib.hid (xorK_step K 54 i (by rw [HKl.out]; exact hlt))
      have H92 := Lib.hid (xorK_step K 92 i (by rw [HKl.out]; exact hlt))
      clear hkc
      generalize K.getD i 0 = x at Hc H54 H92
      have c0 := Hc.out wr Hb.out
      have hi1 : i + 1 ≤ 1000 := by omega
      go_wp2_with (first
        | (at_builtin; (refine wpList_ownB2 (.tmp 15) (.tmp 21) rfl rfl rfl (HA.out.up (ba wr _)) (news := B8s [x ^^^ 54]) (m := 1) rfl (at_new wr (B8s [x ^^^ 54]) 5) rfl (bytes_one _) (by omega) (i + 1) rfl (B8s (xorK (K.take (i + 1)) 54)) H54.out ?_; intro a3 c3 w3 h3 hg3 hat3; have H3 := Lib.hid h3; have HO3 := Lib.hid ((HO.out.up (ba wr _)).other (n := i) (xs := []) hg3 Hap.out.symm); have Hap3 := Lib.hid (Hap.out.symm.grown (HO.out.up (ba wr _)) hat3); have Hb3 := Lib.hid (below_own (bta Hb.out _) (HA.out.up (ba wr _)).own hg3 (HA.out.up (ba wr _)).le (Nat.le_refl _)); have d0 := Hc.out w3 Hb3.out; clear h3 hg3 hat3 c0))
        | (at_builtin; (refine wpList_ownB2 (.tmp 23) (.tmp 29) rfl rfl rfl (HO3.out.up (ba w3 _)) (news := B8s [x ^^^ 92]) (m := 1) rfl (at_new w3 (B8s [x ^^^ 92]) 5) rfl (bytes_one _) (by omega) (i + 1) rfl (B8s (xorK (K.take (i + 1)) 92)) H92.out ?_; intro a4 c4 w4 h4 hg4 hat4; have H4 := Lib.hid h4; have HA4 := Lib.hid ((H3.out.up (ba w3 _)).other (n := i) (xs := []) hg4 Hap3.out.symm); have Hap4 := Lib.hid (Hap3.out.symm.grown (H3.out.up (ba w3 _)) hat4); have Hb4 := Lib.hid (below_own (bta Hb3.out _) (HO3.out.up (ba w3 _)).own hg4 (HO3.out.up (ba w3 _)).le (Nat.le_refl _)); clear h4 hg4 hat4 d0)))
      exact ⟨⟨i + 1, by omega, by go_num, a3, a4, c3, c4, rfl, rfl, HA4.out, H4.out, Hap4.out, Hb4.out⟩, by simp [intOf]; omega⟩
    · obtain rfl : i = 64 := by omega
      rw [List.take_of_length_le (by rw [HKl.out]; exact Nat.le_refl _)] at HA HO
      have HXl := Lib.hid (show (xorK K 54).length = 64 by rw [xorK_len, HKl.out])
      have HYl := Lib.hid (show (xorK K 92).length = 64 by rw [xorK_len, HKl.out])
      generalize xorK K 54 = X at HA HXl HTg
      generalize xorK K 92 = Y at HO HYl HTg
      obtain ⟨XM, hXM⟩ : ∃ XM, XM = X ++ m := ⟨_, rfl⟩
      have hXl : XM.length = 64 + m.length := by rw [hXM, List.length_append, HXl.out]
      rw [← hXM] at HTg
      have HXM := Lib.hid (show B8s XM = B8s X ++ B8s m by rw [hXM, B8s_app])
      have HXMl := Lib.hid hXl
      have HD := Lib.hid (ofF_length XM)
      have HOf1 := Lib.hid (fun (a' : Option Addr) (c' : Nat) W' => refOf_own a' c' XM (by omega) W')
      generalize ofF XM = D at HTg HOf1 HD
      obtain ⟨YD, hYD⟩ : ∃ YD, YD = Y ++ D := ⟨_, rfl⟩
      have hYl : YD.length = 96 := by rw [hYD, List.length_append, HYl.out, HD.out]
      rw [← hYD] at HTg
      have HYD := Lib.hid (show B8s YD = B8s Y ++ B8s D by rw [hYD, B8s_app])
      have HYl2 := Lib.hid hYl
      have HOf2 := Lib.hid (fun (a' : Option Addr) (c' : Nat) W' => refOf_own a' c' YD (by omega) W')
      clear hXM hXl hYD hYl hlt hi
      go_wp2_with (first
        | (at_builtin; (refine wpList_ownB2 (.tmp 32) (.tmp 33) rfl rfl rfl HA.out (news := B8s m) (m := m.length) rfl (HM.out.mono (bt Hb2.out Hb.out)) (by simp) (bytes_one _) (by omega) XM.length HXMl.out.symm (B8s XM) HXM.out ?_; intro a3 c3 w3 h3 hg3 hat3; have H3 := Lib.hid h3; have HO3 := Lib.hid (HO.out.other (n := 64) (xs := []) hg3 Hap.out.symm); have Hb3 := Lib.hid (below_own Hb.out HA.out.own hg3 HA.out.le (Nat.le_refl _)); clear h3 hg3 hat3)))
      refine (HOf1.out a3 c3 w3 H3.out.at).mono ?_; rintro e w4 ⟨a4, c4, rfl, hown4, hb4⟩
      have HD4 := Lib.hid (show BytesAt w4 a4 D from own_at hown4)
      have HO4 := Lib.hid (HO3.out.up hb4)
      have Hb4 := Lib.hid (bt Hb3.out hb4)
      rw [HD.out]
      clear hown4 hb4
      go_wp2_with (first
        | (at_builtin; (refine wpList_ownB2 (.tmp 31) (.tmp 35) rfl rfl rfl HO4.out (news := B8s D) (m := 32) rfl HD4.out (by rw [List.length_map, HD.out]) (bytes_one _) (by omega) YD.length (by rw [HYl2.out]) (B8s YD) HYD.out ?_; intro a5 c5 w5 h5 hg5 hat5; have H5 := Lib.hid h5; have Hb5 := Lib.hid (below_own Hb4.out HO4.out.own hg5 HO4.out.le (Nat.le_refl _)); clear h5 hg5 hat5)))
      refine (HOf2.out a5 c5 w5 H5.out.at).mono ?_; rintro e w6 ⟨a6, c6, rfl, hown6, hb6⟩
      have hT : ofF YD = tagF key m := HTg.out.symm
      have h32 : (ofF YD).length = 32 := ofF_length _
      rw [h32] at hown6 ⊢
      rw [hT] at hown6
      have H6 := Lib.hid (show BytesAt w6 a6 (tagF key m) from own_at hown6)
      have Hcp := Lib.hid (show 32 ≤ c6 ∧ c6 ≤ maxLen by obtain ⟨_, _, h4, h5, h6⟩ := own_slice hown6; cases h4; exact ⟨h5, h6⟩)
      have Hb6 := Lib.hid (bt (bt Hb2.out Hb5.out) hb6)
      clear hown6 hb6 hT h32
      go_wp2_with fail
      go_ret
      exact ⟨a6, c6, rfl, Hcp.out, H6.out, Hb6.out⟩
/-- a key's check value -/
def kcvF (key : List UInt8) : List UInt8 := (tagF key (List.replicate 8 0)).take 3
def KcvOut (w : World) (key : List UInt8) (e : Ending) (w' : World) : Prop := ∃ b cb, e = .returned (.slice b 3 cb) ∧ 3 ≤ cb ∧ BytesAt w' b (kcvF key) ∧ Below w.heap.size w w'
theorem kcvF_len (key : List UInt8) : (kcvF key).length = 3 := by unfold kcvF; rw [List.length_take, tagF_len]; rfl

end Go.Proofs.YthmcmkdncaccbaaDoor
