/- The walk of the law ProvTells. -/
import Derived.Test.YthmcmkdncaccbaaDoorPrK
set_option linter.unusedSimpArgs false
set_option linter.unusedVariables false
namespace Go.Proofs.YthmcmkdncaccbaaDoor
open Go.RowKit

theorem refTag_st {w : World} {i f : Bool} {a ka b_ : Option Addr} {n c m kc bc : Nat} {es es2 : List Ent} {k b T : List UInt8} (h : PrF w a n c es) (hka : BytesAt w ka k) (hba : BytesAt w b_ b) (hkl : k.length ≤ 60) (hbl : b.length ≤ 90000) (hkc : k.length ≤ kc ∧ kc ≤ maxLen) (hbc : b.length ≤ bc ∧ bc ≤ maxLen) (h1 : tagEs es k b = es2) (h2 : es2.length = m) (h3 : m ≤ 900) (h4 : rightT k b = T) :
    Calls Tryd.prog 12 #[.agg #[.bool i, .slice a n c, .bool f], .slice ka k.length kc, .slice b_ b.length bc] w fun e w' => ∃ a' c' ta tc, e = .returned (.tuple #[.agg #[.bool i, .slice a' m c', .bool f], .slice ta 16 tc]) ∧ PrF w' a' m c' es2 ∧ (16 ≤ tc ∧ tc ≤ maxLen) ∧ BytesAt w' ta T ∧ Below w.heap.size w w' := by
  obtain ⟨e1, rfl, e3, e4, e5⟩ := h
  subst h1 h2 h4
  refine (refTag_any04 i f a ka b_ c kc bc es k b w (by omega) e3 e4 e1 (by omega) hbl hka hba hkc hbc).mono fun e w' ⟨a', c', ta, tc, p, q1, q2, q3, q4, q5, q6⟩ => ?_
  exact ⟨a', c', ta, tc, p, ⟨q3, rfl, q1, q2, h3⟩, q4, q5, q6⟩
theorem refCheck_st {w : World} {i f f2 y : Bool} {a ka b_ ta : Option Addr} {n c kc bc tc : Nat} {es : List Ent} {k b t : List UInt8} (h : PrF w a n c es) (hka : BytesAt w ka k) (hba : BytesAt w b_ b) (hta : BytesAt w ta t) (hkl : k.length ≤ 60) (hbl : b.length ≤ 90000) (htl : t.length ≤ 60) (h1 : chkF f es k b t = f2) (h2 : chkY i es k b t = y) :
    Calls Tryd.prog 14 #[.agg #[.bool i, .slice a n c, .bool f], .slice ka k.length kc, .slice b_ b.length bc, .slice ta t.length tc] w fun e w' => e = .returned (.tuple #[.agg #[.bool i, .slice a n c, .bool f2], .bool y]) ∧ Below w.heap.size w w' := by
  obtain ⟨e1, rfl, e3, e4, e5⟩ := h
  subst h1 h2
  exact refCheck_any i f a ka b_ ta c kc bc tc es k b t w (by omega) e1 (by omega) hbl (by omega) hka hba hta
theorem refHad_st {w : World} {i f z : Bool} {a ka b_ : Option Addr} {n c kc bc : Nat} {es : List Ent} {k b : List UInt8} (h : PrF w a n c es) (hka : BytesAt w ka k) (hba : BytesAt w b_ b) (h1 : hadF es k b = z) :
    Calls Tryd.prog 18 #[.agg #[.bool i, .slice a n c, .bool f], .slice ka k.length kc, .slice b_ b.length bc] w (BoolOut w z) := by
  obtain ⟨e1, rfl, e3, e4, e5⟩ := h
  subst h1
  exact refHad_any i f a ka b_ c kc bc es k b w (by omega) e1 hka hba

set_option maxRecDepth 100000 in
set_option maxHeartbeats 16000000 in
theorem provTells_any (i f : Bool) (a : Option Addr) (c : Nat) (es : List Ent) (i2 f2 : Bool) (oa : Option Addr) (oc : Nat) (es2 : List Ent) (ka : Option Addr) (kc : Nat) (k : List UInt8) (b_ : Option Addr) (bc : Nat) (b : List UInt8) (ta : Option Addr) (tc : Nat) (t : List UInt8) (w : World)
    (hE : EntsAt w a es) (hc : es.length ≤ c) (hcm : c ≤ maxLen) (hE2 : EntsAt w oa es2) (hc2 : es2.length ≤ oc) (hcm2 : oc ≤ maxLen) (hka : BytesAt w ka k) (hba : BytesAt w b_ b) (hta : BytesAt w ta t) (hkc : k.length ≤ kc ∧ kc ≤ maxLen) (hbc : b.length ≤ bc ∧ bc ≤ maxLen) (hk : KeysAt w) :
    Calls Tryd.prog 3 #[.agg #[.bool i, .slice a es.length c, .bool f, .bool i2, .slice oa es2.length oc, .bool f2, .slice ka k.length kc, .slice b_ b.length bc, .slice ta t.length tc]] w (BoolOut w true) := by
  have HI := Lib.hid prov_size
  have HM := Lib.hid (show 100 ≤ maxLen by decide)
  have Hsh := Lib.hid (fun W (h : Below w.heap.size w W) => shown04 W (hk.mono h))
  have F1 := Lib.hid (fun W (h : Below w.heap.size w W) => few_any i f a c 20 es W (Nat.le_trans hc hcm) (by decide) (hE.mono h))
  have F2 := Lib.hid (fun W (h : Below w.heap.size w W) => few_any i2 f2 oa oc 20 es2 W (Nat.le_trans hc2 hcm2) (by decide) (hE2.mono h))
  have HP := Lib.hid (fun W (h : Below w.heap.size w W) (hn : es.length ≤ 20) => (show PrF W a es.length c es from ⟨hE.mono h, rfl, hc, hcm, by omega⟩))
  have HO := Lib.hid (fun W (h : Below w.heap.size w W) (hn : es2.length ≤ 20) => (show PrF W oa es2.length oc es2 from ⟨hE2.mono h, rfl, hc2, hcm2, by omega⟩))
  have K1 := Lib.hid (fun W (h : Below w.heap.size w W) (h0 : PrF W a es.length c es) (hkl : k.length ≤ 60) (hbl : b.length ≤ 60) (h3 : (tagEs es k b).length ≤ 900) => tag_st (i := i) (f := f) (kc := kc) (bc := bc) h0 (hk.mono h) (hka.mono h) (hba.mono h) hkl (by omega) rfl rfl h3 rfl)
  have K2 := Lib.hid (fun W (h : Below w.heap.size w W) (h0 : PrF W a es.length c es) (hkl : k.length ≤ 60) (hbl : b.length ≤ 60) (h3 : (tagEs es k b).length ≤ 900) => refTag_st (i := i) (f := f) h0 (hka.mono h) (hba.mono h) hkl (by omega) hkc hbc rfl rfl h3 rfl)
  have K3 := Lib.hid (fun W (h : Below w.heap.size w W) (h0 : PrF W a es.length c es) (hkl : k.length ≤ 60) (hbl : b.length ≤ 60) (htl : t.length ≤ 60) => check_st (i := i) (f := f) (kc := kc) (bc := bc) (tc := tc) h0 (hk.mono h) (hka.mono h) (hba.mono h) (hta.mono h) hkl (by omega) htl rfl rfl)
  have K4 := Lib.hid (fun W (h : Below w.heap.size w W) (h0 : PrF W a es.length c es) (hkl : k.length ≤ 60) (hbl : b.length ≤ 60) (htl : t.length ≤ 60) => refCheck_st (i := i) (f := f) (kc := kc) (bc := bc) (tc := tc) h0 (hka.mono h) (hba.mono h) (hta.mono h) hkl (by omega) htl rfl rfl)
  have K5 := Lib.hid (fun t1 d1 W (h : Below w.heap.size w W) (h0 : PrF W a es.length c es) (ht : BytesAt W t1 (rightT k b)) (hkl : k.length ≤ 60) (hbl : b.length ≤ 60) => (show Calls Tryd.prog 13 #[.agg #[.bool i, .slice a es.length c, .bool f], .slice ka k.length kc, .slice b_ b.length bc, .slice t1 16 d1] W fun e w' => e = .returned (.tuple #[.agg #[.bool i, .slice a es.length c, .bool (chkF f es k b (rightT k b))], .bool (chkY i es k b (rightT k b))]) ∧ Below W.heap.size W w' from by
    have h5 := check_st (i := i) (f := f) (kc := kc) (bc := bc) (tc := d1) h0 (hk.mono h) (hka.mono h) (hba.mono h) ht hkl (by omega) (by rw [rightT_len]; omega) rfl rfl
    rwa [rightT_len] at h5))
  have K6 := Lib.hid (fun t1 d1 W (h : Below w.heap.size w W) (h0 : PrF W a es.length c es) (ht : BytesAt W t1 (rightT k b)) (hkl : k.length ≤ 60) (hbl : b.length ≤ 60) => (show Calls Tryd.prog 14 #[.agg #[.bool i, .slice a es.length c, .bool f], .slice ka k.length kc, .slice b_ b.length bc, .slice t1 16 d1] W fun e w' => e = .returned (.tuple #[.agg #[.bool i, .slice a es.length c, .bool (chkF f es k b (rightT k b))], .bool (chkY i es k b (rightT k b))]) ∧ Below W.heap.size W w' from by
    have h5 := refCheck_st (i := i) (f := f) (kc := kc) (bc := bc) (tc := d1) h0 (hka.mono h) (hba.mono h) ht hkl (by omega) (by rw [rightT_len]; omega) rfl rfl
    rwa [rightT_len] at h5))
  have KS := Lib.hid (fun a1 c1 a2 c2 W (h : PrF W a1 (tagEs es k b).length c1 (tagEs es k b)) (h2 : PrF W a2 (tagEs es k b).length c2 (tagEs es k b)) => refSame_st (i := i) (f := f) (i2 := i) (f2 := f) h h2 (sameP_self i f _))
  have KT := Lib.hid (fun f W (h : PrF W a es.length c es) => refSame_st (i := i) (f := f) (i2 := i) (f2 := f) h h (sameP_self i f _))
  have KX := Lib.hid (fun (t1 t2 : Option Addr) (d1 d2 : Nat) W (h : BytesAt W t1 (rightT k b)) (h2 : BytesAt W t2 (rightT k b)) => (show Calls Tryd.prog 16 #[.slice t1 16 d1, .slice t2 16 d2] W (BoolOut W true) from
    (same01_any t1 t2 16 d1 16 d2 (rightT k b) (rightT k b) W (rightT_len k b).symm (rightT_len k b).symm h h2).mono fun e w' ⟨p, q⟩ => ⟨by rw [p, beq_self_eq_true], q ▸ Below.refl _ _⟩))
  have KH := Lib.hid (fun W (h : Below w.heap.size w W) (h0 : PrF W a es.length c es) (hkl : k.length ≤ 60) (hbl : b.length ≤ 60) => had_st (i := i) (f := f) (kc := kc) (bc := bc) h0 (by have := HM.out; omega) (by have := HM.out; omega) (hka.mono h) (hba.mono h) rfl)
  have KG := Lib.hid (fun W (h : Below w.heap.size w W) (h0 : PrF W a es.length c es) => refHad_st (i := i) (f := f) (kc := kc) (bc := bc) h0 (hka.mono h) (hba.mono h) rfl)
  have KP := Lib.hid (fun W (h : PrF W a es.length c es) (h2 : PrF W oa es2.length oc es2) => (show Calls Tryd.prog 19 #[.agg #[.bool i, .slice a es.length c, .bool f], .agg #[.bool i2, .slice oa es2.length oc, .bool f2]] W (BoolOut W (sameP i f es i2 f2 es2)) from same_st h h2 rfl))
  have KQ := Lib.hid (fun W (h : PrF W a es.length c es) (h2 : PrF W oa es2.length oc es2) => refSame_st (i := i) (f := f) (i2 := i2) (f2 := f2) h h2 rfl)
  have KN := Lib.hid (fun W => new04_any i W)
  have KM := Lib.hid (fun W => refNew04_any i W)
  have KZ := Lib.hid (fun W => refSame_st (i := i) (f := false) (i2 := i) (f2 := false) (PrF.zero W) (PrF.zero W) (sameP_self i false _))
  have HN := Lib.hid (tagEs_len es k b)
  have HF := Lib.hid (show decide (FewE es 20) = true → es.length ≤ 20 from fun h => (of_decide_eq_true h).1)
  have HG := Lib.hid (show decide (FewE es2 20) = true → es2.length ≤ 20 from fun h => (of_decide_eq_true h).1)
  generalize decide (FewE es 20) = fw at F1 HF
  generalize decide (FewE es2 20) = fx at F2 HG
  generalize tagEs es k b = es1 at *
  generalize rightT k b = TT at *
  generalize hadF es k b = hd at *
  generalize sameP i f es i2 f2 es2 = se at *
  generalize chkF f es k b t = f3 at *
  generalize chkY i es k b t = yA at *
  generalize chkF f es k b TT = f4 at *
  generalize chkY i es k b TT = yB at *
  clear hE hc hcm hE2 hc2 hcm2 hka hba hta hk hkc hbc
  generalize es1.length = n1 at *
  generalize es.length = n at *
  generalize es2.length = on at *
  generalize k.length = kl at *
  generalize b.length = bl at *
  generalize t.length = tl at *
  go_enter Tryd.func3, Tryd.ntmps3
  go_upto_region 6 with (fail)
  generalize hW : World.alloc (World.alloc (World.alloc w _) _) _ = W
  have B3 := Lib.hid (show BlkT 24 W (w.heap.size + 1) (prL i a n c f) by
    rw [← hW, ← size_alloc w (.cells #[.bool i, .slice a n c, .bool f, .bool i2, .slice oa on oc, .bool f2, .slice ka kl kc, .slice b_ bl bc, .slice ta tl tc] 27)]
    exact (BlkT.new _ (prL i a n c f) 24).up (ba _ _))
  have B4 := Lib.hid (show BlkT 24 W (w.heap.size + 1 + 1) (prL i2 oa on oc f2) by
    rw [← hW, ← size_alloc w (.cells #[.bool i, .slice a n c, .bool f, .bool i2, .slice oa on oc, .bool f2, .slice ka kl kc, .slice b_ bl bc, .slice ta tl tc] 27), ← size_alloc _ (.cells #[.bool i, .slice a n c, .bool f] 24)]
    exact BlkT.new _ (prL i2 oa on oc f2) 24)
  have G := Lib.hid (show Below w.heap.size w W by rw [← hW]; exact bta (bta (ba w _) _) _)
  clear hW
  generalize w.heap.size + 1 + 1 = b4 at B4 ⊢
  generalize w.heap.size + 1 = b3 at B3 ⊢
  go_wp2_with fail
  refine (Hsh.out _ G.out).mono ?_; rintro e y1 ⟨rfl, hb⟩
  replace B3 := Lib.hid (B3.out.up hb)
  replace B4 := Lib.hid (B4.out.up hb)
  replace G := Lib.hid (bt G.out hb)
  clear hb
  go_wp2_with (first
        | (refine wpList_load_blk 24 (.tmp 3) b3 (cs := (prL i a n c f)) rfl rfl rfl B3.out.blk Tryd.underlying24 rfl HI.out ?_)
        | (refine wpList_load_blkP 24 (.tmp 3) b3 (cs := (prL i a n c f)) (by first | rfl | simp [Region.wanted, yielded]) rfl rfl B3.out.blk Tryd.underlying24 rfl HI.out ?_))
  refine (F1.out _ G.out).mono ?_; rintro e y2 ⟨rfl, hb⟩
  replace B3 := Lib.hid (B3.out.up hb)
  replace B4 := Lib.hid (B4.out.up hb)
  replace G := Lib.hid (bt G.out hb)
  clear hb
  rcases fw with _ | _
  · go_wp2_with fail
    go_ret
    exact ⟨rfl, G.out⟩
  go_wp2_with (first
        | (refine wpList_load_blk 24 (.tmp 4) b4 (cs := (prL i2 oa on oc f2)) rfl rfl rfl B4.out.blk Tryd.underlying24 rfl HI.out ?_)
        | (refine wpList_load_blkP 24 (.tmp 4) b4 (cs := (prL i2 oa on oc f2)) (by first | rfl | simp [Region.wanted, yielded]) rfl rfl B4.out.blk Tryd.underlying24 rfl HI.out ?_))
  refine (F2.out _ G.out).mono ?_; rintro e y3 ⟨rfl, hb⟩
  replace B3 := Lib.hid (B3.out.up hb)
  replace B4 := Lib.hid (B4.out.up hb)
  replace G := Lib.hid (bt G.out hb)
  clear hb
  rcases fx with _ | _
  · go_wp2_with fail
    go_ret
    exact ⟨rfl, G.out⟩
  by_cases hkl : (60 : Int) < (kl : Int)
  · go_wp2_with fail
    go_ret
    exact ⟨rfl, G.out⟩
  by_cases hbl : (60 : Int) < (bl : Int)
  · go_wp2_with fail
    go_ret
    exact ⟨rfl, G.out⟩
  by_cases htl : (60 : Int) < (tl : Int)
  · go_wp2_with fail
    go_ret
    exact ⟨rfl, G.out⟩
  have Lk := Lib.hid (show kl ≤ 60 by omega)
  have Lb := Lib.hid (show bl ≤ 60 by omega)
  have Lt := Lib.hid (show tl ≤ 60 by omega)
  have Ln := Lib.hid (HF.out (by first | rfl | trivial))
  have Lo := Lib.hid (HG.out (by first | rfl | trivial))
  have L1 := Lib.hid (show n1 ≤ 900 by have h1 := HN.out; have h2 := Ln.out; rcases hd with _ | _ <;> simp at h1 <;> omega)
  go_upto_region 9 with (fail)
  clear hkl hbl htl HN HF HG F1 F2 Hsh
  go_cut [10, 9] (fun v10 v9 wx => ∃ a1 : Option Addr, ∃ c1 : Nat, ∃ t1 : Option Addr, ∃ d1 : Nat, ∃ b9 : Nat, v10 = .slice t1 16 d1 ∧ v9 = .pointer (some ⟨b9, 0, none⟩) ∧ BlkT 24 wx b9 (prL i a1 n1 c1 f) ∧ BlkT 24 wx b3 (prL i a n c f) ∧ BlkT 24 wx b4 (prL i2 oa on oc f2) ∧ Below w.heap.size w wx ∧ PrF wx a1 n1 c1 es1 ∧ BytesAt wx t1 TT)
  case first =>
    go_wp2_with (first
          | (refine wpList_load_blk 24 (.tmp 3) b3 (cs := (prL i a n c f)) rfl rfl rfl B3.out.blk Tryd.underlying24 rfl HI.out ?_)
          | (refine wpList_load_blkP 24 (.tmp 3) b3 (cs := (prL i a n c f)) (by first | rfl | simp [Region.wanted, yielded]) rfl rfl B3.out.blk Tryd.underlying24 rfl HI.out ?_))
    refine (K1.out _ G.out (HP.out _ G.out Ln.out) Lk.out Lb.out L1.out).mono ?_; rintro e wn ⟨a1, c1, t1, d1, rfl, hS1, -, hT1, hb⟩
    go_wp2_with (refine wpList_store_blk 24 (.tmp 9) (.tmp 61) _ (old := zeroP) (cs := (prL i a1 n1 c1 f)) rfl rfl rfl rfl (Blk.new _ _ _) HI.out rfl rfl ?_)
    go_meet
    exact ⟨a1, c1, t1, d1, _, rfl, rfl, layP_blk _ _ _ _, (B3.out.up (bt hb (layP_below _ _ _ _))), (B4.out.up (bt hb (layP_below _ _ _ _))), (bt G.out (bt hb (layP_below _ _ _ _))), (hS1).up (layP_below _ _ _ _), (hT1).mono (layP_below _ _ _ _)⟩
  case rest =>
    obtain ⟨a1, c1, t1, d1, b9, rfl, rfl, hB9, hB3, hB4, hG, hS1, hT1⟩ := hcut
    have B9 := Lib.hid hB9
    replace B3 := Lib.hid hB3
    replace B4 := Lib.hid hB4
    replace G := Lib.hid hG
    have S1 := Lib.hid hS1
    have T1 := Lib.hid hT1
    clear hB9 hB3 hB4 hG hS1 hT1
    go_upto_region 10 with (fail)
    go_cut [12, 11] (fun v12 v11 wx => ∃ a2 : Option Addr, ∃ c2 : Nat, ∃ t2 : Option Addr, ∃ d2 : Nat, ∃ b11 : Nat, v12 = .slice t2 16 d2 ∧ v11 = .pointer (some ⟨b11, 0, none⟩) ∧ BlkT 24 wx b11 (prL i a2 n1 c2 f) ∧ BlkT 24 wx b3 (prL i a n c f) ∧ BlkT 24 wx b4 (prL i2 oa on oc f2) ∧ BlkT 24 wx b9 (prL i a1 n1 c1 f) ∧ Below w.heap.size w wx ∧ PrF wx a1 n1 c1 es1 ∧ BytesAt wx t1 TT ∧ PrF wx a2 n1 c2 es1 ∧ BytesAt wx t2 TT)
    case first =>
      go_wp2_with (first
              | (refine wpList_load_blk 24 (.tmp 3) b3 (cs := (prL i a n c f)) rfl rfl rfl B3.out.blk Tryd.underlying24 rfl HI.out ?_)
              | (refine wpList_load_blkP 24 (.tmp 3) b3 (cs := (prL i a n c f)) (by first | rfl | simp [Region.wanted, yielded]) rfl rfl B3.out.blk Tryd.underlying24 rfl HI.out ?_))
      refine (K2.out _ G.out (HP.out _ G.out Ln.out) Lk.out Lb.out L1.out).mono ?_; rintro e wn ⟨a2, c2, t2, d2, rfl, hS2, -, hT2, hb⟩
      go_wp2_with (refine wpList_store_blk 24 (.tmp 11) (.tmp 68) _ (old := zeroP) (cs := (prL i a2 n1 c2 f)) rfl rfl rfl rfl (Blk.new _ _ _) HI.out rfl rfl ?_)
      go_meet
      exact ⟨a2, c2, t2, d2, _, rfl, rfl, layP_blk _ _ _ _, (B3.out.up (bt hb (layP_below _ _ _ _))), (B4.out.up (bt hb (layP_below _ _ _ _))), (B9.out.up (bt hb (layP_below _ _ _ _))), (bt G.out (bt hb (layP_below _ _ _ _))), (S1.out.up (bt hb (layP_below _ _ _ _))), (T1.out.mono (bt hb (layP_below _ _ _ _))), (hS2).up (layP_below _ _ _ _), (hT2).mono (layP_below _ _ _ _)⟩
    case rest =>
      obtain ⟨a2, c2, t2, d2, b11, rfl, rfl, hB11, hB3, hB4, hB9, hG, hS1, hT1, hS2, hT2⟩ := hcut
      have B11 := Lib.hid hB11
      replace B3 := Lib.hid hB3
      replace B4 := Lib.hid hB4
      replace B9 := Lib.hid hB9
      replace G := Lib.hid hG
      replace S1 := Lib.hid hS1
      replace T1 := Lib.hid hT1
      have S2 := Lib.hid hS2
      have T2 := Lib.hid hT2
      clear hB11 hB3 hB4 hB9 hG hS1 hT1 hS2 hT2
      go_upto_region 11 with (fail)
      go_cut [14, 13] (fun v14 v13 wx => ∃ b13 : Nat, v14 = .bool yA ∧ v13 = .pointer (some ⟨b13, 0, none⟩) ∧ BlkT 24 wx b13 (prL i a n c f3) ∧ BlkT 24 wx b3 (prL i a n c f) ∧ BlkT 24 wx b4 (prL i2 oa on oc f2) ∧ BlkT 24 wx b9 (prL i a1 n1 c1 f) ∧ BlkT 24 wx b11 (prL i a2 n1 c2 f) ∧ Below w.heap.size w wx ∧ PrF wx a1 n1 c1 es1 ∧ BytesAt wx t1 TT ∧ PrF wx a2 n1 c2 es1 ∧ BytesAt wx t2 TT)
      case first =>
        go_wp2_with (first
                  | (refine wpList_load_blk 24 (.tmp 3) b3 (cs := (prL i a n c f)) rfl rfl rfl B3.out.blk Tryd.underlying24 rfl HI.out ?_)
                  | (refine wpList_load_blkP 24 (.tmp 3) b3 (cs := (prL i a n c f)) (by first | rfl | simp [Region.wanted, yielded]) rfl rfl B3.out.blk Tryd.underlying24 rfl HI.out ?_))
        refine (K3.out _ G.out (HP.out _ G.out Ln.out) Lk.out Lb.out Lt.out).mono ?_; rintro e wn ⟨rfl, hb⟩
        go_wp2_with (refine wpList_store_blk 24 (.tmp 13) (.tmp 76) _ (old := zeroP) (cs := (prL i a n c f3)) rfl rfl rfl rfl (Blk.new _ _ _) HI.out rfl rfl ?_)
        go_meet
        exact ⟨_, rfl, rfl, layP_blk _ _ _ _, (B3.out.up (bt hb (layP_below _ _ _ _))), (B4.out.up (bt hb (layP_below _ _ _ _))), (B9.out.up (bt hb (layP_below _ _ _ _))), (B11.out.up (bt hb (layP_below _ _ _ _))), (bt G.out (bt hb (layP_below _ _ _ _))), (S1.out.up (bt hb (layP_below _ _ _ _))), (T1.out.mono (bt hb (layP_below _ _ _ _))), (S2.out.up (bt hb (layP_below _ _ _ _))), (T2.out.mono (bt hb (layP_below _ _ _ _)))⟩
      case rest =>
        obtain ⟨b13, rfl, rfl, hB13, hB3, hB4, hB9, hB11, hG, hS1, hT1, hS2, hT2⟩ := hcut
        have B13 := Lib.hid hB13
        replace B3 := Lib.hid hB3
        replace B4 := Lib.hid hB4
        replace B9 := Lib.hid hB9
        replace B11 := Lib.hid hB11
        replace G := Lib.hid hG
        replace S1 := Lib.hid hS1
        replace T1 := Lib.hid hT1
        replace S2 := Lib.hid hS2
        replace T2 := Lib.hid hT2
        clear hB13 hB3 hB4 hB9 hB11 hG hS1 hT1 hS2 hT2
        go_upto_region 12 with (fail)
        go_cut [16, 15] (fun v16 v15 wx => ∃ b15 : Nat, v16 = .bool yA ∧ v15 = .pointer (some ⟨b15, 0, none⟩) ∧ BlkT 24 wx b15 (prL i a n c f3) ∧ BlkT 24 wx b3 (prL i a n c f) ∧ BlkT 24 wx b4 (prL i2 oa on oc f2) ∧ BlkT 24 wx b9 (prL i a1 n1 c1 f) ∧ BlkT 24 wx b11 (prL i a2 n1 c2 f) ∧ BlkT 24 wx b13 (prL i a n c f3) ∧ Below w.heap.size w wx ∧ PrF wx a1 n1 c1 es1 ∧ BytesAt wx t1 TT ∧ PrF wx a2 n1 c2 es1 ∧ BytesAt wx t2 TT)
        case first =>
          go_wp2_with (first
                      | (refine wpList_load_blk 24 (.tmp 3) b3 (cs := (prL i a n c f)) rfl rfl rfl B3.out.blk Tryd.underlying24 rfl HI.out ?_)
                      | (refine wpList_load_blkP 24 (.tmp 3) b3 (cs := (prL i a n c f)) (by first | rfl | simp [Region.wanted, yielded]) rfl rfl B3.out.blk Tryd.underlying24 rfl HI.out ?_))
          refine (K4.out _ G.out (HP.out _ G.out Ln.out) Lk.out Lb.out Lt.out).mono ?_; rintro e wn ⟨rfl, hb⟩
          go_wp2_with (refine wpList_store_blk 24 (.tmp 15) (.tmp 84) _ (old := zeroP) (cs := (prL i a n c f3)) rfl rfl rfl rfl (Blk.new _ _ _) HI.out rfl rfl ?_)
          go_meet
          exact ⟨_, rfl, rfl, layP_blk _ _ _ _, (B3.out.up (bt hb (layP_below _ _ _ _))), (B4.out.up (bt hb (layP_below _ _ _ _))), (B9.out.up (bt hb (layP_below _ _ _ _))), (B11.out.up (bt hb (layP_below _ _ _ _))), (B13.out.up (bt hb (layP_below _ _ _ _))), (bt G.out (bt hb (layP_below _ _ _ _))), (S1.out.up (bt hb (layP_below _ _ _ _))), (T1.out.mono (bt hb (layP_below _ _ _ _))), (S2.out.up (bt hb (layP_below _ _ _ _))), (T2.out.mono (bt hb (layP_below _ _ _ _)))⟩
        case rest =>
          obtain ⟨b15, rfl, rfl, hB15, hB3, hB4, hB9, hB11, hB13, hG, hS1, hT1, hS2, hT2⟩ := hcut
          have B15 := Lib.hid hB15
          replace B3 := Lib.hid hB3
          replace B4 := Lib.hid hB4
          replace B9 := Lib.hid hB9
          replace B11 := Lib.hid hB11
          replace B13 := Lib.hid hB13
          replace G := Lib.hid hG
          replace S1 := Lib.hid hS1
          replace T1 := Lib.hid hT1
          replace S2 := Lib.hid hS2
          replace T2 := Lib.hid hT2
          clear hB15 hB3 hB4 hB9 hB11 hB13 hG hS1 hT1 hS2 hT2
          go_upto_region 13 with (fail)
          go_cut [18, 17] (fun v18 v17 wx => ∃ b17 : Nat, v18 = .bool yB ∧ v17 = .pointer (some ⟨b17, 0, none⟩) ∧ BlkT 24 wx b17 (prL i a n c f4) ∧ BlkT 24 wx b3 (prL i a n c f) ∧ BlkT 24 wx b4 (prL i2 oa on oc f2) ∧ BlkT 24 wx b9 (prL i a1 n1 c1 f) ∧ BlkT 24 wx b11 (prL i a2 n1 c2 f) ∧ BlkT 24 wx b13 (prL i a n c f3) ∧ BlkT 24 wx b15 (prL i a n c f3) ∧ Below w.heap.size w wx ∧ PrF wx a1 n1 c1 es1 ∧ BytesAt wx t1 TT ∧ PrF wx a2 n1 c2 es1 ∧ BytesAt wx t2 TT)
          case first =>
            go_wp2_with (first
                          | (refine wpList_load_blk 24 (.tmp 3) b3 (cs := (prL i a n c f)) rfl rfl rfl B3.out.blk Tryd.underlying24 rfl HI.out ?_)
                          | (refine wpList_load_blkP 24 (.tmp 3) b3 (cs := (prL i a n c f)) (by first | rfl | simp [Region.wanted, yielded]) rfl rfl B3.out.blk Tryd.underlying24 rfl HI.out ?_))
            refine (K5.out t2 d2 _ G.out (HP.out _ G.out Ln.out) T2.out Lk.out Lb.out).mono ?_; rintro e wn ⟨rfl, hb⟩
            go_wp2_with (refine wpList_store_blk 24 (.tmp 17) (.tmp 92) _ (old := zeroP) (cs := (prL i a n c f4)) rfl rfl rfl rfl (Blk.new _ _ _) HI.out rfl rfl ?_)
            go_meet
            exact ⟨_, rfl, rfl, layP_blk _ _ _ _, (B3.out.up (bt hb (layP_below _ _ _ _))), (B4.out.up (bt hb (layP_below _ _ _ _))), (B9.out.up (bt hb (layP_below _ _ _ _))), (B11.out.up (bt hb (layP_below _ _ _ _))), (B13.out.up (bt hb (layP_below _ _ _ _))), (B15.out.up (bt hb (layP_below _ _ _ _))), (bt G.out (bt hb (layP_below _ _ _ _))), (S1.out.up (bt hb (layP_below _ _ _ _))), (T1.out.mono (bt hb (layP_below _ _ _ _))), (S2.out.up (bt hb (layP_below _ _ _ _))), (T2.out.mono (bt hb (layP_below _ _ _ _)))⟩
          case rest =>
            obtain ⟨b17, rfl, rfl, hB17, hB3, hB4, hB9, hB11, hB13, hB15, hG, hS1, hT1, hS2, hT2⟩ := hcut
            have B17 := Lib.hid hB17
            replace B3 := Lib.hid hB3
            replace B4 := Lib.hid hB4
            replace B9 := Lib.hid hB9
            replace B11 := Lib.hid hB11
            replace B13 := Lib.hid hB13
            replace B15 := Lib.hid hB15
            replace G := Lib.hid hG
            replace S1 := Lib.hid hS1
            replace T1 := Lib.hid hT1
            replace S2 := Lib.hid hS2
            replace T2 := Lib.hid hT2
            clear hB17 hB3 hB4 hB9 hB11 hB13 hB15 hG hS1 hT1 hS2 hT2
            go_upto_region 14 with (fail)
            go_cut [20, 19] (fun v20 v19 wx => ∃ b19 : Nat, v20 = .bool yB ∧ v19 = .pointer (some ⟨b19, 0, none⟩) ∧ BlkT 24 wx b19 (prL i a n c f4) ∧ BlkT 24 wx b3 (prL i a n c f) ∧ BlkT 24 wx b4 (prL i2 oa on oc f2) ∧ BlkT 24 wx b9 (prL i a1 n1 c1 f) ∧ BlkT 24 wx b11 (prL i a2 n1 c2 f) ∧ BlkT 24 wx b13 (prL i a n c f3) ∧ BlkT 24 wx b15 (prL i a n c f3) ∧ BlkT 24 wx b17 (prL i a n c f4) ∧ Below w.heap.size w wx ∧ PrF wx a1 n1 c1 es1 ∧ BytesAt wx t1 TT ∧ PrF wx a2 n1 c2 es1 ∧ BytesAt wx t2 TT)
            case first =>
              go_wp2_with (first
                              | (refine wpList_load_blk 24 (.tmp 3) b3 (cs := (prL i a n c f)) rfl rfl rfl B3.out.blk Tryd.underlying24 rfl HI.out ?_)
                              | (refine wpList_load_blkP 24 (.tmp 3) b3 (cs := (prL i a n c f)) (by first | rfl | simp [Region.wanted, yielded]) rfl rfl B3.out.blk Tryd.underlying24 rfl HI.out ?_))
              refine (K6.out t2 d2 _ G.out (HP.out _ G.out Ln.out) T2.out Lk.out Lb.out).mono ?_; rintro e wn ⟨rfl, hb⟩
              go_wp2_with (refine wpList_store_blk 24 (.tmp 19) (.tmp 100) _ (old := zeroP) (cs := (prL i a n c f4)) rfl rfl rfl rfl (Blk.new _ _ _) HI.out rfl rfl ?_)
              go_meet
              exact ⟨_, rfl, rfl, layP_blk _ _ _ _, (B3.out.up (bt hb (layP_below _ _ _ _))), (B4.out.up (bt hb (layP_below _ _ _ _))), (B9.out.up (bt hb (layP_below _ _ _ _))), (B11.out.up (bt hb (layP_below _ _ _ _))), (B13.out.up (bt hb (layP_below _ _ _ _))), (B15.out.up (bt hb (layP_below _ _ _ _))), (B17.out.up (bt hb (layP_below _ _ _ _))), (bt G.out (bt hb (layP_below _ _ _ _))), (S1.out.up (bt hb (layP_below _ _ _ _))), (T1.out.mono (bt hb (layP_below _ _ _ _))), (S2.out.up (bt hb (layP_below _ _ _ _))), (T2.out.mono (bt hb (layP_below _ _ _ _)))⟩
            case rest =>
              obtain ⟨b19, rfl, rfl, hB19, hB3, hB4, hB9, hB11, hB13, hB15, hB17, hG, hS1, hT1, hS2, hT2⟩ := hcut
              have B19 := Lib.hid hB19
              replace B3 := Lib.hid hB3
              replace B4 := Lib.hid hB4
              replace B9 := Lib.hid hB9
              replace B11 := Lib.hid hB11
              replace B13 := Lib.hid hB13
              replace B15 := Lib.hid hB15
              replace B17 := Lib.hid hB17
              replace G := Lib.hid hG
              replace S1 := Lib.hid hS1
              replace T1 := Lib.hid hT1
              replace S2 := Lib.hid hS2
              replace T2 := Lib.hid hT2
              clear hB19 hB3 hB4 hB9 hB11 hB13 hB15 hB17 hG hS1 hT1 hS2 hT2
              go_upto_region 15 with (fail)
              have E3v0 := B3.out.up (bd _)
              have E4v0 := B4.out.up (bd _)
              have E9v0 := B9.out.up (bd _)
              have E11v0 := B11.out.up (bd _)
              have E13v0 := B13.out.up (bd _)
              have E15v0 := B15.out.up (bd _)
              have E17v0 := B17.out.up (bd _)
              have E19v0 := B19.out.up (bd _)
              have bv0 := btd G.out
              have Sv0 := S1.out.up (bd _)
              have Uv0 := S2.out.up (bd _)
              have Xv0 := T1.out.mono (bd _)
              have Yv0 := T2.out.mono (bd _)
              clear K1 K2 K3 K4 K5 K6 S1 S2 T1 T2
              refine wp_region_held_drew (S := fun w' => BlkT 24 w' b3 (prL i a n c f) ∧ BlkT 24 w' b4 (prL i2 oa on oc f2) ∧ BlkT 24 w' b9 (prL i a1 n1 c1 f) ∧ BlkT 24 w' b11 (prL i a2 n1 c2 f) ∧ BlkT 24 w' b13 (prL i a n c f3) ∧ BlkT 24 w' b15 (prL i a n c f3) ∧ BlkT 24 w' b17 (prL i a n c f4) ∧ BlkT 24 w' b19 (prL i a n c f4)) (by kernel_rfl) ?_ (fun hHeld => ?_)
              · exact ⟨B3.out.up (bd _), B4.out.up (bd _), B9.out.up (bd _), B11.out.up (bd _), B13.out.up (bd _), B15.out.up (bd _), B17.out.up (bd _), B19.out.up (bd _)⟩
              refine wpAnyH_take (i := 0) (oi := ⟨some 102, _, _, _, _, _⟩) (v := ?_) rfl (by kernel_rfl) (by kernel_rfl) (by kernel_rfl) (fun _ _ _ h => h) (Or.inl ⟨by first | rfl | simp [Region.wanted, yielded], ?_⟩) hHeld ?_
              rotate_left
              · intro w hSw; go_simp; try with_reducible rfl
              try simp only [Act.put, List.setIfInBounds_toArray, List.set_cons_zero, List.set_cons_succ]
              refine wpAnyH_take (i := 1) (oi := ⟨some 103, _, _, _, _, _⟩) (v := ?_) rfl (by kernel_rfl) (by kernel_rfl) (by kernel_rfl) (fun _ _ _ h => h) (Or.inl ⟨by first | rfl | simp [Region.wanted, yielded], ?_⟩) hHeld ?_
              rotate_left
              · intro w hSw; go_simp; try with_reducible rfl
              try simp only [Act.put, List.setIfInBounds_toArray, List.set_cons_zero, List.set_cons_succ]
              refine wpAnyH_take (i := 2) (oi := ⟨some 104, _, _, _, _, _⟩) (v := .agg ((prL i a1 n1 c1 f)).toArray) rfl (by kernel_rfl) (by kernel_rfl) (by kernel_rfl) (fun _ _ _ h => h) (yieldsIf_blkP (by first | rfl | simp [Region.wanted, yielded]) 24 (.tmp 9) rfl b9 rfl (fun w hw => hw.2.2.1) Tryd.underlying24 rfl HI.out) hHeld ?_
              try simp only [Act.put, List.setIfInBounds_toArray, List.set_cons_zero, List.set_cons_succ]
              refine wpAnyH_take (i := 3) (oi := ⟨some 105, _, _, _, _, _⟩) (v := .agg ((prL i a2 n1 c2 f)).toArray) rfl (by kernel_rfl) (by kernel_rfl) (by kernel_rfl) (fun _ _ _ h => h) (yieldsIf_blkP (by first | rfl | simp [Region.wanted, yielded]) 24 (.tmp 11) rfl b11 rfl (fun w hw => hw.2.2.2.1) Tryd.underlying24 rfl HI.out) hHeld ?_
              try simp only [Act.put, List.setIfInBounds_toArray, List.set_cons_zero, List.set_cons_succ]
              refine wpAnyH_ready (rs := [4]) (by kernel_rfl) (by simp) ?_
              refine AllReadyH.cons (o := ⟨some 106, _, _, _, _, _⟩) rfl (fun K hK => ?_) AllReadyH.nil
              go_simp
              (with_reducible refine Calls.mono (KS.out a1 c1 a2 c2 _ Sv0 Uv0) ?_); rintro e v1 ⟨rfl, hv1⟩; have E3v1 := E3v0.up hv1; have E4v1 := E4v0.up hv1; have E9v1 := E9v0.up hv1; have E11v1 := E11v0.up hv1; have E13v1 := E13v0.up hv1; have E15v1 := E15v0.up hv1; have E17v1 := E17v0.up hv1; have E19v1 := E19v0.up hv1; have Sv1 := Sv0.up hv1; have Uv1 := Uv0.up hv1; have Xv1 := Xv0.mono hv1; have Yv1 := Yv0.mono hv1; have bv1 := bt bv0 hv1
              go_wp2_with fail
              refine hK.out _ _ ?_ (fun hHeld => ?_)
              · exact ⟨E3v1, E4v1, E9v1, E11v1, E13v1, E15v1, E17v1, E19v1⟩
              clear hK K
              try simp only [Act.put, List.setIfInBounds_toArray, List.set_cons_zero, List.set_cons_succ]
              refine wpAnyH_take (i := 5) (oi := ⟨some 107, _, _, _, _, _⟩) (v := ?_) rfl (by kernel_rfl) (by kernel_rfl) (by kernel_rfl) (fun _ _ _ h => h) (Or.inl ⟨by first | rfl | simp [Region.wanted, yielded], ?_⟩) hHeld ?_
              rotate_left
              · intro w hSw; go_simp; try with_reducible rfl
              try simp only [Act.put, List.setIfInBounds_toArray, List.set_cons_zero, List.set_cons_succ]
              refine wpAnyH_take (i := 6) (oi := ⟨some 108, _, _, _, _, _⟩) (v := ?_) rfl (by kernel_rfl) (by kernel_rfl) (by kernel_rfl) (fun _ _ _ h => h) (Or.inl ⟨by first | rfl | simp [Region.wanted, yielded], ?_⟩) hHeld ?_
              rotate_left
              · intro w hSw; go_simp; try with_reducible rfl
              try simp only [Act.put, List.setIfInBounds_toArray, List.set_cons_zero, List.set_cons_succ]
              refine wpAnyH_take (i := 7) (oi := ⟨some 109, _, _, _, _, _⟩) (v := ?_) rfl (by kernel_rfl) (by kernel_rfl) (by kernel_rfl) (fun _ _ _ h => h) (Or.inl ⟨by first | rfl | simp [Region.wanted, yielded], ?_⟩) hHeld ?_
              rotate_left
              · intro w hSw; go_simp; try with_reducible rfl
              try simp only [Act.put, List.setIfInBounds_toArray, List.set_cons_zero, List.set_cons_succ]
              refine wpAnyH_take (i := 8) (oi := ⟨some 110, _, _, _, _, _⟩) (v := ?_) rfl (by kernel_rfl) (by kernel_rfl) (by kernel_rfl) (fun _ _ _ h => h) (Or.inl ⟨by first | rfl | simp [Region.wanted, yielded], ?_⟩) hHeld ?_
              rotate_left
              · intro w hSw; go_simp; try with_reducible rfl
              try simp only [Act.put, List.setIfInBounds_toArray, List.set_cons_zero, List.set_cons_succ]
              refine wpAnyH_ready (rs := [9]) (by kernel_rfl) (by simp) ?_
              refine AllReadyH.cons (o := ⟨some 111, _, _, _, _, _⟩) rfl (fun K hK => ?_) AllReadyH.nil
              go_simp
              (with_reducible refine Calls.mono (KX.out t1 t2 d1 d2 _ Xv1 Yv1) ?_); rintro e v2 ⟨rfl, hv2⟩; have E3v2 := E3v1.up hv2; have E4v2 := E4v1.up hv2; have E9v2 := E9v1.up hv2; have E11v2 := E11v1.up hv2; have E13v2 := E13v1.up hv2; have E15v2 := E15v1.up hv2; have E17v2 := E17v1.up hv2; have E19v2 := E19v1.up hv2; have Sv2 := Sv1.up hv2; have Uv2 := Uv1.up hv2; have Xv2 := Xv1.mono hv2; have Yv2 := Yv1.mono hv2; have bv2 := bt bv1 hv2
              go_wp2_with fail
              refine hK.out _ _ ?_ (fun hHeld => ?_)
              · exact ⟨E3v2, E4v2, E9v2, E11v2, E13v2, E15v2, E17v2, E19v2⟩
              clear hK K
              try simp only [Act.put, List.setIfInBounds_toArray, List.set_cons_zero, List.set_cons_succ]
              refine wpAnyH_take (i := 10) (oi := ⟨some 112, _, _, _, _, _⟩) (v := ?_) rfl (by kernel_rfl) (by kernel_rfl) (by kernel_rfl) (fun _ _ _ h => h) (Or.inl ⟨by first | rfl | simp [Region.wanted, yielded], ?_⟩) hHeld ?_
              rotate_left
              · intro w hSw; go_simp; try with_reducible rfl
              try simp only [Act.put, List.setIfInBounds_toArray, List.set_cons_zero, List.set_cons_succ]
              refine wpAnyH_take (i := 11) (oi := ⟨some 113, _, _, _, _, _⟩) (v := ?_) rfl (by kernel_rfl) (by kernel_rfl) (by kernel_rfl) (fun _ _ _ h => h) (Or.inl ⟨by first | rfl | simp [Region.wanted, yielded], ?_⟩) hHeld ?_
              rotate_left
              · intro w hSw; go_simp; try with_reducible rfl
              try simp only [Act.put, List.setIfInBounds_toArray, List.set_cons_zero, List.set_cons_succ]
              refine wpAnyH_take (i := 12) (oi := ⟨some 114, _, _, _, _, _⟩) (v := .agg ((prL i a n c f3)).toArray) rfl (by kernel_rfl) (by kernel_rfl) (by kernel_rfl) (fun _ _ _ h => h) (yieldsIf_blkP (by first | rfl | simp [Region.wanted, yielded]) 24 (.tmp 13) rfl b13 rfl (fun w hw => hw.2.2.2.2.1) Tryd.underlying24 rfl HI.out) hHeld ?_
              try simp only [Act.put, List.setIfInBounds_toArray, List.set_cons_zero, List.set_cons_succ]
              refine wpAnyH_take (i := 13) (oi := ⟨some 115, _, _, _, _, _⟩) (v := .agg ((prL i a n c f3)).toArray) rfl (by kernel_rfl) (by kernel_rfl) (by kernel_rfl) (fun _ _ _ h => h) (yieldsIf_blkP (by first | rfl | simp [Region.wanted, yielded]) 24 (.tmp 15) rfl b15 rfl (fun w hw => hw.2.2.2.2.2.1) Tryd.underlying24 rfl HI.out) hHeld ?_
              try simp only [Act.put, List.setIfInBounds_toArray, List.set_cons_zero, List.set_cons_succ]
              refine wpAnyH_ready (rs := [14]) (by kernel_rfl) (by simp) ?_
              refine AllReadyH.cons (o := ⟨some 116, _, _, _, _, _⟩) rfl (fun K hK => ?_) AllReadyH.nil
              go_simp
              (with_reducible refine Calls.mono (KT.out f3 _ (HP.out _ bv2 Ln.out)) ?_); rintro e v3 ⟨rfl, hv3⟩; have E3v3 := E3v2.up hv3; have E4v3 := E4v2.up hv3; have E9v3 := E9v2.up hv3; have E11v3 := E11v2.up hv3; have E13v3 := E13v2.up hv3; have E15v3 := E15v2.up hv3; have E17v3 := E17v2.up hv3; have E19v3 := E19v2.up hv3; have Sv3 := Sv2.up hv3; have Uv3 := Uv2.up hv3; have Xv3 := Xv2.mono hv3; have Yv3 := Yv2.mono hv3; have bv3 := bt bv2 hv3
              go_wp2_with fail
              refine hK.out _ _ ?_ (fun hHeld => ?_)
              · exact ⟨E3v3, E4v3, E9v3, E11v3, E13v3, E15v3, E17v3, E19v3⟩
              clear hK K
              try simp only [Act.put, List.setIfInBounds_toArray, List.set_cons_zero, List.set_cons_succ]
              refine wpAnyH_take (i := 15) (oi := ⟨some 117, _, _, _, _, _⟩) (v := ?_) rfl (by kernel_rfl) (by kernel_rfl) (by kernel_rfl) (fun _ _ _ h => h) (Or.inl ⟨by first | rfl | simp [Region.wanted, yielded], ?_⟩) hHeld ?_
              rotate_left
              · intro w hSw; go_simp; try with_reducible rfl
              try simp only [Act.put, List.setIfInBounds_toArray, List.set_cons_zero, List.set_cons_succ]
              refine wpAnyH_take (i := 16) (oi := ⟨some 118, _, _, _, _, _⟩) (v := ?_) rfl (by kernel_rfl) (by kernel_rfl) (by kernel_rfl) (fun _ _ _ h => h) (Or.inl ⟨by first | rfl | simp [Region.wanted, yielded], ?_⟩) hHeld ?_
              rotate_left
              · intro w hSw; go_simp; try with_reducible rfl
              try simp only [Act.put, List.setIfInBounds_toArray, List.set_cons_zero, List.set_cons_succ]
              refine wpAnyH_take (i := 17) (oi := ⟨some 119, _, _, _, _, _⟩) (v := ?_) rfl (by kernel_rfl) (by kernel_rfl) (by kernel_rfl) (fun _ _ _ h => h) (Or.inl ⟨by first | rfl | simp [Region.wanted, yielded], ?_⟩) hHeld ?_
              rotate_left
              · intro w hSw; go_simp; try with_reducible rfl
              try simp only [Act.put, List.setIfInBounds_toArray, List.set_cons_zero, List.set_cons_succ]
              refine wpAnyH_take (i := 18) (oi := ⟨some 120, _, _, _, _, _⟩) (v := ?_) rfl (by kernel_rfl) (by kernel_rfl) (by kernel_rfl) (fun _ _ _ h => h) (Or.inl ⟨by first | rfl | simp [Region.wanted, yielded], ?_⟩) hHeld ?_
              rotate_left
              · intro w hSw; go_simp; try with_reducible rfl
              try simp only [Act.put, List.setIfInBounds_toArray, List.set_cons_zero, List.set_cons_succ]
              refine wpAnyH_take (i := 19) (oi := ⟨some 121, _, _, _, _, _⟩) (v := ?_) rfl (by kernel_rfl) (by kernel_rfl) (by kernel_rfl) (fun _ _ _ h => h) (Or.inl ⟨by first | rfl | simp [Region.wanted, yielded], ?_⟩) hHeld ?_
              rotate_left
              · intro w hSw; go_simp; try with_reducible rfl
              try simp only [Act.put, List.setIfInBounds_toArray, List.set_cons_zero, List.set_cons_succ]
              refine wpAnyH_take (i := 20) (oi := ⟨some 122, _, _, _, _, _⟩) (v := ?_) rfl (by kernel_rfl) (by kernel_rfl) (by kernel_rfl) (fun _ _ _ h => h) (Or.inl ⟨by first | rfl | simp [Region.wanted, yielded], ?_⟩) hHeld ?_
              rotate_left
              · intro w hSw; go_simp; try with_reducible rfl
              try simp only [Act.put, List.setIfInBounds_toArray, List.set_cons_zero, List.set_cons_succ]
              refine wpAnyH_take (i := 21) (oi := ⟨some 123, _, _, _, _, _⟩) (v := ?_) rfl (by kernel_rfl) (by kernel_rfl) (by kernel_rfl) (fun _ _ _ h => h) (Or.inl ⟨by first | rfl | simp [Region.wanted, yielded], ?_⟩) hHeld ?_
              rotate_left
              · intro w hSw; go_simp; try with_reducible rfl
              try simp only [Act.put, List.setIfInBounds_toArray, List.set_cons_zero, List.set_cons_succ]
              refine wpAnyH_take (i := 22) (oi := ⟨some 124, _, _, _, _, _⟩) (v := .agg ((prL i a n c f4)).toArray) rfl (by kernel_rfl) (by kernel_rfl) (by kernel_rfl) (fun _ _ _ h => h) (yieldsIf_blkP (by first | rfl | simp [Region.wanted, yielded]) 24 (.tmp 17) rfl b17 rfl (fun w hw => hw.2.2.2.2.2.2.1) Tryd.underlying24 rfl HI.out) hHeld ?_
              try simp only [Act.put, List.setIfInBounds_toArray, List.set_cons_zero, List.set_cons_succ]
              refine wpAnyH_take (i := 23) (oi := ⟨some 125, _, _, _, _, _⟩) (v := .agg ((prL i a n c f4)).toArray) rfl (by kernel_rfl) (by kernel_rfl) (by kernel_rfl) (fun _ _ _ h => h) (yieldsIf_blkP (by first | rfl | simp [Region.wanted, yielded]) 24 (.tmp 19) rfl b19 rfl (fun w hw => hw.2.2.2.2.2.2.2) Tryd.underlying24 rfl HI.out) hHeld ?_
              try simp only [Act.put, List.setIfInBounds_toArray, List.set_cons_zero, List.set_cons_succ]
              refine wpAnyH_ready (rs := [24]) (by kernel_rfl) (by simp) ?_
              refine AllReadyH.cons (o := ⟨some 126, _, _, _, _, _⟩) rfl (fun K hK => ?_) AllReadyH.nil
              go_simp
              (with_reducible refine Calls.mono (KT.out f4 _ (HP.out _ bv3 Ln.out)) ?_); rintro e v4 ⟨rfl, hv4⟩; have E3v4 := E3v3.up hv4; have E4v4 := E4v3.up hv4; have E9v4 := E9v3.up hv4; have E11v4 := E11v3.up hv4; have E13v4 := E13v3.up hv4; have E15v4 := E15v3.up hv4; have E17v4 := E17v3.up hv4; have E19v4 := E19v3.up hv4; have Sv4 := Sv3.up hv4; have Uv4 := Uv3.up hv4; have Xv4 := Xv3.mono hv4; have Yv4 := Yv3.mono hv4; have bv4 := bt bv3 hv4
              go_wp2_with fail
              refine hK.out _ _ ?_ (fun hHeld => ?_)
              · exact ⟨E3v4, E4v4, E9v4, E11v4, E13v4, E15v4, E17v4, E19v4⟩
              clear hK K
              try simp only [Act.put, List.setIfInBounds_toArray, List.set_cons_zero, List.set_cons_succ]
              refine wpAnyH_take (i := 25) (oi := ⟨some 127, _, _, _, _, _⟩) (v := ?_) rfl (by kernel_rfl) (by kernel_rfl) (by kernel_rfl) (fun _ _ _ h => h) (Or.inl ⟨by first | rfl | simp [Region.wanted, yielded], ?_⟩) hHeld ?_
              rotate_left
              · intro w hSw; go_simp; try with_reducible rfl
              try simp only [Act.put, List.setIfInBounds_toArray, List.set_cons_zero, List.set_cons_succ]
              refine wpAnyH_take (i := 26) (oi := ⟨some 128, _, _, _, _, _⟩) (v := ?_) rfl (by kernel_rfl) (by kernel_rfl) (by kernel_rfl) (fun _ _ _ h => h) (Or.inl ⟨by first | rfl | simp [Region.wanted, yielded], ?_⟩) hHeld ?_
              rotate_left
              · intro w hSw; go_simp; try with_reducible rfl
              try simp only [Act.put, List.setIfInBounds_toArray, List.set_cons_zero, List.set_cons_succ]
              refine wpAnyH_take (i := 27) (oi := ⟨some 129, _, _, _, _, _⟩) (v := ?_) rfl (by kernel_rfl) (by kernel_rfl) (by kernel_rfl) (fun _ _ _ h => h) (Or.inl ⟨by first | rfl | simp [Region.wanted, yielded], ?_⟩) hHeld ?_
              rotate_left
              · intro w hSw; go_simp; try with_reducible rfl
              try simp only [Act.put, List.setIfInBounds_toArray, List.set_cons_zero, List.set_cons_succ]
              refine wpAnyH_take (i := 28) (oi := ⟨some 130, _, _, _, _, _⟩) (v := ?_) rfl (by kernel_rfl) (by kernel_rfl) (by kernel_rfl) (fun _ _ _ h => h) (Or.inl ⟨by first | rfl | simp [Region.wanted, yielded], ?_⟩) hHeld ?_
              rotate_left
              · intro w hSw; go_simp; try with_reducible rfl
              try simp only [Act.put, List.setIfInBounds_toArray, List.set_cons_zero, List.set_cons_succ]
              refine wpAnyH_take (i := 29) (oi := ⟨some 131, _, _, _, _, _⟩) (v := ?_) rfl (by kernel_rfl) (by kernel_rfl) (by kernel_rfl) (fun _ _ _ h => h) (Or.inl ⟨by first | rfl | simp [Region.wanted, yielded], ?_⟩) hHeld ?_
              rotate_left
              · intro w hSw; go_simp; try with_reducible rfl
              try simp only [Act.put, List.setIfInBounds_toArray, List.set_cons_zero, List.set_cons_succ]
              refine wpAnyH_take (i := 30) (oi := ⟨some 132, _, _, _, _, _⟩) (v := ?_) rfl (by kernel_rfl) (by kernel_rfl) (by kernel_rfl) (fun _ _ _ h => h) (Or.inl ⟨by first | rfl | simp [Region.wanted, yielded], ?_⟩) hHeld ?_
              rotate_left
              · intro w hSw; go_simp; try with_reducible rfl
              try simp only [Act.put, List.setIfInBounds_toArray, List.set_cons_zero, List.set_cons_succ]
              refine wpAnyH_take (i := 31) (oi := ⟨some 133, _, _, _, _, _⟩) (v := ?_) rfl (by kernel_rfl) (by kernel_rfl) (by kernel_rfl) (fun _ _ _ h => h) (Or.inl ⟨by first | rfl | simp [Region.wanted, yielded], ?_⟩) hHeld ?_
              rotate_left
              · intro w hSw; go_simp; try with_reducible rfl
              try simp only [Act.put, List.setIfInBounds_toArray, List.set_cons_zero, List.set_cons_succ]
              refine wpAnyH_take (i := 32) (oi := ⟨some 134, _, _, _, _, _⟩) (v := .agg ((prL i a n c f)).toArray) rfl (by kernel_rfl) (by kernel_rfl) (by kernel_rfl) (fun _ _ _ h => h) (yieldsIf_blkP (by first | rfl | simp [Region.wanted, yielded]) 24 (.tmp 3) rfl b3 rfl (fun w hw => hw.1) Tryd.underlying24 rfl HI.out) hHeld ?_
              try simp only [Act.put, List.setIfInBounds_toArray, List.set_cons_zero, List.set_cons_succ]
              refine wpAnyH_take (i := 33) (oi := ⟨some 135, _, _, _, _, _⟩) (v := ?_) rfl (by kernel_rfl) (by kernel_rfl) (by kernel_rfl) (fun _ _ _ h => h) (Or.inl ⟨by first | rfl | simp [Region.wanted, yielded], ?_⟩) hHeld ?_
              rotate_left
              · intro w hSw; go_simp; try with_reducible rfl
              try simp only [Act.put, List.setIfInBounds_toArray, List.set_cons_zero, List.set_cons_succ]
              refine wpAnyH_take (i := 34) (oi := ⟨some 136, _, _, _, _, _⟩) (v := ?_) rfl (by kernel_rfl) (by kernel_rfl) (by kernel_rfl) (fun _ _ _ h => h) (Or.inl ⟨by first | rfl | simp [Region.wanted, yielded], ?_⟩) hHeld ?_
              rotate_left
              · intro w hSw; go_simp; try with_reducible rfl
              try simp only [Act.put, List.setIfInBounds_toArray, List.set_cons_zero, List.set_cons_succ]
              refine wpAnyH_take (i := 36) (oi := ⟨some 138, _, _, _, _, _⟩) (v := .agg ((prL i a n c f)).toArray) rfl (by kernel_rfl) (by kernel_rfl) (by kernel_rfl) (fun _ _ _ h => h) (yieldsIf_blkP (by first | rfl | simp [Region.wanted, yielded]) 24 (.tmp 3) rfl b3 rfl (fun w hw => hw.1) Tryd.underlying24 rfl HI.out) hHeld ?_
              try simp only [Act.put, List.setIfInBounds_toArray, List.set_cons_zero, List.set_cons_succ]
              refine wpAnyH_take (i := 37) (oi := ⟨some 139, _, _, _, _, _⟩) (v := ?_) rfl (by kernel_rfl) (by kernel_rfl) (by kernel_rfl) (fun _ _ _ h => h) (Or.inl ⟨by first | rfl | simp [Region.wanted, yielded], ?_⟩) hHeld ?_
              rotate_left
              · intro w hSw; go_simp; try with_reducible rfl
              try simp only [Act.put, List.setIfInBounds_toArray, List.set_cons_zero, List.set_cons_succ]
              refine wpAnyH_take (i := 38) (oi := ⟨some 140, _, _, _, _, _⟩) (v := ?_) rfl (by kernel_rfl) (by kernel_rfl) (by kernel_rfl) (fun _ _ _ h => h) (Or.inl ⟨by first | rfl | simp [Region.wanted, yielded], ?_⟩) hHeld ?_
              rotate_left
              · intro w hSw; go_simp; try with_reducible rfl
              try simp only [Act.put, List.setIfInBounds_toArray, List.set_cons_zero, List.set_cons_succ]
              refine wpAnyH_ready (rs := [35]) (by kernel_rfl) (by simp) ?_
              refine AllReadyH.cons (o := ⟨some 137, _, _, _, _, _⟩) rfl (fun K hK => ?_) AllReadyH.nil
              go_simp
              (with_reducible refine Calls.mono (KH.out _ bv4 (HP.out _ bv4 Ln.out) Lk.out Lb.out) ?_); rintro e v5 ⟨rfl, hv5⟩; have E3v5 := E3v4.up hv5; have E4v5 := E4v4.up hv5; have E9v5 := E9v4.up hv5; have E11v5 := E11v4.up hv5; have E13v5 := E13v4.up hv5; have E15v5 := E15v4.up hv5; have E17v5 := E17v4.up hv5; have E19v5 := E19v4.up hv5; have Sv5 := Sv4.up hv5; have Uv5 := Uv4.up hv5; have Xv5 := Xv4.mono hv5; have Yv5 := Yv4.mono hv5; have bv5 := bt bv4 hv5
              go_wp2_with fail
              refine hK.out _ _ ?_ (fun hHeld => ?_)
              · exact ⟨E3v5, E4v5, E9v5, E11v5, E13v5, E15v5, E17v5, E19v5⟩
              clear hK K
              try simp only [Act.put, List.setIfInBounds_toArray, List.set_cons_zero, List.set_cons_succ]
              refine wpAnyH_ready (rs := [39]) (by kernel_rfl) (by simp) ?_
              refine AllReadyH.cons (o := ⟨some 141, _, _, _, _, _⟩) rfl (fun K hK => ?_) AllReadyH.nil
              go_simp
              (with_reducible refine Calls.mono (KG.out _ bv5 (HP.out _ bv5 Ln.out)) ?_); rintro e v6 ⟨rfl, hv6⟩; have E3v6 := E3v5.up hv6; have E4v6 := E4v5.up hv6; have E9v6 := E9v5.up hv6; have E11v6 := E11v5.up hv6; have E13v6 := E13v5.up hv6; have E15v6 := E15v5.up hv6; have E17v6 := E17v5.up hv6; have E19v6 := E19v5.up hv6; have Sv6 := Sv5.up hv6; have Uv6 := Uv5.up hv6; have Xv6 := Xv5.mono hv6; have Yv6 := Yv5.mono hv6; have bv6 := bt bv5 hv6
              go_wp2_with fail
              refine hK.out _ _ ?_ (fun hHeld => ?_)
              · exact ⟨E3v6, E4v6, E9v6, E11v6, E13v6, E15v6, E17v6, E19v6⟩
              clear hK K
              try simp only [Act.put, List.setIfInBounds_toArray, List.set_cons_zero, List.set_cons_succ]
              refine wpAnyH_take (i := 40) (oi := ⟨some 142, _, _, _, _, _⟩) (v := ?_) rfl (by kernel_rfl) (by kernel_rfl) (by kernel_rfl) (fun _ _ _ h => h) (Or.inl ⟨by first | rfl | simp [Region.wanted, yielded], ?_⟩) hHeld ?_
              rotate_left
              · intro w hSw; go_simp; try with_reducible rfl
              try simp only [Act.put, List.setIfInBounds_toArray, List.set_cons_zero, List.set_cons_succ]
              refine wpAnyH_take (i := 41) (oi := ⟨some 143, _, _, _, _, _⟩) (v := ?_) rfl (by kernel_rfl) (by kernel_rfl) (by kernel_rfl) (fun _ _ _ h => h) (Or.inl ⟨by first | rfl | simp [Region.wanted, yielded], ?_⟩) hHeld ?_
              rotate_left
              · intro w hSw; go_simp; try with_reducible rfl
              try simp only [Act.put, List.setIfInBounds_toArray, List.set_cons_zero, List.set_cons_succ]
              refine wpAnyH_take (i := 42) (oi := ⟨some 144, _, _, _, _, _⟩) (v := ?_) rfl (by kernel_rfl) (by kernel_rfl) (by kernel_rfl) (fun _ _ _ h => h) (Or.inl ⟨by first | rfl | simp [Region.wanted, yielded], ?_⟩) hHeld ?_
              rotate_left
              · intro w hSw; go_simp; try with_reducible rfl
              try simp only [Act.put, List.setIfInBounds_toArray, List.set_cons_zero, List.set_cons_succ]
              refine wpAnyH_take (i := 43) (oi := ⟨some 145, _, _, _, _, _⟩) (v := .agg ((prL i a n c f)).toArray) rfl (by kernel_rfl) (by kernel_rfl) (by kernel_rfl) (fun _ _ _ h => h) (yieldsIf_blkP (by first | rfl | simp [Region.wanted, yielded]) 24 (.tmp 3) rfl b3 rfl (fun w hw => hw.1) Tryd.underlying24 rfl HI.out) hHeld ?_
              try simp only [Act.put, List.setIfInBounds_toArray, List.set_cons_zero, List.set_cons_succ]
              refine wpAnyH_take (i := 44) (oi := ⟨some 146, _, _, _, _, _⟩) (v := .agg ((prL i2 oa on oc f2)).toArray) rfl (by kernel_rfl) (by kernel_rfl) (by kernel_rfl) (fun _ _ _ h => h) (yieldsIf_blkP (by first | rfl | simp [Region.wanted, yielded]) 24 (.tmp 4) rfl b4 rfl (fun w hw => hw.2.1) Tryd.underlying24 rfl HI.out) hHeld ?_
              try simp only [Act.put, List.setIfInBounds_toArray, List.set_cons_zero, List.set_cons_succ]
              refine wpAnyH_take (i := 46) (oi := ⟨some 148, _, _, _, _, _⟩) (v := .agg ((prL i a n c f)).toArray) rfl (by kernel_rfl) (by kernel_rfl) (by kernel_rfl) (fun _ _ _ h => h) (yieldsIf_blkP (by first | rfl | simp [Region.wanted, yielded]) 24 (.tmp 3) rfl b3 rfl (fun w hw => hw.1) Tryd.underlying24 rfl HI.out) hHeld ?_
              try simp only [Act.put, List.setIfInBounds_toArray, List.set_cons_zero, List.set_cons_succ]
              refine wpAnyH_take (i := 47) (oi := ⟨some 149, _, _, _, _, _⟩) (v := .agg ((prL i2 oa on oc f2)).toArray) rfl (by kernel_rfl) (by kernel_rfl) (by kernel_rfl) (fun _ _ _ h => h) (yieldsIf_blkP (by first | rfl | simp [Region.wanted, yielded]) 24 (.tmp 4) rfl b4 rfl (fun w hw => hw.2.1) Tryd.underlying24 rfl HI.out) hHeld ?_
              try simp only [Act.put, List.setIfInBounds_toArray, List.set_cons_zero, List.set_cons_succ]
              refine wpAnyH_ready (rs := [45]) (by kernel_rfl) (by simp) ?_
              refine AllReadyH.cons (o := ⟨some 147, _, _, _, _, _⟩) rfl (fun K hK => ?_) AllReadyH.nil
              go_simp
              (with_reducible refine Calls.mono (KP.out _ (HP.out _ bv6 Ln.out) (HO.out _ bv6 Lo.out)) ?_); rintro e v7 ⟨rfl, hv7⟩; have E3v7 := E3v6.up hv7; have E4v7 := E4v6.up hv7; have E9v7 := E9v6.up hv7; have E11v7 := E11v6.up hv7; have E13v7 := E13v6.up hv7; have E15v7 := E15v6.up hv7; have E17v7 := E17v6.up hv7; have E19v7 := E19v6.up hv7; have Sv7 := Sv6.up hv7; have Uv7 := Uv6.up hv7; have Xv7 := Xv6.mono hv7; have Yv7 := Yv6.mono hv7; have bv7 := bt bv6 hv7
              go_wp2_with fail
              refine hK.out _ _ ?_ (fun hHeld => ?_)
              · exact ⟨E3v7, E4v7, E9v7, E11v7, E13v7, E15v7, E17v7, E19v7⟩
              clear hK K
              try simp only [Act.put, List.setIfInBounds_toArray, List.set_cons_zero, List.set_cons_succ]
              refine wpAnyH_ready (rs := [48]) (by kernel_rfl) (by simp) ?_
              refine AllReadyH.cons (o := ⟨some 150, _, _, _, _, _⟩) rfl (fun K hK => ?_) AllReadyH.nil
              go_simp
              (with_reducible refine Calls.mono (KQ.out _ (HP.out _ bv7 Ln.out) (HO.out _ bv7 Lo.out)) ?_); rintro e v8 ⟨rfl, hv8⟩; have E3v8 := E3v7.up hv8; have E4v8 := E4v7.up hv8; have E9v8 := E9v7.up hv8; have E11v8 := E11v7.up hv8; have E13v8 := E13v7.up hv8; have E15v8 := E15v7.up hv8; have E17v8 := E17v7.up hv8; have E19v8 := E19v7.up hv8; have Sv8 := Sv7.up hv8; have Uv8 := Uv7.up hv8; have Xv8 := Xv7.mono hv8; have Yv8 := Yv7.mono hv8; have bv8 := bt bv7 hv8
              go_wp2_with fail
              refine hK.out _ _ ?_ (fun hHeld => ?_)
              · exact ⟨E3v8, E4v8, E9v8, E11v8, E13v8, E15v8, E17v8, E19v8⟩
              clear hK K
              try simp only [Act.put, List.setIfInBounds_toArray, List.set_cons_zero, List.set_cons_succ]
              refine wpAnyH_take (i := 49) (oi := ⟨some 151, _, _, _, _, _⟩) (v := ?_) rfl (by kernel_rfl) (by kernel_rfl) (by kernel_rfl) (fun _ _ _ h => h) (Or.inl ⟨by first | rfl | simp [Region.wanted, yielded], ?_⟩) hHeld ?_
              rotate_left
              · intro w hSw; go_simp; try with_reducible rfl
              try simp only [Act.put, List.setIfInBounds_toArray, List.set_cons_zero, List.set_cons_succ]
              refine wpAnyH_take (i := 50) (oi := ⟨some 152, _, _, _, _, _⟩) (v := ?_) rfl (by kernel_rfl) (by kernel_rfl) (by kernel_rfl) (fun _ _ _ h => h) (Or.inl ⟨by first | rfl | simp [Region.wanted, yielded], ?_⟩) hHeld ?_
              rotate_left
              · intro w hSw; go_simp; try with_reducible rfl
              try simp only [Act.put, List.setIfInBounds_toArray, List.set_cons_zero, List.set_cons_succ]
              refine wpAnyH_take (i := 51) (oi := ⟨some 153, _, _, _, _, _⟩) (v := ?_) rfl (by kernel_rfl) (by kernel_rfl) (by kernel_rfl) (fun _ _ _ h => h) (Or.inl ⟨by first | rfl | simp [Region.wanted, yielded], ?_⟩) hHeld ?_
              rotate_left
              · intro w hSw; go_simp; try with_reducible rfl
              try simp only [Act.put, List.setIfInBounds_toArray, List.set_cons_zero, List.set_cons_succ]
              refine wpAnyH_take (i := 52) (oi := ⟨some 154, _, _, _, _, _⟩) (v := ?_) rfl (by kernel_rfl) (by kernel_rfl) (by kernel_rfl) (fun _ _ _ h => h) (Or.inl ⟨by first | rfl | simp [Region.wanted, yielded], ?_⟩) hHeld ?_
              rotate_left
              · intro w hSw; go_simp; try with_reducible rfl
              try simp only [Act.put, List.setIfInBounds_toArray, List.set_cons_zero, List.set_cons_succ]
              refine wpAnyH_take (i := 53) (oi := ⟨some 155, _, _, _, _, _⟩) (v := ?_) rfl (by kernel_rfl) (by kernel_rfl) (by kernel_rfl) (fun _ _ _ h => h) (Or.inl ⟨by first | rfl | simp [Region.wanted, yielded], ?_⟩) hHeld ?_
              rotate_left
              · intro w hw; have hq := (cells3P ((hw.1).blk)).1; clear hw; go_simp; try with_reducible rfl
              try simp only [Act.put, List.setIfInBounds_toArray, List.set_cons_zero, List.set_cons_succ]
              refine wpAnyH_take (i := 55) (oi := ⟨some 157, _, _, _, _, _⟩) (v := ?_) rfl (by kernel_rfl) (by kernel_rfl) (by kernel_rfl) (fun _ _ _ h => h) (Or.inl ⟨by first | rfl | simp [Region.wanted, yielded], ?_⟩) hHeld ?_
              rotate_left
              · intro w hSw; go_simp; try with_reducible rfl
              try simp only [Act.put, List.setIfInBounds_toArray, List.set_cons_zero, List.set_cons_succ]
              refine wpAnyH_take (i := 56) (oi := ⟨some 158, _, _, _, _, _⟩) (v := ?_) rfl (by kernel_rfl) (by kernel_rfl) (by kernel_rfl) (fun _ _ _ h => h) (Or.inl ⟨by first | rfl | simp [Region.wanted, yielded], ?_⟩) hHeld ?_
              rotate_left
              · intro w hw; have hq := (cells3P ((hw.1).blk)).1; clear hw; go_simp; try with_reducible rfl
              try simp only [Act.put, List.setIfInBounds_toArray, List.set_cons_zero, List.set_cons_succ]
              refine wpAnyH_ready (rs := [54]) (by kernel_rfl) (by simp) ?_
              refine AllReadyH.cons (o := ⟨some 156, _, _, _, _, _⟩) rfl (fun K hK => ?_) AllReadyH.nil
              go_simp
              (with_reducible refine Calls.mono (KN.out _) ?_); rintro e v9 ⟨rfl, hv9⟩; have E3v9 := E3v8.up hv9; have E4v9 := E4v8.up hv9; have E9v9 := E9v8.up hv9; have E11v9 := E11v8.up hv9; have E13v9 := E13v8.up hv9; have E15v9 := E15v8.up hv9; have E17v9 := E17v8.up hv9; have E19v9 := E19v8.up hv9; have Sv9 := Sv8.up hv9; have Uv9 := Uv8.up hv9; have Xv9 := Xv8.mono hv9; have Yv9 := Yv8.mono hv9; have bv9 := bt bv8 hv9
              go_wp2_with fail
              refine hK.out _ _ ?_ (fun hHeld => ?_)
              · exact ⟨E3v9, E4v9, E9v9, E11v9, E13v9, E15v9, E17v9, E19v9⟩
              clear hK K
              try simp only [Act.put, List.setIfInBounds_toArray, List.set_cons_zero, List.set_cons_succ]
              refine wpAnyH_ready (rs := [57]) (by kernel_rfl) (by simp) ?_
              refine AllReadyH.cons (o := ⟨some 159, _, _, _, _, _⟩) rfl (fun K hK => ?_) AllReadyH.nil
              go_simp
              (with_reducible refine Calls.mono (KM.out _) ?_); rintro e v10 ⟨rfl, hv10⟩; have E3v10 := E3v9.up hv10; have E4v10 := E4v9.up hv10; have E9v10 := E9v9.up hv10; have E11v10 := E11v9.up hv10; have E13v10 := E13v9.up hv10; have E15v10 := E15v9.up hv10; have E17v10 := E17v9.up hv10; have E19v10 := E19v9.up hv10; have Sv10 := Sv9.up hv10; have Uv10 := Uv9.up hv10; have Xv10 := Xv9.mono hv10; have Yv10 := Yv9.mono hv10; have bv10 := bt bv9 hv10
              go_wp2_with fail
              refine hK.out _ _ ?_ (fun hHeld => ?_)
              · exact ⟨E3v10, E4v10, E9v10, E11v10, E13v10, E15v10, E17v10, E19v10⟩
              clear hK K
              try simp only [Act.put, List.setIfInBounds_toArray, List.set_cons_zero, List.set_cons_succ]
              refine wpAnyH_ready (rs := [58]) (by kernel_rfl) (by simp) ?_
              refine AllReadyH.cons (o := ⟨some 160, _, _, _, _, _⟩) rfl (fun K hK => ?_) AllReadyH.nil
              go_simp
              (with_reducible refine Calls.mono (KZ.out _) ?_); rintro e v11 ⟨rfl, hv11⟩; have E3v11 := E3v10.up hv11; have E4v11 := E4v10.up hv11; have E9v11 := E9v10.up hv11; have E11v11 := E11v10.up hv11; have E13v11 := E13v10.up hv11; have E15v11 := E15v10.up hv11; have E17v11 := E17v10.up hv11; have E19v11 := E19v10.up hv11; have Sv11 := Sv10.up hv11; have Uv11 := Uv10.up hv11; have Xv11 := Xv10.mono hv11; have Yv11 := Yv10.mono hv11; have bv11 := bt bv10 hv11
              go_wp2_with fail
              refine hK.out _ _ ?_ (fun hHeld => ?_)
              · exact ⟨E3v11, E4v11, E9v11, E11v11, E13v11, E15v11, E17v11, E19v11⟩
              clear hK K
              try simp only [Act.put, List.setIfInBounds_toArray, List.set_cons_zero, List.set_cons_succ]
              refine wpAnyH_take (i := 59) (oi := ⟨some 161, _, _, _, _, _⟩) (v := ?_) rfl (by kernel_rfl) (by kernel_rfl) (by kernel_rfl) (fun _ _ _ h => h) (Or.inl ⟨by first | rfl | simp [Region.wanted, yielded], ?_⟩) hHeld ?_
              rotate_left
              · intro w hSw; go_simp; try with_reducible rfl
              try simp only [Act.put, List.setIfInBounds_toArray, List.set_cons_zero, List.set_cons_succ]
              refine wpAnyH_take (i := 60) (oi := ⟨some 2, _, _, _, _, _⟩) (v := ?_) rfl (by kernel_rfl) (by kernel_rfl) (by kernel_rfl) (fun _ _ _ h => h) (Or.inl ⟨by first | rfl | simp [Region.wanted, yielded], ?_⟩) hHeld ?_
              rotate_left
              · intro w hSw; go_simp; try with_reducible rfl
              try simp only [Act.put, List.setIfInBounds_toArray, List.set_cons_zero, List.set_cons_succ]
              refine wpAnyH_done (by kernel_rfl) ?_ _
              go_wp2_with fail
              go_ret
              exact ⟨by simp, bv11⟩
theorem provTells_in (hsh : Shown04OK) (w : World) (hk : KeysAt w) (i : Bool) (a : Option Addr) (n c : Nat) (es : List Ent) (f : Bool) (i2 : Bool) (oa : Option Addr) (on oc : Nat) (es2 : List Ent) (f2 : Bool) (a1 : Option Addr) (n1 c1 : Nat) (l1 : List UInt8) (a2 : Option Addr) (n2 c2 : Nat) (l2 : List UInt8) (a3 : Option Addr) (n3 c3 : Nat) (l3 : List UInt8)
    (h : n = es.length ∧ n ≤ c ∧ c ≤ maxLen ∧ EntsAt w a es) (h0 : on = es2.length ∧ on ≤ oc ∧ oc ≤ maxLen ∧ EntsAt w oa es2) (h1 : InBytes w a1 n1 c1 l1) (h2 : InBytes w a2 n2 c2 l2) (h3 : InBytes w a3 n3 c3 l3) :
    Calls Tryd.prog 3 #[.agg #[.bool i, .slice a n c, .bool f, .bool i2, .slice oa on oc, .bool f2, .slice a1 n1 c1, .slice a2 n2 c2, .slice a3 n3 c3]] w (BoolOut w true) := by
  obtain ⟨rfl, p1, p2, p3⟩ := h
  obtain ⟨rfl, o1, o2, o3⟩ := h0
  obtain ⟨rfl, q1, q2, q3⟩ := h1
  obtain ⟨rfl, r1, r2, r3⟩ := h2
  obtain ⟨rfl, s1, s2, s3⟩ := h3
  exact provTells_any i f a c es i2 f2 oa oc es2 a1 c1 l1 a2 c2 l2 a3 c3 l3 w p3 p1 p2 o3 o1 o2 q3 r3 s3 ⟨q1, q2⟩ ⟨r1, r2⟩ hk
end Go.Proofs.YthmcmkdncaccbaaDoor
