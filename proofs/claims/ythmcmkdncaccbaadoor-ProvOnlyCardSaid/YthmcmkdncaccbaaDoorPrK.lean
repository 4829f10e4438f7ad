/- The walk of the law ProvOnce. -/
import Derived.Test.YthmcmkdncaccbaaDoorPrJ
import Derived.Test.YthmcmkdncaccbaaDoorInB
set_option linter.unusedSimpArgs false
set_option linter.unusedVariables false
namespace Go.Proofs.YthmcmkdncaccbaaDoor
open Go.RowKit

theorem yieldsIf_blkP {P : Program} {ops : Array Oper} {S : World → Prop} {op : Oper} {a : Act} (hw : Region.wanted op (yielded ops a.tmps) = true) (ty : TypeId) (x : Operand) (ho : op.op = .load ty x)
    (g : Nat) {cs : List Value} (hx : a.eval x = .pointer (some ⟨g, 0, none⟩)) {T : TypeId} (hS : ∀ w, S w → BlkT T w g cs) {d : TypeDesc}
    (hu : P.underlying ty = some d) (hd : (match d with | .struct _ | .array _ _ => true | _ => false) = true) (hi : (P.info? ty).map (·.size) = some cs.length) : YieldsIf P ops S op (.agg cs.toArray) a :=
  .inl ⟨hw, fun w hw' => by
    unfold execOp
    simp only [ho, hx, Instr.loadAt, Instr.sureAddr, Sem.run_bind, Sem.run_pure, Result.andThen_ok, run_loadVar_row w g T ty cs.toArray (0, 0) d (hS w hw') hu hd (by simpa using hi)]⟩

theorem tagEs_has (es : List Ent) (k b : List UInt8) : hadF (tagEs es k b) k b = true := by
  unfold tagEs
  rcases h : hadF es k b with _ | _
  · simp [hadF, isF]
  · exact h
theorem tagEs_again (es : List Ent) (k b : List UInt8) : tagEs (tagEs es k b) k b = tagEs es k b := by
  have h := tagEs_has es k b
  generalize tagEs es k b = q at h ⊢
  unfold tagEs; rw [h]; rfl
theorem tagEs_len (es : List Ent) (k b : List UInt8) : (tagEs es k b).length = bif hadF es k b then es.length else es.length + 1 := by
  unfold tagEs
  rcases h : hadF es k b with _ | _
  · simp
  · rfl
theorem refSame_st {w : World} {i f i2 f2 z : Bool} {a b : Option Addr} {n c m d : Nat} {es es2 : List Ent} (h : PrF w a n c es) (h2 : PrF w b m d es2) (h1 : sameP i f es i2 f2 es2 = z) :
    Calls Tryd.prog 15 #[.agg #[.bool i, .slice a n c, .bool f], .agg #[.bool i2, .slice b m d, .bool f2]] w (BoolOut w z) := by
  obtain ⟨e1, rfl, e3, e4, e5⟩ := h
  obtain ⟨d1, rfl, d3, d4, d5⟩ := h2
  subst h1
  exact refSameP_any i f i2 f2 a b c d es es2 w (by omega) (by omega) e1 d1
theorem had_st {w : World} {i f z : Bool} {a ka b_ : Option Addr} {n c kc bc : Nat} {es : List Ent} {k b : List UInt8} (h : PrF w a n c es) (hk : k.length ≤ maxLen) (hb : b.length ≤ maxLen) (hka : BytesAt w ka k) (hba : BytesAt w b_ b) (h1 : hadF es k b = z) :
    Calls Tryd.prog 17 #[.agg #[.bool i, .slice a n c, .bool f], .slice ka k.length kc, .slice b_ b.length bc] w (BoolOut w z) := by
  obtain ⟨e1, rfl, e3, e4, e5⟩ := h
  subst h1
  exact had_any i f a ka b_ c kc bc es k b w (by omega) e1 hk hb hka hba
theorem sameP_self (i f : Bool) (es : List Ent) : sameP i f es i f es = true := by unfold sameP; simp
theorem chkY_right (i : Bool) (es : List Ent) (k b : List UInt8) (h : hadF es k b = true) : chkY i es k b (rightT k b) = true := by unfold chkY; rw [beq_self_eq_true, h]; rfl

set_option maxRecDepth 100000 in
set_option maxHeartbeats 8000000 in
theorem provOnce_any (i f : Bool) (a : Option Addr) (c : Nat) (es : List Ent) (ka : Option Addr) (kc : Nat) (k : List UInt8) (b_ : Option Addr) (bc : Nat) (b : List UInt8) (ta : Option Addr) (tc : Nat) (t : List UInt8) (w : World)
    (hE : EntsAt w a es) (hc : es.length ≤ c) (hcm : c ≤ maxLen) (hka : BytesAt w ka k) (hba : BytesAt w b_ b) (hta : BytesAt w ta t) (hk : KeysAt w) :
    Calls Tryd.prog 6 #[.agg #[.bool i, .slice a es.length c, .bool f, .slice ka k.length kc, .slice b_ b.length bc, .slice ta t.length tc]] w (BoolOut w true) := by
  have HI := Lib.hid prov_size
  have HM := Lib.hid (show 100 ≤ maxLen by decide)
  have Hsh := Lib.hid (fun W (h : Below w.heap.size w W) => shown04 W (hk.mono h))
  have F1 := Lib.hid (fun W (h : Below w.heap.size w W) => few_any i f a c 20 es W (Nat.le_trans hc hcm) (by decide) (hE.mono h))
  have HP := Lib.hid (fun W (h : Below w.heap.size w W) (hn : es.length ≤ 20) => (show PrF W a es.length c es from ⟨hE.mono h, rfl, hc, hcm, by omega⟩))
  have K1 := Lib.hid (fun W (h : Below w.heap.size w W) (h0 : PrF W a es.length c es) (hkl : k.length ≤ 60) (hbl : b.length ≤ 60) (h3 : (tagEs es k b).length ≤ 900) => tag_st (i := i) (f := f) (kc := kc) (bc := bc) h0 (hk.mono h) (hka.mono h) (hba.mono h) hkl (by omega) rfl rfl h3 rfl)
  have K2 := Lib.hid (fun a1 c1 W (h : Below w.heap.size w W) (h0 : PrF W a1 (tagEs es k b).length c1 (tagEs es k b)) (hkl : k.length ≤ 60) (hbl : b.length ≤ 60) (h3 : (tagEs es k b).length ≤ 900) => tag_st (i := i) (f := f) (kc := kc) (bc := bc) h0 (hk.mono h) (hka.mono h) (hba.mono h) hkl (by omega) (tagEs_again es k b) rfl h3 rfl)
  have K3 := Lib.hid (fun a1 c1 W (h : Below w.heap.size w W) (h0 : PrF W a1 (tagEs es k b).length c1 (tagEs es k b)) (hkl : k.length ≤ 60) (hbl : b.length ≤ 60) (htl : t.length ≤ 60) => check_st (i := i) (f := f) (kc := bc) (bc := kc) (tc := tc) h0 (hk.mono h) (hba.mono h) (hka.mono h) (hta.mono h) hbl (by omega) htl rfl rfl)
  have K4 := Lib.hid (fun f a1 c1 t1 d1 W (h : Below w.heap.size w W) (h0 : PrF W a1 (tagEs es k b).length c1 (tagEs es k b)) (ht : BytesAt W t1 (rightT k b)) (hkl : k.length ≤ 60) (hbl : b.length ≤ 60) => (show Calls Tryd.prog 13 #[.agg #[.bool i, .slice a1 (tagEs es k b).length c1, .bool f], .slice ka k.length kc, .slice b_ b.length bc, .slice t1 16 d1] W fun e w' => e = .returned (.tuple #[.agg #[.bool i, .slice a1 (tagEs es k b).length c1, .bool (chkF f (tagEs es k b) k b (rightT k b))], .bool true]) ∧ Below W.heap.size W w' from by
    have h5 := check_st (i := i) (f := f) (kc := kc) (bc := bc) (tc := d1) h0 (hk.mono h) (hka.mono h) (hba.mono h) ht hkl (by omega) (by rw [rightT_len]; omega) rfl (chkY_right i _ k b (tagEs_has es k b))
    rwa [rightT_len] at h5))
  have KS := Lib.hid (fun a1 c1 a2 c2 W (h : PrF W a1 (tagEs es k b).length c1 (tagEs es k b)) (h2 : PrF W a2 (tagEs es k b).length c2 (tagEs es k b)) => refSame_st (i := i) (f := f) (i2 := i) (f2 := f) h h2 (sameP_self i f _))
  have KX := Lib.hid (fun (t1 t2 : Option Addr) (d1 d2 : Nat) W (h : BytesAt W t1 (rightT k b)) (h2 : BytesAt W t2 (rightT k b)) => (show Calls Tryd.prog 16 #[.slice t1 16 d1, .slice t2 16 d2] W (BoolOut W true) from
    (same01_any t1 t2 16 d1 16 d2 (rightT k b) (rightT k b) W (rightT_len k b).symm (rightT_len k b).symm h h2).mono fun e w' ⟨p, q⟩ => ⟨by rw [p, beq_self_eq_true], q ▸ Below.refl _ _⟩))
  have KH := Lib.hid (fun a1 c1 W (h : Below w.heap.size w W) (h0 : PrF W a1 (tagEs es k b).length c1 (tagEs es k b)) (hkl : k.length ≤ 60) (hbl : b.length ≤ 60) => had_st (i := i) (f := f) (kc := kc) (bc := bc) h0 (by have := HM.out; omega) (by have := HM.out; omega) (hka.mono h) (hba.mono h) (tagEs_has es k b))
  have KO := Lib.hid (fun W (h : Below w.heap.size w W) (h0 : PrF W a es.length c es) (hkl : k.length ≤ 60) (hbl : b.length ≤ 60) => had_st (i := i) (f := f) (kc := kc) (bc := bc) h0 (by have := HM.out; omega) (by have := HM.out; omega) (hka.mono h) (hba.mono h) rfl)
  have HN := Lib.hid (tagEs_len es k b)
  have HF := Lib.hid (show decide (FewE es 20) = true → es.length ≤ 20 from fun h => (of_decide_eq_true h).1)
  generalize decide (FewE es 20) = fw at F1 HF
  generalize tagEs es k b = es1 at *
  generalize rightT k b = TT at *
  generalize hadF es k b = hd at *
  generalize chkF f es1 b k t = f3 at *
  generalize chkY i es1 b k t = y3 at *
  clear hE hc hcm hka hba hta hk
  generalize es1.length = n1 at *
  generalize es.length = n at *
  generalize k.length = kl at *
  generalize b.length = bl at *
  generalize t.length = tl at *
  go_enter Tryd.func6, Tryd.ntmps6
  go_upto_region 5 with (fail)
  generalize hW : World.alloc (World.alloc w _) _ = W
  have B3 := Lib.hid (show BlkT 24 W (w.heap.size + 1) (prL i a n c f) by
    rw [← hW, ← size_alloc w (.cells #[.bool i, .slice a n c, .bool f, .slice ka kl kc, .slice b_ bl bc, .slice ta tl tc] 49)]
    exact BlkT.new _ (prL i a n c f) 24)
  have G := Lib.hid (show Below w.heap.size w W by rw [← hW]; exact bta (ba w _) _)
  clear hW
  generalize w.heap.size + 1 = b3 at B3 ⊢
  go_wp2_with fail
  refine (Hsh.out _ G.out).mono ?_; rintro e y1 ⟨rfl, hb⟩
  replace B3 := Lib.hid (B3.out.up hb)
  replace G := Lib.hid (bt G.out hb)
  clear hb
  go_wp2_with (first
        | (refine wpList_load_blk 24 (.tmp 3) b3 (cs := (prL i a n c f)) rfl rfl rfl B3.out.blk Tryd.underlying24 rfl HI.out ?_)
        | (refine wpList_load_blkP 24 (.tmp 3) b3 (cs := (prL i a n c f)) (by first | rfl | simp [Region.wanted, yielded]) rfl rfl B3.out.blk Tryd.underlying24 rfl HI.out ?_))
  refine (F1.out _ G.out).mono ?_; rintro e y2 ⟨rfl, hb⟩
  replace B3 := Lib.hid (B3.out.up hb)
  replace G := Lib.hid (bt G.out hb)
  clear hb
  rcases fw with _ | _
  · go_wp2_with fail
    go_ret
    exact ⟨rfl, G.out⟩
  by_cases hkl : (60 : Int) < (kl : Int)
  · go_wp2_with fail
    go_ret
    exact ⟨rfl, G.out⟩
  by_cases hbl : (60 : Int) < (bl : Int)
  · go_wp2_with fail
    go_ret
    exact ⟨rfl, G.out⟩
  by_cases htl : (60 : Int) < (tl : Int)
  · go_wp2_with fail
    go_ret
    exact ⟨rfl, G.out⟩
  have Lk := Lib.hid (show kl ≤ 60 by omega)
  have Lb := Lib.hid (show bl ≤ 60 by omega)
  have Lt := Lib.hid (show tl ≤ 60 by omega)
  have Ln := Lib.hid (HF.out rfl)
  have L1 := Lib.hid (show n1 ≤ 900 by have h1 := HN.out; have h2 := Ln.out; rcases hd with _ | _ <;> simp at h1 <;> omega)
  go_upto_region 8 with (fail)
  clear hkl hbl htl
  go_cut [9, 8] (fun v9 v8 wx => ∃ a1 : Option Addr, ∃ c1 : Nat, ∃ t1 : Option Addr, ∃ d1 : Nat, ∃ b8 : Nat, v9 = .slice t1 16 d1 ∧ v8 = .pointer (some ⟨b8, 0, none⟩) ∧ BlkT 24 wx b8 (prL i a1 n1 c1 f) ∧ BlkT 24 wx b3 (prL i a n c f) ∧ Below w.heap.size w wx ∧ PrF wx a1 n1 c1 es1 ∧ BytesAt wx t1 TT)
  case first =>
    go_wp2_with (first
          | (refine wpList_load_blk 24 (.tmp 3) b3 (cs := (prL i a n c f)) rfl rfl rfl B3.out.blk Tryd.underlying24 rfl HI.out ?_)
          | (refine wpList_load_blkP 24 (.tmp 3) b3 (cs := (prL i a n c f)) (by first | rfl | simp [Region.wanted, yielded]) rfl rfl B3.out.blk Tryd.underlying24 rfl HI.out ?_))
    refine (K1.out _ G.out (HP.out _ G.out Ln.out) Lk.out Lb.out L1.out).mono ?_; rintro e wn ⟨a1, c1, t1, d1, rfl, hS1, -, hT1, hb⟩
    go_wp2_with (refine wpList_store_blk 24 (.tmp 8) (.tmp 49) _ (old := zeroP) (cs := (prL i a1 n1 c1 f)) rfl rfl rfl rfl (Blk.new _ _ _) HI.out rfl rfl ?_)
    go_meet
    exact ⟨a1, c1, t1, d1, _, rfl, rfl, layP_blk _ _ _ _, (B3.out.up (bt hb (layP_below _ _ _ _))), (bt G.out (bt hb (layP_below _ _ _ _))), (hS1).up (layP_below _ _ _ _), (hT1).mono (layP_below _ _ _ _)⟩
  case rest =>
    obtain ⟨a1, c1, t1, d1, b8, rfl, rfl, hB8, hB3, hG, hS1, hT1⟩ := hcut
    have B8 := Lib.hid hB8
    replace B3 := Lib.hid hB3
    replace G := Lib.hid hG
    have S1 := Lib.hid hS1
    have T1 := Lib.hid hT1
    clear hB8 hB3 hG hS1 hT1
    go_upto_region 9 with (fail)
    go_cut [11, 10] (fun v11 v10 wx => ∃ a2 : Option Addr, ∃ c2 : Nat, ∃ t2 : Option Addr, ∃ d2 : Nat, ∃ b10 : Nat, v11 = .slice t2 16 d2 ∧ v10 = .pointer (some ⟨b10, 0, none⟩) ∧ BlkT 24 wx b10 (prL i a2 n1 c2 f) ∧ BlkT 24 wx b3 (prL i a n c f) ∧ BlkT 24 wx b8 (prL i a1 n1 c1 f) ∧ Below w.heap.size w wx ∧ PrF wx a1 n1 c1 es1 ∧ BytesAt wx t1 TT ∧ PrF wx a2 n1 c2 es1 ∧ BytesAt wx t2 TT)
    case first =>
      go_wp2_with (first
              | (refine wpList_load_blk 24 (.tmp 8) b8 (cs := (prL i a1 n1 c1 f)) rfl rfl rfl B8.out.blk Tryd.underlying24 rfl HI.out ?_)
              | (refine wpList_load_blkP 24 (.tmp 8) b8 (cs := (prL i a1 n1 c1 f)) (by first | rfl | simp [Region.wanted, yielded]) rfl rfl B8.out.blk Tryd.underlying24 rfl HI.out ?_))
      refine (K2.out a1 c1 _ G.out S1.out Lk.out Lb.out L1.out).mono ?_; rintro e wn ⟨a2, c2, t2, d2, rfl, hS2, -, hT2, hb⟩
      go_wp2_with (refine wpList_store_blk 24 (.tmp 10) (.tmp 56) _ (old := zeroP) (cs := (prL i a2 n1 c2 f)) rfl rfl rfl rfl (Blk.new _ _ _) HI.out rfl rfl ?_)
      go_meet
      exact ⟨a2, c2, t2, d2, _, rfl, rfl, layP_blk _ _ _ _, (B3.out.up (bt hb (layP_below _ _ _ _))), (B8.out.up (bt hb (layP_below _ _ _ _))), (bt G.out (bt hb (layP_below _ _ _ _))), (S1.out.up (bt hb (layP_below _ _ _ _))), (T1.out.mono (bt hb (layP_below _ _ _ _))), (hS2).up (layP_below _ _ _ _), (hT2).mono (layP_below _ _ _ _)⟩
    case rest =>
      obtain ⟨a2, c2, t2, d2, b10, rfl, rfl, hB10, hB3, hB8, hG, hS1, hT1, hS2, hT2⟩ := hcut
      have B10 := Lib.hid hB10
      replace B3 := Lib.hid hB3
      replace B8 := Lib.hid hB8
      replace G := Lib.hid hG
      replace S1 := Lib.hid hS1
      replace T1 := Lib.hid hT1
      have S2 := Lib.hid hS2
      have T2 := Lib.hid hT2
      clear hB10 hB3 hB8 hG hS1 hT1 hS2 hT2
      go_upto_region 10 with (fail)
      go_cut [13, 12] (fun v13 v12 wx => ∃ b12 : Nat, v13 = .bool y3 ∧ v12 = .pointer (some ⟨b12, 0, none⟩) ∧ BlkT 24 wx b12 (prL i a1 n1 c1 f3) ∧ BlkT 24 wx b3 (prL i a n c f) ∧ BlkT 24 wx b8 (prL i a1 n1 c1 f) ∧ BlkT 24 wx b10 (prL i a2 n1 c2 f) ∧ Below w.heap.size w wx ∧ PrF wx a1 n1 c1 es1 ∧ BytesAt wx t1 TT ∧ PrF wx a2 n1 c2 es1 ∧ BytesAt wx t2 TT)
      case first =>
        go_wp2_with (first
                  | (refine wpList_load_blk 24 (.tmp 8) b8 (cs := (prL i a1 n1 c1 f)) rfl rfl rfl B8.out.blk Tryd.underlying24 rfl HI.out ?_)
                  | (refine wpList_load_blkP 24 (.tmp 8) b8 (cs := (prL i a1 n1 c1 f)) (by first | rfl | simp [Region.wanted, yielded]) rfl rfl B8.out.blk Tryd.underlying24 rfl HI.out ?_))
        refine (K3.out a1 c1 _ G.out S1.out Lk.out Lb.out Lt.out).mono ?_; rintro e wn ⟨rfl, hb⟩
        go_wp2_with (refine wpList_store_blk 24 (.tmp 12) (.tmp 64) _ (old := zeroP) (cs := (prL i a1 n1 c1 f3)) rfl rfl rfl rfl (Blk.new _ _ _) HI.out rfl rfl ?_)
        go_meet
        exact ⟨_, rfl, rfl, layP_blk _ _ _ _, (B3.out.up (bt hb (layP_below _ _ _ _))), (B8.out.up (bt hb (layP_below _ _ _ _))), (B10.out.up (bt hb (layP_below _ _ _ _))), (bt G.out (bt hb (layP_below _ _ _ _))), (S1.out.up (bt hb (layP_below _ _ _ _))), (T1.out.mono (bt hb (layP_below _ _ _ _))), (S2.out.up (bt hb (layP_below _ _ _ _))), (T2.out.mono (bt hb (layP_below _ _ _ _)))⟩
      case rest =>
        obtain ⟨b12, rfl, rfl, hB12, hB3, hB8, hB10, hG, hS1, hT1, hS2, hT2⟩ := hcut
        have B12 := Lib.hid hB12
        replace B3 := Lib.hid hB3
        replace B8 := Lib.hid hB8
        replace B10 := Lib.hid hB10
        replace G := Lib.hid hG
        replace S1 := Lib.hid hS1
        replace T1 := Lib.hid hT1
        replace S2 := Lib.hid hS2
        replace T2 := Lib.hid hT2
        clear hB12 hB3 hB8 hB10 hG hS1 hT1 hS2 hT2
        go_upto_region 11 with (fail)
        go_cut [15, 14] (fun v15 v14 wx => ∃ b14 : Nat, v15 = .bool true ∧ v14 = .pointer (some ⟨b14, 0, none⟩) ∧ BlkT 24 wx b14 (prL i a1 n1 c1 (chkF f3 es1 k b TT)) ∧ BlkT 24 wx b3 (prL i a n c f) ∧ BlkT 24 wx b8 (prL i a1 n1 c1 f) ∧ BlkT 24 wx b10 (prL i a2 n1 c2 f) ∧ BlkT 24 wx b12 (prL i a1 n1 c1 f3) ∧ Below w.heap.size w wx ∧ PrF wx a1 n1 c1 es1 ∧ BytesAt wx t1 TT ∧ PrF wx a2 n1 c2 es1 ∧ BytesAt wx t2 TT)
        case first =>
          go_wp2_with (first
                      | (refine wpList_load_blk 24 (.tmp 12) b12 (cs := (prL i a1 n1 c1 f3)) rfl rfl rfl B12.out.blk Tryd.underlying24 rfl HI.out ?_)
                      | (refine wpList_load_blkP 24 (.tmp 12) b12 (cs := (prL i a1 n1 c1 f3)) (by first | rfl | simp [Region.wanted, yielded]) rfl rfl B12.out.blk Tryd.underlying24 rfl HI.out ?_))
          refine (K4.out f3 a1 c1 t1 d1 _ G.out S1.out T1.out Lk.out Lb.out).mono ?_; rintro e wn ⟨rfl, hb⟩
          go_wp2_with (refine wpList_store_blk 24 (.tmp 14) (.tmp 72) _ (old := zeroP) (cs := (prL i a1 n1 c1 (chkF f3 es1 k b TT))) rfl rfl rfl rfl (Blk.new _ _ _) HI.out rfl rfl ?_)
          go_meet
          exact ⟨_, rfl, rfl, layP_blk _ _ _ _, (B3.out.up (bt hb (layP_below _ _ _ _))), (B8.out.up (bt hb (layP_below _ _ _ _))), (B10.out.up (bt hb (layP_below _ _ _ _))), (B12.out.up (bt hb (layP_below _ _ _ _))), (bt G.out (bt hb (layP_below _ _ _ _))), (S1.out.up (bt hb (layP_below _ _ _ _))), (T1.out.mono (bt hb (layP_below _ _ _ _))), (S2.out.up (bt hb (layP_below _ _ _ _))), (T2.out.mono (bt hb (layP_below _ _ _ _)))⟩
        case rest =>
          obtain ⟨b14, rfl, rfl, hB14, hB3, hB8, hB10, hB12, hG, hS1, hT1, hS2, hT2⟩ := hcut
          have B14 := Lib.hid hB14
          replace B3 := Lib.hid hB3
          replace B8 := Lib.hid hB8
          replace B10 := Lib.hid hB10
          replace B12 := Lib.hid hB12
          replace G := Lib.hid hG
          replace S1 := Lib.hid hS1
          replace T1 := Lib.hid hT1
          replace S2 := Lib.hid hS2
          replace T2 := Lib.hid hT2
          clear hB14 hB3 hB8 hB10 hB12 hG hS1 hT1 hS2 hT2
          go_upto_region 12 with (fail)
          have hle : (n1 : Int) ≤ (n : Int) + 1 := by have h1 := HN.out; rcases hd with _ | _ <;> simp at h1 <;> omega
          have hwr : IntKind.i64.wrap ((n : Int) + 1) = (n : Int) + 1 := by have h2 := Ln.out; rw [IntKind.wrap_i64]; omega
          have heq : ((n1 : Int) == (n : Int)) = hd := by have h1 := HN.out; rcases hd with _ | _ <;> simp at h1 ⊢ <;> omega
          have Ev0 := B3.out.up (bd _)
          have Fv0 := B8.out.up (bd _)
          have Gv0 := B10.out.up (bd _)
          have Hv0 := B12.out.up (bd _)
          have bv0 := btd G.out
          have Sv0 := S1.out.up (bd _)
          have Uv0 := S2.out.up (bd _)
          have Xv0 := T1.out.mono (bd _)
          have Yv0 := T2.out.mono (bd _)
          refine wp_region_held_drew (S := fun w' => BlkT 24 w' b3 (prL i a n c f) ∧ BlkT 24 w' b8 (prL i a1 n1 c1 f) ∧ BlkT 24 w' b10 (prL i a2 n1 c2 f) ∧ BlkT 24 w' b12 (prL i a1 n1 c1 f3)) (by kernel_rfl) ?_ (fun hHeld => ?_)
          · exact ⟨B3.out.up (bd _), B8.out.up (bd _), B10.out.up (bd _), B12.out.up (bd _)⟩
          refine wpAnyH_take (i := 0) (oi := ⟨some 74, _, _, _, _, _⟩) (v := ?_) rfl (by kernel_rfl) (by kernel_rfl) (by kernel_rfl) (fun _ _ _ h => h) (Or.inl ⟨by first | rfl | simp [Region.wanted, yielded], ?_⟩) hHeld ?_
          rotate_left
          · intro w hSw; go_simp; try with_reducible rfl
          try simp only [Act.put, List.setIfInBounds_toArray, List.set_cons_zero, List.set_cons_succ]
          refine wpAnyH_take (i := 1) (oi := ⟨some 75, _, _, _, _, _⟩) (v := ?_) rfl (by kernel_rfl) (by kernel_rfl) (by kernel_rfl) (fun _ _ _ h => h) (Or.inl ⟨by first | rfl | simp [Region.wanted, yielded], ?_⟩) hHeld ?_
          rotate_left
          · intro w hSw; go_simp; try with_reducible rfl
          try simp only [Act.put, List.setIfInBounds_toArray, List.set_cons_zero, List.set_cons_succ]
          refine wpAnyH_take (i := 2) (oi := ⟨some 76, _, _, _, _, _⟩) (v := .agg ((prL i a1 n1 c1 f)).toArray) rfl (by kernel_rfl) (by kernel_rfl) (by kernel_rfl) (fun _ _ _ h => h) (yieldsIf_blkP (by first | rfl | simp [Region.wanted, yielded]) 24 (.tmp 8) rfl b8 rfl (fun w hw => hw.2.1) Tryd.underlying24 rfl HI.out) hHeld ?_
          try simp only [Act.put, List.setIfInBounds_toArray, List.set_cons_zero, List.set_cons_succ]
          refine wpAnyH_take (i := 3) (oi := ⟨some 77, _, _, _, _, _⟩) (v := .agg ((prL i a2 n1 c2 f)).toArray) rfl (by kernel_rfl) (by kernel_rfl) (by kernel_rfl) (fun _ _ _ h => h) (yieldsIf_blkP (by first | rfl | simp [Region.wanted, yielded]) 24 (.tmp 10) rfl b10 rfl (fun w hw => hw.2.2.1) Tryd.underlying24 rfl HI.out) hHeld ?_
          try simp only [Act.put, List.setIfInBounds_toArray, List.set_cons_zero, List.set_cons_succ]
          refine wpAnyH_ready (rs := [4]) (by kernel_rfl) (by simp) ?_
          refine AllReadyH.cons (o := ⟨some 78, _, _, _, _, _⟩) rfl (fun K hK => ?_) AllReadyH.nil
          go_simp
          (with_reducible refine Calls.mono (KS.out a1 c1 a2 c2 _ Sv0 Uv0) ?_); rintro e v1 ⟨rfl, hv1⟩; have Ev1 := Ev0.up hv1; have Fv1 := Fv0.up hv1; have Gv1 := Gv0.up hv1; have Hv1 := Hv0.up hv1; have Sv1 := Sv0.up hv1; have Uv1 := Uv0.up hv1; have Xv1 := Xv0.mono hv1; have Yv1 := Yv0.mono hv1; have bv1 := bt bv0 hv1
          go_wp2_with fail
          refine hK.out _ _ ?_ (fun hHeld => ?_)
          · exact ⟨Ev1, Fv1, Gv1, Hv1⟩
          clear hK K
          try simp only [Act.put, List.setIfInBounds_toArray, List.set_cons_zero, List.set_cons_succ]
          refine wpAnyH_take (i := 5) (oi := ⟨some 79, _, _, _, _, _⟩) (v := ?_) rfl (by kernel_rfl) (by kernel_rfl) (by kernel_rfl) (fun _ _ _ h => h) (Or.inl ⟨by first | rfl | simp [Region.wanted, yielded], ?_⟩) hHeld ?_
          rotate_left
          · intro w hSw; go_simp; try with_reducible rfl
          try simp only [Act.put, List.setIfInBounds_toArray, List.set_cons_zero, List.set_cons_succ]
          refine wpAnyH_take (i := 6) (oi := ⟨some 80, _, _, _, _, _⟩) (v := ?_) rfl (by kernel_rfl) (by kernel_rfl) (by kernel_rfl) (fun _ _ _ h => h) (Or.inl ⟨by first | rfl | simp [Region.wanted, yielded], ?_⟩) hHeld ?_
          rotate_left
          · intro w hSw; go_simp; try with_reducible rfl
          try simp only [Act.put, List.setIfInBounds_toArray, List.set_cons_zero, List.set_cons_succ]
          refine wpAnyH_take (i := 7) (oi := ⟨some 81, _, _, _, _, _⟩) (v := ?_) rfl (by kernel_rfl) (by kernel_rfl) (by kernel_rfl) (fun _ _ _ h => h) (Or.inl ⟨by first | rfl | simp [Region.wanted, yielded], ?_⟩) hHeld ?_
          rotate_left
          · intro w hSw; go_simp; try with_reducible rfl
          try simp only [Act.put, List.setIfInBounds_toArray, List.set_cons_zero, List.set_cons_succ]
          refine wpAnyH_take (i := 8) (oi := ⟨some 82, _, _, _, _, _⟩) (v := ?_) rfl (by kernel_rfl) (by kernel_rfl) (by kernel_rfl) (fun _ _ _ h => h) (Or.inl ⟨by first | rfl | simp [Region.wanted, yielded], ?_⟩) hHeld ?_
          rotate_left
          · intro w hSw; go_simp; try with_reducible rfl
          try simp only [Act.put, List.setIfInBounds_toArray, List.set_cons_zero, List.set_cons_succ]
          refine wpAnyH_ready (rs := [9]) (by kernel_rfl) (by simp) ?_
          refine AllReadyH.cons (o := ⟨some 83, _, _, _, _, _⟩) rfl (fun K hK => ?_) AllReadyH.nil
          go_simp
          (with_reducible refine Calls.mono (KX.out t1 t2 d1 d2 _ Xv1 Yv1) ?_); rintro e v2 ⟨rfl, hv2⟩; have Ev2 := Ev1.up hv2; have Fv2 := Fv1.up hv2; have Gv2 := Gv1.up hv2; have Hv2 := Hv1.up hv2; have Sv2 := Sv1.up hv2; have Uv2 := Uv1.up hv2; have Xv2 := Xv1.mono hv2; have Yv2 := Yv1.mono hv2; have bv2 := bt bv1 hv2
          go_wp2_with fail
          refine hK.out _ _ ?_ (fun hHeld => ?_)
          · exact ⟨Ev2, Fv2, Gv2, Hv2⟩
          clear hK K
          try simp only [Act.put, List.setIfInBounds_toArray, List.set_cons_zero, List.set_cons_succ]
          refine wpAnyH_take (i := 10) (oi := ⟨some 84, _, _, _, _, _⟩) (v := ?_) rfl (by kernel_rfl) (by kernel_rfl) (by kernel_rfl) (fun _ _ _ h => h) (Or.inl ⟨by first | rfl | simp [Region.wanted, yielded], ?_⟩) hHeld ?_
          rotate_left
          · intro w hSw; go_simp; try with_reducible rfl
          try simp only [Act.put, List.setIfInBounds_toArray, List.set_cons_zero, List.set_cons_succ]
          refine wpAnyH_take (i := 11) (oi := ⟨some 85, _, _, _, _, _⟩) (v := ?_) rfl (by kernel_rfl) (by kernel_rfl) (by kernel_rfl) (fun _ _ _ h => h) (Or.inl ⟨by first | rfl | simp [Region.wanted, yielded], ?_⟩) hHeld ?_
          rotate_left
          · intro w hSw; go_simp; try with_reducible rfl
          try simp only [Act.put, List.setIfInBounds_toArray, List.set_cons_zero, List.set_cons_succ]
          refine wpAnyH_take (i := 12) (oi := ⟨some 86, _, _, _, _, _⟩) (v := ?_) rfl (by kernel_rfl) (by kernel_rfl) (by kernel_rfl) (fun _ _ _ h => h) (Or.inl ⟨by first | rfl | simp [Region.wanted, yielded], ?_⟩) hHeld ?_
          rotate_left
          · intro w hSw; go_simp; try with_reducible rfl
          try simp only [Act.put, List.setIfInBounds_toArray, List.set_cons_zero, List.set_cons_succ]
          refine wpAnyH_take (i := 13) (oi := ⟨some 87, _, _, _, _, _⟩) (v := ?_) rfl (by kernel_rfl) (by kernel_rfl) (by kernel_rfl) (fun _ _ _ h => h) (Or.inl ⟨by first | rfl | simp [Region.wanted, yielded], ?_⟩) hHeld ?_
          rotate_left
          · intro w hSw; go_simp; try with_reducible rfl
          try simp only [Act.put, List.setIfInBounds_toArray, List.set_cons_zero, List.set_cons_succ]
          refine wpAnyH_take (i := 14) (oi := ⟨some 88, _, _, _, _, _⟩) (v := ?_) rfl (by kernel_rfl) (by kernel_rfl) (by kernel_rfl) (fun _ _ _ h => h) (Or.inl ⟨by first | rfl | simp [Region.wanted, yielded], ?_⟩) hHeld ?_
          rotate_left
          · intro w hSw; go_simp; try with_reducible rfl
          try simp only [Act.put, List.setIfInBounds_toArray, List.set_cons_zero, List.set_cons_succ]
          refine wpAnyH_take (i := 15) (oi := ⟨some 89, _, _, _, _, _⟩) (v := ?_) rfl (by kernel_rfl) (by kernel_rfl) (by kernel_rfl) (fun _ _ _ h => h) (Or.inl ⟨by first | rfl | simp [Region.wanted, yielded], ?_⟩) hHeld ?_
          rotate_left
          · intro w hSw; go_simp; try with_reducible rfl
          try simp only [Act.put, List.setIfInBounds_toArray, List.set_cons_zero, List.set_cons_succ]
          refine wpAnyH_take (i := 16) (oi := ⟨some 90, _, _, _, _, _⟩) (v := ?_) rfl (by kernel_rfl) (by kernel_rfl) (by kernel_rfl) (fun _ _ _ h => h) (Or.inl ⟨by first | rfl | simp [Region.wanted, yielded], ?_⟩) hHeld ?_
          rotate_left
          · intro w hSw; go_simp; try with_reducible rfl
          try simp only [Act.put, List.setIfInBounds_toArray, List.set_cons_zero, List.set_cons_succ]
          refine wpAnyH_take (i := 17) (oi := ⟨some 91, _, _, _, _, _⟩) (v := ?_) rfl (by kernel_rfl) (by kernel_rfl) (by kernel_rfl) (fun _ _ _ h => h) (Or.inl ⟨by first | rfl | simp [Region.wanted, yielded], ?_⟩) hHeld ?_
          rotate_left
          · intro w hSw; go_simp; try with_reducible rfl
          try simp only [Act.put, List.setIfInBounds_toArray, List.set_cons_zero, List.set_cons_succ]
          refine wpAnyH_take (i := 18) (oi := ⟨some 92, _, _, _, _, _⟩) (v := ?_) rfl (by kernel_rfl) (by kernel_rfl) (by kernel_rfl) (fun _ _ _ h => h) (Or.inl ⟨by first | rfl | simp [Region.wanted, yielded], ?_⟩) hHeld ?_
          rotate_left
          · intro w hw; have hq := (cells3P ((hw.2.2.2).blk)).2.1; clear hw; go_simp; try with_reducible rfl
          try simp only [Act.put, List.setIfInBounds_toArray, List.set_cons_zero, List.set_cons_succ]
          refine wpAnyH_take (i := 19) (oi := ⟨some 93, _, _, _, _, _⟩) (v := ?_) rfl (by kernel_rfl) (by kernel_rfl) (by kernel_rfl) (fun _ _ _ h => h) (Or.inl ⟨by first | rfl | simp [Region.wanted, yielded], ?_⟩) hHeld ?_
          rotate_left
          · intro w hSw; go_simp; try with_reducible rfl
          try simp only [Act.put, List.setIfInBounds_toArray, List.set_cons_zero, List.set_cons_succ]
          refine wpAnyH_take (i := 20) (oi := ⟨some 94, _, _, _, _, _⟩) (v := ?_) rfl (by kernel_rfl) (by kernel_rfl) (by kernel_rfl) (fun _ _ _ h => h) (Or.inl ⟨by first | rfl | simp [Region.wanted, yielded], ?_⟩) hHeld ?_
          rotate_left
          · intro w hSw; go_simp; try with_reducible rfl
          try simp only [Act.put, List.setIfInBounds_toArray, List.set_cons_zero, List.set_cons_succ]
          refine wpAnyH_take (i := 21) (oi := ⟨some 95, _, _, _, _, _⟩) (v := ?_) rfl (by kernel_rfl) (by kernel_rfl) (by kernel_rfl) (fun _ _ _ h => h) (Or.inl ⟨by first | rfl | simp [Region.wanted, yielded], ?_⟩) hHeld ?_
          rotate_left
          · intro w hw; have hq := (cells3P ((hw.2.1).blk)).2.1; clear hw; go_simp; try with_reducible rfl
          try simp only [Act.put, List.setIfInBounds_toArray, List.set_cons_zero, List.set_cons_succ]
          refine wpAnyH_take (i := 22) (oi := ⟨some 96, _, _, _, _, _⟩) (v := ?_) rfl (by kernel_rfl) (by kernel_rfl) (by kernel_rfl) (fun _ _ _ h => h) (Or.inl ⟨by first | rfl | simp [Region.wanted, yielded], ?_⟩) hHeld ?_
          rotate_left
          · intro w hSw; go_simp; try with_reducible rfl
          try simp only [Act.put, List.setIfInBounds_toArray, List.set_cons_zero, List.set_cons_succ]
          refine wpAnyH_take (i := 23) (oi := ⟨some 97, _, _, _, _, _⟩) (v := ?_) rfl (by kernel_rfl) (by kernel_rfl) (by kernel_rfl) (fun _ _ _ h => h) (Or.inl ⟨by first | rfl | simp [Region.wanted, yielded], ?_⟩) hHeld ?_
          rotate_left
          · intro w hSw; go_simp; try with_reducible rfl
          try simp only [Act.put, List.setIfInBounds_toArray, List.set_cons_zero, List.set_cons_succ]
          refine wpAnyH_take (i := 24) (oi := ⟨some 98, _, _, _, _, _⟩) (v := ?_) rfl (by kernel_rfl) (by kernel_rfl) (by kernel_rfl) (fun _ _ _ h => h) (Or.inl ⟨by first | rfl | simp [Region.wanted, yielded], ?_⟩) hHeld ?_
          rotate_left
          · intro w hSw; go_simp; try with_reducible rfl
          try simp only [Act.put, List.setIfInBounds_toArray, List.set_cons_zero, List.set_cons_succ]
          refine wpAnyH_take (i := 25) (oi := ⟨some 99, _, _, _, _, _⟩) (v := ?_) rfl (by kernel_rfl) (by kernel_rfl) (by kernel_rfl) (fun _ _ _ h => h) (Or.inl ⟨by first | rfl | simp [Region.wanted, yielded], ?_⟩) hHeld ?_
          rotate_left
          · intro w hSw; go_simp; try with_reducible rfl
          try simp only [Act.put, List.setIfInBounds_toArray, List.set_cons_zero, List.set_cons_succ]
          refine wpAnyH_take (i := 26) (oi := ⟨some 100, _, _, _, _, _⟩) (v := ?_) rfl (by kernel_rfl) (by kernel_rfl) (by kernel_rfl) (fun _ _ _ h => h) (Or.inl ⟨by first | rfl | simp [Region.wanted, yielded], ?_⟩) hHeld ?_
          rotate_left
          · intro w hSw; go_simp; try with_reducible rfl
          try simp only [Act.put, List.setIfInBounds_toArray, List.set_cons_zero, List.set_cons_succ]
          refine wpAnyH_take (i := 27) (oi := ⟨some 101, _, _, _, _, _⟩) (v := ?_) rfl (by kernel_rfl) (by kernel_rfl) (by kernel_rfl) (fun _ _ _ h => h) (Or.inl ⟨by first | rfl | simp [Region.wanted, yielded], ?_⟩) hHeld ?_
          rotate_left
          · intro w hSw; go_simp; try with_reducible rfl
          try simp only [Act.put, List.setIfInBounds_toArray, List.set_cons_zero, List.set_cons_succ]
          refine wpAnyH_take (i := 28) (oi := ⟨some 102, _, _, _, _, _⟩) (v := ?_) rfl (by kernel_rfl) (by kernel_rfl) (by kernel_rfl) (fun _ _ _ h => h) (Or.inl ⟨by first | rfl | simp [Region.wanted, yielded], ?_⟩) hHeld ?_
          rotate_left
          · intro w hSw; go_simp; try with_reducible rfl
          try simp only [Act.put, List.setIfInBounds_toArray, List.set_cons_zero, List.set_cons_succ]
          refine wpAnyH_take (i := 29) (oi := ⟨some 103, _, _, _, _, _⟩) (v := .agg ((prL i a1 n1 c1 f)).toArray) rfl (by kernel_rfl) (by kernel_rfl) (by kernel_rfl) (fun _ _ _ h => h) (yieldsIf_blkP (by first | rfl | simp [Region.wanted, yielded]) 24 (.tmp 8) rfl b8 rfl (fun w hw => hw.2.1) Tryd.underlying24 rfl HI.out) hHeld ?_
          try simp only [Act.put, List.setIfInBounds_toArray, List.set_cons_zero, List.set_cons_succ]
          refine wpAnyH_take (i := 30) (oi := ⟨some 104, _, _, _, _, _⟩) (v := ?_) rfl (by kernel_rfl) (by kernel_rfl) (by kernel_rfl) (fun _ _ _ h => h) (Or.inl ⟨by first | rfl | simp [Region.wanted, yielded], ?_⟩) hHeld ?_
          rotate_left
          · intro w hSw; go_simp; try with_reducible rfl
          try simp only [Act.put, List.setIfInBounds_toArray, List.set_cons_zero, List.set_cons_succ]
          refine wpAnyH_take (i := 31) (oi := ⟨some 105, _, _, _, _, _⟩) (v := ?_) rfl (by kernel_rfl) (by kernel_rfl) (by kernel_rfl) (fun _ _ _ h => h) (Or.inl ⟨by first | rfl | simp [Region.wanted, yielded], ?_⟩) hHeld ?_
          rotate_left
          · intro w hSw; go_simp; try with_reducible rfl
          try simp only [Act.put, List.setIfInBounds_toArray, List.set_cons_zero, List.set_cons_succ]
          refine wpAnyH_ready (rs := [32]) (by kernel_rfl) (by simp) ?_
          refine AllReadyH.cons (o := ⟨some 106, _, _, _, _, _⟩) rfl (fun K hK => ?_) AllReadyH.nil
          go_simp
          (with_reducible refine Calls.mono (KH.out a1 c1 _ bv2 Sv2 Lk.out Lb.out) ?_); rintro e v3 ⟨rfl, hv3⟩; have Ev3 := Ev2.up hv3; have Fv3 := Fv2.up hv3; have Gv3 := Gv2.up hv3; have Hv3 := Hv2.up hv3; have Sv3 := Sv2.up hv3; have Uv3 := Uv2.up hv3; have Xv3 := Xv2.mono hv3; have Yv3 := Yv2.mono hv3; have bv3 := bt bv2 hv3
          go_wp2_with fail
          refine hK.out _ _ ?_ (fun hHeld => ?_)
          · exact ⟨Ev3, Fv3, Gv3, Hv3⟩
          clear hK K
          try simp only [Act.put, List.setIfInBounds_toArray, List.set_cons_zero, List.set_cons_succ]
          refine wpAnyH_take (i := 33) (oi := ⟨some 107, _, _, _, _, _⟩) (v := ?_) rfl (by kernel_rfl) (by kernel_rfl) (by kernel_rfl) (fun _ _ _ h => h) (Or.inl ⟨by first | rfl | simp [Region.wanted, yielded], ?_⟩) hHeld ?_
          rotate_left
          · intro w hSw; go_simp; try with_reducible rfl
          try simp only [Act.put, List.setIfInBounds_toArray, List.set_cons_zero, List.set_cons_succ]
          refine wpAnyH_take (i := 34) (oi := ⟨some 108, _, _, _, _, _⟩) (v := ?_) rfl (by kernel_rfl) (by kernel_rfl) (by kernel_rfl) (fun _ _ _ h => h) (Or.inl ⟨by first | rfl | simp [Region.wanted, yielded], ?_⟩) hHeld ?_
          rotate_left
          · intro w hSw; go_simp; try with_reducible rfl
          try simp only [Act.put, List.setIfInBounds_toArray, List.set_cons_zero, List.set_cons_succ]
          refine wpAnyH_take (i := 35) (oi := ⟨some 109, _, _, _, _, _⟩) (v := ?_) rfl (by kernel_rfl) (by kernel_rfl) (by kernel_rfl) (fun _ _ _ h => h) (Or.inl ⟨by first | rfl | simp [Region.wanted, yielded], ?_⟩) hHeld ?_
          rotate_left
          · intro w hSw; go_simp; try with_reducible rfl
          try simp only [Act.put, List.setIfInBounds_toArray, List.set_cons_zero, List.set_cons_succ]
          refine wpAnyH_take (i := 36) (oi := ⟨some 110, _, _, _, _, _⟩) (v := ?_) rfl (by kernel_rfl) (by kernel_rfl) (by kernel_rfl) (fun _ _ _ h => h) (Or.inl ⟨by first | rfl | simp [Region.wanted, yielded], ?_⟩) hHeld ?_
          rotate_left
          · intro w hw; have hq := (cells3P ((hw.2.1).blk)).2.1; clear hw; go_simp; try with_reducible rfl
          try simp only [Act.put, List.setIfInBounds_toArray, List.set_cons_zero, List.set_cons_succ]
          refine wpAnyH_take (i := 37) (oi := ⟨some 111, _, _, _, _, _⟩) (v := ?_) rfl (by kernel_rfl) (by kernel_rfl) (by kernel_rfl) (fun _ _ _ h => h) (Or.inl ⟨by first | rfl | simp [Region.wanted, yielded], ?_⟩) hHeld ?_
          rotate_left
          · intro w hSw; go_simp; try with_reducible rfl
          try simp only [Act.put, List.setIfInBounds_toArray, List.set_cons_zero, List.set_cons_succ]
          refine wpAnyH_take (i := 38) (oi := ⟨some 112, _, _, _, _, _⟩) (v := ?_) rfl (by kernel_rfl) (by kernel_rfl) (by kernel_rfl) (fun _ _ _ h => h) (Or.inl ⟨by first | rfl | simp [Region.wanted, yielded], ?_⟩) hHeld ?_
          rotate_left
          · intro w hSw; go_simp; try with_reducible rfl
          try simp only [Act.put, List.setIfInBounds_toArray, List.set_cons_zero, List.set_cons_succ]
          refine wpAnyH_take (i := 39) (oi := ⟨some 113, _, _, _, _, _⟩) (v := ?_) rfl (by kernel_rfl) (by kernel_rfl) (by kernel_rfl) (fun _ _ _ h => h) (Or.inl ⟨by first | rfl | simp [Region.wanted, yielded], ?_⟩) hHeld ?_
          rotate_left
          · intro w hw; have hq := (cells3P ((hw.1).blk)).2.1; clear hw; go_simp; try with_reducible rfl
          try simp only [Act.put, List.setIfInBounds_toArray, List.set_cons_zero, List.set_cons_succ]
          refine wpAnyH_take (i := 40) (oi := ⟨some 114, _, _, _, _, _⟩) (v := ?_) rfl (by kernel_rfl) (by kernel_rfl) (by kernel_rfl) (fun _ _ _ h => h) (Or.inl ⟨by first | rfl | simp [Region.wanted, yielded], ?_⟩) hHeld ?_
          rotate_left
          · intro w hSw; go_simp; try with_reducible rfl
          try simp only [Act.put, List.setIfInBounds_toArray, List.set_cons_zero, List.set_cons_succ]
          refine wpAnyH_take (i := 41) (oi := ⟨some 115, _, _, _, _, _⟩) (v := ?_) rfl (by kernel_rfl) (by kernel_rfl) (by kernel_rfl) (fun _ _ _ h => h) (Or.inl ⟨by first | rfl | simp [Region.wanted, yielded], ?_⟩) hHeld ?_
          rotate_left
          · intro w hSw; go_simp; try with_reducible rfl
          try simp only [Act.put, List.setIfInBounds_toArray, List.set_cons_zero, List.set_cons_succ]
          refine wpAnyH_take (i := 42) (oi := ⟨some 116, _, _, _, _, _⟩) (v := ?_) rfl (by kernel_rfl) (by kernel_rfl) (by kernel_rfl) (fun _ _ _ h => h) (Or.inl ⟨by first | rfl | simp [Region.wanted, yielded], ?_⟩) hHeld ?_
          rotate_left
          · intro w hSw; go_simp; try with_reducible rfl
          try simp only [Act.put, List.setIfInBounds_toArray, List.set_cons_zero, List.set_cons_succ]
          refine wpAnyH_take (i := 43) (oi := ⟨some 117, _, _, _, _, _⟩) (v := ?_) rfl (by kernel_rfl) (by kernel_rfl) (by kernel_rfl) (fun _ _ _ h => h) (Or.inl ⟨by first | rfl | simp [Region.wanted, yielded], ?_⟩) hHeld ?_
          rotate_left
          · intro w hSw; go_simp; try with_reducible rfl
          try simp only [Act.put, List.setIfInBounds_toArray, List.set_cons_zero, List.set_cons_succ]
          refine wpAnyH_take (i := 44) (oi := ⟨some 118, _, _, _, _, _⟩) (v := ?_) rfl (by kernel_rfl) (by kernel_rfl) (by kernel_rfl) (fun _ _ _ h => h) (Or.inl ⟨by first | rfl | simp [Region.wanted, yielded], ?_⟩) hHeld ?_
          rotate_left
          · intro w hSw; go_simp; try with_reducible rfl
          try simp only [Act.put, List.setIfInBounds_toArray, List.set_cons_zero, List.set_cons_succ]
          refine wpAnyH_take (i := 45) (oi := ⟨some 119, _, _, _, _, _⟩) (v := ?_) rfl (by kernel_rfl) (by kernel_rfl) (by kernel_rfl) (fun _ _ _ h => h) (Or.inl ⟨by first | rfl | simp [Region.wanted, yielded], ?_⟩) hHeld ?_
          rotate_left
          · intro w hSw; go_simp; try with_reducible rfl
          try simp only [Act.put, List.setIfInBounds_toArray, List.set_cons_zero, List.set_cons_succ]
          refine wpAnyH_take (i := 46) (oi := ⟨some 120, _, _, _, _, _⟩) (v := ?_) rfl (by kernel_rfl) (by kernel_rfl) (by kernel_rfl) (fun _ _ _ h => h) (Or.inl ⟨by first | rfl | simp [Region.wanted, yielded], ?_⟩) hHeld ?_
          rotate_left
          · intro w hw; have hq := (cells3P ((hw.2.1).blk)).2.1; clear hw; go_simp; try with_reducible rfl
          try simp only [Act.put, List.setIfInBounds_toArray, List.set_cons_zero, List.set_cons_succ]
          refine wpAnyH_take (i := 47) (oi := ⟨some 121, _, _, _, _, _⟩) (v := ?_) rfl (by kernel_rfl) (by kernel_rfl) (by kernel_rfl) (fun _ _ _ h => h) (Or.inl ⟨by first | rfl | simp [Region.wanted, yielded], ?_⟩) hHeld ?_
          rotate_left
          · intro w hSw; go_simp; try with_reducible rfl
          try simp only [Act.put, List.setIfInBounds_toArray, List.set_cons_zero, List.set_cons_succ]
          refine wpAnyH_take (i := 48) (oi := ⟨some 122, _, _, _, _, _⟩) (v := ?_) rfl (by kernel_rfl) (by kernel_rfl) (by kernel_rfl) (fun _ _ _ h => h) (Or.inl ⟨by first | rfl | simp [Region.wanted, yielded], ?_⟩) hHeld ?_
          rotate_left
          · intro w hSw; go_simp; try with_reducible rfl
          try simp only [Act.put, List.setIfInBounds_toArray, List.set_cons_zero, List.set_cons_succ]
          refine wpAnyH_take (i := 49) (oi := ⟨some 123, _, _, _, _, _⟩) (v := ?_) rfl (by kernel_rfl) (by kernel_rfl) (by kernel_rfl) (fun _ _ _ h => h) (Or.inl ⟨by first | rfl | simp [Region.wanted, yielded], ?_⟩) hHeld ?_
          rotate_left
          · intro w hw; have hq := (cells3P ((hw.1).blk)).2.1; clear hw; go_simp; try with_reducible rfl
          try simp only [Act.put, List.setIfInBounds_toArray, List.set_cons_zero, List.set_cons_succ]
          refine wpAnyH_take (i := 50) (oi := ⟨some 124, _, _, _, _, _⟩) (v := ?_) rfl (by kernel_rfl) (by kernel_rfl) (by kernel_rfl) (fun _ _ _ h => h) (Or.inl ⟨by first | rfl | simp [Region.wanted, yielded], ?_⟩) hHeld ?_
          rotate_left
          · intro w hSw; go_simp; try with_reducible rfl
          try simp only [Act.put, List.setIfInBounds_toArray, List.set_cons_zero, List.set_cons_succ]
          refine wpAnyH_take (i := 51) (oi := ⟨some 125, _, _, _, _, _⟩) (v := ?_) rfl (by kernel_rfl) (by kernel_rfl) (by kernel_rfl) (fun _ _ _ h => h) (Or.inl ⟨by first | rfl | simp [Region.wanted, yielded], ?_⟩) hHeld ?_
          rotate_left
          · intro w hSw; go_simp; try with_reducible rfl
          try simp only [Act.put, List.setIfInBounds_toArray, List.set_cons_zero, List.set_cons_succ]
          refine wpAnyH_take (i := 52) (oi := ⟨some 126, _, _, _, _, _⟩) (v := .agg ((prL i a n c f)).toArray) rfl (by kernel_rfl) (by kernel_rfl) (by kernel_rfl) (fun _ _ _ h => h) (yieldsIf_blkP (by first | rfl | simp [Region.wanted, yielded]) 24 (.tmp 3) rfl b3 rfl (fun w hw => hw.1) Tryd.underlying24 rfl HI.out) hHeld ?_
          try simp only [Act.put, List.setIfInBounds_toArray, List.set_cons_zero, List.set_cons_succ]
          refine wpAnyH_take (i := 53) (oi := ⟨some 127, _, _, _, _, _⟩) (v := ?_) rfl (by kernel_rfl) (by kernel_rfl) (by kernel_rfl) (fun _ _ _ h => h) (Or.inl ⟨by first | rfl | simp [Region.wanted, yielded], ?_⟩) hHeld ?_
          rotate_left
          · intro w hSw; go_simp; try with_reducible rfl
          try simp only [Act.put, List.setIfInBounds_toArray, List.set_cons_zero, List.set_cons_succ]
          refine wpAnyH_take (i := 54) (oi := ⟨some 128, _, _, _, _, _⟩) (v := ?_) rfl (by kernel_rfl) (by kernel_rfl) (by kernel_rfl) (fun _ _ _ h => h) (Or.inl ⟨by first | rfl | simp [Region.wanted, yielded], ?_⟩) hHeld ?_
          rotate_left
          · intro w hSw; go_simp; try with_reducible rfl
          try simp only [Act.put, List.setIfInBounds_toArray, List.set_cons_zero, List.set_cons_succ]
          refine wpAnyH_ready (rs := [55]) (by kernel_rfl) (by simp) ?_
          refine AllReadyH.cons (o := ⟨some 129, _, _, _, _, _⟩) rfl (fun K hK => ?_) AllReadyH.nil
          go_simp
          (with_reducible refine Calls.mono (KO.out _ bv3 (HP.out _ bv3 Ln.out) Lk.out Lb.out) ?_); rintro e v4 ⟨rfl, hv4⟩; have Ev4 := Ev3.up hv4; have Fv4 := Fv3.up hv4; have Gv4 := Gv3.up hv4; have Hv4 := Hv3.up hv4; have Sv4 := Sv3.up hv4; have Uv4 := Uv3.up hv4; have Xv4 := Xv3.mono hv4; have Yv4 := Yv3.mono hv4; have bv4 := bt bv3 hv4
          go_wp2_with fail
          refine hK.out _ _ ?_ (fun hHeld => ?_)
          · exact ⟨Ev4, Fv4, Gv4, Hv4⟩
          clear hK K
          try simp only [Act.put, List.setIfInBounds_toArray, List.set_cons_zero, List.set_cons_succ]
          refine wpAnyH_take (i := 56) (oi := ⟨some 130, _, _, _, _, _⟩) (v := ?_) rfl (by kernel_rfl) (by kernel_rfl) (by kernel_rfl) (fun _ _ _ h => h) (Or.inl ⟨by first | rfl | simp [Region.wanted, yielded], ?_⟩) hHeld ?_
          rotate_left
          · intro w hSw; go_simp; try with_reducible rfl
          try simp only [Act.put, List.setIfInBounds_toArray, List.set_cons_zero, List.set_cons_succ]
          refine wpAnyH_take (i := 57) (oi := ⟨some 131, _, _, _, _, _⟩) (v := ?_) rfl (by kernel_rfl) (by kernel_rfl) (by kernel_rfl) (fun _ _ _ h => h) (Or.inl ⟨by first | rfl | simp [Region.wanted, yielded], ?_⟩) hHeld ?_
          rotate_left
          · intro w hSw; go_simp; try with_reducible rfl
          try simp only [Act.put, List.setIfInBounds_toArray, List.set_cons_zero, List.set_cons_succ]
          refine wpAnyH_take (i := 58) (oi := ⟨some 2, _, _, _, _, _⟩) (v := ?_) rfl (by kernel_rfl) (by kernel_rfl) (by kernel_rfl) (fun _ _ _ h => h) (Or.inl ⟨by first | rfl | simp [Region.wanted, yielded], ?_⟩) hHeld ?_
          rotate_left
          · intro w hSw; go_simp; try with_reducible rfl
          try simp only [Act.put, List.setIfInBounds_toArray, List.set_cons_zero, List.set_cons_succ]
          refine wpAnyH_done (by kernel_rfl) ?_ _
          go_wp2_with fail
          go_ret
          exact ⟨by simp, bv4⟩
theorem provOnce_in (hsh : Shown04OK) (w : World) (hk : KeysAt w) (i : Bool) (a : Option Addr) (n c : Nat) (es : List Ent) (f : Bool) (a1 : Option Addr) (n1 c1 : Nat) (l1 : List UInt8) (a2 : Option Addr) (n2 c2 : Nat) (l2 : List UInt8) (a3 : Option Addr) (n3 c3 : Nat) (l3 : List UInt8)
    (h : n = es.length ∧ n ≤ c ∧ c ≤ maxLen ∧ EntsAt w a es) (h1 : InBytes w a1 n1 c1 l1) (h2 : InBytes w a2 n2 c2 l2) (h3 : InBytes w a3 n3 c3 l3) :
    Calls Tryd.prog 6 #[.agg #[.bool i, .slice a n c, .bool f, .slice a1 n1 c1, .slice a2 n2 c2, .slice a3 n3 c3]] w (BoolOut w true) := by
  obtain ⟨rfl, p1, p2, p3⟩ := h
  obtain ⟨rfl, q1, q2, q3⟩ := h1
  obtain ⟨rfl, r1, r2, r3⟩ := h2
  obtain ⟨rfl, s1, s2, s3⟩ := h3
  exact provOnce_any i f a c es a1 c1 l1 a2 c2 l2 a3 c3 l3 w p3 p1 p2 q3 r3 s3 hk
end Go.Proofs.YthmcmkdncaccbaaDoor
