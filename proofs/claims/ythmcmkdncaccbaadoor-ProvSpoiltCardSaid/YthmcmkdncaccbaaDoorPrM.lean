/- The walk of the law ProvSpoilt. -/
import Derived.Test.YthmcmkdncaccbaaDoorPrL
import Derived.Test.YthmcmkdncaccbaaDoorPrR
set_option linter.unusedSimpArgs false
set_option linter.unusedVariables false
namespace Go.Proofs.YthmcmkdncaccbaaDoor
open Go.RowKit

theorem own_none (W : World) : OwnR W (W.alloc (.cells #[] 5)) (.slice (some ⟨W.heap.size, 0, none⟩) 0 0) [] := OwnR.of rfl (Buf.made W 5 [] 0 0 (Nat.le_refl _) rfl (by decide))
theorem bv_zero {x : UInt8} (h : x ≠ 0) : (bv x == 0) = false := by
  rw [beq_eq_false_iff_ne]
  intro e; exact h (bv_inj.1 e)
theorem chkF_no {f : Bool} {es : List Ent} {k b t : List UInt8} (h : t ≠ rightT k b) : chkF f es k b t = f := by
  have h2 : (rightT k b == t) = false := by rw [beq_eq_false_iff_ne]; exact fun e => h e.symm
  unfold chkF; rw [h2]; rfl
theorem chkY_no {i : Bool} {es : List Ent} {k b t : List UInt8} (h : t ≠ rightT k b) : chkY i es k b t = false := by
  have h2 : (rightT k b == t) = false := by rw [beq_eq_false_iff_ne]; exact fun e => h e.symm
  unfold chkY; rw [h2]; rfl
theorem xor_none {x y : UInt8} (h : x ^^^ y = x) : y = 0 := by
  have h2 := congrArg (x ^^^ ·) h
  simpa [← UInt8.xor_assoc] using h2
theorem spoilt_ne (R : List UInt8) (I : Nat) (y : UInt8) (hI : I < R.length) (hy : y ≠ 0) : R.set I (R.getD I 0 ^^^ y) ≠ R := by
  intro e
  have h2 := congrArg (fun l => l.getD I 0) e
  have h3 : R.getD I 0 ^^^ y = R.getD I 0 := by simpa [List.getD, hI] using h2
  exact hy (xor_none h3)
theorem ne_len {l m : List UInt8} (h : l.length ≠ m.length) : l ≠ m := fun e => h (by rw [e])

set_option maxRecDepth 100000 in
set_option maxHeartbeats 16000000 in
theorem provSpoilt_any (i f : Bool) (a : Option Addr) (c : Nat) (es : List Ent) (ka : Option Addr) (kc : Nat) (k : List UInt8) (b_ : Option Addr) (bc : Nat) (b : List UInt8) (at_ : Nat) (by_ : UInt8) (hat : at_ < 256) (w : World)
    (hE : EntsAt w a es) (hc : es.length ≤ c) (hcm : c ≤ maxLen) (hka : BytesAt w ka k) (hba : BytesAt w b_ b) (hk : KeysAt w) :
    Calls Tryd.prog 7 #[.agg #[.bool i, .slice a es.length c, .bool f, .slice ka k.length kc, .slice b_ b.length bc, .int .u8 at_, .int .u8 (bv by_)]] w (BoolOut w true) := by
  have HI := Lib.hid prov_size
  have HM := Lib.hid (show 100 ≤ maxLen by decide)
  have Hsh := Lib.hid (fun W (h : Below w.heap.size w W) => shown04 W (hk.mono h))
  have F1 := Lib.hid (fun W (h : Below w.heap.size w W) => few_any i f a c 20 es W (Nat.le_trans hc hcm) (by decide) (hE.mono h))
  have HP := Lib.hid (fun W (h : Below w.heap.size w W) (hn : es.length ≤ 20) => (show PrF W a es.length c es from ⟨hE.mono h, rfl, hc, hcm, by omega⟩))
  have K1 := Lib.hid (fun W (h : Below w.heap.size w W) (h0 : PrF W a es.length c es) (hkl : k.length ≤ 60) (hbl : b.length ≤ 60) (h3 : (tagEs es k b).length ≤ 900) => tag_st (i := i) (f := f) (kc := kc) (bc := bc) h0 (hk.mono h) (hka.mono h) (hba.mono h) hkl (by omega) rfl rfl h3 rfl)
  have KC := Lib.hid (fun (X : List UInt8) (m : Nat) (hm : m = X.length) (hX : X ≠ rightT k b) a1 c1 t1 d1 W (h : Below w.heap.size w W) (h0 : PrF W a1 (tagEs es k b).length c1 (tagEs es k b)) (ht : BytesAt W t1 X) (hkl : k.length ≤ 60) (hbl : b.length ≤ 60) (hml : m ≤ 60) => (show Calls Tryd.prog 13 #[.agg #[.bool i, .slice a1 (tagEs es k b).length c1, .bool f], .slice ka k.length kc, .slice b_ b.length bc, .slice t1 m d1] W fun e w' => e = .returned (.tuple #[.agg #[.bool i, .slice a1 (tagEs es k b).length c1, .bool f], .bool false]) ∧ Below W.heap.size W w' from by
    subst hm
    exact check_st (i := i) (f := f) (kc := kc) (bc := bc) (tc := d1) h0 (hk.mono h) (hka.mono h) (hba.mono h) ht hkl (by omega) hml (chkF_no hX) (chkY_no hX)))
  have KS := Lib.hid (fun a1 c1 W (h : PrF W a1 (tagEs es k b).length c1 (tagEs es k b)) => refSame_st (i := i) (f := f) (i2 := i) (f2 := f) h h (sameP_self i f _))
  have HN := Lib.hid (tagEs_len es k b)
  have HF := Lib.hid (show decide (FewE es 20) = true → es.length ≤ 20 from fun h => (of_decide_eq_true h).1)
  have HRl := Lib.hid (rightT_len k b)
  obtain ⟨z, hz⟩ : ∃ z, (bv by_ == 0) = z := ⟨_, rfl⟩
  have Hz := Lib.hid (show z = false → by_ ≠ 0 from fun h e => by rw [e] at hz; rw [← hz] at h; exact absurd h (by decide))
  obtain ⟨I, hI⟩ : ∃ I, I = at_ % 16 := ⟨_, rfl⟩
  have hI16 : I < 16 := by omega
  have hm16 : ((at_ : Int)).tmod 16 = (I : Int) := by rw [Int.tmod_eq_emod_of_nonneg (by omega), hI]; exact (Int.natCast_emod _ _).symm
  have hwa : IntKind.i64.wrap (at_ : Int) = (at_ : Int) := by rw [IntKind.wrap_i64]; omega
  have hi0 : (0 : Int) ≤ (I : Int) := by omega
  have hi1 : (I : Int) < 16 := by omega
  generalize decide (FewE es 20) = fw at F1 HF
  generalize tagEs es k b = es1 at *
  generalize rightT k b = R at *
  generalize hadF es k b = hd at *
  obtain ⟨x, hx⟩ : ∃ x, x = R.getD I 0 := ⟨_, rfl⟩
  have Hx := Lib.hid hx
  obtain ⟨C, hC⟩ : ∃ C, C = R.set I (x ^^^ by_) := ⟨_, rfl⟩
  have HCl := Lib.hid (show C.length = 16 by rw [hC, List.length_set, HRl.out])
  have HC := Lib.hid hC
  have HCn := Lib.hid (show by_ ≠ 0 → C ≠ R from fun h => by rw [hC, hx]; exact spoilt_ne R I by_ (by rw [HRl.out]; exact hI16) h)
  have HO0 := Lib.hid (own_none)
  clear hE hc hcm hka hba hk hx hC hI
  generalize es1.length = n1 at *
  generalize es.length = n at *
  generalize k.length = kl at *
  generalize b.length = bl at *
  go_enter Tryd.func7, Tryd.ntmps7
  go_upto_region 6 with (fail)
  generalize hW : World.alloc (World.alloc w _) _ = W
  have B3 := Lib.hid (show BlkT 24 W (w.heap.size + 1) (prL i a n c f) by
    rw [← hW, ← size_alloc w (.cells #[.bool i, .slice a n c, .bool f, .slice ka kl kc, .slice b_ bl bc, .int .u8 at_, .int .u8 (bv by_)] 52)]
    exact BlkT.new _ (prL i a n c f) 24)
  have G := Lib.hid (show Below w.heap.size w W by rw [← hW]; exact bta (ba w _) _)
  clear hW
  generalize w.heap.size + 1 = b3 at B3 ⊢
  go_wp2_with fail
  refine (Hsh.out _ G.out).mono ?_; rintro e y1 ⟨rfl, hb⟩
  replace B3 := Lib.hid (B3.out.up hb)
  replace G := Lib.hid (bt G.out hb)
  clear hb
  go_wp2_with (first
        | (refine wpList_load_blk 24 (.tmp 3) b3 (cs := (prL i a n c f)) rfl rfl rfl B3.out.blk Tryd.underlying24 rfl HI.out ?_)
        | (refine wpList_load_blkP 24 (.tmp 3) b3 (cs := (prL i a n c f)) (by first | rfl | simp [Region.wanted, yielded]) rfl rfl B3.out.blk Tryd.underlying24 rfl HI.out ?_))
  refine (F1.out _ G.out).mono ?_; rintro e y2 ⟨rfl, hb⟩
  replace B3 := Lib.hid (B3.out.up hb)
  replace G := Lib.hid (bt G.out hb)
  clear hb
  rcases fw with _ | _
  · go_wp2_with fail
    go_ret
    exact ⟨rfl, G.out⟩
  by_cases hkl : (60 : Int) < (kl : Int)
  · go_wp2_with fail
    go_ret
    exact ⟨rfl, G.out⟩
  by_cases hbl : (60 : Int) < (bl : Int)
  · go_wp2_with fail
    go_ret
    exact ⟨rfl, G.out⟩
  rcases z with _ | _
  rotate_left
  · go_wp2_with fail
    go_ret
    exact ⟨rfl, G.out⟩
  have Lk := Lib.hid (show kl ≤ 60 by omega)
  have Lb := Lib.hid (show bl ≤ 60 by omega)
  have Ln := Lib.hid (HF.out (by first | rfl | trivial))
  have Ly := Lib.hid (Hz.out (by first | rfl | trivial))
  have L1 := Lib.hid (show n1 ≤ 900 by have h1 := HN.out; have h2 := Ln.out; rcases hd with _ | _ <;> simp at h1 <;> omega)
  go_upto_region 9 with (fail)
  clear hkl hbl HN HF F1 Hsh Hz
  go_cut [10, 9] (fun v10 v9 wx => ∃ a1 : Option Addr, ∃ c1 : Nat, ∃ t1 : Option Addr, ∃ d1 : Nat, ∃ b9 : Nat, v10 = .slice t1 16 d1 ∧ v9 = .pointer (some ⟨b9, 0, none⟩) ∧ BlkT 24 wx b9 (prL i a1 n1 c1 f) ∧ BlkT 24 wx b3 (prL i a n c f) ∧ Below w.heap.size w wx ∧ PrF wx a1 n1 c1 es1 ∧ BytesAt wx t1 R ∧ (16 ≤ d1 ∧ d1 ≤ maxLen))
  case first =>
    go_wp2_with (first
          | (refine wpList_load_blk 24 (.tmp 3) b3 (cs := (prL i a n c f)) rfl rfl rfl B3.out.blk Tryd.underlying24 rfl HI.out ?_)
          | (refine wpList_load_blkP 24 (.tmp 3) b3 (cs := (prL i a n c f)) (by first | rfl | simp [Region.wanted, yielded]) rfl rfl B3.out.blk Tryd.underlying24 rfl HI.out ?_))
    refine (K1.out _ G.out (HP.out _ G.out Ln.out) Lk.out Lb.out L1.out).mono ?_; rintro e wn ⟨a1, c1, t1, d1, rfl, hS1, hD1, hT1, hb⟩
    go_wp2_with (refine wpList_store_blk 24 (.tmp 9) (.tmp 53) _ (old := zeroP) (cs := (prL i a1 n1 c1 f)) rfl rfl rfl rfl (Blk.new _ _ _) HI.out rfl rfl ?_)
    go_meet
    exact ⟨a1, c1, t1, d1, _, rfl, rfl, layP_blk _ _ _ _, (B3.out.up (bt hb (layP_below _ _ _ _))), (bt G.out (bt hb (layP_below _ _ _ _))), (hS1).up (layP_below _ _ _ _), (hT1).mono (layP_below _ _ _ _), hD1⟩
  case rest =>
    obtain ⟨a1, c1, t1, d1, b9, rfl, rfl, hB9, hB3, hG, hS1, hT1, hD1⟩ := hcut
    have B9 := Lib.hid hB9
    replace B3 := Lib.hid hB3
    replace G := Lib.hid hG
    have S1 := Lib.hid hS1
    have T1 := Lib.hid hT1
    have D1 := Lib.hid hD1
    clear hB9 hB3 hG hS1 hT1 hD1
    clear B3
    go_upto_region 15 with (at_builtin; (refine wpList_ownR (.tmp 61) (.tmp 62) rfl rfl rfl (HO0.out wc) R rfl (T1.out.mono (ba wc _)) HRl.out.symm (by decide) R rfl ?_; intro a5 c5 w5 h5; obtain ⟨g, rfl, hg, hc, hf, hset⟩ := ownSet h5 I (by rw [HRl.out]; exact hI16); (rw [← Hx.out] at hc); have Hset := Lib.hid (hset (x ^^^ by_)); have Hg := Lib.hid hg; have Hcap := Lib.hid h5.buf.cap; have H5b := Lib.hid (h5.bel); have hRl16 := HRl.out; (try rw [hRl16]); clear h5 hset hg hRl16))
    have Hcp := Lib.hid (show 16 ≤ c5 ∧ c5 ≤ maxLen by have h := Hcap.out; rw [HRl.out] at h; exact h.2)
    have hb4 : Below wc.heap.size wc (w5.setCell ⟨g, I, none⟩ (.int .u8 (bv (x ^^^ by_)))) := H5b.out.setCell Hg.out _
    have A5 := Lib.hid (show BytesAt (w5.setCell ⟨g, I, none⟩ (.int .u8 (bv (x ^^^ by_)))) (some ⟨g, 0, none⟩) C by rw [HC.out]; exact Hset.out)
    replace B9 := Lib.hid (B9.out.up hb4)
    replace G := Lib.hid (bt G.out hb4)
    replace S1 := Lib.hid (S1.out.up hb4)
    replace T1 := Lib.hid (T1.out.mono hb4)
    replace D1 := Lib.hid (D1.out)
    clear hb4 Hset Hg H5b hc hf Hcap K1 HP
    generalize (w5.setCell ⟨g, I, none⟩ (.int .u8 (bv (x ^^^ by_)))) = w6 at A5 B9 G S1 T1 ⊢
    go_cut [14, 13] (fun v14 v13 wx => ∃ b13 : Nat, v14 = .bool false ∧ v13 = .pointer (some ⟨b13, 0, none⟩) ∧ BlkT 24 wx b13 (prL i a1 n1 c1 f) ∧ BlkT 24 wx b9 (prL i a1 n1 c1 f) ∧ Below w.heap.size w wx ∧ PrF wx a1 n1 c1 es1 ∧ BytesAt wx t1 R ∧ (16 ≤ d1 ∧ d1 ≤ maxLen) ∧ BytesAt wx (some ⟨g, 0, none⟩) C)
    case first =>
      go_wp2_with (first
              | (refine wpList_load_blk 24 (.tmp 9) b9 (cs := (prL i a1 n1 c1 f)) rfl rfl rfl B9.out.blk Tryd.underlying24 rfl HI.out ?_)
              | (refine wpList_load_blkP 24 (.tmp 9) b9 (cs := (prL i a1 n1 c1 f)) (by first | rfl | simp [Region.wanted, yielded]) rfl rfl B9.out.blk Tryd.underlying24 rfl HI.out ?_))
      refine (KC.out C 16 HCl.out.symm (HCn.out Ly.out) a1 c1 (some ⟨g, 0, none⟩) c5 _ G.out S1.out A5.out Lk.out Lb.out (by decide)).mono ?_; rintro e wn ⟨rfl, hb⟩
      go_wp2_with (refine wpList_store_blk 24 (.tmp 13) (.tmp 79) _ (old := zeroP) (cs := (prL i a1 n1 c1 f)) rfl rfl rfl rfl (Blk.new _ _ _) HI.out rfl rfl ?_)
      go_meet
      exact ⟨_, rfl, rfl, layP_blk _ _ _ _, (B9.out.up (bt hb (layP_below _ _ _ _))), (bt G.out (bt hb (layP_below _ _ _ _))), (S1.out.up (bt hb (layP_below _ _ _ _))), (T1.out.mono (bt hb (layP_below _ _ _ _))), (D1.out), (A5.out.mono (bt hb (layP_below _ _ _ _)))⟩
    case rest =>
      obtain ⟨b13, rfl, rfl, hB13, hB9, hG, hS1, hT1, hD1, hA5⟩ := hcut
      have B13 := Lib.hid hB13
      replace B9 := Lib.hid hB9
      replace G := Lib.hid hG
      replace S1 := Lib.hid hS1
      replace T1 := Lib.hid hT1
      replace D1 := Lib.hid hD1
      replace A5 := Lib.hid hA5
      clear hB13 hB9 hG hS1 hT1 hD1 hA5
      clear A5
      go_upto_region 16 with (fail)
      have K6 := Lib.hid (fun W (h : Below wc.heap.size wc W) => KC.out (R.take I) I (by rw [List.length_take, HRl.out]; omega) (ne_len (by rw [List.length_take, HRl.out]; omega)) a1 c1 t1 d1 W (bt G.out h) (S1.out.up h) ((BytesAt.take T1.out I).mono h) Lk.out Lb.out (by omega))
      have hs6 : ∀ W, (Instr.sliceAt 25 (.slice t1 16 d1) none (some (.int .i64 (I : Int))) none).run Tryd.prog W = .ok (.slice t1 I d1) W := fun W => run_head Tryd.underlying25 size_u8 W t1 16 d1 I (by have := D1.out; omega)
      have K7 := Lib.hid (show ∀ w', Below wc.heap.size wc w' → (Below wc.heap.size wc w' ∧ w'.cell? ⟨b13, 0, none⟩ = some (.bool i) ∧ w'.cell? ⟨b13, 1, none⟩ = some (.slice a1 n1 c1) ∧ w'.cell? ⟨b13, 2, none⟩ = some (.bool f)) from fun w' hb => ⟨hb, cells3P (B13.out.up hb).blk⟩)
      go_cut [16, 15] (fun v16 v15 wx => ∃ b15 : Nat, v16 = .bool false ∧ v15 = .pointer (some ⟨b15, 0, none⟩) ∧ BlkT 24 wx b15 (prL i a1 n1 c1 f) ∧ Below wc.heap.size wc wx)
      case first =>
        obtain ⟨-, y0, y3, y4⟩ := K7.out wc (Below.refl _ _)
        have hS0 := Below.refl wc.heap.size wc
        go_region_held3 (fun w' => Below wc.heap.size wc w' ∧ w'.cell? ⟨b13, 0, none⟩ = some (.bool i) ∧ w'.cell? ⟨b13, 1, none⟩ = some (.slice a1 n1 c1) ∧ w'.cell? ⟨b13, 2, none⟩ = some (.bool f))
          (first
            | (apply K7.out; (with_reducible ((try apply bta); (try (apply rset3_below; rotate_left; first | apply Nat.le_refl)); (try apply bta); (try apply bt3 hb5); (try apply bta); (first | apply Below.refl | (apply btd; (try apply bta); apply Below.refl)))))
            | fail)
          ((go_at_call 13; go_split_ands; ((with_reducible refine Calls.mono (K6.out _ (by assumption)) ?_); rintro e w5 ⟨rfl, hb5⟩; (try ((with_reducible have z1 := BlkT.up (BlkT.new _ zeroP _) hb5); have fz1 := z1.blk.frozen; have lz1 := z1.blk.lt; obtain ⟨x0, x1, x2⟩ := cells3P z1.blk)); (try ((with_reducible have z1 := BlkT.up (BlkT.up (BlkT.new _ zeroP _) (bd _)) hb5); have fz1 := z1.blk.frozen; have lz1 := z1.blk.lt; obtain ⟨x0, x1, x2⟩ := cells3P z1.blk)))))
        all_goals
          go_split_ands
          go_wp2_with fail
          go_meet
        · exact ⟨w5.heap.size, rfl, rfl, BlkT.new w5 (prL i a1 n1 c1 f) _, by assumption⟩
        · exact ⟨wc.heap.size, rfl, rfl, rset3 z1, by assumption⟩
      case rest =>
        obtain ⟨b15, rfl, rfl, hB15, hbc⟩ := hcut
        have B15 := Lib.hid hB15
        clear hB15 K6 K7 hs6
        replace B9 := Lib.hid (B9.out.up hbc)
        replace B13 := Lib.hid (B13.out.up hbc)
        replace G := Lib.hid (bt G.out hbc)
        replace S1 := Lib.hid (S1.out.up hbc)
        replace T1 := Lib.hid (T1.out.mono hbc)
        replace D1 := Lib.hid (D1.out)
        clear hbc
        go_upto_region 17 with (fail)
        refine spoilt17_law (Nat.le_refl _) rfl rfl rfl rfl rfl (fun _ _ d _ _ h => by cases d <;> exact h) B15.out T1.out HRl.out (fun a3 c3 W h hx => KC.out (R ++ [by_]) 17 (by rw [List.length_append, HRl.out]; rfl) (ne_len (by rw [List.length_append, HRl.out]; simp)) a1 c1 a3 c3 W (bt G.out h) (S1.out.up h) hx Lk.out Lb.out (by decide)) ?_
        intro x0 x1 x2 x3 x4 x5 x6 x7 x8 x9 x10 x11 x12 b17 wq hB17 hbc
        simp only [fill, Act.put, List.setIfInBounds_toArray, List.set_cons_zero, List.set_cons_succ]
        have B17 := Lib.hid hB17
        replace B9 := Lib.hid (B9.out.up hbc)
        replace B13 := Lib.hid (B13.out.up hbc)
        replace B15 := Lib.hid (B15.out.up hbc)
        replace G := Lib.hid (bt G.out hbc)
        replace S1 := Lib.hid (S1.out.up hbc)
        replace T1 := Lib.hid (T1.out.mono hbc)
        replace D1 := Lib.hid (D1.out)
        clear hbc hB17
        go_upto_region 18 with (fail)
        go_wp2_with (first
                    | (refine wpList_load_blk 24 (.tmp 9) b9 (cs := (prL i a1 n1 c1 f)) rfl rfl rfl B9.out.blk Tryd.underlying24 rfl HI.out ?_)
                    | (refine wpList_load_blk 24 (.tmp 17) b17 (cs := (prL i a1 n1 c1 f)) rfl rfl rfl B17.out.blk Tryd.underlying24 rfl HI.out ?_)
                    | (refine wpList_load_blkP 24 (.tmp 9) b9 (cs := (prL i a1 n1 c1 f)) (by first | rfl | simp [Region.wanted, yielded]) rfl rfl B9.out.blk Tryd.underlying24 rfl HI.out ?_)
                    | (refine wpList_load_blkP 24 (.tmp 17) b17 (cs := (prL i a1 n1 c1 f)) (by first | rfl | simp [Region.wanted, yielded]) rfl rfl B17.out.blk Tryd.underlying24 rfl HI.out ?_))
        refine (KS.out a1 c1 _ S1.out).mono ?_; rintro e y3 ⟨rfl, hb⟩
        replace B9 := Lib.hid (B9.out.up hb)
        replace B13 := Lib.hid (B13.out.up hb)
        replace B15 := Lib.hid (B15.out.up hb)
        replace B17 := Lib.hid (B17.out.up hb)
        replace G := Lib.hid (bt G.out hb)
        replace S1 := Lib.hid (S1.out.up hb)
        replace T1 := Lib.hid (T1.out.mono hb)
        replace D1 := Lib.hid (D1.out)
        clear hb
        go_wp2_with fail
        go_ret
        exact ⟨by simp, G.out⟩
theorem provSpoilt_in (hsh : Shown04OK) (w : World) (hk : KeysAt w) (i : Bool) (a : Option Addr) (n c : Nat) (es : List Ent) (f : Bool) (a1 : Option Addr) (n1 c1 : Nat) (l1 : List UInt8) (a2 : Option Addr) (n2 c2 : Nat) (l2 : List UInt8) (at_ by_ : Int)
    (h : n = es.length ∧ n ≤ c ∧ c ≤ maxLen ∧ EntsAt w a es) (h1 : InBytes w a1 n1 c1 l1) (h2 : InBytes w a2 n2 c2 l2) (ha : (Lit.int .u8 at_).wf = true) (hb : (Lit.int .u8 by_).wf = true) :
    Calls Tryd.prog 7 #[.agg #[.bool i, .slice a n c, .bool f, .slice a1 n1 c1, .slice a2 n2 c2, .int .u8 at_, .int .u8 by_]] w (BoolOut w true) := by
  obtain ⟨rfl, p1, p2, p3⟩ := h
  obtain ⟨rfl, q1, q2, q3⟩ := h1
  obtain ⟨rfl, r1, r2, r3⟩ := h2
  obtain ⟨y, rfl⟩ := exists_bv hb
  simp [Lit.wf, IntKind.min, IntKind.max, IntKind.bits, IntKind.signed] at ha
  obtain ⟨k, rfl⟩ : ∃ k : Nat, at_ = k := ⟨at_.toNat, by omega⟩
  exact provSpoilt_any i f a c es a1 c1 l1 a2 c2 l2 k y (by omega) w p3 p1 p2 q3 r3 hk
end Go.Proofs.YthmcmkdncaccbaaDoor
