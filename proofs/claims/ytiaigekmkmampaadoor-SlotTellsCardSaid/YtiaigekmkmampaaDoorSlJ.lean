/- The walk of the law SlotTells. -/
import Derived.Test.YtiaigekmkmampaaDoorSlI
set_option linter.unusedSimpArgs false
set_option linter.unusedVariables false
namespace Go.Proofs.YtiaigekmkmampaaDoor
open Go.RowKit

theorem ref_new_st (w : World) : Calls Tryd.prog 17 #[] w (StT w (recF 1) zerosL) :=
  (stRefNew_any w).mono fun e w' ⟨v, p, q, r⟩ => by
    obtain ⟨a, c, b, d, rfl, q'⟩ := StF.of q (recF_len 1) rfl
    exact ⟨a, c, b, d, p, q', r⟩
theorem yieldsIf_blkS {P : Program} {ops : Array Oper} {S : World → Prop} {op : Oper} {a : Act} (hw : Region.wanted op (yielded ops a.tmps) = true) (ty : TypeId) (x : Operand) (ho : op.op = .load ty x)
    (g : Nat) {cs : List Value} (hx : a.eval x = .pointer (some ⟨g, 0, none⟩)) {T : TypeId} (hS : ∀ w, S w → BlkT T w g cs) {d : TypeDesc}
    (hu : P.underlying ty = some d) (hd : (match d with | .struct _ | .array _ _ => true | _ => false) = true) (hi : (P.info? ty).map (·.size) = some cs.length) : YieldsIf P ops S op (.agg cs.toArray) a :=
  .inl ⟨hw, fun w hw' => by
    unfold execOp
    simp only [ho, hx, Instr.loadAt, Instr.sureAddr, Sem.run_bind, Sem.run_pure, Result.andThen_ok, run_loadVar_row w g T ty cs.toArray (0, 0) d (hS w hw') hu hd (by simpa using hi)]⟩

set_option maxRecDepth 100000 in
set_option maxHeartbeats 8000000 in
theorem slotTells_any (n : Int) (ba_ : Option Addr) (bc : Nat) (bl : List UInt8) (sa : Option Addr) (sc : Nat) (sb : Option Addr) (sd : Nat) (sl sm : List UInt8) (oa : Option Addr) (oc : Nat) (ob : Option Addr) (od : Nat) (ol om : List UInt8) (w : World)
    (hbl : bl.length ≤ bc) (hbc : bc ≤ maxLen) (hb : BytesAt w ba_ bl) (hs : StAt w (.agg #[.slice sa sl.length sc, .slice sb sm.length sd]) sl sm) (ho : StAt w (.agg #[.slice oa ol.length oc, .slice ob om.length od]) ol om) (hk : KeysAt w) :
    Calls Tryd.prog 3 #[.agg #[.int .i64 n, .slice ba_ bl.length bc, .slice sa sl.length sc, .slice sb sm.length sd, .slice oa ol.length oc, .slice ob om.length od]] w (BoolOut w true) := by
  have HI := Lib.hid store_size
  have Hsh := Lib.hid (fun W (h : Below w.heap.size w W) => shown13 W (hk.mono h))
  have F1 := Lib.hid (fun W (h : Below w.heap.size w W) => stFew_any _ sl sm W (hs.up h))
  have F2 := Lib.hid (fun W (h : Below w.heap.size w W) => stFew_any _ ol om W (ho.up h))
  have K1 := Lib.hid (fun W (h : Below w.heap.size w W) => rec_any n W (hk.mono h))
  have K2 := Lib.hid (fun W (h : Below w.heap.size w W) => refRec_any n W)
  have K3 := Lib.hid (fun W (h : Below w.heap.size w W) => good_any ba_ bc bl hbl hbc W (hb.mono h) (hk.mono h))
  have K4 := Lib.hid (fun W (h : Below w.heap.size w W) => refGood_any ba_ bc bl hbl hbc W (hb.mono h))
  have K5 := Lib.hid (fun W (h : Below w.heap.size w W) => stRefRight_any _ sl sm W (hs.up h))
  have K6 := Lib.hid (fun W (h : Below w.heap.size w W) => stRight_any _ sl sm W (hs.up h))
  have K7 := Lib.hid (fun W (h : Below w.heap.size w W) => stSame_any _ _ sl sm ol om W (hs.up h) (ho.up h))
  have K8 := Lib.hid (fun W (h : Below w.heap.size w W) => stRefSame_any _ _ sl sm ol om W (hs.up h) (ho.up h))
  have K9 := Lib.hid (fun W (h : Below w.heap.size w W) => best_any _ sl sm W (hs.up h) (hk.mono h))
  have K10 := Lib.hid (fun W (h : Below w.heap.size w W) => refBest_any _ sl sm W (hs.up h))
  have KN := Lib.hid (fun W (h : Below w.heap.size w W) => new_st W (hk.mono h))
  have KM := Lib.hid (fun W => ref_new_st W)
  unfold RecA at K1 K2
  unfold GoodOut at K3 K4
  unfold BestOut at K9 K10
  unfold StT at KN KM
  have KQ := Lib.hid (fun (a b p q : Option Addr) (c d r s : Nat) W (h : StF W a c b d (recF 1) zerosL) (h2 : StF W p r q s (recF 1) zerosL) => (show Calls Tryd.prog 15 #[.agg #[.slice a 16 c, .slice b 16 d], .agg #[.slice p 16 r, .slice q 16 s]] W (BoolOut W true) from by
    have h3 := stRefSame_any _ _ _ _ _ _ W h.st h2.st
    rwa [show sameS (recF 1) zerosL (recF 1) zerosL = true by unfold sameS; rw [beq_self_eq_true, beq_self_eq_true]; rfl] at h3))
  have KX := Lib.hid (fun (a b : Option Addr) (c d : Nat) W (h : BytesAt W a (recX n)) (h2 : BytesAt W b (recX n)) => (show Calls Tryd.prog 14 #[.slice a (recX n).length c, .slice b (recX n).length d] W (BoolOut W true) from
    (same01_any a b (recX n).length c (recX n).length d (recX n) (recX n) W rfl rfl h h2).mono fun e w' ⟨p, q⟩ => ⟨by rw [p, beq_self_eq_true], q ▸ Below.refl _ _⟩))
  generalize recX n = X at K1 K2 KX
  obtain ⟨xl, hxl⟩ : ∃ k, k = X.length := ⟨_, rfl⟩
  rw [← hxl] at K1 K2 KX
  generalize recE n = E at K1 K2
  generalize recF 1 = R1 at KN KM KQ
  generalize zerosL = Z0 at KN KM KQ
  obtain ⟨gy, hgy⟩ : ∃ y, y = decide (0 < goodF bl) := ⟨_, rfl⟩
  rw [← hgy] at K3 K4
  generalize goodF bl = gg at K3 K4
  generalize fewS sl sm = f1 at F1
  generalize fewS ol om = f2 at F2
  generalize rightS sl sm = rt at K5 K6
  generalize sameS sl sm ol om = se at K7 K8
  obtain ⟨by_, hby⟩ : ∃ y, y = decide (0 < bestN sl sm) := ⟨_, rfl⟩
  rw [← hby] at K9 K10
  generalize bestN sl sm = bn at K9 K10
  generalize bestAt sl sm = bk at K9 K10
  clear hxl hgy hby hb hs ho hk hbl hbc
  generalize bl.length = bn0 at *
  go_enter Tryd.func3, Tryd.ntmps3
  go_upto_region 5 with (fail)
  generalize hW : World.alloc (World.alloc (World.alloc w _) _) _ = W
  have B5 := Lib.hid (show BlkT 24 W (w.heap.size + 1) [.slice sa sl.length sc, .slice sb sm.length sd] by
    rw [← hW, ← size_alloc w (.cells #[.int .i64 n, .slice ba_ bn0 bc, .slice sa sl.length sc, .slice sb sm.length sd, .slice oa ol.length oc, .slice ob om.length od] 26)]
    exact (BlkT.new _ [.slice sa sl.length sc, .slice sb sm.length sd] 24).up (ba _ _))
  have B6 := Lib.hid (show BlkT 24 W (w.heap.size + 1 + 1) [.slice oa ol.length oc, .slice ob om.length od] by
    rw [← hW, ← size_alloc w (.cells #[.int .i64 n, .slice ba_ bn0 bc, .slice sa sl.length sc, .slice sb sm.length sd, .slice oa ol.length oc, .slice ob om.length od] 26), ← size_alloc _ (.cells #[.slice sa sl.length sc, .slice sb sm.length sd] 24)]
    exact BlkT.new _ [.slice oa ol.length oc, .slice ob om.length od] 24)
  have G := Lib.hid (show Below w.heap.size w W by rw [← hW]; exact bta (bta (ba w _) _) _)
  clear hW
  generalize w.heap.size + 1 + 1 = b6 at B6 ⊢
  generalize w.heap.size + 1 = b5 at B5 ⊢
  go_wp2_with fail
  refine (Hsh.out _ G.out).mono ?_; rintro e y1 ⟨rfl, hb⟩
  replace B5 := Lib.hid (B5.out.up hb)
  replace B6 := Lib.hid (B6.out.up hb)
  replace G := Lib.hid (bt G.out hb)
  clear hb
  by_cases hn : (100 : Int) < (bn0 : Int)
  · go_wp2_with fail
    go_ret
    exact ⟨rfl, G.out⟩
  go_wp2_with (first
        | (refine wpList_load_blk 24 (.tmp 5) b5 (cs := [.slice sa sl.length sc, .slice sb sm.length sd]) rfl rfl rfl B5.out.blk Tryd.underlying24 rfl HI.out ?_)
        | (refine wpList_load_blkS 24 (.tmp 5) b5 (cs := [.slice sa sl.length sc, .slice sb sm.length sd]) (by first | rfl | (simp [Region.wanted, yielded, hn]; done) | (simp [Region.wanted, yielded]; done)) rfl rfl B5.out.blk Tryd.underlying24 rfl HI.out ?_))
  refine (F1.out _ G.out).mono ?_; rintro e y2 ⟨rfl, hb⟩
  replace B5 := Lib.hid (B5.out.up hb)
  replace B6 := Lib.hid (B6.out.up hb)
  replace G := Lib.hid (bt G.out hb)
  clear hb
  rcases f1 with _ | _
  · go_wp2_with fail
    go_ret
    exact ⟨rfl, G.out⟩
  go_wp2_with (first
        | (refine wpList_load_blk 24 (.tmp 6) b6 (cs := [.slice oa ol.length oc, .slice ob om.length od]) rfl rfl rfl B6.out.blk Tryd.underlying24 rfl HI.out ?_)
        | (refine wpList_load_blkS 24 (.tmp 6) b6 (cs := [.slice oa ol.length oc, .slice ob om.length od]) (by first | rfl | (simp [Region.wanted, yielded, hn]; done) | (simp [Region.wanted, yielded]; done)) rfl rfl B6.out.blk Tryd.underlying24 rfl HI.out ?_))
  refine (F2.out _ G.out).mono ?_; rintro e y3 ⟨rfl, hb⟩
  replace B5 := Lib.hid (B5.out.up hb)
  replace B6 := Lib.hid (B6.out.up hb)
  replace G := Lib.hid (bt G.out hb)
  clear hb
  rcases f2 with _ | _
  · go_wp2_with fail
    go_ret
    exact ⟨rfl, G.out⟩
  go_wp2_with fail
  refine (K1.out _ G.out).mono ?_; rintro e y4 ⟨ax, cx, rfl, hX, -, -, hb⟩
  replace B5 := Lib.hid (B5.out.up hb)
  replace B6 := Lib.hid (B6.out.up hb)
  replace G := Lib.hid (bt G.out hb)
  clear hb
  have AX := Lib.hid hX
  clear hX
  go_wp2_with fail
  refine (K2.out _ G.out).mono ?_; rintro e y5 ⟨ay, cy, rfl, hY, -, -, hb⟩
  replace B5 := Lib.hid (B5.out.up hb)
  replace B6 := Lib.hid (B6.out.up hb)
  replace G := Lib.hid (bt G.out hb)
  replace AX := Lib.hid (AX.out.mono hb)
  clear hb
  have AY := Lib.hid hY
  clear hY
  go_wp2_with fail
  refine (K3.out _ G.out).mono ?_; rintro e y6 ⟨rfl, hb⟩
  replace B5 := Lib.hid (B5.out.up hb)
  replace B6 := Lib.hid (B6.out.up hb)
  replace G := Lib.hid (bt G.out hb)
  replace AX := Lib.hid (AX.out.mono hb)
  replace AY := Lib.hid (AY.out.mono hb)
  clear hb
  go_wp2_with fail
  refine (K4.out _ G.out).mono ?_; rintro e y7 ⟨rfl, hb⟩
  replace B5 := Lib.hid (B5.out.up hb)
  replace B6 := Lib.hid (B6.out.up hb)
  replace G := Lib.hid (bt G.out hb)
  replace AX := Lib.hid (AX.out.mono hb)
  replace AY := Lib.hid (AY.out.mono hb)
  clear hb
  go_wp2_with (first
        | (refine wpList_load_blk 24 (.tmp 5) b5 (cs := [.slice sa sl.length sc, .slice sb sm.length sd]) rfl rfl rfl B5.out.blk Tryd.underlying24 rfl HI.out ?_)
        | (refine wpList_load_blkS 24 (.tmp 5) b5 (cs := [.slice sa sl.length sc, .slice sb sm.length sd]) (by first | rfl | (simp [Region.wanted, yielded, hn]; done) | (simp [Region.wanted, yielded]; done)) rfl rfl B5.out.blk Tryd.underlying24 rfl HI.out ?_))
  refine (K5.out _ G.out).mono ?_; rintro e y8 ⟨rfl, hb⟩
  replace B5 := Lib.hid (B5.out.up hb)
  replace B6 := Lib.hid (B6.out.up hb)
  replace G := Lib.hid (bt G.out hb)
  replace AX := Lib.hid (AX.out.mono hb)
  replace AY := Lib.hid (AY.out.mono hb)
  clear hb
  go_upto_region 13 with (fail)
  go_cut [107] (fun v107 wx => v107 = .bool false ∧ BlkT 24 wx b5 [.slice sa sl.length sc, .slice sb sm.length sd] ∧ Below w.heap.size w wx)
  case first =>
    have bv0 := btd G.out
    have Ev0 := B5.out.up (bd _)
    have Fv0 := B6.out.up (bd _)
    have Xv0 := AX.out.mono (bd _)
    have Yv0 := AY.out.mono (bd _)
    refine wp_region_held_drew (S := fun w' => BlkT 24 w' b5 [.slice sa sl.length sc, .slice sb sm.length sd] ∧ BlkT 24 w' b6 [.slice oa ol.length oc, .slice ob om.length od]) (by kernel_rfl) ?_ (fun hHeld => ?_)
    · exact ⟨B5.out.up (bd _), B6.out.up (bd _)⟩
    refine wpAnyH_take (i := 0) (oi := ⟨some 68, _, _, _, _, _⟩) (v := ?_) rfl (by kernel_rfl) (by kernel_rfl) (by kernel_rfl) (fun _ _ _ h => h) (Or.inl ⟨by first | rfl | simp [Region.wanted, yielded], ?_⟩) hHeld ?_
    rotate_left
    · intro w hSw; go_simp; try with_reducible rfl
    try simp only [Act.put, List.setIfInBounds_toArray, List.set_cons_zero, List.set_cons_succ]
    refine wpAnyH_take (i := 1) (oi := ⟨some 69, _, _, _, _, _⟩) (v := ?_) rfl (by kernel_rfl) (by kernel_rfl) (by kernel_rfl) (fun _ _ _ h => h) (Or.inl ⟨by first | rfl | simp [Region.wanted, yielded], ?_⟩) hHeld ?_
    rotate_left
    · intro w hSw; go_simp; try with_reducible rfl
    try simp only [Act.put, List.setIfInBounds_toArray, List.set_cons_zero, List.set_cons_succ]
    refine wpAnyH_ready (rs := [2]) (by kernel_rfl) (by simp) ?_
    refine AllReadyH.cons (o := ⟨some 70, _, _, _, _, _⟩) rfl (fun K hK => ?_) AllReadyH.nil
    go_simp
    (with_reducible refine Calls.mono (KX.out ax ay cx cy _ Xv0 Yv0) ?_); rintro e v1 ⟨rfl, hv1⟩; have Ev1 := Ev0.up hv1; have Fv1 := Fv0.up hv1; have bv1 := bt bv0 hv1
    go_wp2_with fail
    refine hK.out _ _ ?_ (fun hHeld => ?_)
    · exact ⟨Ev1, Fv1⟩
    clear hK K
    try simp only [Act.put, List.setIfInBounds_toArray, List.set_cons_zero, List.set_cons_succ]
    refine wpAnyH_take (i := 3) (oi := ⟨some 71, _, _, _, _, _⟩) (v := ?_) rfl (by kernel_rfl) (by kernel_rfl) (by kernel_rfl) (fun _ _ _ h => h) (Or.inl ⟨by first | rfl | simp [Region.wanted, yielded], ?_⟩) hHeld ?_
    rotate_left
    · intro w hSw; go_simp; try with_reducible rfl
    try simp only [Act.put, List.setIfInBounds_toArray, List.set_cons_zero, List.set_cons_succ]
    refine wpAnyH_take (i := 4) (oi := ⟨some 72, _, _, _, _, _⟩) (v := ?_) rfl (by kernel_rfl) (by kernel_rfl) (by kernel_rfl) (fun _ _ _ h => h) (Or.inl ⟨by first | rfl | simp [Region.wanted, yielded], ?_⟩) hHeld ?_
    rotate_left
    · intro w hSw; go_simp; try with_reducible rfl
    try simp only [Act.put, List.setIfInBounds_toArray, List.set_cons_zero, List.set_cons_succ]
    refine wpAnyH_take (i := 5) (oi := ⟨some 73, _, _, _, _, _⟩) (v := ?_) rfl (by kernel_rfl) (by kernel_rfl) (by kernel_rfl) (fun _ _ _ h => h) (Or.inl ⟨by first | rfl | simp [Region.wanted, yielded], ?_⟩) hHeld ?_
    rotate_left
    · intro w hSw; go_simp; try with_reducible rfl
    try simp only [Act.put, List.setIfInBounds_toArray, List.set_cons_zero, List.set_cons_succ]
    refine wpAnyH_take (i := 6) (oi := ⟨some 74, _, _, _, _, _⟩) (v := ?_) rfl (by kernel_rfl) (by kernel_rfl) (by kernel_rfl) (fun _ _ _ h => h) (Or.inl ⟨by first | rfl | simp [Region.wanted, yielded], ?_⟩) hHeld ?_
    rotate_left
    · intro w hSw; go_simp; try with_reducible rfl
    try simp only [Act.put, List.setIfInBounds_toArray, List.set_cons_zero, List.set_cons_succ]
    refine wpAnyH_take (i := 7) (oi := ⟨some 75, _, _, _, _, _⟩) (v := ?_) rfl (by kernel_rfl) (by kernel_rfl) (by kernel_rfl) (fun _ _ _ h => h) (Or.inl ⟨by first | rfl | simp [Region.wanted, yielded], ?_⟩) hHeld ?_
    rotate_left
    · intro w hSw; go_simp; try with_reducible rfl
    try simp only [Act.put, List.setIfInBounds_toArray, List.set_cons_zero, List.set_cons_succ]
    refine wpAnyH_take (i := 8) (oi := ⟨some 76, _, _, _, _, _⟩) (v := ?_) rfl (by kernel_rfl) (by kernel_rfl) (by kernel_rfl) (fun _ _ _ h => h) (Or.inl ⟨by first | rfl | simp [Region.wanted, yielded], ?_⟩) hHeld ?_
    rotate_left
    · intro w hSw; go_simp; try with_reducible rfl
    try simp only [Act.put, List.setIfInBounds_toArray, List.set_cons_zero, List.set_cons_succ]
    refine wpAnyH_take (i := 9) (oi := ⟨some 77, _, _, _, _, _⟩) (v := ?_) rfl (by kernel_rfl) (by kernel_rfl) (by kernel_rfl) (fun _ _ _ h => h) (Or.inl ⟨by first | rfl | simp [Region.wanted, yielded], ?_⟩) hHeld ?_
    rotate_left
    · intro w hSw; go_simp; try with_reducible rfl
    try simp only [Act.put, List.setIfInBounds_toArray, List.set_cons_zero, List.set_cons_succ]
    refine wpAnyH_take (i := 10) (oi := ⟨some 78, _, _, _, _, _⟩) (v := ?_) rfl (by kernel_rfl) (by kernel_rfl) (by kernel_rfl) (fun _ _ _ h => h) (Or.inl ⟨by first | rfl | simp [Region.wanted, yielded], ?_⟩) hHeld ?_
    rotate_left
    · intro w hSw; go_simp; try with_reducible rfl
    try simp only [Act.put, List.setIfInBounds_toArray, List.set_cons_zero, List.set_cons_succ]
    refine wpAnyH_take (i := 11) (oi := ⟨some 79, _, _, _, _, _⟩) (v := ?_) rfl (by kernel_rfl) (by kernel_rfl) (by kernel_rfl) (fun _ _ _ h => h) (Or.inl ⟨by first | rfl | simp [Region.wanted, yielded], ?_⟩) hHeld ?_
    rotate_left
    · intro w hSw; go_simp; try with_reducible rfl
    try simp only [Act.put, List.setIfInBounds_toArray, List.set_cons_zero, List.set_cons_succ]
    refine wpAnyH_take (i := 12) (oi := ⟨some 80, _, _, _, _, _⟩) (v := ?_) rfl (by kernel_rfl) (by kernel_rfl) (by kernel_rfl) (fun _ _ _ h => h) (Or.inl ⟨by first | rfl | simp [Region.wanted, yielded], ?_⟩) hHeld ?_
    rotate_left
    · intro w hSw; go_simp; try with_reducible rfl
    try simp only [Act.put, List.setIfInBounds_toArray, List.set_cons_zero, List.set_cons_succ]
    refine wpAnyH_take (i := 13) (oi := ⟨some 81, _, _, _, _, _⟩) (v := ?_) rfl (by kernel_rfl) (by kernel_rfl) (by kernel_rfl) (fun _ _ _ h => h) (Or.inl ⟨by first | rfl | simp [Region.wanted, yielded], ?_⟩) hHeld ?_
    rotate_left
    · intro w hSw; go_simp; try with_reducible rfl
    try simp only [Act.put, List.setIfInBounds_toArray, List.set_cons_zero, List.set_cons_succ]
    refine wpAnyH_take (i := 14) (oi := ⟨some 82, _, _, _, _, _⟩) (v := ?_) rfl (by kernel_rfl) (by kernel_rfl) (by kernel_rfl) (fun _ _ _ h => h) (Or.inl ⟨by first | rfl | simp [Region.wanted, yielded], ?_⟩) hHeld ?_
    rotate_left
    · intro w hSw; go_simp; try with_reducible rfl
    try simp only [Act.put, List.setIfInBounds_toArray, List.set_cons_zero, List.set_cons_succ]
    refine wpAnyH_take (i := 15) (oi := ⟨some 83, _, _, _, _, _⟩) (v := ?_) rfl (by kernel_rfl) (by kernel_rfl) (by kernel_rfl) (fun _ _ _ h => h) (Or.inl ⟨by first | rfl | simp [Region.wanted, yielded], ?_⟩) hHeld ?_
    rotate_left
    · intro w hSw; go_simp; try with_reducible rfl
    try simp only [Act.put, List.setIfInBounds_toArray, List.set_cons_zero, List.set_cons_succ]
    refine wpAnyH_take (i := 16) (oi := ⟨some 84, _, _, _, _, _⟩) (v := ?_) rfl (by kernel_rfl) (by kernel_rfl) (by kernel_rfl) (fun _ _ _ h => h) (Or.inl ⟨by first | rfl | simp [Region.wanted, yielded], ?_⟩) hHeld ?_
    rotate_left
    · intro w hSw; go_simp; try with_reducible rfl
    try simp only [Act.put, List.setIfInBounds_toArray, List.set_cons_zero, List.set_cons_succ]
    refine wpAnyH_take (i := 17) (oi := ⟨some 85, _, _, _, _, _⟩) (v := ?_) rfl (by kernel_rfl) (by kernel_rfl) (by kernel_rfl) (fun _ _ _ h => h) (Or.inl ⟨by first | rfl | simp [Region.wanted, yielded], ?_⟩) hHeld ?_
    rotate_left
    · intro w hSw; go_simp; try with_reducible rfl
    try simp only [Act.put, List.setIfInBounds_toArray, List.set_cons_zero, List.set_cons_succ]
    refine wpAnyH_take (i := 18) (oi := ⟨some 86, _, _, _, _, _⟩) (v := ?_) rfl (by kernel_rfl) (by kernel_rfl) (by kernel_rfl) (fun _ _ _ h => h) (Or.inl ⟨by first | rfl | simp [Region.wanted, yielded], ?_⟩) hHeld ?_
    rotate_left
    · intro w hSw; go_simp; try with_reducible rfl
    try simp only [Act.put, List.setIfInBounds_toArray, List.set_cons_zero, List.set_cons_succ]
    refine wpAnyH_take (i := 19) (oi := ⟨some 87, _, _, _, _, _⟩) (v := ?_) rfl (by kernel_rfl) (by kernel_rfl) (by kernel_rfl) (fun _ _ _ h => h) (Or.inl ⟨by first | rfl | simp [Region.wanted, yielded], ?_⟩) hHeld ?_
    rotate_left
    · intro w hSw; go_simp; try with_reducible rfl
    try simp only [Act.put, List.setIfInBounds_toArray, List.set_cons_zero, List.set_cons_succ]
    refine wpAnyH_ready (rs := [20]) (by kernel_rfl) (by simp) ?_
    refine AllReadyH.cons (o := ⟨some 88, _, _, _, _, _⟩) rfl (fun K hK => ?_) AllReadyH.nil
    go_simp
    (with_reducible refine Calls.mono (KN.out _ bv1) ?_); rintro e v2 ⟨na, nc, nb, nd, rfl, hN, hv2⟩; have Ev2 := Ev1.up hv2; have Fv2 := Fv1.up hv2; have bv2 := bt bv1 hv2
    go_wp2_with fail
    refine hK.out _ _ ?_ (fun hHeld => ?_)
    · exact ⟨Ev2, Fv2⟩
    clear hK K
    try simp only [Act.put, List.setIfInBounds_toArray, List.set_cons_zero, List.set_cons_succ]
    refine wpAnyH_ready (rs := [21]) (by kernel_rfl) (by simp) ?_
    refine AllReadyH.cons (o := ⟨some 89, _, _, _, _, _⟩) rfl (fun K hK => ?_) AllReadyH.nil
    go_simp
    (with_reducible refine Calls.mono (KM.out _) ?_); rintro e v3 ⟨ma, mc, mb, md, rfl, hM, hv3⟩; have Ev3 := Ev2.up hv3; have Fv3 := Fv2.up hv3; have bv3 := bt bv2 hv3; have hN3 := hN.up hv3
    go_wp2_with fail
    refine hK.out _ _ ?_ (fun hHeld => ?_)
    · exact ⟨Ev3, Fv3⟩
    clear hK K
    try simp only [Act.put, List.setIfInBounds_toArray, List.set_cons_zero, List.set_cons_succ]
    refine wpAnyH_ready (rs := [22]) (by kernel_rfl) (by simp) ?_
    refine AllReadyH.cons (o := ⟨some 90, _, _, _, _, _⟩) rfl (fun K hK => ?_) AllReadyH.nil
    go_simp
    (with_reducible refine Calls.mono (KQ.out na nb ma mb nc nd mc md _ hN3 hM) ?_); rintro e v4 ⟨rfl, hv4⟩; have Ev4 := Ev3.up hv4; have Fv4 := Fv3.up hv4; have bv4 := bt bv3 hv4
    go_wp2_with fail
    refine hK.out _ _ ?_ (fun hHeld => ?_)
    · exact ⟨Ev4, Fv4⟩
    clear hK K
    try simp only [Act.put, List.setIfInBounds_toArray, List.set_cons_zero, List.set_cons_succ]
    refine wpAnyH_take (i := 23) (oi := ⟨some 91, _, _, _, _, _⟩) (v := ?_) rfl (by kernel_rfl) (by kernel_rfl) (by kernel_rfl) (fun _ _ _ h => h) (Or.inl ⟨by first | rfl | simp [Region.wanted, yielded], ?_⟩) hHeld ?_
    rotate_left
    · intro w hSw; go_simp; try with_reducible rfl
    try simp only [Act.put, List.setIfInBounds_toArray, List.set_cons_zero, List.set_cons_succ]
    refine wpAnyH_take (i := 24) (oi := ⟨some 92, _, _, _, _, _⟩) (v := ?_) rfl (by kernel_rfl) (by kernel_rfl) (by kernel_rfl) (fun _ _ _ h => h) (Or.inl ⟨by first | rfl | simp [Region.wanted, yielded], ?_⟩) hHeld ?_
    rotate_left
    · intro w hSw; go_simp; try with_reducible rfl
    try simp only [Act.put, List.setIfInBounds_toArray, List.set_cons_zero, List.set_cons_succ]
    refine wpAnyH_take (i := 25) (oi := ⟨some 93, _, _, _, _, _⟩) (v := ?_) rfl (by kernel_rfl) (by kernel_rfl) (by kernel_rfl) (fun _ _ _ h => h) (Or.inl ⟨by first | rfl | simp [Region.wanted, yielded], ?_⟩) hHeld ?_
    rotate_left
    · intro w hSw; go_simp; try with_reducible rfl
    try simp only [Act.put, List.setIfInBounds_toArray, List.set_cons_zero, List.set_cons_succ]
    refine wpAnyH_take (i := 26) (oi := ⟨some 94, _, _, _, _, _⟩) (v := .agg ([.slice sa sl.length sc, .slice sb sm.length sd]).toArray) rfl (by kernel_rfl) (by kernel_rfl) (by kernel_rfl) (fun _ _ _ h => h) (yieldsIf_blkS (by first | rfl | (simp [Region.wanted, yielded, hn]; done) | (simp [Region.wanted, yielded]; done)) 24 (.tmp 5) rfl b5 rfl (fun w hw => hw.1) Tryd.underlying24 rfl HI.out) hHeld ?_
    try simp only [Act.put, List.setIfInBounds_toArray, List.set_cons_zero, List.set_cons_succ]
    refine wpAnyH_take (i := 28) (oi := ⟨some 96, _, _, _, _, _⟩) (v := ?_) rfl (by kernel_rfl) (by kernel_rfl) (by kernel_rfl) (fun _ _ _ h => h) (Or.inl ⟨by first | rfl | simp [Region.wanted, yielded], ?_⟩) hHeld ?_
    rotate_left
    · intro w hSw; go_simp; try with_reducible rfl
    try simp only [Act.put, List.setIfInBounds_toArray, List.set_cons_zero, List.set_cons_succ]
    refine wpAnyH_ready (rs := [27]) (by kernel_rfl) (by simp) ?_
    refine AllReadyH.cons (o := ⟨some 95, _, _, _, _, _⟩) rfl (fun K hK => ?_) AllReadyH.nil
    go_simp
    (with_reducible refine Calls.mono (K6.out _ bv4) ?_); rintro e v5 ⟨rfl, hv5⟩; have Ev5 := Ev4.up hv5; have Fv5 := Fv4.up hv5; have bv5 := bt bv4 hv5
    go_wp2_with fail
    refine hK.out _ _ ?_ (fun hHeld => ?_)
    · exact ⟨Ev5, Fv5⟩
    clear hK K
    try simp only [Act.put, List.setIfInBounds_toArray, List.set_cons_zero, List.set_cons_succ]
    refine wpAnyH_take (i := 29) (oi := ⟨some 97, _, _, _, _, _⟩) (v := ?_) rfl (by kernel_rfl) (by kernel_rfl) (by kernel_rfl) (fun _ _ _ h => h) (Or.inl ⟨by first | rfl | simp [Region.wanted, yielded], ?_⟩) hHeld ?_
    rotate_left
    · intro w hSw; go_simp; try with_reducible rfl
    try simp only [Act.put, List.setIfInBounds_toArray, List.set_cons_zero, List.set_cons_succ]
    refine wpAnyH_take (i := 30) (oi := ⟨some 98, _, _, _, _, _⟩) (v := ?_) rfl (by kernel_rfl) (by kernel_rfl) (by kernel_rfl) (fun _ _ _ h => h) (Or.inl ⟨by first | rfl | simp [Region.wanted, yielded], ?_⟩) hHeld ?_
    rotate_left
    · intro w hSw; go_simp; try with_reducible rfl
    try simp only [Act.put, List.setIfInBounds_toArray, List.set_cons_zero, List.set_cons_succ]
    refine wpAnyH_take (i := 31) (oi := ⟨some 99, _, _, _, _, _⟩) (v := ?_) rfl (by kernel_rfl) (by kernel_rfl) (by kernel_rfl) (fun _ _ _ h => h) (Or.inl ⟨by first | rfl | simp [Region.wanted, yielded], ?_⟩) hHeld ?_
    rotate_left
    · intro w hSw; go_simp; try with_reducible rfl
    try simp only [Act.put, List.setIfInBounds_toArray, List.set_cons_zero, List.set_cons_succ]
    refine wpAnyH_take (i := 32) (oi := ⟨some 100, _, _, _, _, _⟩) (v := .agg ([.slice sa sl.length sc, .slice sb sm.length sd]).toArray) rfl (by kernel_rfl) (by kernel_rfl) (by kernel_rfl) (fun _ _ _ h => h) (yieldsIf_blkS (by first | rfl | (simp [Region.wanted, yielded, hn]; done) | (simp [Region.wanted, yielded]; done)) 24 (.tmp 5) rfl b5 rfl (fun w hw => hw.1) Tryd.underlying24 rfl HI.out) hHeld ?_
    try simp only [Act.put, List.setIfInBounds_toArray, List.set_cons_zero, List.set_cons_succ]
    refine wpAnyH_take (i := 33) (oi := ⟨some 101, _, _, _, _, _⟩) (v := .agg ([.slice oa ol.length oc, .slice ob om.length od]).toArray) rfl (by kernel_rfl) (by kernel_rfl) (by kernel_rfl) (fun _ _ _ h => h) (yieldsIf_blkS (by first | rfl | (simp [Region.wanted, yielded, hn]; done) | (simp [Region.wanted, yielded]; done)) 24 (.tmp 6) rfl b6 rfl (fun w hw => hw.2) Tryd.underlying24 rfl HI.out) hHeld ?_
    try simp only [Act.put, List.setIfInBounds_toArray, List.set_cons_zero, List.set_cons_succ]
    refine wpAnyH_take (i := 35) (oi := ⟨some 103, _, _, _, _, _⟩) (v := .agg ([.slice sa sl.length sc, .slice sb sm.length sd]).toArray) rfl (by kernel_rfl) (by kernel_rfl) (by kernel_rfl) (fun _ _ _ h => h) (yieldsIf_blkS (by first | rfl | (simp [Region.wanted, yielded, hn]; done) | (simp [Region.wanted, yielded]; done)) 24 (.tmp 5) rfl b5 rfl (fun w hw => hw.1) Tryd.underlying24 rfl HI.out) hHeld ?_
    try simp only [Act.put, List.setIfInBounds_toArray, List.set_cons_zero, List.set_cons_succ]
    refine wpAnyH_take (i := 36) (oi := ⟨some 104, _, _, _, _, _⟩) (v := .agg ([.slice oa ol.length oc, .slice ob om.length od]).toArray) rfl (by kernel_rfl) (by kernel_rfl) (by kernel_rfl) (fun _ _ _ h => h) (yieldsIf_blkS (by first | rfl | (simp [Region.wanted, yielded, hn]; done) | (simp [Region.wanted, yielded]; done)) 24 (.tmp 6) rfl b6 rfl (fun w hw => hw.2) Tryd.underlying24 rfl HI.out) hHeld ?_
    try simp only [Act.put, List.setIfInBounds_toArray, List.set_cons_zero, List.set_cons_succ]
    refine wpAnyH_ready (rs := [34]) (by kernel_rfl) (by simp) ?_
    refine AllReadyH.cons (o := ⟨some 102, _, _, _, _, _⟩) rfl (fun K hK => ?_) AllReadyH.nil
    go_simp
    (with_reducible refine Calls.mono (K7.out _ bv5) ?_); rintro e v6 ⟨rfl, hv6⟩; have Ev6 := Ev5.up hv6; have Fv6 := Fv5.up hv6; have bv6 := bt bv5 hv6
    go_wp2_with fail
    refine hK.out _ _ ?_ (fun hHeld => ?_)
    · exact ⟨Ev6, Fv6⟩
    clear hK K
    try simp only [Act.put, List.setIfInBounds_toArray, List.set_cons_zero, List.set_cons_succ]
    refine wpAnyH_ready (rs := [37]) (by kernel_rfl) (by simp) ?_
    refine AllReadyH.cons (o := ⟨some 105, _, _, _, _, _⟩) rfl (fun K hK => ?_) AllReadyH.nil
    go_simp
    (with_reducible refine Calls.mono (K8.out _ bv6) ?_); rintro e v7 ⟨rfl, hv7⟩; have Ev7 := Ev6.up hv7; have Fv7 := Fv6.up hv7; have bv7 := bt bv6 hv7
    go_wp2_with fail
    refine hK.out _ _ ?_ (fun hHeld => ?_)
    · exact ⟨Ev7, Fv7⟩
    clear hK K
    try simp only [Act.put, List.setIfInBounds_toArray, List.set_cons_zero, List.set_cons_succ]
    refine wpAnyH_take (i := 38) (oi := ⟨some 106, _, _, _, _, _⟩) (v := ?_) rfl (by kernel_rfl) (by kernel_rfl) (by kernel_rfl) (fun _ _ _ h => h) (Or.inl ⟨by first | rfl | simp [Region.wanted, yielded], ?_⟩) hHeld ?_
    rotate_left
    · intro w hSw; go_simp; try with_reducible rfl
    try simp only [Act.put, List.setIfInBounds_toArray, List.set_cons_zero, List.set_cons_succ]
    refine wpAnyH_take (i := 39) (oi := ⟨some 107, _, _, _, _, _⟩) (v := ?_) rfl (by kernel_rfl) (by kernel_rfl) (by kernel_rfl) (fun _ _ _ h => h) (Or.inl ⟨by first | rfl | simp [Region.wanted, yielded], ?_⟩) hHeld ?_
    rotate_left
    · intro w hSw; go_simp; try with_reducible rfl
    try simp only [Act.put, List.setIfInBounds_toArray, List.set_cons_zero, List.set_cons_succ]
    refine wpAnyH_done (by kernel_rfl) ?_ _
    go_wp2_with fail
    go_meet
    exact ⟨by simp, Ev7, bv7⟩
  case rest =>
    obtain ⟨rfl, hB5, hG⟩ := hcut
    replace B5 := Lib.hid hB5
    replace G := Lib.hid hG
    clear hB5 hG B6 AX AY
    rcases rt with _ | _
    · go_wp2_with fail
      go_ret
      exact ⟨rfl, G.out⟩
    go_wp2_with (first
            | (refine wpList_load_blk 24 (.tmp 5) b5 (cs := [.slice sa sl.length sc, .slice sb sm.length sd]) rfl rfl rfl B5.out.blk Tryd.underlying24 rfl HI.out ?_)
            | (refine wpList_load_blkS 24 (.tmp 5) b5 (cs := [.slice sa sl.length sc, .slice sb sm.length sd]) (by first | rfl | (simp [Region.wanted, yielded, hn]; done) | (simp [Region.wanted, yielded]; done)) rfl rfl B5.out.blk Tryd.underlying24 rfl HI.out ?_))
    refine (K9.out _ G.out).mono ?_; rintro e y9 ⟨rfl, hb⟩
    replace B5 := Lib.hid (B5.out.up hb)
    replace G := Lib.hid (bt G.out hb)
    clear hb
    go_wp2_with (first
            | (refine wpList_load_blk 24 (.tmp 5) b5 (cs := [.slice sa sl.length sc, .slice sb sm.length sd]) rfl rfl rfl B5.out.blk Tryd.underlying24 rfl HI.out ?_)
            | (refine wpList_load_blkS 24 (.tmp 5) b5 (cs := [.slice sa sl.length sc, .slice sb sm.length sd]) (by first | rfl | (simp [Region.wanted, yielded, hn]; done) | (simp [Region.wanted, yielded]; done)) rfl rfl B5.out.blk Tryd.underlying24 rfl HI.out ?_))
    refine (K10.out _ G.out).mono ?_; rintro e y10 ⟨rfl, hb⟩
    replace B5 := Lib.hid (B5.out.up hb)
    replace G := Lib.hid (bt G.out hb)
    clear hb
    go_wp2_with fail
    go_ret
    exact ⟨by simp, G.out⟩
theorem slotTells_in (hsh : Shown13OK) (w : World) (hk : KeysAt w) (n : Int) (a : Option Addr) (la ca : Nat) (l : List UInt8) (a1 : Option Addr) (n1 c1 : Nat) (l1 : List UInt8) (a2 : Option Addr) (n2 c2 : Nat) (l2 : List UInt8) (a3 : Option Addr) (n3 c3 : Nat) (l3 : List UInt8) (a4 : Option Addr) (n4 c4 : Nat) (l4 : List UInt8)
    (hn : (Lit.int .i64 n).wf = true) (h : InBytes w a la ca l) (h1 : InBytes w a1 n1 c1 l1) (h2 : InBytes w a2 n2 c2 l2) (h3 : InBytes w a3 n3 c3 l3) (h4 : InBytes w a4 n4 c4 l4) :
    Calls Tryd.prog 3 #[.agg #[.int .i64 n, .slice a la ca, .slice a1 n1 c1, .slice a2 n2 c2, .slice a3 n3 c3, .slice a4 n4 c4]] w (BoolOut w true) := by
  obtain ⟨rfl, p1, p2, p3⟩ := h
  obtain ⟨rfl, q1, q2, q3⟩ := h1
  obtain ⟨rfl, r1, r2, r3⟩ := h2
  obtain ⟨rfl, s1, s2, s3⟩ := h3
  obtain ⟨rfl, t1, t2, t3⟩ := h4
  exact slotTells_any n a ca l a1 c1 a2 c2 l1 l2 a3 c3 a4 c4 l3 l4 w p1 p2 p3 ⟨a1, c1, a2, c2, rfl, ⟨q1, q2⟩, ⟨r1, r2⟩, q3, r3⟩ ⟨a3, c3, a4, c4, rfl, ⟨s1, s2⟩, ⟨t1, t2⟩, s3, t3⟩ hk
end Go.Proofs.YtiaigekmkmampaaDoor
