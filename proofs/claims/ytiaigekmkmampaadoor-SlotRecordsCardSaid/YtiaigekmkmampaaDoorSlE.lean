/- Stores: behind an epoch that was given. -/
import Derived.Test.YtiaigekmkmampaaDoorSlD
import Derived.Deep.DeepCutAuto
set_option linter.unusedSimpArgs false
set_option linter.unusedVariables false
namespace Go.Proofs.YtiaigekmkmampaaDoor
open Go.RowKit

theorem results_cell_two {fn : Func} {p u v : Tmp} {ty : TypeId} (h : fn.results = #[.cell p ty, .tmp u, .tmp v]) (tmps : Array Value) (P : Program) (w : World) :
    (results fn tmps).run P w =
      ((asAddr (tmps.getD p undef)).run P w).andThen fun a w₁ => ((loadVar ty a).run P w₁).andThen fun x w₂ => .ok (.tuple #[x, tmps.getD u undef, tmps.getD v undef]) w₂ := by
  simp only [results, h]
  simp [Sem.run_bind, Result.andThen]
theorem results_blk_two {P : Program} {fn : Func} {p u v : Tmp} {ty : TypeId} (h : fn.results = #[.cell p ty, .tmp u, .tmp v]) (tmps : Array Value) (w : World) (g : Nat) {cs : List Value} {d : TypeDesc}
    (hp : tmps.getD p undef = .pointer (some ⟨g, 0, none⟩)) (v2 v3 : Value) (hv : tmps.getD u undef = v2) (hv3 : tmps.getD v undef = v3) (hb : Blk w g cs) (hu : P.underlying ty = some d) (hd : (match d with | .struct _ | .array _ _ => true | _ => false) = true) (hi : (P.info? ty).map (·.size) = some cs.length) :
    (results fn tmps).run P w = .ok (.tuple #[.agg cs.toArray, v2, v3]) w := by
  obtain ⟨T, hg⟩ := hb
  rw [results_cell_two h, hp, hv, hv3]
  simp [asAddr, run_loadVar_row w g T ty cs.toArray _ d hg hu hd (by simpa using hi)]
/-- a store behind an epoch, as a result -/
def TakeS (w : World) (l m : List UInt8) (n e : Nat) (x : Ending) (w' : World) : Prop := ∃ v, x = .returned (.tuple #[v, .int .i64 n, .int .i64 e]) ∧ StAt w' v l m ∧ Below w.heap.size w w'
/-- a slot of which so much was written anew -/
theorem wrote_any (R o : List UInt8) (hR : R.length = 16) (ho : o.length = 16) (a b : Option Addr) (c d K : Nat) (hK : K ≤ 16) (hd : 16 ≤ d) (W : World) (g : Nat) (hB : Blk W g [.slice a K c, .slice (adv b d K 1) (16 - K) (d - K)]) (hr : BytesAt W a R) (hl : BytesAt W b o) :
    Calls Tryd.prog 31 #[.slice (some ⟨g, 0, none⟩) 2 2] W fun e w' => ∃ a' c', e = .returned (.slice a' 16 c') ∧ OwnR W w' (.slice a' 16 c') (R.take K ++ o.drop K) := by
  have e1 : (R.take K).length = K := by rw [List.length_take, hR]; omega
  have e2 : (o.drop K).length = 16 - K := by rw [List.length_drop, ho]
  have hB : Blk W g [.slice a (R.take K).length c, .slice (adv b d K 1) (o.drop K).length (d - K)] := by
    rw [e1, e2]; exact hB
  have h := concat_any g a (adv b d K 1) c (d - K) (R.take K) (o.drop K) _ (by omega) (by omega) hB (hr.take K) (BytesAt.adv hl ho hd)
  refine h.mono fun e w' ⟨a', c', p, q⟩ => ?_
  have hlen : (R.take K ++ o.drop K).length = 16 := by rw [List.length_append, e1, e2]; omega
  rw [hlen] at p q
  exact ⟨a', c', p, OwnR.of hlen.symm q⟩

/-- what a store's block holds, told apart by its type -/
structure StB (w0 w : World) (b : Nat) (v0 v1 : Value) : Prop where
  blk : BlkT 24 w b [v0, v1]
  ge : w0.heap.size ≤ b
  bel : Below w0.heap.size w0 w
theorem StB.up {w0 w w' : World} {b : Nat} {v0 v1 : Value} (h : StB w0 w b v0 v1) (hb : Below w.heap.size w w') : StB w0 w' b v0 v1 := ⟨h.blk.up hb, h.ge, bt h.bel hb⟩

set_option maxRecDepth 100000 in
set_option maxHeartbeats 2000000 in
theorem take_core (l m : List UInt8) (hl : l.length = 16) (hm : m.length = 16) (a b : Option Addr) (c d : Nat) (hc : 16 ≤ c ∧ c ≤ maxLen) (hd : 16 ≤ d ∧ d ≤ maxLen) (cut : Int) (w : World) (ha : BytesAt w a l) (hb : BytesAt w b m) (hk : KeysAt w) :
    Calls Tryd.prog 22 #[.agg #[.slice a 16 c, .slice b 16 d], .int .i64 cut] w (TakeS w (takeA l m cut) (takeB l m cut) (takeN l m cut) (takeE l m cut)) := by
  have HI := Lib.hid store_size
  have HB := Lib.hid (fun (W : World) (h : Below w.heap.size w W) => best_any (.agg #[.slice a 16 c, .slice b 16 d]) l m W ⟨a, c, b, d, by rw [hl, hm], by rw [hl]; exact hc, by rw [hm]; exact hd, ha.mono h, hb.mono h⟩ (hk.mono h))
  unfold BestOut at HB
  have Ha := Lib.hid ha
  have Hb := Lib.hid hb
  have Hk := Lib.hid hk
  have Hl := Lib.hid hl
  have Hm := Lib.hid hm
  have Hc := Lib.hid hc
  have Hd := Lib.hid hd
  by_cases h0 : bestN l m = 0
  · have e1 : takeA l m cut = l := by unfold takeA; rw [if_pos (.inl h0)]
    have e2 : takeB l m cut = m := by unfold takeB; rw [if_pos (.inl h0)]
    have e3 : takeE l m cut = 12 := by unfold takeE; rw [if_pos h0]
    have e4 : takeN l m cut = 0 := by unfold takeN; rw [e3, if_neg (by decide)]
    rw [e1, e2, e3, e4]
    rw [h0] at HB
    clear e1 e2 e3 e4 h0 ha hb hk hl hm hc hd
    go_enter Tryd.func22, Tryd.ntmps22
    go_wp2_with fail
    generalize hW : World.alloc (World.alloc w _) _ = W
    have B1 := Lib.hid (show BlkT 24 W w.heap.size [.slice a 16 c, .slice b 16 d] by rw [← hW]; exact (BlkT.new w [.slice a 16 c, .slice b 16 d] 24).up (ba _ _))
    have B2 := Lib.hid (show BlkT 24 W (w.heap.size + 1) zero2 by rw [← hW, ← size_alloc w (.cells ([.slice a 16 c, .slice b 16 d] : List Value).toArray 24)]; exact BlkT.new _ zero2 _)
    have Hw := Lib.hid (show Below w.heap.size w W by rw [← hW]; exact bta (ba w _) _)
    have hn2 : w.heap.size ≤ w.heap.size + 1 := Nat.le_succ _
    have hne : w.heap.size ≠ w.heap.size + 1 := by omega
    clear hW
    generalize w.heap.size + 1 = n2 at B2 hn2 hne ⊢
    go_wp2_with (refine wpList_load_blk 24 (.tmp 2) w.heap.size (cs := [.slice a 16 c, .slice b 16 d]) rfl rfl rfl B1.out.blk Tryd.underlying24 rfl HI.out ?_)
    refine (HB.out _ Hw.out).mono ?_; rintro e w1 ⟨rfl, hb1⟩
    replace B1 := Lib.hid (B1.out.up hb1)
    replace B2 := Lib.hid (B2.out.up hb1)
    replace Hw := Lib.hid (bt Hw.out hb1)
    clear hb1
    go_wp2_with (first | (refine wpList_load_blk 24 (.tmp 2) w.heap.size (cs := [.slice a 16 c, .slice b 16 d]) rfl rfl rfl B1.out.blk Tryd.underlying24 rfl HI.out ?_) | (refine wpList_store_blk 24 (.tmp 4) (.tmp 21) n2 (old := zero2) (cs := [.slice a 16 c, .slice b 16 d]) rfl rfl rfl rfl B2.out.blk HI.out rfl rfl ?_))
    refine bodyPost_ret (results_blk_two rfl _ _ n2 (cs := [.slice a 16 c, .slice b 16 d]) rfl _ _ rfl rfl ((B2.out.row [.slice a 16 c, .slice b 16 d]).blk) Tryd.underlying24 rfl HI.out) rfl ?_
    have hbl := below_setRow Hw.out hn2 ([.slice a 16 c, .slice b 16 d] : List Value).toArray
    exact ⟨_, rfl, ⟨a, c, b, d, by rw [Hl.out, Hm.out], by rw [Hl.out]; exact Hc.out, by rw [Hm.out]; exact Hd.out, Ha.out.mono hbl, Hb.out.mono hbl⟩, hbl⟩
  · have hle := bestN_le l m
    obtain ⟨N, hN⟩ : ∃ N, N = bestN l m := ⟨_, rfl⟩
    obtain ⟨A, hA⟩ : ∃ A, A = bestAt l m := ⟨_, rfl⟩
    have hA2 := bestAt_two l m
    rw [← hA] at hA2
    rw [← hN] at h0 hle
    have hpos : 0 < N := Nat.pos_of_ne_zero h0
    have hdec : decide (0 < N) = true := decide_eq_true hpos
    rw [← hN, ← hA, hdec] at HB
    have hlast : lastN = 4611686018427387904 := rfl
    have hN0 : (0 : Int) ≤ (N : Int) := by omega
    have hN1 : (N : Int) ≤ 4611686018427387904 := by omega
    have hw1 : IntKind.i64.wrap ((N : Int) + 1) = (N : Int) + 1 := by rw [IntKind.wrap_i64]; omega
    by_cases h1 : N = lastN
    · have e1 : takeA l m cut = l := by unfold takeA; rw [if_pos (.inr (by rw [← hN, h1]))]
      have e2 : takeB l m cut = m := by unfold takeB; rw [if_pos (.inr (by rw [← hN, h1]))]
      have e3 : takeE l m cut = 10 := by unfold takeE; rw [← hN, if_neg h0, if_pos h1]
      have e4 : takeN l m cut = 0 := by unfold takeN; rw [e3, if_neg (by decide)]
      rw [e1, e2, e3, e4]
      have HR := Lib.hid (fun W => rec_bad ((N : Int) + 1) (.inr (by omega)) W)
      clear e1 e2 e3 e4 h0 h1 ha hb hk hl hm hc hd hN hA hA2 hdec hle hlast hpos
      go_enter Tryd.func22, Tryd.ntmps22
      go_wp2_with fail
      generalize hW : World.alloc (World.alloc w _) _ = W
      have B1 := Lib.hid (show BlkT 24 W w.heap.size [.slice a 16 c, .slice b 16 d] by rw [← hW]; exact (BlkT.new w [.slice a 16 c, .slice b 16 d] 24).up (ba _ _))
      have B2 := Lib.hid (show BlkT 24 W (w.heap.size + 1) zero2 by rw [← hW, ← size_alloc w (.cells ([.slice a 16 c, .slice b 16 d] : List Value).toArray 24)]; exact BlkT.new _ zero2 _)
      have Hw := Lib.hid (show Below w.heap.size w W by rw [← hW]; exact bta (ba w _) _)
      have hn2 : w.heap.size ≤ w.heap.size + 1 := Nat.le_succ _
      have hne : w.heap.size ≠ w.heap.size + 1 := by omega
      clear hW
      generalize w.heap.size + 1 = n2 at B2 hn2 hne ⊢
      go_wp2_with (refine wpList_load_blk 24 (.tmp 2) w.heap.size (cs := [.slice a 16 c, .slice b 16 d]) rfl rfl rfl B1.out.blk Tryd.underlying24 rfl HI.out ?_)
      refine (HB.out _ Hw.out).mono ?_; rintro e w1 ⟨rfl, hb1⟩
      replace B1 := Lib.hid (B1.out.up hb1)
      replace B2 := Lib.hid (B2.out.up hb1)
      replace Hw := Lib.hid (bt Hw.out hb1)
      clear hb1
      go_wp2_with fail
      refine (HR.out _).mono ?_; rintro e w3 ⟨rfl, rfl⟩
      go_wp2_with (first | (refine wpList_load_blk 24 (.tmp 2) w.heap.size (cs := [.slice a 16 c, .slice b 16 d]) rfl rfl rfl B1.out.blk Tryd.underlying24 rfl HI.out ?_) | (refine wpList_store_blk 24 (.tmp 4) (.tmp 30) n2 (old := zero2) (cs := [.slice a 16 c, .slice b 16 d]) rfl rfl rfl rfl B2.out.blk HI.out rfl rfl ?_))
      refine bodyPost_ret (results_blk_two rfl _ _ n2 (cs := [.slice a 16 c, .slice b 16 d]) rfl _ _ rfl rfl ((B2.out.row [.slice a 16 c, .slice b 16 d]).blk) Tryd.underlying24 rfl HI.out) rfl ?_
      have hbl := below_setRow Hw.out hn2 ([.slice a 16 c, .slice b 16 d] : List Value).toArray
      exact ⟨_, rfl, ⟨a, c, b, d, by rw [Hl.out, Hm.out], by rw [Hl.out]; exact Hc.out, by rw [Hm.out]; exact Hd.out, Ha.out.mono hbl, Hb.out.mono hbl⟩, hbl⟩
    · have HR0 := rec_ok (N + 1) (by omega) (by omega)
      rw [show ((N + 1 : Nat) : Int) = (N : Int) + 1 by omega] at HR0
      have HR := Lib.hid HR0
      clear HR0
      obtain ⟨R, hR⟩ : ∃ R, R = recF (N + 1) := ⟨_, rfl⟩
      have HRl := Lib.hid (show R.length = 16 by rw [hR, recF_len])
      unfold RecOut at HR
      rw [← hR] at HR
      have hno : ¬ (bestN l m = 0 ∨ bestN l m = lastN) := by rw [← hN]; omega
      by_cases ht : 0 ≤ cut ∧ cut < 16
      · obtain ⟨K, rfl⟩ := Int.eq_ofNat_of_zero_le ht.1
        have hmany : manyF (K : Int) = K := by unfold manyF; rw [if_pos ht]; exact Int.toNat_natCast K
        have hK16 : K < 16 := by omega
        have e3 : takeE l m (K : Int) = 11 := by unfold takeE; rw [← hN, if_neg h0, if_neg h1, hmany, if_pos hK16]
        have e4 : takeN l m (K : Int) = 0 := by unfold takeN; rw [e3, if_neg (by decide)]
        have hK : K ≤ 16 := by omega
        have hd1 : (0 : Int) ≤ (K : Int) := by omega
        have hd2 : (K : Int) < 16 := by omega
        rw [e3, e4]
        clear ht hK16
        rcases hA2 with rfl | rfl
        · have e1 : takeA l m (K : Int) = l := by unfold takeA; rw [if_neg hno, ← hA, if_neg (by decide)]
          obtain ⟨L, hL⟩ : ∃ L, L = R.take K ++ m.drop K := ⟨_, rfl⟩
          have e2 : takeB l m (K : Int) = L := by unfold takeB; rw [if_neg hno, ← hA, if_neg (by decide), hmany, ← hN, hL, hR]; rfl
          have HLl := Lib.hid (show L.length = 16 by rw [hL, List.length_append, List.length_take, List.length_drop, HRl.out, hm]; omega)
          have HL := Lib.hid hL
          have HK := Lib.hid hK
          rw [e1, e2]
          clear e1 e2 e3 e4 h0 h1 ha hb hk hl hm hc hd hN hA hdec hle hlast hpos hR hno hmany hL hK
          go_enter Tryd.func22, Tryd.ntmps22
          go_wp2_with fail
          generalize hW : World.alloc (World.alloc w _) _ = W
          have B1 := Lib.hid (show BlkT 24 W w.heap.size [.slice a 16 c, .slice b 16 d] by rw [← hW]; exact (BlkT.new w [.slice a 16 c, .slice b 16 d] 24).up (ba _ _))
          have B2 := Lib.hid (show BlkT 24 W (w.heap.size + 1) zero2 by rw [← hW, ← size_alloc w (.cells ([.slice a 16 c, .slice b 16 d] : List Value).toArray 24)]; exact BlkT.new _ zero2 _)
          have Hw := Lib.hid (show Below w.heap.size w W by rw [← hW]; exact bta (ba w _) _)
          have hn2 : w.heap.size ≤ w.heap.size + 1 := Nat.le_succ _
          have hne : w.heap.size ≠ w.heap.size + 1 := by omega
          clear hW
          generalize w.heap.size + 1 = n2 at B2 hn2 hne ⊢
          go_wp2_with (refine wpList_load_blk 24 (.tmp 2) w.heap.size (cs := [.slice a 16 c, .slice b 16 d]) rfl rfl rfl B1.out.blk Tryd.underlying24 rfl HI.out ?_)
          refine (HB.out _ Hw.out).mono ?_; rintro e w1 ⟨rfl, hb1⟩
          replace B1 := Lib.hid (B1.out.up hb1)
          replace B2 := Lib.hid (B2.out.up hb1)
          replace Hw := Lib.hid (bt Hw.out hb1)
          clear hb1
          go_wp2_with fail
          refine (HR.out _ (Hk.out.mono Hw.out)).mono ?_; rintro e w3 ⟨a3, c3, rfl, ho3⟩
          have H3 := Lib.hid ho3.at
          have Hc3 := Lib.hid (show 16 ≤ c3 by have h := ho3.buf.cap; rw [HRl.out] at h; exact h.2.1)
          replace B1 := Lib.hid (B1.out.up ho3.bel)
          replace B2 := Lib.hid (B2.out.up ho3.bel)
          replace Hw := Lib.hid (bt Hw.out ho3.bel)
          clear ho3
          have Hc0 := Lib.hid (show ∀ W, Below w3.heap.size w3 W → W.cell? ⟨w.heap.size, 1, none⟩ = some (.slice b 16 d) ∧ W.frozen? ⟨w.heap.size, 1, none⟩ = false from fun W h => ⟨(B1.out.up h).blk.cell 1 (by simp), (B1.out.up h).blk.frozen 1⟩)
          obtain ⟨hS0, hS1⟩ := Hc0.out w3 (Below.refl _ _)
          have hs1 : ∀ W, (Instr.sliceAt 22 (.slice a3 16 c3) none (some (.int .i64 (K : Int))) none).run Tryd.prog W = .ok (.slice a3 K c3) W := fun W => by
            have h := run_head Tryd.underlying22 size_u8 W a3 16 c3 K (by have := Hc3.out; have := HK.out; omega); exact h
          have hs2 : ∀ W, (Instr.sliceAt 22 (.slice b 16 d) (some (.int .i64 (K : Int))) none none).run Tryd.prog W = .ok (.slice (adv b d K 1) (16 - K) (d - K)) W := fun W => by
            have h := run_tail Tryd.underlying22 size_u8 W b 16 d K HK.out; exact h
          have HC := Lib.hid (fun (W : World) (g : Nat) (hB : Blk W g [.slice a3 K c3, .slice (adv b d K 1) (16 - K) (d - K)]) (h : Below w3.heap.size w3 W) => (show Calls Tryd.prog 31 #[.slice (some ⟨g, 0, none⟩) 2 2] W fun e w' => ∃ a' c', e = .returned (.slice a' 16 c') ∧ OwnR W w' (.slice a' 16 c') L from by rw [HL.out]; exact wrote_any R m HRl.out Hm.out a3 b c3 d K HK.out Hd.out.1 W g hB (H3.out.mono h) (Hb.out.mono (bt Hw.out h))))
          go_wp2_with fail
          try clear ht1 ht2
          go_region_with
            ((go_at_call 31; (with_reducible refine Calls.mono (HC.out _ _ (by first | exact (Blk.new w3 _ _).drew | exact Blk.new _ _ _) (by first | exact btd (ba _ _) | exact bta (bd _) _)) ?_); rintro e w6 ⟨a6, c6, rfl, h6⟩; have h7 : Below w3.heap.size w3 w6 := (by first | exact bt (btd (ba _ _)) h6.bel | exact bt (bta (bd _) _) h6.bel); have h8 : OwnR w3 w6 (.slice a6 16 c6) L := ⟨own_base h6.own (by first | exact (btd (ba _ _)).size | exact (bta (bd _) _).size), h7⟩; clear h6; obtain ⟨k0, k1⟩ := Hc0.out w6 h7))
          all_goals
            have hlt := B1.out.blk.lt
            have hcap := Lib.hid (show 16 ≤ c6 ∧ c6 ≤ maxLen by have h := h8.buf.cap; rw [HLl.out] at h; exact h.2)
            have gO := Lib.hid (show OwnB w3.heap.size (w6.setCell ⟨w.heap.size, 1, none⟩ (.slice a6 16 c6)) (.slice a6 16 c6) 16 (B8s L) from ⟨by have h := h8.own; rw [HLl.out] at h; exact ownsRow_setCell_below h (a := ⟨w.heap.size, 1, none⟩) hlt (.slice a6 16 c6), by simpa using h8.bel.size⟩)
            replace B1 := Lib.hid (show BlkT 24 (w6.setCell ⟨w.heap.size, 1, none⟩ (.slice a6 16 c6)) w.heap.size [.slice a 16 c, .slice a6 16 c6] from (B1.out.up h8.bel).set 1 _)
            replace B2 := Lib.hid ((B2.out.up h8.bel).other (g := w.heap.size) (j := 1) (fun h => hne h.symm) (.slice a6 16 c6))
            replace Hw := Lib.hid (show Below w.heap.size w (w6.setCell ⟨w.heap.size, 1, none⟩ (.slice a6 16 c6)) from (bt Hw.out h8.bel).setCell (Nat.le_refl _) _)
            clear h7 h8 k0 k1 hlt hS0 hS1 hs1 hs2 Hc0 HC
            generalize w6.setCell ⟨w.heap.size, 1, none⟩ (.slice a6 16 c6) = W9 at B1 B2 Hw gO ⊢
            go_wp2_with (first | (refine wpList_load_blk 24 (.tmp 2) w.heap.size (cs := [.slice a 16 c, .slice a6 16 c6]) rfl rfl rfl B1.out.blk Tryd.underlying24 rfl HI.out ?_) | (refine wpList_store_blk 24 (.tmp 4) (.tmp 62) n2 (old := zero2) (cs := [.slice a 16 c, .slice a6 16 c6]) rfl rfl rfl rfl B2.out.blk HI.out rfl rfl ?_))
            refine bodyPost_ret (results_blk_two rfl _ _ n2 (cs := [.slice a 16 c, .slice a6 16 c6]) rfl _ _ rfl rfl ((B2.out.row [.slice a 16 c, .slice a6 16 c6]).blk) Tryd.underlying24 rfl HI.out) rfl ?_
            have hbl := below_setRow Hw.out hn2 ([.slice a 16 c, .slice a6 16 c6] : List Value).toArray
            exact ⟨_, rfl, ⟨a, c, a6, c6, by rw [Hl.out, HLl.out], by rw [Hl.out]; exact Hc.out, by rw [HLl.out]; exact hcap.out, Ha.out.mono hbl, (gO.out.row B2.out (by decide) _).at⟩, hbl⟩
        · have e2 : takeB l m (K : Int) = m := by unfold takeB; rw [if_neg hno, ← hA, if_pos rfl]
          obtain ⟨L, hL⟩ : ∃ L, L = R.take K ++ l.drop K := ⟨_, rfl⟩
          have e1 : takeA l m (K : Int) = L := by unfold takeA; rw [if_neg hno, ← hA, if_pos rfl, hmany, ← hN, hL, hR]; rfl
          have HLl := Lib.hid (show L.length = 16 by rw [hL, List.length_append, List.length_take, List.length_drop, HRl.out, hl]; omega)
          have HL := Lib.hid hL
          have HK := Lib.hid hK
          rw [e1, e2]
          clear e1 e2 e3 e4 h0 h1 ha hb hk hl hm hc hd hN hA hdec hle hlast hpos hR hno hmany hL hK
          go_enter Tryd.func22, Tryd.ntmps22
          go_wp2_with fail
          generalize hW : World.alloc (World.alloc w _) _ = W
          have B1 := Lib.hid (show BlkT 24 W w.heap.size [.slice a 16 c, .slice b 16 d] by rw [← hW]; exact (BlkT.new w [.slice a 16 c, .slice b 16 d] 24).up (ba _ _))
          have B2 := Lib.hid (show BlkT 24 W (w.heap.size + 1) zero2 by rw [← hW, ← size_alloc w (.cells ([.slice a 16 c, .slice b 16 d] : List Value).toArray 24)]; exact BlkT.new _ zero2 _)
          have Hw := Lib.hid (show Below w.heap.size w W by rw [← hW]; exact bta (ba w _) _)
          have hn2 : w.heap.size ≤ w.heap.size + 1 := Nat.le_succ _
          have hne : w.heap.size ≠ w.heap.size + 1 := by omega
          clear hW
          generalize w.heap.size + 1 = n2 at B2 hn2 hne ⊢
          go_wp2_with (refine wpList_load_blk 24 (.tmp 2) w.heap.size (cs := [.slice a 16 c, .slice b 16 d]) rfl rfl rfl B1.out.blk Tryd.underlying24 rfl HI.out ?_)
          refine (HB.out _ Hw.out).mono ?_; rintro e w1 ⟨rfl, hb1⟩
          replace B1 := Lib.hid (B1.out.up hb1)
          replace B2 := Lib.hid (B2.out.up hb1)
          replace Hw := Lib.hid (bt Hw.out hb1)
          clear hb1
          go_wp2_with fail
          refine (HR.out _ (Hk.out.mono Hw.out)).mono ?_; rintro e w3 ⟨a3, c3, rfl, ho3⟩
          have H3 := Lib.hid ho3.at
          have Hc3 := Lib.hid (show 16 ≤ c3 by have h := ho3.buf.cap; rw [HRl.out] at h; exact h.2.1)
          replace B1 := Lib.hid (B1.out.up ho3.bel)
          replace B2 := Lib.hid (B2.out.up ho3.bel)
          replace Hw := Lib.hid (bt Hw.out ho3.bel)
          clear ho3
          have Hc0 := Lib.hid (show ∀ W, Below w3.heap.size w3 W → W.cell? ⟨w.heap.size, 0, none⟩ = some (.slice a 16 c) ∧ W.frozen? ⟨w.heap.size, 0, none⟩ = false from fun W h => ⟨(B1.out.up h).blk.cell 0 (by simp), (B1.out.up h).blk.frozen 0⟩)
          obtain ⟨hS0, hS1⟩ := Hc0.out w3 (Below.refl _ _)
          have hs1 : ∀ W, (Instr.sliceAt 22 (.slice a3 16 c3) none (some (.int .i64 (K : Int))) none).run Tryd.prog W = .ok (.slice a3 K c3) W := fun W => by
            have h := run_head Tryd.underlying22 size_u8 W a3 16 c3 K (by have := Hc3.out; have := HK.out; omega); exact h
          have hs2 : ∀ W, (Instr.sliceAt 22 (.slice a 16 c) (some (.int .i64 (K : Int))) none none).run Tryd.prog W = .ok (.slice (adv a c K 1) (16 - K) (c - K)) W := fun W => by
            have h := run_tail Tryd.underlying22 size_u8 W a 16 c K HK.out; exact h
          have HC := Lib.hid (fun (W : World) (g : Nat) (hB : Blk W g [.slice a3 K c3, .slice (adv a c K 1) (16 - K) (c - K)]) (h : Below w3.heap.size w3 W) => (show Calls Tryd.prog 31 #[.slice (some ⟨g, 0, none⟩) 2 2] W fun e w' => ∃ a' c', e = .returned (.slice a' 16 c') ∧ OwnR W w' (.slice a' 16 c') L from by rw [HL.out]; exact wrote_any R l HRl.out Hl.out a3 a c3 c K HK.out Hc.out.1 W g hB (H3.out.mono h) (Ha.out.mono (bt Hw.out h))))
          go_wp2_with fail
          try clear ht1 ht2
          go_region_with
            ((go_at_call 31; (with_reducible refine Calls.mono (HC.out _ _ (by first | exact (Blk.new w3 _ _).drew | exact Blk.new _ _ _) (by first | exact btd (ba _ _) | exact bta (bd _) _)) ?_); rintro e w6 ⟨a6, c6, rfl, h6⟩; have h7 : Below w3.heap.size w3 w6 := (by first | exact bt (btd (ba _ _)) h6.bel | exact bt (bta (bd _) _) h6.bel); have h8 : OwnR w3 w6 (.slice a6 16 c6) L := ⟨own_base h6.own (by first | exact (btd (ba _ _)).size | exact (bta (bd _) _).size), h7⟩; clear h6; obtain ⟨k0, k1⟩ := Hc0.out w6 h7))
          all_goals
            have hlt := B1.out.blk.lt
            have hcap := Lib.hid (show 16 ≤ c6 ∧ c6 ≤ maxLen by have h := h8.buf.cap; rw [HLl.out] at h; exact h.2)
            have gO := Lib.hid (show OwnB w3.heap.size (w6.setCell ⟨w.heap.size, 0, none⟩ (.slice a6 16 c6)) (.slice a6 16 c6) 16 (B8s L) from ⟨by have h := h8.own; rw [HLl.out] at h; exact ownsRow_setCell_below h (a := ⟨w.heap.size, 0, none⟩) hlt (.slice a6 16 c6), by simpa using h8.bel.size⟩)
            replace B1 := Lib.hid (show BlkT 24 (w6.setCell ⟨w.heap.size, 0, none⟩ (.slice a6 16 c6)) w.heap.size [.slice a6 16 c6, .slice b 16 d] from (B1.out.up h8.bel).set 0 _)
            replace B2 := Lib.hid ((B2.out.up h8.bel).other (g := w.heap.size) (j := 0) (fun h => hne h.symm) (.slice a6 16 c6))
            replace Hw := Lib.hid (show Below w.heap.size w (w6.setCell ⟨w.heap.size, 0, none⟩ (.slice a6 16 c6)) from (bt Hw.out h8.bel).setCell (Nat.le_refl _) _)
            clear h7 h8 k0 k1 hlt hS0 hS1 hs1 hs2 Hc0 HC
            generalize w6.setCell ⟨w.heap.size, 0, none⟩ (.slice a6 16 c6) = W9 at B1 B2 Hw gO ⊢
            go_wp2_with (first | (refine wpList_load_blk 24 (.tmp 2) w.heap.size (cs := [.slice a6 16 c6, .slice b 16 d]) rfl rfl rfl B1.out.blk Tryd.underlying24 rfl HI.out ?_) | (refine wpList_store_blk 24 (.tmp 4) (.tmp 62) n2 (old := zero2) (cs := [.slice a6 16 c6, .slice b 16 d]) rfl rfl rfl rfl B2.out.blk HI.out rfl rfl ?_))
            refine bodyPost_ret (results_blk_two rfl _ _ n2 (cs := [.slice a6 16 c6, .slice b 16 d]) rfl _ _ rfl rfl ((B2.out.row [.slice a6 16 c6, .slice b 16 d]).blk) Tryd.underlying24 rfl HI.out) rfl ?_
            have hbl := below_setRow Hw.out hn2 ([.slice a6 16 c6, .slice b 16 d] : List Value).toArray
            exact ⟨_, rfl, ⟨a6, c6, b, d, by rw [HLl.out, Hm.out], by rw [HLl.out]; exact hcap.out, by rw [Hm.out]; exact Hd.out, (gO.out.row B2.out (by decide) _).at, Hb.out.mono hbl⟩, hbl⟩
      · obtain ⟨K, hK'⟩ : ∃ K : Nat, K = 16 := ⟨_, rfl⟩
        have hmany : manyF cut = K := by unfold manyF; rw [if_neg ht, hK']
        have e3 : takeE l m cut = 0 := by unfold takeE; rw [← hN, if_neg h0, if_neg h1, hmany, if_neg (by omega)]
        have e4 : takeN l m cut = N := by unfold takeN; rw [e3, if_pos rfl, hN]
        have hK : K ≤ 16 := by omega
        have HKv := Lib.hid (show (K : Int) = 16 by omega)
        rw [e3, e4]
        clear hK'
        by_cases ht1 : 0 ≤ cut
        · have ht2 : decide (cut < 16) = false := decide_eq_false fun h => ht ⟨ht1, h⟩
          clear ht
          rcases hA2 with rfl | rfl
          · have e1 : takeA l m cut = l := by unfold takeA; rw [if_neg hno, ← hA, if_neg (by decide)]
            obtain ⟨L, hL⟩ : ∃ L, L = R.take K ++ m.drop K := ⟨_, rfl⟩
            have e2 : takeB l m cut = L := by unfold takeB; rw [if_neg hno, ← hA, if_neg (by decide), hmany, ← hN, hL, hR]; rfl
            have HLl := Lib.hid (show L.length = 16 by rw [hL, List.length_append, List.length_take, List.length_drop, HRl.out, hm]; omega)
            have HL := Lib.hid hL
            have HK := Lib.hid hK
            rw [e1, e2]
            clear e1 e2 e3 e4 h0 h1 ha hb hk hl hm hc hd hN hA hdec hle hlast hpos hR hno hmany hL hK
            go_enter Tryd.func22, Tryd.ntmps22
            go_wp2_with fail
            generalize hW : World.alloc (World.alloc w _) _ = W
            have B1 := Lib.hid (show BlkT 24 W w.heap.size [.slice a 16 c, .slice b 16 d] by rw [← hW]; exact (BlkT.new w [.slice a 16 c, .slice b 16 d] 24).up (ba _ _))
            have B2 := Lib.hid (show BlkT 24 W (w.heap.size + 1) zero2 by rw [← hW, ← size_alloc w (.cells ([.slice a 16 c, .slice b 16 d] : List Value).toArray 24)]; exact BlkT.new _ zero2 _)
            have Hw := Lib.hid (show Below w.heap.size w W by rw [← hW]; exact bta (ba w _) _)
            have hn2 : w.heap.size ≤ w.heap.size + 1 := Nat.le_succ _
            have hne : w.heap.size ≠ w.heap.size + 1 := by omega
            clear hW
            generalize w.heap.size + 1 = n2 at B2 hn2 hne ⊢
            go_wp2_with (refine wpList_load_blk 24 (.tmp 2) w.heap.size (cs := [.slice a 16 c, .slice b 16 d]) rfl rfl rfl B1.out.blk Tryd.underlying24 rfl HI.out ?_)
            refine (HB.out _ Hw.out).mono ?_; rintro e w1 ⟨rfl, hb1⟩
            replace B1 := Lib.hid (B1.out.up hb1)
            replace B2 := Lib.hid (B2.out.up hb1)
            replace Hw := Lib.hid (bt Hw.out hb1)
            clear hb1
            go_wp2_with fail
            refine (HR.out _ (Hk.out.mono Hw.out)).mono ?_; rintro e w3 ⟨a3, c3, rfl, ho3⟩
            have H3 := Lib.hid ho3.at
            have Hc3 := Lib.hid (show 16 ≤ c3 by have h := ho3.buf.cap; rw [HRl.out] at h; exact h.2.1)
            replace B1 := Lib.hid (B1.out.up ho3.bel)
            replace B2 := Lib.hid (B2.out.up ho3.bel)
            replace Hw := Lib.hid (bt Hw.out ho3.bel)
            clear ho3
            have Hc0 := Lib.hid (show ∀ W, Below w3.heap.size w3 W → W.cell? ⟨w.heap.size, 1, none⟩ = some (.slice b 16 d) ∧ W.frozen? ⟨w.heap.size, 1, none⟩ = false from fun W h => ⟨(B1.out.up h).blk.cell 1 (by simp), (B1.out.up h).blk.frozen 1⟩)
            obtain ⟨hS0, hS1⟩ := Hc0.out w3 (Below.refl _ _)
            have hs1 : ∀ W, (Instr.sliceAt 22 (.slice a3 16 c3) none (some (.int .i64 16)) none).run Tryd.prog W = .ok (.slice a3 K c3) W := fun W => by
              have h := run_head Tryd.underlying22 size_u8 W a3 16 c3 K (by have := Hc3.out; have := HK.out; omega); rw [HKv.out] at h; exact h
            have hs2 : ∀ W, (Instr.sliceAt 22 (.slice b 16 d) (some (.int .i64 16)) none none).run Tryd.prog W = .ok (.slice (adv b d K 1) (16 - K) (d - K)) W := fun W => by
              have h := run_tail Tryd.underlying22 size_u8 W b 16 d K HK.out; rw [HKv.out] at h; exact h
            have HC := Lib.hid (fun (W : World) (g : Nat) (hB : Blk W g [.slice a3 K c3, .slice (adv b d K 1) (16 - K) (d - K)]) (h : Below w3.heap.size w3 W) => (show Calls Tryd.prog 31 #[.slice (some ⟨g, 0, none⟩) 2 2] W fun e w' => ∃ a' c', e = .returned (.slice a' 16 c') ∧ OwnR W w' (.slice a' 16 c') L from by rw [HL.out]; exact wrote_any R m HRl.out Hm.out a3 b c3 d K HK.out Hd.out.1 W g hB (H3.out.mono h) (Hb.out.mono (bt Hw.out h))))
            go_wp2_with fail
            try clear ht1 ht2
            go_region_with
              ((go_at_call 31; (with_reducible refine Calls.mono (HC.out _ _ (by first | exact (Blk.new w3 _ _).drew | exact Blk.new _ _ _) (by first | exact btd (ba _ _) | exact bta (bd _) _)) ?_); rintro e w6 ⟨a6, c6, rfl, h6⟩; have h7 : Below w3.heap.size w3 w6 := (by first | exact bt (btd (ba _ _)) h6.bel | exact bt (bta (bd _) _) h6.bel); have h8 : OwnR w3 w6 (.slice a6 16 c6) L := ⟨own_base h6.own (by first | exact (btd (ba _ _)).size | exact (bta (bd _) _).size), h7⟩; clear h6; obtain ⟨k0, k1⟩ := Hc0.out w6 h7))
            all_goals
              have hlt := B1.out.blk.lt
              have hcap := Lib.hid (show 16 ≤ c6 ∧ c6 ≤ maxLen by have h := h8.buf.cap; rw [HLl.out] at h; exact h.2)
              have gO := Lib.hid (show OwnB w3.heap.size (w6.setCell ⟨w.heap.size, 1, none⟩ (.slice a6 16 c6)) (.slice a6 16 c6) 16 (B8s L) from ⟨by have h := h8.own; rw [HLl.out] at h; exact ownsRow_setCell_below h (a := ⟨w.heap.size, 1, none⟩) hlt (.slice a6 16 c6), by simpa using h8.bel.size⟩)
              replace B1 := Lib.hid (show BlkT 24 (w6.setCell ⟨w.heap.size, 1, none⟩ (.slice a6 16 c6)) w.heap.size [.slice a 16 c, .slice a6 16 c6] from (B1.out.up h8.bel).set 1 _)
              replace B2 := Lib.hid ((B2.out.up h8.bel).other (g := w.heap.size) (j := 1) (fun h => hne h.symm) (.slice a6 16 c6))
              replace Hw := Lib.hid (show Below w.heap.size w (w6.setCell ⟨w.heap.size, 1, none⟩ (.slice a6 16 c6)) from (bt Hw.out h8.bel).setCell (Nat.le_refl _) _)
              clear h7 h8 k0 k1 hlt hS0 hS1 hs1 hs2 Hc0 HC
              generalize w6.setCell ⟨w.heap.size, 1, none⟩ (.slice a6 16 c6) = W9 at B1 B2 Hw gO ⊢
              go_wp2_with (first | (refine wpList_load_blk 24 (.tmp 2) w.heap.size (cs := [.slice a 16 c, .slice a6 16 c6]) rfl rfl rfl B1.out.blk Tryd.underlying24 rfl HI.out ?_) | (refine wpList_store_blk 24 (.tmp 4) (.tmp 63) n2 (old := zero2) (cs := [.slice a 16 c, .slice a6 16 c6]) rfl rfl rfl rfl B2.out.blk HI.out rfl rfl ?_))
              refine bodyPost_ret (results_blk_two rfl _ _ n2 (cs := [.slice a 16 c, .slice a6 16 c6]) rfl _ _ rfl rfl ((B2.out.row [.slice a 16 c, .slice a6 16 c6]).blk) Tryd.underlying24 rfl HI.out) rfl ?_
              have hbl := below_setRow Hw.out hn2 ([.slice a 16 c, .slice a6 16 c6] : List Value).toArray
              exact ⟨_, rfl, ⟨a, c, a6, c6, by rw [Hl.out, HLl.out], by rw [Hl.out]; exact Hc.out, by rw [HLl.out]; exact hcap.out, Ha.out.mono hbl, (gO.out.row B2.out (by decide) _).at⟩, hbl⟩
          · have e2 : takeB l m cut = m := by unfold takeB; rw [if_neg hno, ← hA, if_pos rfl]
            obtain ⟨L, hL⟩ : ∃ L, L = R.take K ++ l.drop K := ⟨_, rfl⟩
            have e1 : takeA l m cut = L := by unfold takeA; rw [if_neg hno, ← hA, if_pos rfl, hmany, ← hN, hL, hR]; rfl
            have HLl := Lib.hid (show L.length = 16 by rw [hL, List.length_append, List.length_take, List.length_drop, HRl.out, hl]; omega)
            have HL := Lib.hid hL
            have HK := Lib.hid hK
            rw [e1, e2]
            clear e1 e2 e3 e4 h0 h1 ha hb hk hl hm hc hd hN hA hdec hle hlast hpos hR hno hmany hL hK
            go_enter Tryd.func22, Tryd.ntmps22
            go_wp2_with fail
            generalize hW : World.alloc (World.alloc w _) _ = W
            have B1 := Lib.hid (show BlkT 24 W w.heap.size [.slice a 16 c, .slice b 16 d] by rw [← hW]; exact (BlkT.new w [.slice a 16 c, .slice b 16 d] 24).up (ba _ _))
            have B2 := Lib.hid (show BlkT 24 W (w.heap.size + 1) zero2 by rw [← hW, ← size_alloc w (.cells ([.slice a 16 c, .slice b 16 d] : List Value).toArray 24)]; exact BlkT.new _ zero2 _)
            have Hw := Lib.hid (show Below w.heap.size w W by rw [← hW]; exact bta (ba w _) _)
            have hn2 : w.heap.size ≤ w.heap.size + 1 := Nat.le_succ _
            have hne : w.heap.size ≠ w.heap.size + 1 := by omega
            clear hW
            generalize w.heap.size + 1 = n2 at B2 hn2 hne ⊢
            go_wp2_with (refine wpList_load_blk 24 (.tmp 2) w.heap.size (cs := [.slice a 16 c, .slice b 16 d]) rfl rfl rfl B1.out.blk Tryd.underlying24 rfl HI.out ?_)
            refine (HB.out _ Hw.out).mono ?_; rintro e w1 ⟨rfl, hb1⟩
            replace B1 := Lib.hid (B1.out.up hb1)
            replace B2 := Lib.hid (B2.out.up hb1)
            replace Hw := Lib.hid (bt Hw.out hb1)
            clear hb1
            go_wp2_with fail
            refine (HR.out _ (Hk.out.mono Hw.out)).mono ?_; rintro e w3 ⟨a3, c3, rfl, ho3⟩
            have H3 := Lib.hid ho3.at
            have Hc3 := Lib.hid (show 16 ≤ c3 by have h := ho3.buf.cap; rw [HRl.out] at h; exact h.2.1)
            replace B1 := Lib.hid (B1.out.up ho3.bel)
            replace B2 := Lib.hid (B2.out.up ho3.bel)
            replace Hw := Lib.hid (bt Hw.out ho3.bel)
            clear ho3
            have Hc0 := Lib.hid (show ∀ W, Below w3.heap.size w3 W → W.cell? ⟨w.heap.size, 0, none⟩ = some (.slice a 16 c) ∧ W.frozen? ⟨w.heap.size, 0, none⟩ = false from fun W h => ⟨(B1.out.up h).blk.cell 0 (by simp), (B1.out.up h).blk.frozen 0⟩)
            obtain ⟨hS0, hS1⟩ := Hc0.out w3 (Below.refl _ _)
            have hs1 : ∀ W, (Instr.sliceAt 22 (.slice a3 16 c3) none (some (.int .i64 16)) none).run Tryd.prog W = .ok (.slice a3 K c3) W := fun W => by
              have h := run_head Tryd.underlying22 size_u8 W a3 16 c3 K (by have := Hc3.out; have := HK.out; omega); rw [HKv.out] at h; exact h
            have hs2 : ∀ W, (Instr.sliceAt 22 (.slice a 16 c) (some (.int .i64 16)) none none).run Tryd.prog W = .ok (.slice (adv a c K 1) (16 - K) (c - K)) W := fun W => by
              have h := run_tail Tryd.underlying22 size_u8 W a 16 c K HK.out; rw [HKv.out] at h; exact h
            have HC := Lib.hid (fun (W : World) (g : Nat) (hB : Blk W g [.slice a3 K c3, .slice (adv a c K 1) (16 - K) (c - K)]) (h : Below w3.heap.size w3 W) => (show Calls Tryd.prog 31 #[.slice (some ⟨g, 0, none⟩) 2 2] W fun e w' => ∃ a' c', e = .returned (.slice a' 16 c') ∧ OwnR W w' (.slice a' 16 c') L from by rw [HL.out]; exact wrote_any R l HRl.out Hl.out a3 a c3 c K HK.out Hc.out.1 W g hB (H3.out.mono h) (Ha.out.mono (bt Hw.out h))))
            go_wp2_with fail
            try clear ht1 ht2
            go_region_with
              ((go_at_call 31; (with_reducible refine Calls.mono (HC.out _ _ (by first | exact (Blk.new w3 _ _).drew | exact Blk.new _ _ _) (by first | exact btd (ba _ _) | exact bta (bd _) _)) ?_); rintro e w6 ⟨a6, c6, rfl, h6⟩; have h7 : Below w3.heap.size w3 w6 := (by first | exact bt (btd (ba _ _)) h6.bel | exact bt (bta (bd _) _) h6.bel); have h8 : OwnR w3 w6 (.slice a6 16 c6) L := ⟨own_base h6.own (by first | exact (btd (ba _ _)).size | exact (bta (bd _) _).size), h7⟩; clear h6; obtain ⟨k0, k1⟩ := Hc0.out w6 h7))
            all_goals
              have hlt := B1.out.blk.lt
              have hcap := Lib.hid (show 16 ≤ c6 ∧ c6 ≤ maxLen by have h := h8.buf.cap; rw [HLl.out] at h; exact h.2)
              have gO := Lib.hid (show OwnB w3.heap.size (w6.setCell ⟨w.heap.size, 0, none⟩ (.slice a6 16 c6)) (.slice a6 16 c6) 16 (B8s L) from ⟨by have h := h8.own; rw [HLl.out] at h; exact ownsRow_setCell_below h (a := ⟨w.heap.size, 0, none⟩) hlt (.slice a6 16 c6), by simpa using h8.bel.size⟩)
              replace B1 := Lib.hid (show BlkT 24 (w6.setCell ⟨w.heap.size, 0, none⟩ (.slice a6 16 c6)) w.heap.size [.slice a6 16 c6, .slice b 16 d] from (B1.out.up h8.bel).set 0 _)
              replace B2 := Lib.hid ((B2.out.up h8.bel).other (g := w.heap.size) (j := 0) (fun h => hne h.symm) (.slice a6 16 c6))
              replace Hw := Lib.hid (show Below w.heap.size w (w6.setCell ⟨w.heap.size, 0, none⟩ (.slice a6 16 c6)) from (bt Hw.out h8.bel).setCell (Nat.le_refl _) _)
              clear h7 h8 k0 k1 hlt hS0 hS1 hs1 hs2 Hc0 HC
              generalize w6.setCell ⟨w.heap.size, 0, none⟩ (.slice a6 16 c6) = W9 at B1 B2 Hw gO ⊢
              go_wp2_with (first | (refine wpList_load_blk 24 (.tmp 2) w.heap.size (cs := [.slice a6 16 c6, .slice b 16 d]) rfl rfl rfl B1.out.blk Tryd.underlying24 rfl HI.out ?_) | (refine wpList_store_blk 24 (.tmp 4) (.tmp 63) n2 (old := zero2) (cs := [.slice a6 16 c6, .slice b 16 d]) rfl rfl rfl rfl B2.out.blk HI.out rfl rfl ?_))
              refine bodyPost_ret (results_blk_two rfl _ _ n2 (cs := [.slice a6 16 c6, .slice b 16 d]) rfl _ _ rfl rfl ((B2.out.row [.slice a6 16 c6, .slice b 16 d]).blk) Tryd.underlying24 rfl HI.out) rfl ?_
              have hbl := below_setRow Hw.out hn2 ([.slice a6 16 c6, .slice b 16 d] : List Value).toArray
              exact ⟨_, rfl, ⟨a6, c6, b, d, by rw [HLl.out, Hm.out], by rw [HLl.out]; exact hcap.out, by rw [Hm.out]; exact Hd.out, (gO.out.row B2.out (by decide) _).at, Hb.out.mono hbl⟩, hbl⟩
        · clear ht
          rcases hA2 with rfl | rfl
          · have e1 : takeA l m cut = l := by unfold takeA; rw [if_neg hno, ← hA, if_neg (by decide)]
            obtain ⟨L, hL⟩ : ∃ L, L = R.take K ++ m.drop K := ⟨_, rfl⟩
            have e2 : takeB l m cut = L := by unfold takeB; rw [if_neg hno, ← hA, if_neg (by decide), hmany, ← hN, hL, hR]; rfl
            have HLl := Lib.hid (show L.length = 16 by rw [hL, List.length_append, List.length_take, List.length_drop, HRl.out, hm]; omega)
            have HL := Lib.hid hL
            have HK := Lib.hid hK
            rw [e1, e2]
            clear e1 e2 e3 e4 h0 h1 ha hb hk hl hm hc hd hN hA hdec hle hlast hpos hR hno hmany hL hK
            go_enter Tryd.func22, Tryd.ntmps22
            go_wp2_with fail
            generalize hW : World.alloc (World.alloc w _) _ = W
            have B1 := Lib.hid (show BlkT 24 W w.heap.size [.slice a 16 c, .slice b 16 d] by rw [← hW]; exact (BlkT.new w [.slice a 16 c, .slice b 16 d] 24).up (ba _ _))
            have B2 := Lib.hid (show BlkT 24 W (w.heap.size + 1) zero2 by rw [← hW, ← size_alloc w (.cells ([.slice a 16 c, .slice b 16 d] : List Value).toArray 24)]; exact BlkT.new _ zero2 _)
            have Hw := Lib.hid (show Below w.heap.size w W by rw [← hW]; exact bta (ba w _) _)
            have hn2 : w.heap.size ≤ w.heap.size + 1 := Nat.le_succ _
            have hne : w.heap.size ≠ w.heap.size + 1 := by omega
            clear hW
            generalize w.heap.size + 1 = n2 at B2 hn2 hne ⊢
            go_wp2_with (refine wpList_load_blk 24 (.tmp 2) w.heap.size (cs := [.slice a 16 c, .slice b 16 d]) rfl rfl rfl B1.out.blk Tryd.underlying24 rfl HI.out ?_)
            refine (HB.out _ Hw.out).mono ?_; rintro e w1 ⟨rfl, hb1⟩
            replace B1 := Lib.hid (B1.out.up hb1)
            replace B2 := Lib.hid (B2.out.up hb1)
            replace Hw := Lib.hid (bt Hw.out hb1)
            clear hb1
            go_wp2_with fail
            refine (HR.out _ (Hk.out.mono Hw.out)).mono ?_; rintro e w3 ⟨a3, c3, rfl, ho3⟩
            have H3 := Lib.hid ho3.at
            have Hc3 := Lib.hid (show 16 ≤ c3 by have h := ho3.buf.cap; rw [HRl.out] at h; exact h.2.1)
            replace B1 := Lib.hid (B1.out.up ho3.bel)
            replace B2 := Lib.hid (B2.out.up ho3.bel)
            replace Hw := Lib.hid (bt Hw.out ho3.bel)
            clear ho3
            have Hc0 := Lib.hid (show ∀ W, Below w3.heap.size w3 W → W.cell? ⟨w.heap.size, 1, none⟩ = some (.slice b 16 d) ∧ W.frozen? ⟨w.heap.size, 1, none⟩ = false from fun W h => ⟨(B1.out.up h).blk.cell 1 (by simp), (B1.out.up h).blk.frozen 1⟩)
            obtain ⟨hS0, hS1⟩ := Hc0.out w3 (Below.refl _ _)
            have hs1 : ∀ W, (Instr.sliceAt 22 (.slice a3 16 c3) none (some (.int .i64 16)) none).run Tryd.prog W = .ok (.slice a3 K c3) W := fun W => by
              have h := run_head Tryd.underlying22 size_u8 W a3 16 c3 K (by have := Hc3.out; have := HK.out; omega); rw [HKv.out] at h; exact h
            have hs2 : ∀ W, (Instr.sliceAt 22 (.slice b 16 d) (some (.int .i64 16)) none none).run Tryd.prog W = .ok (.slice (adv b d K 1) (16 - K) (d - K)) W := fun W => by
              have h := run_tail Tryd.underlying22 size_u8 W b 16 d K HK.out; rw [HKv.out] at h; exact h
            have HC := Lib.hid (fun (W : World) (g : Nat) (hB : Blk W g [.slice a3 K c3, .slice (adv b d K 1) (16 - K) (d - K)]) (h : Below w3.heap.size w3 W) => (show Calls Tryd.prog 31 #[.slice (some ⟨g, 0, none⟩) 2 2] W fun e w' => ∃ a' c', e = .returned (.slice a' 16 c') ∧ OwnR W w' (.slice a' 16 c') L from by rw [HL.out]; exact wrote_any R m HRl.out Hm.out a3 b c3 d K HK.out Hd.out.1 W g hB (H3.out.mono h) (Hb.out.mono (bt Hw.out h))))
            go_wp2_with fail
            try clear ht1 ht2
            go_region_with
              ((go_at_call 31; (with_reducible refine Calls.mono (HC.out _ _ (by first | exact (Blk.new w3 _ _).drew | exact Blk.new _ _ _) (by first | exact btd (ba _ _) | exact bta (bd _) _)) ?_); rintro e w6 ⟨a6, c6, rfl, h6⟩; have h7 : Below w3.heap.size w3 w6 := (by first | exact bt (btd (ba _ _)) h6.bel | exact bt (bta (bd _) _) h6.bel); have h8 : OwnR w3 w6 (.slice a6 16 c6) L := ⟨own_base h6.own (by first | exact (btd (ba _ _)).size | exact (bta (bd _) _).size), h7⟩; clear h6; obtain ⟨k0, k1⟩ := Hc0.out w6 h7))
            all_goals
              have hlt := B1.out.blk.lt
              have hcap := Lib.hid (show 16 ≤ c6 ∧ c6 ≤ maxLen by have h := h8.buf.cap; rw [HLl.out] at h; exact h.2)
              have gO := Lib.hid (show OwnB w3.heap.size (w6.setCell ⟨w.heap.size, 1, none⟩ (.slice a6 16 c6)) (.slice a6 16 c6) 16 (B8s L) from ⟨by have h := h8.own; rw [HLl.out] at h; exact ownsRow_setCell_below h (a := ⟨w.heap.size, 1, none⟩) hlt (.slice a6 16 c6), by simpa using h8.bel.size⟩)
              replace B1 := Lib.hid (show BlkT 24 (w6.setCell ⟨w.heap.size, 1, none⟩ (.slice a6 16 c6)) w.heap.size [.slice a 16 c, .slice a6 16 c6] from (B1.out.up h8.bel).set 1 _)
              replace B2 := Lib.hid ((B2.out.up h8.bel).other (g := w.heap.size) (j := 1) (fun h => hne h.symm) (.slice a6 16 c6))
              replace Hw := Lib.hid (show Below w.heap.size w (w6.setCell ⟨w.heap.size, 1, none⟩ (.slice a6 16 c6)) from (bt Hw.out h8.bel).setCell (Nat.le_refl _) _)
              clear h7 h8 k0 k1 hlt hS0 hS1 hs1 hs2 Hc0 HC
              generalize w6.setCell ⟨w.heap.size, 1, none⟩ (.slice a6 16 c6) = W9 at B1 B2 Hw gO ⊢
              go_wp2_with (first | (refine wpList_load_blk 24 (.tmp 2) w.heap.size (cs := [.slice a 16 c, .slice a6 16 c6]) rfl rfl rfl B1.out.blk Tryd.underlying24 rfl HI.out ?_) | (refine wpList_store_blk 24 (.tmp 4) (.tmp 63) n2 (old := zero2) (cs := [.slice a 16 c, .slice a6 16 c6]) rfl rfl rfl rfl B2.out.blk HI.out rfl rfl ?_))
              refine bodyPost_ret (results_blk_two rfl _ _ n2 (cs := [.slice a 16 c, .slice a6 16 c6]) rfl _ _ rfl rfl ((B2.out.row [.slice a 16 c, .slice a6 16 c6]).blk) Tryd.underlying24 rfl HI.out) rfl ?_
              have hbl := below_setRow Hw.out hn2 ([.slice a 16 c, .slice a6 16 c6] : List Value).toArray
              exact ⟨_, rfl, ⟨a, c, a6, c6, by rw [Hl.out, HLl.out], by rw [Hl.out]; exact Hc.out, by rw [HLl.out]; exact hcap.out, Ha.out.mono hbl, (gO.out.row B2.out (by decide) _).at⟩, hbl⟩
          · have e2 : takeB l m cut = m := by unfold takeB; rw [if_neg hno, ← hA, if_pos rfl]
            obtain ⟨L, hL⟩ : ∃ L, L = R.take K ++ l.drop K := ⟨_, rfl⟩
            have e1 : takeA l m cut = L := by unfold takeA; rw [if_neg hno, ← hA, if_pos rfl, hmany, ← hN, hL, hR]; rfl
            have HLl := Lib.hid (show L.length = 16 by rw [hL, List.length_append, List.length_take, List.length_drop, HRl.out, hl]; omega)
            have HL := Lib.hid hL
            have HK := Lib.hid hK
            rw [e1, e2]
            clear e1 e2 e3 e4 h0 h1 ha hb hk hl hm hc hd hN hA hdec hle hlast hpos hR hno hmany hL hK
            go_enter Tryd.func22, Tryd.ntmps22
            go_wp2_with fail
            generalize hW : World.alloc (World.alloc w _) _ = W
            have B1 := Lib.hid (show BlkT 24 W w.heap.size [.slice a 16 c, .slice b 16 d] by rw [← hW]; exact (BlkT.new w [.slice a 16 c, .slice b 16 d] 24).up (ba _ _))
            have B2 := Lib.hid (show BlkT 24 W (w.heap.size + 1) zero2 by rw [← hW, ← size_alloc w (.cells ([.slice a 16 c, .slice b 16 d] : List Value).toArray 24)]; exact BlkT.new _ zero2 _)
            have Hw := Lib.hid (show Below w.heap.size w W by rw [← hW]; exact bta (ba w _) _)
            have hn2 : w.heap.size ≤ w.heap.size + 1 := Nat.le_succ _
            have hne : w.heap.size ≠ w.heap.size + 1 := by omega
            clear hW
            generalize w.heap.size + 1 = n2 at B2 hn2 hne ⊢
            go_wp2_with (refine wpList_load_blk 24 (.tmp 2) w.heap.size (cs := [.slice a 16 c, .slice b 16 d]) rfl rfl rfl B1.out.blk Tryd.underlying24 rfl HI.out ?_)
            refine (HB.out _ Hw.out).mono ?_; rintro e w1 ⟨rfl, hb1⟩
            replace B1 := Lib.hid (B1.out.up hb1)
            replace B2 := Lib.hid (B2.out.up hb1)
            replace Hw := Lib.hid (bt Hw.out hb1)
            clear hb1
            go_wp2_with fail
            refine (HR.out _ (Hk.out.mono Hw.out)).mono ?_; rintro e w3 ⟨a3, c3, rfl, ho3⟩
            have H3 := Lib.hid ho3.at
            have Hc3 := Lib.hid (show 16 ≤ c3 by have h := ho3.buf.cap; rw [HRl.out] at h; exact h.2.1)
            replace B1 := Lib.hid (B1.out.up ho3.bel)
            replace B2 := Lib.hid (B2.out.up ho3.bel)
            replace Hw := Lib.hid (bt Hw.out ho3.bel)
            clear ho3
            have Hc0 := Lib.hid (show ∀ W, Below w3.heap.size w3 W → W.cell? ⟨w.heap.size, 0, none⟩ = some (.slice a 16 c) ∧ W.frozen? ⟨w.heap.size, 0, none⟩ = false from fun W h => ⟨(B1.out.up h).blk.cell 0 (by simp), (B1.out.up h).blk.frozen 0⟩)
            obtain ⟨hS0, hS1⟩ := Hc0.out w3 (Below.refl _ _)
            have hs1 : ∀ W, (Instr.sliceAt 22 (.slice a3 16 c3) none (some (.int .i64 16)) none).run Tryd.prog W = .ok (.slice a3 K c3) W := fun W => by
              have h := run_head Tryd.underlying22 size_u8 W a3 16 c3 K (by have := Hc3.out; have := HK.out; omega); rw [HKv.out] at h; exact h
            have hs2 : ∀ W, (Instr.sliceAt 22 (.slice a 16 c) (some (.int .i64 16)) none none).run Tryd.prog W = .ok (.slice (adv a c K 1) (16 - K) (c - K)) W := fun W => by
              have h := run_tail Tryd.underlying22 size_u8 W a 16 c K HK.out; rw [HKv.out] at h; exact h
            have HC := Lib.hid (fun (W : World) (g : Nat) (hB : Blk W g [.slice a3 K c3, .slice (adv a c K 1) (16 - K) (c - K)]) (h : Below w3.heap.size w3 W) => (show Calls Tryd.prog 31 #[.slice (some ⟨g, 0, none⟩) 2 2] W fun e w' => ∃ a' c', e = .returned (.slice a' 16 c') ∧ OwnR W w' (.slice a' 16 c') L from by rw [HL.out]; exact wrote_any R l HRl.out Hl.out a3 a c3 c K HK.out Hc.out.1 W g hB (H3.out.mono h) (Ha.out.mono (bt Hw.out h))))
            go_wp2_with fail
            try clear ht1 ht2
            go_region_with
              ((go_at_call 31; (with_reducible refine Calls.mono (HC.out _ _ (by first | exact (Blk.new w3 _ _).drew | exact Blk.new _ _ _) (by first | exact btd (ba _ _) | exact bta (bd _) _)) ?_); rintro e w6 ⟨a6, c6, rfl, h6⟩; have h7 : Below w3.heap.size w3 w6 := (by first | exact bt (btd (ba _ _)) h6.bel | exact bt (bta (bd _) _) h6.bel); have h8 : OwnR w3 w6 (.slice a6 16 c6) L := ⟨own_base h6.own (by first | exact (btd (ba _ _)).size | exact (bta (bd _) _).size), h7⟩; clear h6; obtain ⟨k0, k1⟩ := Hc0.out w6 h7))
            all_goals
              have hlt := B1.out.blk.lt
              have hcap := Lib.hid (show 16 ≤ c6 ∧ c6 ≤ maxLen by have h := h8.buf.cap; rw [HLl.out] at h; exact h.2)
              have gO := Lib.hid (show OwnB w3.heap.size (w6.setCell ⟨w.heap.size, 0, none⟩ (.slice a6 16 c6)) (.slice a6 16 c6) 16 (B8s L) from ⟨by have h := h8.own; rw [HLl.out] at h; exact ownsRow_setCell_below h (a := ⟨w.heap.size, 0, none⟩) hlt (.slice a6 16 c6), by simpa using h8.bel.size⟩)
              replace B1 := Lib.hid (show BlkT 24 (w6.setCell ⟨w.heap.size, 0, none⟩ (.slice a6 16 c6)) w.heap.size [.slice a6 16 c6, .slice b 16 d] from (B1.out.up h8.bel).set 0 _)
              replace B2 := Lib.hid ((B2.out.up h8.bel).other (g := w.heap.size) (j := 0) (fun h => hne h.symm) (.slice a6 16 c6))
              replace Hw := Lib.hid (show Below w.heap.size w (w6.setCell ⟨w.heap.size, 0, none⟩ (.slice a6 16 c6)) from (bt Hw.out h8.bel).setCell (Nat.le_refl _) _)
              clear h7 h8 k0 k1 hlt hS0 hS1 hs1 hs2 Hc0 HC
              generalize w6.setCell ⟨w.heap.size, 0, none⟩ (.slice a6 16 c6) = W9 at B1 B2 Hw gO ⊢
              go_wp2_with (first | (refine wpList_load_blk 24 (.tmp 2) w.heap.size (cs := [.slice a6 16 c6, .slice b 16 d]) rfl rfl rfl B1.out.blk Tryd.underlying24 rfl HI.out ?_) | (refine wpList_store_blk 24 (.tmp 4) (.tmp 63) n2 (old := zero2) (cs := [.slice a6 16 c6, .slice b 16 d]) rfl rfl rfl rfl B2.out.blk HI.out rfl rfl ?_))
              refine bodyPost_ret (results_blk_two rfl _ _ n2 (cs := [.slice a6 16 c6, .slice b 16 d]) rfl _ _ rfl rfl ((B2.out.row [.slice a6 16 c6, .slice b 16 d]).blk) Tryd.underlying24 rfl HI.out) rfl ?_
              have hbl := below_setRow Hw.out hn2 ([.slice a6 16 c6, .slice b 16 d] : List Value).toArray
              exact ⟨_, rfl, ⟨a6, c6, b, d, by rw [HLl.out, Hm.out], by rw [HLl.out]; exact hcap.out, by rw [Hm.out]; exact Hd.out, (gO.out.row B2.out (by decide) _).at, Hb.out.mono hbl⟩, hbl⟩
end Go.Proofs.YtiaigekmkmampaaDoor
