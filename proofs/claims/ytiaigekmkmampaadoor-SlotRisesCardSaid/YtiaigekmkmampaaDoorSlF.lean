/- Stores: the document's example. -/
import Derived.Test.YtiaigekmkmampaaDoorSlF0
import Derived.BigQuiet
import Derived.Deep.DeepCutAuto
set_option linter.unusedSimpArgs false
set_option linter.unusedVariables false
namespace Go.Proofs.YtiaigekmkmampaaDoor
open Go.RowKit

theorem best_pair {m n : Nat} (hm : 1 ≤ m) (hm2 : m ≤ lastN) (hn : 1 ≤ n) (hn2 : n ≤ lastN) : bestN (recF m) (recF n) = (if m < n then n else m) ∧ bestAt (recF m) (recF n) = (if m < n then 1 else 0) := by
  unfold bestN bestAt; rw [goodF_rec hm hm2, goodF_rec hn hn2]; exact ⟨rfl, rfl⟩
theorem take_yes (l m : List UInt8) (cut : Int) (n A : Nat) (hn : bestN l m = n) (hA : bestAt l m = A) (h0 : n ≠ 0) (h1 : n ≠ lastN) :
    takeA l m cut = (if A = 1 then laidF (n + 1) (manyF cut) l else l) ∧ takeB l m cut = (if A = 1 then m else laidF (n + 1) (manyF cut) m) ∧ takeE l m cut = (if manyF cut < 16 then 11 else 0) := by
  unfold takeA takeB takeE
  have hno : ¬ (n = 0 ∨ n = lastN) := by omega
  rw [hn, hA, if_neg hno, if_neg hno, if_neg h0, if_neg h1]
  exact ⟨rfl, rfl, rfl⟩
theorem rec31 : laidF 3 3 (recF 1) = recF 1 := by
  have h : (recF 3).take 3 = (recF 1).take 3 := by
    unfold recF
    rw [List.take_append_of_le_length (by rw [bigF_len]; decide), List.take_append_of_le_length (by rw [bigF_len]; decide)]
    decide
  unfold laidF
  rw [h, List.take_append_drop]
theorem shown_facts :
    (takeA (recF 1) zerosL (-1) = recF 1 ∧ takeB (recF 1) zerosL (-1) = recF 2 ∧ takeN (recF 1) zerosL (-1) = 1 ∧ takeE (recF 1) zerosL (-1) = 0) ∧
    (takeA (recF 1) (recF 2) 3 = recF 1 ∧ takeB (recF 1) (recF 2) 3 = recF 2 ∧ takeN (recF 1) (recF 2) 3 = 0 ∧ takeE (recF 1) (recF 2) 3 = 11) ∧
    (takeA (recF 1) (recF 2) 16 = recF 3 ∧ takeB (recF 1) (recF 2) 16 = recF 2 ∧ takeN (recF 1) (recF 2) 16 = 2 ∧ takeE (recF 1) (recF 2) 16 = 0) ∧
    (bestN (recF 3) (recF 2) = 3 ∧ bestAt (recF 3) (recF 2) = 0) := by
  have e1 := take_yes (recF 1) zerosL (-1) 1 0 new_best.1 new_best.2 (by decide) (by decide)
  have b2 := best_pair (m := 1) (n := 2) (by decide) (by decide) (by decide) (by decide)
  have e2 := take_yes (recF 1) (recF 2) 3 2 1 b2.1 b2.2 (by decide) (by decide)
  have e3 := take_yes (recF 1) (recF 2) 16 2 1 b2.1 b2.2 (by decide) (by decide)
  have b3 := best_pair (m := 3) (n := 2) (by decide) (by decide) (by decide) (by decide)
  have m1 : manyF (-1) = 16 := by decide
  have m2 : manyF 3 = 3 := by decide
  have m3 : manyF 16 = 16 := by decide
  rw [m1, if_neg (by decide), if_neg (by decide), if_neg (by decide), laidF_all _ _ rfl] at e1
  rw [m2, if_pos rfl, if_pos rfl, if_pos (by decide), rec31] at e2
  rw [m3, if_pos rfl, if_pos rfl, if_neg (by decide), laidF_all _ _ (recF_len 1)] at e3
  refine ⟨⟨e1.1, e1.2.1, ?_, e1.2.2⟩, ⟨e2.1, e2.2.1, ?_, e2.2.2⟩, ⟨e3.1, e3.2.1, ?_, e3.2.2⟩, b3.1, b3.2⟩
  · unfold takeN; rw [e1.2.2, if_pos rfl]; exact new_best.1
  · unfold takeN; rw [e2.2.2, if_neg (by decide)]
  · unfold takeN; rw [e3.2.2, if_pos rfl]; exact b2.1
theorem zeros_ne : sameS (recF 1) zerosL (recF 1) (recF 2) = false := by
  unfold sameS
  have h : (zerosL == recF 2) = false := by
    rw [beq_eq_false_iff_ne]; intro h
    have h2 := recF_num 2 (by decide)
    rw [← h] at h2
    exact absurd h2 (by decide)
  rw [h, Bool.and_false]
def Shown13OK : Prop := ∀ w, KeysAt w → Calls Tryd.prog 7 #[] w (BoolOut w true)

set_option maxRecDepth 100000 in
set_option maxHeartbeats 4000000 in
theorem shown13 : Shown13OK := by
  intro w hk
  have HI := Lib.hid store_size
  have Hk := Lib.hid (fun W (h : Below w.heap.size w W) => hk.mono h)
  obtain ⟨⟨f1, f2, f3, f4⟩, ⟨g1, g2, g3, g4⟩, ⟨h1, h2, h3, h4⟩, k1, k2⟩ := shown_facts
  have KN := Lib.hid (fun W h => new_st W h)
  have K1 := Lib.hid (fun (a b : Option Addr) (c d : Nat) W (h : StF W a c b d (recF 1) zerosL) (hk : KeysAt W) => take_st (cut := -1) (N := 1) (E := 0) h hk f1 f2 (by rw [f3]; rfl) (by rw [f4]; rfl))
  have K2 := Lib.hid (fun (a b : Option Addr) (c d : Nat) W (h : StF W a c b d (recF 1) (recF 2)) (hk : KeysAt W) => take_st (cut := 3) (N := 0) (E := 11) h hk g1 g2 (by rw [g3]; rfl) (by rw [g4]; rfl))
  have K3 := Lib.hid (fun (a b : Option Addr) (c d : Nat) W (h : StF W a c b d (recF 1) (recF 2)) (hk : KeysAt W) => take_st (cut := 16) (N := 2) (E := 0) h hk h1 h2 (by rw [h3]; rfl) (by rw [h4]; rfl))
  have KR := Lib.hid (fun W (hk : KeysAt W) => (show Calls Tryd.prog 9 #[.int .i64 1] W (RecOut W 1) from rec_ok 1 (by decide) (by decide) W hk))
  have hg : goodF (recF 1) = 1 := goodF_rec (by decide) (by decide)
  have KG := Lib.hid (fun (a : Option Addr) (c : Nat) W (hc : 16 ≤ c) (hcm : c ≤ maxLen) (h : BytesAt W a (recF 1)) (hk : KeysAt W) => (show Calls Tryd.prog 11 #[.slice a 16 c] W (fun e w' => e = .returned (.tuple #[.int .i64 1, .bool true]) ∧ Below W.heap.size W w') from by
    have h2 := good_any a c (recF 1) (by rw [recF_len]; exact hc) hcm W h hk
    rw [recF_len] at h2
    refine h2.mono fun e w' ⟨p, q⟩ => ⟨?_, q⟩
    rw [p, hg]; rfl))
  have KB := Lib.hid (fun (a b : Option Addr) (c d : Nat) W (h : StF W a c b d (recF 3) (recF 2)) (hk : KeysAt W) => best_st (N := 3) (A := 0) (t := true) h hk (by rw [k1]; rfl) (by rw [k2]; rfl) (by rw [k1]; rfl))
  have KS := Lib.hid (fun (a b : Option Addr) (c d : Nat) W (h : BytesAt W a (recF 1)) (h2 : BytesAt W b (recF 1)) => (show Calls Tryd.prog 14 #[.slice a 16 c, .slice b 16 d] W (fun e w' => e = .returned (.bool true) ∧ W = w') from by
    have h3 := same01_any a b 16 c 16 d (recF 1) (recF 1) W (recF_len 1).symm (recF_len 1).symm h h2
    rwa [beq_self_eq_true] at h3))
  have KT := Lib.hid (fun (a b : Option Addr) (c d : Nat) W (h : StF W a c b d (recF 1) zerosL) => (show Calls Tryd.prog 18 #[.agg #[.slice a 16 c, .slice b 16 d]] W (BoolOut W true) from by
    have h2 := stRight_any _ _ _ W h.st
    rwa [rightS_iff.2 ⟨h.la, h.lb⟩] at h2))
  have KZ := Lib.hid (fun W => (show Calls Tryd.prog 18 #[.agg #[.slice none 0 0, .slice none 0 0]] W (BoolOut W false) from
    stRight_any _ [] [] W ⟨none, 0, none, 0, rfl, by decide, by decide, .inl rfl, .inl rfl⟩))
  have KQ := Lib.hid (fun (a b : Option Addr) (c d : Nat) W (h : StF W a c b d (recF 1) zerosL) => (show Calls Tryd.prog 19 #[.agg #[.slice a 16 c, .slice b 16 d], .agg #[.slice a 16 c, .slice b 16 d]] W (BoolOut W true) from by
    have h2 := stSame_any _ _ _ _ _ _ W h.st h.st
    rwa [show sameS (recF 1) zerosL (recF 1) zerosL = true by unfold sameS; rw [beq_self_eq_true, beq_self_eq_true]; rfl] at h2))
  have KN2 := Lib.hid (fun (a b p q : Option Addr) (c d r s : Nat) W (h : StF W a c b d (recF 1) zerosL) (h2 : StF W p r q s (recF 1) (recF 2)) => (show Calls Tryd.prog 19 #[.agg #[.slice a 16 c, .slice b 16 d], .agg #[.slice p 16 r, .slice q 16 s]] W (BoolOut W false) from by
    have h3 := stSame_any _ _ _ _ _ _ W h.st h2.st
    rwa [zeros_ne] at h3))
  clear f1 f2 f3 f4 g1 g2 g3 g4 h1 h2 h3 h4 k1 k2 hg hk
  unfold TakeT at K1 K2 K3
  unfold StT at KN
  unfold RecOut at KR
  have hl1 := Lib.hid (recF_len 1)
  generalize hr1 : recF 1 = R1 at *
  generalize recF 2 = R2 at *
  generalize recF 3 = R3 at *
  generalize zerosL = Z0 at *
  clear hr1
  have G := Lib.hid (Below.refl w.heap.size w)
  go_enter Tryd.func7, Tryd.ntmps7
  go_upto_region 1 with (fail)
  go_cut [1] (fun v1 wx => ∃ a1 : Option Addr, ∃ c1 : Nat, ∃ o1 : Option Addr, ∃ d1 : Nat, ∃ b1 : Nat, v1 = .pointer (some ⟨b1, 0, none⟩) ∧ BlkT 24 wx b1 (stL a1 c1 o1 d1) ∧ Below w.heap.size w wx ∧ StF wx a1 c1 o1 d1 R1 Z0)
  case first =>
    go_wp2_with fail
    refine (KN.out _ (Hk.out _ G.out)).mono ?_; rintro e wn ⟨a1, c1, o1, d1, rfl, hS1, hb⟩
    go_wp2_with (refine wpList_store_blk 24 (.tmp 1) (.tmp 18) _ (old := zero2) (cs := (stL a1 c1 o1 d1)) rfl rfl rfl rfl (Blk.new _ _ _) HI.out rfl rfl ?_)
    go_meet
    exact ⟨a1, c1, o1, d1, _, rfl, lay2_blk _ _ _ _, (bt G.out (bt hb (lay2_below _ _ _ _))), (hS1).up (lay2_below _ _ _ _)⟩
  case rest =>
    obtain ⟨a1, c1, o1, d1, b1, rfl, hB1, hG, hS1⟩ := hcut
    have B1 := Lib.hid hB1
    replace G := Lib.hid hG
    have S1 := Lib.hid hS1
    clear hB1 hG hS1
    go_upto_region 2 with (fail)
    go_cut [3, 4, 2] (fun v3 v4 v2 wx => ∃ a2 : Option Addr, ∃ c2 : Nat, ∃ o2 : Option Addr, ∃ d2 : Nat, ∃ b2 : Nat, v3 = .int .i64 1 ∧ v4 = .int .i64 0 ∧ v2 = .pointer (some ⟨b2, 0, none⟩) ∧ BlkT 24 wx b2 (stL a2 c2 o2 d2) ∧ BlkT 24 wx b1 (stL a1 c1 o1 d1) ∧ Below w.heap.size w wx ∧ StF wx a1 c1 o1 d1 R1 Z0 ∧ StF wx a2 c2 o2 d2 R1 R2)
    case first =>
      go_wp2_with (first
              | (refine wpList_load_blk 24 (.tmp 1) b1 (cs := (stL a1 c1 o1 d1)) rfl rfl rfl B1.out.blk Tryd.underlying24 rfl HI.out ?_)
              | (refine wpList_load_blkS 24 (.tmp 1) b1 (cs := (stL a1 c1 o1 d1)) (by first | rfl | simp [Region.wanted, yielded]) rfl rfl B1.out.blk Tryd.underlying24 rfl HI.out ?_))
      refine (K1.out a1 o1 c1 d1 _ S1.out (Hk.out _ G.out)).mono ?_; rintro e wn ⟨a2, c2, o2, d2, rfl, hS2, hb⟩
      go_wp2_with (refine wpList_store_blk 24 (.tmp 2) (.tmp 22) _ (old := zero2) (cs := (stL a2 c2 o2 d2)) rfl rfl rfl rfl (Blk.new _ _ _) HI.out rfl rfl ?_)
      go_meet
      exact ⟨a2, c2, o2, d2, _, rfl, rfl, rfl, lay2_blk _ _ _ _, (B1.out.up (bt hb (lay2_below _ _ _ _))), (bt G.out (bt hb (lay2_below _ _ _ _))), (S1.out.up (bt hb (lay2_below _ _ _ _))), (hS2).up (lay2_below _ _ _ _)⟩
    case rest =>
      obtain ⟨a2, c2, o2, d2, b2, rfl, rfl, rfl, hB2, hB1, hG, hS1, hS2⟩ := hcut
      have B2 := Lib.hid hB2
      replace B1 := Lib.hid hB1
      replace G := Lib.hid hG
      replace S1 := Lib.hid hS1
      have S2 := Lib.hid hS2
      clear hB2 hB1 hG hS1 hS2
      go_upto_region 3 with (fail)
      go_cut [6, 7, 5] (fun v6 v7 v5 wx => ∃ a5 : Option Addr, ∃ c5 : Nat, ∃ o5 : Option Addr, ∃ d5 : Nat, ∃ b5 : Nat, v6 = .int .i64 0 ∧ v7 = .int .i64 11 ∧ v5 = .pointer (some ⟨b5, 0, none⟩) ∧ BlkT 24 wx b5 (stL a5 c5 o5 d5) ∧ BlkT 24 wx b1 (stL a1 c1 o1 d1) ∧ BlkT 24 wx b2 (stL a2 c2 o2 d2) ∧ Below w.heap.size w wx ∧ StF wx a1 c1 o1 d1 R1 Z0 ∧ StF wx a2 c2 o2 d2 R1 R2 ∧ StF wx a5 c5 o5 d5 R1 R2)
      case first =>
        go_wp2_with (first
                  | (refine wpList_load_blk 24 (.tmp 2) b2 (cs := (stL a2 c2 o2 d2)) rfl rfl rfl B2.out.blk Tryd.underlying24 rfl HI.out ?_)
                  | (refine wpList_load_blkS 24 (.tmp 2) b2 (cs := (stL a2 c2 o2 d2)) (by first | rfl | simp [Region.wanted, yielded]) rfl rfl B2.out.blk Tryd.underlying24 rfl HI.out ?_))
        refine (K2.out a2 o2 c2 d2 _ S2.out (Hk.out _ G.out)).mono ?_; rintro e wn ⟨a5, c5, o5, d5, rfl, hS5, hb⟩
        go_wp2_with (refine wpList_store_blk 24 (.tmp 5) (.tmp 28) _ (old := zero2) (cs := (stL a5 c5 o5 d5)) rfl rfl rfl rfl (Blk.new _ _ _) HI.out rfl rfl ?_)
        go_meet
        exact ⟨a5, c5, o5, d5, _, rfl, rfl, rfl, lay2_blk _ _ _ _, (B1.out.up (bt hb (lay2_below _ _ _ _))), (B2.out.up (bt hb (lay2_below _ _ _ _))), (bt G.out (bt hb (lay2_below _ _ _ _))), (S1.out.up (bt hb (lay2_below _ _ _ _))), (S2.out.up (bt hb (lay2_below _ _ _ _))), (hS5).up (lay2_below _ _ _ _)⟩
      case rest =>
        obtain ⟨a5, c5, o5, d5, b5, rfl, rfl, rfl, hB5, hB1, hB2, hG, hS1, hS2, hS5⟩ := hcut
        have B5 := Lib.hid hB5
        replace B1 := Lib.hid hB1
        replace B2 := Lib.hid hB2
        replace G := Lib.hid hG
        replace S1 := Lib.hid hS1
        replace S2 := Lib.hid hS2
        have S5 := Lib.hid hS5
        clear hB5 hB1 hB2 hG hS1 hS2 hS5
        go_upto_region 4 with (fail)
        go_cut [9, 10, 8] (fun v9 v10 v8 wx => ∃ a8 : Option Addr, ∃ c8 : Nat, ∃ o8 : Option Addr, ∃ d8 : Nat, ∃ b8 : Nat, v9 = .int .i64 2 ∧ v10 = .int .i64 0 ∧ v8 = .pointer (some ⟨b8, 0, none⟩) ∧ BlkT 24 wx b8 (stL a8 c8 o8 d8) ∧ BlkT 24 wx b1 (stL a1 c1 o1 d1) ∧ BlkT 24 wx b2 (stL a2 c2 o2 d2) ∧ BlkT 24 wx b5 (stL a5 c5 o5 d5) ∧ Below w.heap.size w wx ∧ StF wx a1 c1 o1 d1 R1 Z0 ∧ StF wx a2 c2 o2 d2 R1 R2 ∧ StF wx a5 c5 o5 d5 R1 R2 ∧ StF wx a8 c8 o8 d8 R3 R2)
        case first =>
          go_wp2_with (first
                      | (refine wpList_load_blk 24 (.tmp 5) b5 (cs := (stL a5 c5 o5 d5)) rfl rfl rfl B5.out.blk Tryd.underlying24 rfl HI.out ?_)
                      | (refine wpList_load_blkS 24 (.tmp 5) b5 (cs := (stL a5 c5 o5 d5)) (by first | rfl | simp [Region.wanted, yielded]) rfl rfl B5.out.blk Tryd.underlying24 rfl HI.out ?_))
          refine (K3.out a5 o5 c5 d5 _ S5.out (Hk.out _ G.out)).mono ?_; rintro e wn ⟨a8, c8, o8, d8, rfl, hS8, hb⟩
          go_wp2_with (refine wpList_store_blk 24 (.tmp 8) (.tmp 34) _ (old := zero2) (cs := (stL a8 c8 o8 d8)) rfl rfl rfl rfl (Blk.new _ _ _) HI.out rfl rfl ?_)
          go_meet
          exact ⟨a8, c8, o8, d8, _, rfl, rfl, rfl, lay2_blk _ _ _ _, (B1.out.up (bt hb (lay2_below _ _ _ _))), (B2.out.up (bt hb (lay2_below _ _ _ _))), (B5.out.up (bt hb (lay2_below _ _ _ _))), (bt G.out (bt hb (lay2_below _ _ _ _))), (S1.out.up (bt hb (lay2_below _ _ _ _))), (S2.out.up (bt hb (lay2_below _ _ _ _))), (S5.out.up (bt hb (lay2_below _ _ _ _))), (hS8).up (lay2_below _ _ _ _)⟩
        case rest =>
          obtain ⟨a8, c8, o8, d8, b8, rfl, rfl, rfl, hB8, hB1, hB2, hB5, hG, hS1, hS2, hS5, hS8⟩ := hcut
          have B8 := Lib.hid hB8
          replace B1 := Lib.hid hB1
          replace B2 := Lib.hid hB2
          replace B5 := Lib.hid hB5
          replace G := Lib.hid hG
          replace S1 := Lib.hid hS1
          replace S2 := Lib.hid hS2
          replace S5 := Lib.hid hS5
          have S8 := Lib.hid hS8
          clear hB8 hB1 hB2 hB5 hG hS1 hS2 hS5 hS8
          go_upto_region 5 with (fail)
          go_wp2_with fail
          refine (KR.out _ (Hk.out _ G.out)).mono ?_; rintro e wn ⟨ax, cx, rfl, hX⟩
          have hcx := Lib.hid (show 16 ≤ cx ∧ cx ≤ maxLen by have h := hX.buf.cap; rw [hl1.out] at h; exact ⟨h.2.1, h.2.2⟩)
          have hb := hX.bel
          have X := Lib.hid hX.at
          clear hX
          replace B1 := Lib.hid (B1.out.up hb)
          replace B2 := Lib.hid (B2.out.up hb)
          replace B5 := Lib.hid (B5.out.up hb)
          replace B8 := Lib.hid (B8.out.up hb)
          replace G := Lib.hid (bt G.out hb)
          replace S1 := Lib.hid (S1.out.up hb)
          replace S2 := Lib.hid (S2.out.up hb)
          replace S5 := Lib.hid (S5.out.up hb)
          replace S8 := Lib.hid (S8.out.up hb)
          clear hb
          go_wp2_with fail
          refine (KG.out ax cx _ hcx.out.1 hcx.out.2 X.out (Hk.out _ G.out)).mono ?_; rintro e y1 ⟨rfl, hb⟩
          replace B1 := Lib.hid (B1.out.up hb)
          replace B2 := Lib.hid (B2.out.up hb)
          replace B5 := Lib.hid (B5.out.up hb)
          replace B8 := Lib.hid (B8.out.up hb)
          replace G := Lib.hid (bt G.out hb)
          replace S1 := Lib.hid (S1.out.up hb)
          replace S2 := Lib.hid (S2.out.up hb)
          replace S5 := Lib.hid (S5.out.up hb)
          replace S8 := Lib.hid (S8.out.up hb)
          replace X := Lib.hid (X.out.mono hb)
          clear hb
          go_wp2_with (first
                        | (refine wpList_load_blk 24 (.tmp 8) b8 (cs := (stL a8 c8 o8 d8)) rfl rfl rfl B8.out.blk Tryd.underlying24 rfl HI.out ?_)
                        | (refine wpList_load_blkS 24 (.tmp 8) b8 (cs := (stL a8 c8 o8 d8)) (by first | rfl | simp [Region.wanted, yielded]) rfl rfl B8.out.blk Tryd.underlying24 rfl HI.out ?_))
          refine (KB.out a8 o8 c8 d8 _ S8.out (Hk.out _ G.out)).mono ?_; rintro e y2 ⟨rfl, hb⟩
          replace B1 := Lib.hid (B1.out.up hb)
          replace B2 := Lib.hid (B2.out.up hb)
          replace B5 := Lib.hid (B5.out.up hb)
          replace B8 := Lib.hid (B8.out.up hb)
          replace G := Lib.hid (bt G.out hb)
          replace S1 := Lib.hid (S1.out.up hb)
          replace S2 := Lib.hid (S2.out.up hb)
          replace S5 := Lib.hid (S5.out.up hb)
          replace S8 := Lib.hid (S8.out.up hb)
          replace X := Lib.hid (X.out.mono hb)
          clear hb
          obtain ⟨y0, y1⟩ := cells2 B1.out.blk
          go_wp2_with fail
          refine (KS.out a1 ax c1 cx _ S1.out.ha X.out).mono ?_; rintro e wm ⟨rfl, rfl⟩
          go_wp2_with (first
                        | (refine wpList_load_blk 24 (.tmp 1) b1 (cs := (stL a1 c1 o1 d1)) rfl rfl rfl B1.out.blk Tryd.underlying24 rfl HI.out ?_)
                        | (refine wpList_load_blkS 24 (.tmp 1) b1 (cs := (stL a1 c1 o1 d1)) (by first | rfl | simp [Region.wanted, yielded]) rfl rfl B1.out.blk Tryd.underlying24 rfl HI.out ?_))
          refine (KT.out a1 o1 c1 d1 _ S1.out).mono ?_; rintro e y3 ⟨rfl, hb⟩
          replace B1 := Lib.hid (B1.out.up hb)
          replace B2 := Lib.hid (B2.out.up hb)
          replace B5 := Lib.hid (B5.out.up hb)
          replace B8 := Lib.hid (B8.out.up hb)
          replace G := Lib.hid (bt G.out hb)
          replace S1 := Lib.hid (S1.out.up hb)
          replace S2 := Lib.hid (S2.out.up hb)
          replace S5 := Lib.hid (S5.out.up hb)
          replace S8 := Lib.hid (S8.out.up hb)
          replace X := Lib.hid (X.out.mono hb)
          clear hb
          go_wp2_with fail
          refine (KZ.out _).mono ?_; rintro e y4 ⟨rfl, hb⟩
          replace B1 := Lib.hid (B1.out.up hb)
          replace B2 := Lib.hid (B2.out.up hb)
          replace B5 := Lib.hid (B5.out.up hb)
          replace B8 := Lib.hid (B8.out.up hb)
          replace G := Lib.hid (bt G.out hb)
          replace S1 := Lib.hid (S1.out.up hb)
          replace S2 := Lib.hid (S2.out.up hb)
          replace S5 := Lib.hid (S5.out.up hb)
          replace S8 := Lib.hid (S8.out.up hb)
          replace X := Lib.hid (X.out.mono hb)
          clear hb
          go_wp2_with (first
                        | (refine wpList_load_blk 24 (.tmp 1) b1 (cs := (stL a1 c1 o1 d1)) rfl rfl rfl B1.out.blk Tryd.underlying24 rfl HI.out ?_)
                        | (refine wpList_load_blkS 24 (.tmp 1) b1 (cs := (stL a1 c1 o1 d1)) (by first | rfl | simp [Region.wanted, yielded]) rfl rfl B1.out.blk Tryd.underlying24 rfl HI.out ?_))
          refine (KQ.out a1 o1 c1 d1 _ S1.out).mono ?_; rintro e y5 ⟨rfl, hb⟩
          replace B1 := Lib.hid (B1.out.up hb)
          replace B2 := Lib.hid (B2.out.up hb)
          replace B5 := Lib.hid (B5.out.up hb)
          replace B8 := Lib.hid (B8.out.up hb)
          replace G := Lib.hid (bt G.out hb)
          replace S1 := Lib.hid (S1.out.up hb)
          replace S2 := Lib.hid (S2.out.up hb)
          replace S5 := Lib.hid (S5.out.up hb)
          replace S8 := Lib.hid (S8.out.up hb)
          replace X := Lib.hid (X.out.mono hb)
          clear hb
          go_wp2_with (first
                        | (refine wpList_load_blk 24 (.tmp 1) b1 (cs := (stL a1 c1 o1 d1)) rfl rfl rfl B1.out.blk Tryd.underlying24 rfl HI.out ?_)
                        | (refine wpList_load_blk 24 (.tmp 2) b2 (cs := (stL a2 c2 o2 d2)) rfl rfl rfl B2.out.blk Tryd.underlying24 rfl HI.out ?_)
                        | (refine wpList_load_blkS 24 (.tmp 1) b1 (cs := (stL a1 c1 o1 d1)) (by first | rfl | simp [Region.wanted, yielded]) rfl rfl B1.out.blk Tryd.underlying24 rfl HI.out ?_)
                        | (refine wpList_load_blkS 24 (.tmp 2) b2 (cs := (stL a2 c2 o2 d2)) (by first | rfl | simp [Region.wanted, yielded]) rfl rfl B2.out.blk Tryd.underlying24 rfl HI.out ?_))
          refine (KN2.out a1 o1 a2 o2 c1 d1 c2 d2 _ S1.out S2.out).mono ?_; rintro e y6 ⟨rfl, hb⟩
          replace B1 := Lib.hid (B1.out.up hb)
          replace B2 := Lib.hid (B2.out.up hb)
          replace B5 := Lib.hid (B5.out.up hb)
          replace B8 := Lib.hid (B8.out.up hb)
          replace G := Lib.hid (bt G.out hb)
          replace S1 := Lib.hid (S1.out.up hb)
          replace S2 := Lib.hid (S2.out.up hb)
          replace S5 := Lib.hid (S5.out.up hb)
          replace S8 := Lib.hid (S8.out.up hb)
          replace X := Lib.hid (X.out.mono hb)
          clear hb
          go_wp2_with fail
          go_ret
          exact ⟨rfl, G.out⟩
end Go.Proofs.YtiaigekmkmampaaDoor
