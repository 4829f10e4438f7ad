/- The walk of the law SlotGives. -/
import Derived.Test.YtiaigekmkmampaaDoorSlF
set_option linter.unusedSimpArgs false
set_option linter.unusedVariables false
namespace Go.Proofs.YtiaigekmkmampaaDoor
open Go.RowKit

/-- what the loop of SlotGives keeps -/
def GiveAt (w wr : World) (b4 : Nat) (i : Nat) : Prop := ∃ (a : Option Addr) (c : Nat) (o : Option Addr) (d : Nat) (l m : List UInt8), BlkT 24 wr b4 (stL a c o d) ∧ StF wr a c o d l m ∧ bestN l m = i + 1 ∧ bestAt l m = i % 2 ∧ Below w.heap.size w wr ∧ w.heap.size ≤ b4
theorem k40 (n : Nat) : ((n : Int)).tmod 40 = ((n % 40 : Nat) : Int) := by rw [Int.tmod_eq_emod_of_nonneg (by omega)]; exact (Int.natCast_emod _ _).symm
theorem k2 (n : Nat) : ((n : Int)).tmod 2 = ((n % 2 : Nat) : Int) := by rw [Int.tmod_eq_emod_of_nonneg (by omega)]; exact (Int.natCast_emod _ _).symm

set_option maxRecDepth 100000 in
set_option maxHeartbeats 4000000 in
theorem slotGives_any (many : Nat) (hmany : many < 256) (w : World) (hk : KeysAt w) :
    Calls Tryd.prog 6 #[.int .u8 many] w (BoolOut w true) := by
  have HI := Lib.hid store_size
  have Hsh := Lib.hid (shown13 w hk)
  have Hk := Lib.hid (fun W (h : Below w.heap.size w W) => hk.mono h)
  have KN := Lib.hid (fun W h => new_st W h)
  unfold StT at KN
  obtain ⟨k, hk40⟩ : ∃ k, k = many % 40 := ⟨_, rfl⟩
  have hk39 : k < 40 := by omega
  have hm40 : ((many : Int)).tmod 40 = (k : Int) := by rw [k40, hk40]
  have hwm : IntKind.i64.wrap (many : Int) = (many : Int) := by rw [IntKind.wrap_i64]; omega
  have hwk : IntKind.i64.wrap (k : Int) = (k : Int) := by rw [IntKind.wrap_i64]; omega
  have hwk1 : IntKind.i64.wrap ((k : Int) + 1) = (k : Int) + 1 := by rw [IntKind.wrap_i64]; omega
  have KR0 := refRec_ok (k + 1) (by omega) (by unfold lastN; omega)
  rw [show ((k + 1 : Nat) : Int) = (k : Int) + 1 by omega] at KR0
  have KR := Lib.hid KR0
  unfold RecOut at KR
  clear KR0 hk hk40
  go_enter Tryd.func6, Tryd.ntmps6
  go_wp2_with fail
  refine Hsh.out.mono ?_; rintro e w1 ⟨rfl, hb1⟩
  have G := Lib.hid hb1
  clear hb1
  go_wp2_with fail
  refine (KN.out _ (Hk.out _ G.out)).mono ?_; rintro e w2 ⟨a, c, o, d, rfl, hS, hb⟩
  replace G := Lib.hid (bt G.out hb)
  have S4 := Lib.hid hS
  clear hS hb
  go_upto_region 3 with (refine wpList_store_blk 24 (.tmp 4) (.tmp 17) _ (old := zero2) (cs := stL a c o d) rfl rfl rfl rfl (Blk.new _ _ _) HI.out rfl rfl ?_)
  generalize hW : (World.alloc w2 _).setRow _ _ = W
  have B4 := Lib.hid (show BlkT 24 W w2.heap.size (stL a c o d) by rw [← hW]; exact lay2_blk _ _ _ _)
  have hbl := show Below w2.heap.size w2 W by rw [← hW]; exact lay2_below _ _ _ _
  have Low := Lib.hid G.out.size
  replace S4 := Lib.hid (S4.out.up hbl)
  replace G := Lib.hid (bt G.out hbl)
  clear hW hbl
  generalize w2.heap.size = b4 at B4 Low ⊢
  have H0 := Lib.hid (show GiveAt w W b4 0 from ⟨a, c, o, d, _, _, B4.out, S4.out, new_best.1, new_best.2, G.out, Low.out⟩)
  clear B4 S4 G
  go_wp2_with fail
  go_loopw [6] (fun v6 wr => ∃ i : Nat, i ≤ k ∧ v6 = .int .i64 ((i + 1 : Nat) : Int) ∧ GiveAt w wr b4 i) (fun v6 _ => k + 1 - (intOf v6).toNat)
  case atStart => exact ⟨0, by omega, rfl, H0.out⟩
  case round =>
    clear H0
    obtain ⟨i, hi, rfl, a, c, o, d, l, m, hB, hS, hn, hat, hG, hlow⟩ := hrel
    have B4 := Lib.hid hB
    have S4 := Lib.hid hS
    have G := Lib.hid hG
    by_cases hlt : i < k
    · obtain ⟨e1, e2, e3, e4⟩ := give_next l m i (by unfold lastN; omega) hS.la hS.lb hn hat
      obtain ⟨L, hL⟩ : ∃ L, L = takeA l m (-1) := ⟨_, rfl⟩
      obtain ⟨M, hM⟩ : ∃ M, M = takeB l m (-1) := ⟨_, rfl⟩
      have K := Lib.hid (take_st (L := L) (M := M) (cut := -1) (N := ((i + 1 : Nat) : Int)) (E := 0) hS (Hk.out _ hG) hL.symm hM.symm (by rw [e2]) (by rw [e1]; rfl))
      unfold TakeT at K
      rw [← hL, ← hM] at e3 e4
      have E3 := Lib.hid e3
      have E4 := Lib.hid e4
      have hd : ((i + 1 : Nat) : Int) ≤ (k : Int) := by omega
      have Hlt := Lib.hid hlt
      clear hL hM e1 e2 e3 e4 hB hS hn hat hG hlow
      obtain ⟨I, hI⟩ : ∃ I, I = i + 1 := ⟨_, rfl⟩
      rw [← hI] at K hd ⊢
      have HI1 := Lib.hid hI
      have hI40 : (I : Int) ≤ 40 := by omega
      clear hI hlt hi
      go_wp2_with (refine wpList_load_blk 24 (.tmp 4) b4 (cs := stL a c o d) rfl rfl rfl B4.out.blk Tryd.underlying24 rfl HI.out ?_)
      refine K.out.mono ?_; rintro e w6 ⟨a2, c2, o2, d2, rfl, hS2, hb⟩
      replace B4 := Lib.hid (B4.out.up hb)
      replace G := Lib.hid (bt G.out hb)
      have S7 := Lib.hid hS2
      clear hS2 hb K S4
      go_upto_region 8 with (refine wpList_store_blk 24 (.tmp 7) (.tmp 29) _ (old := zero2) (cs := stL a2 c2 o2 d2) rfl rfl rfl rfl (Blk.new _ _ _) HI.out rfl rfl ?_)
      generalize hW : (World.alloc w6 _).setRow _ _ = W
      have B7 := Lib.hid (show BlkT 24 W w6.heap.size (stL a2 c2 o2 d2) by rw [← hW]; exact lay2_blk _ _ _ _)
      have hbl := show Below w6.heap.size w6 W by rw [← hW]; exact lay2_below _ _ _ _
      replace B4 := Lib.hid (B4.out.up hbl)
      replace S7 := Lib.hid (S7.out.up hbl)
      replace G := Lib.hid (bt G.out hbl)
      clear hW hbl
      generalize w6.heap.size = b7 at B7 ⊢
      go_wp2_with (first | (refine wpList_load_blk 24 (.tmp 7) b7 (cs := stL a2 c2 o2 d2) rfl rfl rfl B7.out.blk Tryd.underlying24 rfl HI.out ?_) | (refine wpList_store_blk 24 (.tmp 4) (.tmp 39) b4 (old := stL a c o d) (cs := stL a2 c2 o2 d2) rfl rfl rfl rfl B4.out.blk HI.out rfl rfl ?_))
      exact ⟨⟨i + 1, Hlt.out, congrArg (Value.int .i64) (by have := HI1.out; omega), a2, c2, o2, d2, L, M, B4.out.row _, S7.out.row B4.out _, E3.out, E4.out, below_setRow G.out Low.out _, Low.out⟩, by simp [intOf]; have := HI1.out; have := Hlt.out; omega⟩
    · obtain rfl : i = k := by omega
      have hd : ¬ ((i + 1 : Nat) : Int) ≤ (i : Int) := by omega
      have hslot := best_slot l m i hn
      have hbt : decide (0 < bestN l m) = true := by rw [hn]; exact decide_eq_true (by omega)
      obtain ⟨R, hR⟩ : ∃ R, R = recF (i + 1) := ⟨_, rfl⟩
      have HRl := Lib.hid (show R.length = 16 by rw [hR, recF_len])
      rw [← hR] at KR hslot
      have KS := Lib.hid (fun (p q : Option Addr) (c d : Nat) W (h : BytesAt W p R) (h2 : BytesAt W q R) => (show Calls Tryd.prog 14 #[.slice p 16 c, .slice q 16 d] W (fun e w' => e = .returned (.bool true) ∧ W = w') from by
        have h3 := same01_any p q 16 c 16 d R R W HRl.out.symm HRl.out.symm h h2
        rwa [beq_self_eq_true] at h3))
      rcases (show i % 2 = 0 ∨ i % 2 = 1 by omega) with h2 | h2
      · have KB := Lib.hid (best_st (N := (i : Int) + 1) (A := 0) (t := true) hS (Hk.out _ hG) (by rw [hn]; omega) (by rw [hat, h2]; rfl) hbt)
        have ht2 : ((i : Int)).tmod 2 = 0 := by rw [k2, h2]; rfl
        have hl : l = R := by rw [hat, h2, if_neg (by decide)] at hslot; exact hslot
        subst hl
        clear hR hB hS hn hat hG hlow hslot hbt h2 hi hlt
        go_wp2_with (refine wpList_load_blk 24 (.tmp 4) b4 (cs := stL a c o d) rfl rfl rfl B4.out.blk Tryd.underlying24 rfl HI.out ?_)
        refine KB.out.mono ?_; rintro e w6 ⟨rfl, hb⟩
        replace B4 := Lib.hid (B4.out.up hb)
        replace S4 := Lib.hid (S4.out.up hb)
        replace G := Lib.hid (bt G.out hb)
        clear hb KB
        go_wp2_with fail
        refine (KR.out _).mono ?_; rintro e w7 ⟨a7, c7, rfl, ho⟩
        obtain ⟨y0, y1⟩ := cells2 (B4.out.up ho.bel).blk
        have A7 := Lib.hid ho.at
        replace S4 := Lib.hid (S4.out.up ho.bel)
        replace G := Lib.hid (bt G.out ho.bel)
        clear ho
        go_wp2_with fail
        refine (KS.out a a7 c c7 _ S4.out.ha A7.out).mono ?_; rintro e w8 ⟨rfl, rfl⟩
        go_wp2_with fail
        go_ret
        exact ⟨rfl, G.out⟩
      · have KB := Lib.hid (best_st (N := (i : Int) + 1) (A := 1) (t := true) hS (Hk.out _ hG) (by rw [hn]; omega) (by rw [hat, h2]; rfl) hbt)
        have ht2 : ((i : Int)).tmod 2 = 1 := by rw [k2, h2]; rfl
        have hl : m = R := by rw [hat, h2, if_pos rfl] at hslot; exact hslot
        subst hl
        clear hR hB hS hn hat hG hlow hslot hbt h2 hi hlt
        go_wp2_with (refine wpList_load_blk 24 (.tmp 4) b4 (cs := stL a c o d) rfl rfl rfl B4.out.blk Tryd.underlying24 rfl HI.out ?_)
        refine KB.out.mono ?_; rintro e w6 ⟨rfl, hb⟩
        replace B4 := Lib.hid (B4.out.up hb)
        replace S4 := Lib.hid (S4.out.up hb)
        replace G := Lib.hid (bt G.out hb)
        clear hb KB
        go_wp2_with fail
        refine (KR.out _).mono ?_; rintro e w7 ⟨a7, c7, rfl, ho⟩
        obtain ⟨y0, y1⟩ := cells2 (B4.out.up ho.bel).blk
        have A7 := Lib.hid ho.at
        replace S4 := Lib.hid (S4.out.up ho.bel)
        replace G := Lib.hid (bt G.out ho.bel)
        clear ho
        go_wp2_with fail
        refine (KS.out o a7 d c7 _ S4.out.hb A7.out).mono ?_; rintro e w8 ⟨rfl, rfl⟩
        go_wp2_with fail
        go_ret
        exact ⟨rfl, G.out⟩
theorem slotGives_in (hsh : Shown13OK) (w : World) (hk : KeysAt w) (n : Int) (hn : (Lit.int .u8 n).wf = true) :
    Calls Tryd.prog 6 #[.int .u8 n] w (BoolOut w true) := by
  simp [Lit.wf, IntKind.min, IntKind.max, IntKind.bits, IntKind.signed] at hn
  obtain ⟨k, rfl⟩ : ∃ k : Nat, n = k := ⟨n.toNat, by omega⟩
  exact slotGives_any k (by omega) w hk
end Go.Proofs.YtiaigekmkmampaaDoor
