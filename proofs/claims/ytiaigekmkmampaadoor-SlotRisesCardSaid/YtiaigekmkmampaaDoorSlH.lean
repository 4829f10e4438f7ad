/- The walk of the law SlotRises. -/
import Derived.Test.YtiaigekmkmampaaDoorSlF
import Derived.Test.YtiaigekmkmampaaDoorInX
set_option linter.unusedSimpArgs false
set_option linter.unusedVariables false
namespace Go.Proofs.YtiaigekmkmampaaDoor
open Go.RowKit

/-- what the loop of SlotRises keeps -/
def RiseAt (w wr : World) (b2 : Nat) (last : Nat) : Prop := ∃ (a : Option Addr) (c : Nat) (o : Option Addr) (d : Nat) (l m : List UInt8), BlkT 24 wr b2 (stL a c o d) ∧ StF wr a c o d l m ∧ (0 < last → last < bestN l m) ∧ Below w.heap.size w wr ∧ w.heap.size ≤ b2
theorem take_four (l m : List UInt8) (cut : Int) : (takeE l m cut = 0 ∧ takeN l m cut = bestN l m) ∨ (takeE l m cut = 11 ∧ takeN l m cut = 0) ∨ (takeE l m cut = 10 ∧ takeN l m cut = 0) ∨ (takeE l m cut = 12 ∧ takeN l m cut = 0) := by
  unfold takeN takeE
  split
  · right; right; right; exact ⟨rfl, by rw [if_neg (by decide)]⟩
  · split
    · right; right; left; exact ⟨rfl, by rw [if_neg (by decide)]⟩
    · split
      · right; left; exact ⟨rfl, by rw [if_neg (by decide)]⟩
      · left; exact ⟨rfl, if_pos rfl⟩

set_option maxRecDepth 100000 in
set_option maxHeartbeats 8000000 in
theorem slotRises_any (v : Value) (l0 m0 : List UInt8) (z : Option Addr) (zc : Nat) (cuts : List Int) (w : World) (hv : StAt w v l0 m0) (hz : At w z (cuts.map (Value.int .i64))) (hk : KeysAt w) (hzl : cuts.length ≤ maxLen) :
    Calls Tryd.prog 4 #[v, .slice z cuts.length zc] w (BoolOut w true) := by
  have HI := Lib.hid store_size
  have Hsh := Lib.hid (fun W (h : Below w.heap.size w W) => shown13 W (hk.mono h))
  have Hk := Lib.hid (fun W (h : Below w.heap.size w W) => hk.mono h)
  obtain ⟨rt, hrt⟩ : ∃ x, x = rightS l0 m0 := ⟨_, rfl⟩
  have KR0 := Lib.hid (fun W (h : Below w.heap.size w W) => stRefRight_any v l0 m0 W (hv.up h))
  rw [← hrt] at KR0
  have KR := Lib.hid (fun (a b : Option Addr) (c d : Nat) (l m : List UInt8) W (h : StF W a c b d l m) => (show Calls Tryd.prog 13 #[.agg #[.slice a 16 c, .slice b 16 d]] W (BoolOut W true) from by
    have h2 := stRefRight_any _ _ _ W h.st
    rwa [rightS_iff.2 ⟨h.la, h.lb⟩] at h2))
  have HZ := Lib.hid hz
  have Hrt := Lib.hid hrt
  have Hv := Lib.hid hv
  obtain ⟨a0, c0, o0, d0, rfl, p1, p2, p3, p4⟩ := hv
  have HP := Lib.hid (And.intro p1 (And.intro p2 (And.intro p3 p4)))
  unfold maxLen at hzl
  clear hk hrt hz p1 p2 p3 p4
  go_enter Tryd.func4, Tryd.ntmps4
  go_upto_region 1 with (fail)
  generalize hW : World.alloc w _ = W
  have B2 := Lib.hid (show BlkT 24 W w.heap.size [.slice a0 l0.length c0, .slice o0 m0.length d0] by rw [← hW]; exact BlkT.new w [.slice a0 l0.length c0, .slice o0 m0.length d0] _)
  have G := Lib.hid (show Below w.heap.size w W by rw [← hW]; exact ba w _)
  clear hW
  obtain ⟨b2, hb2⟩ : ∃ b, b = w.heap.size := ⟨_, rfl⟩
  rw [← hb2] at B2
  simp only [← hb2]
  have Low := Lib.hid (show w.heap.size ≤ b2 by omega)
  clear hb2
  go_wp2_with fail
  refine (Hsh.out _ G.out).mono ?_; rintro e w1 ⟨rfl, hb⟩
  replace B2 := Lib.hid (B2.out.up hb)
  replace G := Lib.hid (bt G.out hb)
  clear hb Hsh
  go_wp2_with (refine wpList_load_blk 24 (.tmp 2) b2 (cs := [.slice a0 l0.length c0, .slice o0 m0.length d0]) rfl rfl rfl B2.out.blk Tryd.underlying24 rfl HI.out ?_)
  refine (KR0.out _ G.out).mono ?_; rintro e w2 ⟨rfl, hb⟩
  replace B2 := Lib.hid (B2.out.up hb)
  replace G := Lib.hid (bt G.out hb)
  clear hb KR0
  rcases rt with _ | _
  · go_wp2_with fail
    go_ret
    exact ⟨rfl, G.out⟩
  by_cases h30 : 30 < cuts.length
  · have hd : (30 : Int) < (cuts.length : Int) := by omega
    go_wp2_with fail
    go_ret
    exact ⟨rfl, G.out⟩
  have hd : ¬ (30 : Int) < (cuts.length : Int) := by omega
  have H0 := Lib.hid (show RiseAt w w2 b2 0 from by
    obtain ⟨k1, k2⟩ := rightS_iff.1 Hrt.out.symm
    have h := B2.out
    rw [k1, k2] at h
    exact ⟨_, _, _, _, l0, m0, h, ⟨by rw [← k1]; exact HP.out.1, by rw [← k2]; exact HP.out.2.1, HP.out.2.2.1.mono G.out, HP.out.2.2.2.mono G.out, k1, k2⟩, fun h => absurd h (by omega), G.out, Low.out⟩)
  clear B2 G Hrt HP Hv
  go_wp2_with fail
  go_loopw [6, 7] (fun v6 v7 wr => ∃ i last : Nat, i ≤ cuts.length ∧ v7 = .int .i64 (i : Int) ∧ v6 = .int .i64 (last : Int) ∧ last ≤ 4611686018427387904 ∧ RiseAt w wr b2 last) (fun _ v7 _ => cuts.length - (intOf v7).toNat)
  case atStart => exact ⟨0, 0, by omega, rfl, rfl, by omega, H0.out⟩
  case round =>
    clear H0
    obtain ⟨i, last, hi, rfl, rfl, hlast, a, c, o, d, l, m, hB, hS, hlt', hG, hlow⟩ := hrel
    have B2 := Lib.hid hB
    have G := Lib.hid hG
    by_cases hlt : i < cuts.length
    · obtain ⟨zb, zo, rfl, hzb, hzc⟩ := IntsAt.cell (At.mono HZ.out hG) (by omega)
      have hc0 := hzc i hlt
      obtain ⟨cut, hcut⟩ : ∃ cut, cut = cuts.getD i 0 := ⟨_, rfl⟩
      rw [← hcut] at hc0
      obtain ⟨L, hL⟩ : ∃ L, L = takeA l m cut := ⟨_, rfl⟩
      obtain ⟨M, hM⟩ : ∃ M, M = takeB l m cut := ⟨_, rfl⟩
      obtain ⟨N, hN⟩ : ∃ N, N = takeN l m cut := ⟨_, rfl⟩
      obtain ⟨E, hE⟩ : ∃ E, E = takeE l m cut := ⟨_, rfl⟩
      have K := Lib.hid (fun W (h : Below wr.heap.size wr W) => take_st (L := L) (M := M) (cut := cut) (N := (N : Int)) (E := (E : Int)) (hS.up h) (Hk.out _ (bt hG h)) hL.symm hM.symm (by rw [hN]) (by rw [hE]))
      unfold TakeT at K
      obtain ⟨y0, y1⟩ := cells2 hB.blk
      have Hc := Lib.hid (show ∀ W, Below wr.heap.size wr W → W.cell? ⟨zb, zo + i, none⟩ = some (.int .i64 cut) from fun W h => by rw [h.cell (p := ⟨zb, zo + i, none⟩) hzb]; exact hc0)
      have Hr := Lib.hid (take_rises l m cut hS.la hS.lb)
      have Hf := Lib.hid (take_four l m cut)
      rw [← hL, ← hM, ← hE] at Hr
      rw [← hE, ← hN] at Hf
      have Hl := Lib.hid hlt'
      have hbl := bestN_le l m
      have hN62 : N ≤ 4611686018427387904 := by
        have h := Hf.out; unfold lastN at hbl; omega
      have HX := Lib.hid (show ∃ t, t = decide (0 < bestN L M) from ⟨_, rfl⟩)
      generalize bestN l m = n at Hr Hf Hl hbl
      have hd1 : (i : Int) < (cuts.length : Int) := by omega
      have hi0 : (0 : Int) ≤ (i : Int) := by omega
      clear hzc hcut hL hM hN hE hS hB hlt' hG hzb
      go_wp2_with fail
      have KS := Lib.hid (show ∀ w', Below wr.heap.size wr w' → (Below wr.heap.size wr w' ∧ w'.cell? ⟨b2, 0, none⟩ = some (.slice a 16 c) ∧ w'.cell? ⟨b2, 1, none⟩ = some (.slice o 16 d) ∧ w'.cell? ⟨zb, zo + i, none⟩ = some (.int .i64 cut)) from fun w' hb => by
        obtain ⟨d0, d1⟩ := cells2 (B2.out.up hb).blk
        exact ⟨hb, d0, d1, Hc.out w' hb⟩)
      go_cut [8, 9, 10] (fun v8 v9 v10 wx => ∃ (b8 : Nat) (a2 : Option Addr) (c2 : Nat) (o2 : Option Addr) (d2 : Nat), v8 = .pointer (some ⟨b8, 0, none⟩) ∧ v9 = .int .i64 (N : Int) ∧ v10 = .int .i64 (E : Int) ∧ BlkT 24 wx b8 (stL a2 c2 o2 d2) ∧ StF wx a2 c2 o2 d2 L M ∧ Below wr.heap.size wr wx)
      case first =>
        have hS0 := Below.refl wr.heap.size wr
        go_region_held3 (fun w' => Below wr.heap.size wr w' ∧ w'.cell? ⟨b2, 0, none⟩ = some (.slice a 16 c) ∧ w'.cell? ⟨b2, 1, none⟩ = some (.slice o 16 d) ∧ w'.cell? ⟨zb, zo + i, none⟩ = some (.int .i64 cut))
          (first
            | (apply KS.out; (with_reducible ((try apply bta); (try (apply rset2_below; rotate_left; first | apply Nat.le_refl)); (try apply bta); (try apply bt3 hb5); (try apply bta); (first | apply Below.refl | (apply btd; (try apply bta); apply Below.refl)))))
            | fail)
          ((go_at_call 22; go_split_ands; ((with_reducible refine Calls.mono (K.out _ (by assumption)) ?_); rintro e w5 ⟨a6, c6, o6, d6, rfl, h6, hb5⟩; (try ((with_reducible have z1 := BlkT.up (BlkT.new _ zero2 _) hb5); have fz1 := z1.blk.frozen; have lz1 := z1.blk.lt; obtain ⟨x0, x1⟩ := cells2 z1.blk)); (try ((with_reducible have z1 := BlkT.up (BlkT.up (BlkT.new _ zero2 _) (bd _)) hb5); have fz1 := z1.blk.frozen; have lz1 := z1.blk.lt; obtain ⟨x0, x1⟩ := cells2 z1.blk)))))
        all_goals
          go_split_ands
          go_wp2_with fail
          go_meet
        · exact ⟨w5.heap.size, a6, c6, o6, d6, rfl, rfl, rfl, BlkT.new w5 (stL a6 c6 o6 d6) _, h6.up (ba w5 _), by assumption⟩
        · exact ⟨wr.heap.size, a6, c6, o6, d6, rfl, rfl, rfl, rset2 z1, StF.set2 h6 z1, by assumption⟩
      case rest =>
        obtain ⟨b8, a2, c2, o2, d2, rfl, rfl, rfl, h8, hS8, hbc⟩ := hcut
        have B8 := Lib.hid h8
        have S8 := Lib.hid hS8
        replace B2 := Lib.hid (B2.out.up hbc)
        replace G := Lib.hid (bt G.out hbc)
        have hc1 := Hc.out wc hbc
        have KB := Lib.hid (fun W (h : Below wc.heap.size wc W) => best_st (N := (bestN L M : Int)) (A := (bestAt L M : Int)) (t := decide (0 < bestN L M)) (S8.out.up h) (Hk.out _ (bt G.out h)) rfl rfl rfl)
        obtain ⟨T, hT⟩ : ∃ T, T = decide (0 ≤ cut ∧ cut < 16) := ⟨_, rfl⟩
        clear h8 hS8 hbc hc0 KS K Hc y0 y1
        go_upto_region 9 with (fail)
        go_cut [11] (fun v11 wx => v11 = .bool T ∧ wc = wx)
        case first =>
          clear hlast hN62 hbl
          by_cases t1 : 0 ≤ cut
          · by_cases t2 : cut < 16
            · have hT1 : T = true := by rw [hT]; exact decide_eq_true ⟨t1, t2⟩
              subst hT1
              clear hT
              go_wp2_with fail
              go_meet
              exact ⟨rfl, rfl⟩
            · have hT1 : T = false := by rw [hT]; exact decide_eq_false fun h => t2 h.2
              have t3 : decide (cut < 16) = false := decide_eq_false t2
              subst hT1
              clear hT t2
              go_wp2_with fail
              go_meet
              exact ⟨rfl, rfl⟩
          · have hT1 : T = false := by rw [hT]; exact decide_eq_false fun h => t1 h.1
            subst hT1
            clear hT
            go_wp2_with fail
            go_meet
            exact ⟨rfl, rfl⟩
        case rest =>
          obtain ⟨rfl, rfl⟩ := hcut
          have HT := Lib.hid hT
          obtain ⟨Q, hQ⟩ : ∃ Q, Q = bestN L M := ⟨_, rfl⟩
          obtain ⟨q, hq⟩ : ∃ q, q = decide (0 < bestN L M) := ⟨_, rfl⟩
          rw [← hQ] at Hr KB hq
          rw [← hq] at KB
          have Hq := Lib.hid hq
          have HQ := Lib.hid hQ
          generalize bestAt L M = A8 at KB
          clear hc1 hT hq hQ
          rcases Hf.out with ⟨rfl, rfl⟩ | ⟨rfl, rfl⟩ | ⟨rfl, rfl⟩ | ⟨rfl, rfl⟩
          · have h2 := Hr.out.2.1 rfl
            have HrQ := Lib.hid h2.2.1
            have hTf : T = false := by rw [HT.out]; exact decide_eq_false h2.2.2
            have hqt : q = true := by rw [Hq.out]; exact decide_eq_true (by omega)
            subst hTf hqt
            have hn1 : 0 < N := by omega
            have hn2 : last < N := by
              rcases Nat.eq_zero_or_pos last with h | h
              · omega
              · exact Hl.out h
            have e1 : decide ((N : Int) ≤ (last : Int)) = false := decide_eq_false (by omega)
            have e2 : (0 : Int) < (N : Int) := by omega
            have e3 : decide ((Q : Int) ≤ (N : Int)) = false := decide_eq_false (by omega)
            have e4 : decide (N ≤ last) = false := decide_eq_false (by omega)
            have e5 : decide (Q ≤ N) = false := decide_eq_false (by omega)
            have e6 : 0 < N := hn1
            clear h2 Hr Hf Hl HT Hq
            go_wp2_with (refine wpList_load_blk 24 (.tmp 8) b8 (cs := stL a2 c2 o2 d2) rfl rfl rfl B8.out.blk Tryd.underlying24 rfl HI.out ?_)
            refine (KR.out a2 o2 c2 d2 L M _ S8.out).mono ?_; rintro e w6 ⟨rfl, hb6⟩
            replace B2 := Lib.hid (B2.out.up hb6)
            replace B8 := Lib.hid (B8.out.up hb6)
            replace S8 := Lib.hid (S8.out.up hb6)
            replace G := Lib.hid (bt G.out hb6)
            go_wp2_with (refine wpList_load_blk 24 (.tmp 8) b8 (cs := stL a2 c2 o2 d2) rfl rfl rfl B8.out.blk Tryd.underlying24 rfl HI.out ?_)
            refine (KB.out _ hb6).mono ?_; rintro e w7 ⟨rfl, hb7⟩
            replace B2 := Lib.hid (B2.out.up hb7)
            replace B8 := Lib.hid (B8.out.up hb7)
            replace S8 := Lib.hid (S8.out.up hb7)
            replace G := Lib.hid (bt G.out hb7)
            clear hb6 hb7 KB
            go_wp2_with (first | (refine wpList_load_blk 24 (.tmp 8) b8 (cs := stL a2 c2 o2 d2) rfl rfl rfl B8.out.blk Tryd.underlying24 rfl HI.out ?_) | (refine wpList_store_blk 24 (.tmp 2) (.tmp 104) b2 (old := stL a c o d) (cs := stL a2 c2 o2 d2) rfl rfl rfl rfl B2.out.blk HI.out rfl rfl ?_))
            exact ⟨⟨i + 1, N, by omega, congrArg (Value.int .i64) (by omega), rfl, by omega, a2, c2, o2, d2, L, M, B2.out.row _, S8.out.row B2.out _, fun _ => by rw [← HQ.out]; have := HrQ.out; omega, below_setRow G.out Low.out _, Low.out⟩, by simp [intOf]; omega⟩
          · have hle := Hr.out.1
            have hTt : T = true := by rw [HT.out]; exact decide_eq_true (Hr.out.2.2 rfl)
            subst hTt
            have HL := Lib.hid (show 0 < last → last < Q from fun h => Nat.lt_of_lt_of_le (Hl.out h) hle)
            clear Hr Hf Hl HT
            rcases Nat.eq_zero_or_pos last with h0 | h0
            · skip
              go_wp2_with (refine wpList_load_blk 24 (.tmp 8) b8 (cs := stL a2 c2 o2 d2) rfl rfl rfl B8.out.blk Tryd.underlying24 rfl HI.out ?_)
              refine (KR.out a2 o2 c2 d2 L M _ S8.out).mono ?_; rintro e w6 ⟨rfl, hb6⟩
              replace B2 := Lib.hid (B2.out.up hb6)
              replace B8 := Lib.hid (B8.out.up hb6)
              replace S8 := Lib.hid (S8.out.up hb6)
              replace G := Lib.hid (bt G.out hb6)
              go_wp2_with (refine wpList_load_blk 24 (.tmp 8) b8 (cs := stL a2 c2 o2 d2) rfl rfl rfl B8.out.blk Tryd.underlying24 rfl HI.out ?_)
              refine (KB.out _ hb6).mono ?_; rintro e w7 ⟨rfl, hb7⟩
              replace B2 := Lib.hid (B2.out.up hb7)
              replace B8 := Lib.hid (B8.out.up hb7)
              replace S8 := Lib.hid (S8.out.up hb7)
              replace G := Lib.hid (bt G.out hb7)
              clear hb6 hb7 KB
              go_wp2_with (first | (refine wpList_load_blk 24 (.tmp 8) b8 (cs := stL a2 c2 o2 d2) rfl rfl rfl B8.out.blk Tryd.underlying24 rfl HI.out ?_) | (refine wpList_store_blk 24 (.tmp 2) (.tmp 104) b2 (old := stL a c o d) (cs := stL a2 c2 o2 d2) rfl rfl rfl rfl B2.out.blk HI.out rfl rfl ?_))
              exact ⟨⟨i + 1, 0, by omega, congrArg (Value.int .i64) (by omega), rfl, by omega, a2, c2, o2, d2, L, M, B2.out.row _, S8.out.row B2.out _, fun h => absurd h (by omega), below_setRow G.out Low.out _, Low.out⟩, by simp [intOf]; omega⟩
            · have hqt : q = true := by rw [Hq.out]; exact decide_eq_true (by have := HL.out h0; omega)
              subst hqt
              have e2 : (0 : Int) < (last : Int) := by omega
              have e3 : decide ((Q : Int) ≤ (last : Int)) = false := decide_eq_false (by have := HL.out h0; omega)
              have e4 : decide (Q ≤ last) = false := decide_eq_false (by have := HL.out h0; omega)
              have e5 : 0 < last := h0
              go_wp2_with (refine wpList_load_blk 24 (.tmp 8) b8 (cs := stL a2 c2 o2 d2) rfl rfl rfl B8.out.blk Tryd.underlying24 rfl HI.out ?_)
              refine (KR.out a2 o2 c2 d2 L M _ S8.out).mono ?_; rintro e w6 ⟨rfl, hb6⟩
              replace B2 := Lib.hid (B2.out.up hb6)
              replace B8 := Lib.hid (B8.out.up hb6)
              replace S8 := Lib.hid (S8.out.up hb6)
              replace G := Lib.hid (bt G.out hb6)
              go_wp2_with (refine wpList_load_blk 24 (.tmp 8) b8 (cs := stL a2 c2 o2 d2) rfl rfl rfl B8.out.blk Tryd.underlying24 rfl HI.out ?_)
              refine (KB.out _ hb6).mono ?_; rintro e w7 ⟨rfl, hb7⟩
              replace B2 := Lib.hid (B2.out.up hb7)
              replace B8 := Lib.hid (B8.out.up hb7)
              replace S8 := Lib.hid (S8.out.up hb7)
              replace G := Lib.hid (bt G.out hb7)
              clear hb6 hb7 KB
              go_wp2_with (first | (refine wpList_load_blk 24 (.tmp 8) b8 (cs := stL a2 c2 o2 d2) rfl rfl rfl B8.out.blk Tryd.underlying24 rfl HI.out ?_) | (refine wpList_store_blk 24 (.tmp 2) (.tmp 104) b2 (old := stL a c o d) (cs := stL a2 c2 o2 d2) rfl rfl rfl rfl B2.out.blk HI.out rfl rfl ?_))
              exact ⟨⟨i + 1, last, by omega, congrArg (Value.int .i64) (by omega), rfl, by omega, a2, c2, o2, d2, L, M, B2.out.row _, S8.out.row B2.out _, fun h => by rw [← HQ.out]; exact HL.out h, below_setRow G.out Low.out _, Low.out⟩, by simp [intOf]; omega⟩
          · have hle := Hr.out.1
            have HL := Lib.hid (show 0 < last → last < Q from fun h => Nat.lt_of_lt_of_le (Hl.out h) hle)
            clear Hr Hf Hl HT
            rcases Nat.eq_zero_or_pos last with h0 | h0
            · skip
              go_wp2_with (refine wpList_load_blk 24 (.tmp 8) b8 (cs := stL a2 c2 o2 d2) rfl rfl rfl B8.out.blk Tryd.underlying24 rfl HI.out ?_)
              refine (KR.out a2 o2 c2 d2 L M _ S8.out).mono ?_; rintro e w6 ⟨rfl, hb6⟩
              replace B2 := Lib.hid (B2.out.up hb6)
              replace B8 := Lib.hid (B8.out.up hb6)
              replace S8 := Lib.hid (S8.out.up hb6)
              replace G := Lib.hid (bt G.out hb6)
              go_wp2_with (refine wpList_load_blk 24 (.tmp 8) b8 (cs := stL a2 c2 o2 d2) rfl rfl rfl B8.out.blk Tryd.underlying24 rfl HI.out ?_)
              refine (KB.out _ hb6).mono ?_; rintro e w7 ⟨rfl, hb7⟩
              replace B2 := Lib.hid (B2.out.up hb7)
              replace B8 := Lib.hid (B8.out.up hb7)
              replace S8 := Lib.hid (S8.out.up hb7)
              replace G := Lib.hid (bt G.out hb7)
              clear hb6 hb7 KB
              go_wp2_with (first | (refine wpList_load_blk 24 (.tmp 8) b8 (cs := stL a2 c2 o2 d2) rfl rfl rfl B8.out.blk Tryd.underlying24 rfl HI.out ?_) | (refine wpList_store_blk 24 (.tmp 2) (.tmp 104) b2 (old := stL a c o d) (cs := stL a2 c2 o2 d2) rfl rfl rfl rfl B2.out.blk HI.out rfl rfl ?_))
              exact ⟨⟨i + 1, 0, by omega, congrArg (Value.int .i64) (by omega), rfl, by omega, a2, c2, o2, d2, L, M, B2.out.row _, S8.out.row B2.out _, fun h => absurd h (by omega), below_setRow G.out Low.out _, Low.out⟩, by simp [intOf]; omega⟩
            · have hqt : q = true := by rw [Hq.out]; exact decide_eq_true (by have := HL.out h0; omega)
              subst hqt
              have e2 : (0 : Int) < (last : Int) := by omega
              have e3 : decide ((Q : Int) ≤ (last : Int)) = false := decide_eq_false (by have := HL.out h0; omega)
              have e4 : decide (Q ≤ last) = false := decide_eq_false (by have := HL.out h0; omega)
              have e5 : 0 < last := h0
              go_wp2_with (refine wpList_load_blk 24 (.tmp 8) b8 (cs := stL a2 c2 o2 d2) rfl rfl rfl B8.out.blk Tryd.underlying24 rfl HI.out ?_)
              refine (KR.out a2 o2 c2 d2 L M _ S8.out).mono ?_; rintro e w6 ⟨rfl, hb6⟩
              replace B2 := Lib.hid (B2.out.up hb6)
              replace B8 := Lib.hid (B8.out.up hb6)
              replace S8 := Lib.hid (S8.out.up hb6)
              replace G := Lib.hid (bt G.out hb6)
              go_wp2_with (refine wpList_load_blk 24 (.tmp 8) b8 (cs := stL a2 c2 o2 d2) rfl rfl rfl B8.out.blk Tryd.underlying24 rfl HI.out ?_)
              refine (KB.out _ hb6).mono ?_; rintro e w7 ⟨rfl, hb7⟩
              replace B2 := Lib.hid (B2.out.up hb7)
              replace B8 := Lib.hid (B8.out.up hb7)
              replace S8 := Lib.hid (S8.out.up hb7)
              replace G := Lib.hid (bt G.out hb7)
              clear hb6 hb7 KB
              go_wp2_with (first | (refine wpList_load_blk 24 (.tmp 8) b8 (cs := stL a2 c2 o2 d2) rfl rfl rfl B8.out.blk Tryd.underlying24 rfl HI.out ?_) | (refine wpList_store_blk 24 (.tmp 2) (.tmp 104) b2 (old := stL a c o d) (cs := stL a2 c2 o2 d2) rfl rfl rfl rfl B2.out.blk HI.out rfl rfl ?_))
              exact ⟨⟨i + 1, last, by omega, congrArg (Value.int .i64) (by omega), rfl, by omega, a2, c2, o2, d2, L, M, B2.out.row _, S8.out.row B2.out _, fun h => by rw [← HQ.out]; exact HL.out h, below_setRow G.out Low.out _, Low.out⟩, by simp [intOf]; omega⟩
          · have hle := Hr.out.1
            have HL := Lib.hid (show 0 < last → last < Q from fun h => Nat.lt_of_lt_of_le (Hl.out h) hle)
            clear Hr Hf Hl HT
            rcases Nat.eq_zero_or_pos last with h0 | h0
            · skip
              go_wp2_with (refine wpList_load_blk 24 (.tmp 8) b8 (cs := stL a2 c2 o2 d2) rfl rfl rfl B8.out.blk Tryd.underlying24 rfl HI.out ?_)
              refine (KR.out a2 o2 c2 d2 L M _ S8.out).mono ?_; rintro e w6 ⟨rfl, hb6⟩
              replace B2 := Lib.hid (B2.out.up hb6)
              replace B8 := Lib.hid (B8.out.up hb6)
              replace S8 := Lib.hid (S8.out.up hb6)
              replace G := Lib.hid (bt G.out hb6)
              go_wp2_with (refine wpList_load_blk 24 (.tmp 8) b8 (cs := stL a2 c2 o2 d2) rfl rfl rfl B8.out.blk Tryd.underlying24 rfl HI.out ?_)
              refine (KB.out _ hb6).mono ?_; rintro e w7 ⟨rfl, hb7⟩
              replace B2 := Lib.hid (B2.out.up hb7)
              replace B8 := Lib.hid (B8.out.up hb7)
              replace S8 := Lib.hid (S8.out.up hb7)
              replace G := Lib.hid (bt G.out hb7)
              clear hb6 hb7 KB
              go_wp2_with (first | (refine wpList_load_blk 24 (.tmp 8) b8 (cs := stL a2 c2 o2 d2) rfl rfl rfl B8.out.blk Tryd.underlying24 rfl HI.out ?_) | (refine wpList_store_blk 24 (.tmp 2) (.tmp 104) b2 (old := stL a c o d) (cs := stL a2 c2 o2 d2) rfl rfl rfl rfl B2.out.blk HI.out rfl rfl ?_))
              exact ⟨⟨i + 1, 0, by omega, congrArg (Value.int .i64) (by omega), rfl, by omega, a2, c2, o2, d2, L, M, B2.out.row _, S8.out.row B2.out _, fun h => absurd h (by omega), below_setRow G.out Low.out _, Low.out⟩, by simp [intOf]; omega⟩
            · have hqt : q = true := by rw [Hq.out]; exact decide_eq_true (by have := HL.out h0; omega)
              subst hqt
              have e2 : (0 : Int) < (last : Int) := by omega
              have e3 : decide ((Q : Int) ≤ (last : Int)) = false := decide_eq_false (by have := HL.out h0; omega)
              have e4 : decide (Q ≤ last) = false := decide_eq_false (by have := HL.out h0; omega)
              have e5 : 0 < last := h0
              go_wp2_with (refine wpList_load_blk 24 (.tmp 8) b8 (cs := stL a2 c2 o2 d2) rfl rfl rfl B8.out.blk Tryd.underlying24 rfl HI.out ?_)
              refine (KR.out a2 o2 c2 d2 L M _ S8.out).mono ?_; rintro e w6 ⟨rfl, hb6⟩
              replace B2 := Lib.hid (B2.out.up hb6)
              replace B8 := Lib.hid (B8.out.up hb6)
              replace S8 := Lib.hid (S8.out.up hb6)
              replace G := Lib.hid (bt G.out hb6)
              go_wp2_with (refine wpList_load_blk 24 (.tmp 8) b8 (cs := stL a2 c2 o2 d2) rfl rfl rfl B8.out.blk Tryd.underlying24 rfl HI.out ?_)
              refine (KB.out _ hb6).mono ?_; rintro e w7 ⟨rfl, hb7⟩
              replace B2 := Lib.hid (B2.out.up hb7)
              replace B8 := Lib.hid (B8.out.up hb7)
              replace S8 := Lib.hid (S8.out.up hb7)
              replace G := Lib.hid (bt G.out hb7)
              clear hb6 hb7 KB
              go_wp2_with (first | (refine wpList_load_blk 24 (.tmp 8) b8 (cs := stL a2 c2 o2 d2) rfl rfl rfl B8.out.blk Tryd.underlying24 rfl HI.out ?_) | (refine wpList_store_blk 24 (.tmp 2) (.tmp 104) b2 (old := stL a c o d) (cs := stL a2 c2 o2 d2) rfl rfl rfl rfl B2.out.blk HI.out rfl rfl ?_))
              exact ⟨⟨i + 1, last, by omega, congrArg (Value.int .i64) (by omega), rfl, by omega, a2, c2, o2, d2, L, M, B2.out.row _, S8.out.row B2.out _, fun h => by rw [← HQ.out]; exact HL.out h, below_setRow G.out Low.out _, Low.out⟩, by simp [intOf]; omega⟩
    · obtain rfl : i = cuts.length := by omega
      clear hlast
      go_wp2_with fail
      go_ret
      exact ⟨rfl, G.out⟩
theorem slotRises_in (hsh : Shown13OK) (w : World) (hk : KeysAt w) (a : Option Addr) (n c : Nat) (l : List UInt8) (b : Option Addr) (n2 d : Nat) (m : List UInt8) (h1 : InBytes w a n c l) (h2 : InBytes w b n2 d m) (z : Option Addr) (zc : Nat) (cuts : List Int) (hz : InInts .i64 w z zc cuts) :
    Calls Tryd.prog 4 #[.agg #[.slice a n c, .slice b n2 d], .slice z cuts.length zc] w (BoolOut w true) := by
  obtain ⟨rfl, h3, h4, h5⟩ := h1
  obtain ⟨rfl, h6, h7, h8⟩ := h2
  obtain ⟨z1, z2, z3, z4⟩ := hz
  exact slotRises_any _ l m z zc cuts w ⟨a, c, b, d, rfl, ⟨h3, h4⟩, ⟨h6, h7⟩, h5, h8⟩ z3 hk (Nat.le_trans z1 z2)
end Go.Proofs.YtiaigekmkmampaaDoor
