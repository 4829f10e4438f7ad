/- The walk of the law HubLives. -/
import Derived.Test.YtcccgjpmfbmplaaHuP
import Derived.Test.YtcccgjpmfbmplaaInH
import Derived.Deep.MidRow
set_option linter.unusedSimpArgs false
set_option linter.unusedVariables false
namespace Go.Proofs.Ytcccgjpmfbmplaa
open Go.RowKit

abbrev livesL (h : Hv) (c : Int) (va vb : Value) : List Value := [.bool (h.u 0), .bool (h.u 1), .bool (h.u 2), .bool (h.u 3), .slice (h.f 0).a (h.f 0).len (h.f 0).cap, .int .i64 (h.f 0).skip, .int .i64 (h.f 0).bad, .slice (h.f 1).a (h.f 1).len (h.f 1).cap, .int .i64 (h.f 1).skip, .int .i64 (h.f 1).bad, .slice (h.f 2).a (h.f 2).len (h.f 2).cap, .int .i64 (h.f 2).skip, .int .i64 (h.f 2).bad, .slice (h.f 3).a (h.f 3).len (h.f 3).cap, .int .i64 (h.f 3).skip, .int .i64 (h.f 3).bad, .int .i64 (h.l 0), .int .i64 (h.l 1), .int .i64 (h.l 2), .int .i64 (h.l 3), .int .i64 h.nx, .int .u8 c, va, vb]
abbrev livesV (h : Hv) (c : Int) (va vb : Value) : Value := .agg #[.bool (h.u 0), .bool (h.u 1), .bool (h.u 2), .bool (h.u 3), .slice (h.f 0).a (h.f 0).len (h.f 0).cap, .int .i64 (h.f 0).skip, .int .i64 (h.f 0).bad, .slice (h.f 1).a (h.f 1).len (h.f 1).cap, .int .i64 (h.f 1).skip, .int .i64 (h.f 1).bad, .slice (h.f 2).a (h.f 2).len (h.f 2).cap, .int .i64 (h.f 2).skip, .int .i64 (h.f 2).bad, .slice (h.f 3).a (h.f 3).len (h.f 3).cap, .int .i64 (h.f 3).skip, .int .i64 (h.f 3).bad, .int .i64 (h.l 0), .int .i64 (h.l 1), .int .i64 (h.l 2), .int .i64 (h.l 3), .int .i64 h.nx, .int .u8 c, va, vb]
theorem lives_range {w : World} {b : Nat} {h : Hv} {c : Int} {va vb : Value} {T : TypeId} (hb : BlkT T w b (livesL h c va vb)) : w.rangeAt b 0 h.L := fun j v hv => by
  have hj : j < 21 := by
    rcases Nat.lt_or_ge j 21 with h' | h'
    · exact h'
    · rw [List.getElem?_eq_none (by simpa using h')] at hv; cases hv
  rw [Nat.zero_add, cell_of_row w b j (livesL h c va vb).toArray T (0, 0) hb]
  have e : livesL h c va vb = h.L ++ [.int .u8 c, va, vb] := rfl
  rw [e]
  simp only [List.getElem?_toArray]
  rw [List.getElem?_append_left (by simpa using hj)]; exact hv
/-- up, as it was or raised -/
def xH (h : Hv) (K : Nat) : Hv := bif h.u K then h else (h.turn K true).live K
def xS (h : Hv) (s : Nat → Fd) (K : Nat) : Nat → Fd := bif h.u K then s else upd s K zeroD
theorem isC_nat {K : Nat} (hK : K < 4) : isC (K : Int) = true := by unfold isC; simp; omega
theorem xH_up (h : Hv) (K : Nat) : (xH h K).u K = true := by
  unfold xH
  rcases hu : h.u K with _ | _
  · show upd h.u K true K = true
    unfold upd; rw [if_pos rfl]
  · exact hu
theorem upd_at {w : World} {h : Hv} {s : Nat → Fd} (hh : HbAt w h s) (K : Nat) (f : Fv) (t : Fd) (hf : FdAt w f t) (g : Hv) (hg : g.f = upd h.f K f) : HbAt w g (upd s K t) := fun i hi => by
  rw [hg]
  unfold upd
  by_cases hc : i = K
  · rw [if_pos hc, if_pos hc]; exact hf
  · rw [if_neg hc, if_neg hc]; exact hh i hi
theorem xH_at {w : World} {h : Hv} {s : Nat → Fd} (hh : HbAt w h s) (K : Nat) : HbAt w (xH h K) (xS h s K) := by
  unfold xH xS
  rcases hu : h.u K with _ | _
  · exact upd_at hh K zeroF zeroD (zeroF_at w) _ rfl
  · exact hh
theorem upd_right {s : Nat → Fd} (hr : ∀ i, i < 4 → rightF (s i) = true) (K : Nat) (t : Fd) (ht : rightF t = true) : ∀ i, i < 4 → rightF (upd s K t i) = true := fun i hi => by
  unfold upd
  by_cases hc : i = K
  · rw [if_pos hc]; exact ht
  · rw [if_neg hc]; exact hr i hi
theorem xS_right {h : Hv} {s : Nat → Fd} (hr : ∀ i, i < 4 → rightF (s i) = true) (K : Nat) : ∀ i, i < 4 → rightF (xS h s K i) = true := by
  unfold xS
  rcases hu : h.u K with _ | _
  · exact upd_right hr K zeroD (by kernel_rfl)
  · exact hr
theorem raise_down {h : Hv} {K : Nat} (hK : K < 4) (hu : h.u K = false) : raiseF h K = ((h.turn K true).live K, 0) := by
  unfold raiseF turnedF
  rw [isC_nat hK, Int.toNat_natCast, hu]; rfl
theorem cut_up {h : Hv} {K : Nat} (hK : K < 4) (hu : h.u K = true) : cutF h K = (h.turn K false, 0) := by
  unfold cutF turnedF
  rw [isC_nat hK, Int.toNat_natCast, hu]; rfl
theorem push_up {h : Hv} {K : Nat} (hK : K < 4) (hu : h.u K = true) : pushE h K = 0 := by
  unfold pushE; rw [isC_nat hK, Int.toNat_natCast, hu]; rfl
theorem push_down {h : Hv} {K : Nat} (hK : K < 4) (hu : h.u K = false) : pushE h K = 11 := by
  unfold pushE; rw [isC_nat hK, Int.toNat_natCast, hu]; rfl
theorem upd_same {α : Type} (f : Nat → α) (c : Nat) (v : α) : upd f c v c = v := if_pos rfl
theorem hub_life {w : World} {b : Nat} {h : Hv} (hb : Blk w b h.L) (c : Nat) (hc : c < 4) : w.cell? ⟨b, 16 + c, none⟩ = some (.int .i64 (h.l c)) := by
  obtain ⟨l0, l1, l2, l3, -⟩ := hub_l hb
  rcases (show c = 0 ∨ c = 1 ∨ c = 2 ∨ c = 3 by omega) with rfl | rfl | rfl | rfl <;> assumption
theorem hub_feed {w : World} {b : Nat} {h : Hv} (hb : Blk w b h.L) (c : Nat) (hc : c < 4) : w.cell? ⟨b, 4 + c * 3, none⟩ = some (.slice (h.f c).a (h.f c).len (h.f c).cap) ∧ w.cell? ⟨b, 4 + c * 3 + 1, none⟩ = some (.int .i64 (h.f c).skip) ∧ w.cell? ⟨b, 4 + c * 3 + 2, none⟩ = some (.int .i64 (h.f c).bad) := by
  rcases (show c = 0 ∨ c = 1 ∨ c = 2 ∨ c = 3 by omega) with rfl | rfl | rfl | rfl
  · exact feed0 hb
  · exact feed1 hb
  · exact feed2 hb
  · exact feed3 hb

set_option maxRecDepth 100000 in
set_option maxHeartbeats 4000000 in
theorem hubLives_any (h : Hv) (s : Nat → Fd) (c : Nat) (a : Option Addr) (ca : Nat) (la : List UInt8) (b : Option Addr) (cb : Nat) (lb : List UInt8) (w : World) (hc : c < 256) (hh : HbAt w h s) (hla : BytesAt w a la) (hlb : BytesAt w b lb) (hma : la.length ≤ maxLen) (hmb : lb.length ≤ maxLen) :
    Calls Try.prog 7 #[livesV h c (.slice a la.length ca) (.slice b lb.length cb)] w (BoolOut w true) := by
  have HI := Lib.hid hub_size
  have HF0 := Lib.hid feed_info
  have Hsh := Lib.hid shown09
  obtain ⟨K, hKe⟩ : ∃ K, K = c % 4 := ⟨_, rfl⟩
  have hK : K < 4 := by rw [hKe]; exact Nat.mod_lt _ (by decide)
  have hm : (c : Int) % 4 = (K : Int) := by rw [hKe]; omega
  have hm2 : (c : Int).tmod 4 = (K : Int) := by rw [Int.tmod_eq_emod_of_nonneg (by omega), hm]
  have FA := Lib.hid (fun W => fewH_any h (hub_len hh) W)
  have RR := Lib.hid (fun W (hb : Below w.heap.size w W) => refHubRight_any h s W (hh.mono hb))
  have HH := Lib.hid hh
  have K1 := Lib.hid (fun (hu : h.u K = false) W => (show Calls Try.prog 18 #[h.v, .int .i64 K] W (HubOut W ((h.turn K true).live K, 0)) from by have := raise_any h K W; rwa [raise_down hK hu] at this))
  have K2 := Lib.hid (fun (hr : rightH h s = true) (hlen : la.length ≤ 1000) W (hb : Below w.heap.size w W) => (show Calls Try.prog 22 #[(xH h K).v, .int .i64 K, .slice a la.length ca] W (HubYes W (xH h K) K (runF (xS h s K K) la)) from by
    have := hubPush_yes (xH h K) (xS h s K) K a ca la W ((xH_at hh K).mono hb) (xS_right (right_feed hr) K) (push_up hK (xH_up h K)) (hla.mono hb) (by omega)
    rwa [Int.toNat_natCast] at this))
  have K3 := Lib.hid (fun (f : Fv) W => (show Calls Try.prog 20 #[((xH h K).setF K f).v, .int .i64 K] W (HubOut W (((xH h K).setF K f).turn K false, 0)) from by have := cut_any ((xH h K).setF K f) K W; rwa [cut_up hK (show ((xH h K).setF K f).u K = true from xH_up h K)] at this))
  have K4 := Lib.hid (fun (f : Fv) W => (show Calls Try.prog 22 #[(((xH h K).setF K f).turn K false).v, .int .i64 K, .slice b lb.length cb] W (HubNo W (((xH h K).setF K f).turn K false) 11) from by
    have e := push_down (h := ((xH h K).setF K f).turn K false) hK (upd_same _ _ _)
    have := hubPush_no (((xH h K).setF K f).turn K false) K b cb lb.length W (by rw [e]; decide)
    rwa [e] at this))
  have K5 := Lib.hid (fun (f : Fv) W => (show Calls Try.prog 18 #[(((xH h K).setF K f).turn K false).v, .int .i64 K] W (HubOut W (((((xH h K).setF K f).turn K false).turn K true).live K, 0)) from by have := raise_any (((xH h K).setF K f).turn K false) K W; rwa [raise_down hK (upd_same _ _ _)] at this))
  have K6 := Lib.hid (fun (hr : rightH h s = true) (hlen : lb.length ≤ 1000) (f : Fv) (t : Fd) W (hb : Below w.heap.size w W) (hf : FdAt W f t) => (show Calls Try.prog 22 #[(((((xH h K).setF K f).turn K false).turn K true).live K).v, .int .i64 K, .slice b lb.length cb] W (HubYes W (((((xH h K).setF K f).turn K false).turn K true).live K) K (runF zeroD lb)) from by
    have h1 : HbAt W ((xH h K).setF K f) (upd (xS h s K) K t) := upd_at ((xH_at hh K).mono hb) K f t hf _ rfl
    have h2 : HbAt W (((xH h K).setF K f).turn K false) (upd (upd (xS h s K) K t) K zeroD) := upd_at h1 K zeroF zeroD (zeroF_at W) _ rfl
    have h3 : HbAt W (((((xH h K).setF K f).turn K false).turn K true).live K) (upd (upd (upd (xS h s K) K t) K zeroD) K zeroD) := upd_at h2 K zeroF zeroD (zeroF_at W) _ rfl
    have h4 : HbAt W (((((xH h K).setF K f).turn K false).turn K true).live K) (upd (xS h s K) K zeroD) := fun i hi => by
      have := h3 i hi
      unfold upd at this ⊢
      by_cases hq : i = K
      · rw [if_pos hq] at this ⊢; exact this
      · rw [if_neg hq, if_neg hq, if_neg hq] at this; rw [if_neg hq]; exact this
    have := hubPush_yes (((((xH h K).setF K f).turn K false).turn K true).live K) (upd (xS h s K) K zeroD) K b cb lb W h4 (upd_right (xS_right (right_feed hr) K) K zeroD (by kernel_rfl)) (push_up hK (upd_same _ _ _)) (hlb.mono hb) (by omega)
    rw [Int.toNat_natCast, upd_same] at this; exact this))
  have K7 := Lib.hid (fun (hlen : lb.length ≤ 1000) W (hb : Below w.heap.size w W) => (show Calls Try.prog 26 #[zeroF.v, .slice b lb.length cb] W (PushOut W.heap.size W (runF zeroD lb)) from refPush_any zeroF zeroD b cb lb W W.heap.size (Nat.le_refl _) (.inl rfl) (zeroF_at W) (by kernel_rfl) (hlb.mono hb) (by omega)))
  have K8 := Lib.hid (fun (f : Fv) W => (show Calls Try.prog 27 #[((((((xH h K).setF K f).turn K false).turn K true).live K).f K).v, zeroF.v] W (BoolOut W true) from by
    have e : (((((xH h K).setF K f).turn K false).turn K true).live K).f K = zeroF := upd_same _ _ _
    rw [e]
    exact refSame_any zeroF zeroF zeroD zeroD W (zeroF_at W) (zeroF_at W)))
  have S4 := Lib.hid (fun (rows : List (List UInt8)) (p q : Option Addr) (j k : Nat) W (hm : rows.length ≤ maxLen) (h1 : RowsAt W p rows) (h2 : RowsAt W q rows) => (show Calls Try.prog 24 #[.slice p rows.length j, .slice q rows.length k] W (BoolOut W true) from (rows_any p q j k rows rows W hm hm h1 h2).mono fun e w' ⟨r, t⟩ => ⟨by rw [r, beq_self_eq_true], t⟩))
  have Xu : (xH h K).u K = true := xH_up h K
  have Xd : h.u K = false → xH h K = (h.turn K true).live K := fun hu => by unfold xH; rw [hu]; rfl
  have Xe : h.u K = true → xH h K = h := fun hu => by unfold xH; rw [hu]; rfl
  have XU := Lib.hid Xu
  have XD := Lib.hid Xd
  have XE := Lib.hid Xe
  obtain ⟨fa, hfa⟩ : ∃ x, x = fewH h := ⟨_, rfl⟩
  obtain ⟨rt, hrt⟩ : ∃ x, x = rightH h s := ⟨_, rfl⟩
  obtain ⟨x, hx⟩ : ∃ x, x = xH h K := ⟨_, rfl⟩
  obtain ⟨T1, hT1⟩ : ∃ x, x = runF (xS h s K K) la := ⟨_, rfl⟩
  obtain ⟨T2, hT2⟩ : ∃ x, x = runF zeroD lb := ⟨_, rfl⟩
  rw [← hfa] at FA
  rw [← hrt] at RR K2 K6
  rw [← hx] at K2 K3 K4 K5 K6 K8 XU XD XE
  rw [← hT1] at K2
  rw [← hT2] at K6 K7
  unfold maxLen at hma hmb
  clear hKe hfa hrt hx hT1 hT2 hh hla hlb Xu Xd Xe
  generalize la.length = na at *
  generalize lb.length = nb at *
  go_enter Try.func7, Try.ntmps7
  go_upto_region 1 with (fail)
  generalize hW : World.alloc w _ = W
  have B1 := Lib.hid (show BlkT 55 W w.heap.size (livesL h c (.slice a na ca) (.slice b nb cb)) by rw [← hW]; exact BlkT.new w (livesL h c (.slice a na ca) (.slice b nb cb)) _)
  have G := Lib.hid (show Below w.heap.size w W by rw [← hW]; exact ba w _)
  clear hW
  obtain ⟨b1, hb1⟩ : ∃ b, b = w.heap.size := ⟨_, rfl⟩
  rw [← hb1] at B1
  simp only [← hb1]
  have Hb1 := Lib.hid hb1
  clear hb1
  go_cut [3] (fun v3 wx => ∃ b3 : Nat, v3 = .pointer (some ⟨b3, 0, none⟩) ∧ BlkT 29 wx b3 h.L ∧ BlkT 55 wx b1 (livesL h c (.slice a na ca) (.slice b nb cb)) ∧ Below w.heap.size w wx)
  case first =>
    go_wp2_with (first | (refine wpList_load_mid rfl 29 (.tmp 27) rfl b1 0 rfl h.L _ (lives_range B1.out) Try.underlying29 rfl HI.out ?_) | (refine wpList_store_blk 29 (.tmp 3) (.tmp 28) _ (old := zeroL) (cs := h.L) rfl rfl rfl rfl (Blk.new _ _ _) HI.out rfl rfl ?_))
    go_meet
    exact ⟨_, rfl, lay_blk _ _ _ _, (B1.out.up (lay_below _ _ _ _)), (bt G.out (lay_below _ _ _ _))⟩
  case rest =>
    obtain ⟨b3, rfl, hB3, hB1, hG⟩ := hcut
    have B3 := Lib.hid hB3
    replace B1 := Lib.hid hB1
    replace G := Lib.hid hG
    clear hB3 hB1 hG
    have l21 := B1.out.blk.cell 21 (by simp)
    have l22 := B1.out.blk.cell 22 (by simp)
    have l23 := B1.out.blk.cell 23 (by simp)
    go_upto_region 5 with (fail)
    clear l21 l22 l23 B1
    go_wp2_with fail
    refine (Hsh.out _).mono ?_; rintro e y1 ⟨rfl, hb⟩
    replace B3 := Lib.hid (B3.out.up hb)
    replace G := Lib.hid (bt G.out hb)
    clear hb
    go_wp2_with (first
            | (refine wpList_load_blk 29 (.tmp 3) b3 (cs := h.L) rfl rfl rfl B3.out.blk Try.underlying29 rfl HI.out ?_)
            | (refine wpList_load_blkG 29 (.tmp 3) b3 (cs := h.L) (by first | rfl | simp [Region.wanted, yielded]) rfl rfl B3.out.blk Try.underlying29 rfl HI.out ?_))
    refine (FA.out _).mono ?_; rintro e y2 ⟨rfl, hb⟩
    replace B3 := Lib.hid (B3.out.up hb)
    replace G := Lib.hid (bt G.out hb)
    clear hb
    rcases fa with _ | _
    · go_wp2_with fail
      go_ret
      exact ⟨rfl, G.out⟩
    go_wp2_with (first
            | (refine wpList_load_blk 29 (.tmp 3) b3 (cs := h.L) rfl rfl rfl B3.out.blk Try.underlying29 rfl HI.out ?_)
            | (refine wpList_load_blkG 29 (.tmp 3) b3 (cs := h.L) (by first | rfl | simp [Region.wanted, yielded]) rfl rfl B3.out.blk Try.underlying29 rfl HI.out ?_))
    refine (RR.out _ G.out).mono ?_; rintro e y3 ⟨rfl, hb⟩
    replace B3 := Lib.hid (B3.out.up hb)
    replace G := Lib.hid (bt G.out hb)
    clear hb
    rcases rt with _ | _
    · go_wp2_with fail
      go_ret
      exact ⟨rfl, G.out⟩
    rcases (show (1000 : Int) < na ∨ (¬ (1000 : Int) < na ∧ (1000 : Int) < nb) ∨ (¬ (1000 : Int) < na ∧ ¬ (1000 : Int) < nb) by omega) with hn | ⟨hn, hn2⟩ | ⟨hn, hn2⟩
    · go_wp2_with fail
      go_ret
      exact ⟨rfl, G.out⟩
    · go_wp2_with fail
      go_ret
      exact ⟨rfl, G.out⟩
    have P2 := Lib.hid (K2.out (by first | rfl | trivial) (by omega))
    have P6 := Lib.hid (K6.out (by first | rfl | trivial) (by omega))
    have P7 := Lib.hid (K7.out (by omega))
    clear K2 K6 K7
    go_upto_region 9 with (fail)
    have N93' := Lib.hid B3.out.blk.lt
    go_cut [9] (fun v9 wx => ∃ b9 : Nat, v9 = .pointer (some ⟨b9, 0, none⟩) ∧ BlkT 29 wx b9 h.L ∧ w.heap.size ≤ b9 ∧ b3 ≠ b9 ∧ BlkT 29 wx b3 h.L ∧ Below w.heap.size w wx)
    case first =>
      go_wp2_with (first | (refine wpList_load_blk 29 (.tmp 3) b3 (cs := h.L) rfl rfl rfl B3.out.blk Try.underlying29 rfl HI.out ?_) | (refine wpList_store_blk 29 (.tmp 9) (.tmp 58) _ (old := zeroL) (cs := h.L) rfl rfl rfl rfl (Blk.new _ _ _) HI.out rfl rfl ?_))
      go_meet
      exact ⟨_, rfl, lay_blk _ _ _ _, G.out.size, Nat.ne_of_lt N93'.out, (B3.out.up (lay_below _ _ _ _)), (bt G.out (lay_below _ _ _ _))⟩
    case rest =>
      obtain ⟨b9, rfl, hB9, hLow9, hN93, hB3, hG⟩ := hcut
      have B9 := Lib.hid hB9
      have Low9 := Lib.hid hLow9
      have N93 := Lib.hid hN93
      replace B3 := Lib.hid hB3
      replace G := Lib.hid hG
      clear hB9 hLow9 hN93 hB3 hG
      clear hm hm2 hn hn2
      go_upto_region 10 with (fail)
      have hcu := hub_up B3.out.blk K hK
      go_upto_if 63 with (fail)
      clear hcu
      go_cut [9] (fun v9 wx => v9 = .pointer (some ⟨b9, 0, none⟩) ∧ BlkT 29 wx b9 x.L ∧ BlkT 29 wx b3 h.L ∧ Below w.heap.size w wx)
      case first =>
        rcases hu : h.u K with _ | _
        · have e := XD.out hu
          have K1' := Lib.hid (K1.out hu)
          rw [← e] at K1'
          have Hu := Lib.hid hu
          clear e
          go_wp2_with (first
                        | (refine wpList_load_blk 29 (.tmp 3) b3 (cs := h.L) rfl rfl rfl B3.out.blk Try.underlying29 rfl HI.out ?_)
                        | (refine wpList_load_blkG 29 (.tmp 3) b3 (cs := h.L) (by first | rfl | simp [Region.wanted, yielded]) rfl rfl B3.out.blk Try.underlying29 rfl HI.out ?_))
          refine (K1'.out _).mono ?_; rintro e wn ⟨rfl, hb⟩
          have C9 := Lib.hid ((B9.out.up hb).up (lay_below wn zeroL x.L 29))
          have C3 := Lib.hid ((B3.out.up hb).up (lay_below wn zeroL x.L 29))
          have CN := Lib.hid (lay_blk wn zeroL x.L 29)
          have CG := Lib.hid (bt (bt G.out hb) (lay_below wn zeroL x.L 29))
          have N39 := Lib.hid (show b3 ≠ b9 from N93.out)
          go_wp2_with (first | (refine wpList_store_blk 29 (.tmp 10) (.tmp 68) _ (old := zeroL) (cs := x.L) rfl rfl rfl rfl (Blk.new _ _ _) HI.out rfl rfl ?_) | (refine wpList_load_blk 29 (.tmp 10) wn.heap.size (cs := x.L) rfl rfl rfl CN.out.blk Try.underlying29 rfl HI.out ?_) | (refine wpList_store_blk 29 (.tmp 9) (.tmp 72) b9 (old := h.L) (cs := x.L) rfl rfl rfl rfl C9.out.blk HI.out rfl rfl ?_))
          go_meet
          exact ⟨rfl, C9.out.row x.L, C3.out.rowOther _ N39.out _, below_setRow CG.out Low9.out _⟩
        · have e := XE.out hu
          go_wp2_with fail
          go_meet
          exact ⟨rfl, by rw [e]; exact B9.out, B3.out, G.out⟩
      case rest =>
        obtain ⟨rfl, hB9, hB3, hG⟩ := hcut
        replace B9 := Lib.hid hB9
        replace G := Lib.hid hG
        clear hB9 hB3 hG B3 K1 XD XE
        go_upto_region 15 with (fail)
        go_cut [14, 12] (fun v14 v12 wx => ∃ ff : Fv, ∃ b12 : Nat, v14 = .int .i64 0 ∧ v12 = .pointer (some ⟨b12, 0, none⟩) ∧ BlkT 29 wx b12 (x.setF K ff).L ∧ BlkT 29 wx b9 x.L ∧ Below w.heap.size w wx ∧ FdAt wx ff T1.1)
        case first =>
          go_wp2_with (first
                      | (refine wpList_load_blk 29 (.tmp 9) b9 (cs := x.L) rfl rfl rfl B9.out.blk Try.underlying29 rfl HI.out ?_)
                      | (refine wpList_load_blkG 29 (.tmp 9) b9 (cs := x.L) (by first | rfl | simp [Region.wanted, yielded]) rfl rfl B9.out.blk Try.underlying29 rfl HI.out ?_))
          refine (P2.out _ G.out).mono ?_; rintro e wn ⟨ff, fa1, fk, rfl, hF1, -, -, hb⟩
          go_wp2_with (refine wpList_store_blk 29 (.tmp 12) (.tmp 78) _ (old := zeroL) (cs := (x.setF K ff).L) rfl rfl rfl rfl (Blk.new _ _ _) HI.out rfl rfl ?_)
          go_meet
          exact ⟨ff, _, rfl, rfl, lay_blk _ _ _ _, (B9.out.up (bt hb (lay_below _ _ _ _))), (bt G.out (bt hb (lay_below _ _ _ _))), (hF1).mono (lay_below _ _ _ _)⟩
        case rest =>
          obtain ⟨ff, b12, rfl, rfl, hB12, hB9, hG, hF1⟩ := hcut
          have B12 := Lib.hid hB12
          replace B9 := Lib.hid hB9
          replace G := Lib.hid hG
          have F1 := Lib.hid hF1
          clear hB12 hB9 hG hF1
          go_upto_region 16 with (fail)
          go_cut [16, 15] (fun v16 v15 wx => ∃ b15 : Nat, v16 = .int .i64 0 ∧ v15 = .pointer (some ⟨b15, 0, none⟩) ∧ BlkT 29 wx b15 ((x.setF K ff).turn K false).L ∧ BlkT 29 wx b9 x.L ∧ BlkT 29 wx b12 (x.setF K ff).L ∧ Below w.heap.size w wx ∧ FdAt wx ff T1.1)
          case first =>
            go_wp2_with (first
                          | (refine wpList_load_blk 29 (.tmp 12) b12 (cs := (x.setF K ff).L) rfl rfl rfl B12.out.blk Try.underlying29 rfl HI.out ?_)
                          | (refine wpList_load_blkG 29 (.tmp 12) b12 (cs := (x.setF K ff).L) (by first | rfl | simp [Region.wanted, yielded]) rfl rfl B12.out.blk Try.underlying29 rfl HI.out ?_))
            refine (K3.out ff _).mono ?_; rintro e wn ⟨rfl, hb⟩
            go_wp2_with (refine wpList_store_blk 29 (.tmp 15) (.tmp 85) _ (old := zeroL) (cs := ((x.setF K ff).turn K false).L) rfl rfl rfl rfl (Blk.new _ _ _) HI.out rfl rfl ?_)
            go_meet
            exact ⟨_, rfl, rfl, lay_blk _ _ _ _, (B9.out.up (bt hb (lay_below _ _ _ _))), (B12.out.up (bt hb (lay_below _ _ _ _))), (bt G.out (bt hb (lay_below _ _ _ _))), (F1.out.mono (bt hb (lay_below _ _ _ _)))⟩
          case rest =>
            obtain ⟨b15, rfl, rfl, hB15, hB9, hB12, hG, hF1⟩ := hcut
            have B15 := Lib.hid hB15
            replace B9 := Lib.hid hB9
            replace B12 := Lib.hid hB12
            replace G := Lib.hid hG
            replace F1 := Lib.hid hF1
            clear hB15 hB9 hB12 hG hF1
            go_upto_region 17 with (fail)
            go_cut [18, 19, 17] (fun v18 v19 v17 wx => ∃ b17 : Nat, v18 = .slice none 0 0 ∧ v19 = .int .i64 11 ∧ v17 = .pointer (some ⟨b17, 0, none⟩) ∧ BlkT 29 wx b17 ((x.setF K ff).turn K false).L ∧ BlkT 29 wx b9 x.L ∧ BlkT 29 wx b15 ((x.setF K ff).turn K false).L ∧ Below w.heap.size w wx ∧ FdAt wx ff T1.1)
            case first =>
              go_wp2_with (first
                              | (refine wpList_load_blk 29 (.tmp 15) b15 (cs := ((x.setF K ff).turn K false).L) rfl rfl rfl B15.out.blk Try.underlying29 rfl HI.out ?_)
                              | (refine wpList_load_blkG 29 (.tmp 15) b15 (cs := ((x.setF K ff).turn K false).L) (by first | rfl | simp [Region.wanted, yielded]) rfl rfl B15.out.blk Try.underlying29 rfl HI.out ?_))
              refine (K4.out ff _).mono ?_; rintro e wn ⟨rfl, hb⟩
              go_wp2_with (refine wpList_store_blk 29 (.tmp 17) (.tmp 92) _ (old := zeroL) (cs := ((x.setF K ff).turn K false).L) rfl rfl rfl rfl (Blk.new _ _ _) HI.out rfl rfl ?_)
              go_meet
              exact ⟨_, rfl, rfl, rfl, lay_blk _ _ _ _, (B9.out.up (bt hb (lay_below _ _ _ _))), (B15.out.up (bt hb (lay_below _ _ _ _))), (bt G.out (bt hb (lay_below _ _ _ _))), (F1.out.mono (bt hb (lay_below _ _ _ _)))⟩
            case rest =>
              obtain ⟨b17, rfl, rfl, rfl, hB17, hB9, hB15, hG, hF1⟩ := hcut
              have B17 := Lib.hid hB17
              replace B9 := Lib.hid hB9
              replace B15 := Lib.hid hB15
              replace G := Lib.hid hG
              replace F1 := Lib.hid hF1
              clear hB17 hB9 hB15 hG hF1
              go_upto_region 18 with (fail)
              go_cut [21, 20] (fun v21 v20 wx => ∃ b20 : Nat, v21 = .int .i64 0 ∧ v20 = .pointer (some ⟨b20, 0, none⟩) ∧ BlkT 29 wx b20 ((((x.setF K ff).turn K false).turn K true).live K).L ∧ BlkT 29 wx b9 x.L ∧ BlkT 29 wx b15 ((x.setF K ff).turn K false).L ∧ Below w.heap.size w wx ∧ FdAt wx ff T1.1)
              case first =>
                go_wp2_with (first
                                  | (refine wpList_load_blk 29 (.tmp 15) b15 (cs := ((x.setF K ff).turn K false).L) rfl rfl rfl B15.out.blk Try.underlying29 rfl HI.out ?_)
                                  | (refine wpList_load_blkG 29 (.tmp 15) b15 (cs := ((x.setF K ff).turn K false).L) (by first | rfl | simp [Region.wanted, yielded]) rfl rfl B15.out.blk Try.underlying29 rfl HI.out ?_))
                refine (K5.out ff _).mono ?_; rintro e wn ⟨rfl, hb⟩
                go_wp2_with (refine wpList_store_blk 29 (.tmp 20) (.tmp 99) _ (old := zeroL) (cs := ((((x.setF K ff).turn K false).turn K true).live K).L) rfl rfl rfl rfl (Blk.new _ _ _) HI.out rfl rfl ?_)
                go_meet
                exact ⟨_, rfl, rfl, lay_blk _ _ _ _, (B9.out.up (bt hb (lay_below _ _ _ _))), (B15.out.up (bt hb (lay_below _ _ _ _))), (bt G.out (bt hb (lay_below _ _ _ _))), (F1.out.mono (bt hb (lay_below _ _ _ _)))⟩
              case rest =>
                obtain ⟨b20, rfl, rfl, hB20, hB9, hB15, hG, hF1⟩ := hcut
                have B20 := Lib.hid hB20
                replace B9 := Lib.hid hB9
                replace B15 := Lib.hid hB15
                replace G := Lib.hid hG
                replace F1 := Lib.hid hF1
                clear hB20 hB9 hB15 hG hF1
                go_upto_region 19 with (fail)
                go_cut [23, 24, 22] (fun v23 v24 v22 wx => ∃ gf : Fv, ∃ ga : Option Addr, ∃ gk : Nat, ∃ b22 : Nat, v23 = .slice ga T2.2.length gk ∧ v24 = .int .i64 0 ∧ v22 = .pointer (some ⟨b22, 0, none⟩) ∧ BlkT 29 wx b22 (((((x.setF K ff).turn K false).turn K true).live K).setF K gf).L ∧ BlkT 29 wx b9 x.L ∧ BlkT 29 wx b15 ((x.setF K ff).turn K false).L ∧ BlkT 29 wx b20 ((((x.setF K ff).turn K false).turn K true).live K).L ∧ Below w.heap.size w wx ∧ FdAt wx ff T1.1 ∧ RowsAt wx ga T2.2 ∧ T2.2.length ≤ maxLen)
                case first =>
                  go_wp2_with (first
                                      | (refine wpList_load_blk 29 (.tmp 20) b20 (cs := ((((x.setF K ff).turn K false).turn K true).live K).L) rfl rfl rfl B20.out.blk Try.underlying29 rfl HI.out ?_)
                                      | (refine wpList_load_blkG 29 (.tmp 20) b20 (cs := ((((x.setF K ff).turn K false).turn K true).live K).L) (by first | rfl | simp [Region.wanted, yielded]) rfl rfl B20.out.blk Try.underlying29 rfl HI.out ?_))
                  refine (P6.out ff T1.1 _ G.out F1.out).mono ?_; rintro e wn ⟨gf, ga, gk, rfl, -, hR2, hM2, hb⟩
                  go_wp2_with (refine wpList_store_blk 29 (.tmp 22) (.tmp 106) _ (old := zeroL) (cs := (((((x.setF K ff).turn K false).turn K true).live K).setF K gf).L) rfl rfl rfl rfl (Blk.new _ _ _) HI.out rfl rfl ?_)
                  go_meet
                  exact ⟨gf, ga, gk, _, rfl, rfl, rfl, lay_blk _ _ _ _, (B9.out.up (bt hb (lay_below _ _ _ _))), (B15.out.up (bt hb (lay_below _ _ _ _))), (B20.out.up (bt hb (lay_below _ _ _ _))), (bt G.out (bt hb (lay_below _ _ _ _))), (F1.out.mono (bt hb (lay_below _ _ _ _))), (hR2).mono (lay_below _ _ _ _), hM2⟩
                case rest =>
                  obtain ⟨gf, ga, gk, b22, rfl, rfl, rfl, hB22, hB9, hB15, hB20, hG, hF1, hR2, hM2⟩ := hcut
                  have B22 := Lib.hid hB22
                  replace B9 := Lib.hid hB9
                  replace B15 := Lib.hid hB15
                  replace B20 := Lib.hid hB20
                  replace G := Lib.hid hG
                  replace F1 := Lib.hid hF1
                  have R2 := Lib.hid hR2
                  have M2 := Lib.hid hM2
                  clear hB22 hB9 hB15 hB20 hG hF1 hR2 hM2
                  go_wp2_with fail
                  refine (P7.out _ G.out).mono ?_; rintro e wn ⟨f2, a2, k2, vs2, rfl, -, -, hO2, hS2, hb⟩
                  obtain ⟨za, zl, zc, zs, zb⟩ := f2
                  have R3 := Lib.hid (show RowsAt wn a2 T2.2 from ⟨vs2, hO2.at, hS2.of⟩)
                  clear hO2 hS2
                  replace B9 := Lib.hid (B9.out.up hb)
                  replace B15 := Lib.hid (B15.out.up hb)
                  replace B20 := Lib.hid (B20.out.up hb)
                  replace G := Lib.hid (bt G.out hb)
                  replace R2 := Lib.hid (R2.out.mono hb)
                  clear hb
                  go_wp2_with fail
                  replace B9 := Lib.hid (B9.out.up (ba _ (.cells [.slice za zl zc, .int .i64 zs, .int .i64 zb].toArray 25)))
                  replace B15 := Lib.hid (B15.out.up (ba _ (.cells [.slice za zl zc, .int .i64 zs, .int .i64 zb].toArray 25)))
                  replace B20 := Lib.hid (B20.out.up (ba _ (.cells [.slice za zl zc, .int .i64 zs, .int .i64 zb].toArray 25)))
                  replace G := Lib.hid (bt G.out (ba _ (.cells [.slice za zl zc, .int .i64 zs, .int .i64 zb].toArray 25)))
                  replace R2 := Lib.hid (R2.out.mono (ba _ (.cells [.slice za zl zc, .int .i64 zs, .int .i64 zb].toArray 25)))
                  replace R3 := Lib.hid (R3.out.mono (ba _ (.cells [.slice za zl zc, .int .i64 zs, .int .i64 zb].toArray 25)))
                  generalize hW9 : World.alloc wn _ = W9 at *
                  clear hW9
                  refine lives_end x ff K hK T2.2 M2.out B20.out B9.out B15.out G.out R2.out R3.out K8.out S4.out ?_
                  intro a' w' h1 h2 h3
                  obtain ⟨tm, df⟩ := a'
                  obtain rfl : df = [] := h2
                  go_wp2_with fail
                  refine bodyPost_ret (results_tmp rfl _ _ _) rfl ?_
                  exact ⟨congrArg Ending.returned h1, h3⟩
theorem hubLives_in (w : World) (h : Hv) (s : Nat → Fd) (hh : HbAt w h s) (c : Int) (hc : (Lit.int .u8 c).wf = true) (a : Option Addr) (n ca : Nat) (la : List UInt8) (ha : InBytes w a n ca la) (b : Option Addr) (m cb : Nat) (lb : List UInt8) (hb : InBytes w b m cb lb) :
    Calls Try.prog 7 #[livesV h c (.slice a n ca) (.slice b m cb)] w (BoolOut w true) := by
  obtain ⟨rfl, u1, u2, u3⟩ := ha
  obtain ⟨rfl, v1, v2, v3⟩ := hb
  simp [Lit.wf, IntKind.min, IntKind.max, IntKind.bits, IntKind.signed] at hc
  obtain ⟨x, rfl⟩ : ∃ x : Nat, c = x := ⟨c.toNat, by omega⟩
  exact hubLives_any h s x a ca la b cb lb w (by omega) hh u3 v3 (Nat.le_trans u1 u2) (Nat.le_trans v1 v2)
end Go.Proofs.Ytcccgjpmfbmplaa
