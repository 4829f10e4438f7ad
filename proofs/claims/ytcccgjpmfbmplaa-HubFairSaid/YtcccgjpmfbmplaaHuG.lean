/- Hubs: bytes that come on a connection, of the program and of the document. -/
import Derived.Test.YtcccgjpmfbmplaaHuF
import Derived.Test.YtcccgjpmfbmplaaFrI
set_option linter.unusedSimpArgs false
set_option linter.unusedVariables false
namespace Go.Proofs.Ytcccgjpmfbmplaa
open Go.RowKit

theorem FdAt.keepW {B : Nat} {w w' : World} {f : Fv} {s : Fd} (h : FdAt w f s) (k : KeepAt B w' f.a (B8s s.buf)) : FdAt w' f s := ⟨h.len, h.le, h.cap, k.at, h.skip, h.bad⟩
/-- what came out of a feed -/
structure PushSt (B C : Nat) (w : World) (f : Fv) (a : Option Addr) (c : Nat) (vs : List Value) (T : Fd × List (List UInt8)) : Prop where
  fd : FdAt w f T.1
  keep : KeepAt B w f.a (B8s T.1.buf)
  own : Own C w (.slice a T.2.length c) T.2.length vs
  rows : RowsK B w vs T.2
theorem PushSt.up {B C : Nat} {w w' : World} {f : Fv} {a : Option Addr} {c : Nat} {vs : List Value} {T : Fd × List (List UInt8)} (h : PushSt B C w f a c vs T) (hb : Below w.heap.size w w') : PushSt B C w' f a c vs T :=
  ⟨h.fd.mono hb, h.keep.safe (Safe.below hb), h.own.up hb, h.rows.safe (Safe.below hb)⟩
theorem PushSt.set {B C g j : Nat} {w : World} {f : Fv} {a : Option Addr} {c : Nat} {vs : List Value} {T : Fd × List (List UInt8)} {Y : TypeId} {cs : List Value} (h : PushSt B C w f a c vs T) (hb : BlkT Y w g cs) (hT : Y ≠ 5) (hB : B ≤ g) (hC : g < C) (v : Value) : PushSt B C (w.setCell ⟨g, j, none⟩ v) f a c vs T :=
  ⟨h.fd.keepW (h.keep.safe (Safe.set hb hT hB v)), h.keep.safe (Safe.set hb hT hB v), h.own.set hC v, h.rows.safe (Safe.set hb hT hB v)⟩
theorem PushSt.row {B C g : Nat} {w : World} {f : Fv} {a : Option Addr} {c : Nat} {vs : List Value} {T : Fd × List (List UInt8)} {Y : TypeId} {cs : List Value} (h : PushSt B C w f a c vs T) (hb : BlkT Y w g cs) (hT : Y ≠ 5) (hB : B ≤ g) (hC : g < C) (ds : Array Value) : PushSt B C (w.setRow g ds) f a c vs T :=
  ⟨h.fd.keepW (h.keep.safe (Safe.row hb hT hB ds)), h.keep.safe (Safe.row hb hT hB ds), h.own.row hC ds, h.rows.safe (Safe.row hb hT hB ds)⟩
theorem PushSt.at {B C : Nat} {w : World} {f : Fv} {a : Option Addr} {c : Nat} {vs : List Value} {T : Fd × List (List UInt8)} (h : PushSt B C w f a c vs T) : RowsAt w a T.2 := ⟨vs, h.own.at, h.rows.of⟩
def Hv.setF (h : Hv) (c : Nat) (f : Fv) : Hv := ⟨h.u, upd h.f c f, h.l, h.nx⟩
def pushE (h : Hv) (c : Int) : Int := bif isC c then (bif h.u c.toNat then 0 else 11) else 1
def HubYes (w : World) (h : Hv) (c : Nat) (T : Fd × List (List UInt8)) (e : Ending) (w' : World) : Prop :=
  ∃ f a k, e = .returned (.tuple #[(h.setF c f).v, .slice a T.2.length k, .int .i64 0]) ∧ FdAt w' f T.1 ∧ RowsAt w' a T.2 ∧ T.2.length ≤ maxLen ∧ Below w.heap.size w w'
def HubNo (w : World) (h : Hv) (er : Int) (e : Ending) (w' : World) : Prop := e = .returned (.tuple #[h.v, .slice none 0 0, .int .i64 er]) ∧ Below w.heap.size w w'

set_option maxRecDepth 100000 in
set_option maxHeartbeats 2000000 in
theorem hubPush_no (h : Hv) (c : Int) (a : Option Addr) (cap n : Nat) (w : World) (he : pushE h c ≠ 0) : Calls Try.prog 22 #[h.v, .int .i64 c, .slice a n cap] w (HubNo w h (pushE h c)) := by
  have HI := Lib.hid hub_size
  obtain ⟨V, hV⟩ : ∃ V, V = pushE h c := ⟨_, rfl⟩
  rw [← hV]
  have HV := Lib.hid hV
  have hV0 : V ≠ 0 := by rw [hV]; exact he
  clear hV he
  rcases hc : isC c with _ | _
  · have HV2 := Lib.hid (show V = 1 by rw [HV.out]; unfold pushE; rw [hc]; rfl)
    clear hV0
    have Hc := Lib.hid (fun W => is_any c W)
    rw [hc] at Hc
    clear HV hc
    go_enter Try.func22, Try.ntmps22
    go_upto_region 1 with (fail)
    generalize hW : World.alloc (World.alloc w _) _ = W
    obtain ⟨hB1, hB2, hB3⟩ : BlkT 29 W w.heap.size h.L ∧ BlkT 29 W (w.heap.size + 1) zeroH.L ∧ Below w.heap.size w W := by rw [← hW]; exact hub_two w h.L zeroH.L
    clear hW
    have B1 := Lib.hid hB1
    have B2 := Lib.hid hB2
    have B3 := Lib.hid hB3
    have B4 := Lib.hid (show w.heap.size ≤ w.heap.size + 1 by omega)
    have B5 := Lib.hid (show w.heap.size + 1 ≠ w.heap.size by omega)
    clear hB1 hB2 hB3
    generalize w.heap.size + 1 = b2 at B2 B4 B5 ⊢
    go_wp2_with fail
    refine (Hc.out _).mono ?_; rintro e w1 ⟨rfl, rfl⟩
    go_wp2_with (first
      | (refine wpList_load_blk 29 (.tmp 3) w.heap.size (cs := h.L) rfl rfl rfl B1.out.blk Try.underlying29 rfl HI.out ?_)
      | (refine wpList_store_blk 29 (.tmp 6) (.tmp 14) b2 (old := zeroH.L) (cs := h.L) rfl rfl rfl rfl B2.out.blk HI.out rfl rfl ?_))
    refine bodyPost_ret (results_blk_tmp2 rfl _ _ b2 (cs := h.L) rfl _ _ rfl rfl ((B2.out.row h.L).blk) Try.underlying29 rfl hub_size) rfl ?_
    exact ⟨by rw [HV2.out]; rfl, below_setRow B3.out B4.out _⟩
  · have hu : h.u c.toNat = false := by
      rcases hq : h.u c.toNat with _ | _
      · rfl
      · exact (hV0 (by rw [HV.out]; unfold pushE; rw [hc, hq]; rfl)).elim
    have HV2 := Lib.hid (show V = 11 by rw [HV.out]; unfold pushE; rw [hc, hu]; rfl)
    have Hc := Lib.hid (fun W => is_any c W)
    rw [hc] at Hc
    have hc4 := isC_four hc
    clear HV hc hV0
    rcases hc4 with rfl | rfl | rfl | rfl
    all_goals
      first | (have hq3 : h.u 0 = _ := hu) | (have hq3 : h.u 1 = _ := hu) | (have hq3 : h.u 2 = _ := hu) | (have hq3 : h.u 3 = _ := hu)
      have Hq3 := Lib.hid hq3
      clear hu hq3
      go_enter Try.func22, Try.ntmps22
      go_upto_region 1 with (fail)
      generalize hW : World.alloc (World.alloc w _) _ = W
      obtain ⟨hB1, hB2, hB3⟩ : BlkT 29 W w.heap.size h.L ∧ BlkT 29 W (w.heap.size + 1) zeroH.L ∧ Below w.heap.size w W := by rw [← hW]; exact hub_two w h.L zeroH.L
      clear hW
      have B1 := Lib.hid hB1
      have B2 := Lib.hid hB2
      have B3 := Lib.hid hB3
      have B4 := Lib.hid (show w.heap.size ≤ w.heap.size + 1 by omega)
      have B5 := Lib.hid (show w.heap.size + 1 ≠ w.heap.size by omega)
      clear hB1 hB2 hB3
      generalize w.heap.size + 1 = b2 at B2 B4 B5 ⊢
      obtain ⟨u0, u1, u2, u3⟩ := hub_u B1.out.blk
      first | rw [Hq3.out] at u0 | rw [Hq3.out] at u1 | rw [Hq3.out] at u2 | rw [Hq3.out] at u3
      go_wp2_with fail
      refine (Hc.out _).mono ?_; rintro e w1 ⟨rfl, rfl⟩
      go_wp2_with (first
        | (refine wpList_load_blk 29 (.tmp 3) w.heap.size (cs := h.L) rfl rfl rfl B1.out.blk Try.underlying29 rfl HI.out ?_)
        | (refine wpList_store_blk 29 (.tmp 6) (.tmp 20) b2 (old := zeroH.L) (cs := h.L) rfl rfl rfl rfl B2.out.blk HI.out rfl rfl ?_))
      refine bodyPost_ret (results_blk_tmp2 rfl _ _ b2 (cs := h.L) rfl _ _ rfl rfl ((B2.out.row h.L).blk) Try.underlying29 rfl hub_size) rfl ?_
      exact ⟨by rw [HV2.out]; rfl, below_setRow B3.out B4.out _⟩

set_option maxRecDepth 100000 in
set_option maxHeartbeats 2000000 in
theorem hubPush_yes0 (h : Hv) (s : Nat → Fd) (a : Option Addr) (cap : Nat) (l : List UInt8) (w : World) (hh : HbAt w h s) (hr : rightF (s 0) = true) (hu : h.u 0 = true) (hl : BytesAt w a l) (hlen : l.length ≤ 1000000000) :
    Calls Try.prog 22 #[h.v, .int .i64 0, .slice a l.length cap] w (HubYes w h 0 (runF (s 0) l)) := by
  have HI := Lib.hid hub_size
  have Hc := Lib.hid (fun W => is_any 0 W)
  rw [show isC 0 = true from rfl] at Hc
  have HP := Lib.hid (fun (W' : World) (hb : Below w.heap.size w W') => push_any (h.f 0) (s 0) a cap l W' w.heap.size hb.size ((hh 0 (by decide)).mono hb) hr (hl.mono hb) hlen)
  obtain ⟨T, hT⟩ : ∃ T, T = runF (s 0) l := ⟨_, rfl⟩
  rw [← hT] at HP
  rw [← hT]
  have Hu := Lib.hid hu
  clear hT hl hh hr hlen hu
  go_enter Try.func22, Try.ntmps22
  go_upto_region 1 with (fail)
  generalize hW : World.alloc (World.alloc w _) _ = W
  obtain ⟨hB1, hB2, hB3⟩ : BlkT 29 W w.heap.size h.L ∧ BlkT 29 W (w.heap.size + 1) zeroH.L ∧ Below w.heap.size w W := by rw [← hW]; exact hub_two w h.L zeroH.L
  clear hW
  have B1 := Lib.hid hB1
  have B2 := Lib.hid hB2
  have B3 := Lib.hid hB3
  have B4 := Lib.hid (show w.heap.size ≤ w.heap.size + 1 by omega)
  have B5 := Lib.hid (show w.heap.size + 1 ≠ w.heap.size by omega)
  clear hB1 hB2 hB3
  generalize w.heap.size + 1 = b2 at B2 B4 B5 ⊢
  obtain ⟨u0, u1, u2, u3⟩ := hub_u B1.out.blk
  rw [Hu.out] at u0
  have hx := feed0 B1.out.blk
  obtain ⟨x0, x1, x2⟩ := hx
  go_wp2_with fail
  refine (Hc.out _).mono ?_; rintro e w1 ⟨rfl, rfl⟩
  go_wp2_with fail
  refine (HP.out _ B3.out).mono ?_; rintro e w3 ⟨f1, a1, k1, vs1, rfl, hF1, hK1, hO1, hR1, hb3⟩
  have P3 := Lib.hid (show PushSt w.heap.size W.heap.size w3 f1 a1 k1 vs1 T from ⟨hF1, hK1, hO1, hR1⟩)
  have C1 := Lib.hid (B1.out.up hb3)
  have C2 := Lib.hid (B2.out.up hb3)
  have C3 := Lib.hid (bt B3.out hb3)
  have Q1 := Lib.hid B1.out.blk.lt
  have Q2 := Lib.hid B2.out.blk.lt
  clear hF1 hK1 hO1 hR1 hb3 u0 u1 u2 u3 x0 x1 x2 B1 B2 B3
  go_upto_region 6 with (fail)
  generalize hW4 : World.alloc w3 _ = W4
  have P4 := Lib.hid (show PushSt w.heap.size W.heap.size W4 f1 a1 k1 vs1 T by rw [← hW4]; exact P3.out.up (ba _ _))
  have D1 := Lib.hid (show BlkT 29 W4 w.heap.size h.L by rw [← hW4]; exact C1.out.up (ba _ _))
  have D2 := Lib.hid (show BlkT 29 W4 b2 zeroH.L by rw [← hW4]; exact C2.out.up (ba _ _))
  have D3 := Lib.hid (show Below w.heap.size w W4 by rw [← hW4]; exact bt C3.out (ba _ _))
  have D4 := Lib.hid (show BlkT 25 W4 w3.heap.size f1.L by rw [← hW4]; exact BlkT.new w3 f1.L _)
  clear hW4 P3 C1 C2 C3
  generalize w3.heap.size = b9 at D4 ⊢
  obtain ⟨x0, x1, x2⟩ := feed0 D1.out.blk
  obtain ⟨g0, g1, g2⟩ := cells3 D4.out.blk
  have fz := D1.out.blk.frozen
  go_upto_region 7 with (fail)
  generalize hW5 : World.setCell (World.setCell (World.setCell W4 _ _) _ _) _ _ = W5
  obtain ⟨hB1, hB2, hB3, hP⟩ : BlkT 29 W5 w.heap.size (h.setF 0 f1).L ∧ BlkT 29 W5 b2 zeroH.L ∧ Below w.heap.size w W5 ∧ PushSt w.heap.size W.heap.size W5 f1 a1 k1 vs1 T := by
    rw [← hW5]
    exact ⟨((D1.out.set _ _).set _ _).set _ _, ((D2.out.other B5.out _).other B5.out _).other B5.out _, ((D3.out.setCell (Nat.le_refl _) _).setCell (Nat.le_refl _) _).setCell (Nat.le_refl _) _, ((P4.out.set D1.out (by decide) (Nat.le_refl _) Q1.out _).set (D1.out.set _ _) (by decide) (Nat.le_refl _) Q1.out _).set ((D1.out.set _ _).set _ _) (by decide) (Nat.le_refl _) Q1.out _⟩
  have E1 := Lib.hid hB1
  have E2 := Lib.hid hB2
  have E3 := Lib.hid hB3
  have P5 := Lib.hid hP
  clear hB1 hB2 hB3 hP hW5 x0 x1 x2 g0 g1 g2 fz D1 D2 D3 D4 P4
  go_wp2_with (first
    | (refine wpList_load_blk 29 (.tmp 3) w.heap.size (cs := (h.setF 0 f1).L) rfl rfl rfl E1.out.blk Try.underlying29 rfl HI.out ?_)
    | (refine wpList_store_blk 29 (.tmp 6) (.tmp 34) b2 (old := zeroH.L) (cs := (h.setF 0 f1).L) rfl rfl rfl rfl E2.out.blk HI.out rfl rfl ?_))
  refine bodyPost_ret (results_blk_tmp2 rfl _ _ b2 (cs := (h.setF 0 f1).L) rfl _ _ rfl rfl ((E2.out.row (h.setF 0 f1).L).blk) Try.underlying29 rfl hub_size) rfl ?_
  have P6 := P5.out.row E2.out (by decide) B4.out Q2.out (h.setF 0 f1).L.toArray
  exact ⟨f1, a1, k1, rfl, P6.fd, P6.at, Nat.le_trans P6.own.cap.2.1 P6.own.cap.2.2, below_setRow E3.out B4.out _⟩

set_option maxRecDepth 100000 in
set_option maxHeartbeats 2000000 in
theorem hubPush_yes1 (h : Hv) (s : Nat → Fd) (a : Option Addr) (cap : Nat) (l : List UInt8) (w : World) (hh : HbAt w h s) (hr : rightF (s 1) = true) (hu : h.u 1 = true) (hl : BytesAt w a l) (hlen : l.length ≤ 1000000000) :
    Calls Try.prog 22 #[h.v, .int .i64 1, .slice a l.length cap] w (HubYes w h 1 (runF (s 1) l)) := by
  have HI := Lib.hid hub_size
  have Hc := Lib.hid (fun W => is_any 1 W)
  rw [show isC 1 = true from rfl] at Hc
  have HP := Lib.hid (fun (W' : World) (hb : Below w.heap.size w W') => push_any (h.f 1) (s 1) a cap l W' w.heap.size hb.size ((hh 1 (by decide)).mono hb) hr (hl.mono hb) hlen)
  obtain ⟨T, hT⟩ : ∃ T, T = runF (s 1) l := ⟨_, rfl⟩
  rw [← hT] at HP
  rw [← hT]
  have Hu := Lib.hid hu
  clear hT hl hh hr hlen hu
  go_enter Try.func22, Try.ntmps22
  go_upto_region 1 with (fail)
  generalize hW : World.alloc (World.alloc w _) _ = W
  obtain ⟨hB1, hB2, hB3⟩ : BlkT 29 W w.heap.size h.L ∧ BlkT 29 W (w.heap.size + 1) zeroH.L ∧ Below w.heap.size w W := by rw [← hW]; exact hub_two w h.L zeroH.L
  clear hW
  have B1 := Lib.hid hB1
  have B2 := Lib.hid hB2
  have B3 := Lib.hid hB3
  have B4 := Lib.hid (show w.heap.size ≤ w.heap.size + 1 by omega)
  have B5 := Lib.hid (show w.heap.size + 1 ≠ w.heap.size by omega)
  clear hB1 hB2 hB3
  generalize w.heap.size + 1 = b2 at B2 B4 B5 ⊢
  obtain ⟨u0, u1, u2, u3⟩ := hub_u B1.out.blk
  rw [Hu.out] at u1
  have hx := feed1 B1.out.blk
  obtain ⟨x0, x1, x2⟩ := hx
  go_wp2_with fail
  refine (Hc.out _).mono ?_; rintro e w1 ⟨rfl, rfl⟩
  go_wp2_with fail
  refine (HP.out _ B3.out).mono ?_; rintro e w3 ⟨f1, a1, k1, vs1, rfl, hF1, hK1, hO1, hR1, hb3⟩
  have P3 := Lib.hid (show PushSt w.heap.size W.heap.size w3 f1 a1 k1 vs1 T from ⟨hF1, hK1, hO1, hR1⟩)
  have C1 := Lib.hid (B1.out.up hb3)
  have C2 := Lib.hid (B2.out.up hb3)
  have C3 := Lib.hid (bt B3.out hb3)
  have Q1 := Lib.hid B1.out.blk.lt
  have Q2 := Lib.hid B2.out.blk.lt
  clear hF1 hK1 hO1 hR1 hb3 u0 u1 u2 u3 x0 x1 x2 B1 B2 B3
  go_upto_region 6 with (fail)
  generalize hW4 : World.alloc w3 _ = W4
  have P4 := Lib.hid (show PushSt w.heap.size W.heap.size W4 f1 a1 k1 vs1 T by rw [← hW4]; exact P3.out.up (ba _ _))
  have D1 := Lib.hid (show BlkT 29 W4 w.heap.size h.L by rw [← hW4]; exact C1.out.up (ba _ _))
  have D2 := Lib.hid (show BlkT 29 W4 b2 zeroH.L by rw [← hW4]; exact C2.out.up (ba _ _))
  have D3 := Lib.hid (show Below w.heap.size w W4 by rw [← hW4]; exact bt C3.out (ba _ _))
  have D4 := Lib.hid (show BlkT 25 W4 w3.heap.size f1.L by rw [← hW4]; exact BlkT.new w3 f1.L _)
  clear hW4 P3 C1 C2 C3
  generalize w3.heap.size = b9 at D4 ⊢
  obtain ⟨x0, x1, x2⟩ := feed1 D1.out.blk
  obtain ⟨g0, g1, g2⟩ := cells3 D4.out.blk
  have fz := D1.out.blk.frozen
  go_upto_region 7 with (fail)
  generalize hW5 : World.setCell (World.setCell (World.setCell W4 _ _) _ _) _ _ = W5
  obtain ⟨hB1, hB2, hB3, hP⟩ : BlkT 29 W5 w.heap.size (h.setF 1 f1).L ∧ BlkT 29 W5 b2 zeroH.L ∧ Below w.heap.size w W5 ∧ PushSt w.heap.size W.heap.size W5 f1 a1 k1 vs1 T := by
    rw [← hW5]
    exact ⟨((D1.out.set _ _).set _ _).set _ _, ((D2.out.other B5.out _).other B5.out _).other B5.out _, ((D3.out.setCell (Nat.le_refl _) _).setCell (Nat.le_refl _) _).setCell (Nat.le_refl _) _, ((P4.out.set D1.out (by decide) (Nat.le_refl _) Q1.out _).set (D1.out.set _ _) (by decide) (Nat.le_refl _) Q1.out _).set ((D1.out.set _ _).set _ _) (by decide) (Nat.le_refl _) Q1.out _⟩
  have E1 := Lib.hid hB1
  have E2 := Lib.hid hB2
  have E3 := Lib.hid hB3
  have P5 := Lib.hid hP
  clear hB1 hB2 hB3 hP hW5 x0 x1 x2 g0 g1 g2 fz D1 D2 D3 D4 P4
  go_wp2_with (first
    | (refine wpList_load_blk 29 (.tmp 3) w.heap.size (cs := (h.setF 1 f1).L) rfl rfl rfl E1.out.blk Try.underlying29 rfl HI.out ?_)
    | (refine wpList_store_blk 29 (.tmp 6) (.tmp 34) b2 (old := zeroH.L) (cs := (h.setF 1 f1).L) rfl rfl rfl rfl E2.out.blk HI.out rfl rfl ?_))
  refine bodyPost_ret (results_blk_tmp2 rfl _ _ b2 (cs := (h.setF 1 f1).L) rfl _ _ rfl rfl ((E2.out.row (h.setF 1 f1).L).blk) Try.underlying29 rfl hub_size) rfl ?_
  have P6 := P5.out.row E2.out (by decide) B4.out Q2.out (h.setF 1 f1).L.toArray
  exact ⟨f1, a1, k1, rfl, P6.fd, P6.at, Nat.le_trans P6.own.cap.2.1 P6.own.cap.2.2, below_setRow E3.out B4.out _⟩

set_option maxRecDepth 100000 in
set_option maxHeartbeats 2000000 in
theorem hubPush_yes2 (h : Hv) (s : Nat → Fd) (a : Option Addr) (cap : Nat) (l : List UInt8) (w : World) (hh : HbAt w h s) (hr : rightF (s 2) = true) (hu : h.u 2 = true) (hl : BytesAt w a l) (hlen : l.length ≤ 1000000000) :
    Calls Try.prog 22 #[h.v, .int .i64 2, .slice a l.length cap] w (HubYes w h 2 (runF (s 2) l)) := by
  have HI := Lib.hid hub_size
  have Hc := Lib.hid (fun W => is_any 2 W)
  rw [show isC 2 = true from rfl] at Hc
  have HP := Lib.hid (fun (W' : World) (hb : Below w.heap.size w W') => push_any (h.f 2) (s 2) a cap l W' w.heap.size hb.size ((hh 2 (by decide)).mono hb) hr (hl.mono hb) hlen)
  obtain ⟨T, hT⟩ : ∃ T, T = runF (s 2) l := ⟨_, rfl⟩
  rw [← hT] at HP
  rw [← hT]
  have Hu := Lib.hid hu
  clear hT hl hh hr hlen hu
  go_enter Try.func22, Try.ntmps22
  go_upto_region 1 with (fail)
  generalize hW : World.alloc (World.alloc w _) _ = W
  obtain ⟨hB1, hB2, hB3⟩ : BlkT 29 W w.heap.size h.L ∧ BlkT 29 W (w.heap.size + 1) zeroH.L ∧ Below w.heap.size w W := by rw [← hW]; exact hub_two w h.L zeroH.L
  clear hW
  have B1 := Lib.hid hB1
  have B2 := Lib.hid hB2
  have B3 := Lib.hid hB3
  have B4 := Lib.hid (show w.heap.size ≤ w.heap.size + 1 by omega)
  have B5 := Lib.hid (show w.heap.size + 1 ≠ w.heap.size by omega)
  clear hB1 hB2 hB3
  generalize w.heap.size + 1 = b2 at B2 B4 B5 ⊢
  obtain ⟨u0, u1, u2, u3⟩ := hub_u B1.out.blk
  rw [Hu.out] at u2
  have hx := feed2 B1.out.blk
  obtain ⟨x0, x1, x2⟩ := hx
  go_wp2_with fail
  refine (Hc.out _).mono ?_; rintro e w1 ⟨rfl, rfl⟩
  go_wp2_with fail
  refine (HP.out _ B3.out).mono ?_; rintro e w3 ⟨f1, a1, k1, vs1, rfl, hF1, hK1, hO1, hR1, hb3⟩
  have P3 := Lib.hid (show PushSt w.heap.size W.heap.size w3 f1 a1 k1 vs1 T from ⟨hF1, hK1, hO1, hR1⟩)
  have C1 := Lib.hid (B1.out.up hb3)
  have C2 := Lib.hid (B2.out.up hb3)
  have C3 := Lib.hid (bt B3.out hb3)
  have Q1 := Lib.hid B1.out.blk.lt
  have Q2 := Lib.hid B2.out.blk.lt
  clear hF1 hK1 hO1 hR1 hb3 u0 u1 u2 u3 x0 x1 x2 B1 B2 B3
  go_upto_region 6 with (fail)
  generalize hW4 : World.alloc w3 _ = W4
  have P4 := Lib.hid (show PushSt w.heap.size W.heap.size W4 f1 a1 k1 vs1 T by rw [← hW4]; exact P3.out.up (ba _ _))
  have D1 := Lib.hid (show BlkT 29 W4 w.heap.size h.L by rw [← hW4]; exact C1.out.up (ba _ _))
  have D2 := Lib.hid (show BlkT 29 W4 b2 zeroH.L by rw [← hW4]; exact C2.out.up (ba _ _))
  have D3 := Lib.hid (show Below w.heap.size w W4 by rw [← hW4]; exact bt C3.out (ba _ _))
  have D4 := Lib.hid (show BlkT 25 W4 w3.heap.size f1.L by rw [← hW4]; exact BlkT.new w3 f1.L _)
  clear hW4 P3 C1 C2 C3
  generalize w3.heap.size = b9 at D4 ⊢
  obtain ⟨x0, x1, x2⟩ := feed2 D1.out.blk
  obtain ⟨g0, g1, g2⟩ := cells3 D4.out.blk
  have fz := D1.out.blk.frozen
  go_upto_region 7 with (fail)
  generalize hW5 : World.setCell (World.setCell (World.setCell W4 _ _) _ _) _ _ = W5
  obtain ⟨hB1, hB2, hB3, hP⟩ : BlkT 29 W5 w.heap.size (h.setF 2 f1).L ∧ BlkT 29 W5 b2 zeroH.L ∧ Below w.heap.size w W5 ∧ PushSt w.heap.size W.heap.size W5 f1 a1 k1 vs1 T := by
    rw [← hW5]
    exact ⟨((D1.out.set _ _).set _ _).set _ _, ((D2.out.other B5.out _).other B5.out _).other B5.out _, ((D3.out.setCell (Nat.le_refl _) _).setCell (Nat.le_refl _) _).setCell (Nat.le_refl _) _, ((P4.out.set D1.out (by decide) (Nat.le_refl _) Q1.out _).set (D1.out.set _ _) (by decide) (Nat.le_refl _) Q1.out _).set ((D1.out.set _ _).set _ _) (by decide) (Nat.le_refl _) Q1.out _⟩
  have E1 := Lib.hid hB1
  have E2 := Lib.hid hB2
  have E3 := Lib.hid hB3
  have P5 := Lib.hid hP
  clear hB1 hB2 hB3 hP hW5 x0 x1 x2 g0 g1 g2 fz D1 D2 D3 D4 P4
  go_wp2_with (first
    | (refine wpList_load_blk 29 (.tmp 3) w.heap.size (cs := (h.setF 2 f1).L) rfl rfl rfl E1.out.blk Try.underlying29 rfl HI.out ?_)
    | (refine wpList_store_blk 29 (.tmp 6) (.tmp 34) b2 (old := zeroH.L) (cs := (h.setF 2 f1).L) rfl rfl rfl rfl E2.out.blk HI.out rfl rfl ?_))
  refine bodyPost_ret (results_blk_tmp2 rfl _ _ b2 (cs := (h.setF 2 f1).L) rfl _ _ rfl rfl ((E2.out.row (h.setF 2 f1).L).blk) Try.underlying29 rfl hub_size) rfl ?_
  have P6 := P5.out.row E2.out (by decide) B4.out Q2.out (h.setF 2 f1).L.toArray
  exact ⟨f1, a1, k1, rfl, P6.fd, P6.at, Nat.le_trans P6.own.cap.2.1 P6.own.cap.2.2, below_setRow E3.out B4.out _⟩

set_option maxRecDepth 100000 in
set_option maxHeartbeats 2000000 in
theorem hubPush_yes3 (h : Hv) (s : Nat → Fd) (a : Option Addr) (cap : Nat) (l : List UInt8) (w : World) (hh : HbAt w h s) (hr : rightF (s 3) = true) (hu : h.u 3 = true) (hl : BytesAt w a l) (hlen : l.length ≤ 1000000000) :
    Calls Try.prog 22 #[h.v, .int .i64 3, .slice a l.length cap] w (HubYes w h 3 (runF (s 3) l)) := by
  have HI := Lib.hid hub_size
  have Hc := Lib.hid (fun W => is_any 3 W)
  rw [show isC 3 = true from rfl] at Hc
  have HP := Lib.hid (fun (W' : World) (hb : Below w.heap.size w W') => push_any (h.f 3) (s 3) a cap l W' w.heap.size hb.size ((hh 3 (by decide)).mono hb) hr (hl.mono hb) hlen)
  obtain ⟨T, hT⟩ : ∃ T, T = runF (s 3) l := ⟨_, rfl⟩
  rw [← hT] at HP
  rw [← hT]
  have Hu := Lib.hid hu
  clear hT hl hh hr hlen hu
  go_enter Try.func22, Try.ntmps22
  go_upto_region 1 with (fail)
  generalize hW : World.alloc (World.alloc w _) _ = W
  obtain ⟨hB1, hB2, hB3⟩ : BlkT 29 W w.heap.size h.L ∧ BlkT 29 W (w.heap.size + 1) zeroH.L ∧ Below w.heap.size w W := by rw [← hW]; exact hub_two w h.L zeroH.L
  clear hW
  have B1 := Lib.hid hB1
  have B2 := Lib.hid hB2
  have B3 := Lib.hid hB3
  have B4 := Lib.hid (show w.heap.size ≤ w.heap.size + 1 by omega)
  have B5 := Lib.hid (show w.heap.size + 1 ≠ w.heap.size by omega)
  clear hB1 hB2 hB3
  generalize w.heap.size + 1 = b2 at B2 B4 B5 ⊢
  obtain ⟨u0, u1, u2, u3⟩ := hub_u B1.out.blk
  rw [Hu.out] at u3
  have hx := feed3 B1.out.blk
  obtain ⟨x0, x1, x2⟩ := hx
  go_wp2_with fail
  refine (Hc.out _).mono ?_; rintro e w1 ⟨rfl, rfl⟩
  go_wp2_with fail
  refine (HP.out _ B3.out).mono ?_; rintro e w3 ⟨f1, a1, k1, vs1, rfl, hF1, hK1, hO1, hR1, hb3⟩
  have P3 := Lib.hid (show PushSt w.heap.size W.heap.size w3 f1 a1 k1 vs1 T from ⟨hF1, hK1, hO1, hR1⟩)
  have C1 := Lib.hid (B1.out.up hb3)
  have C2 := Lib.hid (B2.out.up hb3)
  have C3 := Lib.hid (bt B3.out hb3)
  have Q1 := Lib.hid B1.out.blk.lt
  have Q2 := Lib.hid B2.out.blk.lt
  clear hF1 hK1 hO1 hR1 hb3 u0 u1 u2 u3 x0 x1 x2 B1 B2 B3
  go_upto_region 6 with (fail)
  generalize hW4 : World.alloc w3 _ = W4
  have P4 := Lib.hid (show PushSt w.heap.size W.heap.size W4 f1 a1 k1 vs1 T by rw [← hW4]; exact P3.out.up (ba _ _))
  have D1 := Lib.hid (show BlkT 29 W4 w.heap.size h.L by rw [← hW4]; exact C1.out.up (ba _ _))
  have D2 := Lib.hid (show BlkT 29 W4 b2 zeroH.L by rw [← hW4]; exact C2.out.up (ba _ _))
  have D3 := Lib.hid (show Below w.heap.size w W4 by rw [← hW4]; exact bt C3.out (ba _ _))
  have D4 := Lib.hid (show BlkT 25 W4 w3.heap.size f1.L by rw [← hW4]; exact BlkT.new w3 f1.L _)
  clear hW4 P3 C1 C2 C3
  generalize w3.heap.size = b9 at D4 ⊢
  obtain ⟨x0, x1, x2⟩ := feed3 D1.out.blk
  obtain ⟨g0, g1, g2⟩ := cells3 D4.out.blk
  have fz := D1.out.blk.frozen
  go_upto_region 7 with (fail)
  generalize hW5 : World.setCell (World.setCell (World.setCell W4 _ _) _ _) _ _ = W5
  obtain ⟨hB1, hB2, hB3, hP⟩ : BlkT 29 W5 w.heap.size (h.setF 3 f1).L ∧ BlkT 29 W5 b2 zeroH.L ∧ Below w.heap.size w W5 ∧ PushSt w.heap.size W.heap.size W5 f1 a1 k1 vs1 T := by
    rw [← hW5]
    exact ⟨((D1.out.set _ _).set _ _).set _ _, ((D2.out.other B5.out _).other B5.out _).other B5.out _, ((D3.out.setCell (Nat.le_refl _) _).setCell (Nat.le_refl _) _).setCell (Nat.le_refl _) _, ((P4.out.set D1.out (by decide) (Nat.le_refl _) Q1.out _).set (D1.out.set _ _) (by decide) (Nat.le_refl _) Q1.out _).set ((D1.out.set _ _).set _ _) (by decide) (Nat.le_refl _) Q1.out _⟩
  have E1 := Lib.hid hB1
  have E2 := Lib.hid hB2
  have E3 := Lib.hid hB3
  have P5 := Lib.hid hP
  clear hB1 hB2 hB3 hP hW5 x0 x1 x2 g0 g1 g2 fz D1 D2 D3 D4 P4
  go_wp2_with (first
    | (refine wpList_load_blk 29 (.tmp 3) w.heap.size (cs := (h.setF 3 f1).L) rfl rfl rfl E1.out.blk Try.underlying29 rfl HI.out ?_)
    | (refine wpList_store_blk 29 (.tmp 6) (.tmp 34) b2 (old := zeroH.L) (cs := (h.setF 3 f1).L) rfl rfl rfl rfl E2.out.blk HI.out rfl rfl ?_))
  refine bodyPost_ret (results_blk_tmp2 rfl _ _ b2 (cs := (h.setF 3 f1).L) rfl _ _ rfl rfl ((E2.out.row (h.setF 3 f1).L).blk) Try.underlying29 rfl hub_size) rfl ?_
  have P6 := P5.out.row E2.out (by decide) B4.out Q2.out (h.setF 3 f1).L.toArray
  exact ⟨f1, a1, k1, rfl, P6.fd, P6.at, Nat.le_trans P6.own.cap.2.1 P6.own.cap.2.2, below_setRow E3.out B4.out _⟩

theorem hubPush_yes (h : Hv) (s : Nat → Fd) (c : Int) (a : Option Addr) (cap : Nat) (l : List UInt8) (w : World) (hh : HbAt w h s) (hr : ∀ i, i < 4 → rightF (s i) = true) (he : pushE h c = 0) (hl : BytesAt w a l) (hlen : l.length ≤ 1000000000) :
    Calls Try.prog 22 #[h.v, .int .i64 c, .slice a l.length cap] w (HubYes w h c.toNat (runF (s c.toNat) l)) := by
  unfold pushE at he
  rcases hc : isC c with _ | _
  · rw [hc] at he; exact absurd (show (1 : Int) = 0 from he) (by decide)
  · rw [hc] at he
    have hu : h.u c.toNat = true := by
      rcases hq : h.u c.toNat with _ | _
      · rw [hq] at he; exact absurd (show (11 : Int) = 0 from he) (by decide)
      · rfl
    rcases isC_four hc with rfl | rfl | rfl | rfl
    · exact hubPush_yes0 h s a cap l w hh (hr 0 (by decide)) hu hl hlen
    · exact hubPush_yes1 h s a cap l w hh (hr 1 (by decide)) hu hl hlen
    · exact hubPush_yes2 h s a cap l w hh (hr 2 (by decide)) hu hl hlen
    · exact hubPush_yes3 h s a cap l w hh (hr 3 (by decide)) hu hl hlen

set_option maxRecDepth 100000 in
set_option maxHeartbeats 2000000 in
theorem refHubPush_no (h : Hv) (c : Int) (a : Option Addr) (cap n : Nat) (w : World) (he : pushE h c ≠ 0) : Calls Try.prog 23 #[h.v, .int .i64 c, .slice a n cap] w (HubNo w h (pushE h c)) := by
  have HI := Lib.hid hub_size
  obtain ⟨V, hV⟩ : ∃ V, V = pushE h c := ⟨_, rfl⟩
  rw [← hV]
  have HV := Lib.hid hV
  have hV0 : V ≠ 0 := by rw [hV]; exact he
  clear hV he
  rcases hc : isC c with _ | _
  · have HV2 := Lib.hid (show V = 1 by rw [HV.out]; unfold pushE; rw [hc]; rfl)
    clear hV0
    have hc2 : c < 0 ∨ (¬ c < 0 ∧ 3 < c) := by unfold isC at hc; simp at hc; omega
    clear HV hc
    rcases hc2 with h1 | ⟨h1, h2⟩
    all_goals
      go_enter Try.func23, Try.ntmps23
      go_upto_region 1 with (fail)
      generalize hW : World.alloc (World.alloc w _) _ = W
      obtain ⟨hB1, hB2, hB3⟩ : BlkT 29 W w.heap.size h.L ∧ BlkT 29 W (w.heap.size + 1) zeroH.L ∧ Below w.heap.size w W := by rw [← hW]; exact hub_two w h.L zeroH.L
      clear hW
      have B1 := Lib.hid hB1
      have B2 := Lib.hid hB2
      have B3 := Lib.hid hB3
      have B4 := Lib.hid (show w.heap.size ≤ w.heap.size + 1 by omega)
      have B5 := Lib.hid (show w.heap.size + 1 ≠ w.heap.size by omega)
      clear hB1 hB2 hB3
      generalize w.heap.size + 1 = b2 at B2 B4 B5 ⊢
      go_wp2_with (first
        | (refine wpList_load_blk 29 (.tmp 3) w.heap.size (cs := h.L) rfl rfl rfl B1.out.blk Try.underlying29 rfl HI.out ?_)
        | (refine wpList_store_blk 29 (.tmp 6) (.tmp 17) b2 (old := zeroH.L) (cs := h.L) rfl rfl rfl rfl B2.out.blk HI.out rfl rfl ?_))
      refine bodyPost_ret (results_blk_tmp2 rfl _ _ b2 (cs := h.L) rfl _ _ rfl rfl ((B2.out.row h.L).blk) Try.underlying29 rfl hub_size) rfl ?_
      exact ⟨by rw [HV2.out]; rfl, below_setRow B3.out B4.out _⟩
  · have hu : h.u c.toNat = false := by
      rcases hq : h.u c.toNat with _ | _
      · rfl
      · exact (hV0 (by rw [HV.out]; unfold pushE; rw [hc, hq]; rfl)).elim
    have HV2 := Lib.hid (show V = 11 by rw [HV.out]; unfold pushE; rw [hc, hu]; rfl)
    have hc4 := isC_four hc
    clear HV hc hV0
    rcases hc4 with rfl | rfl | rfl | rfl
    all_goals
      first | (have hq3 : h.u 0 = _ := hu) | (have hq3 : h.u 1 = _ := hu) | (have hq3 : h.u 2 = _ := hu) | (have hq3 : h.u 3 = _ := hu)
      have Hq3 := Lib.hid hq3
      clear hu hq3
      go_enter Try.func23, Try.ntmps23
      go_upto_region 1 with (fail)
      generalize hW : World.alloc (World.alloc w _) _ = W
      obtain ⟨hB1, hB2, hB3⟩ : BlkT 29 W w.heap.size h.L ∧ BlkT 29 W (w.heap.size + 1) zeroH.L ∧ Below w.heap.size w W := by rw [← hW]; exact hub_two w h.L zeroH.L
      clear hW
      have B1 := Lib.hid hB1
      have B2 := Lib.hid hB2
      have B3 := Lib.hid hB3
      have B4 := Lib.hid (show w.heap.size ≤ w.heap.size + 1 by omega)
      have B5 := Lib.hid (show w.heap.size + 1 ≠ w.heap.size by omega)
      clear hB1 hB2 hB3
      generalize w.heap.size + 1 = b2 at B2 B4 B5 ⊢
      obtain ⟨u0, u1, u2, u3⟩ := hub_u B1.out.blk
      first | rw [Hq3.out] at u0 | rw [Hq3.out] at u1 | rw [Hq3.out] at u2 | rw [Hq3.out] at u3
      go_wp2_with (first
        | (refine wpList_load_blk 29 (.tmp 3) w.heap.size (cs := h.L) rfl rfl rfl B1.out.blk Try.underlying29 rfl HI.out ?_)
        | (refine wpList_store_blk 29 (.tmp 6) (.tmp 23) b2 (old := zeroH.L) (cs := h.L) rfl rfl rfl rfl B2.out.blk HI.out rfl rfl ?_))
      refine bodyPost_ret (results_blk_tmp2 rfl _ _ b2 (cs := h.L) rfl _ _ rfl rfl ((B2.out.row h.L).blk) Try.underlying29 rfl hub_size) rfl ?_
      exact ⟨by rw [HV2.out]; rfl, below_setRow B3.out B4.out _⟩

set_option maxRecDepth 100000 in
set_option maxHeartbeats 2000000 in
theorem refHubPush_yes0 (h : Hv) (s : Nat → Fd) (a : Option Addr) (cap : Nat) (l : List UInt8) (w : World) (hh : HbAt w h s) (hr : rightF (s 0) = true) (hu : h.u 0 = true) (hl : BytesAt w a l) (hlen : l.length ≤ 1000000000) :
    Calls Try.prog 23 #[h.v, .int .i64 0, .slice a l.length cap] w (HubYes w h 0 (runF (s 0) l)) := by
  have HI := Lib.hid hub_size
  have HP := Lib.hid (fun (W' : World) (hb : Below w.heap.size w W') => refPush_any (h.f 0) (s 0) a cap l W' w.heap.size hb.size ((show KeepAt w.heap.size w (h.f 0).a (B8s (s 0).buf) from AtP.of (hh 0 (by decide)).buf fun b hb => .inl hb).safe (Safe.below (w' := W') (hb))) ((hh 0 (by decide)).mono hb) hr (hl.mono hb) hlen)
  obtain ⟨T, hT⟩ : ∃ T, T = runF (s 0) l := ⟨_, rfl⟩
  rw [← hT] at HP
  rw [← hT]
  have Hu := Lib.hid hu
  clear hT hl hh hr hlen hu
  go_enter Try.func23, Try.ntmps23
  go_upto_region 1 with (fail)
  generalize hW : World.alloc (World.alloc w _) _ = W
  obtain ⟨hB1, hB2, hB3⟩ : BlkT 29 W w.heap.size h.L ∧ BlkT 29 W (w.heap.size + 1) zeroH.L ∧ Below w.heap.size w W := by rw [← hW]; exact hub_two w h.L zeroH.L
  clear hW
  have B1 := Lib.hid hB1
  have B2 := Lib.hid hB2
  have B3 := Lib.hid hB3
  have B4 := Lib.hid (show w.heap.size ≤ w.heap.size + 1 by omega)
  have B5 := Lib.hid (show w.heap.size + 1 ≠ w.heap.size by omega)
  clear hB1 hB2 hB3
  generalize w.heap.size + 1 = b2 at B2 B4 B5 ⊢
  obtain ⟨u0, u1, u2, u3⟩ := hub_u B1.out.blk
  rw [Hu.out] at u0
  have hx := feed0 B1.out.blk
  obtain ⟨x0, x1, x2⟩ := hx
  go_wp2_with fail
  refine (HP.out _ B3.out).mono ?_; rintro e w3 ⟨f1, a1, k1, vs1, rfl, hF1, hK1, hO1, hR1, hb3⟩
  have P3 := Lib.hid (show PushSt w.heap.size W.heap.size w3 f1 a1 k1 vs1 T from ⟨hF1, hK1, hO1, hR1⟩)
  have C1 := Lib.hid (B1.out.up hb3)
  have C2 := Lib.hid (B2.out.up hb3)
  have C3 := Lib.hid (bt B3.out hb3)
  have Q1 := Lib.hid B1.out.blk.lt
  have Q2 := Lib.hid B2.out.blk.lt
  clear hF1 hK1 hO1 hR1 hb3 u0 u1 u2 u3 x0 x1 x2 B1 B2 B3
  go_upto_region 6 with (fail)
  generalize hW4 : World.alloc w3 _ = W4
  have P4 := Lib.hid (show PushSt w.heap.size W.heap.size W4 f1 a1 k1 vs1 T by rw [← hW4]; exact P3.out.up (ba _ _))
  have D1 := Lib.hid (show BlkT 29 W4 w.heap.size h.L by rw [← hW4]; exact C1.out.up (ba _ _))
  have D2 := Lib.hid (show BlkT 29 W4 b2 zeroH.L by rw [← hW4]; exact C2.out.up (ba _ _))
  have D3 := Lib.hid (show Below w.heap.size w W4 by rw [← hW4]; exact bt C3.out (ba _ _))
  have D4 := Lib.hid (show BlkT 25 W4 w3.heap.size f1.L by rw [← hW4]; exact BlkT.new w3 f1.L _)
  clear hW4 P3 C1 C2 C3
  generalize w3.heap.size = b9 at D4 ⊢
  obtain ⟨x0, x1, x2⟩ := feed0 D1.out.blk
  obtain ⟨g0, g1, g2⟩ := cells3 D4.out.blk
  have fz := D1.out.blk.frozen
  go_upto_region 7 with (fail)
  generalize hW5 : World.setCell (World.setCell (World.setCell W4 _ _) _ _) _ _ = W5
  obtain ⟨hB1, hB2, hB3, hP⟩ : BlkT 29 W5 w.heap.size (h.setF 0 f1).L ∧ BlkT 29 W5 b2 zeroH.L ∧ Below w.heap.size w W5 ∧ PushSt w.heap.size W.heap.size W5 f1 a1 k1 vs1 T := by
    rw [← hW5]
    exact ⟨((D1.out.set _ _).set _ _).set _ _, ((D2.out.other B5.out _).other B5.out _).other B5.out _, ((D3.out.setCell (Nat.le_refl _) _).setCell (Nat.le_refl _) _).setCell (Nat.le_refl _) _, ((P4.out.set D1.out (by decide) (Nat.le_refl _) Q1.out _).set (D1.out.set _ _) (by decide) (Nat.le_refl _) Q1.out _).set ((D1.out.set _ _).set _ _) (by decide) (Nat.le_refl _) Q1.out _⟩
  have E1 := Lib.hid hB1
  have E2 := Lib.hid hB2
  have E3 := Lib.hid hB3
  have P5 := Lib.hid hP
  clear hB1 hB2 hB3 hP hW5 x0 x1 x2 g0 g1 g2 fz D1 D2 D3 D4 P4
  go_wp2_with (first
    | (refine wpList_load_blk 29 (.tmp 3) w.heap.size (cs := (h.setF 0 f1).L) rfl rfl rfl E1.out.blk Try.underlying29 rfl HI.out ?_)
    | (refine wpList_store_blk 29 (.tmp 6) (.tmp 37) b2 (old := zeroH.L) (cs := (h.setF 0 f1).L) rfl rfl rfl rfl E2.out.blk HI.out rfl rfl ?_))
  refine bodyPost_ret (results_blk_tmp2 rfl _ _ b2 (cs := (h.setF 0 f1).L) rfl _ _ rfl rfl ((E2.out.row (h.setF 0 f1).L).blk) Try.underlying29 rfl hub_size) rfl ?_
  have P6 := P5.out.row E2.out (by decide) B4.out Q2.out (h.setF 0 f1).L.toArray
  exact ⟨f1, a1, k1, rfl, P6.fd, P6.at, Nat.le_trans P6.own.cap.2.1 P6.own.cap.2.2, below_setRow E3.out B4.out _⟩

set_option maxRecDepth 100000 in
set_option maxHeartbeats 2000000 in
theorem refHubPush_yes1 (h : Hv) (s : Nat → Fd) (a : Option Addr) (cap : Nat) (l : List UInt8) (w : World) (hh : HbAt w h s) (hr : rightF (s 1) = true) (hu : h.u 1 = true) (hl : BytesAt w a l) (hlen : l.length ≤ 1000000000) :
    Calls Try.prog 23 #[h.v, .int .i64 1, .slice a l.length cap] w (HubYes w h 1 (runF (s 1) l)) := by
  have HI := Lib.hid hub_size
  have HP := Lib.hid (fun (W' : World) (hb : Below w.heap.size w W') => refPush_any (h.f 1) (s 1) a cap l W' w.heap.size hb.size ((show KeepAt w.heap.size w (h.f 1).a (B8s (s 1).buf) from AtP.of (hh 1 (by decide)).buf fun b hb => .inl hb).safe (Safe.below (w' := W') (hb))) ((hh 1 (by decide)).mono hb) hr (hl.mono hb) hlen)
  obtain ⟨T, hT⟩ : ∃ T, T = runF (s 1) l := ⟨_, rfl⟩
  rw [← hT] at HP
  rw [← hT]
  have Hu := Lib.hid hu
  clear hT hl hh hr hlen hu
  go_enter Try.func23, Try.ntmps23
  go_upto_region 1 with (fail)
  generalize hW : World.alloc (World.alloc w _) _ = W
  obtain ⟨hB1, hB2, hB3⟩ : BlkT 29 W w.heap.size h.L ∧ BlkT 29 W (w.heap.size + 1) zeroH.L ∧ Below w.heap.size w W := by rw [← hW]; exact hub_two w h.L zeroH.L
  clear hW
  have B1 := Lib.hid hB1
  have B2 := Lib.hid hB2
  have B3 := Lib.hid hB3
  have B4 := Lib.hid (show w.heap.size ≤ w.heap.size + 1 by omega)
  have B5 := Lib.hid (show w.heap.size + 1 ≠ w.heap.size by omega)
  clear hB1 hB2 hB3
  generalize w.heap.size + 1 = b2 at B2 B4 B5 ⊢
  obtain ⟨u0, u1, u2, u3⟩ := hub_u B1.out.blk
  rw [Hu.out] at u1
  have hx := feed1 B1.out.blk
  obtain ⟨x0, x1, x2⟩ := hx
  go_wp2_with fail
  refine (HP.out _ B3.out).mono ?_; rintro e w3 ⟨f1, a1, k1, vs1, rfl, hF1, hK1, hO1, hR1, hb3⟩
  have P3 := Lib.hid (show PushSt w.heap.size W.heap.size w3 f1 a1 k1 vs1 T from ⟨hF1, hK1, hO1, hR1⟩)
  have C1 := Lib.hid (B1.out.up hb3)
  have C2 := Lib.hid (B2.out.up hb3)
  have C3 := Lib.hid (bt B3.out hb3)
  have Q1 := Lib.hid B1.out.blk.lt
  have Q2 := Lib.hid B2.out.blk.lt
  clear hF1 hK1 hO1 hR1 hb3 u0 u1 u2 u3 x0 x1 x2 B1 B2 B3
  go_upto_region 6 with (fail)
  generalize hW4 : World.alloc w3 _ = W4
  have P4 := Lib.hid (show PushSt w.heap.size W.heap.size W4 f1 a1 k1 vs1 T by rw [← hW4]; exact P3.out.up (ba _ _))
  have D1 := Lib.hid (show BlkT 29 W4 w.heap.size h.L by rw [← hW4]; exact C1.out.up (ba _ _))
  have D2 := Lib.hid (show BlkT 29 W4 b2 zeroH.L by rw [← hW4]; exact C2.out.up (ba _ _))
  have D3 := Lib.hid (show Below w.heap.size w W4 by rw [← hW4]; exact bt C3.out (ba _ _))
  have D4 := Lib.hid (show BlkT 25 W4 w3.heap.size f1.L by rw [← hW4]; exact BlkT.new w3 f1.L _)
  clear hW4 P3 C1 C2 C3
  generalize w3.heap.size = b9 at D4 ⊢
  obtain ⟨x0, x1, x2⟩ := feed1 D1.out.blk
  obtain ⟨g0, g1, g2⟩ := cells3 D4.out.blk
  have fz := D1.out.blk.frozen
  go_upto_region 7 with (fail)
  generalize hW5 : World.setCell (World.setCell (World.setCell W4 _ _) _ _) _ _ = W5
  obtain ⟨hB1, hB2, hB3, hP⟩ : BlkT 29 W5 w.heap.size (h.setF 1 f1).L ∧ BlkT 29 W5 b2 zeroH.L ∧ Below w.heap.size w W5 ∧ PushSt w.heap.size W.heap.size W5 f1 a1 k1 vs1 T := by
    rw [← hW5]
    exact ⟨((D1.out.set _ _).set _ _).set _ _, ((D2.out.other B5.out _).other B5.out _).other B5.out _, ((D3.out.setCell (Nat.le_refl _) _).setCell (Nat.le_refl _) _).setCell (Nat.le_refl _) _, ((P4.out.set D1.out (by decide) (Nat.le_refl _) Q1.out _).set (D1.out.set _ _) (by decide) (Nat.le_refl _) Q1.out _).set ((D1.out.set _ _).set _ _) (by decide) (Nat.le_refl _) Q1.out _⟩
  have E1 := Lib.hid hB1
  have E2 := Lib.hid hB2
  have E3 := Lib.hid hB3
  have P5 := Lib.hid hP
  clear hB1 hB2 hB3 hP hW5 x0 x1 x2 g0 g1 g2 fz D1 D2 D3 D4 P4
  go_wp2_with (first
    | (refine wpList_load_blk 29 (.tmp 3) w.heap.size (cs := (h.setF 1 f1).L) rfl rfl rfl E1.out.blk Try.underlying29 rfl HI.out ?_)
    | (refine wpList_store_blk 29 (.tmp 6) (.tmp 37) b2 (old := zeroH.L) (cs := (h.setF 1 f1).L) rfl rfl rfl rfl E2.out.blk HI.out rfl rfl ?_))
  refine bodyPost_ret (results_blk_tmp2 rfl _ _ b2 (cs := (h.setF 1 f1).L) rfl _ _ rfl rfl ((E2.out.row (h.setF 1 f1).L).blk) Try.underlying29 rfl hub_size) rfl ?_
  have P6 := P5.out.row E2.out (by decide) B4.out Q2.out (h.setF 1 f1).L.toArray
  exact ⟨f1, a1, k1, rfl, P6.fd, P6.at, Nat.le_trans P6.own.cap.2.1 P6.own.cap.2.2, below_setRow E3.out B4.out _⟩

set_option maxRecDepth 100000 in
set_option maxHeartbeats 2000000 in
theorem refHubPush_yes2 (h : Hv) (s : Nat → Fd) (a : Option Addr) (cap : Nat) (l : List UInt8) (w : World) (hh : HbAt w h s) (hr : rightF (s 2) = true) (hu : h.u 2 = true) (hl : BytesAt w a l) (hlen : l.length ≤ 1000000000) :
    Calls Try.prog 23 #[h.v, .int .i64 2, .slice a l.length cap] w (HubYes w h 2 (runF (s 2) l)) := by
  have HI := Lib.hid hub_size
  have HP := Lib.hid (fun (W' : World) (hb : Below w.heap.size w W') => refPush_any (h.f 2) (s 2) a cap l W' w.heap.size hb.size ((show KeepAt w.heap.size w (h.f 2).a (B8s (s 2).buf) from AtP.of (hh 2 (by decide)).buf fun b hb => .inl hb).safe (Safe.below (w' := W') (hb))) ((hh 2 (by decide)).mono hb) hr (hl.mono hb) hlen)
  obtain ⟨T, hT⟩ : ∃ T, T = runF (s 2) l := ⟨_, rfl⟩
  rw [← hT] at HP
  rw [← hT]
  have Hu := Lib.hid hu
  clear hT hl hh hr hlen hu
  go_enter Try.func23, Try.ntmps23
  go_upto_region 1 with (fail)
  generalize hW : World.alloc (World.alloc w _) _ = W
  obtain ⟨hB1, hB2, hB3⟩ : BlkT 29 W w.heap.size h.L ∧ BlkT 29 W (w.heap.size + 1) zeroH.L ∧ Below w.heap.size w W := by rw [← hW]; exact hub_two w h.L zeroH.L
  clear hW
  have B1 := Lib.hid hB1
  have B2 := Lib.hid hB2
  have B3 := Lib.hid hB3
  have B4 := Lib.hid (show w.heap.size ≤ w.heap.size + 1 by omega)
  have B5 := Lib.hid (show w.heap.size + 1 ≠ w.heap.size by omega)
  clear hB1 hB2 hB3
  generalize w.heap.size + 1 = b2 at B2 B4 B5 ⊢
  obtain ⟨u0, u1, u2, u3⟩ := hub_u B1.out.blk
  rw [Hu.out] at u2
  have hx := feed2 B1.out.blk
  obtain ⟨x0, x1, x2⟩ := hx
  go_wp2_with fail
  refine (HP.out _ B3.out).mono ?_; rintro e w3 ⟨f1, a1, k1, vs1, rfl, hF1, hK1, hO1, hR1, hb3⟩
  have P3 := Lib.hid (show PushSt w.heap.size W.heap.size w3 f1 a1 k1 vs1 T from ⟨hF1, hK1, hO1, hR1⟩)
  have C1 := Lib.hid (B1.out.up hb3)
  have C2 := Lib.hid (B2.out.up hb3)
  have C3 := Lib.hid (bt B3.out hb3)
  have Q1 := Lib.hid B1.out.blk.lt
  have Q2 := Lib.hid B2.out.blk.lt
  clear hF1 hK1 hO1 hR1 hb3 u0 u1 u2 u3 x0 x1 x2 B1 B2 B3
  go_upto_region 6 with (fail)
  generalize hW4 : World.alloc w3 _ = W4
  have P4 := Lib.hid (show PushSt w.heap.size W.heap.size W4 f1 a1 k1 vs1 T by rw [← hW4]; exact P3.out.up (ba _ _))
  have D1 := Lib.hid (show BlkT 29 W4 w.heap.size h.L by rw [← hW4]; exact C1.out.up (ba _ _))
  have D2 := Lib.hid (show BlkT 29 W4 b2 zeroH.L by rw [← hW4]; exact C2.out.up (ba _ _))
  have D3 := Lib.hid (show Below w.heap.size w W4 by rw [← hW4]; exact bt C3.out (ba _ _))
  have D4 := Lib.hid (show BlkT 25 W4 w3.heap.size f1.L by rw [← hW4]; exact BlkT.new w3 f1.L _)
  clear hW4 P3 C1 C2 C3
  generalize w3.heap.size = b9 at D4 ⊢
  obtain ⟨x0, x1, x2⟩ := feed2 D1.out.blk
  obtain ⟨g0, g1, g2⟩ := cells3 D4.out.blk
  have fz := D1.out.blk.frozen
  go_upto_region 7 with (fail)
  generalize hW5 : World.setCell (World.setCell (World.setCell W4 _ _) _ _) _ _ = W5
  obtain ⟨hB1, hB2, hB3, hP⟩ : BlkT 29 W5 w.heap.size (h.setF 2 f1).L ∧ BlkT 29 W5 b2 zeroH.L ∧ Below w.heap.size w W5 ∧ PushSt w.heap.size W.heap.size W5 f1 a1 k1 vs1 T := by
    rw [← hW5]
    exact ⟨((D1.out.set _ _).set _ _).set _ _, ((D2.out.other B5.out _).other B5.out _).other B5.out _, ((D3.out.setCell (Nat.le_refl _) _).setCell (Nat.le_refl _) _).setCell (Nat.le_refl _) _, ((P4.out.set D1.out (by decide) (Nat.le_refl _) Q1.out _).set (D1.out.set _ _) (by decide) (Nat.le_refl _) Q1.out _).set ((D1.out.set _ _).set _ _) (by decide) (Nat.le_refl _) Q1.out _⟩
  have E1 := Lib.hid hB1
  have E2 := Lib.hid hB2
  have E3 := Lib.hid hB3
  have P5 := Lib.hid hP
  clear hB1 hB2 hB3 hP hW5 x0 x1 x2 g0 g1 g2 fz D1 D2 D3 D4 P4
  go_wp2_with (first
    | (refine wpList_load_blk 29 (.tmp 3) w.heap.size (cs := (h.setF 2 f1).L) rfl rfl rfl E1.out.blk Try.underlying29 rfl HI.out ?_)
    | (refine wpList_store_blk 29 (.tmp 6) (.tmp 37) b2 (old := zeroH.L) (cs := (h.setF 2 f1).L) rfl rfl rfl rfl E2.out.blk HI.out rfl rfl ?_))
  refine bodyPost_ret (results_blk_tmp2 rfl _ _ b2 (cs := (h.setF 2 f1).L) rfl _ _ rfl rfl ((E2.out.row (h.setF 2 f1).L).blk) Try.underlying29 rfl hub_size) rfl ?_
  have P6 := P5.out.row E2.out (by decide) B4.out Q2.out (h.setF 2 f1).L.toArray
  exact ⟨f1, a1, k1, rfl, P6.fd, P6.at, Nat.le_trans P6.own.cap.2.1 P6.own.cap.2.2, below_setRow E3.out B4.out _⟩

set_option maxRecDepth 100000 in
set_option maxHeartbeats 2000000 in
theorem refHubPush_yes3 (h : Hv) (s : Nat → Fd) (a : Option Addr) (cap : Nat) (l : List UInt8) (w : World) (hh : HbAt w h s) (hr : rightF (s 3) = true) (hu : h.u 3 = true) (hl : BytesAt w a l) (hlen : l.length ≤ 1000000000) :
    Calls Try.prog 23 #[h.v, .int .i64 3, .slice a l.length cap] w (HubYes w h 3 (runF (s 3) l)) := by
  have HI := Lib.hid hub_size
  have HP := Lib.hid (fun (W' : World) (hb : Below w.heap.size w W') => refPush_any (h.f 3) (s 3) a cap l W' w.heap.size hb.size ((show KeepAt w.heap.size w (h.f 3).a (B8s (s 3).buf) from AtP.of (hh 3 (by decide)).buf fun b hb => .inl hb).safe (Safe.below (w' := W') (hb))) ((hh 3 (by decide)).mono hb) hr (hl.mono hb) hlen)
  obtain ⟨T, hT⟩ : ∃ T, T = runF (s 3) l := ⟨_, rfl⟩
  rw [← hT] at HP
  rw [← hT]
  have Hu := Lib.hid hu
  clear hT hl hh hr hlen hu
  go_enter Try.func23, Try.ntmps23
  go_upto_region 1 with (fail)
  generalize hW : World.alloc (World.alloc w _) _ = W
  obtain ⟨hB1, hB2, hB3⟩ : BlkT 29 W w.heap.size h.L ∧ BlkT 29 W (w.heap.size + 1) zeroH.L ∧ Below w.heap.size w W := by rw [← hW]; exact hub_two w h.L zeroH.L
  clear hW
  have B1 := Lib.hid hB1
  have B2 := Lib.hid hB2
  have B3 := Lib.hid hB3
  have B4 := Lib.hid (show w.heap.size ≤ w.heap.size + 1 by omega)
  have B5 := Lib.hid (show w.heap.size + 1 ≠ w.heap.size by omega)
  clear hB1 hB2 hB3
  generalize w.heap.size + 1 = b2 at B2 B4 B5 ⊢
  obtain ⟨u0, u1, u2, u3⟩ := hub_u B1.out.blk
  rw [Hu.out] at u3
  have hx := feed3 B1.out.blk
  obtain ⟨x0, x1, x2⟩ := hx
  go_wp2_with fail
  refine (HP.out _ B3.out).mono ?_; rintro e w3 ⟨f1, a1, k1, vs1, rfl, hF1, hK1, hO1, hR1, hb3⟩
  have P3 := Lib.hid (show PushSt w.heap.size W.heap.size w3 f1 a1 k1 vs1 T from ⟨hF1, hK1, hO1, hR1⟩)
  have C1 := Lib.hid (B1.out.up hb3)
  have C2 := Lib.hid (B2.out.up hb3)
  have C3 := Lib.hid (bt B3.out hb3)
  have Q1 := Lib.hid B1.out.blk.lt
  have Q2 := Lib.hid B2.out.blk.lt
  clear hF1 hK1 hO1 hR1 hb3 u0 u1 u2 u3 x0 x1 x2 B1 B2 B3
  go_upto_region 6 with (fail)
  generalize hW4 : World.alloc w3 _ = W4
  have P4 := Lib.hid (show PushSt w.heap.size W.heap.size W4 f1 a1 k1 vs1 T by rw [← hW4]; exact P3.out.up (ba _ _))
  have D1 := Lib.hid (show BlkT 29 W4 w.heap.size h.L by rw [← hW4]; exact C1.out.up (ba _ _))
  have D2 := Lib.hid (show BlkT 29 W4 b2 zeroH.L by rw [← hW4]; exact C2.out.up (ba _ _))
  have D3 := Lib.hid (show Below w.heap.size w W4 by rw [← hW4]; exact bt C3.out (ba _ _))
  have D4 := Lib.hid (show BlkT 25 W4 w3.heap.size f1.L by rw [← hW4]; exact BlkT.new w3 f1.L _)
  clear hW4 P3 C1 C2 C3
  generalize w3.heap.size = b9 at D4 ⊢
  obtain ⟨x0, x1, x2⟩ := feed3 D1.out.blk
  obtain ⟨g0, g1, g2⟩ := cells3 D4.out.blk
  have fz := D1.out.blk.frozen
  go_upto_region 7 with (fail)
  generalize hW5 : World.setCell (World.setCell (World.setCell W4 _ _) _ _) _ _ = W5
  obtain ⟨hB1, hB2, hB3, hP⟩ : BlkT 29 W5 w.heap.size (h.setF 3 f1).L ∧ BlkT 29 W5 b2 zeroH.L ∧ Below w.heap.size w W5 ∧ PushSt w.heap.size W.heap.size W5 f1 a1 k1 vs1 T := by
    rw [← hW5]
    exact ⟨((D1.out.set _ _).set _ _).set _ _, ((D2.out.other B5.out _).other B5.out _).other B5.out _, ((D3.out.setCell (Nat.le_refl _) _).setCell (Nat.le_refl _) _).setCell (Nat.le_refl _) _, ((P4.out.set D1.out (by decide) (Nat.le_refl _) Q1.out _).set (D1.out.set _ _) (by decide) (Nat.le_refl _) Q1.out _).set ((D1.out.set _ _).set _ _) (by decide) (Nat.le_refl _) Q1.out _⟩
  have E1 := Lib.hid hB1
  have E2 := Lib.hid hB2
  have E3 := Lib.hid hB3
  have P5 := Lib.hid hP
  clear hB1 hB2 hB3 hP hW5 x0 x1 x2 g0 g1 g2 fz D1 D2 D3 D4 P4
  go_wp2_with (first
    | (refine wpList_load_blk 29 (.tmp 3) w.heap.size (cs := (h.setF 3 f1).L) rfl rfl rfl E1.out.blk Try.underlying29 rfl HI.out ?_)
    | (refine wpList_store_blk 29 (.tmp 6) (.tmp 37) b2 (old := zeroH.L) (cs := (h.setF 3 f1).L) rfl rfl rfl rfl E2.out.blk HI.out rfl rfl ?_))
  refine bodyPost_ret (results_blk_tmp2 rfl _ _ b2 (cs := (h.setF 3 f1).L) rfl _ _ rfl rfl ((E2.out.row (h.setF 3 f1).L).blk) Try.underlying29 rfl hub_size) rfl ?_
  have P6 := P5.out.row E2.out (by decide) B4.out Q2.out (h.setF 3 f1).L.toArray
  exact ⟨f1, a1, k1, rfl, P6.fd, P6.at, Nat.le_trans P6.own.cap.2.1 P6.own.cap.2.2, below_setRow E3.out B4.out _⟩

theorem refHubPush_yes (h : Hv) (s : Nat → Fd) (c : Int) (a : Option Addr) (cap : Nat) (l : List UInt8) (w : World) (hh : HbAt w h s) (hr : ∀ i, i < 4 → rightF (s i) = true) (he : pushE h c = 0) (hl : BytesAt w a l) (hlen : l.length ≤ 1000000000) :
    Calls Try.prog 23 #[h.v, .int .i64 c, .slice a l.length cap] w (HubYes w h c.toNat (runF (s c.toNat) l)) := by
  unfold pushE at he
  rcases hc : isC c with _ | _
  · rw [hc] at he; exact absurd (show (1 : Int) = 0 from he) (by decide)
  · rw [hc] at he
    have hu : h.u c.toNat = true := by
      rcases hq : h.u c.toNat with _ | _
      · rw [hq] at he; exact absurd (show (11 : Int) = 0 from he) (by decide)
      · rfl
    rcases isC_four hc with rfl | rfl | rfl | rfl
    · exact refHubPush_yes0 h s a cap l w hh (hr 0 (by decide)) hu hl hlen
    · exact refHubPush_yes1 h s a cap l w hh (hr 1 (by decide)) hu hl hlen
    · exact refHubPush_yes2 h s a cap l w hh (hr 2 (by decide)) hu hl hlen
    · exact refHubPush_yes3 h s a cap l w hh (hr 3 (by decide)) hu hl hlen
end Go.Proofs.Ytcccgjpmfbmplaa
