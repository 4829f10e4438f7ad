/- The walk of the law ProvAlike. -/
import Derived.Test.YthmcmkdncaccbaaDoorPrT
import Derived.Test.YthmcmkdncaccbaaDoorPrJ
import Derived.Test.YthmcmkdncaccbaaDoorReq
set_option linter.unusedSimpArgs false
set_option linter.unusedVariables false
namespace Go.Proofs.YthmcmkdncaccbaaDoor
open Go.RowKit

theorem GivP.rowX {p : Nat → Prop} {w : World} {a : Option Addr} {gs : List (List UInt8)} {z : Nat} {x y : Bool} {q : Option Addr} {n c : Nat} (h : GivP p w a gs) (hp : ∀ g, p g → g ≠ z) (hz : Blk w z [.bool x, .slice q n c, .bool y]) (ds : Array Value) : GivP p (w.setRow z ds) a gs := by
  obtain ⟨vs, h1, h2⟩ := h
  exact ⟨vs, h1.to (by simp) fun g hl hq => ⟨setRow_other w z g ds (hp g hq), hq⟩, h2.keep hz (KeepB.row (Below.refl _ _) ds)⟩
/-- the questions -/
def QnsAt (w : World) (la : Option Addr) (qs : List Qn) : Prop := ∀ k, k < qs.length → ∃ g off, la = some ⟨g, off, none⟩ ∧ g < w.heap.size ∧ QnAt w g (off + k * 4) (qs.getD k default)
theorem QnsAt.of {w : World} {la : Option Addr} {n c : Nat} {qs : List Qn} (h : InQns w la n c qs) : QnsAt w la qs := fun k hk => by
  obtain ⟨-, -, -, h⟩ := h
  rcases h with rfl | ⟨g, off, rfl, hg, hc⟩
  · simp at hk
  · exact ⟨g, off, rfl, hg, hc k hk⟩
theorem QnAt.up {w w' : World} {g o : Nat} {q : Qn} (h : QnAt w g o q) (hg : g < w.heap.size) (hb : Below w.heap.size w w') : QnAt w' g o q := by
  obtain ⟨p, c, h0, h1, h2, h3, h4, h5, h6⟩ := h
  exact ⟨p, c, by rw [hb.cell (p := ⟨g, o, none⟩) hg]; exact h0, by rw [hb.cell (p := ⟨g, o + 1, none⟩) hg]; exact h1, by rw [hb.cell (p := ⟨g, o + 2, none⟩) hg]; exact h2, by rw [hb.cell (p := ⟨g, o + 3, none⟩) hg]; exact h3, h4, h5, h6.mono hb⟩
theorem range4 {w : World} {g o : Nat} {v0 v1 v2 v3 : Value} (h0 : w.cell? ⟨g, o, none⟩ = some v0) (h1 : w.cell? ⟨g, o + 1, none⟩ = some v1) (h2 : w.cell? ⟨g, o + 2, none⟩ = some v2) (h3 : w.cell? ⟨g, o + 3, none⟩ = some v3) : w.rangeAt g o [v0, v1, v2, v3] := by
  intro j v hv
  match j, hv with
  | 0, hv => cases hv; exact h0
  | 1, hv => cases hv; exact h1
  | 2, hv => cases hv; exact h2
  | 3, hv => cases hv; exact h3
  | j + 4, hv => simp at hv
/-- whoever is asked the same answers the same -/
theorem ask_alike (f : Bool) (es : List Ent) (gs : List (List UInt8)) (q : Qn) (h : askF f es gs q = false) : askY true es gs q = askY false es gs q := by
  unfold askY askF at *
  split
  · rfl
  · rename_i h0
    rw [if_neg h0] at h
    unfold chkF at h
    unfold chkY
    cases he : (rightT [q.key % 3] [q.b % 3] == askTag q gs) with
    | false => rfl
    | true =>
      cases hd : hadF es [q.key % 3] [q.b % 3] with
      | false => rw [he, hd] at h; simp at h
      | true => rfl
theorem ne_nil16 {gs : List (List UInt8)} (h : ∀ r ∈ gs, r.length = 16) : ∀ r ∈ gs, r ≠ [] := fun r hr e => by have := h r hr; rw [e] at this; simp at this
abbrev two (b4 b5 : Nat) : Nat → Prop := fun g => g ≠ b4 ∧ g ≠ b5
/-- what stands at the head of a round -/
def AlkAt (w0 : World) (n : Nat) (b4 b5 : Nat) (v6 v7 v8 : Value) (wx : World) : Prop := ∃ (k : Nat) (f : Bool) (es : List Ent) (gs : List (List UInt8)) (a1 : Option Addr) (c1 : Nat) (a2 : Option Addr) (c2 : Nat) (ga : Option Addr) (gc : Nat) (ha : Option Addr) (hc : Nat), k ≤ n ∧ v8 = .int .i64 (k : Int) ∧ v6 = .slice ga gs.length gc ∧ v7 = .slice ha gs.length hc ∧ BlkT 24 wx b4 (prL true a1 es.length c1 f) ∧ BlkT 24 wx b5 (prL false a2 es.length c2 f) ∧ PrF wx a1 es.length c1 es ∧ PrF wx a2 es.length c2 es ∧ GivP (two b4 b5) wx ga gs ∧ GivP (two b4 b5) wx ha gs ∧ (∀ r ∈ gs, r.length = 16) ∧ (es.length ≤ k ∧ gs.length ≤ k) ∧ Below w0.heap.size w0 wx

set_option maxRecDepth 100000 in
set_option maxHeartbeats 8000000 in
theorem provAlike_any (la : Option Addr) (lc : Nat) (qs : List Qn) (w : World) (hQ : QnsAt w la qs) (hlm : qs.length ≤ maxLen) (hk : KeysAt w) :
    Calls Tryd.prog 4 #[.slice la qs.length lc] w (BoolOut w true) := by
  have HI := Lib.hid prov_size
  have HM := Lib.hid (show 100 ≤ maxLen by decide)
  have Hsh := Lib.hid (fun W (h : Below w.heap.size w W) => shown04 W (hk.mono h))
  have HK := Lib.hid hk
  have HQ := Lib.hid hQ
  clear hk hQ
  obtain ⟨n, hn⟩ : ∃ n, n = qs.length := ⟨_, rfl⟩
  have Hn := Lib.hid hn
  rw [← hn] at hlm ⊢
  clear hn
  have G := Lib.hid (Below.refl w.heap.size w)
  go_enter Tryd.func4, Tryd.ntmps4
  go_wp2_with fail
  refine (Hsh.out _ G.out).mono ?_; rintro e y1 ⟨rfl, hb⟩
  replace G := Lib.hid (bt G.out hb)
  clear hb
  by_cases h20 : (20 : Int) < (n : Int)
  · go_wp2_with fail
    go_ret
    exact ⟨rfl, G.out⟩
  have L20 := Lib.hid (show n ≤ 20 by omega)
  go_upto_region 4 with (fail)
  clear h20 Hsh
  go_cut [4] (fun v4 wx => ∃ b4 : Nat, v4 = .pointer (some ⟨b4, 0, none⟩) ∧ BlkT 24 wx b4 (prL true none 0 0 false) ∧ w.heap.size ≤ b4 ∧ Below w.heap.size w wx)
  case first =>
    go_wp2_with fail
    refine (new04_any true _).mono ?_; rintro e wn ⟨rfl, hb⟩
    go_wp2_with (refine wpList_store_blk 24 (.tmp 4) (.tmp 20) _ (old := zeroP) (cs := (prL true none 0 0 false)) rfl rfl rfl rfl (Blk.new _ _ _) HI.out rfl rfl ?_)
    go_meet
    exact ⟨_, rfl, layP_blk _ _ _ _, Nat.le_trans G.out.size hb.size, (bt G.out (bt hb (layP_below _ _ _ _)))⟩
  case rest =>
    obtain ⟨b4, rfl, hB4, hLow4, hG⟩ := hcut
    have B4 := Lib.hid hB4
    have Low4 := Lib.hid hLow4
    replace G := Lib.hid hG
    clear hB4 hLow4 hG
    go_upto_region 5 with (fail)
    have L4 := Lib.hid B4.out.blk.lt
    have G4 := Lib.hid G.out
    obtain ⟨w4, hw4⟩ : ∃ w4, w4 = wc := ⟨_, rfl⟩
    rw [← hw4] at L4 G4
    have X4 := Lib.hid (show Below w4.heap.size w4 wc by rw [hw4]; exact Below.refl _ _)
    clear hw4
    have G0 := Lib.hid G.out
    clear G
    have G := Lib.hid X4.out
    clear X4
    go_cut [5] (fun v5 wx => ∃ b5 : Nat, v5 = .pointer (some ⟨b5, 0, none⟩) ∧ BlkT 24 wx b5 (prL false none 0 0 false) ∧ w4.heap.size ≤ b5 ∧ BlkT 24 wx b4 (prL true none 0 0 false) ∧ Below w4.heap.size w4 wx ∧ Below w.heap.size w wx)
    case first =>
      go_wp2_with fail
      refine (new04_any false _).mono ?_; rintro e wn ⟨rfl, hb⟩
      go_wp2_with (refine wpList_store_blk 24 (.tmp 5) (.tmp 21) _ (old := zeroP) (cs := (prL false none 0 0 false)) rfl rfl rfl rfl (Blk.new _ _ _) HI.out rfl rfl ?_)
      go_meet
      exact ⟨_, rfl, layP_blk _ _ _ _, Nat.le_trans G.out.size hb.size, (B4.out.up (bt hb (layP_below _ _ _ _))), (bt G.out (bt hb (layP_below _ _ _ _))), (bt G0.out (bt hb (layP_below _ _ _ _)))⟩
    case rest =>
      obtain ⟨b5, rfl, hB5, hLow5, hB4, hG, hG0⟩ := hcut
      have B5 := Lib.hid hB5
      have Low5 := Lib.hid hLow5
      replace B4 := Lib.hid hB4
      replace G := Lib.hid hG
      replace G0 := Lib.hid hG0
      clear hB5 hLow5 hB4 hG hG0
      have N45 := Lib.hid (Nat.ne_of_lt (Nat.lt_of_lt_of_le L4.out Low5.out))
      have Lw5 := Lib.hid (Nat.le_trans G4.out.size Low5.out)
      clear G
      have G := Lib.hid G0.out
      clear G0 L4 G4 Low5
      go_wp2_with fail
      go_loopw [6, 7, 8] (fun v6 v7 v8 wx => AlkAt w n b4 b5 v6 v7 v8 wx) (fun _ _ v8 _ => n - (intOf v8).toNat)
      case atStart => exact ⟨0, false, [], [], none, 0, none, 0, _, 0, _, 0, Nat.zero_le _, rfl, rfl, rfl, (B4.out.up (ba _ _)).up (ba _ _), (B5.out.up (ba _ _)).up (ba _ _), PrF.zero _, PrF.zero _, GivP.nil _ _ _, GivP.nil _ _ _, by simp, ⟨Nat.zero_le _, Nat.zero_le _⟩, bta (bta G.out _) _⟩
      case round =>
        clear B4 B5 G
        obtain ⟨k, f, es, gs, a1, c1, a2, c2, ga, gc, ha, hc, hkn, rfl, rfl, rfl, h4, h5, hp1, hp2, hg1, hg2, h16, ⟨hel, hgl⟩, hb⟩ := hrel
        have B4 := Lib.hid h4
        have B5 := Lib.hid h5
        have P1 := Lib.hid hp1
        have P2 := Lib.hid hp2
        have V1 := Lib.hid hg1
        have V2 := Lib.hid hg2
        have H16 := Lib.hid h16
        have HL := Lib.hid (And.intro hel hgl)
        have G := Lib.hid hb
        clear h4 h5 hp1 hp2 hg1 hg2 h16 hel hgl hb
        by_cases hlt : k < n
        · obtain ⟨g, off, rfl, hgw0, hq0⟩ := HQ.out k (by rw [← Hn.out]; exact hlt)
          have hgw : g < wr.heap.size := Nat.lt_of_lt_of_le hgw0 G.out.size
          have hqr := hq0.up hgw0 G.out
          generalize qs.getD k default = q at hqr hq0
          clear hq0
          have HE := Lib.hid (show (askEs q es).length ≤ k + 1 by have := askEs_le q es; have := HL.out.1; omega)
          have HS := Lib.hid (show (askGs q gs).length ≤ k + 1 by have := askGs_len q gs; have := HL.out.2; omega)
          have H162 := Lib.hid (askGs_16 q H16.out)
          have HY := Lib.hid (ask_alike f es gs q)
          have K1 := Lib.hid (fun (a0 : Option Addr) (c : Nat) (gx : Option Addr) (gxc : Nat) (tp : Option Addr) (tc : Nat) W (hb : Below wr.heap.size wr W) (p1 : PrF W a0 es.length c es) (v1 : GivP (two b4 b5) W gx gs) (ht : BytesAt W tp q.tag) (htl : q.tag.length ≤ 60) (hlow : ∀ x, W.heap.size ≤ x → two b4 b5 x) => asked_any (i := true) (f := f) (tc := tc) (gc := gxc) q p1 (HK.out.mono (bt G.out hb)) ht htl v1 hlow H16.out (by have := HL.out.2; have := L20.out; omega) (by have := HL.out.1; have := L20.out; omega))
          have K2 := Lib.hid (fun (a0 : Option Addr) (c : Nat) (gx : Option Addr) (gxc : Nat) (tp : Option Addr) (tc : Nat) W (hb : Below wr.heap.size wr W) (p1 : PrF W a0 es.length c es) (v1 : GivP (two b4 b5) W gx gs) (ht : BytesAt W tp q.tag) (htl : q.tag.length ≤ 60) (hlow : ∀ x, W.heap.size ≤ x → two b4 b5 x) => asked_any (i := false) (f := f) (tc := tc) (gc := gxc) q p1 (HK.out.mono (bt G.out hb)) ht htl v1 hlow H16.out (by have := HL.out.2; have := L20.out; omega) (by have := HL.out.1; have := L20.out; omega))
          unfold AskedOut at K1 K2
          have HR := Lib.hid (fun (x y : Option Addr) (cx cy : Nat) W (p : RowsAt W x (askGs q gs)) (r : RowsAt W y (askGs q gs)) => (show Calls Tryd.prog 23 #[.slice x (askGs q gs).length cx, .slice y (askGs q gs).length cy] W (BoolOut W true) from
            (rowsEq_any x y cx cy _ _ (by have := HS.out; have := L20.out; unfold maxLen; omega) (by have := HS.out; have := L20.out; unfold maxLen; omega) W p r).mono fun e w' ⟨p, q⟩ => ⟨by rw [p]; simp, q⟩))
          obtain ⟨tp, tc, q0, q1, q2, q3, -, -, ht⟩ := hqr
          have HT := Lib.hid ht
          have RQ := Lib.hid (range4 q0 q1 q2 q3)
          generalize askEs q es = es2 at *
          generalize askGs q gs = gs2 at *
          generalize askF f es gs q = f2 at *
          generalize askY true es gs q = y1' at *
          generalize askY false es gs q = y2' at *
          have hk0 : (0 : Int) ≤ (k : Int) := by omega
          have hk1 : (k : Int) < (n : Int) := by omega
          clear ht q0 q1 q2
          generalize htl : q.tag.length = tl at *
          clear htl
          by_cases h60 : (60 : Int) < (tl : Int)
          · go_wp2_with fail
            go_ret
            exact ⟨rfl, G.out⟩
          have L60 := Lib.hid (show tl ≤ 60 by omega)
          have Lb := Lib.hid (And.intro B4.out.blk.lt B5.out.blk.lt)
          go_upto_region 13 with (fail)
          clear q3 h60
          refine alike13_law (Nat.le_refl _) rfl rfl rfl rfl hlt B4.out RQ.out hgw (ne_nil16 H162.out) (fun W h => K1.out a1 c1 ga gc tp tc W h (P1.out.up h) (V1.out.up h) (HT.out.mono h) L60.out (fun x hx => ⟨by have := Lb.out.1; have := h.size; omega, by have := Lb.out.2; have := h.size; omega⟩)) (fun _ _ d _ _ h => by cases d <;> exact h) ?_
          intro x0 x1 x2 x3 x4 x5 x6 x7 x8 x9 x10 a3 c3 gb gbc b9 u hZ hz hV hG hb
          simp only [fill, Act.put, List.setIfInBounds_toArray, List.set_cons_zero, List.set_cons_succ]
          have B9 := Lib.hid hZ
          have P3 := Lib.hid hV
          have V3 := Lib.hid hG
          have Hb := Lib.hid hb
          have N9 := Lib.hid (show b4 ≠ b9 ∧ b5 ≠ b9 from ⟨by have := Lb.out.1; omega, by have := Lb.out.2; omega⟩)
          replace B4 := Lib.hid (B4.out.up hb)
          replace B5 := Lib.hid (B5.out.up hb)
          replace P2 := Lib.hid (P2.out.up hb)
          replace V2 := Lib.hid (V2.out.up hb)
          replace HT := Lib.hid (HT.out.mono hb)
          replace RQ := Lib.hid (range_up RQ.out hgw hb)
          replace G := Lib.hid (bt G.out hb)
          have hgu : g < u.heap.size := Nat.lt_of_lt_of_le hgw hb.size
          clear hZ hz hV hG hb P1 V1 K1 hgw
          go_upto_region 14 with (fail)
          refine alike14_law (Nat.le_refl _) rfl rfl rfl rfl hlt B5.out RQ.out hgu (ne_nil16 H162.out) (fun W h => K2.out a2 c2 ha hc tp tc W (bt Hb.out h) (P2.out.up h) (V2.out.up h) (HT.out.mono h) L60.out (fun x hx => ⟨by have := Lb.out.1; have := Hb.out.size; have := h.size; omega, by have := Lb.out.2; have := Hb.out.size; have := h.size; omega⟩)) (fun _ _ d _ _ h => by cases d <;> exact h) ?_
          intro z0 z1 z2 z3 z4 z5 z6 z7 z8 z9 z10 a4 c4 gd gdc b12 u2 hZ hz hV hG hb
          simp only [fill, Act.put, List.setIfInBounds_toArray, List.set_cons_zero, List.set_cons_succ]
          have B12 := Lib.hid hZ
          have P4 := Lib.hid hV
          have V4 := Lib.hid hG
          have N12 := Lib.hid (show b4 ≠ b12 ∧ b5 ≠ b12 from ⟨by have := Lb.out.1; have := Hb.out.size; omega, by have := Lb.out.2; have := Hb.out.size; omega⟩)
          replace B4 := Lib.hid (B4.out.up hb)
          replace B5 := Lib.hid (B5.out.up hb)
          replace B9 := Lib.hid (B9.out.up hb)
          replace P3 := Lib.hid (P3.out.up hb)
          replace V3 := Lib.hid (V3.out.up hb)
          replace G := Lib.hid (bt G.out hb)
          clear hZ hz hV hG hb P2 V2 K2 hgu HT RQ Hb Lb
          go_upto_region 15 with (fail)
          obtain ⟨g0, g1, g2⟩ := cells3P B9.out.blk
          obtain ⟨g4, g5, g6⟩ := cells3P B12.out.blk
          generalize hE2 : es2.length = e2 at *
          have HE2 := Lib.hid hE2
          clear hE2
          generalize hS2 : gs2.length = s2 at *
          have HS2 := Lib.hid hS2
          clear hS2
          rcases f2 with _ | _
          rotate_left
          case' true => skip
          case' false => obtain rfl := HY.out rfl
          all_goals
            clear HY
            go_wp2_with fail
            refine (HR.out gb gd gbc gdc _ V3.out.rows V4.out.rows).mono ?_; rintro e u3 ⟨rfl, hb⟩
            clear g0 g1 g2 g4 g5 g6
            replace B4 := Lib.hid (B4.out.up hb)
            replace B5 := Lib.hid (B5.out.up hb)
            replace B9 := Lib.hid (B9.out.up hb)
            replace B12 := Lib.hid (B12.out.up hb)
            replace P3 := Lib.hid (P3.out.up hb)
            replace P4 := Lib.hid (P4.out.up hb)
            replace V3 := Lib.hid (V3.out.up hb)
            replace V4 := Lib.hid (V4.out.up hb)
            replace G := Lib.hid (bt G.out hb)
            clear hb HR
            obtain ⟨g0, g1, g2⟩ := cells3P B9.out.blk
            obtain ⟨g4, g5, g6⟩ := cells3P B12.out.blk
            go_upto_region 17 with (fail)
            clear g0 g1 g2 g4 g5 g6
            have n45 := Ne.symm N45.out
            go_wp2_with (first
              | (refine wpList_load_blk 24 (.tmp 9) b9 rfl rfl rfl B9.out.blk Tryd.underlying24 rfl HI.out ?_)
              | (refine wpList_store_blk 24 (.tmp 4) (.tmp 90) b4 (cs := prL true a3 e2 c3 true) rfl rfl rfl rfl B4.out.blk HI.out rfl rfl ?_)
              | (refine wpList_store_blk 24 (.tmp 4) (.tmp 90) b4 (cs := prL true a3 e2 c3 false) rfl rfl rfl rfl B4.out.blk HI.out rfl rfl ?_)
              | (refine wpList_load_blk 24 (.tmp 12) b12 rfl rfl rfl (B12.out.rowOther b4 (Ne.symm N12.out.1) _).blk Tryd.underlying24 rfl HI.out ?_)
              | (refine wpList_store_blk 24 (.tmp 5) (.tmp 91) b5 (cs := prL false a4 e2 c4 true) rfl rfl rfl rfl (B5.out.rowOther b4 n45 _).blk HI.out rfl rfl ?_)
              | (refine wpList_store_blk 24 (.tmp 5) (.tmp 91) b5 (cs := prL false a4 e2 c4 false) rfl rfl rfl rfl (B5.out.rowOther b4 n45 _).blk HI.out rfl rfl ?_))
            refine ⟨⟨k + 1, _, es2, gs2, a3, c3, a4, c4, gb, gbc, gd, gdc, hlt, by go_num, by rw [HS2.out], by rw [HS2.out], by rw [HE2.out]; exact (B4.out.row _).rowOther b5 N45.out _, by rw [HE2.out]; exact (B5.out.rowOther b4 n45 _).row _, by rw [HE2.out]; exact (P3.out.rowP B4.out.blk _).rowP (B5.out.rowOther b4 n45 _).blk _, by rw [HE2.out]; exact (P4.out.rowP B4.out.blk _).rowP (B5.out.rowOther b4 n45 _).blk _, (V3.out.rowX (fun g h => h.1) B4.out.blk _).rowX (fun g h => h.2) (B5.out.rowOther b4 n45 _).blk _, (V4.out.rowX (fun g h => h.1) B4.out.blk _).rowX (fun g h => h.2) (B5.out.rowOther b4 n45 _).blk _, H162.out, ⟨by rw [HE2.out]; exact HE.out, by rw [HS2.out]; exact HS.out⟩, below_setRow (below_setRow G.out Low4.out _) Lw5.out _⟩, ?_⟩
            simp [intOf]
            omega
        · have hlt0 : ¬ (k : Int) < (n : Int) := by omega
          go_wp2_with fail
          go_ret
          exact ⟨rfl, G.out⟩
theorem provAlike_in (hsh : Shown04OK) (w : World) (hk : KeysAt w) (a : Option Addr) (n c : Nat) (qs : List Qn) (h : InQns w a n c qs) :
    Calls Tryd.prog 4 #[.slice a n c] w (BoolOut w true) := by
  have h2 := QnsAt.of h
  obtain ⟨rfl, p1, p2, -⟩ := h
  exact provAlike_any a c qs w h2 (Nat.le_trans p1 p2) hk
end Go.Proofs.YthmcmkdncaccbaaDoor
