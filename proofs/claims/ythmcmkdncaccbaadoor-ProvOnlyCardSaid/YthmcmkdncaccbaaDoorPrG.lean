/- Providers: Check and New, the program's and the document's. -/
import Derived.Test.YthmcmkdncaccbaaDoorPrF
set_option linter.unusedSimpArgs false
set_option linter.unusedVariables false
namespace Go.Proofs.YthmcmkdncaccbaaDoor
open Go.RowKit

/-- Forged behind a check, and whether the tag is right -/
def chkF (f : Bool) (es : List Ent) (k b t : List UInt8) : Bool := bif rightT k b == t then (f || !hadF es k b) else f
def chkY (i : Bool) (es : List Ent) (k b t : List UInt8) : Bool := bif rightT k b == t then (hadF es k b || !i) else false
/-- a provider, and yes or no, as a result -/
def ChkP (w : World) (i f : Bool) (a : Option Addr) (n c : Nat) (y : Bool) (e : Ending) (w' : World) : Prop := e = .returned (.tuple #[.agg #[.bool i, .slice a n c, .bool f], .bool y]) ∧ Below w.heap.size w w'
theorem setP_below {w0 w : World} {B b j : Nat} {v : Value} (h : Below B w0 w) (hb : B ≤ b) : Below B w0 (w.setCell ⟨b, j, none⟩ v) := h.setCell hb v
theorem new04_any (i : Bool) (w : World) : Calls Tryd.prog 20 #[.bool i] w fun e w' => e = .returned (.agg #[.bool i, .slice none 0 0, .bool false]) ∧ Below w.heap.size w w' := by
  go_enter Tryd.func20, Tryd.ntmps20
  go_wp2_with fail
  first
    | (go_ret; exact ⟨rfl, ba _ _⟩)
    | (refine bodyPost_ret (v := .agg #[.bool i, .slice none 0 0, .bool false]) (results_blk rfl _ _ w.heap.size rfl (Blk.new w [.bool i, .slice none 0 0, .bool false] _) Tryd.underlying24 rfl prov_size) rfl ?_; exact ⟨rfl, ba _ _⟩)
theorem refNew04_any (i : Bool) (w : World) : Calls Tryd.prog 21 #[.bool i] w fun e w' => e = .returned (.agg #[.bool i, .slice none 0 0, .bool false]) ∧ Below w.heap.size w w' := by
  go_enter Tryd.func21, Tryd.ntmps21
  go_wp2_with fail
  first
    | (go_ret; exact ⟨rfl, ba _ _⟩)
    | (refine bodyPost_ret (v := .agg #[.bool i, .slice none 0 0, .bool false]) (results_blk rfl _ _ w.heap.size rfl (Blk.new w [.bool i, .slice none 0 0, .bool false] _) Tryd.underlying24 rfl prov_size) rfl ?_; exact ⟨rfl, ba _ _⟩)

set_option maxRecDepth 100000 in
set_option maxHeartbeats 4000000 in
theorem check_any (i f : Bool) (a ka ba_ ta : Option Addr) (c kc bc tc : Nat) (es : List Ent) (k b t : List UInt8) (w : World) (hes : es.length ≤ 1000) (hE : EntsAt w a es) (hk : k.length ≤ 100000) (hb : b.length ≤ 90000) (ht : t.length ≤ 100000) (hka : BytesAt w ka k) (hba : BytesAt w ba_ b) (hta : BytesAt w ta t) (hks : KeysAt w) :
    Calls Tryd.prog 13 #[.agg #[.bool i, .slice a es.length c, .bool f], .slice ka k.length kc, .slice ba_ b.length bc, .slice ta t.length tc] w (ChkP w i (chkF f es k b t) a es.length c (chkY i es k b t)) := by
  have HI := Lib.hid prov_size
  have H1 := Lib.hid (fun (W : World) (h : Below w.heap.size w W) => had_any i f a ka ba_ c kc bc es k b W (by omega) (hE.mono h) (by unfold maxLen; omega) (by unfold maxLen; omega) (hka.mono h) (hba.mono h))
  have H5 := Lib.hid (fun (W : World) (h : Below w.heap.size w W) => right_any04 ka ba_ kc bc k b hk hb W (hka.mono h) (hba.mono h) (hks.mono h))
  unfold TagOut at H5
  unfold ChkP chkF chkY
  have HTl := rightT_len k b
  have H6 := Lib.hid (fun (o : Option Addr) (oc : Nat) (W : World) (h : Below w.heap.size w W) (h2 : BytesAt W o (rightT k b)) => (show Calls Tryd.prog 28 #[.slice o 16 oc, .slice ta t.length tc] W (BoolOut W (rightT k b == t)) from by
    have h3 := macSame_any o ta oc tc (rightT k b) t (by rw [HTl]; decide) (by unfold maxLen; omega) W h2 (hta.mono h)
    rwa [HTl] at h3))
  generalize hadF es k b = R at H1 ⊢
  generalize (rightT k b == t) = S at H6 ⊢
  generalize rightT k b = T at H5 H6
  clear hE hka hba hta hks hes hk hb ht HTl
  go_enter Tryd.func13, Tryd.ntmps13
  go_upto_region 1 with (fail)
  generalize hW : World.alloc (World.alloc w _) _ = W
  have B4 := Lib.hid (show BlkT 24 W w.heap.size [.bool i, .slice a es.length c, .bool f] by rw [← hW]; exact (BlkT.new w [.bool i, .slice a es.length c, .bool f] _).up (ba _ _))
  have B8 := Lib.hid (show BlkT 24 W (w.heap.size + 1) zeroP by rw [← hW, ← size_alloc w (.cells #[.bool i, .slice a es.length c, .bool f] 24)]; exact BlkT.new _ zeroP _)
  have G := Lib.hid (show Below w.heap.size w W by rw [← hW]; exact bta (ba w _) _)
  clear hW
  obtain ⟨b4, hb4⟩ : ∃ b4, b4 = w.heap.size := ⟨_, rfl⟩
  have L4 := Lib.hid (show w.heap.size ≤ b4 by omega)
  have L8 := Lib.hid (show w.heap.size ≤ b4 + 1 by omega)
  have hne : b4 ≠ b4 + 1 := by omega
  rw [← hb4] at B4 B8
  simp only [← hb4]
  generalize b4 + 1 = b8 at B8 L8 hne ⊢
  clear hb4
  go_wp2_with fail
  refine (H5.out _ G.out).mono ?_; rintro e w1 ⟨ra, rc, rfl, hrc, hra, hbb⟩
  replace B4 := Lib.hid (B4.out.up hbb)
  replace B8 := Lib.hid (B8.out.up hbb)
  replace G := Lib.hid (bt G.out hbb)
  have HR := Lib.hid hra
  clear hbb hrc hra H5
  go_wp2_with fail
  refine (H6.out ra rc _ G.out HR.out).mono ?_; rintro e w2 ⟨rfl, hbb⟩
  replace B4 := Lib.hid (B4.out.up hbb)
  replace B8 := Lib.hid (B8.out.up hbb)
  replace G := Lib.hid (bt G.out hbb)
  clear hbb H6 HR
  rcases S with _ | _
  · go_wp2_with (first | (refine wpList_load_blk 24 (.tmp 4) b4 (cs := [.bool i, .slice a es.length c, .bool f]) rfl rfl rfl B4.out.blk Tryd.underlying24 rfl HI.out ?_) | (refine wpList_store_blk 24 (.tmp 8) (.tmp 17) b8 (old := zeroP) (cs := [.bool i, .slice a es.length c, .bool f]) rfl rfl rfl rfl B8.out.blk HI.out rfl rfl ?_))
    refine bodyPost_ret (results_blk_tmp rfl _ _ b8 (cs := [.bool i, .slice a es.length c, .bool f]) rfl _ rfl (B8.out.row _).blk Tryd.underlying24 rfl HI.out) rfl ?_
    exact ⟨rfl, below_setRow G.out L8.out _⟩
  go_wp2_with (refine wpList_load_blk 24 (.tmp 4) b4 (cs := [.bool i, .slice a es.length c, .bool f]) rfl rfl rfl B4.out.blk Tryd.underlying24 rfl HI.out ?_)
  refine (H1.out _ G.out).mono ?_; rintro e w3 ⟨rfl, hbb⟩
  replace B4 := Lib.hid (B4.out.up hbb)
  replace B8 := Lib.hid (B8.out.up hbb)
  replace G := Lib.hid (bt G.out hbb)
  clear hbb H1
  obtain ⟨y0, y1, y2⟩ := cells3P B4.out.blk
  obtain ⟨z0, z1, z2⟩ := cells3P B8.out.blk
  have yf := B4.out.blk.frozen
  have zf := B8.out.blk.frozen
  rcases R with _ | _ <;> rcases f with _ | _ <;> rcases i with _ | _
  all_goals
    go_wp2_with fail
  all_goals
    clear y0 y1 y2 z0 z1 z2 yf zf
    first
    | (obtain ⟨w4, hW4⟩ : ∃ w4, w4 = w3.setCell ⟨b4, 2, none⟩ (.bool true) := ⟨_, rfl⟩; rw [← hW4]; have B4' := Lib.hid (show BlkT 24 w4 b4 [.bool _, .slice a es.length c, .bool true] by rw [hW4]; exact B4.out.set 2 _); have B8' := Lib.hid (show BlkT 24 w4 b8 zeroP by rw [hW4]; exact B8.out.other (fun h => hne h.symm) _); have G' := Lib.hid (show Below w.heap.size w w4 by rw [hW4]; exact G.out.setCell L4.out _))
    | (obtain ⟨w4, hW4⟩ : ∃ w4, w4 = w3.setCell ⟨b4, 2, none⟩ (.bool false) := ⟨_, rfl⟩; rw [← hW4]; have B4' := Lib.hid (show BlkT 24 w4 b4 [.bool _, .slice a es.length c, .bool false] by rw [hW4]; exact B4.out.set 2 _); have B8' := Lib.hid (show BlkT 24 w4 b8 zeroP by rw [hW4]; exact B8.out.other (fun h => hne h.symm) _); have G' := Lib.hid (show Below w.heap.size w w4 by rw [hW4]; exact G.out.setCell L4.out _))
    obtain ⟨y0, y1, y2⟩ := cells3P B4'.out.blk
    obtain ⟨z0, z1, z2⟩ := cells3P B8'.out.blk
    have zf := B8'.out.blk.frozen
    clear hW4
    go_region
    all_goals
      go_wp2_with fail
      refine bodyPost_ret (results_blk_tmp rfl _ _ b8 rfl _ rfl (rset3 (B8'.out.up (bd _))).blk Tryd.underlying24 rfl HI.out) rfl ?_
      exact ⟨rfl, rset3_below (bt G'.out (bd _)) L8.out⟩

set_option maxRecDepth 100000 in
set_option maxHeartbeats 4000000 in
theorem refCheck_any (i f : Bool) (a ka ba_ ta : Option Addr) (c kc bc tc : Nat) (es : List Ent) (k b t : List UInt8) (w : World) (hes : es.length ≤ 1000) (hE : EntsAt w a es) (hk : k.length ≤ 100000) (hb : b.length ≤ 90000) (ht : t.length ≤ 100000) (hka : BytesAt w ka k) (hba : BytesAt w ba_ b) (hta : BytesAt w ta t) :
    Calls Tryd.prog 14 #[.agg #[.bool i, .slice a es.length c, .bool f], .slice ka k.length kc, .slice ba_ b.length bc, .slice ta t.length tc] w (ChkP w i (chkF f es k b t) a es.length c (chkY i es k b t)) := by
  have HI := Lib.hid prov_size
  have H1 := Lib.hid (fun (W : World) (h : Below w.heap.size w W) => refHad_any i f a ka ba_ c kc bc es k b W (by omega) (hE.mono h) (hka.mono h) (hba.mono h))
  have H5 := Lib.hid (fun (W : World) (h : Below w.heap.size w W) => refRight_any04 ka ba_ kc bc k b hk hb W (hka.mono h) (hba.mono h))
  unfold TagOut at H5
  unfold ChkP chkF chkY
  have HTl := rightT_len k b
  have H6 := Lib.hid (fun (o : Option Addr) (oc : Nat) (W : World) (h : Below w.heap.size w W) (h2 : BytesAt W o (rightT k b)) => (show Calls Tryd.prog 16 #[.slice o 16 oc, .slice ta t.length tc] W (BoolOut W (rightT k b == t)) from by
    have h3 := same01_any o ta 16 oc t.length tc (rightT k b) t W HTl.symm rfl h2 (hta.mono h)
    exact h3.mono fun e w2 ⟨p, q⟩ => ⟨p, q ▸ Below.refl _ _⟩))
  generalize hadF es k b = R at H1 ⊢
  generalize (rightT k b == t) = S at H6 ⊢
  generalize rightT k b = T at H5 H6
  clear hE hka hba hta hes hk hb ht HTl
  go_enter Tryd.func14, Tryd.ntmps14
  go_upto_region 1 with (fail)
  generalize hW : World.alloc (World.alloc w _) _ = W
  have B4 := Lib.hid (show BlkT 24 W w.heap.size [.bool i, .slice a es.length c, .bool f] by rw [← hW]; exact (BlkT.new w [.bool i, .slice a es.length c, .bool f] _).up (ba _ _))
  have B8 := Lib.hid (show BlkT 24 W (w.heap.size + 1) zeroP by rw [← hW, ← size_alloc w (.cells #[.bool i, .slice a es.length c, .bool f] 24)]; exact BlkT.new _ zeroP _)
  have G := Lib.hid (show Below w.heap.size w W by rw [← hW]; exact bta (ba w _) _)
  clear hW
  obtain ⟨b4, hb4⟩ : ∃ b4, b4 = w.heap.size := ⟨_, rfl⟩
  have L4 := Lib.hid (show w.heap.size ≤ b4 by omega)
  have L8 := Lib.hid (show w.heap.size ≤ b4 + 1 by omega)
  have hne : b4 ≠ b4 + 1 := by omega
  rw [← hb4] at B4 B8
  simp only [← hb4]
  generalize b4 + 1 = b8 at B8 L8 hne ⊢
  clear hb4
  go_wp2_with fail
  refine (H5.out _ G.out).mono ?_; rintro e w1 ⟨ra, rc, rfl, hrc, hra, hbb⟩
  replace B4 := Lib.hid (B4.out.up hbb)
  replace B8 := Lib.hid (B8.out.up hbb)
  replace G := Lib.hid (bt G.out hbb)
  have HR := Lib.hid hra
  clear hbb hrc hra H5
  go_wp2_with fail
  refine (H6.out ra rc _ G.out HR.out).mono ?_; rintro e w2 ⟨rfl, hbb⟩
  replace B4 := Lib.hid (B4.out.up hbb)
  replace B8 := Lib.hid (B8.out.up hbb)
  replace G := Lib.hid (bt G.out hbb)
  clear hbb H6 HR
  rcases S with _ | _
  · go_wp2_with (first | (refine wpList_load_blk 24 (.tmp 4) b4 (cs := [.bool i, .slice a es.length c, .bool f]) rfl rfl rfl B4.out.blk Tryd.underlying24 rfl HI.out ?_) | (refine wpList_store_blk 24 (.tmp 8) (.tmp 17) b8 (old := zeroP) (cs := [.bool i, .slice a es.length c, .bool f]) rfl rfl rfl rfl B8.out.blk HI.out rfl rfl ?_))
    refine bodyPost_ret (results_blk_tmp rfl _ _ b8 (cs := [.bool i, .slice a es.length c, .bool f]) rfl _ rfl (B8.out.row _).blk Tryd.underlying24 rfl HI.out) rfl ?_
    exact ⟨rfl, below_setRow G.out L8.out _⟩
  go_wp2_with (refine wpList_load_blk 24 (.tmp 4) b4 (cs := [.bool i, .slice a es.length c, .bool f]) rfl rfl rfl B4.out.blk Tryd.underlying24 rfl HI.out ?_)
  refine (H1.out _ G.out).mono ?_; rintro e w3 ⟨rfl, hbb⟩
  replace B4 := Lib.hid (B4.out.up hbb)
  replace B8 := Lib.hid (B8.out.up hbb)
  replace G := Lib.hid (bt G.out hbb)
  clear hbb H1
  obtain ⟨y0, y1, y2⟩ := cells3P B4.out.blk
  obtain ⟨z0, z1, z2⟩ := cells3P B8.out.blk
  have yf := B4.out.blk.frozen
  have zf := B8.out.blk.frozen
  rcases R with _ | _ <;> rcases f with _ | _ <;> rcases i with _ | _
  all_goals
    go_wp2_with fail
  all_goals
    clear y0 y1 y2 z0 z1 z2 yf zf
    first
    | (obtain ⟨w4, hW4⟩ : ∃ w4, w4 = w3.setCell ⟨b4, 2, none⟩ (.bool true) := ⟨_, rfl⟩; rw [← hW4]; have B4' := Lib.hid (show BlkT 24 w4 b4 [.bool _, .slice a es.length c, .bool true] by rw [hW4]; exact B4.out.set 2 _); have B8' := Lib.hid (show BlkT 24 w4 b8 zeroP by rw [hW4]; exact B8.out.other (fun h => hne h.symm) _); have G' := Lib.hid (show Below w.heap.size w w4 by rw [hW4]; exact G.out.setCell L4.out _))
    | (generalize hW4 : w3 = w4 at B4 B8 G ⊢; have B4' := B4; have B8' := B8; have G' := G)
    obtain ⟨y0, y1, y2⟩ := cells3P B4'.out.blk
    obtain ⟨z0, z1, z2⟩ := cells3P B8'.out.blk
    have zf := B8'.out.blk.frozen
    clear hW4
    go_region
    all_goals
      go_wp2_with fail
      refine bodyPost_ret (results_blk_tmp rfl _ _ b8 rfl _ rfl (rset3 (B8'.out.up (bd _))).blk Tryd.underlying24 rfl HI.out) rfl ?_
      exact ⟨rfl, rset3_below (bt G'.out (bd _)) L8.out⟩
end Go.Proofs.YthmcmkdncaccbaaDoor
