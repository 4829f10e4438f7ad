/- The walk of the law ProvOnly. -/
import Derived.Test.YthmcmkdncaccbaaDoorPrU
set_option linter.unusedSimpArgs false
set_option linter.unusedVariables false
namespace Go.Proofs.YthmcmkdncaccbaaDoor
open Go.RowKit

theorem hadF_tag (es : List Ent) (k b k2 b2 : List UInt8) : hadF (tagEs es k b) k2 b2 = (hadF es k2 b2 || ((k2 == k) && (b2 == b))) := by
  unfold tagEs
  cases h : hadF es k b with
  | false => simp [hadF, isF]
  | true =>
    show hadF es k2 b2 = _
    cases h2 : ((k2 == k) && (b2 == b)) with
    | false => simp
    | true =>
      rw [Bool.and_eq_true, beq_iff_eq, beq_iff_eq] at h2
      rw [h2.1, h2.2, h]; rfl
/-- was a pair of bytes tagged, by its place -/
def hadJ (es : List Ent) (j : Nat) : Bool := hadF es [UInt8.ofNat (j / 3)] [UInt8.ofNat (j % 3)]
def hadL (es : List Ent) : List Value := (List.range 9).map fun j => .bool (hadJ es j)
theorem hadL_len (es : List Ent) : (hadL es).length = 9 := by simp [hadL]
theorem mod3_lt (x : UInt8) : (x % 3).toNat < 3 := by rw [UInt8.toNat_mod]; exact Nat.mod_lt _ (by decide)
theorem place (x y : UInt8) (hx : x.toNat < 3) (hy : y.toNat < 3) (es : List Ent) : hadJ es (x.toNat * 3 + y.toNat) = hadF es [x] [y] := by
  unfold hadJ
  rw [show (x.toNat * 3 + y.toNat) / 3 = x.toNat by omega, show (x.toNat * 3 + y.toNat) % 3 = y.toNat by omega, UInt8.ofNat_toNat, UInt8.ofNat_toNat]
theorem hadL_at (es : List Ent) (j : Nat) (hj : j < 9) : (hadL es).getD j undef = .bool (hadJ es j) := by
  simp [hadL, List.getD, hj]
theorem hadJ_tag (es : List Ent) (x y : UInt8) (hx : x.toNat < 3) (hy : y.toNat < 3) (j : Nat) (hj : j < 9) (hne : j ≠ x.toNat * 3 + y.toNat) : hadJ (tagEs es [x] [y]) j = hadJ es j := by
  unfold hadJ
  rw [hadF_tag]
  have : (([UInt8.ofNat (j / 3)] == [x]) && ([UInt8.ofNat (j % 3)] == [y])) = false := by
    rw [Bool.eq_false_iff]
    intro h
    rw [Bool.and_eq_true, beq_iff_eq, beq_iff_eq] at h
    have h1 : UInt8.ofNat (j / 3) = x := by simpa using h.1
    have h2 : UInt8.ofNat (j % 3) = y := by simpa using h.2
    have h3 : j / 3 = x.toNat := by rw [← h1, UInt8.toNat_ofNat']; omega
    have h4 : j % 3 = y.toNat := by rw [← h2, UInt8.toNat_ofNat']; omega
    omega
  rw [this, Bool.or_false]
theorem hadL_set (es : List Ent) (q : Qn) : (hadL es).set ((q.key % 3).toNat * 3 + (q.b % 3).toNat) (.bool (hadF es [q.key % 3] [q.b % 3] || decide (q.kind.toNat % 4 = 0))) = hadL (askEs q es) := by
  have hx := mod3_lt q.key
  have hy := mod3_lt q.b
  unfold askEs
  generalize q.key % 3 = x at *
  generalize q.b % 3 = y at *
  apply List.ext_getElem?
  intro j
  rw [List.getElem?_set]
  by_cases hj9 : j < 9
  · have e : ∀ es : List Ent, (hadL es)[j]? = some (.bool (hadJ es j)) := fun es => by simp [hadL, hj9]
    rw [e, hadL_len]
    by_cases hj : x.toNat * 3 + y.toNat = j
    · rw [if_pos hj, if_pos (by omega)]
      split
      · rw [e, ← hj, place x y hx hy, hadF_tag]; simp [*]
      · rw [e, ← hj, place x y hx hy]; simp [*]
    · rw [if_neg hj, e]
      split
      · rw [hadJ_tag es x y hx hy j hj9 (Ne.symm hj)]
      · rfl
  · have e : ∀ es : List Ent, (hadL es)[j]? = none := fun es => List.getElem?_eq_none (by rw [hadL_len]; omega)
    rw [e, e, if_neg (by omega)]
theorem only_0 (f : Bool) (es : List Ent) (gs : List (List UInt8)) (q : Qn) (h : q.kind.toNat % 4 = 0) : askY true es gs q = true ∧ askF f es gs q = f := by
  unfold askY askF; rw [if_pos h, if_pos h]; exact ⟨rfl, rfl⟩
theorem only_1 (f : Bool) (es : List Ent) (gs : List (List UInt8)) (q : Qn) (h : q.kind.toNat % 4 = 1) : askY true es gs q = hadF es [q.key % 3] [q.b % 3] ∧ askF f es gs q = (f || !hadF es [q.key % 3] [q.b % 3]) := by
  have eT : askTag q gs = rightT [q.key % 3] [q.b % 3] := by unfold askTag; rw [if_pos h]
  unfold askY askF; rw [if_neg (by omega), if_neg (by omega), eT]
  unfold chkY chkF
  rw [beq_self_eq_true]
  exact ⟨by simp, rfl⟩
theorem only_2 (f : Bool) (es : List Ent) (gs : List (List UInt8)) (q : Qn) (h : ¬ q.kind.toNat % 4 = 0) : ∃ R : Bool, askY true es gs q = (R && hadF es [q.key % 3] [q.b % 3]) ∧ askF f es gs q = (bif R then (f || !hadF es [q.key % 3] [q.b % 3]) else f) := by
  unfold askY askF; rw [if_neg h, if_neg h]
  refine ⟨(rightT [q.key % 3] [q.b % 3] == askTag q gs), ?_, rfl⟩
  unfold chkY
  cases (rightT [q.key % 3] [q.b % 3] == askTag q gs) <;> simp
theorem EntsAt.keepC {w w' : World} {b : Nat} {cs : List Value} {A : Option Addr} {es : List Ent} (h : EntsAt w A es) (hb : Blk w b cs) (hcs : ∀ v ∈ cs, ∃ x, v = .bool x) (k : KeepB b w w') : EntsAt w' A es := by
  by_cases h0 : es = []
  · subst h0; exact EntsAt.nil _ _
  have hni : ∀ v ∈ cs, ∀ k n, v ≠ .int k n := fun v hv k n e => by obtain ⟨x, hx⟩ := hcs v hv; rw [hx] at e; cases e
  have keepR : ∀ v r, RowIs w v r → RowIs w' v r := fun v r ⟨p, d, h1, h2, h3, h4⟩ => ⟨p, d, h1, h2, h3, (AtP.to (BytesAt.neP h4 hb hni) (q := fun _ => True) k.size fun g hg hp => ⟨k.blk g hg hp, trivial⟩).at⟩
  obtain ⟨vs, h1, h2, h3⟩ := h
  refine ⟨vs, h1, ?_, fun i hi => ⟨keepR _ _ (h3 i hi).1, keepR _ _ (h3 i hi).2⟩⟩
  rcases h2 with h2 | ⟨g, off, rfl, hlt, hc⟩
  · exact .inl h2
  refine .inr ⟨g, off, rfl, Nat.lt_of_lt_of_le hlt k.size, fun i hi => ?_⟩
  have hne : g ≠ b := by
    rintro rfl
    have hl : 0 < es.length := List.length_pos_iff.2 h0
    obtain ⟨⟨p0, c0, e0, _⟩, _⟩ := h3 0 hl
    have k0 := hc 0 (by rw [h1]; omega)
    rw [show vs.getD 0 undef = _ from e0] at k0
    obtain ⟨T, hg⟩ := hb
    rw [cell_of_row w g (off + 0) _ T (0, 0) hg] at k0
    have h4 := Array.mem_of_getElem? k0
    obtain ⟨x, hx⟩ := hcs _ (by simpa using h4)
    cases hx
  rw [World.cell?_of_block (w := w) (a := ⟨g, off + i, none⟩) (k.blk g hlt hne)]
  exact hc i hi
theorem PrF.keepC {w w' : World} {b : Nat} {cs : List Value} {A : Option Addr} {N C : Nat} {es : List Ent} (h : PrF w A N C es) (hb : Blk w b cs) (hcs : ∀ v ∈ cs, ∃ x, v = .bool x) (k : KeepB b w w') : PrF w' A N C es :=
  ⟨h.ents.keepC hb hcs k, h.hn, h.hc, h.hcm, h.few⟩
theorem GivP.keepC {p : Nat → Prop} {w w' : World} {a : Option Addr} {gs : List (List UInt8)} {b : Nat} {cs : List Value} (h : GivP p w a gs) (hp : ∀ g, p g → g ≠ b) (hb : Blk w b cs) (hcs : ∀ v ∈ cs, ∃ x, v = .bool x) (k : KeepB b w w') : GivP p w' a gs := by
  have hni : ∀ v ∈ cs, ∀ k n, v ≠ .int k n := fun v hv k n e => by obtain ⟨x, hx⟩ := hcs v hv; rw [hx] at e; cases e
  obtain ⟨vs, h1, h2⟩ := h
  refine ⟨vs, h1.to k.size fun g hl hq => ⟨k.blk g hl (hp g hq), hq⟩, h2.1, fun i hi => ?_⟩
  obtain ⟨q, d, e1, e2, e3, e4⟩ := h2.2 i hi
  exact ⟨q, d, e1, e2, e3, (AtP.to (BytesAt.neP e4 hb hni) (q := fun _ => True) k.size fun g hg hp => ⟨k.blk g hg hp, trivial⟩).at⟩
theorem keep_set {w : World} {b j : Nat} {v : Value} : KeepB b w (w.setCell ⟨b, j, none⟩ v) := ⟨by simp, fun g hg hn => Below.heap_setCell _ _ _ _ hn⟩
theorem hadL_bool (es : List Ent) : ∀ v ∈ hadL es, ∃ x, v = .bool x := by
  intro v hv
  obtain ⟨j, -, rfl⟩ := List.mem_map.1 hv
  exact ⟨_, rfl⟩
theorem had_size : (Tryd.prog.info? 47).map (·.size) = some 9 := by kernel_rfl
theorem hadL_nil : hadL [] = [.bool false, .bool false, .bool false, .bool false, .bool false, .bool false, .bool false, .bool false, .bool false] := rfl
/-- what stands at the head of a round -/
def OnlAt (w0 : World) (n : Nat) (b4 b5 : Nat) (v6 v7 : Value) (wx : World) : Prop := ∃ (k : Nat) (f : Bool) (es : List Ent) (gs : List (List UInt8)) (a1 : Option Addr) (c1 : Nat) (ga : Option Addr) (gc : Nat), k ≤ n ∧ v7 = .int .i64 (k : Int) ∧ v6 = .slice ga gs.length gc ∧ BlkT 24 wx b4 (prL true a1 es.length c1 f) ∧ BlkT 47 wx b5 (hadL es) ∧ PrF wx a1 es.length c1 es ∧ GivP (two b4 b5) wx ga gs ∧ (∀ r ∈ gs, r.length = 16) ∧ (es.length ≤ k ∧ gs.length ≤ k) ∧ Below w0.heap.size w0 wx

set_option maxRecDepth 100000 in
set_option maxHeartbeats 8000000 in
theorem provOnly_any (la : Option Addr) (lc : Nat) (qs : List Qn) (w : World) (hQ : QnsAt w la qs) (hlm : qs.length ≤ maxLen) (hk : KeysAt w) :
    Calls Tryd.prog 5 #[.slice la qs.length lc] w (BoolOut w true) := by
  have HI := Lib.hid prov_size
  have HI9 := Lib.hid had_size
  have HM := Lib.hid (show 100 ≤ maxLen by decide)
  have Hsh := Lib.hid (fun W (h : Below w.heap.size w W) => shown04 W (hk.mono h))
  have HK := Lib.hid hk
  have HQ := Lib.hid hQ
  clear hk hQ
  obtain ⟨n, hn⟩ : ∃ n, n = qs.length := ⟨_, rfl⟩
  have Hn := Lib.hid hn
  rw [← hn] at hlm ⊢
  clear hn
  have G := Lib.hid (Below.refl w.heap.size w)
  go_enter Tryd.func5, Tryd.ntmps5
  go_wp2_with fail
  refine (Hsh.out _ G.out).mono ?_; rintro e y1 ⟨rfl, hb⟩
  replace G := Lib.hid (bt G.out hb)
  clear hb
  by_cases h20 : (20 : Int) < (n : Int)
  · go_wp2_with fail
    go_ret
    exact ⟨rfl, G.out⟩
  have L20 := Lib.hid (show n ≤ 20 by omega)
  go_upto_region 4 with (fail)
  clear h20 Hsh
  go_cut [4] (fun v4 wx => ∃ b4 : Nat, v4 = .pointer (some ⟨b4, 0, none⟩) ∧ BlkT 24 wx b4 (prL true none 0 0 false) ∧ w.heap.size ≤ b4 ∧ Below w.heap.size w wx)
  case first =>
    go_wp2_with fail
    refine (new04_any true _).mono ?_; rintro e wn ⟨rfl, hb⟩
    go_wp2_with (refine wpList_store_blk 24 (.tmp 4) (.tmp 18) _ (old := zeroP) (cs := (prL true none 0 0 false)) rfl rfl rfl rfl (Blk.new _ _ _) HI.out rfl rfl ?_)
    go_meet
    exact ⟨_, rfl, layP_blk _ _ _ _, Nat.le_trans G.out.size hb.size, (bt G.out (bt hb (layP_below _ _ _ _)))⟩
  case rest =>
    obtain ⟨b4, rfl, hB4, hLow4, hG⟩ := hcut
    have B4 := Lib.hid hB4
    have Low4 := Lib.hid hLow4
    replace G := Lib.hid hG
    clear hB4 hLow4 hG
    go_upto_region 5 with (fail)
    have L4 := Lib.hid B4.out.blk.lt
    generalize hw4 : wc = w4 at *
    go_cut [5] (fun v5 wx => ∃ b5 : Nat, v5 = .pointer (some ⟨b5, 0, none⟩) ∧ BlkT 47 wx b5 (hadL []) ∧ w4.heap.size ≤ b5 ∧ Below w4.heap.size w4 wx)
    case first =>
      go_wp2_with (first | (refine wpList_store_blk 47 (.tmp 5) (.tmp 19) _ (old := hadL []) (cs := hadL []) rfl rfl rfl rfl (Blk.new _ _ _) HI9.out rfl rfl ?_))
      go_meet
      exact ⟨_, rfl, layP_blk _ _ _ _, Nat.le_refl _, layP_below _ _ _ _⟩
    case rest =>
      obtain ⟨b5, rfl, hB5, hLo, hbc⟩ := hcut
      have B5 := Lib.hid hB5
      have N45 := Lib.hid (Nat.ne_of_lt (Nat.lt_of_lt_of_le L4.out hLo))
      have Lw5 := Lib.hid (Nat.le_trans G.out.size hLo)
      replace B4 := Lib.hid (B4.out.up hbc)
      replace G := Lib.hid (bt G.out hbc)
      clear hB5 hLo hbc L4
      go_wp2_with fail
      go_loopw [6, 7] (fun v6 v7 wx => OnlAt w n b4 b5 v6 v7 wx) (fun _ v7 _ => n - (intOf v7).toNat)
      case atStart => exact ⟨0, false, [], [], none, 0, _, 0, Nat.zero_le _, rfl, rfl, B4.out.up (ba _ _), B5.out.up (ba _ _), PrF.zero _, GivP.nil _ _ _, by simp, ⟨Nat.zero_le _, Nat.zero_le _⟩, bta G.out _⟩
      case round =>
        clear B4 B5 G
        obtain ⟨k, f, es, gs, a1, c1, ga, gc, hkn, rfl, rfl, h4, h5, hp1, hg1, h16, ⟨hel, hgl⟩, hb⟩ := hrel
        have B4 := Lib.hid h4
        have B5 := Lib.hid h5
        have P1 := Lib.hid hp1
        have V1 := Lib.hid hg1
        have H16 := Lib.hid h16
        have HL := Lib.hid (And.intro hel hgl)
        have G := Lib.hid hb
        clear h4 h5 hp1 hg1 h16 hel hgl hb
        by_cases hlt : k < n
        · obtain ⟨g, off, rfl, hgw0, hq0⟩ := HQ.out k (by rw [← Hn.out]; exact hlt)
          have hgw : g < wr.heap.size := Nat.lt_of_lt_of_le hgw0 G.out.size
          have hqr := hq0.up hgw0 G.out
          generalize qs.getD k default = q at hqr hq0
          clear hq0
          have HE := Lib.hid (show (askEs q es).length ≤ k + 1 by have := askEs_le q es; have := HL.out.1; omega)
          have HS := Lib.hid (show (askGs q gs).length ≤ k + 1 by have := askGs_len q gs; have := HL.out.2; omega)
          have H162 := Lib.hid (askGs_16 q H16.out)
          have K1 := Lib.hid (fun (a0 : Option Addr) (c : Nat) (gx : Option Addr) (gxc : Nat) (tp : Option Addr) (tc : Nat) W (hb : Below wr.heap.size wr W) (p1 : PrF W a0 es.length c es) (v1 : GivP (two b4 b5) W gx gs) (ht : BytesAt W tp q.tag) (htl : q.tag.length ≤ 60) (hlow : ∀ x, W.heap.size ≤ x → two b4 b5 x) => asked_any (i := true) (f := f) (tc := tc) (gc := gxc) q p1 (HK.out.mono (bt G.out hb)) ht htl v1 hlow H16.out (by have := HL.out.2; have := L20.out; omega) (by have := HL.out.1; have := L20.out; omega))
          unfold AskedOut at K1
          have HO0 := Lib.hid (only_0 f es gs q)
          have HO1 := Lib.hid (only_1 f es gs q)
          have HO2 := Lib.hid (only_2 f es gs q)
          have HSet := Lib.hid (hadL_set es q)
          obtain ⟨X, hX⟩ : ∃ X, X = (q.key % 3).toNat := ⟨_, rfl⟩
          obtain ⟨Y, hY⟩ : ∃ Y, Y = (q.b % 3).toNat := ⟨_, rfl⟩
          obtain ⟨J, hJ⟩ : ∃ J, J = X * 3 + Y := ⟨_, rfl⟩
          obtain ⟨A, hA⟩ : ∃ A, A = X * 3 := ⟨_, rfl⟩
          have hX3 : X < 3 := by rw [hX]; exact mod3_lt _
          have hY3 : Y < 3 := by rw [hY]; exact mod3_lt _
          have HJ9 := Lib.hid (show J < 9 by omega)
          have hplace : hadJ es J = hadF es [q.key % 3] [q.b % 3] := by rw [hJ, hX, hY]; exact place _ _ (mod3_lt _) (mod3_lt _) es
          have hcell : ∀ W, BlkT 47 W b5 (hadL es) → W.cell? ⟨b5, J, none⟩ = some (.bool (hadF es [q.key % 3] [q.b % 3])) := fun W h => by rw [h.blk.cell J (by rw [hadL_len]; exact HJ9.out), hadL_at es J HJ9.out, hplace]
          have HCell := Lib.hid hcell
          have c1' : (bv q.key).tmod 3 = (X : Int) := by rw [bv_mod3, hX]; rfl
          have c2 : (bv q.b).tmod 3 = (Y : Int) := by rw [bv_mod3, hY]; rfl
          have c3 : IntKind.u8.wrap (X : Int) = (X : Int) := wrap_nat8 _ (by omega)
          have c4 : IntKind.u8.wrap (Y : Int) = (Y : Int) := wrap_nat8 _ (by omega)
          have c5 : IntKind.i64.wrap (X : Int) = (X : Int) := by rw [IntKind.wrap_i64]; omega
          have c6 : IntKind.i64.wrap (Y : Int) = (Y : Int) := by rw [IntKind.wrap_i64]; omega
          have c7 : IntKind.i64.wrap ((X : Int) * 3) = (A : Int) := by rw [IntKind.wrap_i64]; omega
          have c8 : IntKind.i64.wrap ((A : Int) + (Y : Int)) = (J : Int) := by rw [IntKind.wrap_i64]; omega
          rw [← hX, ← hY, ← hJ] at HSet
          clear hcell hplace hX hY hJ hA hX3 hY3
          obtain ⟨tp, tc, q0, q1, q2, q3, -, -, ht⟩ := hqr
          have HT := Lib.hid ht
          have RQ := Lib.hid (range4 q0 q1 q2 q3)
          generalize hadF es [q.key % 3] [q.b % 3] = hd at *
          generalize askEs q es = es2 at *
          generalize askGs q gs = gs2 at *
          generalize askF f es gs q = f2 at *
          generalize askY true es gs q = yv at *
          have hk0 : (0 : Int) ≤ (k : Int) := by omega
          have hk1 : (k : Int) < (n : Int) := by omega
          clear ht
          generalize htl : q.tag.length = tl at *
          clear htl
          by_cases h60 : (60 : Int) < (tl : Int)
          · go_wp2_with fail
            go_ret
            exact ⟨rfl, G.out⟩
          have L60 := Lib.hid (show tl ≤ 60 by omega)
          have Lb := Lib.hid (And.intro B4.out.blk.lt B5.out.blk.lt)
          go_upto_region 12 with (fail)
          clear h60 q3 q0
          go_quiet (fail)
          generalize hW2 : World.drewN wr nq = w2
          have hb2 : Below wr.heap.size wr w2 := by rw [← hW2]; exact btn (Below.refl _ _) nq
          clear hW2
          have Hb0 := Lib.hid hb2
          replace B4 := Lib.hid (B4.out.up hb2)
          replace B5 := Lib.hid (B5.out.up hb2)
          replace P1 := Lib.hid (P1.out.up hb2)
          replace V1 := Lib.hid (V1.out.up hb2)
          replace HT := Lib.hid (HT.out.mono hb2)
          replace RQ := Lib.hid (range_up RQ.out hgw hb2)
          replace G := Lib.hid (bt G.out hb2)
          have hgu : g < w2.heap.size := Nat.lt_of_lt_of_le hgw hb2.size
          clear hb2 q1 q2 hgw c1' c2 c3 c4 c5 c6 c7 c8
          go_upto_region 13 with (fail)
          refine only13_law (Nat.le_refl _) rfl rfl rfl rfl hlt B4.out RQ.out hgu (ne_nil16 H162.out) (fun W h => K1.out a1 c1 ga gc tp tc W (bt Hb0.out h) (P1.out.up h) (V1.out.up h) (HT.out.mono h) L60.out (fun x hx => ⟨by have := Lb.out.1; have := Hb0.out.size; have := h.size; omega, by have := Lb.out.2; have := Hb0.out.size; have := h.size; omega⟩)) (fun _ _ d _ _ h => by cases d <;> exact h) ?_
          intro x0 x1 x2 x3 x4 x5 x6 x7 x8 x9 x10 a3 c3 gb gbc b9 u hZ hz hV hG hb
          simp only [fill, Act.put, List.setIfInBounds_toArray, List.set_cons_zero, List.set_cons_succ]
          have B9 := Lib.hid hZ
          have P3 := Lib.hid hV
          have V3 := Lib.hid hG
          have N9 := Lib.hid (show b4 ≠ b9 ∧ b5 ≠ b9 from ⟨by have := Lb.out.1; have := Hb0.out.size; omega, by have := Lb.out.2; have := Hb0.out.size; omega⟩)
          replace B4 := Lib.hid (B4.out.up hb)
          replace B5 := Lib.hid (B5.out.up hb)
          replace RQ := Lib.hid (range_up RQ.out hgu hb)
          replace G := Lib.hid (bt G.out hb)
          clear hZ hz hV hG hb P1 V1 K1 HT Lb Hb0 hgu
          go_upto_region 14 with (fail)
          have q0 : u.cell? ⟨g, off + k * 4, none⟩ = some (.int .u8 (bv q.kind)) := RQ.out 0 _ rfl
          obtain ⟨K, hK⟩ : ∃ K, K = q.kind.toNat % 4 := ⟨_, rfl⟩
          have hK4 : K < 4 := by omega
          have c1' : (bv q.kind).tmod 4 = (K : Int) := by rw [bv_mod4, hK]
          have c2 : IntKind.u8.wrap (K : Int) = (K : Int) := wrap_nat8 _ (by omega)
          rw [← hK] at HO0 HO1 HO2 HSet
          have HK4 := Lib.hid hK4
          clear hK hK4 RQ
          generalize hE2 : es2.length = e2 at *
          have HE2 := Lib.hid hE2
          clear hE2
          generalize hS2 : gs2.length = s2 at *
          have HS2 := Lib.hid hS2
          clear hS2
          go_upto_region 15 with (fail)
          clear q0 c1' c2
          generalize hKi : (K : Int) = Ki at *
          have HKi := Lib.hid hKi
          clear hKi
          have j0 : (0 : Int) ≤ (J : Int) := by omega
          have j9 : (J : Int) < 9 := by have := HJ9.out; omega
          go_cut [113] (fun v113 wx => v113 = .bool false ∧ u = wx)
          case first =>
            obtain ⟨g0, g1, g2⟩ := cells3P B9.out.blk
            obtain ⟨g4, g5, g6⟩ := cells3P B4.out.blk
            have g7 := HCell.out _ B5.out
            have hb5 := B5.out.blk.lt
            clear HSet HE HS HE2 HS2 H16 H162 P3 V3 HQ
            rcases (show K = 0 ∨ K = 1 ∨ K = 2 ∨ K = 3 by have := HK4.out; omega) with rfl | rfl | rfl | rfl
            · obtain rfl : Ki = 0 := by rw [← HKi.out]; rfl
              have h := HO0.out rfl
              clear HO0 HO1 HO2 HKi HK4
              rcases f with _ | _ <;> rcases hd with _ | _ <;> rcases f2 with _ | _ <;> rcases yv with _ | _ <;> first | (exact absurd h (by decide)) | (clear h; go_wp2_with fail; go_meet; exact ⟨rfl, rfl⟩)
            · obtain rfl : Ki = 1 := by rw [← HKi.out]; rfl
              have h := HO1.out rfl
              clear HO0 HO1 HO2 HKi HK4
              rcases f with _ | _ <;> rcases hd with _ | _ <;> rcases f2 with _ | _ <;> rcases yv with _ | _ <;> first | (exact absurd h (by decide)) | (clear h; go_wp2_with fail; go_meet; exact ⟨rfl, rfl⟩)
            · obtain rfl : Ki = 2 := by rw [← HKi.out]; rfl
              obtain ⟨R, h⟩ := HO2.out (by decide)
              clear HO0 HO1 HO2 HKi HK4
              rcases R with _ | _ <;> rcases f with _ | _ <;> rcases hd with _ | _ <;> rcases f2 with _ | _ <;> rcases yv with _ | _ <;> first | (exact absurd h (by decide)) | (clear h; go_wp2_with fail; go_meet; exact ⟨rfl, rfl⟩)
            · obtain rfl : Ki = 3 := by rw [← HKi.out]; rfl
              obtain ⟨R, h⟩ := HO2.out (by decide)
              clear HO0 HO1 HO2 HKi HK4
              rcases R with _ | _ <;> rcases f with _ | _ <;> rcases hd with _ | _ <;> rcases f2 with _ | _ <;> rcases yv with _ | _ <;> first | (exact absurd h (by decide)) | (clear h; go_wp2_with fail; go_meet; exact ⟨rfl, rfl⟩)
          case rest =>
            obtain ⟨rfl, rfl⟩ := hcut
            clear HO0 HO1 HO2
            go_upto_region 17 with (fail)
            go_cut [121] (fun v121 wx => BlkT 47 wx b5 (hadL es2) ∧ BlkT 24 wx b4 (prL true a1 es.length c1 f) ∧ BlkT 24 wx b9 (prL true a3 e2 c3 f2) ∧ PrF wx a3 e2 c3 es2 ∧ GivP (two b4 b5) wx gb gs2 ∧ Below w.heap.size w wx)
            case first =>
              have g7 := HCell.out _ B5.out
              have hb5 := B5.out.blk.lt
              have zf := B5.out.blk.frozen
              have FIN : ∀ B : Bool, (hadL es).set J (.bool B) = hadL es2 → (BlkT 47 (u.setCell ⟨b5, J, none⟩ (.bool B)) b5 (hadL es2) ∧ BlkT 24 (u.setCell ⟨b5, J, none⟩ (.bool B)) b4 (prL true a1 es.length c1 f) ∧ BlkT 24 (u.setCell ⟨b5, J, none⟩ (.bool B)) b9 (prL true a3 e2 c3 f2) ∧ PrF (u.setCell ⟨b5, J, none⟩ (.bool B)) a3 e2 c3 es2 ∧ GivP (two b4 b5) (u.setCell ⟨b5, J, none⟩ (.bool B)) gb gs2 ∧ Below w.heap.size w (u.setCell ⟨b5, J, none⟩ (.bool B))) := fun B hs =>
                ⟨by rw [← hs]; exact B5.out.set J _, B4.out.other N45.out _, B9.out.other (Ne.symm N9.out.2) _, P3.out.keepC B5.out.blk (hadL_bool es) keep_set, V3.out.keepC (fun g h => h.2) B5.out.blk (hadL_bool es) keep_set, G.out.setCell Lw5.out _⟩
              have HFIN := Lib.hid FIN
              clear FIN HE HS HE2 HS2 H16 H162 P3 V3 HQ HCell
              rcases hd with _ | _
              · by_cases h0 : K = 0
                · obtain rfl : Ki = 0 := by rw [← HKi.out, h0]; rfl
                  have hs := HSet.out
                  rw [show (false || decide (K = 0)) = true by simp [h0]] at hs
                  have HFS := Lib.hid hs
                  clear h0 hs HKi HSet
                  go_wp2_with fail
                  go_meet
                  exact HFIN.out _ HFS.out
                · have hk : (Ki == 0) = false := by rw [beq_eq_false_iff_ne, ← HKi.out]; omega
                  have hs := HSet.out
                  rw [show (false || decide (K = 0)) = false by simp [h0]] at hs
                  have HFS := Lib.hid hs
                  clear h0 hs HKi HSet
                  go_wp2_with fail
                  go_meet
                  exact HFIN.out _ HFS.out
              · have HFS := Lib.hid (show (hadL es).set J (.bool true) = hadL es2 from HSet.out)
                clear HKi HSet
                go_wp2_with fail
                go_meet
                exact HFIN.out _ HFS.out
            case rest =>
              obtain ⟨h5, h4, h9, hp, hg, hb⟩ := hcut
              have B5 := Lib.hid h5
              have B4 := Lib.hid h4
              have B9 := Lib.hid h9
              have P3 := Lib.hid hp
              have V3 := Lib.hid hg
              have G := Lib.hid hb
              clear h5 h4 h9 hp hg hb HSet HKi HCell
              go_wp2_with (first
                | (refine wpList_load_blk 24 (.tmp 9) b9 rfl rfl rfl B9.out.blk Tryd.underlying24 rfl HI.out ?_)
                | (refine wpList_store_blk 24 (.tmp 4) (.tmp 123) b4 (cs := prL true a3 e2 c3 f2) rfl rfl rfl rfl B4.out.blk HI.out rfl rfl ?_))
              refine ⟨⟨k + 1, _, es2, gs2, a3, c3, gb, gbc, hlt, by go_num, by rw [HS2.out], by rw [HE2.out]; exact B4.out.row _, B5.out.rowOther b4 (Ne.symm N45.out) _, by rw [HE2.out]; exact P3.out.rowP B4.out.blk _, V3.out.rowX (fun g h => h.1) B4.out.blk _, H162.out, ⟨by rw [HE2.out]; exact HE.out, by rw [HS2.out]; exact HS.out⟩, below_setRow G.out Low4.out _⟩, ?_⟩
              simp [intOf]
              omega
        · have hlt0 : ¬ (k : Int) < (n : Int) := by omega
          go_wp2_with fail
          go_ret
          exact ⟨rfl, G.out⟩
theorem provOnly_in (hsh : Shown04OK) (w : World) (hk : KeysAt w) (a : Option Addr) (n c : Nat) (qs : List Qn) (h : InQns w a n c qs) :
    Calls Tryd.prog 5 #[.slice a n c] w (BoolOut w true) := by
  have h2 := QnsAt.of h
  obtain ⟨rfl, p1, p2, -⟩ := h
  exact provOnly_any a c qs w h2 (Nat.le_trans p1 p2) hk
end Go.Proofs.YthmcmkdncaccbaaDoor
