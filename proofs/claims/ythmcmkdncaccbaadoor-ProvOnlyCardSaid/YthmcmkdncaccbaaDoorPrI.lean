/- Providers: the document's example. -/
import Derived.Test.YthmcmkdncaccbaaDoorPrH
import Derived.BigQuiet
import Derived.Deep.DeepCutAuto
set_option linter.unusedSimpArgs false
set_option linter.unusedVariables false
namespace Go.Proofs.YthmcmkdncaccbaaDoor
open Go.RowKit

/-- a provider's table -/
structure PrF (w : World) (a : Option Addr) (n c : Nat) (es : List Ent) : Prop where
  ents : EntsAt w a es
  hn : es.length = n
  hc : n ≤ c
  hcm : c ≤ maxLen
  few : n ≤ 900
theorem PrF.up {w w' : World} {a : Option Addr} {n c : Nat} {es : List Ent} (h : PrF w a n c es) (hb : Below w.heap.size w w') : PrF w' a n c es := ⟨h.ents.mono hb, h.hn, h.hc, h.hcm, h.few⟩
theorem PrF.zero (w : World) : PrF w none 0 0 [] := ⟨EntsAt.nil w none, rfl, Nat.le_refl _, by decide, by decide⟩
theorem layP_below (w : World) (Z L : List Value) (T : TypeId) : Below w.heap.size w ((w.alloc (.cells Z.toArray T)).setRow w.heap.size L.toArray) := below_setRow (ba w _) (Nat.le_refl _) _
theorem layP_blk (w : World) (Z L : List Value) (T : TypeId) : BlkT T ((w.alloc (.cells Z.toArray T)).setRow w.heap.size L.toArray) w.heap.size L := (BlkT.new w Z T).row L
theorem wpList_load_blkP {P : Program} {ops : Array Oper} {rest : List Oper} {o : Oper} {a : Act} {w : World} {Q : Exit → Act → World → Prop} (ty : TypeId) (x : Operand) (g : Nat) {cs : List Value} (hw : Region.wanted o (yielded ops a.tmps) = true) (ho : o.op = .load ty x)
    (hx : a.eval x = .pointer (some ⟨g, 0, none⟩)) (hb : Blk w g cs) {d : TypeDesc} (hu : P.underlying ty = some d) (hd : (match d with | .struct _ | .array _ _ => true | _ => false) = true) (hi : (P.info? ty).map (·.size) = some cs.length)
    (h : wpList P ops Q rest (a.put o.dst (.agg cs.toArray)) w) : wpList P ops Q (o :: rest) a w := by
  obtain ⟨T, hg⟩ := hb
  exact BigFrame.wpList_want hw fun _ hK => wp_load_row ty x ho g hx T cs.toArray _ d hg hu hd (by simpa using hi) (hK _ _ h)
abbrev prL (i : Bool) (a : Option Addr) (n c : Nat) (f : Bool) : List Value := [.bool i, .slice a n c, .bool f]
theorem tag_st {w : World} {i f : Bool} {a ka b_ : Option Addr} {n c m kc bc : Nat} {es es2 : List Ent} {k b T : List UInt8} (h : PrF w a n c es) (hk : KeysAt w) (hka : BytesAt w ka k) (hba : BytesAt w b_ b) (hkl : k.length ≤ 60) (hbl : b.length ≤ 90000) (h1 : tagEs es k b = es2) (h2 : es2.length = m) (h3 : m ≤ 900) (h4 : rightT k b = T) :
    Calls Tryd.prog 11 #[.agg #[.bool i, .slice a n c, .bool f], .slice ka k.length kc, .slice b_ b.length bc] w fun e w' => ∃ a' c' ta tc, e = .returned (.tuple #[.agg #[.bool i, .slice a' m c', .bool f], .slice ta 16 tc]) ∧ PrF w' a' m c' es2 ∧ (16 ≤ tc ∧ tc ≤ maxLen) ∧ BytesAt w' ta T ∧ Below w.heap.size w w' := by
  obtain ⟨e1, rfl, e3, e4, e5⟩ := h
  subst h1 h2 h4
  refine (tag_any i f a ka b_ c kc bc es k b w (by omega) e3 e4 e1 (by omega) hbl hka hba hk).mono fun e w' ⟨a', c', ta, tc, p, q1, q2, q3, q4, q5, q6⟩ => ?_
  exact ⟨a', c', ta, tc, p, ⟨q3, rfl, q1, q2, h3⟩, q4, q5, q6⟩
theorem check_st {w : World} {i f f2 y : Bool} {a ka b_ ta : Option Addr} {n c kc bc tc : Nat} {es : List Ent} {k b t : List UInt8} (h : PrF w a n c es) (hk : KeysAt w) (hka : BytesAt w ka k) (hba : BytesAt w b_ b) (hta : BytesAt w ta t) (hkl : k.length ≤ 60) (hbl : b.length ≤ 90000) (htl : t.length ≤ 60) (h1 : chkF f es k b t = f2) (h2 : chkY i es k b t = y) :
    Calls Tryd.prog 13 #[.agg #[.bool i, .slice a n c, .bool f], .slice ka k.length kc, .slice b_ b.length bc, .slice ta t.length tc] w fun e w' => e = .returned (.tuple #[.agg #[.bool i, .slice a n c, .bool f2], .bool y]) ∧ Below w.heap.size w w' := by
  obtain ⟨e1, rfl, e3, e4, e5⟩ := h
  subst h1 h2
  exact check_any i f a ka b_ ta c kc bc tc es k b t w (by omega) e1 (by omega) hbl (by omega) hka hba hta hk
theorem two_bytes (W : World) (x y : UInt8) : BytesAt ((W.alloc (.cells #[.int .u8 (bv x)] 5)).alloc (.cells #[.int .u8 (bv y)] 5)) (some ⟨W.heap.size, 0, none⟩) [x] ∧
    BytesAt ((W.alloc (.cells #[.int .u8 (bv x)] 5)).alloc (.cells #[.int .u8 (bv y)] 5)) (some ⟨W.heap.size + 1, 0, none⟩) [y] ∧ Below W.heap.size W ((W.alloc (.cells #[.int .u8 (bv x)] 5)).alloc (.cells #[.int .u8 (bv y)] 5)) :=
  ⟨At.mono (at_new W (B8s [x]) 5) (ba _ _), by
    have h := at_new (W.alloc (.cells #[.int .u8 (bv x)] 5)) (B8s [y]) 5
    rw [size_alloc] at h; exact h, bta (ba W _) _⟩
/-- a pair of a byte each is tagged -/
theorem tag2_st {W : World} {i f : Bool} {a : Option Addr} {n c m : Nat} {es es2 : List Ent} {T : List UInt8} (x y : UInt8) (xi yi : Int) (hx : xi = bv x) (hy : yi = bv y) (h : PrF W a n c es) (hk : KeysAt W) (h1 : tagEs es [x] [y] = es2) (h2 : es2.length = m) (h3 : m ≤ 900) (h4 : rightT [x] [y] = T) :
    Calls Tryd.prog 11 #[.agg #[.bool i, .slice a n c, .bool f], .slice (some ⟨W.heap.size, 0, none⟩) 1 1, .slice (some ⟨W.heap.size + 1, 0, none⟩) 1 1] ((W.alloc (.cells #[.int .u8 xi] 5)).alloc (.cells #[.int .u8 yi] 5)) fun e w' => ∃ a' c' ta tc, e = .returned (.tuple #[.agg #[.bool i, .slice a' m c', .bool f], .slice ta 16 tc]) ∧ PrF w' a' m c' es2 ∧ (16 ≤ tc ∧ tc ≤ maxLen) ∧ BytesAt w' ta T ∧ Below W.heap.size W w' := by
  subst hx hy
  obtain ⟨b1, b2, b3⟩ := two_bytes W x y
  exact (tag_st (h.up b3) (hk.mono b3) b1 b2 (by simp) (by simp) h1 h2 h3 h4).mono fun e w' ⟨a', c', ta, tc, p, q1, q2, q3, q4⟩ => ⟨a', c', ta, tc, p, q1, q2, q3, bt b3 q4⟩
theorem check2_st {W : World} {i f f2 z : Bool} {a ta : Option Addr} {n c tc : Nat} {es : List Ent} {t : List UInt8} (x y : UInt8) (xi yi : Int) (hx : xi = bv x) (hy : yi = bv y) (h : PrF W a n c es) (hk : KeysAt W) (hta : BytesAt W ta t) (htl : t.length = 16) (h1 : chkF f es [x] [y] t = f2) (h2 : chkY i es [x] [y] t = z) :
    Calls Tryd.prog 13 #[.agg #[.bool i, .slice a n c, .bool f], .slice (some ⟨W.heap.size, 0, none⟩) 1 1, .slice (some ⟨W.heap.size + 1, 0, none⟩) 1 1, .slice ta 16 tc] ((W.alloc (.cells #[.int .u8 xi] 5)).alloc (.cells #[.int .u8 yi] 5)) fun e w' => e = .returned (.tuple #[.agg #[.bool i, .slice a n c, .bool f2], .bool z]) ∧ Below W.heap.size W w' := by
  subst hx hy
  obtain ⟨b1, b2, b3⟩ := two_bytes W x y
  have := check_st (i := i) (f := f) (tc := tc) (kc := 1) (bc := 1) (h.up b3) (hk.mono b3) b1 b2 (hta.mono b3) (by simp) (by simp) (by omega) h1 h2
  rw [htl] at this
  exact this.mono fun e w' ⟨p, q⟩ => ⟨p, bt b3 q⟩
theorem had2_st {W : World} {i f z : Bool} {a : Option Addr} {n c : Nat} {es : List Ent} (x y : UInt8) (xi yi : Int) (hx : xi = bv x) (hy : yi = bv y) (h : PrF W a n c es) (h1 : hadF es [x] [y] = z) :
    Calls Tryd.prog 17 #[.agg #[.bool i, .slice a n c, .bool f], .slice (some ⟨W.heap.size, 0, none⟩) 1 1, .slice (some ⟨W.heap.size + 1, 0, none⟩) 1 1] ((W.alloc (.cells #[.int .u8 xi] 5)).alloc (.cells #[.int .u8 yi] 5)) fun e w' => e = .returned (.bool z) ∧ Below W.heap.size W w' := by
  subst hx hy
  obtain ⟨b1, b2, b3⟩ := two_bytes W x y
  obtain ⟨e1, rfl, e3, e4, e5⟩ := h
  have := had_any i f a (some ⟨W.heap.size, 0, none⟩) (some ⟨W.heap.size + 1, 0, none⟩) c 1 1 es [x] [y] _ (by omega) (e1.mono b3) (by show 1 ≤ maxLen; decide) (by show 1 ≤ maxLen; decide) b1 b2
  rw [h1] at this
  exact this.mono fun e w' ⟨p, q⟩ => ⟨p, bt b3 q⟩
theorem same_st {w : World} {i f i2 f2 z : Bool} {a b : Option Addr} {n c m d : Nat} {es es2 : List Ent} (h : PrF w a n c es) (h2 : PrF w b m d es2) (h1 : sameP i f es i2 f2 es2 = z) :
    Calls Tryd.prog 19 #[.agg #[.bool i, .slice a n c, .bool f], .agg #[.bool i2, .slice b m d, .bool f2]] w fun e w' => e = .returned (.bool z) ∧ Below w.heap.size w w' := by
  obtain ⟨e1, rfl, e3, e4, e5⟩ := h
  obtain ⟨d1, rfl, d3, d4, d5⟩ := h2
  subst h1
  exact sameP_any i f i2 f2 a b c d es es2 w (by omega) (by omega) e1 d1
abbrev E12 : List Ent := [([1], [2])]
abbrev E13 : List Ent := [([1], [2]), ([1], [3])]
theorem t1213 : (rightT [1] [3] == rightT [1] [2]) = false := by decide +kernel
def Shown04OK : Prop := ∀ w, KeysAt w → Calls Tryd.prog 9 #[] w (BoolOut w true)

set_option maxRecDepth 100000 in
set_option maxHeartbeats 4000000 in
theorem shown04 : Shown04OK := by
  intro w hk
  have HI := Lib.hid prov_size
  have Hk := Lib.hid (fun W (h : Below w.heap.size w W) => hk.mono h)
  have hl2 := rightT_len [1] [2]
  have hl3 := rightT_len [1] [3]
  have q1 : tagEs [] [1] [2] = E12 := by decide
  have q2 : tagEs E12 [1] [3] = E13 := by decide
  have q3 : chkF false E12 [1] [2] (rightT [1] [2]) = false ∧ chkY true E12 [1] [2] (rightT [1] [2]) = true := by unfold chkF chkY; rw [beq_self_eq_true]; decide
  have q4 : chkF false E12 [1] [3] (rightT [1] [2]) = false ∧ chkY true E12 [1] [3] (rightT [1] [2]) = false := by unfold chkF chkY; rw [t1213]; decide
  have q5 : chkF false E12 [1] [3] (rightT [1] [3]) = true ∧ chkY true E12 [1] [3] (rightT [1] [3]) = false := by unfold chkF chkY; rw [beq_self_eq_true]; decide
  have q6 : chkF false [] [1] [3] (rightT [1] [3]) = true ∧ chkY false [] [1] [3] (rightT [1] [3]) = true := by unfold chkF chkY; rw [beq_self_eq_true]; decide
  have KN := Lib.hid (fun b W => new04_any b W)
  have K1 := Lib.hid (fun W (hk : KeysAt W) => tag2_st (m := 1) (i := true) (f := false) 1 2 1 2 rfl rfl (PrF.zero W) hk q1 rfl (by decide) rfl)
  have K2 := Lib.hid (fun a c ta tc W (h : PrF W a 1 c E12) (hk : KeysAt W) (ht : BytesAt W ta (rightT [1] [2])) => check2_st (i := true) (f := false) (tc := tc) 1 2 1 2 rfl rfl h hk ht hl2 q3.1 q3.2)
  have K3 := Lib.hid (fun a c ta tc W (h : PrF W a 1 c E12) (hk : KeysAt W) (ht : BytesAt W ta (rightT [1] [2])) => check2_st (i := true) (f := false) (tc := tc) 1 3 1 3 rfl rfl h hk ht hl2 q4.1 q4.2)
  have K4 := Lib.hid (fun a c W (h : PrF W a 1 c E12) (hk : KeysAt W) => tag2_st (m := 2) (i := true) (f := false) 1 3 1 3 rfl rfl h hk q2 rfl (by decide) rfl)
  have K5 := Lib.hid (fun a c ta tc W (h : PrF W a 1 c E12) (hk : KeysAt W) (ht : BytesAt W ta (rightT [1] [3])) => check2_st (i := true) (f := false) (tc := tc) 1 3 1 3 rfl rfl h hk ht hl3 q5.1 q5.2)
  have K6 := Lib.hid (fun ta tc W (hk : KeysAt W) (ht : BytesAt W ta (rightT [1] [3])) => check2_st (i := false) (f := false) (tc := tc) 1 3 1 3 rfl rfl (PrF.zero W) hk ht hl3 q6.1 q6.2)
  have K7 := Lib.hid (fun a c W (h : PrF W a 1 c E12) => had2_st (i := true) (f := false) 1 2 1 2 rfl rfl h (show hadF E12 [1] [2] = true by decide))
  have K8 := Lib.hid (fun a c W (h : PrF W a 1 c E12) => had2_st (i := true) (f := false) 2 2 2 2 rfl rfl h (show hadF E12 [2] [2] = false by decide))
  have K9 := Lib.hid (fun a c W (h : PrF W a 1 c E12) => same_st (i := true) (f := false) (i2 := true) (f2 := false) h h (show sameP true false E12 true false E12 = true by decide))
  have K10 := Lib.hid (fun a c W (h : PrF W a 1 c E12) => same_st (i := true) (f := false) (i2 := true) (f2 := true) h h (show sameP true false E12 true true E12 = false by decide))
  clear hk q1 q2 q3 q4 q5 q6 hl2 hl3
  generalize rightT [1] [2] = T2 at *
  generalize rightT [1] [3] = T3 at *
  generalize E12 = Q1 at *
  generalize E13 = Q2 at *
  have G := Lib.hid (Below.refl w.heap.size w)
  go_enter Tryd.func9, Tryd.ntmps9
  go_upto_region 1 with (fail)
  go_cut [2, 1] (fun v2 v1 wx => ∃ a1 : Option Addr, ∃ c1 : Nat, ∃ t1 : Option Addr, ∃ d1 : Nat, ∃ b1 : Nat, v2 = .slice t1 16 d1 ∧ v1 = .pointer (some ⟨b1, 0, none⟩) ∧ BlkT 24 wx b1 (prL true a1 1 c1 false) ∧ Below w.heap.size w wx ∧ PrF wx a1 1 c1 Q1 ∧ BytesAt wx t1 T2)
  case first =>
    go_wp2_with fail
    refine (KN.out _ _).mono ?_; rintro e wn0 ⟨rfl, hb0⟩
    go_wp2_with fail
    refine (K1.out _ (Hk.out _ (bt G.out hb0))).mono ?_; rintro e wn ⟨a1, c1, t1, d1, rfl, hS1, -, hT1, hb1⟩; have hb := bt hb0 hb1
    go_wp2_with (refine wpList_store_blk 24 (.tmp 1) (.tmp 18) _ (old := zeroP) (cs := (prL true a1 1 c1 false)) rfl rfl rfl rfl (Blk.new _ _ _) HI.out rfl rfl ?_)
    go_meet
    exact ⟨a1, c1, t1, d1, _, rfl, rfl, layP_blk _ _ _ _, (bt G.out (bt hb (layP_below _ _ _ _))), (hS1).up (layP_below _ _ _ _), (hT1).mono (layP_below _ _ _ _)⟩
  case rest =>
    obtain ⟨a1, c1, t1, d1, b1, rfl, rfl, hB1, hG, hS1, hT1⟩ := hcut
    have B1 := Lib.hid hB1
    replace G := Lib.hid hG
    have S1 := Lib.hid hS1
    have T1 := Lib.hid hT1
    clear hB1 hG hS1 hT1
    go_upto_region 2 with (fail)
    go_cut [4, 3] (fun v4 v3 wx => ∃ b3 : Nat, v4 = .bool true ∧ v3 = .pointer (some ⟨b3, 0, none⟩) ∧ BlkT 24 wx b3 (prL true a1 1 c1 false) ∧ BlkT 24 wx b1 (prL true a1 1 c1 false) ∧ Below w.heap.size w wx ∧ PrF wx a1 1 c1 Q1 ∧ BytesAt wx t1 T2)
    case first =>
      go_wp2_with (first
              | (refine wpList_load_blk 24 (.tmp 1) b1 (cs := (prL true a1 1 c1 false)) rfl rfl rfl B1.out.blk Tryd.underlying24 rfl HI.out ?_)
              | (refine wpList_load_blkP 24 (.tmp 1) b1 (cs := (prL true a1 1 c1 false)) (by first | rfl | simp [Region.wanted, yielded]) rfl rfl B1.out.blk Tryd.underlying24 rfl HI.out ?_))
      refine (K2.out a1 c1 t1 d1 _ S1.out (Hk.out _ G.out) T1.out).mono ?_; rintro e wn ⟨rfl, hb⟩
      go_wp2_with (refine wpList_store_blk 24 (.tmp 3) (.tmp 26) _ (old := zeroP) (cs := (prL true a1 1 c1 false)) rfl rfl rfl rfl (Blk.new _ _ _) HI.out rfl rfl ?_)
      go_meet
      exact ⟨_, rfl, rfl, layP_blk _ _ _ _, (B1.out.up (bt hb (layP_below _ _ _ _))), (bt G.out (bt hb (layP_below _ _ _ _))), (S1.out.up (bt hb (layP_below _ _ _ _))), (T1.out.mono (bt hb (layP_below _ _ _ _)))⟩
    case rest =>
      obtain ⟨b3, rfl, rfl, hB3, hB1, hG, hS1, hT1⟩ := hcut
      have B3 := Lib.hid hB3
      replace B1 := Lib.hid hB1
      replace G := Lib.hid hG
      replace S1 := Lib.hid hS1
      replace T1 := Lib.hid hT1
      clear hB3 hB1 hG hS1 hT1
      go_upto_region 3 with (fail)
      go_cut [6, 5] (fun v6 v5 wx => ∃ b5 : Nat, v6 = .bool false ∧ v5 = .pointer (some ⟨b5, 0, none⟩) ∧ BlkT 24 wx b5 (prL true a1 1 c1 false) ∧ BlkT 24 wx b1 (prL true a1 1 c1 false) ∧ BlkT 24 wx b3 (prL true a1 1 c1 false) ∧ Below w.heap.size w wx ∧ PrF wx a1 1 c1 Q1 ∧ BytesAt wx t1 T2)
      case first =>
        go_wp2_with (first
                  | (refine wpList_load_blk 24 (.tmp 3) b3 (cs := (prL true a1 1 c1 false)) rfl rfl rfl B3.out.blk Tryd.underlying24 rfl HI.out ?_)
                  | (refine wpList_load_blkP 24 (.tmp 3) b3 (cs := (prL true a1 1 c1 false)) (by first | rfl | simp [Region.wanted, yielded]) rfl rfl B3.out.blk Tryd.underlying24 rfl HI.out ?_))
        refine (K3.out a1 c1 t1 d1 _ S1.out (Hk.out _ G.out) T1.out).mono ?_; rintro e wn ⟨rfl, hb⟩
        go_wp2_with (refine wpList_store_blk 24 (.tmp 5) (.tmp 34) _ (old := zeroP) (cs := (prL true a1 1 c1 false)) rfl rfl rfl rfl (Blk.new _ _ _) HI.out rfl rfl ?_)
        go_meet
        exact ⟨_, rfl, rfl, layP_blk _ _ _ _, (B1.out.up (bt hb (layP_below _ _ _ _))), (B3.out.up (bt hb (layP_below _ _ _ _))), (bt G.out (bt hb (layP_below _ _ _ _))), (S1.out.up (bt hb (layP_below _ _ _ _))), (T1.out.mono (bt hb (layP_below _ _ _ _)))⟩
      case rest =>
        obtain ⟨b5, rfl, rfl, hB5, hB1, hB3, hG, hS1, hT1⟩ := hcut
        have B5 := Lib.hid hB5
        replace B1 := Lib.hid hB1
        replace B3 := Lib.hid hB3
        replace G := Lib.hid hG
        replace S1 := Lib.hid hS1
        replace T1 := Lib.hid hT1
        clear hB5 hB1 hB3 hG hS1 hT1
        go_upto_region 4 with (fail)
        go_cut [8, 7] (fun v8 v7 wx => ∃ a4 : Option Addr, ∃ c4 : Nat, ∃ t4 : Option Addr, ∃ d4 : Nat, ∃ b7 : Nat, v8 = .slice t4 16 d4 ∧ v7 = .pointer (some ⟨b7, 0, none⟩) ∧ BlkT 24 wx b7 (prL true a4 2 c4 false) ∧ BlkT 24 wx b1 (prL true a1 1 c1 false) ∧ BlkT 24 wx b3 (prL true a1 1 c1 false) ∧ BlkT 24 wx b5 (prL true a1 1 c1 false) ∧ Below w.heap.size w wx ∧ PrF wx a1 1 c1 Q1 ∧ BytesAt wx t1 T2 ∧ BytesAt wx t4 T3)
        case first =>
          go_wp2_with (first
                      | (refine wpList_load_blk 24 (.tmp 1) b1 (cs := (prL true a1 1 c1 false)) rfl rfl rfl B1.out.blk Tryd.underlying24 rfl HI.out ?_)
                      | (refine wpList_load_blkP 24 (.tmp 1) b1 (cs := (prL true a1 1 c1 false)) (by first | rfl | simp [Region.wanted, yielded]) rfl rfl B1.out.blk Tryd.underlying24 rfl HI.out ?_))
          refine (K4.out a1 c1 _ S1.out (Hk.out _ G.out)).mono ?_; rintro e wn ⟨a4, c4, t4, d4, rfl, hS4, -, hT4, hb⟩
          go_wp2_with (refine wpList_store_blk 24 (.tmp 7) (.tmp 41) _ (old := zeroP) (cs := (prL true a4 2 c4 false)) rfl rfl rfl rfl (Blk.new _ _ _) HI.out rfl rfl ?_)
          go_meet
          exact ⟨a4, c4, t4, d4, _, rfl, rfl, layP_blk _ _ _ _, (B1.out.up (bt hb (layP_below _ _ _ _))), (B3.out.up (bt hb (layP_below _ _ _ _))), (B5.out.up (bt hb (layP_below _ _ _ _))), (bt G.out (bt hb (layP_below _ _ _ _))), (S1.out.up (bt hb (layP_below _ _ _ _))), (T1.out.mono (bt hb (layP_below _ _ _ _))), (hT4).mono (layP_below _ _ _ _)⟩
        case rest =>
          obtain ⟨a4, c4, t4, d4, b7, rfl, rfl, hB7, hB1, hB3, hB5, hG, hS1, hT1, hT4⟩ := hcut
          have B7 := Lib.hid hB7
          replace B1 := Lib.hid hB1
          replace B3 := Lib.hid hB3
          replace B5 := Lib.hid hB5
          replace G := Lib.hid hG
          replace S1 := Lib.hid hS1
          replace T1 := Lib.hid hT1
          have T4 := Lib.hid hT4
          clear hB7 hB1 hB3 hB5 hG hS1 hT1 hT4
          clear B7
          go_upto_region 5 with (fail)
          go_cut [10, 9] (fun v10 v9 wx => ∃ b9 : Nat, v10 = .bool false ∧ v9 = .pointer (some ⟨b9, 0, none⟩) ∧ BlkT 24 wx b9 (prL true a1 1 c1 true) ∧ BlkT 24 wx b1 (prL true a1 1 c1 false) ∧ BlkT 24 wx b3 (prL true a1 1 c1 false) ∧ BlkT 24 wx b5 (prL true a1 1 c1 false) ∧ Below w.heap.size w wx ∧ PrF wx a1 1 c1 Q1 ∧ BytesAt wx t1 T2 ∧ BytesAt wx t4 T3)
          case first =>
            go_wp2_with (first
                          | (refine wpList_load_blk 24 (.tmp 5) b5 (cs := (prL true a1 1 c1 false)) rfl rfl rfl B5.out.blk Tryd.underlying24 rfl HI.out ?_)
                          | (refine wpList_load_blkP 24 (.tmp 5) b5 (cs := (prL true a1 1 c1 false)) (by first | rfl | simp [Region.wanted, yielded]) rfl rfl B5.out.blk Tryd.underlying24 rfl HI.out ?_))
            refine (K5.out a1 c1 t4 d4 _ S1.out (Hk.out _ G.out) T4.out).mono ?_; rintro e wn ⟨rfl, hb⟩
            go_wp2_with (refine wpList_store_blk 24 (.tmp 9) (.tmp 49) _ (old := zeroP) (cs := (prL true a1 1 c1 true)) rfl rfl rfl rfl (Blk.new _ _ _) HI.out rfl rfl ?_)
            go_meet
            exact ⟨_, rfl, rfl, layP_blk _ _ _ _, (B1.out.up (bt hb (layP_below _ _ _ _))), (B3.out.up (bt hb (layP_below _ _ _ _))), (B5.out.up (bt hb (layP_below _ _ _ _))), (bt G.out (bt hb (layP_below _ _ _ _))), (S1.out.up (bt hb (layP_below _ _ _ _))), (T1.out.mono (bt hb (layP_below _ _ _ _))), (T4.out.mono (bt hb (layP_below _ _ _ _)))⟩
          case rest =>
            obtain ⟨b9, rfl, rfl, hB9, hB1, hB3, hB5, hG, hS1, hT1, hT4⟩ := hcut
            have B9 := Lib.hid hB9
            replace B1 := Lib.hid hB1
            replace B3 := Lib.hid hB3
            replace B5 := Lib.hid hB5
            replace G := Lib.hid hG
            replace S1 := Lib.hid hS1
            replace T1 := Lib.hid hT1
            replace T4 := Lib.hid hT4
            clear hB9 hB1 hB3 hB5 hG hS1 hT1 hT4
            go_upto_region 6 with (fail)
            go_cut [12, 11] (fun v12 v11 wx => ∃ b11 : Nat, v12 = .bool true ∧ v11 = .pointer (some ⟨b11, 0, none⟩) ∧ BlkT 24 wx b11 (prL false none 0 0 true) ∧ BlkT 24 wx b1 (prL true a1 1 c1 false) ∧ BlkT 24 wx b3 (prL true a1 1 c1 false) ∧ BlkT 24 wx b5 (prL true a1 1 c1 false) ∧ BlkT 24 wx b9 (prL true a1 1 c1 true) ∧ Below w.heap.size w wx ∧ PrF wx a1 1 c1 Q1 ∧ BytesAt wx t1 T2 ∧ BytesAt wx t4 T3)
            case first =>
              go_wp2_with fail
              refine (KN.out _ _).mono ?_; rintro e wn0 ⟨rfl, hb0⟩
              go_wp2_with fail
              refine (K6.out t4 d4 _ (Hk.out _ (bt G.out hb0)) (T4.out.mono hb0)).mono ?_; rintro e wn ⟨rfl, hb1⟩; have hb := bt hb0 hb1
              go_wp2_with (refine wpList_store_blk 24 (.tmp 11) (.tmp 57) _ (old := zeroP) (cs := (prL false none 0 0 true)) rfl rfl rfl rfl (Blk.new _ _ _) HI.out rfl rfl ?_)
              go_meet
              exact ⟨_, rfl, rfl, layP_blk _ _ _ _, (B1.out.up (bt hb (layP_below _ _ _ _))), (B3.out.up (bt hb (layP_below _ _ _ _))), (B5.out.up (bt hb (layP_below _ _ _ _))), (B9.out.up (bt hb (layP_below _ _ _ _))), (bt G.out (bt hb (layP_below _ _ _ _))), (S1.out.up (bt hb (layP_below _ _ _ _))), (T1.out.mono (bt hb (layP_below _ _ _ _))), (T4.out.mono (bt hb (layP_below _ _ _ _)))⟩
            case rest =>
              obtain ⟨b11, rfl, rfl, hB11, hB1, hB3, hB5, hB9, hG, hS1, hT1, hT4⟩ := hcut
              have B11 := Lib.hid hB11
              replace B1 := Lib.hid hB1
              replace B3 := Lib.hid hB3
              replace B5 := Lib.hid hB5
              replace B9 := Lib.hid hB9
              replace G := Lib.hid hG
              replace S1 := Lib.hid hS1
              replace T1 := Lib.hid hT1
              replace T4 := Lib.hid hT4
              clear hB11 hB1 hB3 hB5 hB9 hG hS1 hT1 hT4
              obtain ⟨gx0, gx1, gx2⟩ := cells3P B3.out.blk
              obtain ⟨gy0, gy1, gy2⟩ := cells3P B5.out.blk
              obtain ⟨gz0, gz1, gz2⟩ := cells3P B9.out.blk
              obtain ⟨gu0, gu1, gu2⟩ := cells3P B11.out.blk
              go_wp2_with (first
                                | (refine wpList_load_blk 24 (.tmp 1) b1 (cs := (prL true a1 1 c1 false)) rfl rfl rfl B1.out.blk Tryd.underlying24 rfl HI.out ?_)
                                | (refine wpList_load_blkP 24 (.tmp 1) b1 (cs := (prL true a1 1 c1 false)) (by first | rfl | simp [Region.wanted, yielded]) rfl rfl B1.out.blk Tryd.underlying24 rfl HI.out ?_))
              refine (K7.out a1 c1 _ S1.out).mono ?_; rintro e y1 ⟨rfl, hb⟩
              replace B1 := Lib.hid (B1.out.up hb)
              replace B3 := Lib.hid (B3.out.up hb)
              replace B5 := Lib.hid (B5.out.up hb)
              replace B9 := Lib.hid (B9.out.up hb)
              replace B11 := Lib.hid (B11.out.up hb)
              replace G := Lib.hid (bt G.out hb)
              replace S1 := Lib.hid (S1.out.up hb)
              replace T1 := Lib.hid (T1.out.mono hb)
              replace T4 := Lib.hid (T4.out.mono hb)
              clear hb
              clear gx0 gx1 gx2 gy0 gy1 gy2 gz0 gz1 gz2 gu0 gu1 gu2
              go_wp2_with (first
                                | (refine wpList_load_blk 24 (.tmp 1) b1 (cs := (prL true a1 1 c1 false)) rfl rfl rfl B1.out.blk Tryd.underlying24 rfl HI.out ?_)
                                | (refine wpList_load_blkP 24 (.tmp 1) b1 (cs := (prL true a1 1 c1 false)) (by first | rfl | simp [Region.wanted, yielded]) rfl rfl B1.out.blk Tryd.underlying24 rfl HI.out ?_))
              refine (K8.out a1 c1 _ S1.out).mono ?_; rintro e y2 ⟨rfl, hb⟩
              replace B1 := Lib.hid (B1.out.up hb)
              replace B3 := Lib.hid (B3.out.up hb)
              replace B5 := Lib.hid (B5.out.up hb)
              replace B9 := Lib.hid (B9.out.up hb)
              replace B11 := Lib.hid (B11.out.up hb)
              replace G := Lib.hid (bt G.out hb)
              replace S1 := Lib.hid (S1.out.up hb)
              replace T1 := Lib.hid (T1.out.mono hb)
              replace T4 := Lib.hid (T4.out.mono hb)
              clear hb
              go_wp2_with (first
                                | (refine wpList_load_blk 24 (.tmp 1) b1 (cs := (prL true a1 1 c1 false)) rfl rfl rfl B1.out.blk Tryd.underlying24 rfl HI.out ?_)
                                | (refine wpList_load_blk 24 (.tmp 3) b3 (cs := (prL true a1 1 c1 false)) rfl rfl rfl B3.out.blk Tryd.underlying24 rfl HI.out ?_)
                                | (refine wpList_load_blkP 24 (.tmp 1) b1 (cs := (prL true a1 1 c1 false)) (by first | rfl | simp [Region.wanted, yielded]) rfl rfl B1.out.blk Tryd.underlying24 rfl HI.out ?_)
                                | (refine wpList_load_blkP 24 (.tmp 3) b3 (cs := (prL true a1 1 c1 false)) (by first | rfl | simp [Region.wanted, yielded]) rfl rfl B3.out.blk Tryd.underlying24 rfl HI.out ?_))
              refine (K9.out a1 c1 _ S1.out).mono ?_; rintro e y3 ⟨rfl, hb⟩
              replace B1 := Lib.hid (B1.out.up hb)
              replace B3 := Lib.hid (B3.out.up hb)
              replace B5 := Lib.hid (B5.out.up hb)
              replace B9 := Lib.hid (B9.out.up hb)
              replace B11 := Lib.hid (B11.out.up hb)
              replace G := Lib.hid (bt G.out hb)
              replace S1 := Lib.hid (S1.out.up hb)
              replace T1 := Lib.hid (T1.out.mono hb)
              replace T4 := Lib.hid (T4.out.mono hb)
              clear hb
              go_wp2_with (first
                                | (refine wpList_load_blk 24 (.tmp 1) b1 (cs := (prL true a1 1 c1 false)) rfl rfl rfl B1.out.blk Tryd.underlying24 rfl HI.out ?_)
                                | (refine wpList_load_blk 24 (.tmp 9) b9 (cs := (prL true a1 1 c1 true)) rfl rfl rfl B9.out.blk Tryd.underlying24 rfl HI.out ?_)
                                | (refine wpList_load_blkP 24 (.tmp 1) b1 (cs := (prL true a1 1 c1 false)) (by first | rfl | simp [Region.wanted, yielded]) rfl rfl B1.out.blk Tryd.underlying24 rfl HI.out ?_)
                                | (refine wpList_load_blkP 24 (.tmp 9) b9 (cs := (prL true a1 1 c1 true)) (by first | rfl | simp [Region.wanted, yielded]) rfl rfl B9.out.blk Tryd.underlying24 rfl HI.out ?_))
              refine (K10.out a1 c1 _ S1.out).mono ?_; rintro e y4 ⟨rfl, hb⟩
              replace B1 := Lib.hid (B1.out.up hb)
              replace B3 := Lib.hid (B3.out.up hb)
              replace B5 := Lib.hid (B5.out.up hb)
              replace B9 := Lib.hid (B9.out.up hb)
              replace B11 := Lib.hid (B11.out.up hb)
              replace G := Lib.hid (bt G.out hb)
              replace S1 := Lib.hid (S1.out.up hb)
              replace T1 := Lib.hid (T1.out.mono hb)
              replace T4 := Lib.hid (T4.out.mono hb)
              clear hb
              go_wp2_with fail
              go_ret
              exact ⟨rfl, G.out⟩
end Go.Proofs.YthmcmkdncaccbaaDoor
