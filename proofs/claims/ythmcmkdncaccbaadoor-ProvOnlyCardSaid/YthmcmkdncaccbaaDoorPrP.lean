/- A provider is asked one thing: by the kind of the question. -/
import Derived.Test.YthmcmkdncaccbaaDoorPrS
set_option linter.unusedSimpArgs false
set_option linter.unusedVariables false
namespace Go.Proofs.YthmcmkdncaccbaaDoor
open Go.RowKit

theorem results_blk_tmp2 {P : Program} {fn : Func} {p u v : Tmp} {ty : TypeId} (h : fn.results = #[.cell p ty, .tmp u, .tmp v]) (tmps : Array Value) (w : World) (g : Nat) {cs : List Value} {d : TypeDesc}
    (hp : tmps.getD p undef = .pointer (some ⟨g, 0, none⟩)) (v2 v3 : Value) (hv : tmps.getD u undef = v2) (hv3 : tmps.getD v undef = v3) (hb : Blk w g cs) (hu : P.underlying ty = some d) (hd : (match d with | .struct _ | .array _ _ => true | _ => false) = true) (hi : (P.info? ty).map (·.size) = some cs.length) :
    (results fn tmps).run P w = .ok (.tuple #[.agg cs.toArray, v2, v3]) w := by
  obtain ⟨T, hg⟩ := hb
  have h1 := run_loadVar_row (P := P) w g T ty cs.toArray _ d hg hu hd (by simpa using hi)
  have e : (results fn tmps).run P w = ((asAddr (tmps.getD p undef)).run P w).andThen fun a w₁ => ((loadVar ty a).run P w₁).andThen fun v' w₂ => .ok (.tuple #[v', tmps.getD u undef, tmps.getD v undef]) w₂ := by
    simp only [results, h]
    simp [Sem.run_bind, Result.andThen]
  rw [e, hp, hv, hv3]
  simp [asAddr, h1]
/-- rows of bytes in blocks of a kind -/
def GivP (p : Nat → Prop) (w : World) (a : Option Addr) (rows : List (List UInt8)) : Prop := ∃ vs, AtP p w a vs ∧ RowsOf w vs rows
theorem GivP.rows {p : Nat → Prop} {w : World} {a : Option Addr} {rows : List (List UInt8)} (h : GivP p w a rows) : RowsAt w a rows := by
  obtain ⟨vs, h1, h2⟩ := h
  exact ⟨vs, h1.at, h2⟩
theorem GivP.up {p : Nat → Prop} {w w' : World} {a : Option Addr} {rows : List (List UInt8)} (h : GivP p w a rows) (hb : Below w.heap.size w w') : GivP p w' a rows := by
  obtain ⟨vs, h1, h2⟩ := h
  exact ⟨vs, h1.up hb, h2.mono hb⟩
theorem GivP.nil (p : Nat → Prop) (w : World) (a : Option Addr) : GivP p w a [] := ⟨[], .inl rfl, .nil w⟩
theorem cells4 {w : World} {b : Nat} {v0 v1 v2 v3 : Value} (h : Blk w b [v0, v1, v2, v3]) : w.cell? ⟨b, 0, none⟩ = some v0 ∧ w.cell? ⟨b, 1, none⟩ = some v1 ∧ w.cell? ⟨b, 2, none⟩ = some v2 ∧ w.cell? ⟨b, 3, none⟩ = some v3 :=
  ⟨h.cell 0 (by simp), h.cell 1 (by simp), h.cell 2 (by simp), h.cell 3 (by simp)⟩
theorem bv_mod3 (x : UInt8) : (bv x).tmod 3 = bv (x % 3) := by
  unfold bv
  rw [Int.tmod_eq_emod_of_nonneg (by omega), UInt8.toNat_mod]
  exact (Int.natCast_emod _ _).symm
theorem bv_wrap (x : UInt8) : IntKind.u8.wrap (bv x) = bv x := by
  have := x.toNat_lt
  unfold bv
  exact wrap_nat8 _ (by omega)
theorem bv_mod4 (x : UInt8) : (bv x).tmod 4 = ((x.toNat % 4 : Nat) : Int) := by
  unfold bv
  rw [Int.tmod_eq_emod_of_nonneg (by omega)]
  exact (Int.natCast_emod _ _).symm

set_option maxRecDepth 100000 in
set_option maxHeartbeats 4000000 in
theorem asked_tag {w : World} {i f : Bool} {a ta ga : Option Addr} {n c tc gl gc : Nat} {es : List Ent} {kind key b : UInt8} {t : List UInt8} {gs : List (List UInt8)} {es2 : List Ent} {m : Nat} {R : List UInt8} (h : PrF w a n c es) (hk : KeysAt w) (hg : RowsAt w ga gs) (hgl : gs.length = gl) (hgl2 : gl ≤ 100) (h0 : kind.toNat % 4 = 0) (h1 : tagEs es [key % 3] [b % 3] = es2) (h2 : es2.length = m) (h3 : m ≤ 900) (h4 : rightT [key % 3] [b % 3] = R) :
    Calls Tryd.prog 22 #[.agg #[.bool i, .slice a n c, .bool f], .agg #[.int .u8 (bv kind), .int .u8 (bv key), .int .u8 (bv b), .slice ta t.length tc], .slice ga gl gc] w fun e w' => ∃ a' c' ga' gc', e = .returned (.tuple #[.agg #[.bool i, .slice a' m c', .bool f], .bool true, .slice ga' (gl + 1) gc']) ∧ PrF w' a' m c' es2 ∧ (gl + 1 ≤ gc' ∧ gc' ≤ maxLen) ∧ GivP (fun g => w.heap.size ≤ g) w' ga' (gs ++ [R]) ∧ Below w.heap.size w w' := by
  have HI := Lib.hid prov_size
  have m1 := bv_mod3 key
  have m2 := bv_mod3 b
  generalize key % 3 = x at *
  generalize b % 3 = y at *
  have u1 := bv_wrap x
  have u2 := bv_wrap y
  have m4 : (bv kind).tmod 4 = 0 := by rw [bv_mod4, h0]; rfl
  have K1 := Lib.hid (fun ka ba_ W (p : Below w.heap.size w W) (q1 : BytesAt W ka [x]) (q2 : BytesAt W ba_ [y]) => tag_st (i := i) (f := f) (kc := 1) (bc := 1) (h.up p) (hk.mono p) q1 q2 (by simp) (by simp) h1 h2 h3 h4)
  have HRl := Lib.hid (show R.length = 16 by rw [← h4]; exact rightT_len _ _)
  obtain ⟨vs, hvs, hrows⟩ := hg
  have HV := Lib.hid hvs
  have HR := Lib.hid hrows
  have HL := Lib.hid (show vs.length = gl ∧ gl ≤ 100000 from ⟨hrows.1.trans hgl, by omega⟩)
  clear h hk hgl hgl2 h0 h1 h2 h3 h4 hvs hrows
  generalize t.length = tl at *
  go_enter Tryd.func22, Tryd.ntmps22
  go_upto_region 1 with (fail)
  generalize hW : World.alloc (World.alloc (World.alloc w _) _) _ = W
  have B3 := Lib.hid (show BlkT 24 W w.heap.size [.bool i, .slice a n c, .bool f] by rw [← hW]; exact ((BlkT.new w [.bool i, .slice a n c, .bool f] _).up (ba _ _)).up (ba _ _))
  have B4 := Lib.hid (show BlkT 42 W (w.heap.size + 1) [.int .u8 (bv kind), .int .u8 (bv key), .int .u8 (bv b), .slice ta tl tc] by rw [← hW, ← size_alloc w (.cells #[.bool i, .slice a n c, .bool f] 24)]; exact (BlkT.new _ [.int .u8 (bv kind), .int .u8 (bv key), .int .u8 (bv b), .slice ta tl tc] _).up (ba _ _))
  have B6 := Lib.hid (show BlkT 24 W (w.heap.size + 1 + 1) zeroP by rw [← hW, ← size_alloc w (.cells #[.bool i, .slice a n c, .bool f] 24), ← size_alloc _ (.cells #[.int .u8 (bv kind), .int .u8 (bv key), .int .u8 (bv b), .slice ta tl tc] 42)]; exact BlkT.new _ zeroP _)
  have G := Lib.hid (show Below w.heap.size w W by rw [← hW]; exact bta (bta (ba w _) _) _)
  clear hW
  have L6 := Lib.hid (show w.heap.size ≤ w.heap.size + 1 + 1 by omega)
  have N36 := Lib.hid (show w.heap.size ≠ w.heap.size + 1 + 1 by omega)
  generalize hb6 : w.heap.size + 1 + 1 = b6 at *
  generalize hb4 : w.heap.size + 1 = b4 at *
  clear hb6 hb4
  obtain ⟨b3, hb3⟩ : ∃ b3, b3 = w.heap.size := ⟨_, rfl⟩
  rw [← hb3] at B3 N36
  simp only [← hb3]
  clear hb3
  obtain ⟨y0, y1, y2, y3⟩ := cells4 B4.out.blk
  have hlt4 : b4 < W.heap.size := B4.out.blk.lt
  go_upto_region 3 with (fail)
  obtain ⟨tb1, tb2, tb3⟩ := two_bytes W x y
  generalize hX : World.alloc (World.alloc W _) _ = X at *
  have KA := Lib.hid tb1
  have BA := Lib.hid tb2
  clear hlt4 y0 y1 y2 y3 tb1 tb2 hX
  have hs1 : W.heap.size + 1 = W.heap.size + 1 := rfl
  have LW6 := B6.out.blk.lt
  replace B3 := Lib.hid (B3.out.up tb3)
  replace B4 := Lib.hid (B4.out.up tb3)
  replace B6 := Lib.hid (B6.out.up tb3)
  replace G := Lib.hid (bt G.out tb3)
  clear tb3 hs1
  generalize some (⟨W.heap.size, 0, none⟩ : Addr) = ka at *
  generalize some (⟨W.heap.size + 1, 0, none⟩ : Addr) = ba_ at *
  have G0 := Lib.hid G.out
  have LX6 := Lib.hid B6.out.blk.lt
  clear LW6 G
  have G := Lib.hid (Below.refl X.heap.size X)
  obtain ⟨y0, y1, y2, y3⟩ := cells4 B4.out.blk
  go_upto_region 5 with (fail)
  clear y0 y1 y2 y3 m1 m2 m4 u1 u2
  go_cut [12, 11] (fun v12 v11 wx => ∃ a1 : Option Addr, ∃ c1 : Nat, ∃ t1 : Option Addr, ∃ d1 : Nat, ∃ b11 : Nat, v12 = .slice t1 16 d1 ∧ v11 = .pointer (some ⟨b11, 0, none⟩) ∧ BlkT 24 wx b11 (prL i a1 m c1 f) ∧ X.heap.size ≤ b11 ∧ BlkT 24 wx b3 (prL i a n c f) ∧ BlkT 42 wx b4 [.int .u8 (bv kind), .int .u8 (bv key), .int .u8 (bv b), .slice ta tl tc] ∧ BlkT 24 wx b6 zeroP ∧ Below X.heap.size X wx ∧ Below w.heap.size w wx ∧ BytesAt wx ka [x] ∧ BytesAt wx ba_ [y] ∧ PrF wx a1 m c1 es2 ∧ BytesAt wx t1 R ∧ (16 ≤ d1 ∧ d1 ≤ maxLen))
  case first =>
    go_wp2_with (first
          | (refine wpList_load_blk 24 (.tmp 3) b3 (cs := (prL i a n c f)) rfl rfl rfl B3.out.blk Tryd.underlying24 rfl HI.out ?_)
          | (refine wpList_load_blkP 24 (.tmp 3) b3 (cs := (prL i a n c f)) (by first | rfl | simp [Region.wanted, yielded]) rfl rfl B3.out.blk Tryd.underlying24 rfl HI.out ?_))
    refine (K1.out ka ba_ _ G0.out KA.out BA.out).mono ?_; rintro e wn ⟨a1, c1, t1, d1, rfl, hS1, hD1, hT1, hb⟩
    go_wp2_with (refine wpList_store_blk 24 (.tmp 11) (.tmp 38) _ (old := zeroP) (cs := (prL i a1 m c1 f)) rfl rfl rfl rfl (Blk.new _ _ _) HI.out rfl rfl ?_)
    go_meet
    exact ⟨a1, c1, t1, d1, _, rfl, rfl, layP_blk _ _ _ _, Nat.le_trans G.out.size hb.size, (B3.out.up (bt hb (layP_below _ _ _ _))), (B4.out.up (bt hb (layP_below _ _ _ _))), (B6.out.up (bt hb (layP_below _ _ _ _))), (bt G.out (bt hb (layP_below _ _ _ _))), (bt G0.out (bt hb (layP_below _ _ _ _))), (KA.out.mono (bt hb (layP_below _ _ _ _))), (BA.out.mono (bt hb (layP_below _ _ _ _))), (hS1).up (layP_below _ _ _ _), (hT1).mono (layP_below _ _ _ _), hD1⟩
  case rest =>
    obtain ⟨a1, c1, t1, d1, b11, rfl, rfl, hB11, hLow11, hB3, hB4, hB6, hG, hG0, hKA, hBA, hS1, hT1, hD1⟩ := hcut
    have B11 := Lib.hid hB11
    have Low11 := Lib.hid hLow11
    replace B3 := Lib.hid hB3
    replace B4 := Lib.hid hB4
    replace B6 := Lib.hid hB6
    replace G := Lib.hid hG
    replace G0 := Lib.hid hG0
    replace KA := Lib.hid hKA
    replace BA := Lib.hid hBA
    have S1 := Lib.hid hS1
    have T1 := Lib.hid hT1
    have D1 := Lib.hid hD1
    clear hB11 hLow11 hB3 hB4 hB6 hG hG0 hKA hBA hS1 hT1 hD1
    go_upto_region 6 with (fail)
    refine asked6_law (Nat.le_refl _) rfl rfl rfl rfl B11.out B6.out (Ne.symm (Nat.ne_of_lt (Nat.lt_of_lt_of_le LX6.out Low11.out))) G0.out L6.out (HV.out.mono G0.out) HL.out.1 HR.out.cells HL.out.2 (fun _ _ d _ _ h => by cases d <;> exact h) ?_
    intro x0 x1 x2 x3 x4 x5 x6 a6 c6 u hY hC hZ hK hG
    simp only [fill, Act.put, List.setIfInBounds_toArray, List.set_cons_zero, List.set_cons_succ]
    go_wp2_with fail
    refine bodyPost_ret (results_blk_tmp2 rfl _ _ b6 (cs := (prL i a1 m c1 f)) rfl _ _ rfl rfl hZ.blk Tryd.underlying24 rfl HI.out) rfl ?_
    refine ⟨a1, c1, a6, c6, rfl, S1.out.keep B6.out.blk hK, hC, ⟨vs ++ [.slice t1 16 d1], hY.to (Nat.le_refl _) fun g _ hp => ⟨rfl, Nat.le_trans G0.out.size hp⟩, ((HR.out.mono G0.out).keep B6.out.blk hK).app (RowsOf.one ⟨t1, d1, by rw [HRl.out], by rw [HRl.out]; exact D1.out.1, D1.out.2, BytesAt.keep T1.out B6.out.blk hK⟩)⟩, hG⟩

set_option maxRecDepth 100000 in
set_option maxHeartbeats 4000000 in
theorem asked_right {w : World} {i f : Bool} {a ta ga : Option Addr} {n c tc gl gc : Nat} {es : List Ent} {kind key b : UInt8} {t : List UInt8} {f2 z : Bool} (h : PrF w a n c es) (hk : KeysAt w) (h0 : kind.toNat % 4 = 1) (h1 : chkF f es [key % 3] [b % 3] (rightT [key % 3] [b % 3]) = f2) (h2 : chkY i es [key % 3] [b % 3] (rightT [key % 3] [b % 3]) = z) :
    Calls Tryd.prog 22 #[.agg #[.bool i, .slice a n c, .bool f], .agg #[.int .u8 (bv kind), .int .u8 (bv key), .int .u8 (bv b), .slice ta t.length tc], .slice ga gl gc] w fun e w' => e = .returned (.tuple #[.agg #[.bool i, .slice a n c, .bool f2], .bool z, .slice ga gl gc]) ∧ Below w.heap.size w w' := by
  have HI := Lib.hid prov_size
  have m1 := bv_mod3 key
  have m2 := bv_mod3 b
  generalize key % 3 = x at *
  generalize b % 3 = y at *
  have u1 := bv_wrap x
  have u2 := bv_wrap y
  have m4 : (bv kind).tmod 4 = 1 := by rw [bv_mod4, h0]; rfl
  have KT := Lib.hid (fun ka ba_ W (q1 : BytesAt W ka [x]) (q2 : BytesAt W ba_ [y]) => (show Calls Tryd.prog 33 #[.slice ka 1 1, .slice ba_ 1 1] W (Out32 W (tagF [x] [y])) from refTag_any ka ba_ 1 1 [x] [y] (by simp) (by simp) W q1 q2))
  unfold Out32 at KT
  have KC := Lib.hid (fun ka ba_ t1 d1 W (p : Below w.heap.size w W) (q1 : BytesAt W ka [x]) (q2 : BytesAt W ba_ [y]) (q3 : BytesAt W t1 (rightT [x] [y])) => (show Calls Tryd.prog 13 #[.agg #[.bool i, .slice a n c, .bool f], .slice ka 1 1, .slice ba_ 1 1, .slice t1 16 d1] W fun e w' => e = .returned (.tuple #[.agg #[.bool i, .slice a n c, .bool f2], .bool z]) ∧ Below W.heap.size W w' from by
    have h5 := check_st (i := i) (f := f) (kc := 1) (bc := 1) (tc := d1) (h.up p) (hk.mono p) q1 q2 q3 (by simp) (by simp) (by rw [rightT_len]; decide) h1 h2
    rwa [rightT_len] at h5))
  clear h hk h0 h1 h2
  generalize t.length = tl at *
  go_enter Tryd.func22, Tryd.ntmps22
  go_upto_region 1 with (fail)
  generalize hW : World.alloc (World.alloc (World.alloc w _) _) _ = W
  have B3 := Lib.hid (show BlkT 24 W w.heap.size [.bool i, .slice a n c, .bool f] by rw [← hW]; exact ((BlkT.new w [.bool i, .slice a n c, .bool f] _).up (ba _ _)).up (ba _ _))
  have B4 := Lib.hid (show BlkT 42 W (w.heap.size + 1) [.int .u8 (bv kind), .int .u8 (bv key), .int .u8 (bv b), .slice ta tl tc] by rw [← hW, ← size_alloc w (.cells #[.bool i, .slice a n c, .bool f] 24)]; exact (BlkT.new _ [.int .u8 (bv kind), .int .u8 (bv key), .int .u8 (bv b), .slice ta tl tc] _).up (ba _ _))
  have B6 := Lib.hid (show BlkT 24 W (w.heap.size + 1 + 1) zeroP by rw [← hW, ← size_alloc w (.cells #[.bool i, .slice a n c, .bool f] 24), ← size_alloc _ (.cells #[.int .u8 (bv kind), .int .u8 (bv key), .int .u8 (bv b), .slice ta tl tc] 42)]; exact BlkT.new _ zeroP _)
  have G := Lib.hid (show Below w.heap.size w W by rw [← hW]; exact bta (bta (ba w _) _) _)
  clear hW
  have L6 := Lib.hid (show w.heap.size ≤ w.heap.size + 1 + 1 by omega)
  have N36 := Lib.hid (show w.heap.size ≠ w.heap.size + 1 + 1 by omega)
  generalize hb6 : w.heap.size + 1 + 1 = b6 at *
  generalize hb4 : w.heap.size + 1 = b4 at *
  clear hb6 hb4
  obtain ⟨b3, hb3⟩ : ∃ b3, b3 = w.heap.size := ⟨_, rfl⟩
  rw [← hb3] at B3 N36
  simp only [← hb3]
  clear hb3
  obtain ⟨y0, y1, y2, y3⟩ := cells4 B4.out.blk
  have hlt4 : b4 < W.heap.size := B4.out.blk.lt
  go_upto_region 3 with (fail)
  obtain ⟨tb1, tb2, tb3⟩ := two_bytes W x y
  generalize hX : World.alloc (World.alloc W _) _ = X at *
  have KA := Lib.hid tb1
  have BA := Lib.hid tb2
  clear hlt4 y0 y1 y2 y3 tb1 tb2 hX
  have hs1 : W.heap.size + 1 = W.heap.size + 1 := rfl
  have LW6 := B6.out.blk.lt
  replace B3 := Lib.hid (B3.out.up tb3)
  replace B4 := Lib.hid (B4.out.up tb3)
  replace B6 := Lib.hid (B6.out.up tb3)
  replace G := Lib.hid (bt G.out tb3)
  clear tb3 hs1
  generalize some (⟨W.heap.size, 0, none⟩ : Addr) = ka at *
  generalize some (⟨W.heap.size + 1, 0, none⟩ : Addr) = ba_ at *
  have G0 := Lib.hid G.out
  have LX6 := Lib.hid B6.out.blk.lt
  clear LW6 G
  have G := Lib.hid (Below.refl X.heap.size X)
  obtain ⟨y0, y1, y2, y3⟩ := cells4 B4.out.blk
  go_upto_region 8 with (fail)
  clear y0 y1 y2 y3 m1 m2 m4 u1 u2
  refine asked8_law (T32 := tagF [x] [y]) (Nat.le_refl _) rfl rfl rfl B3.out (fun W h => KT.out ka ba_ W (KA.out.mono h) (BA.out.mono h)) (fun t1 d1 W h q => KC.out ka ba_ t1 d1 W (bt G0.out h) (KA.out.mono h) (BA.out.mono h) q) (fun _ _ d _ _ h => by cases d <;> exact h) ?_
  intro x0 x1 x2 x3 x4 x5 x6 x7 x8 x9 x10 b13 u hZ hb hz
  simp only [fill, Act.put, List.setIfInBounds_toArray, List.set_cons_zero, List.set_cons_succ]
  have B13 := Lib.hid hZ
  replace B3 := Lib.hid (B3.out.up hb)
  replace B4 := Lib.hid (B4.out.up hb)
  replace B6 := Lib.hid (B6.out.up hb)
  replace G := Lib.hid (bt G.out hb)
  replace G0 := Lib.hid (bt G0.out hb)
  replace KA := Lib.hid (KA.out.mono hb)
  replace BA := Lib.hid (BA.out.mono hb)
  clear hZ hb hz
  go_wp2_with (first | (refine wpList_load_blk 24 (.tmp 13) b13 (cs := (prL i a n c f2)) rfl rfl rfl B13.out.blk Tryd.underlying24 rfl HI.out ?_) | (refine wpList_store_blk 24 (.tmp 6) (.tmp 60) b6 (old := zeroP) (cs := (prL i a n c f2)) rfl rfl rfl rfl B6.out.blk HI.out rfl rfl ?_))
  refine bodyPost_ret (results_blk_tmp2 rfl _ _ b6 (cs := (prL i a n c f2)) rfl _ _ rfl rfl (B6.out.row _).blk Tryd.underlying24 rfl HI.out) rfl ?_
  exact ⟨rfl, below_setRow G0.out L6.out _⟩

set_option maxRecDepth 100000 in
set_option maxHeartbeats 4000000 in
theorem asked_raw {w : World} {i f : Bool} {a ta ga : Option Addr} {n c tc gl gc : Nat} {es : List Ent} {kind key b : UInt8} {t : List UInt8} {f2 z : Bool} (h : PrF w a n c es) (hk : KeysAt w) (h0 : kind.toNat % 4 = 3) (hta : BytesAt w ta t) (h1 : chkF f es [key % 3] [b % 3] t = f2) (h2 : chkY i es [key % 3] [b % 3] t = z) (hT : t.length ≤ 60) :
    Calls Tryd.prog 22 #[.agg #[.bool i, .slice a n c, .bool f], .agg #[.int .u8 (bv kind), .int .u8 (bv key), .int .u8 (bv b), .slice ta t.length tc], .slice ga gl gc] w fun e w' => e = .returned (.tuple #[.agg #[.bool i, .slice a n c, .bool f2], .bool z, .slice ga gl gc]) ∧ Below w.heap.size w w' := by
  have HI := Lib.hid prov_size
  have m1 := bv_mod3 key
  have m2 := bv_mod3 b
  generalize key % 3 = x at *
  generalize b % 3 = y at *
  have u1 := bv_wrap x
  have u2 := bv_wrap y
  have m4 : (bv kind).tmod 4 = 3 := by rw [bv_mod4, h0]; rfl
  have KC := Lib.hid (fun ka ba_ t1 d1 W (p : Below w.heap.size w W) (q1 : BytesAt W ka [x]) (q2 : BytesAt W ba_ [y]) (q3 : BytesAt W t1 t) => check_st (i := i) (f := f) (kc := 1) (bc := 1) (tc := d1) (h.up p) (hk.mono p) q1 q2 q3 (by simp) (by simp) hT h1 h2)
  have HT := Lib.hid hta
  clear h hk h0 h1 h2 hta hT
  generalize t.length = tl at *
  go_enter Tryd.func22, Tryd.ntmps22
  go_upto_region 1 with (fail)
  generalize hW : World.alloc (World.alloc (World.alloc w _) _) _ = W
  have B3 := Lib.hid (show BlkT 24 W w.heap.size [.bool i, .slice a n c, .bool f] by rw [← hW]; exact ((BlkT.new w [.bool i, .slice a n c, .bool f] _).up (ba _ _)).up (ba _ _))
  have B4 := Lib.hid (show BlkT 42 W (w.heap.size + 1) [.int .u8 (bv kind), .int .u8 (bv key), .int .u8 (bv b), .slice ta tl tc] by rw [← hW, ← size_alloc w (.cells #[.bool i, .slice a n c, .bool f] 24)]; exact (BlkT.new _ [.int .u8 (bv kind), .int .u8 (bv key), .int .u8 (bv b), .slice ta tl tc] _).up (ba _ _))
  have B6 := Lib.hid (show BlkT 24 W (w.heap.size + 1 + 1) zeroP by rw [← hW, ← size_alloc w (.cells #[.bool i, .slice a n c, .bool f] 24), ← size_alloc _ (.cells #[.int .u8 (bv kind), .int .u8 (bv key), .int .u8 (bv b), .slice ta tl tc] 42)]; exact BlkT.new _ zeroP _)
  have G := Lib.hid (show Below w.heap.size w W by rw [← hW]; exact bta (bta (ba w _) _) _)
  clear hW
  have L6 := Lib.hid (show w.heap.size ≤ w.heap.size + 1 + 1 by omega)
  have N36 := Lib.hid (show w.heap.size ≠ w.heap.size + 1 + 1 by omega)
  generalize hb6 : w.heap.size + 1 + 1 = b6 at *
  generalize hb4 : w.heap.size + 1 = b4 at *
  clear hb6 hb4
  obtain ⟨b3, hb3⟩ : ∃ b3, b3 = w.heap.size := ⟨_, rfl⟩
  rw [← hb3] at B3 N36
  simp only [← hb3]
  clear hb3
  obtain ⟨y0, y1, y2, y3⟩ := cells4 B4.out.blk
  have hlt4 : b4 < W.heap.size := B4.out.blk.lt
  go_upto_region 3 with (fail)
  obtain ⟨tb1, tb2, tb3⟩ := two_bytes W x y
  generalize hX : World.alloc (World.alloc W _) _ = X at *
  have KA := Lib.hid tb1
  have BA := Lib.hid tb2
  clear hlt4 y0 y1 y2 y3 tb1 tb2 hX
  have hs1 : W.heap.size + 1 = W.heap.size + 1 := rfl
  have LW6 := B6.out.blk.lt
  replace B3 := Lib.hid (B3.out.up tb3)
  replace B4 := Lib.hid (B4.out.up tb3)
  replace B6 := Lib.hid (B6.out.up tb3)
  replace G := Lib.hid (bt G.out tb3)
  clear tb3 hs1
  generalize some (⟨W.heap.size, 0, none⟩ : Addr) = ka at *
  generalize some (⟨W.heap.size + 1, 0, none⟩ : Addr) = ba_ at *
  have G0 := Lib.hid G.out
  have LX6 := Lib.hid B6.out.blk.lt
  clear LW6 G
  have G := Lib.hid (Below.refl X.heap.size X)
  obtain ⟨y0, y1, y2, y3⟩ := cells4 B4.out.blk
  go_upto_region 16 with (fail)
  clear y0 y1 y2 m1 m2 m4 u1 u2
  go_cut [19, 18] (fun v19 v18 wx => ∃ b18 : Nat, v19 = .bool z ∧ v18 = .pointer (some ⟨b18, 0, none⟩) ∧ BlkT 24 wx b18 (prL i a n c f2) ∧ BlkT 24 wx b3 (prL i a n c f) ∧ BlkT 42 wx b4 [.int .u8 (bv kind), .int .u8 (bv key), .int .u8 (bv b), .slice ta tl tc] ∧ BlkT 24 wx b6 zeroP ∧ Below X.heap.size X wx ∧ Below w.heap.size w wx ∧ BytesAt wx ka [x] ∧ BytesAt wx ba_ [y])
  case first =>
    go_wp2_with (first
          | (refine wpList_load_blk 24 (.tmp 3) b3 (cs := (prL i a n c f)) rfl rfl rfl B3.out.blk Tryd.underlying24 rfl HI.out ?_)
          | (refine wpList_load_blkP 24 (.tmp 3) b3 (cs := (prL i a n c f)) (by first | rfl | simp [Region.wanted, yielded]) rfl rfl B3.out.blk Tryd.underlying24 rfl HI.out ?_))
    refine (KC.out ka ba_ ta tc _ G0.out KA.out BA.out (HT.out.mono G0.out)).mono ?_; rintro e wn ⟨rfl, hb⟩
    go_wp2_with (refine wpList_store_blk 24 (.tmp 18) (.tmp 98) _ (old := zeroP) (cs := (prL i a n c f2)) rfl rfl rfl rfl (Blk.new _ _ _) HI.out rfl rfl ?_)
    go_meet
    exact ⟨_, rfl, rfl, layP_blk _ _ _ _, (B3.out.up (bt hb (layP_below _ _ _ _))), (B4.out.up (bt hb (layP_below _ _ _ _))), (B6.out.up (bt hb (layP_below _ _ _ _))), (bt G.out (bt hb (layP_below _ _ _ _))), (bt G0.out (bt hb (layP_below _ _ _ _))), (KA.out.mono (bt hb (layP_below _ _ _ _))), (BA.out.mono (bt hb (layP_below _ _ _ _)))⟩
  case rest =>
    obtain ⟨b18, rfl, rfl, hB18, hB3, hB4, hB6, hG, hG0, hKA, hBA⟩ := hcut
    have B18 := Lib.hid hB18
    replace B3 := Lib.hid hB3
    replace B4 := Lib.hid hB4
    replace B6 := Lib.hid hB6
    replace G := Lib.hid hG
    replace G0 := Lib.hid hG0
    replace KA := Lib.hid hKA
    replace BA := Lib.hid hBA
    clear hB18 hB3 hB4 hB6 hG hG0 hKA hBA
    go_wp2_with (first | (refine wpList_load_blk 24 (.tmp 18) b18 (cs := (prL i a n c f2)) rfl rfl rfl B18.out.blk Tryd.underlying24 rfl HI.out ?_) | (refine wpList_store_blk 24 (.tmp 6) (.tmp 100) b6 (old := zeroP) (cs := (prL i a n c f2)) rfl rfl rfl rfl B6.out.blk HI.out rfl rfl ?_))
    refine bodyPost_ret (results_blk_tmp2 rfl _ _ b6 (cs := (prL i a n c f2)) rfl _ _ rfl rfl (B6.out.row _).blk Tryd.underlying24 rfl HI.out) rfl ?_
    exact ⟨rfl, below_setRow G0.out L6.out _⟩

set_option maxRecDepth 100000 in
set_option maxHeartbeats 4000000 in
theorem asked_none {w : World} {i f : Bool} {a ta ga : Option Addr} {n c tc gl gc : Nat} {es : List Ent} {kind key b : UInt8} {t : List UInt8} {f2 z : Bool} (h : PrF w a n c es) (hk : KeysAt w) (hgl : gl = 0) (h0 : kind.toNat % 4 = 2) (hta : BytesAt w ta t) (h1 : chkF f es [key % 3] [b % 3] t = f2) (h2 : chkY i es [key % 3] [b % 3] t = z) (hT : t.length ≤ 60) :
    Calls Tryd.prog 22 #[.agg #[.bool i, .slice a n c, .bool f], .agg #[.int .u8 (bv kind), .int .u8 (bv key), .int .u8 (bv b), .slice ta t.length tc], .slice ga gl gc] w fun e w' => e = .returned (.tuple #[.agg #[.bool i, .slice a n c, .bool f2], .bool z, .slice ga gl gc]) ∧ Below w.heap.size w w' := by
  have HI := Lib.hid prov_size
  have m1 := bv_mod3 key
  have m2 := bv_mod3 b
  generalize key % 3 = x at *
  generalize b % 3 = y at *
  have u1 := bv_wrap x
  have u2 := bv_wrap y
  subst hgl
  have m4 : (bv kind).tmod 4 = 2 := by rw [bv_mod4, h0]; rfl
  have KC := Lib.hid (fun ka ba_ t1 d1 W (p : Below w.heap.size w W) (q1 : BytesAt W ka [x]) (q2 : BytesAt W ba_ [y]) (q3 : BytesAt W t1 t) => check_st (i := i) (f := f) (kc := 1) (bc := 1) (tc := d1) (h.up p) (hk.mono p) q1 q2 q3 (by simp) (by simp) hT h1 h2)
  have HT := Lib.hid hta
  clear h hk h0 h1 h2 hta hT
  generalize t.length = tl at *
  go_enter Tryd.func22, Tryd.ntmps22
  go_upto_region 1 with (fail)
  generalize hW : World.alloc (World.alloc (World.alloc w _) _) _ = W
  have B3 := Lib.hid (show BlkT 24 W w.heap.size [.bool i, .slice a n c, .bool f] by rw [← hW]; exact ((BlkT.new w [.bool i, .slice a n c, .bool f] _).up (ba _ _)).up (ba _ _))
  have B4 := Lib.hid (show BlkT 42 W (w.heap.size + 1) [.int .u8 (bv kind), .int .u8 (bv key), .int .u8 (bv b), .slice ta tl tc] by rw [← hW, ← size_alloc w (.cells #[.bool i, .slice a n c, .bool f] 24)]; exact (BlkT.new _ [.int .u8 (bv kind), .int .u8 (bv key), .int .u8 (bv b), .slice ta tl tc] _).up (ba _ _))
  have B6 := Lib.hid (show BlkT 24 W (w.heap.size + 1 + 1) zeroP by rw [← hW, ← size_alloc w (.cells #[.bool i, .slice a n c, .bool f] 24), ← size_alloc _ (.cells #[.int .u8 (bv kind), .int .u8 (bv key), .int .u8 (bv b), .slice ta tl tc] 42)]; exact BlkT.new _ zeroP _)
  have G := Lib.hid (show Below w.heap.size w W by rw [← hW]; exact bta (bta (ba w _) _) _)
  clear hW
  have L6 := Lib.hid (show w.heap.size ≤ w.heap.size + 1 + 1 by omega)
  have N36 := Lib.hid (show w.heap.size ≠ w.heap.size + 1 + 1 by omega)
  generalize hb6 : w.heap.size + 1 + 1 = b6 at *
  generalize hb4 : w.heap.size + 1 = b4 at *
  clear hb6 hb4
  obtain ⟨b3, hb3⟩ : ∃ b3, b3 = w.heap.size := ⟨_, rfl⟩
  rw [← hb3] at B3 N36
  simp only [← hb3]
  clear hb3
  obtain ⟨y0, y1, y2, y3⟩ := cells4 B4.out.blk
  have hlt4 : b4 < W.heap.size := B4.out.blk.lt
  go_upto_region 3 with (fail)
  obtain ⟨tb1, tb2, tb3⟩ := two_bytes W x y
  generalize hX : World.alloc (World.alloc W _) _ = X at *
  have KA := Lib.hid tb1
  have BA := Lib.hid tb2
  clear hlt4 y0 y1 y2 y3 tb1 tb2 hX
  have hs1 : W.heap.size + 1 = W.heap.size + 1 := rfl
  have LW6 := B6.out.blk.lt
  replace B3 := Lib.hid (B3.out.up tb3)
  replace B4 := Lib.hid (B4.out.up tb3)
  replace B6 := Lib.hid (B6.out.up tb3)
  replace G := Lib.hid (bt G.out tb3)
  clear tb3 hs1
  generalize some (⟨W.heap.size, 0, none⟩ : Addr) = ka at *
  generalize some (⟨W.heap.size + 1, 0, none⟩ : Addr) = ba_ at *
  have G0 := Lib.hid G.out
  have LX6 := Lib.hid B6.out.blk.lt
  clear LW6 G
  have G := Lib.hid (Below.refl X.heap.size X)
  obtain ⟨y0, y1, y2, y3⟩ := cells4 B4.out.blk
  go_upto_region 14 with (fail)
  clear y0 y1 y2 y3 m1 m2 m4 u1 u2
  go_cut [17, 16] (fun v17 v16 wx => ∃ b16 : Nat, v17 = .bool z ∧ v16 = .pointer (some ⟨b16, 0, none⟩) ∧ BlkT 24 wx b16 (prL i a n c f2) ∧ BlkT 24 wx b3 (prL i a n c f) ∧ BlkT 42 wx b4 [.int .u8 (bv kind), .int .u8 (bv key), .int .u8 (bv b), .slice ta tl tc] ∧ BlkT 24 wx b6 zeroP ∧ Below X.heap.size X wx ∧ Below w.heap.size w wx ∧ BytesAt wx ka [x] ∧ BytesAt wx ba_ [y])
  case first =>
    go_wp2_with (first
          | (refine wpList_load_blk 24 (.tmp 3) b3 (cs := (prL i a n c f)) rfl rfl rfl B3.out.blk Tryd.underlying24 rfl HI.out ?_)
          | (refine wpList_load_blkP 24 (.tmp 3) b3 (cs := (prL i a n c f)) (by first | rfl | simp [Region.wanted, yielded]) rfl rfl B3.out.blk Tryd.underlying24 rfl HI.out ?_))
    refine (KC.out ka ba_ ta tc _ G0.out KA.out BA.out (HT.out.mono G0.out)).mono ?_; rintro e wn ⟨rfl, hb⟩
    go_wp2_with (refine wpList_store_blk 24 (.tmp 16) (.tmp 86) _ (old := zeroP) (cs := (prL i a n c f2)) rfl rfl rfl rfl (Blk.new _ _ _) HI.out rfl rfl ?_)
    go_meet
    exact ⟨_, rfl, rfl, layP_blk _ _ _ _, (B3.out.up (bt hb (layP_below _ _ _ _))), (B4.out.up (bt hb (layP_below _ _ _ _))), (B6.out.up (bt hb (layP_below _ _ _ _))), (bt G.out (bt hb (layP_below _ _ _ _))), (bt G0.out (bt hb (layP_below _ _ _ _))), (KA.out.mono (bt hb (layP_below _ _ _ _))), (BA.out.mono (bt hb (layP_below _ _ _ _)))⟩
  case rest =>
    obtain ⟨b16, rfl, rfl, hB16, hB3, hB4, hB6, hG, hG0, hKA, hBA⟩ := hcut
    have B16 := Lib.hid hB16
    replace B3 := Lib.hid hB3
    replace B4 := Lib.hid hB4
    replace B6 := Lib.hid hB6
    replace G := Lib.hid hG
    replace G0 := Lib.hid hG0
    replace KA := Lib.hid hKA
    replace BA := Lib.hid hBA
    clear hB16 hB3 hB4 hB6 hG hG0 hKA hBA
    go_wp2_with (first | (refine wpList_load_blk 24 (.tmp 16) b16 (cs := (prL i a n c f2)) rfl rfl rfl B16.out.blk Tryd.underlying24 rfl HI.out ?_) | (refine wpList_store_blk 24 (.tmp 6) (.tmp 88) b6 (old := zeroP) (cs := (prL i a n c f2)) rfl rfl rfl rfl B6.out.blk HI.out rfl rfl ?_))
    refine bodyPost_ret (results_blk_tmp2 rfl _ _ b6 (cs := (prL i a n c f2)) rfl _ _ rfl rfl (B6.out.row _).blk Tryd.underlying24 rfl HI.out) rfl ?_
    exact ⟨rfl, below_setRow G0.out L6.out _⟩

set_option maxRecDepth 100000 in
set_option maxHeartbeats 4000000 in
theorem asked_old {w : World} {i f : Bool} {a ta ga : Option Addr} {n c tc gl gc : Nat} {es : List Ent} {kind key b : UInt8} {t : List UInt8} {f2 z : Bool} {gs : List (List UInt8)} {r : List UInt8} (h : PrF w a n c es) (hk : KeysAt w) (hg : RowsAt w ga gs) (hgl : gs.length = gl) (hgl0 : 0 < gl) (hgl2 : gl ≤ 100) (hr : gs.getD (kind.toNat / 4 % gl) [] = r) (h0 : kind.toNat % 4 = 2) (h1 : chkF f es [key % 3] [b % 3] r = f2) (h2 : chkY i es [key % 3] [b % 3] r = z) (hT : r.length ≤ 60) :
    Calls Tryd.prog 22 #[.agg #[.bool i, .slice a n c, .bool f], .agg #[.int .u8 (bv kind), .int .u8 (bv key), .int .u8 (bv b), .slice ta t.length tc], .slice ga gl gc] w fun e w' => e = .returned (.tuple #[.agg #[.bool i, .slice a n c, .bool f2], .bool z, .slice ga gl gc]) ∧ Below w.heap.size w w' := by
  have HI := Lib.hid prov_size
  have m1 := bv_mod3 key
  have m2 := bv_mod3 b
  generalize key % 3 = x at *
  generalize b % 3 = y at *
  have u1 := bv_wrap x
  have u2 := bv_wrap y
  have m4 : (bv kind).tmod 4 = 2 := by rw [bv_mod4, h0]; rfl
  have KC := Lib.hid (fun ka ba_ t1 d1 W (p : Below w.heap.size w W) (q1 : BytesAt W ka [x]) (q2 : BytesAt W ba_ [y]) (q3 : BytesAt W t1 r) => check_st (i := i) (f := f) (kc := 1) (bc := 1) (tc := d1) (h.up p) (hk.mono p) q1 q2 q3 (by simp) (by simp) hT h1 h2)
  obtain ⟨q, hq⟩ : ∃ q, q = kind.toNat / 4 := ⟨_, rfl⟩
  obtain ⟨j, hj⟩ : ∃ j, j = q % gl := ⟨_, rfl⟩
  have hk8 := kind.toNat_lt
  rw [← hq, ← hj] at hr
  have q1 : (bv kind).tdiv 4 = (q : Int) := by unfold bv; rw [Int.tdiv_eq_ediv_of_nonneg (by omega), hq]; exact (Int.natCast_ediv _ _).symm
  have q2 : IntKind.u8.wrap (q : Int) = (q : Int) := wrap_nat8 _ (by omega)
  have q3 : IntKind.i64.wrap (q : Int) = (q : Int) := by rw [IntKind.wrap_i64]; omega
  have hjl : j < gl := by rw [hj]; exact Nat.mod_lt _ hgl0
  have q4 : (q : Int).tmod (gl : Int) = (j : Int) := by rw [Int.tmod_eq_emod_of_nonneg (by omega), hj]; exact (Int.natCast_emod _ _).symm
  have q5 : IntKind.i64.wrap (j : Int) = (j : Int) := by rw [IntKind.wrap_i64]; omega
  have q6 : ((gl : Int) == 0) = false := by rw [beq_eq_false_iff_ne]; omega
  have q7 : (0 : Int) < (gl : Int) := by omega
  have q8 : (0 : Int) ≤ (j : Int) := by omega
  have q9 : (j : Int) < (gl : Int) := by omega
  have HG := Lib.hid hg
  have HJ := Lib.hid (show j < gs.length by rw [hgl]; exact hjl)
  have HR := Lib.hid hr
  clear h hk h0 h1 h2 hT hj hjl hk8 hg hgl hgl0 hgl2 hr hq
  generalize t.length = tl at *
  go_enter Tryd.func22, Tryd.ntmps22
  go_upto_region 1 with (fail)
  generalize hW : World.alloc (World.alloc (World.alloc w _) _) _ = W
  have B3 := Lib.hid (show BlkT 24 W w.heap.size [.bool i, .slice a n c, .bool f] by rw [← hW]; exact ((BlkT.new w [.bool i, .slice a n c, .bool f] _).up (ba _ _)).up (ba _ _))
  have B4 := Lib.hid (show BlkT 42 W (w.heap.size + 1) [.int .u8 (bv kind), .int .u8 (bv key), .int .u8 (bv b), .slice ta tl tc] by rw [← hW, ← size_alloc w (.cells #[.bool i, .slice a n c, .bool f] 24)]; exact (BlkT.new _ [.int .u8 (bv kind), .int .u8 (bv key), .int .u8 (bv b), .slice ta tl tc] _).up (ba _ _))
  have B6 := Lib.hid (show BlkT 24 W (w.heap.size + 1 + 1) zeroP by rw [← hW, ← size_alloc w (.cells #[.bool i, .slice a n c, .bool f] 24), ← size_alloc _ (.cells #[.int .u8 (bv kind), .int .u8 (bv key), .int .u8 (bv b), .slice ta tl tc] 42)]; exact BlkT.new _ zeroP _)
  have G := Lib.hid (show Below w.heap.size w W by rw [← hW]; exact bta (bta (ba w _) _) _)
  clear hW
  have L6 := Lib.hid (show w.heap.size ≤ w.heap.size + 1 + 1 by omega)
  have N36 := Lib.hid (show w.heap.size ≠ w.heap.size + 1 + 1 by omega)
  generalize hb6 : w.heap.size + 1 + 1 = b6 at *
  generalize hb4 : w.heap.size + 1 = b4 at *
  clear hb6 hb4
  obtain ⟨b3, hb3⟩ : ∃ b3, b3 = w.heap.size := ⟨_, rfl⟩
  rw [← hb3] at B3 N36
  simp only [← hb3]
  clear hb3
  obtain ⟨y0, y1, y2, y3⟩ := cells4 B4.out.blk
  have hlt4 : b4 < W.heap.size := B4.out.blk.lt
  go_upto_region 3 with (fail)
  obtain ⟨tb1, tb2, tb3⟩ := two_bytes W x y
  generalize hX : World.alloc (World.alloc W _) _ = X at *
  have KA := Lib.hid tb1
  have BA := Lib.hid tb2
  clear hlt4 y0 y1 y2 y3 tb1 tb2 hX
  have hs1 : W.heap.size + 1 = W.heap.size + 1 := rfl
  have LW6 := B6.out.blk.lt
  replace B3 := Lib.hid (B3.out.up tb3)
  replace B4 := Lib.hid (B4.out.up tb3)
  replace B6 := Lib.hid (B6.out.up tb3)
  replace G := Lib.hid (bt G.out tb3)
  clear tb3 hs1
  generalize some (⟨W.heap.size, 0, none⟩ : Addr) = ka at *
  generalize some (⟨W.heap.size + 1, 0, none⟩ : Addr) = ba_ at *
  have G0 := Lib.hid G.out
  have LX6 := Lib.hid B6.out.blk.lt
  clear LW6 G
  have G := Lib.hid (Below.refl X.heap.size X)
  obtain ⟨y0, y1, y2, y3⟩ := cells4 B4.out.blk
  obtain ⟨gb, go_, p, pc, rfl, glt, gcell, -, -, gbt⟩ := (HG.out.mono G0.out).row j HJ.out
  rw [HR.out] at gcell gbt
  have HT := Lib.hid gbt
  clear gbt
  generalize r.length = rl at *
  go_upto_region 14 with (fail)
  clear y0 y1 y2 y3 m1 m2 m4 u1 u2
  go_cut [17, 16] (fun v17 v16 wx => ∃ b16 : Nat, v17 = .bool z ∧ v16 = .pointer (some ⟨b16, 0, none⟩) ∧ BlkT 24 wx b16 (prL i a n c f2) ∧ BlkT 24 wx b3 (prL i a n c f) ∧ BlkT 42 wx b4 [.int .u8 (bv kind), .int .u8 (bv key), .int .u8 (bv b), .slice ta tl tc] ∧ BlkT 24 wx b6 zeroP ∧ Below X.heap.size X wx ∧ Below w.heap.size w wx ∧ BytesAt wx ka [x] ∧ BytesAt wx ba_ [y] ∧ BytesAt wx p r)
  case first =>
    go_wp2_with (first
          | (refine wpList_load_blk 24 (.tmp 3) b3 (cs := (prL i a n c f)) rfl rfl rfl B3.out.blk Tryd.underlying24 rfl HI.out ?_)
          | (refine wpList_load_blkP 24 (.tmp 3) b3 (cs := (prL i a n c f)) (by first | rfl | simp [Region.wanted, yielded]) rfl rfl B3.out.blk Tryd.underlying24 rfl HI.out ?_))
    refine (KC.out ka ba_ p pc _ G0.out KA.out BA.out HT.out).mono ?_; rintro e wn ⟨rfl, hb⟩
    go_wp2_with (refine wpList_store_blk 24 (.tmp 16) (.tmp 86) _ (old := zeroP) (cs := (prL i a n c f2)) rfl rfl rfl rfl (Blk.new _ _ _) HI.out rfl rfl ?_)
    go_meet
    exact ⟨_, rfl, rfl, layP_blk _ _ _ _, (B3.out.up (bt hb (layP_below _ _ _ _))), (B4.out.up (bt hb (layP_below _ _ _ _))), (B6.out.up (bt hb (layP_below _ _ _ _))), (bt G.out (bt hb (layP_below _ _ _ _))), (bt G0.out (bt hb (layP_below _ _ _ _))), (KA.out.mono (bt hb (layP_below _ _ _ _))), (BA.out.mono (bt hb (layP_below _ _ _ _))), (HT.out.mono (bt hb (layP_below _ _ _ _)))⟩
  case rest =>
    obtain ⟨b16, rfl, rfl, hB16, hB3, hB4, hB6, hG, hG0, hKA, hBA, hHT⟩ := hcut
    have B16 := Lib.hid hB16
    replace B3 := Lib.hid hB3
    replace B4 := Lib.hid hB4
    replace B6 := Lib.hid hB6
    replace G := Lib.hid hG
    replace G0 := Lib.hid hG0
    replace KA := Lib.hid hKA
    replace BA := Lib.hid hBA
    replace HT := Lib.hid hHT
    clear hB16 hB3 hB4 hB6 hG hG0 hKA hBA hHT
    go_wp2_with (first | (refine wpList_load_blk 24 (.tmp 16) b16 (cs := (prL i a n c f2)) rfl rfl rfl B16.out.blk Tryd.underlying24 rfl HI.out ?_) | (refine wpList_store_blk 24 (.tmp 6) (.tmp 88) b6 (old := zeroP) (cs := (prL i a n c f2)) rfl rfl rfl rfl B6.out.blk HI.out rfl rfl ?_))
    refine bodyPost_ret (results_blk_tmp2 rfl _ _ b6 (cs := (prL i a n c f2)) rfl _ _ rfl rfl (B6.out.row _).blk Tryd.underlying24 rfl HI.out) rfl ?_
    exact ⟨rfl, below_setRow G0.out L6.out _⟩
end Go.Proofs.YthmcmkdncaccbaaDoor
