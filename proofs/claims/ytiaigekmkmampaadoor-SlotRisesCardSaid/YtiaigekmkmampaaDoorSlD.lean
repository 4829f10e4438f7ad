/- Stores: which are right, which the same, new ones, and the epoch that is given next. -/
import Derived.Test.YtiaigekmkmampaaDoorSlC
set_option linter.unusedSimpArgs false
set_option linter.unusedVariables false
namespace Go.Proofs.YtiaigekmkmampaaDoor
open Go.RowKit

/-- a store, and what its slots hold -/
def StAt (w : World) (v : Value) (l m : List UInt8) : Prop :=
  ∃ a c b d, v = .agg #[.slice a l.length c, .slice b m.length d] ∧ (l.length ≤ c ∧ c ≤ maxLen) ∧ (m.length ≤ d ∧ d ≤ maxLen) ∧ BytesAt w a l ∧ BytesAt w b m
theorem StAt.up {w w' : World} {v : Value} {l m : List UInt8} (h : StAt w v l m) (hb : Below w.heap.size w w') : StAt w' v l m := by
  obtain ⟨a, c, b, d, h1, h2, h3, h4, h5⟩ := h
  exact ⟨a, c, b, d, h1, h2, h3, h4.mono hb, h5.mono hb⟩
def rightS (l m : List UInt8) : Bool := (l.length == 16) && (m.length == 16)
def fewS (l m : List UInt8) : Bool := decide (l.length ≤ 100) && decide (m.length ≤ 100)
theorem rightS_iff {l m : List UInt8} : rightS l m = true ↔ l.length = 16 ∧ m.length = 16 := by unfold rightS; simp
theorem len16 (l : List UInt8) (b : Bool) (h : (l.length == 16) = b) : ((l.length : Int) == 16) = b := by
  rw [← h]; cases hq : (l.length == 16)
  · have : l.length ≠ 16 := by simpa using hq
    rw [beq_eq_false_iff_ne]; omega
  · have : l.length = 16 := by simpa using hq
    rw [beq_iff_eq]; omega
theorem stRight_any (v : Value) (l m : List UInt8) (w : World) (h : StAt w v l m) : Calls Tryd.prog 18 #[v] w (BoolOut w (rightS l m)) := by
  obtain ⟨a, c, b, d, rfl, -, -, -, -⟩ := h
  rcases h1 : (l.length == 16) with _ | _
  all_goals
    have k1 := len16 l _ h1
    rcases h2 : (m.length == 16) with _ | _
    all_goals
      have k2 := len16 m _ h2
      have HE := Lib.hid (show rightS l m = _ by unfold rightS; rw [h1, h2])
      clear h1 h2
      go_enter Tryd.func18, Tryd.ntmps18
      go_wp2_with fail
      go_ret
      exact ⟨by rw [HE.out]; rfl, ba _ _⟩
theorem stRefRight_any (v : Value) (l m : List UInt8) (w : World) (h : StAt w v l m) : Calls Tryd.prog 13 #[v] w (BoolOut w (rightS l m)) := by
  obtain ⟨a, c, b, d, rfl, -, -, -, -⟩ := h
  rcases h1 : (l.length == 16) with _ | _
  all_goals
    have k1 := len16 l _ h1
    rcases h2 : (m.length == 16) with _ | _
    all_goals
      have k2 := len16 m _ h2
      have HE := Lib.hid (show rightS l m = _ by unfold rightS; rw [h1, h2])
      clear h1 h2
      go_enter Tryd.func13, Tryd.ntmps13
      go_wp2_with fail
      go_ret
      exact ⟨by rw [HE.out]; rfl, ba _ _⟩
theorem stFew_any (v : Value) (l m : List UInt8) (w : World) (h : StAt w v l m) : Calls Tryd.prog 8 #[v] w (BoolOut w (fewS l m)) := by
  obtain ⟨a, c, b, d, rfl, -, -, -, -⟩ := h
  by_cases h1 : l.length ≤ 100
  · have k1 : (l.length : Int) ≤ 100 := by omega
    by_cases h2 : m.length ≤ 100
    · have k2 : (m.length : Int) ≤ 100 := by omega
      have HE := Lib.hid (show fewS l m = true by unfold fewS; rw [decide_eq_true h1, decide_eq_true h2]; rfl)
      clear h1 h2
      go_enter Tryd.func8, Tryd.ntmps8
      go_wp2_with fail
      go_ret
      exact ⟨by rw [HE.out]; rfl, ba _ _⟩
    · have k2 : ¬ (m.length : Int) ≤ 100 := by omega
      have HE := Lib.hid (show fewS l m = false by unfold fewS; rw [decide_eq_true h1, decide_eq_false h2]; rfl)
      clear h1 h2
      go_enter Tryd.func8, Tryd.ntmps8
      go_wp2_with fail
      go_ret
      exact ⟨by rw [HE.out]; rfl, ba _ _⟩
  · have k1 : ¬ (l.length : Int) ≤ 100 := by omega
    have HE := Lib.hid (show fewS l m = false by unfold fewS; rw [decide_eq_false h1]; rfl)
    clear h1
    go_enter Tryd.func8, Tryd.ntmps8
    go_wp2_with fail
    go_ret
    exact ⟨by rw [HE.out]; rfl, ba _ _⟩
def sameS (l m l2 m2 : List UInt8) : Bool := (l == l2) && (m == m2)
theorem cells2 {w : World} {b : Nat} {v0 v1 : Value} (h : Blk w b [v0, v1]) : w.cell? ⟨b, 0, none⟩ = some v0 ∧ w.cell? ⟨b, 1, none⟩ = some v1 :=
  ⟨h.cell 0 (by simp), h.cell 1 (by simp)⟩
set_option maxHeartbeats 1000000 in
theorem stSame_any (v v2 : Value) (l m l2 m2 : List UInt8) (w : World) (h : StAt w v l m) (h2 : StAt w v2 l2 m2) : Calls Tryd.prog 19 #[v, v2] w (BoolOut w (sameS l m l2 m2)) := by
  obtain ⟨a, c, b, d, rfl, -, -, ha, hb⟩ := h
  obtain ⟨a2, c2, b2, d2, rfl, -, -, ha2, hb2⟩ := h2
  have HE1 := Lib.hid (fun (W : World) (h : Below w.heap.size w W) => bequal_any a a2 l.length c l2.length c2 l l2 W rfl rfl (ha.mono h) (ha2.mono h))
  have HE2 := Lib.hid (fun (W : World) (h : Below w.heap.size w W) => bequal_any b b2 m.length d m2.length d2 m m2 W rfl rfl (hb.mono h) (hb2.mono h))
  have HS := Lib.hid (show sameS l m l2 m2 = ((l == l2) && (m == m2)) from rfl)
  clear ha hb ha2 hb2
  generalize (l == l2) = p1 at HE1 HS
  generalize (m == m2) = p2 at HE2 HS
  rcases p1 with _ | _
  all_goals
    rcases p2 with _ | _
    all_goals
      go_enter Tryd.func19, Tryd.ntmps19
      go_wp2_with fail
      generalize hW : World.alloc _ _ = W
      obtain ⟨B1, B2, hb⟩ := two_world (a := [.slice a l.length c, .slice b m.length d]) (b := [.slice a2 l2.length c2, .slice b2 m2.length d2]) hW
      clear hW
      generalize w.heap.size + 1 = n2 at B2 ⊢
      obtain ⟨x0, x1⟩ := cells2 B1
      obtain ⟨y0, y1⟩ := cells2 B2
      refine (HE1.out _ hb).mono ?_; rintro e w2 ⟨rfl, rfl⟩
      have Hb := Lib.hid hb
      clear hb B1 B2 HE1
      go_wp2_with fail
      try (refine (HE2.out _ Hb.out).mono ?_; rintro e w2 ⟨rfl, rfl⟩)
      try go_wp2_with fail
      go_ret
      exact ⟨by rw [HS.out]; rfl, Hb.out⟩
set_option maxHeartbeats 1000000 in
theorem stRefSame_any (v v2 : Value) (l m l2 m2 : List UInt8) (w : World) (h : StAt w v l m) (h2 : StAt w v2 l2 m2) : Calls Tryd.prog 15 #[v, v2] w (BoolOut w (sameS l m l2 m2)) := by
  obtain ⟨a, c, b, d, rfl, -, -, ha, hb⟩ := h
  obtain ⟨a2, c2, b2, d2, rfl, -, -, ha2, hb2⟩ := h2
  have HE1 := Lib.hid (fun (W : World) (h : Below w.heap.size w W) => same01_any a a2 l.length c l2.length c2 l l2 W rfl rfl (ha.mono h) (ha2.mono h))
  have HE2 := Lib.hid (fun (W : World) (h : Below w.heap.size w W) => same01_any b b2 m.length d m2.length d2 m m2 W rfl rfl (hb.mono h) (hb2.mono h))
  have HS := Lib.hid (show sameS l m l2 m2 = ((l == l2) && (m == m2)) from rfl)
  clear ha hb ha2 hb2
  generalize (l == l2) = p1 at HE1 HS
  generalize (m == m2) = p2 at HE2 HS
  rcases p1 with _ | _
  all_goals
    rcases p2 with _ | _
    all_goals
      go_enter Tryd.func15, Tryd.ntmps15
      go_wp2_with fail
      generalize hW : World.alloc _ _ = W
      obtain ⟨B1, B2, hb⟩ := two_world (a := [.slice a l.length c, .slice b m.length d]) (b := [.slice a2 l2.length c2, .slice b2 m2.length d2]) hW
      clear hW
      generalize w.heap.size + 1 = n2 at B2 ⊢
      obtain ⟨x0, x1⟩ := cells2 B1
      obtain ⟨y0, y1⟩ := cells2 B2
      refine (HE1.out _ hb).mono ?_; rintro e w2 ⟨rfl, rfl⟩
      have Hb := Lib.hid hb
      clear hb B1 B2 HE1
      go_wp2_with fail
      try (refine (HE2.out _ Hb.out).mono ?_; rintro e w2 ⟨rfl, rfl⟩)
      try go_wp2_with fail
      go_ret
      exact ⟨by rw [HS.out]; rfl, Hb.out⟩
/-- a store as a result -/
def StOut (w : World) (l m : List UInt8) (e : Ending) (w' : World) : Prop := ∃ v, e = .returned v ∧ StAt w' v l m ∧ Below w.heap.size w w'
theorem store_size : (Tryd.prog.info? 24).map (·.size) = some 2 := by kernel_rfl
abbrev zero2 : List Value := [.slice none 0 0, .slice none 0 0]
set_option maxHeartbeats 1000000 in
theorem stNew_any (w : World) (hk : KeysAt w) : Calls Tryd.prog 16 #[] w (StOut w (recF 1) zerosL) := by
  have Hk := Lib.hid hk
  have HR := Lib.hid (fun W h => rec_ok 1 (by decide) (by decide) W h)
  obtain ⟨R, hR⟩ : ∃ R, R = recF 1 := ⟨_, rfl⟩
  have HRl := Lib.hid (show R.length = 16 by rw [hR, recF_len])
  unfold RecOut at HR
  rw [← hR] at HR ⊢
  obtain ⟨Z, hZ⟩ : ∃ Z, Z = List.replicate 16 (.int .u8 0 : Value) := ⟨_, rfl⟩
  have hmk : ∀ w, (Instr.makeSlice 22 (.int .i64 16) (.int .i64 16)).run Tryd.prog w = .ok (.slice (some ⟨w.heap.size, 0, none⟩) 16 16) (w.alloc (.cells Z.toArray 5)) := fun w => by
    rw [hZ]; exact run_mk elemB w .i64 .i64 16 (by omega) (by unfold maxLen; omega) rfl
  have HZ := Lib.hid (show Z = B8s zerosL by rw [hZ]; rfl)
  have HI := Lib.hid store_size
  clear hR hZ hk
  go_enter Tryd.func16, Tryd.ntmps16
  go_wp2_with fail
  generalize hW : World.alloc w _ = W
  have hB := Lib.hid (show BlkT 24 W w.heap.size zero2 by rw [← hW]; exact BlkT.new w zero2 _)
  have hb := Lib.hid (show Below w.heap.size w W by rw [← hW]; exact ba w _)
  clear hW
  refine (HR.out W (Hk.out.mono hb.out)).mono ?_; rintro e w2 ⟨a2, c2, rfl, ho⟩
  have hB2 := Lib.hid (hB.out.up ho.bel)
  have Hb2 := Lib.hid (bt hb.out ho.bel)
  have H2 := Lib.hid ho
  have hcap := Lib.hid ho.buf.cap
  clear ho
  go_wp2_with (refine wpList_store_blk 24 (.tmp 0) (.tmp 9) w.heap.size (old := zero2) (cs := [.slice a2 16 c2, .slice (some ⟨w2.heap.size, 0, none⟩) 16 16]) rfl rfl rfl rfl ((hB2.out.up (ba _ _)).blk) HI.out rfl rfl ?_)
  refine bodyPost_ret (v := .agg #[.slice a2 16 c2, .slice (some ⟨w2.heap.size, 0, none⟩) 16 16]) (results_blk rfl _ _ w.heap.size rfl ((hB2.out.up (ba _ _)).row [.slice a2 16 c2, .slice (some ⟨w2.heap.size, 0, none⟩) 16 16]).blk Tryd.underlying24 rfl HI.out) rfl ?_
  have hO : OwnB W.heap.size w2 (.slice a2 16 c2) 16 (B8s R) := ⟨by have := H2.out.own; rwa [HRl.out] at this, H2.out.bel.size⟩
  have hlt : w.heap.size < w2.heap.size := Nat.lt_of_lt_of_le hB.out.blk.lt H2.out.bel.size
  refine ⟨_, rfl, ⟨a2, c2, some ⟨w2.heap.size, 0, none⟩, 16, by rw [HRl.out]; rfl, (by have h := hcap.out; rw [HRl.out] at h ⊢; exact ⟨h.2.1, h.2.2⟩), by decide, ((hO.up (ba w2 _)).row (hB2.out.up (ba w2 _)) (by decide) _).at, ?_⟩, below_setRow (bta Hb2.out _) (Nat.le_refl _) _⟩
  have := ((BlkT.new w2 Z 5).rowOther w.heap.size (by omega) #[.slice a2 16 c2, .slice (some ⟨w2.heap.size, 0, none⟩) 16 16]).blk.at
  rw [HZ.out] at this ⊢
  exact this
set_option maxHeartbeats 1000000 in
theorem stRefNew_any (w : World) : Calls Tryd.prog 17 #[] w (StOut w (recF 1) zerosL) := by
  have HR := Lib.hid (fun W => refRec_ok 1 (by decide) (by decide) W)
  obtain ⟨R, hR⟩ : ∃ R, R = recF 1 := ⟨_, rfl⟩
  have HRl := Lib.hid (show R.length = 16 by rw [hR, recF_len])
  unfold RecOut at HR
  rw [← hR] at HR ⊢
  obtain ⟨Z, hZ⟩ : ∃ Z, Z = List.replicate 16 (.int .u8 0 : Value) := ⟨_, rfl⟩
  have hmk : ∀ w, (Instr.makeSlice 22 (.int .i64 16) (.int .i64 16)).run Tryd.prog w = .ok (.slice (some ⟨w.heap.size, 0, none⟩) 16 16) (w.alloc (.cells Z.toArray 5)) := fun w => by
    rw [hZ]; exact run_mk elemB w .i64 .i64 16 (by omega) (by unfold maxLen; omega) rfl
  have HZ := Lib.hid (show Z = B8s zerosL by rw [hZ]; rfl)
  have HI := Lib.hid store_size
  clear hR hZ
  go_enter Tryd.func17, Tryd.ntmps17
  go_wp2_with fail
  generalize hW : World.alloc w _ = W
  have hB := Lib.hid (show BlkT 24 W w.heap.size zero2 by rw [← hW]; exact BlkT.new w zero2 _)
  have hb := Lib.hid (show Below w.heap.size w W by rw [← hW]; exact ba w _)
  clear hW
  refine (HR.out W).mono ?_; rintro e w2 ⟨a2, c2, rfl, ho⟩
  have hB2 := Lib.hid (hB.out.up ho.bel)
  have Hb2 := Lib.hid (bt hb.out ho.bel)
  have H2 := Lib.hid ho
  have hcap := Lib.hid ho.buf.cap
  clear ho
  go_wp2_with (refine wpList_store_blk 24 (.tmp 0) (.tmp 9) w.heap.size (old := zero2) (cs := [.slice a2 16 c2, .slice (some ⟨w2.heap.size, 0, none⟩) 16 16]) rfl rfl rfl rfl ((hB2.out.up (ba _ _)).blk) HI.out rfl rfl ?_)
  refine bodyPost_ret (v := .agg #[.slice a2 16 c2, .slice (some ⟨w2.heap.size, 0, none⟩) 16 16]) (results_blk rfl _ _ w.heap.size rfl ((hB2.out.up (ba _ _)).row [.slice a2 16 c2, .slice (some ⟨w2.heap.size, 0, none⟩) 16 16]).blk Tryd.underlying24 rfl HI.out) rfl ?_
  have hO : OwnB W.heap.size w2 (.slice a2 16 c2) 16 (B8s R) := ⟨by have := H2.out.own; rwa [HRl.out] at this, H2.out.bel.size⟩
  have hlt : w.heap.size < w2.heap.size := Nat.lt_of_lt_of_le hB.out.blk.lt H2.out.bel.size
  refine ⟨_, rfl, ⟨a2, c2, some ⟨w2.heap.size, 0, none⟩, 16, by rw [HRl.out]; rfl, (by have h := hcap.out; rw [HRl.out] at h ⊢; exact ⟨h.2.1, h.2.2⟩), by decide, ((hO.up (ba w2 _)).row (hB2.out.up (ba w2 _)) (by decide) _).at, ?_⟩, below_setRow (bta Hb2.out _) (Nat.le_refl _) _⟩
  have := ((BlkT.new w2 Z 5).rowOther w.heap.size (by omega) #[.slice a2 16 c2, .slice (some ⟨w2.heap.size, 0, none⟩) 16 16]).blk.at
  rw [HZ.out] at this ⊢
  exact this

/-- which is given next, as a result -/
def BestOut (w : World) (l m : List UInt8) (e : Ending) (w' : World) : Prop := e = .returned (.tuple #[.int .i64 (bestN l m), .int .i64 (bestAt l m), .bool (decide (0 < bestN l m))]) ∧ Below w.heap.size w w'
theorem better_any (x y N A : Nat) (p q t : Bool) (hp : p = decide (0 < x)) (hq : q = decide (0 < y)) (hN : N = if x < y then y else x) (hA : A = if x < y then 1 else 0) (ht : t = decide (0 < N)) (w : World) :
    Calls Tryd.prog 30 #[.int .i64 x, .int .i64 y, .bool p, .bool q] w fun e w' => e = .returned (.tuple #[.int .i64 A, .bool t]) ∧ w = w' := by
  by_cases h : x < y
  · have hq1 : q = true := by rw [hq, decide_eq_true]; omega
    rw [if_pos h] at hN hA
    have ht1 : t = true := by rw [ht, decide_eq_true]; omega
    have hd : (x : Int) < y := by omega
    subst hq1 ht1 hA
    clear hN ht hq h
    rcases p with _ | _
    all_goals
      clear hp
      go_enter Tryd.func30, Tryd.ntmps30
      go_wp2_with fail
      go_ret2
      exact ⟨rfl, rfl⟩
  · rw [if_neg h] at hN hA
    have hd : ¬ (x : Int) < y := by omega
    have hpt : p = t := by rw [hp, ht, hN]
    subst hA hpt
    rcases hpp : p with _ | _
    · have hx : x = 0 := by rw [hpp] at hp; have := of_decide_eq_false hp.symm; omega
      have hq0 : q = false := by rw [hq, decide_eq_false]; omega
      subst hq0
      clear hp ht hpp hq hx h
      go_enter Tryd.func30, Tryd.ntmps30
      go_wp2_with fail
      go_ret2
      exact ⟨rfl, rfl⟩
    · clear hp ht hpp hq h
      rcases q with _ | _
      all_goals
        go_enter Tryd.func30, Tryd.ntmps30
        go_wp2_with fail
        go_ret2
        exact ⟨rfl, rfl⟩
set_option maxRecDepth 100000 in
set_option maxHeartbeats 1000000 in
theorem best_any (v : Value) (l m : List UInt8) (w : World) (h : StAt w v l m) (hk : KeysAt w) : Calls Tryd.prog 20 #[v] w (BestOut w l m) := by
  obtain ⟨a, c, b, d, rfl, ⟨h1, h2⟩, ⟨h3, h4⟩, ha, hb⟩ := h
  have HG1 := Lib.hid (fun (W : World) (h : Below w.heap.size w W) => good_any a c l h1 h2 W (ha.mono h) (hk.mono h))
  have HG2 := Lib.hid (fun (W : World) (h : Below w.heap.size w W) => good_any b d m h3 h4 W (hb.mono h) (hk.mono h))
  have hN : bestN l m = if goodF l < goodF m then goodF m else goodF l := rfl
  have hA : bestAt l m = if goodF l < goodF m then 1 else 0 := rfl
  unfold GoodOut at HG1 HG2
  unfold BestOut
  obtain ⟨p, hp⟩ : ∃ p, p = decide (0 < goodF l) := ⟨_, rfl⟩
  obtain ⟨q, hq⟩ : ∃ q, q = decide (0 < goodF m) := ⟨_, rfl⟩
  obtain ⟨t, ht⟩ : ∃ t, t = decide (0 < bestN l m) := ⟨_, rfl⟩
  rw [← hp] at HG1
  rw [← hq] at HG2
  rw [← ht]
  have HB := Lib.hid (fun W => better_any (goodF l) (goodF m) (bestN l m) (bestAt l m) p q t hp hq hN hA ht W)
  have HX := Lib.hid (show (bestAt l m = 1 ∧ bestN l m = goodF m) ∨ (bestAt l m = 0 ∧ bestN l m = goodF l) by
    rw [hN, hA]; split
    · exact .inl ⟨rfl, rfl⟩
    · exact .inr ⟨rfl, rfl⟩)
  generalize bestN l m = N at HB HX
  generalize bestAt l m = A at HB HX
  generalize goodF l = x at HG1 HB HX
  generalize goodF m = y at HG2 HB HX
  clear hN hA hp hq ht ha hb hk h1 h2 h3 h4
  go_enter Tryd.func20, Tryd.ntmps20
  go_wp2_with fail
  generalize hW : World.alloc w _ = W
  have hb : Below w.heap.size w W := by rw [← hW]; exact ba w _
  have hB : Blk W w.heap.size [.slice a l.length c, .slice b m.length d] := by rw [← hW]; exact Blk.new w [.slice a l.length c, .slice b m.length d] _
  clear hW
  refine (HG1.out _ hb).mono ?_; rintro e w1 ⟨rfl, hb1⟩
  obtain ⟨-, c1⟩ := cells2 (hB.up hb1)
  have hb2 := bt hb hb1
  clear hB hb hb1
  go_wp2_with fail
  refine (HG2.out _ hb2).mono ?_; rintro e w2 ⟨rfl, hb3⟩
  have Hb := Lib.hid (bt hb2 hb3)
  clear hb2 hb3 c1 HG1 HG2
  go_wp2_with fail
  refine (HB.out _).mono ?_; rintro e w3 ⟨rfl, rfl⟩
  rcases HX.out with ⟨rfl, rfl⟩ | ⟨rfl, rfl⟩
  all_goals
    go_wp2_with fail
    go_ret3
    exact ⟨rfl, Hb.out⟩
set_option maxRecDepth 100000 in
set_option maxHeartbeats 1000000 in
theorem refBest_any (v : Value) (l m : List UInt8) (w : World) (h : StAt w v l m) : Calls Tryd.prog 21 #[v] w (BestOut w l m) := by
  obtain ⟨a, c, b, d, rfl, ⟨h1, h2⟩, ⟨h3, h4⟩, ha, hb⟩ := h
  have HG1 := Lib.hid (fun (W : World) (h : Below w.heap.size w W) => refGood_any a c l h1 h2 W (ha.mono h))
  have HG2 := Lib.hid (fun (W : World) (h : Below w.heap.size w W) => refGood_any b d m h3 h4 W (hb.mono h))
  have hN : bestN l m = if goodF l < goodF m then goodF m else goodF l := rfl
  have hA : bestAt l m = if goodF l < goodF m then 1 else 0 := rfl
  unfold GoodOut at HG1 HG2
  unfold BestOut
  generalize bestN l m = N at hN
  generalize bestAt l m = A at hA
  generalize goodF l = x at HG1 hN hA
  generalize goodF m = y at HG2 hN hA
  clear ha hb h1 h2 h3 h4
  have go : ∀ (p q : Bool), p = decide (0 < x) → q = decide (0 < y) → Calls Tryd.prog 21 #[.agg #[.slice a l.length c, .slice b m.length d]] w fun e w' => e = .returned (.tuple #[.int .i64 N, .int .i64 A, .bool (decide (0 < N))]) ∧ Below w.heap.size w w' := by
    intro p q hp hq
    rw [← hp] at HG1
    rw [← hq] at HG2
    by_cases h : x < y
    · have hq1 : q = true := by rw [hq, decide_eq_true]; omega
      rw [if_pos h] at hN hA
      have ht1 : decide (0 < N) = true := by rw [decide_eq_true]; omega
      have hd : (x : Int) < y := by omega
      rw [ht1]
      subst hq1 hA hN
      clear hq h ht1
      rcases p with _ | _
      all_goals
        clear hp
        go_enter Tryd.func21, Tryd.ntmps21
        go_wp2_with fail
        generalize hW : World.alloc w _ = W
        have hb : Below w.heap.size w W := by rw [← hW]; exact ba w _
        have hB : Blk W w.heap.size [.slice a l.length c, .slice b m.length d] := by rw [← hW]; exact Blk.new w [.slice a l.length c, .slice b m.length d] _
        clear hW
        refine (HG1.out _ hb).mono ?_; rintro e w1 ⟨rfl, hb1⟩
        obtain ⟨-, c1⟩ := cells2 (hB.up hb1)
        have hb2 := bt hb hb1
        clear hB hb hb1
        go_wp2_with fail
        refine (HG2.out _ hb2).mono ?_; rintro e w2 ⟨rfl, hb3⟩
        have Hb := Lib.hid (bt hb2 hb3)
        clear hb2 hb3 c1 HG1 HG2
        go_wp2_with fail
        go_ret3
        exact ⟨rfl, Hb.out⟩
    · rw [if_neg h] at hN hA
      have hd : ¬ (x : Int) < y := by omega
      have ht1 : decide (0 < N) = p := by rw [hp, hN]
      have hqp : p = false → q = false := fun k => by
        rw [k] at hp; have := of_decide_eq_false hp.symm; rw [hq, decide_eq_false]; omega
      rw [ht1]
      subst hA hN
      clear hp hq h ht1
      rcases p with _ | _
      · have hq0 := hqp rfl
        subst hq0
        clear hqp
        go_enter Tryd.func21, Tryd.ntmps21
        go_wp2_with fail
        generalize hW : World.alloc w _ = W
        have hb : Below w.heap.size w W := by rw [← hW]; exact ba w _
        have hB : Blk W w.heap.size [.slice a l.length c, .slice b m.length d] := by rw [← hW]; exact Blk.new w [.slice a l.length c, .slice b m.length d] _
        clear hW
        refine (HG1.out _ hb).mono ?_; rintro e w1 ⟨rfl, hb1⟩
        obtain ⟨-, c1⟩ := cells2 (hB.up hb1)
        have hb2 := bt hb hb1
        clear hB hb hb1
        go_wp2_with fail
        refine (HG2.out _ hb2).mono ?_; rintro e w2 ⟨rfl, hb3⟩
        have Hb := Lib.hid (bt hb2 hb3)
        clear hb2 hb3 c1 HG1 HG2
        go_wp2_with fail
        go_ret3
        exact ⟨rfl, Hb.out⟩
      · clear hqp
        rcases q with _ | _
        all_goals
          go_enter Tryd.func21, Tryd.ntmps21
          go_wp2_with fail
          generalize hW : World.alloc w _ = W
          have hb : Below w.heap.size w W := by rw [← hW]; exact ba w _
          have hB : Blk W w.heap.size [.slice a l.length c, .slice b m.length d] := by rw [← hW]; exact Blk.new w [.slice a l.length c, .slice b m.length d] _
          clear hW
          refine (HG1.out _ hb).mono ?_; rintro e w1 ⟨rfl, hb1⟩
          obtain ⟨-, c1⟩ := cells2 (hB.up hb1)
          have hb2 := bt hb hb1
          clear hB hb hb1
          go_wp2_with fail
          refine (HG2.out _ hb2).mono ?_; rintro e w2 ⟨rfl, hb3⟩
          have Hb := Lib.hid (bt hb2 hb3)
          clear hb2 hb3 c1 HG1 HG2
          go_wp2_with fail
          go_ret3
          exact ⟨rfl, Hb.out⟩
  exact go _ _ rfl rfl
end Go.Proofs.YtiaigekmkmampaaDoor
