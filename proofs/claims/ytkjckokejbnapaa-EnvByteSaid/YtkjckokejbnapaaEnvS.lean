/- The walk of the law EnvTells. -/
import Derived.Test.YtkjckokejbnapaaEnvR
import Derived.Test.YtkjckokejbnapaaInE
set_option linter.unusedSimpArgs false
set_option linter.unusedVariables false
namespace Go.Proofs.Ytkjckokejbnapaa
open Go.RowKit

def RowE (w : World) (L : List UInt8) (er : Int) (e : Ending) (w' : World) : Prop := ∃ a c, e = .returned (.tuple #[.slice a L.length c, .int .i64 er]) ∧ BytesAt w' a L ∧ Below w.heap.size w w'
theorem RowOut.e {w : World} {L : List UInt8} {e : Ending} {w' : World} (h : RowOut w L e w') : RowE w L 0 e w' := by
  obtain ⟨a, c, h1, h2, h3⟩ := h; exact ⟨a, c, h1, h2.at, h3⟩
theorem NoOut.e {w : World} {e : Ending} {w' : World} (h : NoOut w e w') : RowE w [] 1 e w' := ⟨none, 0, h.1, .inl rfl, h.2⟩
theorem input_both (k d e0 e1 g s : Int) (b_ t_ : Option Addr) (bc tc : Nat) (bl tl : List UInt8) (hb : bl.length ≤ maxLen) (ht : tl.length ≤ maxLen) : ∃ (L : List UInt8) (er : Int),
    (∀ W, BytesAt W b_ bl → Calls Try.prog 11 #[envV k d e0 e1 g s (.slice b_ bl.length bc) (.slice t_ tl.length tc)] W (RowE W L er)) ∧
    (∀ W, BytesAt W b_ bl → Calls Try.prog 12 #[envV k d e0 e1 g s (.slice b_ bl.length bc) (.slice t_ tl.length tc)] W (RowE W L er)) := by
  rcases hp : partsB k d e0 e1 g s bl.length with _ | _
  · exact ⟨[], 1, fun W _ => (input_bad k d e0 e1 g s b_ t_ bl.length bc tl.length tc hb hp W).mono fun _ _ h => h.e, fun W _ => (refInput_bad k d e0 e1 g s b_ t_ bl.length bc tl.length tc hb hp W).mono fun _ _ h => h.e⟩
  · obtain ⟨K, D, E0, E1, G, S, rfl, rfl, rfl, rfl, rfl, rfl, hM⟩ := parts_nat hp
    exact ⟨_, 0, fun W h => (input_ok K D E0 E1 G S b_ t_ bc tl.length tc bl hM W h).mono fun _ _ h => h.e, fun W h => (refInput_ok K D E0 E1 G S b_ t_ bc tl.length tc bl hM W h).mono fun _ _ h => h.e⟩
theorem write_both (k d e0 e1 g s : Int) (b_ t_ : Option Addr) (bc tc : Nat) (bl tl : List UInt8) (hb : bl.length ≤ maxLen) (ht : tl.length ≤ maxLen) : ∃ (L : List UInt8) (er : Int),
    (∀ W, BytesAt W b_ bl → BytesAt W t_ tl → Calls Try.prog 13 #[envV k d e0 e1 g s (.slice b_ bl.length bc) (.slice t_ tl.length tc)] W (RowE W L er)) ∧
    (∀ W, BytesAt W b_ bl → BytesAt W t_ tl → Calls Try.prog 14 #[envV k d e0 e1 g s (.slice b_ bl.length bc) (.slice t_ tl.length tc)] W (RowE W L er)) := by
  rcases hp : rightB k d e0 e1 g s bl.length tl.length with _ | _
  · exact ⟨[], 1, fun W _ _ => (write_bad k d e0 e1 g s b_ t_ bl.length bc tl.length tc hb ht hp W).mono fun _ _ h => h.e, fun W _ _ => (refWrite_bad k d e0 e1 g s b_ t_ bl.length bc tl.length tc hb ht hp W).mono fun _ _ h => h.e⟩
  · unfold rightB at hp
    rw [Bool.and_eq_true] at hp
    obtain ⟨K, D, E0, E1, G, S, rfl, rfl, rfl, rfl, rfl, rfl, hM⟩ := parts_nat hp.1
    have h16 := of_decide_eq_true hp.2
    exact ⟨_, 0, fun W h h' => (write_ok K D E0 E1 G S b_ t_ bc tc bl tl hM h16 W h h').mono fun _ _ h => h.e, fun W h h' => (refWrite_ok K D E0 E1 G S b_ t_ bc tc bl tl hM h16 W h h').mono fun _ _ h => h.e⟩

theorem two_env (w : World) (L M : List Value) {w1 : World} (h : Below ((w.alloc (.cells L.toArray 25)).alloc (.cells M.toArray 25)).heap.size ((w.alloc (.cells L.toArray 25)).alloc (.cells M.toArray 25)) w1) :
    BlkT 25 w1 w.heap.size L ∧ BlkT 25 w1 (w.heap.size + 1) M ∧ Below w.heap.size w w1 := by
  have k1 := BlkT.new (w.alloc (.cells L.toArray 25)) M 25
  rw [size_alloc] at k1
  exact ⟨((BlkT.new w L _).up (ba _ _)).up h, k1.up h, bt (bta (ba w _) _) h⟩

set_option maxRecDepth 100000 in
set_option maxHeartbeats 2000000 in
theorem envTells_any (k d e0 e1 g s : Int) (a1 t1 : Option Addr) (bc tc : Nat) (bl tl : List UInt8) (k2 d2 f0 f1 g2 s2 : Int) (a2 t2 : Option Addr) (bc2 tc2 : Nat) (bl2 tl2 : List UInt8) (w : World)
    (hb : bl.length ≤ maxLen) (ht : tl.length ≤ maxLen) (hb2 : bl2.length ≤ maxLen) (ht2 : tl2.length ≤ maxLen) (h1 : BytesAt w a1 bl) (h2 : BytesAt w t1 tl) (h3 : BytesAt w a2 bl2) (h4 : BytesAt w t2 tl2) :
    Calls Try.prog 3 #[envV k d e0 e1 g s (.slice a1 bl.length bc) (.slice t1 tl.length tc), envV k2 d2 f0 f1 g2 s2 (.slice a2 bl2.length bc2) (.slice t2 tl2.length tc2)] w (BoolOut w true) := by
  obtain ⟨XI, ei, HI, HI'⟩ := input_both k d e0 e1 g s a1 t1 bc tc bl tl hb ht
  obtain ⟨XW, ew, HW, HW'⟩ := write_both k d e0 e1 g s a1 t1 bc tc bl tl hb ht
  have HI := Lib.hid (fun W (h : Below w.heap.size w W) => HI W (h1.mono h))
  have HI' := Lib.hid (fun W (h : Below w.heap.size w W) => HI' W (h1.mono h))
  have HW := Lib.hid (fun W (h : Below w.heap.size w W) => HW W (h1.mono h) (h2.mono h))
  have HW' := Lib.hid (fun W (h : Below w.heap.size w W) => HW' W (h1.mono h) (h2.mono h))
  have HF := Lib.hid (fun W => few_any k d e0 e1 g s a1 t1 bl.length bc tl.length tc hb ht W)
  have HF2 := Lib.hid (fun W => few_any k2 d2 f0 f1 g2 s2 a2 t2 bl2.length bc2 tl2.length tc2 hb2 ht2 W)
  have HR := Lib.hid (fun W => right_any k d e0 e1 g s a1 t1 bl.length bc tl.length tc hb ht W)
  have HR' := Lib.hid (fun W => refRight_any k d e0 e1 g s a1 t1 bl.length bc tl.length tc hb ht W)
  have HS := Lib.hid (fun W (h : Below w.heap.size w W) => envSame_any k d e0 e1 g s a1 t1 bc tc bl tl k2 d2 f0 f1 g2 s2 a2 t2 bc2 tc2 bl2 tl2 W (h1.mono h) (h2.mono h) (h3.mono h) (h4.mono h))
  have HS' := Lib.hid (fun W (h : Below w.heap.size w W) => refEnvSame_any k d e0 e1 g s a1 t1 bc tc bl tl k2 d2 f0 f1 g2 s2 a2 t2 bc2 tc2 bl2 tl2 W (h1.mono h) (h2.mono h) (h3.mono h) (h4.mono h))
  generalize (decide (bl.length ≤ 1000) && decide (tl.length ≤ 100)) = fa at HF
  generalize (decide (bl2.length ≤ 1000) && decide (tl2.length ≤ 100)) = fb at HF2
  generalize rightB k d e0 e1 g s bl.length tl.length = rt at HR HR'
  generalize sameB k d e0 e1 g s bl tl k2 d2 f0 f1 g2 s2 bl2 tl2 = sm at HS HS'
  clear h1 h2 h3 h4 hb ht hb2 ht2
  generalize bl.length = n1 at *
  generalize tl.length = n2 at *
  generalize bl2.length = n3 at *
  generalize tl2.length = n4 at *
  have Hsh := Lib.hid shown12
  go_enter Try.func3, Try.ntmps3
  go_wp2_with fail
  refine (Hsh.out _).mono ?_; rintro e w1 ⟨rfl, hb1⟩
  obtain ⟨hE, hF, hG⟩ := two_env w (envL k d e0 e1 g s (.slice a1 n1 bc) (.slice t1 n2 tc)) (envL k2 d2 f0 f1 g2 s2 (.slice a2 n3 bc2) (.slice t2 n4 tc2)) hb1
  have E1 := Lib.hid hE
  have F1 := Lib.hid hF
  have G1 := Lib.hid hG
  clear hE hF hG hb1
  obtain ⟨c0, c1, c2, c3, c4, c5, c6, c7⟩ := env_cells E1.out.blk
  obtain ⟨d0, d1, d2', d3, d4, d5, d6, d7⟩ := env_cells F1.out.blk
  have Z1 := G1.out.size
  go_wp2_with fail
  refine (HF.out _).mono ?_; rintro e w2 ⟨rfl, hb2⟩
  have E2 := Lib.hid (E1.out.up hb2)
  have F2 := Lib.hid (F1.out.up hb2)
  have G2 := Lib.hid (bt G1.out hb2)
  clear c0 c1 c2 c3 c4 c5 c6 c7 d0 d1 d2' d3 d4 d5 d6 d7
  rcases fa with _ | _
  · go_wp2_with fail
    go_ret
    exact ⟨rfl, G2.out⟩
  obtain ⟨c0, c1, c2, c3, c4, c5, c6, c7⟩ := env_cells E2.out.blk
  obtain ⟨d0, d1, d2', d3, d4, d5, d6, d7⟩ := env_cells F2.out.blk
  have Z2 := G2.out.size
  go_wp2_with fail
  refine (HF2.out _).mono ?_; rintro e w3 ⟨rfl, hb3⟩
  have E3 := Lib.hid (E2.out.up hb3)
  have F3 := Lib.hid (F2.out.up hb3)
  have G3 := Lib.hid (bt G2.out hb3)
  clear c0 c1 c2 c3 c4 c5 c6 c7 d0 d1 d2' d3 d4 d5 d6 d7
  rcases fb with _ | _
  · go_wp2_with fail
    go_ret
    exact ⟨rfl, G3.out⟩
  obtain ⟨c0, c1, c2, c3, c4, c5, c6, c7⟩ := env_cells E3.out.blk
  obtain ⟨d0, d1, d2', d3, d4, d5, d6, d7⟩ := env_cells F3.out.blk
  have Z3 := G3.out.size
  go_wp2_with fail
  refine (HI.out _ G3.out).mono ?_; rintro e w4 ⟨p4, q4, rfl, hx4, hb4⟩
  have E4 := Lib.hid (E3.out.up hb4)
  have F4 := Lib.hid (F3.out.up hb4)
  have G4 := Lib.hid (bt G3.out hb4)
  have X4 := Lib.hid hx4
  clear c0 c1 c2 c3 c4 c5 c6 c7 d0 d1 d2' d3 d4 d5 d6 d7
  obtain ⟨c0, c1, c2, c3, c4, c5, c6, c7⟩ := env_cells E4.out.blk
  obtain ⟨d0, d1, d2', d3, d4, d5, d6, d7⟩ := env_cells F4.out.blk
  have Z4 := G4.out.size
  go_wp2_with fail
  refine (HI'.out _ G4.out).mono ?_; rintro e w5 ⟨p5, q5, rfl, hx5, hb5⟩
  have E5 := Lib.hid (E4.out.up hb5)
  have F5 := Lib.hid (F4.out.up hb5)
  have G5 := Lib.hid (bt G4.out hb5)
  have X5 := Lib.hid (X4.out.mono hb5)
  have Y5 := Lib.hid hx5
  clear c0 c1 c2 c3 c4 c5 c6 c7 d0 d1 d2' d3 d4 d5 d6 d7
  obtain ⟨c0, c1, c2, c3, c4, c5, c6, c7⟩ := env_cells E5.out.blk
  obtain ⟨d0, d1, d2', d3, d4, d5, d6, d7⟩ := env_cells F5.out.blk
  have Z5 := G5.out.size
  go_wp2_with fail
  refine (HW.out _ G5.out).mono ?_; rintro e w6 ⟨p6, q6, rfl, hx6, hb6⟩
  have E6 := Lib.hid (E5.out.up hb6)
  have F6 := Lib.hid (F5.out.up hb6)
  have G6 := Lib.hid (bt G5.out hb6)
  have X6 := Lib.hid (At.mono X5.out hb6)
  have Y6 := Lib.hid (Y5.out.mono hb6)
  have U6 := Lib.hid hx6
  clear c0 c1 c2 c3 c4 c5 c6 c7 d0 d1 d2' d3 d4 d5 d6 d7
  obtain ⟨c0, c1, c2, c3, c4, c5, c6, c7⟩ := env_cells E6.out.blk
  obtain ⟨d0, d1, d2', d3, d4, d5, d6, d7⟩ := env_cells F6.out.blk
  have Z6 := G6.out.size
  go_wp2_with fail
  refine (HW'.out _ G6.out).mono ?_; rintro e w7 ⟨p7, q7, rfl, hx7, hb7⟩
  have E7 := Lib.hid (E6.out.up hb7)
  have F7 := Lib.hid (F6.out.up hb7)
  have G7 := Lib.hid (bt G6.out hb7)
  have S1 := Lib.hid (show Calls Try.prog 15 #[.slice p4 XI.length q4, .slice p5 XI.length q5] w7.drew fun e w' => e = .returned (.bool true) ∧ w7.drew = w' from (same01_any p4 p5 _ q4 _ q5 XI XI w7.drew rfl rfl (At.mono (At.mono X6.out hb7) (bd _)) (At.mono (At.mono Y6.out hb7) (bd _))).mono fun e w' ⟨h, h'⟩ => ⟨by rw [h, beq_self_eq_true], h'⟩)
  have S2 := Lib.hid (show Calls Try.prog 15 #[.slice p6 XW.length q6, .slice p7 XW.length q7] w7.drew fun e w' => e = .returned (.bool true) ∧ w7.drew = w' from (same01_any p6 p7 _ q6 _ q7 XW XW w7.drew rfl rfl (At.mono (At.mono U6.out hb7) (bd _)) (At.mono hx7 (bd _))).mono fun e w' ⟨h, h'⟩ => ⟨by rw [h, beq_self_eq_true], h'⟩)
  clear hx4 hx5 hx6 hx7 hb2 hb3 hb4 hb5 hb6 hb7 X4 X5 Y5 X6 Y6 U6
  clear c0 c1 c2 c3 c4 c5 c6 c7 d0 d1 d2' d3 d4 d5 d6 d7
  go_upto_region 8 with (fail)
  have hbd := btd G7.out
  have Q7 := And.intro (env_cells E7.out.blk) (env_cells F7.out.blk)
  go_region_held3 (fun w' => CellsOf w.heap.size k d e0 e1 g s (.slice a1 n1 bc) (.slice t1 n2 tc) w' ∧ CellsOf (w.heap.size + 1) k2 d2 f0 f1 g2 s2 (.slice a2 n3 bc2) (.slice t2 n4 tc2) w') (first | assumption) (first
    | (go_at_call 18; (with_reducible refine Calls.mono (HS.out v10 bv10) ?_); rintro e v11 ⟨rfl, hv11⟩; have Ev11 := Ev10.up hv11; have Fv11 := Fv10.up hv11; have bv11 := bt bv10 hv11; have Qv11 := And.intro (env_cells Ev11.blk) (env_cells Fv11.blk))
    | (go_at_call 19; (with_reducible refine Calls.mono (HS'.out v10 bv10) ?_); rintro e v11 ⟨rfl, hv11⟩; have Ev11 := Ev10.up hv11; have Fv11 := Fv10.up hv11; have bv11 := bt bv10 hv11; have Qv11 := And.intro (env_cells Ev11.blk) (env_cells Fv11.blk))
    | (go_at_call 18; (with_reducible refine Calls.mono (HS.out v9 bv9) ?_); rintro e v10 ⟨rfl, hv10⟩; have Ev10 := Ev9.up hv10; have Fv10 := Fv9.up hv10; have bv10 := bt bv9 hv10; have Qv10 := And.intro (env_cells Ev10.blk) (env_cells Fv10.blk))
    | (go_at_call 19; (with_reducible refine Calls.mono (HS'.out v9 bv9) ?_); rintro e v10 ⟨rfl, hv10⟩; have Ev10 := Ev9.up hv10; have Fv10 := Fv9.up hv10; have bv10 := bt bv9 hv10; have Qv10 := And.intro (env_cells Ev10.blk) (env_cells Fv10.blk))
    | (go_at_call 16; (with_reducible refine Calls.mono (HR.out v8) ?_); rintro e v9 ⟨rfl, hv9⟩; have Ev9 := Ev8.up hv9; have Fv9 := Fv8.up hv9; have bv9 := bt bv8 hv9; have Qv9 := And.intro (env_cells Ev9.blk) (env_cells Fv9.blk))
    | (go_at_call 17; (with_reducible refine Calls.mono (HR'.out v8) ?_); rintro e v9 ⟨rfl, hv9⟩; have Ev9 := Ev8.up hv9; have Fv9 := Fv8.up hv9; have bv9 := bt bv8 hv9; have Qv9 := And.intro (env_cells Ev9.blk) (env_cells Fv9.blk))
    | (go_at_call 16; (with_reducible refine Calls.mono (HR.out _) ?_); rintro e v8 ⟨rfl, hv8⟩; have Ev8 := (E7.out.up (bd _)).up hv8; have Fv8 := (F7.out.up (bd _)).up hv8; have bv8 := bt hbd hv8; have Qv8 := And.intro (env_cells Ev8.blk) (env_cells Fv8.blk))
    | (go_at_call 17; (with_reducible refine Calls.mono (HR'.out _) ?_); rintro e v8 ⟨rfl, hv8⟩; have Ev8 := (E7.out.up (bd _)).up hv8; have Fv8 := (F7.out.up (bd _)).up hv8; have bv8 := bt hbd hv8; have Qv8 := And.intro (env_cells Ev8.blk) (env_cells Fv8.blk))
    | (go_at_call 15; (with_reducible refine Calls.mono S1.out ?_); rintro e w9 ⟨rfl, rfl⟩)
    | (go_at_call 15; (with_reducible refine Calls.mono S2.out ?_); rintro e w9 ⟨rfl, rfl⟩))
  all_goals
    go_split_ands
    go_wp2_with fail
    go_ret
    exact ⟨by simp, bv11⟩
theorem envTells_in (w : World) (k d e0 e1 g s : Int) (a1 : Option Addr) (n1 c1 : Nat) (l1 : List UInt8) (t1 : Option Addr) (m1 x1 : Nat) (z1 : List UInt8) (h1 : InBytes w a1 n1 c1 l1) (h2 : InBytes w t1 m1 x1 z1)
    (k2 d2 f0 f1 g2 s2 : Int) (a2 : Option Addr) (n2 c2 : Nat) (l2 : List UInt8) (t2 : Option Addr) (m2 x2 : Nat) (z2 : List UInt8) (h3 : InBytes w a2 n2 c2 l2) (h4 : InBytes w t2 m2 x2 z2) :
    Calls Try.prog 3 #[envV k d e0 e1 g s (.slice a1 n1 c1) (.slice t1 m1 x1), envV k2 d2 f0 f1 g2 s2 (.slice a2 n2 c2) (.slice t2 m2 x2)] w (BoolOut w true) := by
  obtain ⟨rfl, q1, q2, q3⟩ := h1
  obtain ⟨rfl, r1, r2, r3⟩ := h2
  obtain ⟨rfl, u1, u2, u3⟩ := h3
  obtain ⟨rfl, v1, v2, v3⟩ := h4
  exact envTells_any k d e0 e1 g s a1 t1 c1 x1 l1 z1 k2 d2 f0 f1 g2 s2 a2 t2 c2 x2 l2 z2 w (Nat.le_trans q1 q2) (Nat.le_trans r1 r2) (Nat.le_trans u1 u2) (Nat.le_trans v1 v2) q3 r3 u3 v3
end Go.Proofs.Ytkjckokejbnapaa
