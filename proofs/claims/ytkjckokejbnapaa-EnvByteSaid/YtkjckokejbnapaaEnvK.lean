/- Envelopes: what is tagged, of the document. -/
import Derived.Test.YtkjckokejbnapaaEnvJ
import Derived.Deep.RegionHeld3
import Derived.Deep.DrawnRows
set_option linter.unusedSimpArgs false
set_option linter.unusedVariables false
namespace Go.Proofs.Ytkjckokejbnapaa
open Go.RowKit

theorem step_ownBG {ops : Array Oper} {o : Oper} {a : Act} {w : World} {K : Act → World → Prop} {Q : Exit → Act → World → Prop} {F : Prop} (s x : Operand) (hw : Region.wanted o (yielded ops a.tmps) = true)
    (ho : o.op = .call { callee := .builtin .append, args := #[s, x], argTypes := #[23, 23] }) {B n : Nat} {v : Value} {xs : List Value} (hs : a.eval s = v) (hB : OwnB B w v n xs)
    {sp : Option Addr} {m c : Nat} {news : List Value} (hx : a.eval x = .slice sp m c) (hS : At w sp news) (hl : news.length = m) (h1 : ∀ u ∈ news, u.oneCell' = true) (h63 : n + m ≤ 1099511627776) (N : Nat) (hN : n + m = N) (ys : List Value) (hys : ys = xs ++ news)
    (hK : ∀ a' cap' w', OwnB B w' (.slice a' N cap') N ys → w.grownBy w' v.ownBlock → (Value.ownBlock (.slice a' N cap') = v.ownBlock ∨ Value.ownBlock (.slice a' N cap') = some w.heap.size) → K (a.put o.dst (.slice a' N cap')) w') : if Region.wanted o (yielded ops a.tmps) = true then Oper.wp Try.prog o a w K Q else F := by
  subst hN; subst hys
  rw [if_pos hw]
  obtain ⟨a', cap', w', hr, ho', hg, hat⟩ := run_sep elemB hB.own (m := m) c hS (by omega) h1 (by unfold maxLen; omega) (by omega) hB.le o.type
  unfold Oper.wp execOp
  simp only [ho, resolve, List.map_toArray, List.map_cons, List.map_nil, hs, hx, invoke, builtin, Sem.run_bind, Sem.run_pure, Result.andThen_ok, hr]
  exact hK _ _ _ ⟨ho', Nat.le_trans hB.le hg.size⟩ hg hat
theorem own_big {B b n z : Nat} {w : World} (h : BlkT 5 w b (B8s (bigF n z))) (hB : B ≤ b) (hz : z ≤ 8) : OwnB B w (.slice (some ⟨b, 0, none⟩) z z) z (B8s (bigF n z)) := by
  have hlt := h.blk.lt
  have hl := bigF_len n z
  exact ⟨⟨by simp [hl], .inr ⟨b, z, (B8s (bigF n z)).toArray, rfl, hB, h, Nat.le_refl _, by unfold maxLen; omega, by simp [hl], by rw [Nat.mul_one, List.take_of_length_le (by simp [hl])]⟩⟩, by omega⟩
theorem apart_blk {B b n l c : Nat} {w : World} {v : Value} {xs : List Value} (h : OwnB B w v n xs) (hb : w.heap.size ≤ b) : Apart (.slice (some ⟨b, 0, none⟩) l c) v := fun k h1 h2 => by
  have := (h.lt h2).2
  simp [Value.ownBlock] at h1
  omega
/-- a number's bytes in a block of the call's own -/
def BigR (w : World) (n z : Nat) (e : Ending) (w' : World) : Prop := ∃ b, w.heap.size ≤ b ∧ e = .returned (.slice (some ⟨b, 0, none⟩) z z) ∧ OwnB w.heap.size w' (.slice (some ⟨b, 0, none⟩) z z) z (B8s (bigF n z)) ∧ Below w.heap.size w w'
theorem bigR_any (n z : Nat) (hz : 1 ≤ z) (hz8 : z ≤ 8) (hn : n < 256 ^ z) (hn63 : n ≤ 9223372036854775807) (w : World) :
    Calls Try.prog 28 #[.int .i64 n, .int .i64 z] w (BigR w n z) :=
  (refbig_any n z hz hz8 hn hn63 w).mono fun e w' ⟨h1, h2, h3⟩ => ⟨w.heap.size, Nat.le_refl _, h1, own_big h2 (Nat.le_refl _) hz8, h3⟩
abbrev CellsOf (b : Nat) (k d e0 e1 g s : Int) (vb vt : Value) (w : World) : Prop :=
    w.cell? ⟨b, 0, none⟩ = some (.int .i64 k) ∧ w.cell? ⟨b, 1, none⟩ = some (.int .i64 d) ∧ w.cell? ⟨b, 2, none⟩ = some (.int .i64 e0) ∧ w.cell? ⟨b, 3, none⟩ = some (.int .i64 e1) ∧
    w.cell? ⟨b, 4, none⟩ = some (.int .i64 g) ∧ w.cell? ⟨b, 5, none⟩ = some (.int .i64 s) ∧ w.cell? ⟨b, 6, none⟩ = some vb ∧ w.cell? ⟨b, 7, none⟩ = some vt
/-- what lies behind a statement: the row so far, the envelope's block -/
def InAt (w wx : World) (b : Nat) (L : List Value) (X : List UInt8) (v : Value) : Prop :=
  ∃ a c, v = .slice a X.length c ∧ OwnB w.heap.size wx (.slice a X.length c) X.length (B8s X) ∧ BlkT 25 wx b L ∧ Below w.heap.size w wx

set_option maxHeartbeats 1000000 in
theorem refInput_bad (k d e0 e1 g s : Int) (b_ t_ : Option Addr) (n bc m tc : Nat) (hn : n ≤ maxLen) (hp : partsB k d e0 e1 g s n = false) (w : World) :
    Calls Try.prog 12 #[envV k d e0 e1 g s (.slice b_ n bc) (.slice t_ m tc)] w (NoOut w) := by
  have Hp := Lib.hid (fun W => refParts_any k d e0 e1 g s b_ t_ n bc m tc hn W)
  rw [hp] at Hp
  go_enter Try.func12, Try.ntmps12
  go_wp2_with fail
  refine (Hp.out _).mono ?_; rintro e w1 ⟨rfl, hb1⟩
  have Hb1 := Lib.hid (bt (ba w _) hb1)
  clear hb1
  go_wp2_with fail
  go_ret2
  exact ⟨rfl, Hb1.out⟩

set_option maxRecDepth 100000 in
set_option maxHeartbeats 2000000 in
theorem refInput_ok (k d e0 e1 g s : Nat) (b_ t_ : Option Addr) (bc m tc : Nat) (bl : List UInt8) (h : MayBe k d e0 e1 g s bl.length) (w : World) (hbl : BytesAt w b_ bl) :
    Calls Try.prog 12 #[envV k d e0 e1 g s (.slice b_ bl.length bc) (.slice t_ m tc)] w (RowOut w (inF k d e0 e1 g s bl)) := by
  have Hp := Lib.hid (fun W => refParts_any k d e0 e1 g s b_ t_ bl.length bc m tc (by have := h.n2; unfold maxLen; omega) W)
  rw [h.parts] at Hp
  have HM := Lib.hid h
  have Hbl := Lib.hid hbl
  obtain ⟨XF, hXF⟩ : ∃ XF, XF = inF k d e0 e1 g s bl := ⟨_, rfl⟩
  rw [← hXF]
  have HXF := Lib.hid hXF
  clear h hbl hXF
  go_enter Try.func12, Try.ntmps12
  go_wp2_with fail
  refine (Hp.out _).mono ?_; rintro e w1 ⟨rfl, hb1⟩
  have EW := Lib.hid (env_box w k d e0 e1 g s _ _ hb1)
  have Hb1 := Lib.hid (bt (ba w _) hb1)
  clear hb1 Hp
  generalize hW : w1 = W at EW Hb1 ⊢
  clear hW w1
  go_upto_region 4 with (fail)
  obtain ⟨X0, hX0⟩ : ∃ X0, X0 = layF [] 1 [k, d] := ⟨_, rfl⟩
  have HX0 := Lib.hid (show X0.length = 2 by rw [hX0, layF_len]; rfl)
  have GX0 := Lib.hid hX0
  go_cut [5] (fun v5 wx => InAt w wx w.heap.size (envL k d e0 e1 g s (.slice b_ bl.length bc) (.slice t_ m tc)) X0 v5)
  case first =>
    have HC1 := Lib.hid (show ∀ W', Calls Try.prog 28 #[.int .i64 k, .int .i64 1] W' (BigR W' k 1) from fun W' => bigR_any k 1 (by decide) (by decide) (by have := HM.out.k2; omega) (by have := HM.out.k2; omega) W')
    have HC2 := Lib.hid (show ∀ W', Calls Try.prog 28 #[.int .i64 d, .int .i64 1] W' (BigR W' d 1) from fun W' => bigR_any d 1 (by decide) (by decide) (by have := HM.out.d1; omega) (by have := HM.out.d1; omega) W')
    have HF2 := Lib.hid (bigF_len d 1)
    have HX1 := Lib.hid (show B8s X0 = B8s (bigF k 1) ++ B8s (bigF d 1) by rw [hX0, ← B8s_app]; rfl)
    have HX1l := Lib.hid (show 1 + 1 = X0.length by rw [hX0, layF_len]; rfl)
    have hbd := btd Hb1.out
    have Q0 := env_cells EW.out.blk
    clear hX0
    go_region_held3 (CellsOf w.heap.size k d e0 e1 g s (.slice b_ bl.length bc) (.slice t_ m tc)) (first | assumption) (first
      | (refine step_ownBG (.tmp 12) (.tmp 15) (by first | rfl | simp [Region.wanted, yielded]) rfl rfl O7 (news := B8s (bigF d 1)) (m := 1) rfl N7.at (by rw [List.length_map, HF2.out]) (bytes_one (bigF d 1)) (by omega) X0.length HX1l.out (B8s X0) HX1.out ?_; intro a8 c8 w8 O8 hg8 hat8; have E8 := E7.grownB (by decide) O7 hg8; have b8 := below_own b7 O7.own hg8 b7.size (Nat.le_refl _); have Q8 := env_cells E8.blk)
      | (go_at_call 28; (with_reducible refine Calls.mono (HC2.out w6) ?_); rintro e w7 ⟨n7, hn7, rfl, N7, hb7⟩; have E7 := E6.up hb7; have b7 := bt b6 hb7; have O7 := K6.up hb7; have Q7 := env_cells E7.blk)
      | (go_at_call 28; (with_reducible refine Calls.mono (HC1.out w6) ?_); rintro e w7 ⟨n7, hn7, rfl, K7, hb7⟩; have E7 := E6.up hb7; have b7 := bt b6 hb7; have O7 := K7.low b6.size; have N7 := D6.up hb7; have Q7 := env_cells E7.blk)
      | (go_at_call 28; (with_reducible refine Calls.mono (HC1.out _) ?_); rintro e w6 ⟨n6, hn6, rfl, K6, hb6⟩; have E6 := (EW.out.up (bd _)).up hb6; have b6 := bt hbd hb6; have K6 := K6.low hbd.size; have Q6 := env_cells E6.blk)
      | (go_at_call 28; (with_reducible refine Calls.mono (HC2.out _) ?_); rintro e w6 ⟨n6, hn6, rfl, D6, hb6⟩; have E6 := (EW.out.up (bd _)).up hb6; have b6 := bt hbd hb6; have Q6 := env_cells E6.blk))
    all_goals
      go_split_ands
      go_wp2_with fail
      go_meet
      exact ⟨a8, c8, rfl, O8, E8, b8⟩
  clear EW Hb1 hX0
  obtain ⟨a5, cp5, rfl, hO5, hE5, hb5⟩ := hcut
  have EW := Lib.hid hE5
  have OW := Lib.hid hO5
  have Hb1 := Lib.hid hb5
  have hlb0 : X0.length ≤ 100 := by rw [HX0.out]; decide
  obtain ⟨Y1, hX1⟩ : ∃ Y1, Y1 = X0 ++ bigF e0 8 := ⟨_, rfl⟩
  obtain ⟨Y2, hX2⟩ : ∃ Y2, Y2 = Y1 ++ bigF e1 8 := ⟨_, rfl⟩
  have HY1 := Lib.hid (show Y1.length = 10 by rw [hX1, List.length_append, bigF_len, HX0.out])
  have HY2 := Lib.hid (show Y2.length = 18 by rw [hX2, List.length_append, bigF_len, HY1.out])
  have GY1 := Lib.hid hX1
  have GY2 := Lib.hid hX2
  clear hX1 hX2 hO5 hE5 hb5
  go_upto_region 5 with (fail)
  go_cut [5] (fun v5 wx => InAt w wx w.heap.size (envL k d e0 e1 g s (.slice b_ bl.length bc) (.slice t_ m tc)) Y2 v5)
  case first =>
    have HC1 := Lib.hid (show ∀ W', Calls Try.prog 28 #[.int .i64 e0, .int .i64 8] W' (BigR W' e0 8) from fun W' => bigR_any e0 8 (by decide) (by decide) (by have := HM.out.e0; omega) (by have := HM.out.e0; omega) W')
    have HC2 := Lib.hid (show ∀ W', Calls Try.prog 28 #[.int .i64 e1, .int .i64 8] W' (BigR W' e1 8) from fun W' => bigR_any e1 8 (by decide) (by decide) (by have := HM.out.e1; omega) (by have := HM.out.e1; omega) W')
    have HF1 := Lib.hid (bigF_len e0 8)
    have HF2 := Lib.hid (bigF_len e1 8)
    have HX1 := Lib.hid (show B8s Y1 = B8s X0 ++ B8s (bigF e0 8) by rw [GY1.out, ← B8s_app])
    have HX2 := Lib.hid (show B8s Y2 = B8s Y1 ++ B8s (bigF e1 8) by rw [GY2.out, ← B8s_app])
    have HX1l := Lib.hid (show X0.length + 8 = Y1.length by rw [HX0.out, HY1.out])
    have HX2l := Lib.hid (show Y1.length + 8 = Y2.length by rw [HY1.out, HY2.out])
    have hlb1 : Y1.length ≤ 100 := by rw [HY1.out]; decide
    have hbd := btd Hb1.out
    have Q0 := env_cells EW.out.blk
    clear hlb0
    have hlb0 : X0.length ≤ 100 := by rw [HX0.out]; decide
    go_region_held3 (CellsOf w.heap.size k d e0 e1 g s (.slice b_ bl.length bc) (.slice t_ m tc)) (first | assumption) (first
      | (refine step_ownBG (.tmp 22) (.tmp 26) (by first | rfl | simp [Region.wanted, yielded]) rfl rfl O8 (news := B8s (bigF e1 8)) (m := 8) rfl P8.at (by rw [List.length_map, HF2.out]) (bytes_one (bigF e1 8)) (by omega) Y2.length HX2l.out (B8s Y2) HX2.out ?_; intro a9 c9 w9 O9 hg9 hat9; have E9 := E8.grownB (by decide) O8 hg9; have b9 := below_own b8 O8.own hg9 b8.size (Nat.le_refl _); have Q9 := env_cells E9.blk)
      | (refine step_ownBG (.tmp 17) (.tmp 21) (by first | rfl | simp [Region.wanted, yielded]) rfl rfl O7 (news := B8s (bigF e0 8)) (m := 8) rfl N7.at (by rw [List.length_map, HF1.out]) (bytes_one (bigF e0 8)) (by omega) Y1.length HX1l.out (B8s Y1) HX1.out ?_; intro a8 c8 w8 O8 hg8 hat8; have E8 := E7.grownB (by decide) O7 hg8; have b8 := below_own b7 O7.own hg8 b7.size (Nat.le_refl _); have P8 := P7.other (n := 0) (xs := []) hg8 ap7; have Q8 := env_cells E8.blk)
      | (refine step_ownBG (.tmp 17) (.tmp 21) (by first | rfl | simp [Region.wanted, yielded]) rfl rfl O6 (news := B8s (bigF e0 8)) (m := 8) rfl N6.at (by rw [List.length_map, HF1.out]) (bytes_one (bigF e0 8)) (by omega) Y1.length HX1l.out (B8s Y1) HX1.out ?_; intro a77 c77 w77 O77 hg77 hat77; have E77 := E6.grownB (by decide) O6 hg77; have b77 := below_own b6 O6.own hg77 b6.size (Nat.le_refl _); have Q77 := env_cells E77.blk)
      | (go_at_call 28; (with_reducible refine Calls.mono (HC2.out w77) ?_); rintro e w8 ⟨n8, hn8, rfl, P8, hb8⟩; have E8 := E77.up hb8; have b8 := bt b77 hb8; have O8 := O77.up hb8; have Q8 := env_cells E8.blk)
      | (go_at_call 28; (with_reducible refine Calls.mono (HC2.out w6) ?_); rintro e w7 ⟨n7, hn7, rfl, P7, hb7⟩; have E7 := E6.up hb7; have b7 := bt b6 hb7; have N7 := N6.up hb7; have O7 := O6.up hb7; have ap7 := apart_blk (l := 8) (c := 8) O6 hn7; have Q7 := env_cells E7.blk)
      | (go_at_call 28; (with_reducible refine Calls.mono (HC1.out w6) ?_); rintro e w7 ⟨n7, hn7, rfl, N7, hb7⟩; have E7 := E6.up hb7; have b7 := bt b6 hb7; have P7 := P6.up hb7; have O7 := O6.up hb7; have ap7 := ap6; have Q7 := env_cells E7.blk)
      | (go_at_call 28; (with_reducible refine Calls.mono (HC1.out _) ?_); rintro e w6 ⟨n6, hn6, rfl, N6, hb6⟩; have E6 := (EW.out.up (bd _)).up hb6; have b6 := bt hbd hb6; have O6 := (OW.out.up (bd _)).up hb6; have Q6 := env_cells E6.blk)
      | (go_at_call 28; (with_reducible refine Calls.mono (HC2.out _) ?_); rintro e w6 ⟨n6, hn6, rfl, P6, hb6⟩; have E6 := (EW.out.up (bd _)).up hb6; have b6 := bt hbd hb6; have O6 := (OW.out.up (bd _)).up hb6; have ap6 := apart_blk (l := 8) (c := 8) (OW.out.up (bd _)) hn6; have Q6 := env_cells E6.blk))
    all_goals
      go_split_ands
      go_wp2_with fail
      go_meet
      exact ⟨a9, c9, rfl, O9, E9, b9⟩
  clear EW OW Hb1 hlb0
  obtain ⟨a5, cp5, rfl, hO5, hE5, hb5⟩ := hcut
  have EW := Lib.hid hE5
  have OW := Lib.hid hO5
  have Hb1 := Lib.hid hb5
  have hlb0 : Y2.length ≤ 100 := by rw [HY2.out]; decide
  obtain ⟨Z1, hX1⟩ : ∃ Z1, Z1 = Y2 ++ bigF g 4 := ⟨_, rfl⟩
  obtain ⟨Z2, hX2⟩ : ∃ Z2, Z2 = Z1 ++ bigF s 8 := ⟨_, rfl⟩
  have HZ1 := Lib.hid (show Z1.length = 22 by rw [hX1, List.length_append, bigF_len, HY2.out])
  have HZ2 := Lib.hid (show Z2.length = 30 by rw [hX2, List.length_append, bigF_len, HZ1.out])
  have GZ1 := Lib.hid hX1
  have GZ2 := Lib.hid hX2
  clear hX1 hX2 hO5 hE5 hb5
  go_upto_region 6 with (fail)
  go_cut [5] (fun v5 wx => InAt w wx w.heap.size (envL k d e0 e1 g s (.slice b_ bl.length bc) (.slice t_ m tc)) Z2 v5)
  case first =>
    have HC1 := Lib.hid (show ∀ W', Calls Try.prog 28 #[.int .i64 g, .int .i64 4] W' (BigR W' g 4) from fun W' => bigR_any g 4 (by decide) (by decide) (by have := HM.out.g1; omega) (by have := HM.out.g1; omega) W')
    have HC2 := Lib.hid (show ∀ W', Calls Try.prog 28 #[.int .i64 s, .int .i64 8] W' (BigR W' s 8) from fun W' => bigR_any s 8 (by decide) (by decide) (by have := HM.out.s1; omega) (by have := HM.out.s1; omega) W')
    have HF1 := Lib.hid (bigF_len g 4)
    have HF2 := Lib.hid (bigF_len s 8)
    have HX1 := Lib.hid (show B8s Z1 = B8s Y2 ++ B8s (bigF g 4) by rw [GZ1.out, ← B8s_app])
    have HX2 := Lib.hid (show B8s Z2 = B8s Z1 ++ B8s (bigF s 8) by rw [GZ2.out, ← B8s_app])
    have HX1l := Lib.hid (show Y2.length + 4 = Z1.length by rw [HY2.out, HZ1.out])
    have HX2l := Lib.hid (show Z1.length + 8 = Z2.length by rw [HZ1.out, HZ2.out])
    have hlb1 : Z1.length ≤ 100 := by rw [HZ1.out]; decide
    have hbd := btd Hb1.out
    have Q0 := env_cells EW.out.blk
    clear hlb0
    have hlb0 : Y2.length ≤ 100 := by rw [HY2.out]; decide
    go_region_held3 (CellsOf w.heap.size k d e0 e1 g s (.slice b_ bl.length bc) (.slice t_ m tc)) (first | assumption) (first
      | (refine step_ownBG (.tmp 32) (.tmp 35) (by first | rfl | simp [Region.wanted, yielded]) rfl rfl O8 (news := B8s (bigF s 8)) (m := 8) rfl P8.at (by rw [List.length_map, HF2.out]) (bytes_one (bigF s 8)) (by omega) Z2.length HX2l.out (B8s Z2) HX2.out ?_; intro a9 c9 w9 O9 hg9 hat9; have E9 := E8.grownB (by decide) O8 hg9; have b9 := below_own b8 O8.own hg9 b8.size (Nat.le_refl _); have Q9 := env_cells E9.blk)
      | (refine step_ownBG (.tmp 28) (.tmp 31) (by first | rfl | simp [Region.wanted, yielded]) rfl rfl O7 (news := B8s (bigF g 4)) (m := 4) rfl N7.at (by rw [List.length_map, HF1.out]) (bytes_one (bigF g 4)) (by omega) Z1.length HX1l.out (B8s Z1) HX1.out ?_; intro a8 c8 w8 O8 hg8 hat8; have E8 := E7.grownB (by decide) O7 hg8; have b8 := below_own b7 O7.own hg8 b7.size (Nat.le_refl _); have P8 := P7.other (n := 0) (xs := []) hg8 ap7; have Q8 := env_cells E8.blk)
      | (refine step_ownBG (.tmp 28) (.tmp 31) (by first | rfl | simp [Region.wanted, yielded]) rfl rfl O6 (news := B8s (bigF g 4)) (m := 4) rfl N6.at (by rw [List.length_map, HF1.out]) (bytes_one (bigF g 4)) (by omega) Z1.length HX1l.out (B8s Z1) HX1.out ?_; intro a77 c77 w77 O77 hg77 hat77; have E77 := E6.grownB (by decide) O6 hg77; have b77 := below_own b6 O6.own hg77 b6.size (Nat.le_refl _); have Q77 := env_cells E77.blk)
      | (go_at_call 28; (with_reducible refine Calls.mono (HC2.out w77) ?_); rintro e w8 ⟨n8, hn8, rfl, P8, hb8⟩; have E8 := E77.up hb8; have b8 := bt b77 hb8; have O8 := O77.up hb8; have Q8 := env_cells E8.blk)
      | (go_at_call 28; (with_reducible refine Calls.mono (HC2.out w6) ?_); rintro e w7 ⟨n7, hn7, rfl, P7, hb7⟩; have E7 := E6.up hb7; have b7 := bt b6 hb7; have N7 := N6.up hb7; have O7 := O6.up hb7; have ap7 := apart_blk (l := 8) (c := 8) O6 hn7; have Q7 := env_cells E7.blk)
      | (go_at_call 28; (with_reducible refine Calls.mono (HC1.out w6) ?_); rintro e w7 ⟨n7, hn7, rfl, N7, hb7⟩; have E7 := E6.up hb7; have b7 := bt b6 hb7; have P7 := P6.up hb7; have O7 := O6.up hb7; have ap7 := ap6; have Q7 := env_cells E7.blk)
      | (go_at_call 28; (with_reducible refine Calls.mono (HC1.out _) ?_); rintro e w6 ⟨n6, hn6, rfl, N6, hb6⟩; have E6 := (EW.out.up (bd _)).up hb6; have b6 := bt hbd hb6; have O6 := (OW.out.up (bd _)).up hb6; have Q6 := env_cells E6.blk)
      | (go_at_call 28; (with_reducible refine Calls.mono (HC2.out _) ?_); rintro e w6 ⟨n6, hn6, rfl, P6, hb6⟩; have E6 := (EW.out.up (bd _)).up hb6; have b6 := bt hbd hb6; have O6 := (OW.out.up (bd _)).up hb6; have ap6 := apart_blk (l := 8) (c := 8) (OW.out.up (bd _)) hn6; have Q6 := env_cells E6.blk))
    all_goals
      go_split_ands
      go_wp2_with fail
      go_meet
      exact ⟨a9, c9, rfl, O9, E9, b9⟩
  clear EW OW Hb1 hlb0
  obtain ⟨a5, cp5, rfl, hO5, hE5, hb5⟩ := hcut
  have OW := Lib.hid hO5
  have Hb1 := Lib.hid hb5
  obtain ⟨c0, c1, c2, c3, c4, c5, c6, c7⟩ := env_cells hE5.blk
  have HXF2 := Lib.hid (show XF = Z2 ++ bl by rw [HXF.out, GZ2.out, GZ1.out, GY2.out, GY1.out, GX0.out]; rfl)
  have HXs := Lib.hid (show B8s XF = B8s Z2 ++ B8s bl by rw [HXF2.out, B8s_app])
  have HXl := Lib.hid (show Z2.length + bl.length = XF.length by rw [HXF2.out, List.length_append])
  have hz2 : Z2.length ≤ 100 := by rw [HZ2.out]; decide
  have hbl9 := HM.out.n2
  have Hb5 := Lib.hid (Hbl.out.mono Hb1.out)
  clear hO5 hb5 hE5
  go_wp2_with (at_builtin; go_must ((refine wpList_ownB2 (.tmp 37) (.tmp 39) rfl rfl rfl OW.out (news := B8s bl) (m := bl.length) rfl Hb5.out (by simp) (bytes_one bl) (by omega) XF.length HXl.out (B8s XF) HXs.out ?_); intro a6 c6' w6 h6 hg6 hat6))
  go_ret2
  exact ⟨a6, c6', rfl, h6, below_own Hb1.out OW.out.own hg6 OW.out.le (Nat.le_refl _)⟩
end Go.Proofs.Ytkjckokejbnapaa
