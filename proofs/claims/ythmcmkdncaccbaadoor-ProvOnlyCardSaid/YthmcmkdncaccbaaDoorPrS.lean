/- A provider is asked: two regions, whatever their order. -/
import Derived.Test.YthmcmkdncaccbaaDoorApr
import Derived.Test.YthmcmkdncaccbaaDoorInQ
set_option linter.unusedSimpArgs false
set_option linter.unusedVariables false
namespace Go.Proofs.YthmcmkdncaccbaaDoor
open Go.RowKit

theorem fill_sliceH {P : Program} {ops : Array Oper} {S : World → Prop} {o : Oper} {a : Act} {t : TypeId} {x : Operand} {h : Value} {p : Option Addr} {n c : Nat} {v : Value} (hg : o.guard = none) (ho : o.op = .slice t x none (some (.const h)) none) (hx : a.eval x = .slice p n c)
    (hrun : ∀ w, (Instr.sliceAt t (.slice p n c) none (some h) none).run P w = .ok v w) : YieldsIf P ops S o v a := by
  refine fill_run hg fun w _ => ?_
  have e : a.eval (.const h) = h := rfl
  unfold execOp
  simp only [ho, hx, Option.map_none, Option.map_some, e, Sem.run_bind, hrun, Result.andThen_ok]
  rfl
noncomputable def asked6 : {ops : Array Oper // (Tryd.f22.body.bind (findRegion 6)) = some (.region 6 ops true)} := ⟨_, rfl⟩
abbrev ks_asked6 : List Nat := [40, 41, 42, 43, 44, 45, 46, 7, 8]
theorem asked6_ns : Region.noSelect asked6.1 = true := by kernel_rfl
theorem asked6_o0 : (asked6.1[0]?).map (fun o => (o.op, o.dst, o.guard)) = some (.load 24 (Operand.tmp 11), some 40, none) := by kernel_rfl
theorem asked6_o1 : (asked6.1[1]?).map (fun o => (o.op, o.dst, o.guard)) = some (.buildSlice 40 0 #[], some 41, none) := by kernel_rfl
theorem asked6_o2 : (asked6.1[2]?).map (fun o => (o.op, o.dst, o.guard)) = some (.move (Operand.tmp 2), some 42, none) := by kernel_rfl
theorem asked6_o3 : (asked6.1[3]?).map (fun o => (o.op, o.dst, o.guard)) = some (.call { callee := Callee.builtin Builtin.append, args := #[Operand.tmp 41, Operand.tmp 42], argTypes := #[40, 40] }, some 43, none) := by kernel_rfl
theorem asked6_o4 : (asked6.1[4]?).map (fun o => (o.op, o.dst, o.guard)) = some (.move (Operand.tmp 12), some 44, none) := by kernel_rfl
theorem asked6_o5 : (asked6.1[5]?).map (fun o => (o.op, o.dst, o.guard)) = some (.buildSlice 40 1 #[(0, Operand.tmp 44)], some 45, none) := by kernel_rfl
theorem asked6_o6 : (asked6.1[6]?).map (fun o => (o.op, o.dst, o.guard)) = some (.call { callee := Callee.builtin Builtin.append, args := #[Operand.tmp 43, Operand.tmp 45], argTypes := #[40, 40] }, some 46, none) := by kernel_rfl
theorem asked6_o7 : (asked6.1[7]?).map (fun o => (o.op, o.dst, o.guard)) = some (.store 24 (Operand.tmp 6) (Operand.tmp 40), none, none) := by kernel_rfl
theorem asked6_o8 : (asked6.1[8]?).map (fun o => (o.op, o.dst, o.guard)) = some (.assign (Operand.const (Value.bool true)), some 7, none) := by kernel_rfl
theorem asked6_o9 : (asked6.1[9]?).map (fun o => (o.op, o.dst, o.guard)) = some (.assign (Operand.tmp 46), some 8, none) := by kernel_rfl
theorem asked6_f0 : Region.free .any asked6.1 #[false, false, false, false, false, false, false, false, false, false] 0 = true := by kernel_rfl
theorem asked6_f1 : (Region.ready .any asked6.1 #[false, false, false, false, false, false, false, false, false, false]).contains 0 = true := by kernel_rfl
theorem asked6_f2 : #[false, false, false, false, false, false, false, false, false, false].setIfInBounds 0 true = #[true, false, false, false, false, false, false, false, false, false] := by kernel_rfl
theorem asked6_f3 : Region.free .any asked6.1 #[true, false, false, false, false, false, false, false, false, false] 2 = true := by kernel_rfl
theorem asked6_f4 : (Region.ready .any asked6.1 #[true, false, false, false, false, false, false, false, false, false]).contains 2 = true := by kernel_rfl
theorem asked6_f5 : #[true, false, false, false, false, false, false, false, false, false].setIfInBounds 2 true = #[true, false, true, false, false, false, false, false, false, false] := by kernel_rfl
theorem asked6_f6 : Region.free .any asked6.1 #[true, false, true, false, false, false, false, false, false, false] 4 = true := by kernel_rfl
theorem asked6_f7 : (Region.ready .any asked6.1 #[true, false, true, false, false, false, false, false, false, false]).contains 4 = true := by kernel_rfl
theorem asked6_f8 : #[true, false, true, false, false, false, false, false, false, false].setIfInBounds 4 true = #[true, false, true, false, true, false, false, false, false, false] := by kernel_rfl
theorem asked6_f9 : Region.free .any asked6.1 #[true, true, true, true, true, true, true, true, false, false] 8 = true := by kernel_rfl
theorem asked6_f10 : (Region.ready .any asked6.1 #[true, true, true, true, true, true, true, true, false, false]).contains 8 = true := by kernel_rfl
theorem asked6_f11 : #[true, true, true, true, true, true, true, true, false, false].setIfInBounds 8 true = #[true, true, true, true, true, true, true, true, true, false] := by kernel_rfl
theorem asked6_f12 : Region.free .any asked6.1 #[true, true, true, true, true, true, true, true, true, false] 9 = true := by kernel_rfl
theorem asked6_f13 : (Region.ready .any asked6.1 #[true, true, true, true, true, true, true, true, true, false]).contains 9 = true := by kernel_rfl
theorem asked6_f14 : #[true, true, true, true, true, true, true, true, true, false].setIfInBounds 9 true = #[true, true, true, true, true, true, true, true, true, true] := by kernel_rfl
theorem asked6_f15 : Region.ready .any asked6.1 #[true, true, true, true, true, true, true, true, true, true] = [] := by kernel_rfl
theorem asked6_f16 : Region.ready .any asked6.1 #[true, true, true, true, true, true, true, false, false, false] = [7] := by kernel_rfl
theorem asked6_f17 : #[true, true, true, true, true, true, true, false, false, false].setIfInBounds 7 true = #[true, true, true, true, true, true, true, true, false, false] := by kernel_rfl
theorem asked6_f18 : Region.ready .any asked6.1 #[true, true, true, true, true, true, false, false, false, false] = [6] := by kernel_rfl
theorem asked6_f19 : #[true, true, true, true, true, true, false, false, false, false].setIfInBounds 6 true = #[true, true, true, true, true, true, true, false, false, false] := by kernel_rfl
theorem asked6_f20 : Region.ready .any asked6.1 #[true, true, true, true, true, false, false, false, false, false] = [5] := by kernel_rfl
theorem asked6_f21 : #[true, true, true, true, true, false, false, false, false, false].setIfInBounds 5 true = #[true, true, true, true, true, true, false, false, false, false] := by kernel_rfl
theorem asked6_f22 : Region.ready .any asked6.1 #[true, true, true, false, true, true, false, false, false, false] = [3] := by kernel_rfl
theorem asked6_f23 : #[true, true, true, false, true, true, false, false, false, false].setIfInBounds 3 true = #[true, true, true, true, true, true, false, false, false, false] := by kernel_rfl
theorem asked6_f24 : Region.ready .any asked6.1 #[true, true, true, false, true, false, false, false, false, false] = [3, 5] := by kernel_rfl
theorem asked6_f25 : #[true, true, true, false, true, false, false, false, false, false].setIfInBounds 3 true = #[true, true, true, true, true, false, false, false, false, false] := by kernel_rfl
theorem asked6_f26 : #[true, true, true, false, true, false, false, false, false, false].setIfInBounds 5 true = #[true, true, true, false, true, true, false, false, false, false] := by kernel_rfl
theorem asked6_f27 : Region.ready .any asked6.1 #[true, false, true, false, true, true, false, false, false, false] = [1] := by kernel_rfl
theorem asked6_f28 : #[true, false, true, false, true, true, false, false, false, false].setIfInBounds 1 true = #[true, true, true, false, true, true, false, false, false, false] := by kernel_rfl
theorem asked6_f29 : Region.ready .any asked6.1 #[true, false, true, false, true, false, false, false, false, false] = [1, 5] := by kernel_rfl
theorem asked6_f30 : #[true, false, true, false, true, false, false, false, false, false].setIfInBounds 1 true = #[true, true, true, false, true, false, false, false, false, false] := by kernel_rfl
theorem asked6_f31 : #[true, false, true, false, true, false, false, false, false, false].setIfInBounds 5 true = #[true, false, true, false, true, true, false, false, false, false] := by kernel_rfl
theorem asked6_f32 : asked6.1.size = 10 := by kernel_rfl
theorem asked6_f33 : Array.replicate 10 false = #[false, false, false, false, false, false, false, false, false, false] := by kernel_rfl
set_option maxRecDepth 100000 in
set_option maxHeartbeats 4000000 in
theorem asked6_law {i f : Bool} {a1 ga t1 : Option Addr} {m c1 gl gc d1 b6 b11 : Nat} {vs : List Value} {a : Act} {w w0 : World} {Q : Exit → Act → World → Prop} (hsz : 103 ≤ a.tmps.size)
    (e2 : a.tmps.getD 2 undef = .slice ga gl gc) (e6 : a.tmps.getD 6 undef = .pointer (some ⟨b6, 0, none⟩)) (e11 : a.tmps.getD 11 undef = .pointer (some ⟨b11, 0, none⟩)) (e12 : a.tmps.getD 12 undef = .slice t1 16 d1)
    (B11 : BlkT 24 w b11 (prL i a1 m c1 f)) (B6 : BlkT 24 w b6 zeroP) (Ne : b11 ≠ b6) (Hb0 : Below w0.heap.size w0 w) (Low6 : w0.heap.size ≤ b6) (HG : At w ga vs) (hgl : vs.length = gl) (hv1 : ∀ u ∈ vs, u.oneCell' = true) (hgl2 : gl ≤ 100000)
    (hP : ∀ c a d v w, Q (.panic c) (Act.put a d v) w → Q (.panic c) a w)
    (hQ : ∀ x0 x1 x2 x3 x4 x5 x6 a6 c6 u, AtP (fun g => w.heap.size ≤ g) u a6 (vs ++ [(.slice t1 16 d1)]) → (gl + 1 ≤ c6 ∧ c6 ≤ maxLen) → BlkT 24 u b6 (prL i a1 m c1 f) → KeepB b6 w u → Below w0.heap.size w0 u → Q .normal (fill a ks_asked6 [x0, x1, x2, x3, x4, x5, x6, .bool true, .slice a6 (gl + 1) c6]) u) :
    (Code.region 6 asked6.1 true).wp Tryd.prog Q a w := by
  have hb : ∀ k ∈ ks_asked6, k < a.tmps.size := fun k hk => Nat.lt_of_lt_of_le ((by decide : ∀ k ∈ ks_asked6, k < 103) k hk) hsz
  obtain ⟨o0, ho0, hop0, hd0, hg0⟩ := op_of asked6_o0
  obtain ⟨o1, ho1, hop1, hd1, hg1⟩ := op_of asked6_o1
  obtain ⟨o2, ho2, hop2, hd2, hg2⟩ := op_of asked6_o2
  obtain ⟨o3, ho3, hop3, hd3, hg3⟩ := op_of asked6_o3
  obtain ⟨o4, ho4, hop4, hd4, hg4⟩ := op_of asked6_o4
  obtain ⟨o5, ho5, hop5, hd5, hg5⟩ := op_of asked6_o5
  obtain ⟨o6, ho6, hop6, hd6, hg6⟩ := op_of asked6_o6
  obtain ⟨o7, ho7, hop7, hd7, hg7⟩ := op_of asked6_o7
  obtain ⟨o8, ho8, hop8, hd8, hg8⟩ := op_of asked6_o8
  obtain ⟨o9, ho9, hop9, hd9, hg9⟩ := op_of asked6_o9
  obtain ⟨i40, i41, i42, i43, i44, i45, i46, i7, i8, h0⟩ : ∃ i40 i41 i42 i43 i44 i45 i46 i7 i8, a = fill a ks_asked6 [i40, i41, i42, i43, i44, i45, i46, i7, i8] := ⟨_, _, _, _, _, _, _, _, _, fill_self a ks_asked6⟩
  refine wp_region_held_drew (S := fun w' => BlkT 24 w' b11 (prL i a1 m c1 f)) (by kernel_rfl) (B11.up (bd _)) (fun hHeld => ?_)
  let S : World → Prop := fun w' => BlkT 24 w' b11 (prL i a1 m c1 f)
  have N1_3_5_6_7 : ∀ (u : World) (g1 : Addr) (a3 : Option Addr) (c3 : Nat) (x5 : Option Addr) (a6 : Option Addr) (c6 : Nat) (Y : AtP (fun g => w.heap.size ≤ g) u a6 (vs ++ [(.slice t1 16 d1)])) (C : gl + 1 ≤ c6 ∧ c6 ≤ maxLen) (Z : BlkT 24 u b6 (prL i a1 m c1 f)) (K : KeepB b6 w u) (G : Below w0.heap.size w0 u), wpAnyH Tryd.prog .any asked6.1 Q S 0 #[true, true, true, true, true, true, true, true, true, true] (fill a ks_asked6 [.agg ((prL i a1 m c1 f)).toArray, .slice (some g1) 0 0, .slice ga gl gc, .slice a3 gl c3, .slice t1 16 d1, .slice x5 1 1, .slice a6 (gl + 1) c6, .bool true, .slice a6 (gl + 1) c6]) u := by
    intro u g1 a3 c3 x5 a6 c6 Y C Z K G
    refine wpAnyH_done asked6_f15 ?_ _
    exact hQ _ _ _ _ _ _ _ a6 c6 u Y C Z K G
  have N1_3_5_6 : ∀ (u : World) (g1 : Addr) (a3 : Option Addr) (c3 : Nat) (x5 : Option Addr) (a6 : Option Addr) (c6 : Nat) (Hb : Below w.heap.size w u) (Y : AtP (fun g => w.heap.size ≤ g) u a6 (vs ++ [(.slice t1 16 d1)])) (C : gl + 1 ≤ c6 ∧ c6 ≤ maxLen), wpAnyH Tryd.prog .any asked6.1 Q S 3 #[true, true, true, true, true, true, true, false, false, false] (fill a ks_asked6 [.agg ((prL i a1 m c1 f)).toArray, .slice (some g1) 0 0, .slice ga gl gc, .slice a3 gl c3, .slice t1 16 d1, .slice x5 1 1, .slice a6 (gl + 1) c6, i7, i8]) u := by
    intro u g1 a3 c3 x5 a6 c6 Hb Y C
    refine wpAnyH_ready asked6_f16 (by simp) ?_
    refine fill_cons (i := 7) ho7 hg7 ?_ AllReadyH.nil
    refine wp_storeT 24 (.tmp 6) (.tmp 40) hop7 b6 (cs := (prL i a1 m c1 f)) (old := zeroP) (fill_eval hb e6) (fill_eval hb rfl) (B6.up Hb) prov_size rfl rfl ?_
    refine fill_next0 (listed' := #[true, true, true, true, true, true, true, true, false, false]) hd7 asked6_f17 ((B11.up Hb).rowOther b6 Ne _) ?_
    refine fill_take (i := 8) (v := .bool true) (vs' := [.agg ((prL i a1 m c1 f)).toArray, .slice (some g1) 0 0, .slice ga gl gc, .slice a3 gl c3, .slice t1 16 d1, .slice x5 1 1, .slice a6 (gl + 1) c6, .bool true, i8]) (listed' := #[true, true, true, true, true, true, true, true, true, false]) ho8 asked6_ns asked6_f9 asked6_f10 hP hd8 (fill_move hg8 (Or.inr hop8) rfl) ((B11.up Hb).rowOther b6 Ne _) rfl (by decide) rfl asked6_f11 ?_
    refine fill_take (i := 9) (v := .slice a6 (gl + 1) c6) (vs' := [.agg ((prL i a1 m c1 f)).toArray, .slice (some g1) 0 0, .slice ga gl gc, .slice a3 gl c3, .slice t1 16 d1, .slice x5 1 1, .slice a6 (gl + 1) c6, .bool true, .slice a6 (gl + 1) c6]) (listed' := #[true, true, true, true, true, true, true, true, true, true]) ho9 asked6_ns asked6_f12 asked6_f13 hP hd9 (fill_move hg9 (Or.inr hop9) (fill_eval hb rfl)) ((B11.up Hb).rowOther b6 Ne _) rfl (by decide) rfl asked6_f14 ?_
    exact N1_3_5_6_7 _ _ _ _ _ _ _ (Y.to (by simp) fun g hl hp => ⟨setRow_other u b6 g _ (by have := B6.blk.lt; omega), hp⟩) C ((B6.up Hb).row _) (KeepB.row Hb _) (below_setRow (bt Hb0 Hb) Low6 _)
  have N1_3_5 : ∀ (u : World) (g1 : Addr) (a3 : Option Addr) (c3 : Nat) (x5 : Option Addr) (Hb : Below w.heap.size w u) (O : AppOK w.heap.size u a3 gl c3 vs) (X : At u x5 [(.slice t1 16 d1)]), wpAnyH Tryd.prog .any asked6.1 Q S 4 #[true, true, true, true, true, true, false, false, false, false] (fill a ks_asked6 [.agg ((prL i a1 m c1 f)).toArray, .slice (some g1) 0 0, .slice ga gl gc, .slice a3 gl c3, .slice t1 16 d1, .slice x5 1 1, i46, i7, i8]) u := by
    intro u g1 a3 c3 x5 Hb O X
    refine wpAnyH_ready asked6_f18 (by simp) ?_
    refine fill_cons (i := 6) ho6 hg6 ?_ AllReadyH.nil
    refine wp_appR1 (w0 := w) (.tmp 43) (.tmp 45) hop6 (fill_eval hb rfl) O (fill_eval hb rfl) X rfl hgl2 Hb ?_
    intro a6 c6 u6 Y6 C6 hb6
    refine fill_next (vs' := [.agg ((prL i a1 m c1 f)).toArray, .slice (some g1) 0 0, .slice ga gl gc, .slice a3 gl c3, .slice t1 16 d1, .slice x5 1 1, .slice a6 (gl + 1) c6, i7, i8]) (listed' := #[true, true, true, true, true, true, true, false, false, false]) hd6 rfl (by decide) rfl asked6_f19 (B11.up hb6) ?_
    exact N1_3_5_6 _ _ _ _ _ _ _ hb6 Y6 C6
  have N1_3 : ∀ (u : World) (g1 : Addr) (a3 : Option Addr) (c3 : Nat) (Hb : Below w.heap.size w u) (O : AppOK w.heap.size u a3 gl c3 vs), wpAnyH Tryd.prog .any asked6.1 Q S 5 #[true, true, true, true, true, false, false, false, false, false] (fill a ks_asked6 [.agg ((prL i a1 m c1 f)).toArray, .slice (some g1) 0 0, .slice ga gl gc, .slice a3 gl c3, .slice t1 16 d1, i45, i46, i7, i8]) u := by
    intro u g1 a3 c3 Hb O
    refine wpAnyH_ready asked6_f20 (by simp) ?_
    refine fill_cons (i := 5) ho5 hg5 ?_ AllReadyH.nil
    refine wp_buildF 40 25 1 #[(0, .tmp 44)] hop5 (ps := #[(0, (.slice t1 16 d1))]) (by simp only [List.map_toArray, List.map_cons, List.map_nil]; rw [show (fill a ks_asked6 [.agg ((prL i a1 m c1 f)).toArray, .slice (some g1) 0 0, .slice ga gl gc, .slice a3 gl c3, .slice t1 16 d1, i45, i46, i7, i8]).eval (.tmp 44) = .slice t1 16 d1 from (fill_eval hb rfl)]) (buildR1 t1 16 d1) ?_
    refine fill_next (vs' := [.agg ((prL i a1 m c1 f)).toArray, .slice (some g1) 0 0, .slice ga gl gc, .slice a3 gl c3, .slice t1 16 d1, .slice (some ⟨u.heap.size, 0, none⟩) 1 1, i46, i7, i8]) (listed' := #[true, true, true, true, true, true, false, false, false, false]) hd5 rfl (by decide) rfl asked6_f21 (B11.up (bt Hb (ba _ _))) ?_
    exact N1_3_5 _ _ _ _ _ (bt Hb (ba _ _)) (O.up (ba _ _)) (at_new _ [(.slice t1 16 d1)] _)
  have N1_5 : ∀ (u : World) (g1 : Addr) (x5 : Option Addr) (Hb : Below w.heap.size w u) (X : At u x5 [(.slice t1 16 d1)]), wpAnyH Tryd.prog .any asked6.1 Q S 5 #[true, true, true, false, true, true, false, false, false, false] (fill a ks_asked6 [.agg ((prL i a1 m c1 f)).toArray, .slice (some g1) 0 0, .slice ga gl gc, i43, .slice t1 16 d1, .slice x5 1 1, i46, i7, i8]) u := by
    intro u g1 x5 Hb X
    refine wpAnyH_ready asked6_f22 (by simp) ?_
    refine fill_cons (i := 3) ho3 hg3 ?_ AllReadyH.nil
    refine wp_appR0 (.tmp 41) (.tmp 42) hop3 (fill_eval hb rfl) (fill_eval hb rfl) (HG.mono Hb) hgl hv1 hgl2 w.heap.size Hb.size ?_
    intro a3 c3 u3 O3 hb3
    refine fill_next (vs' := [.agg ((prL i a1 m c1 f)).toArray, .slice (some g1) 0 0, .slice ga gl gc, .slice a3 gl c3, .slice t1 16 d1, .slice x5 1 1, i46, i7, i8]) (listed' := #[true, true, true, true, true, true, false, false, false, false]) hd3 rfl (by decide) rfl asked6_f23 (B11.up (bt Hb hb3)) ?_
    exact N1_3_5 _ _ _ _ _ (bt Hb hb3) O3 (X.mono hb3)
  have N1 : ∀ (u : World) (g1 : Addr) (Hb : Below w.heap.size w u), wpAnyH Tryd.prog .any asked6.1 Q S 6 #[true, true, true, false, true, false, false, false, false, false] (fill a ks_asked6 [.agg ((prL i a1 m c1 f)).toArray, .slice (some g1) 0 0, .slice ga gl gc, i43, .slice t1 16 d1, i45, i46, i7, i8]) u := by
    intro u g1 Hb
    refine wpAnyH_ready asked6_f24 (by simp) ?_
    refine fill_cons (i := 3) ho3 hg3 ?_ ?_
    · refine wp_appR0 (.tmp 41) (.tmp 42) hop3 (fill_eval hb rfl) (fill_eval hb rfl) (HG.mono Hb) hgl hv1 hgl2 w.heap.size Hb.size ?_
      intro a3 c3 u3 O3 hb3
      refine fill_next (vs' := [.agg ((prL i a1 m c1 f)).toArray, .slice (some g1) 0 0, .slice ga gl gc, .slice a3 gl c3, .slice t1 16 d1, i45, i46, i7, i8]) (listed' := #[true, true, true, true, true, false, false, false, false, false]) hd3 rfl (by decide) rfl asked6_f25 (B11.up (bt Hb hb3)) ?_
      exact N1_3 _ _ _ _ (bt Hb hb3) O3
    refine fill_cons (i := 5) ho5 hg5 ?_ AllReadyH.nil
    refine wp_buildF 40 25 1 #[(0, .tmp 44)] hop5 (ps := #[(0, (.slice t1 16 d1))]) (by simp only [List.map_toArray, List.map_cons, List.map_nil]; rw [show (fill a ks_asked6 [.agg ((prL i a1 m c1 f)).toArray, .slice (some g1) 0 0, .slice ga gl gc, i43, .slice t1 16 d1, i45, i46, i7, i8]).eval (.tmp 44) = .slice t1 16 d1 from (fill_eval hb rfl)]) (buildR1 t1 16 d1) ?_
    refine fill_next (vs' := [.agg ((prL i a1 m c1 f)).toArray, .slice (some g1) 0 0, .slice ga gl gc, i43, .slice t1 16 d1, .slice (some ⟨u.heap.size, 0, none⟩) 1 1, i46, i7, i8]) (listed' := #[true, true, true, false, true, true, false, false, false, false]) hd5 rfl (by decide) rfl asked6_f26 (B11.up (bt Hb (ba _ _))) ?_
    exact N1_5 _ _ _ (bt Hb (ba _ _)) (at_new _ [(.slice t1 16 d1)] _)
  have N5 : ∀ (u : World) (x5 : Option Addr) (Hb : Below w.heap.size w u) (X : At u x5 [(.slice t1 16 d1)]), wpAnyH Tryd.prog .any asked6.1 Q S 6 #[true, false, true, false, true, true, false, false, false, false] (fill a ks_asked6 [.agg ((prL i a1 m c1 f)).toArray, i41, .slice ga gl gc, i43, .slice t1 16 d1, .slice x5 1 1, i46, i7, i8]) u := by
    intro u x5 Hb X
    refine wpAnyH_ready asked6_f27 (by simp) ?_
    refine fill_cons (i := 1) ho1 hg1 ?_ AllReadyH.nil
    refine wp_buildF 40 25 0 #[] hop1 (ps := #[]) (by simp only [List.map_toArray, List.map_nil]) buildR0 ?_
    refine fill_next (vs' := [.agg ((prL i a1 m c1 f)).toArray, .slice (some ⟨u.heap.size, 0, none⟩) 0 0, .slice ga gl gc, i43, .slice t1 16 d1, .slice x5 1 1, i46, i7, i8]) (listed' := #[true, true, true, false, true, true, false, false, false, false]) hd1 rfl (by decide) rfl asked6_f28 (B11.up (bt Hb (ba _ _))) ?_
    exact N1_5 _ _ _ (bt Hb (ba _ _)) (X.mono (ba _ _))
  have N0 : ∀ (u : World) (Hb : Below w.heap.size w u), wpAnyH Tryd.prog .any asked6.1 Q S 7 #[true, false, true, false, true, false, false, false, false, false] (fill a ks_asked6 [.agg ((prL i a1 m c1 f)).toArray, i41, .slice ga gl gc, i43, .slice t1 16 d1, i45, i46, i7, i8]) u := by
    intro u Hb
    refine wpAnyH_ready asked6_f29 (by simp) ?_
    refine fill_cons (i := 1) ho1 hg1 ?_ ?_
    · refine wp_buildF 40 25 0 #[] hop1 (ps := #[]) (by simp only [List.map_toArray, List.map_nil]) buildR0 ?_
      refine fill_next (vs' := [.agg ((prL i a1 m c1 f)).toArray, .slice (some ⟨u.heap.size, 0, none⟩) 0 0, .slice ga gl gc, i43, .slice t1 16 d1, i45, i46, i7, i8]) (listed' := #[true, true, true, false, true, false, false, false, false, false]) hd1 rfl (by decide) rfl asked6_f30 (B11.up (bt Hb (ba _ _))) ?_
      exact N1 _ _ (bt Hb (ba _ _))
    refine fill_cons (i := 5) ho5 hg5 ?_ AllReadyH.nil
    refine wp_buildF 40 25 1 #[(0, .tmp 44)] hop5 (ps := #[(0, (.slice t1 16 d1))]) (by simp only [List.map_toArray, List.map_cons, List.map_nil]; rw [show (fill a ks_asked6 [.agg ((prL i a1 m c1 f)).toArray, i41, .slice ga gl gc, i43, .slice t1 16 d1, i45, i46, i7, i8]).eval (.tmp 44) = .slice t1 16 d1 from (fill_eval hb rfl)]) (buildR1 t1 16 d1) ?_
    refine fill_next (vs' := [.agg ((prL i a1 m c1 f)).toArray, i41, .slice ga gl gc, i43, .slice t1 16 d1, .slice (some ⟨u.heap.size, 0, none⟩) 1 1, i46, i7, i8]) (listed' := #[true, false, true, false, true, true, false, false, false, false]) hd5 rfl (by decide) rfl asked6_f31 (B11.up (bt Hb (ba _ _))) ?_
    exact N5 _ _ (bt Hb (ba _ _)) (at_new _ [(.slice t1 16 d1)] _)
  have h1 : wpAnyH Tryd.prog .any asked6.1 Q S 10 #[false, false, false, false, false, false, false, false, false, false] (fill a ks_asked6 [i40, i41, i42, i43, i44, i45, i46, i7, i8]) w.drew := by
    refine fill_take (i := 0) (v := .agg ((prL i a1 m c1 f)).toArray) (vs' := [.agg ((prL i a1 m c1 f)).toArray, i41, i42, i43, i44, i45, i46, i7, i8]) (listed' := #[true, false, false, false, false, false, false, false, false, false]) ho0 asked6_ns asked6_f0 asked6_f1 hP hd0 (fill_load hg0 24 (.tmp 11) hop0 b11 (fill_eval hb e11) (T := 24) (fun w hw => hw) Tryd.underlying24 rfl prov_size) hHeld rfl (by decide) rfl asked6_f2 ?_
    refine fill_take (i := 2) (v := .slice ga gl gc) (vs' := [.agg ((prL i a1 m c1 f)).toArray, i41, .slice ga gl gc, i43, i44, i45, i46, i7, i8]) (listed' := #[true, false, true, false, false, false, false, false, false, false]) ho2 asked6_ns asked6_f3 asked6_f4 hP hd2 (fill_move hg2 (Or.inl hop2) (fill_eval hb e2)) hHeld rfl (by decide) rfl asked6_f5 ?_
    refine fill_take (i := 4) (v := .slice t1 16 d1) (vs' := [.agg ((prL i a1 m c1 f)).toArray, i41, .slice ga gl gc, i43, .slice t1 16 d1, i45, i46, i7, i8]) (listed' := #[true, false, true, false, true, false, false, false, false, false]) ho4 asked6_ns asked6_f6 asked6_f7 hP hd4 (fill_move hg4 (Or.inl hop4) (fill_eval hb e12)) hHeld rfl (by decide) rfl asked6_f8 ?_
    exact N0 _  (bd w)
  rw [← h0] at h1
  rw [show asked6.1.size = 10 from asked6_f32, show Array.replicate 10 false = #[false, false, false, false, false, false, false, false, false, false] from asked6_f33]
  exact h1
noncomputable def asked8 : {ops : Array Oper // (Tryd.f22.body.bind (findRegion 8)) = some (.region 8 ops true)} := ⟨_, rfl⟩
abbrev ks_asked8 : List Nat := [50, 51, 52, 53, 54, 55, 56, 57, 49, 58, 59, 13, 14]
theorem asked8_ns : Region.noSelect asked8.1 = true := by kernel_rfl
theorem asked8_o0 : (asked8.1[0]?).map (fun o => (o.op, o.dst, o.guard)) = some (.load 24 (Operand.tmp 3), some 50, none) := by kernel_rfl
theorem asked8_o1 : (asked8.1[1]?).map (fun o => (o.op, o.dst, o.guard)) = some (.move (Operand.tmp 9), some 51, none) := by kernel_rfl
theorem asked8_o2 : (asked8.1[2]?).map (fun o => (o.op, o.dst, o.guard)) = some (.move (Operand.tmp 10), some 52, none) := by kernel_rfl
theorem asked8_o3 : (asked8.1[3]?).map (fun o => (o.op, o.dst, o.guard)) = some (.move (Operand.tmp 9), some 53, none) := by kernel_rfl
theorem asked8_o4 : (asked8.1[4]?).map (fun o => (o.op, o.dst, o.guard)) = some (.move (Operand.tmp 10), some 54, none) := by kernel_rfl
theorem asked8_o5 : (asked8.1[5]?).map (fun o => (o.op, o.dst, o.guard)) = some (.call { callee := Callee.value (Operand.func 33), args := #[Operand.tmp 53, Operand.tmp 54], argTypes := #[25, 25] }, some 55, none) := by kernel_rfl
theorem asked8_o6 : (asked8.1[6]?).map (fun o => (o.op, o.dst, o.guard)) = some (.slice 25 (Operand.tmp 55) none (some (Operand.const (Value.int IntKind.i64 16))) none, some 56, none) := by kernel_rfl
theorem asked8_o7 : (asked8.1[7]?).map (fun o => (o.op, o.dst, o.guard)) = some (.call { callee := Callee.value (Operand.func 13), args := #[Operand.tmp 50, Operand.tmp 51, Operand.tmp 52, Operand.tmp 56], argTypes := #[24, 25, 25, 25] }, some 57, none) := by kernel_rfl
theorem asked8_o8 : (asked8.1[8]?).map (fun o => (o.op, o.dst, o.guard)) = some (.move (Operand.tmp 57), some 49, none) := by kernel_rfl
theorem asked8_o9 : (asked8.1[9]?).map (fun o => (o.op, o.dst, o.guard)) = some (.extract (Operand.tmp 49) 0, some 58, none) := by kernel_rfl
theorem asked8_o10 : (asked8.1[10]?).map (fun o => (o.op, o.dst, o.guard)) = some (.extract (Operand.tmp 49) 1, some 59, none) := by kernel_rfl
theorem asked8_o11 : (asked8.1[11]?).map (fun o => (o.op, o.dst, o.guard)) = some (.alloc 24, some 13, none) := by kernel_rfl
theorem asked8_o12 : (asked8.1[12]?).map (fun o => (o.op, o.dst, o.guard)) = some (.store 24 (Operand.tmp 13) (Operand.tmp 58), none, none) := by kernel_rfl
theorem asked8_o13 : (asked8.1[13]?).map (fun o => (o.op, o.dst, o.guard)) = some (.assign (Operand.tmp 59), some 14, none) := by kernel_rfl
theorem asked8_f0 : Region.free .any asked8.1 #[false, false, false, false, false, false, false, false, false, false, false, false, false, false] 0 = true := by kernel_rfl
theorem asked8_f1 : (Region.ready .any asked8.1 #[false, false, false, false, false, false, false, false, false, false, false, false, false, false]).contains 0 = true := by kernel_rfl
theorem asked8_f2 : #[false, false, false, false, false, false, false, false, false, false, false, false, false, false].setIfInBounds 0 true = #[true, false, false, false, false, false, false, false, false, false, false, false, false, false] := by kernel_rfl
theorem asked8_f3 : Region.free .any asked8.1 #[true, false, false, false, false, false, false, false, false, false, false, false, false, false] 1 = true := by kernel_rfl
theorem asked8_f4 : (Region.ready .any asked8.1 #[true, false, false, false, false, false, false, false, false, false, false, false, false, false]).contains 1 = true := by kernel_rfl
theorem asked8_f5 : #[true, false, false, false, false, false, false, false, false, false, false, false, false, false].setIfInBounds 1 true = #[true, true, false, false, false, false, false, false, false, false, false, false, false, false] := by kernel_rfl
theorem asked8_f6 : Region.free .any asked8.1 #[true, true, false, false, false, false, false, false, false, false, false, false, false, false] 2 = true := by kernel_rfl
theorem asked8_f7 : (Region.ready .any asked8.1 #[true, true, false, false, false, false, false, false, false, false, false, false, false, false]).contains 2 = true := by kernel_rfl
theorem asked8_f8 : #[true, true, false, false, false, false, false, false, false, false, false, false, false, false].setIfInBounds 2 true = #[true, true, true, false, false, false, false, false, false, false, false, false, false, false] := by kernel_rfl
theorem asked8_f9 : Region.free .any asked8.1 #[true, true, true, false, false, false, false, false, false, false, false, false, false, false] 3 = true := by kernel_rfl
theorem asked8_f10 : (Region.ready .any asked8.1 #[true, true, true, false, false, false, false, false, false, false, false, false, false, false]).contains 3 = true := by kernel_rfl
theorem asked8_f11 : #[true, true, true, false, false, false, false, false, false, false, false, false, false, false].setIfInBounds 3 true = #[true, true, true, true, false, false, false, false, false, false, false, false, false, false] := by kernel_rfl
theorem asked8_f12 : Region.free .any asked8.1 #[true, true, true, true, false, false, false, false, false, false, false, false, false, false] 4 = true := by kernel_rfl
theorem asked8_f13 : (Region.ready .any asked8.1 #[true, true, true, true, false, false, false, false, false, false, false, false, false, false]).contains 4 = true := by kernel_rfl
theorem asked8_f14 : #[true, true, true, true, false, false, false, false, false, false, false, false, false, false].setIfInBounds 4 true = #[true, true, true, true, true, false, false, false, false, false, false, false, false, false] := by kernel_rfl
theorem asked8_f15 : Region.free .any asked8.1 #[true, true, true, true, true, true, false, false, false, false, false, false, false, false] 6 = true := by kernel_rfl
theorem asked8_f16 : (Region.ready .any asked8.1 #[true, true, true, true, true, true, false, false, false, false, false, false, false, false]).contains 6 = true := by kernel_rfl
theorem asked8_f17 : #[true, true, true, true, true, true, false, false, false, false, false, false, false, false].setIfInBounds 6 true = #[true, true, true, true, true, true, true, false, false, false, false, false, false, false] := by kernel_rfl
theorem asked8_f18 : Region.free .any asked8.1 #[true, true, true, true, true, true, true, true, false, false, false, false, false, false] 8 = true := by kernel_rfl
theorem asked8_f19 : (Region.ready .any asked8.1 #[true, true, true, true, true, true, true, true, false, false, false, false, false, false]).contains 8 = true := by kernel_rfl
theorem asked8_f20 : #[true, true, true, true, true, true, true, true, false, false, false, false, false, false].setIfInBounds 8 true = #[true, true, true, true, true, true, true, true, true, false, false, false, false, false] := by kernel_rfl
theorem asked8_f21 : Region.free .any asked8.1 #[true, true, true, true, true, true, true, true, true, false, false, false, false, false] 9 = true := by kernel_rfl
theorem asked8_f22 : (Region.ready .any asked8.1 #[true, true, true, true, true, true, true, true, true, false, false, false, false, false]).contains 9 = true := by kernel_rfl
theorem asked8_f23 : #[true, true, true, true, true, true, true, true, true, false, false, false, false, false].setIfInBounds 9 true = #[true, true, true, true, true, true, true, true, true, true, false, false, false, false] := by kernel_rfl
theorem asked8_f24 : Region.free .any asked8.1 #[true, true, true, true, true, true, true, true, true, true, false, false, false, false] 10 = true := by kernel_rfl
theorem asked8_f25 : (Region.ready .any asked8.1 #[true, true, true, true, true, true, true, true, true, true, false, false, false, false]).contains 10 = true := by kernel_rfl
theorem asked8_f26 : #[true, true, true, true, true, true, true, true, true, true, false, false, false, false].setIfInBounds 10 true = #[true, true, true, true, true, true, true, true, true, true, true, false, false, false] := by kernel_rfl
theorem asked8_f27 : Region.free .any asked8.1 #[true, true, true, true, true, true, true, true, true, true, true, true, true, false] 13 = true := by kernel_rfl
theorem asked8_f28 : (Region.ready .any asked8.1 #[true, true, true, true, true, true, true, true, true, true, true, true, true, false]).contains 13 = true := by kernel_rfl
theorem asked8_f29 : #[true, true, true, true, true, true, true, true, true, true, true, true, true, false].setIfInBounds 13 true = #[true, true, true, true, true, true, true, true, true, true, true, true, true, true] := by kernel_rfl
theorem asked8_f30 : Region.free .any asked8.1 #[true, true, true, true, true, true, true, true, false, false, false, true, false, false] 8 = true := by kernel_rfl
theorem asked8_f31 : (Region.ready .any asked8.1 #[true, true, true, true, true, true, true, true, false, false, false, true, false, false]).contains 8 = true := by kernel_rfl
theorem asked8_f32 : #[true, true, true, true, true, true, true, true, false, false, false, true, false, false].setIfInBounds 8 true = #[true, true, true, true, true, true, true, true, true, false, false, true, false, false] := by kernel_rfl
theorem asked8_f33 : Region.free .any asked8.1 #[true, true, true, true, true, true, true, true, true, false, false, true, false, false] 9 = true := by kernel_rfl
theorem asked8_f34 : (Region.ready .any asked8.1 #[true, true, true, true, true, true, true, true, true, false, false, true, false, false]).contains 9 = true := by kernel_rfl
theorem asked8_f35 : #[true, true, true, true, true, true, true, true, true, false, false, true, false, false].setIfInBounds 9 true = #[true, true, true, true, true, true, true, true, true, true, false, true, false, false] := by kernel_rfl
theorem asked8_f36 : Region.free .any asked8.1 #[true, true, true, true, true, true, true, true, true, true, false, true, false, false] 10 = true := by kernel_rfl
theorem asked8_f37 : (Region.ready .any asked8.1 #[true, true, true, true, true, true, true, true, true, true, false, true, false, false]).contains 10 = true := by kernel_rfl
theorem asked8_f38 : #[true, true, true, true, true, true, true, true, true, true, false, true, false, false].setIfInBounds 10 true = #[true, true, true, true, true, true, true, true, true, true, true, true, false, false] := by kernel_rfl
theorem asked8_f39 : Region.free .any asked8.1 #[true, true, true, true, true, true, false, false, false, false, false, true, false, false] 6 = true := by kernel_rfl
theorem asked8_f40 : (Region.ready .any asked8.1 #[true, true, true, true, true, true, false, false, false, false, false, true, false, false]).contains 6 = true := by kernel_rfl
theorem asked8_f41 : #[true, true, true, true, true, true, false, false, false, false, false, true, false, false].setIfInBounds 6 true = #[true, true, true, true, true, true, true, false, false, false, false, true, false, false] := by kernel_rfl
theorem asked8_f42 : Region.ready .any asked8.1 #[true, true, true, true, true, true, true, true, true, true, true, true, true, true] = [] := by kernel_rfl
theorem asked8_f43 : Region.ready .any asked8.1 #[true, true, true, true, true, true, true, true, true, true, true, true, false, false] = [12] := by kernel_rfl
theorem asked8_f44 : #[true, true, true, true, true, true, true, true, true, true, true, true, false, false].setIfInBounds 12 true = #[true, true, true, true, true, true, true, true, true, true, true, true, true, false] := by kernel_rfl
theorem asked8_f45 : Region.ready .any asked8.1 #[true, true, true, true, true, true, true, true, true, true, true, false, false, false] = [11] := by kernel_rfl
theorem asked8_f46 : #[true, true, true, true, true, true, true, true, true, true, true, false, false, false].setIfInBounds 11 true = #[true, true, true, true, true, true, true, true, true, true, true, true, false, false] := by kernel_rfl
theorem asked8_f47 : Region.ready .any asked8.1 #[true, true, true, true, true, true, true, false, false, false, false, true, false, false] = [7] := by kernel_rfl
theorem asked8_f48 : #[true, true, true, true, true, true, true, false, false, false, false, true, false, false].setIfInBounds 7 true = #[true, true, true, true, true, true, true, true, false, false, false, true, false, false] := by kernel_rfl
theorem asked8_f49 : Region.ready .any asked8.1 #[true, true, true, true, true, true, true, false, false, false, false, false, false, false] = [7, 11] := by kernel_rfl
theorem asked8_f50 : #[true, true, true, true, true, true, true, false, false, false, false, false, false, false].setIfInBounds 7 true = #[true, true, true, true, true, true, true, true, false, false, false, false, false, false] := by kernel_rfl
theorem asked8_f51 : #[true, true, true, true, true, true, true, false, false, false, false, false, false, false].setIfInBounds 11 true = #[true, true, true, true, true, true, true, false, false, false, false, true, false, false] := by kernel_rfl
theorem asked8_f52 : Region.ready .any asked8.1 #[true, true, true, true, true, false, false, false, false, false, false, true, false, false] = [5] := by kernel_rfl
theorem asked8_f53 : #[true, true, true, true, true, false, false, false, false, false, false, true, false, false].setIfInBounds 5 true = #[true, true, true, true, true, true, false, false, false, false, false, true, false, false] := by kernel_rfl
theorem asked8_f54 : Region.ready .any asked8.1 #[true, true, true, true, true, false, false, false, false, false, false, false, false, false] = [5, 11] := by kernel_rfl
theorem asked8_f55 : #[true, true, true, true, true, false, false, false, false, false, false, false, false, false].setIfInBounds 5 true = #[true, true, true, true, true, true, false, false, false, false, false, false, false, false] := by kernel_rfl
theorem asked8_f56 : #[true, true, true, true, true, false, false, false, false, false, false, false, false, false].setIfInBounds 11 true = #[true, true, true, true, true, false, false, false, false, false, false, true, false, false] := by kernel_rfl
theorem asked8_f57 : asked8.1.size = 14 := by kernel_rfl
theorem asked8_f58 : Array.replicate 14 false = #[false, false, false, false, false, false, false, false, false, false, false, false, false, false] := by kernel_rfl
set_option maxRecDepth 100000 in
set_option maxHeartbeats 4000000 in
theorem asked8_law {i f f2 y : Bool} {a0 ka ba_ : Option Addr} {n c b3 : Nat} {T32 : List UInt8} {a : Act} {w : World} {Q : Exit → Act → World → Prop} (hsz : 103 ≤ a.tmps.size)
    (e3 : a.tmps.getD 3 undef = .pointer (some ⟨b3, 0, none⟩)) (e9 : a.tmps.getD 9 undef = .slice ka 1 1) (e10 : a.tmps.getD 10 undef = .slice ba_ 1 1)
    (B3 : BlkT 24 w b3 (prL i a0 n c f))
    (KT : ∀ W, Below w.heap.size w W → Calls Tryd.prog 33 #[.slice ka 1 1, .slice ba_ 1 1] W fun e w' => ∃ ta tc, e = .returned (.slice ta 32 tc) ∧ (32 ≤ tc ∧ tc ≤ maxLen) ∧ BytesAt w' ta T32 ∧ Below W.heap.size W w')
    (KC : ∀ ta tc W, Below w.heap.size w W → BytesAt W ta (T32.take 16) → Calls Tryd.prog 13 #[.agg #[.bool i, .slice a0 n c, .bool f], .slice ka 1 1, .slice ba_ 1 1, .slice ta 16 tc] W fun e w' => e = .returned (.tuple #[.agg #[.bool i, .slice a0 n c, .bool f2], .bool y]) ∧ Below W.heap.size W w')
    (hP : ∀ c a d v w, Q (.panic c) (Act.put a d v) w → Q (.panic c) a w)
    (hQ : ∀ x0 x1 x2 x3 x4 x5 x6 x7 x8 x9 x10 z u, BlkT 24 u z (prL i a0 n c f2) → Below w.heap.size w u → w.heap.size ≤ z → Q .normal (fill a ks_asked8 [x0, x1, x2, x3, x4, x5, x6, x7, x8, x9, x10, .pointer (some ⟨z, 0, none⟩), .bool y]) u) :
    (Code.region 8 asked8.1 true).wp Tryd.prog Q a w := by
  have hb : ∀ k ∈ ks_asked8, k < a.tmps.size := fun k hk => Nat.lt_of_lt_of_le ((by decide : ∀ k ∈ ks_asked8, k < 103) k hk) hsz
  obtain ⟨o0, ho0, hop0, hd0, hg0⟩ := op_of asked8_o0
  obtain ⟨o1, ho1, hop1, hd1, hg1⟩ := op_of asked8_o1
  obtain ⟨o2, ho2, hop2, hd2, hg2⟩ := op_of asked8_o2
  obtain ⟨o3, ho3, hop3, hd3, hg3⟩ := op_of asked8_o3
  obtain ⟨o4, ho4, hop4, hd4, hg4⟩ := op_of asked8_o4
  obtain ⟨o5, ho5, hop5, hd5, hg5⟩ := op_of asked8_o5
  obtain ⟨o6, ho6, hop6, hd6, hg6⟩ := op_of asked8_o6
  obtain ⟨o7, ho7, hop7, hd7, hg7⟩ := op_of asked8_o7
  obtain ⟨o8, ho8, hop8, hd8, hg8⟩ := op_of asked8_o8
  obtain ⟨o9, ho9, hop9, hd9, hg9⟩ := op_of asked8_o9
  obtain ⟨o10, ho10, hop10, hd10, hg10⟩ := op_of asked8_o10
  obtain ⟨o11, ho11, hop11, hd11, hg11⟩ := op_of asked8_o11
  obtain ⟨o12, ho12, hop12, hd12, hg12⟩ := op_of asked8_o12
  obtain ⟨o13, ho13, hop13, hd13, hg13⟩ := op_of asked8_o13
  obtain ⟨i50, i51, i52, i53, i54, i55, i56, i57, i49, i58, i59, i13, i14, h0⟩ : ∃ i50 i51 i52 i53 i54 i55 i56 i57 i49 i58 i59 i13 i14, a = fill a ks_asked8 [i50, i51, i52, i53, i54, i55, i56, i57, i49, i58, i59, i13, i14] := ⟨_, _, _, _, _, _, _, _, _, _, _, _, _, fill_self a ks_asked8⟩
  refine wp_region_held_drew (S := fun w' => BlkT 24 w' b3 (prL i a0 n c f)) (by kernel_rfl) (B3.up (bd _)) (fun hHeld => ?_)
  let S : World → Prop := fun w' => BlkT 24 w' b3 (prL i a0 n c f)
  have N5_7_11_12 : ∀ (u : World) (ta : Option Addr) (tc : Nat) (z : Nat) (Hb : Below w.heap.size w u) (Z : BlkT 24 u z (prL i a0 n c f2)) (Lz : w.heap.size ≤ z), wpAnyH Tryd.prog .any asked8.1 Q S 0 #[true, true, true, true, true, true, true, true, true, true, true, true, true, true] (fill a ks_asked8 [.agg ((prL i a0 n c f)).toArray, .slice ka 1 1, .slice ba_ 1 1, .slice ka 1 1, .slice ba_ 1 1, .slice ta 32 tc, .slice ta 16 tc, .tuple #[.agg #[.bool i, .slice a0 n c, .bool f2], .bool y], .tuple #[.agg #[.bool i, .slice a0 n c, .bool f2], .bool y], .agg #[.bool i, .slice a0 n c, .bool f2], .bool y, .pointer (some ⟨z, 0, none⟩), .bool y]) u := by
    intro u ta tc z Hb Z Lz
    refine wpAnyH_done asked8_f42 ?_ _
    exact hQ _ _ _ _ _ _ _ _ _ _ _ z u Z Hb Lz
  have N5_7_11 : ∀ (u : World) (ta : Option Addr) (tc : Nat) (z : Nat) (Hb : Below w.heap.size w u) (Z : BlkT 24 u z zeroP) (Lz : w.heap.size ≤ z), wpAnyH Tryd.prog .any asked8.1 Q S 2 #[true, true, true, true, true, true, true, true, true, true, true, true, false, false] (fill a ks_asked8 [.agg ((prL i a0 n c f)).toArray, .slice ka 1 1, .slice ba_ 1 1, .slice ka 1 1, .slice ba_ 1 1, .slice ta 32 tc, .slice ta 16 tc, .tuple #[.agg #[.bool i, .slice a0 n c, .bool f2], .bool y], .tuple #[.agg #[.bool i, .slice a0 n c, .bool f2], .bool y], .agg #[.bool i, .slice a0 n c, .bool f2], .bool y, .pointer (some ⟨z, 0, none⟩), i14]) u := by
    intro u ta tc z Hb Z Lz
    refine wpAnyH_ready asked8_f43 (by simp) ?_
    refine fill_cons (i := 12) ho12 hg12 ?_ AllReadyH.nil
    refine wp_storeT 24 (.tmp 13) (.tmp 58) hop12 z (cs := (prL i a0 n c f2)) (old := zeroP) (fill_eval hb rfl) (fill_eval hb rfl) Z prov_size rfl rfl ?_
    refine fill_next0 (listed' := #[true, true, true, true, true, true, true, true, true, true, true, true, true, false]) hd12 asked8_f44 ((B3.up Hb).rowOther z (Nat.ne_of_lt (Nat.lt_of_lt_of_le B3.blk.lt Lz)) _) ?_
    refine fill_take (i := 13) (v := .bool y) (vs' := [.agg ((prL i a0 n c f)).toArray, .slice ka 1 1, .slice ba_ 1 1, .slice ka 1 1, .slice ba_ 1 1, .slice ta 32 tc, .slice ta 16 tc, .tuple #[.agg #[.bool i, .slice a0 n c, .bool f2], .bool y], .tuple #[.agg #[.bool i, .slice a0 n c, .bool f2], .bool y], .agg #[.bool i, .slice a0 n c, .bool f2], .bool y, .pointer (some ⟨z, 0, none⟩), .bool y]) (listed' := #[true, true, true, true, true, true, true, true, true, true, true, true, true, true]) ho13 asked8_ns asked8_f27 asked8_f28 hP hd13 (fill_move hg13 (Or.inr hop13) (fill_eval hb rfl)) ((B3.up Hb).rowOther z (Nat.ne_of_lt (Nat.lt_of_lt_of_le B3.blk.lt Lz)) _) rfl (by decide) rfl asked8_f29 ?_
    exact N5_7_11_12 _ _ _ _ (below_setRow Hb Lz _) (Z.row _) Lz
  have N5_7 : ∀ (u : World) (ta : Option Addr) (tc : Nat) (Hb : Below w.heap.size w u), wpAnyH Tryd.prog .any asked8.1 Q S 3 #[true, true, true, true, true, true, true, true, true, true, true, false, false, false] (fill a ks_asked8 [.agg ((prL i a0 n c f)).toArray, .slice ka 1 1, .slice ba_ 1 1, .slice ka 1 1, .slice ba_ 1 1, .slice ta 32 tc, .slice ta 16 tc, .tuple #[.agg #[.bool i, .slice a0 n c, .bool f2], .bool y], .tuple #[.agg #[.bool i, .slice a0 n c, .bool f2], .bool y], .agg #[.bool i, .slice a0 n c, .bool f2], .bool y, i13, i14]) u := by
    intro u ta tc Hb
    refine wpAnyH_ready asked8_f45 (by simp) ?_
    refine fill_cons (i := 11) ho11 hg11 ?_ AllReadyH.nil
    refine wp_allocF 24 hop11 allocP04 ?_
    refine fill_next (vs' := [.agg ((prL i a0 n c f)).toArray, .slice ka 1 1, .slice ba_ 1 1, .slice ka 1 1, .slice ba_ 1 1, .slice ta 32 tc, .slice ta 16 tc, .tuple #[.agg #[.bool i, .slice a0 n c, .bool f2], .bool y], .tuple #[.agg #[.bool i, .slice a0 n c, .bool f2], .bool y], .agg #[.bool i, .slice a0 n c, .bool f2], .bool y, .pointer (some ⟨u.heap.size, 0, none⟩), i14]) (listed' := #[true, true, true, true, true, true, true, true, true, true, true, true, false, false]) hd11 rfl (by decide) rfl asked8_f46 (B3.up (bt Hb (ba _ _))) ?_
    exact N5_7_11 _ _ _ _ (bt Hb (ba _ _)) (BlkT.new u zeroP _) Hb.size
  have N5_11 : ∀ (u : World) (ta : Option Addr) (tc : Nat) (z : Nat) (Hb : Below w.heap.size w u) (V : BytesAt u ta T32) (Z : BlkT 24 u z zeroP) (Lz : w.heap.size ≤ z), wpAnyH Tryd.prog .any asked8.1 Q S 6 #[true, true, true, true, true, true, true, false, false, false, false, true, false, false] (fill a ks_asked8 [.agg ((prL i a0 n c f)).toArray, .slice ka 1 1, .slice ba_ 1 1, .slice ka 1 1, .slice ba_ 1 1, .slice ta 32 tc, .slice ta 16 tc, i57, i49, i58, i59, .pointer (some ⟨z, 0, none⟩), i14]) u := by
    intro u ta tc z Hb V Z Lz
    refine wpAnyH_ready asked8_f47 (by simp) ?_
    refine fill_cons (i := 7) ho7 hg7 ?_ AllReadyH.nil
    refine wp_calls (R := fun e w' => e = .returned (.tuple #[.agg #[.bool i, .slice a0 n c, .bool f2], .bool y]) ∧ Below u.heap.size u w') hop7 (by simp only [List.map_toArray, List.map_cons, List.map_nil]; rw [show (fill a ks_asked8 [.agg ((prL i a0 n c f)).toArray, .slice ka 1 1, .slice ba_ 1 1, .slice ka 1 1, .slice ba_ 1 1, .slice ta 32 tc, .slice ta 16 tc, i57, i49, i58, i59, .pointer (some ⟨z, 0, none⟩), i14]).eval (.tmp 50) = .agg ((prL i a0 n c f)).toArray from (fill_eval hb rfl), show (fill a ks_asked8 [.agg ((prL i a0 n c f)).toArray, .slice ka 1 1, .slice ba_ 1 1, .slice ka 1 1, .slice ba_ 1 1, .slice ta 32 tc, .slice ta 16 tc, i57, i49, i58, i59, .pointer (some ⟨z, 0, none⟩), i14]).eval (.tmp 51) = .slice ka 1 1 from (fill_eval hb rfl), show (fill a ks_asked8 [.agg ((prL i a0 n c f)).toArray, .slice ka 1 1, .slice ba_ 1 1, .slice ka 1 1, .slice ba_ 1 1, .slice ta 32 tc, .slice ta 16 tc, i57, i49, i58, i59, .pointer (some ⟨z, 0, none⟩), i14]).eval (.tmp 52) = .slice ba_ 1 1 from (fill_eval hb rfl), show (fill a ks_asked8 [.agg ((prL i a0 n c f)).toArray, .slice ka 1 1, .slice ba_ 1 1, .slice ka 1 1, .slice ba_ 1 1, .slice ta 32 tc, .slice ta 16 tc, i57, i49, i58, i59, .pointer (some ⟨z, 0, none⟩), i14]).eval (.tmp 56) = .slice ta 16 tc from (fill_eval hb rfl)]) (fun _ => by kernel_rfl) (KC ta tc u Hb (BytesAt.take V 16)) ?_
    rintro e u7 ⟨rfl, hb7⟩
    refine ⟨_, rfl, ?_⟩
    refine fill_next (vs' := [.agg ((prL i a0 n c f)).toArray, .slice ka 1 1, .slice ba_ 1 1, .slice ka 1 1, .slice ba_ 1 1, .slice ta 32 tc, .slice ta 16 tc, .tuple #[.agg #[.bool i, .slice a0 n c, .bool f2], .bool y], i49, i58, i59, .pointer (some ⟨z, 0, none⟩), i14]) (listed' := #[true, true, true, true, true, true, true, true, false, false, false, true, false, false]) hd7 rfl (by decide) rfl asked8_f48 (B3.up (bt Hb hb7)) ?_
    refine fill_take (i := 8) (v := .tuple #[.agg #[.bool i, .slice a0 n c, .bool f2], .bool y]) (vs' := [.agg ((prL i a0 n c f)).toArray, .slice ka 1 1, .slice ba_ 1 1, .slice ka 1 1, .slice ba_ 1 1, .slice ta 32 tc, .slice ta 16 tc, .tuple #[.agg #[.bool i, .slice a0 n c, .bool f2], .bool y], .tuple #[.agg #[.bool i, .slice a0 n c, .bool f2], .bool y], i58, i59, .pointer (some ⟨z, 0, none⟩), i14]) (listed' := #[true, true, true, true, true, true, true, true, true, false, false, true, false, false]) ho8 asked8_ns asked8_f30 asked8_f31 hP hd8 (fill_move hg8 (Or.inl hop8) (fill_eval hb rfl)) (B3.up (bt Hb hb7)) rfl (by decide) rfl asked8_f32 ?_
    refine fill_take (i := 9) (v := .agg #[.bool i, .slice a0 n c, .bool f2]) (vs' := [.agg ((prL i a0 n c f)).toArray, .slice ka 1 1, .slice ba_ 1 1, .slice ka 1 1, .slice ba_ 1 1, .slice ta 32 tc, .slice ta 16 tc, .tuple #[.agg #[.bool i, .slice a0 n c, .bool f2], .bool y], .tuple #[.agg #[.bool i, .slice a0 n c, .bool f2], .bool y], .agg #[.bool i, .slice a0 n c, .bool f2], i59, .pointer (some ⟨z, 0, none⟩), i14]) (listed' := #[true, true, true, true, true, true, true, true, true, true, false, true, false, false]) ho9 asked8_ns asked8_f33 asked8_f34 hP hd9 (fill_extract hg9 hop9 (fill_eval hb rfl) rfl) (B3.up (bt Hb hb7)) rfl (by decide) rfl asked8_f35 ?_
    refine fill_take (i := 10) (v := .bool y) (vs' := [.agg ((prL i a0 n c f)).toArray, .slice ka 1 1, .slice ba_ 1 1, .slice ka 1 1, .slice ba_ 1 1, .slice ta 32 tc, .slice ta 16 tc, .tuple #[.agg #[.bool i, .slice a0 n c, .bool f2], .bool y], .tuple #[.agg #[.bool i, .slice a0 n c, .bool f2], .bool y], .agg #[.bool i, .slice a0 n c, .bool f2], .bool y, .pointer (some ⟨z, 0, none⟩), i14]) (listed' := #[true, true, true, true, true, true, true, true, true, true, true, true, false, false]) ho10 asked8_ns asked8_f36 asked8_f37 hP hd10 (fill_extract hg10 hop10 (fill_eval hb rfl) rfl) (B3.up (bt Hb hb7)) rfl (by decide) rfl asked8_f38 ?_
    exact N5_7_11 _ _ _ _ (bt Hb hb7) (Z.up hb7) Lz
  have N5 : ∀ (u : World) (ta : Option Addr) (tc : Nat) (Hb : Below w.heap.size w u) (V : BytesAt u ta T32), wpAnyH Tryd.prog .any asked8.1 Q S 7 #[true, true, true, true, true, true, true, false, false, false, false, false, false, false] (fill a ks_asked8 [.agg ((prL i a0 n c f)).toArray, .slice ka 1 1, .slice ba_ 1 1, .slice ka 1 1, .slice ba_ 1 1, .slice ta 32 tc, .slice ta 16 tc, i57, i49, i58, i59, i13, i14]) u := by
    intro u ta tc Hb V
    refine wpAnyH_ready asked8_f49 (by simp) ?_
    refine fill_cons (i := 7) ho7 hg7 ?_ ?_
    · refine wp_calls (R := fun e w' => e = .returned (.tuple #[.agg #[.bool i, .slice a0 n c, .bool f2], .bool y]) ∧ Below u.heap.size u w') hop7 (by simp only [List.map_toArray, List.map_cons, List.map_nil]; rw [show (fill a ks_asked8 [.agg ((prL i a0 n c f)).toArray, .slice ka 1 1, .slice ba_ 1 1, .slice ka 1 1, .slice ba_ 1 1, .slice ta 32 tc, .slice ta 16 tc, i57, i49, i58, i59, i13, i14]).eval (.tmp 50) = .agg ((prL i a0 n c f)).toArray from (fill_eval hb rfl), show (fill a ks_asked8 [.agg ((prL i a0 n c f)).toArray, .slice ka 1 1, .slice ba_ 1 1, .slice ka 1 1, .slice ba_ 1 1, .slice ta 32 tc, .slice ta 16 tc, i57, i49, i58, i59, i13, i14]).eval (.tmp 51) = .slice ka 1 1 from (fill_eval hb rfl), show (fill a ks_asked8 [.agg ((prL i a0 n c f)).toArray, .slice ka 1 1, .slice ba_ 1 1, .slice ka 1 1, .slice ba_ 1 1, .slice ta 32 tc, .slice ta 16 tc, i57, i49, i58, i59, i13, i14]).eval (.tmp 52) = .slice ba_ 1 1 from (fill_eval hb rfl), show (fill a ks_asked8 [.agg ((prL i a0 n c f)).toArray, .slice ka 1 1, .slice ba_ 1 1, .slice ka 1 1, .slice ba_ 1 1, .slice ta 32 tc, .slice ta 16 tc, i57, i49, i58, i59, i13, i14]).eval (.tmp 56) = .slice ta 16 tc from (fill_eval hb rfl)]) (fun _ => by kernel_rfl) (KC ta tc u Hb (BytesAt.take V 16)) ?_
      rintro e u7 ⟨rfl, hb7⟩
      refine ⟨_, rfl, ?_⟩
      refine fill_next (vs' := [.agg ((prL i a0 n c f)).toArray, .slice ka 1 1, .slice ba_ 1 1, .slice ka 1 1, .slice ba_ 1 1, .slice ta 32 tc, .slice ta 16 tc, .tuple #[.agg #[.bool i, .slice a0 n c, .bool f2], .bool y], i49, i58, i59, i13, i14]) (listed' := #[true, true, true, true, true, true, true, true, false, false, false, false, false, false]) hd7 rfl (by decide) rfl asked8_f50 (B3.up (bt Hb hb7)) ?_
      refine fill_take (i := 8) (v := .tuple #[.agg #[.bool i, .slice a0 n c, .bool f2], .bool y]) (vs' := [.agg ((prL i a0 n c f)).toArray, .slice ka 1 1, .slice ba_ 1 1, .slice ka 1 1, .slice ba_ 1 1, .slice ta 32 tc, .slice ta 16 tc, .tuple #[.agg #[.bool i, .slice a0 n c, .bool f2], .bool y], .tuple #[.agg #[.bool i, .slice a0 n c, .bool f2], .bool y], i58, i59, i13, i14]) (listed' := #[true, true, true, true, true, true, true, true, true, false, false, false, false, false]) ho8 asked8_ns asked8_f18 asked8_f19 hP hd8 (fill_move hg8 (Or.inl hop8) (fill_eval hb rfl)) (B3.up (bt Hb hb7)) rfl (by decide) rfl asked8_f20 ?_
      refine fill_take (i := 9) (v := .agg #[.bool i, .slice a0 n c, .bool f2]) (vs' := [.agg ((prL i a0 n c f)).toArray, .slice ka 1 1, .slice ba_ 1 1, .slice ka 1 1, .slice ba_ 1 1, .slice ta 32 tc, .slice ta 16 tc, .tuple #[.agg #[.bool i, .slice a0 n c, .bool f2], .bool y], .tuple #[.agg #[.bool i, .slice a0 n c, .bool f2], .bool y], .agg #[.bool i, .slice a0 n c, .bool f2], i59, i13, i14]) (listed' := #[true, true, true, true, true, true, true, true, true, true, false, false, false, false]) ho9 asked8_ns asked8_f21 asked8_f22 hP hd9 (fill_extract hg9 hop9 (fill_eval hb rfl) rfl) (B3.up (bt Hb hb7)) rfl (by decide) rfl asked8_f23 ?_
      refine fill_take (i := 10) (v := .bool y) (vs' := [.agg ((prL i a0 n c f)).toArray, .slice ka 1 1, .slice ba_ 1 1, .slice ka 1 1, .slice ba_ 1 1, .slice ta 32 tc, .slice ta 16 tc, .tuple #[.agg #[.bool i, .slice a0 n c, .bool f2], .bool y], .tuple #[.agg #[.bool i, .slice a0 n c, .bool f2], .bool y], .agg #[.bool i, .slice a0 n c, .bool f2], .bool y, i13, i14]) (listed' := #[true, true, true, true, true, true, true, true, true, true, true, false, false, false]) ho10 asked8_ns asked8_f24 asked8_f25 hP hd10 (fill_extract hg10 hop10 (fill_eval hb rfl) rfl) (B3.up (bt Hb hb7)) rfl (by decide) rfl asked8_f26 ?_
      exact N5_7 _ _ _ (bt Hb hb7)
    refine fill_cons (i := 11) ho11 hg11 ?_ AllReadyH.nil
    refine wp_allocF 24 hop11 allocP04 ?_
    refine fill_next (vs' := [.agg ((prL i a0 n c f)).toArray, .slice ka 1 1, .slice ba_ 1 1, .slice ka 1 1, .slice ba_ 1 1, .slice ta 32 tc, .slice ta 16 tc, i57, i49, i58, i59, .pointer (some ⟨u.heap.size, 0, none⟩), i14]) (listed' := #[true, true, true, true, true, true, true, false, false, false, false, true, false, false]) hd11 rfl (by decide) rfl asked8_f51 (B3.up (bt Hb (ba _ _))) ?_
    exact N5_11 _ _ _ _ (bt Hb (ba _ _)) (V.mono (ba _ _)) (BlkT.new u zeroP _) Hb.size
  have N11 : ∀ (u : World) (z : Nat) (Hb : Below w.heap.size w u) (Z : BlkT 24 u z zeroP) (Lz : w.heap.size ≤ z), wpAnyH Tryd.prog .any asked8.1 Q S 8 #[true, true, true, true, true, false, false, false, false, false, false, true, false, false] (fill a ks_asked8 [.agg ((prL i a0 n c f)).toArray, .slice ka 1 1, .slice ba_ 1 1, .slice ka 1 1, .slice ba_ 1 1, i55, i56, i57, i49, i58, i59, .pointer (some ⟨z, 0, none⟩), i14]) u := by
    intro u z Hb Z Lz
    refine wpAnyH_ready asked8_f52 (by simp) ?_
    refine fill_cons (i := 5) ho5 hg5 ?_ AllReadyH.nil
    refine wp_calls (R := fun e w' => ∃ ta tc, e = .returned (.slice ta 32 tc) ∧ (32 ≤ tc ∧ tc ≤ maxLen) ∧ BytesAt w' ta T32 ∧ Below u.heap.size u w') hop5 (by simp only [List.map_toArray, List.map_cons, List.map_nil]; rw [show (fill a ks_asked8 [.agg ((prL i a0 n c f)).toArray, .slice ka 1 1, .slice ba_ 1 1, .slice ka 1 1, .slice ba_ 1 1, i55, i56, i57, i49, i58, i59, .pointer (some ⟨z, 0, none⟩), i14]).eval (.tmp 53) = .slice ka 1 1 from (fill_eval hb rfl), show (fill a ks_asked8 [.agg ((prL i a0 n c f)).toArray, .slice ka 1 1, .slice ba_ 1 1, .slice ka 1 1, .slice ba_ 1 1, i55, i56, i57, i49, i58, i59, .pointer (some ⟨z, 0, none⟩), i14]).eval (.tmp 54) = .slice ba_ 1 1 from (fill_eval hb rfl)]) (fun _ => by kernel_rfl) (KT u Hb) ?_
    rintro e u5 ⟨ta, tc, rfl, hc5, hT5, hb5⟩
    refine ⟨_, rfl, ?_⟩
    refine fill_next (vs' := [.agg ((prL i a0 n c f)).toArray, .slice ka 1 1, .slice ba_ 1 1, .slice ka 1 1, .slice ba_ 1 1, .slice ta 32 tc, i56, i57, i49, i58, i59, .pointer (some ⟨z, 0, none⟩), i14]) (listed' := #[true, true, true, true, true, true, false, false, false, false, false, true, false, false]) hd5 rfl (by decide) rfl asked8_f53 (B3.up (bt Hb hb5)) ?_
    refine fill_take (i := 6) (v := .slice ta 16 tc) (vs' := [.agg ((prL i a0 n c f)).toArray, .slice ka 1 1, .slice ba_ 1 1, .slice ka 1 1, .slice ba_ 1 1, .slice ta 32 tc, .slice ta 16 tc, i57, i49, i58, i59, .pointer (some ⟨z, 0, none⟩), i14]) (listed' := #[true, true, true, true, true, true, true, false, false, false, false, true, false, false]) ho6 asked8_ns asked8_f39 asked8_f40 hP hd6 (fill_sliceH hg6 hop6 (fill_eval hb rfl) (fun w => run_head Tryd.underlying25 size_u8 w ta 32 tc 16 (by omega))) (B3.up (bt Hb hb5)) rfl (by decide) rfl asked8_f41 ?_
    exact N5_11 _ _ _ _ (bt Hb hb5) hT5 (Z.up hb5) Lz
  have N0 : ∀ (u : World) (Hb : Below w.heap.size w u), wpAnyH Tryd.prog .any asked8.1 Q S 9 #[true, true, true, true, true, false, false, false, false, false, false, false, false, false] (fill a ks_asked8 [.agg ((prL i a0 n c f)).toArray, .slice ka 1 1, .slice ba_ 1 1, .slice ka 1 1, .slice ba_ 1 1, i55, i56, i57, i49, i58, i59, i13, i14]) u := by
    intro u Hb
    refine wpAnyH_ready asked8_f54 (by simp) ?_
    refine fill_cons (i := 5) ho5 hg5 ?_ ?_
    · refine wp_calls (R := fun e w' => ∃ ta tc, e = .returned (.slice ta 32 tc) ∧ (32 ≤ tc ∧ tc ≤ maxLen) ∧ BytesAt w' ta T32 ∧ Below u.heap.size u w') hop5 (by simp only [List.map_toArray, List.map_cons, List.map_nil]; rw [show (fill a ks_asked8 [.agg ((prL i a0 n c f)).toArray, .slice ka 1 1, .slice ba_ 1 1, .slice ka 1 1, .slice ba_ 1 1, i55, i56, i57, i49, i58, i59, i13, i14]).eval (.tmp 53) = .slice ka 1 1 from (fill_eval hb rfl), show (fill a ks_asked8 [.agg ((prL i a0 n c f)).toArray, .slice ka 1 1, .slice ba_ 1 1, .slice ka 1 1, .slice ba_ 1 1, i55, i56, i57, i49, i58, i59, i13, i14]).eval (.tmp 54) = .slice ba_ 1 1 from (fill_eval hb rfl)]) (fun _ => by kernel_rfl) (KT u Hb) ?_
      rintro e u5 ⟨ta, tc, rfl, hc5, hT5, hb5⟩
      refine ⟨_, rfl, ?_⟩
      refine fill_next (vs' := [.agg ((prL i a0 n c f)).toArray, .slice ka 1 1, .slice ba_ 1 1, .slice ka 1 1, .slice ba_ 1 1, .slice ta 32 tc, i56, i57, i49, i58, i59, i13, i14]) (listed' := #[true, true, true, true, true, true, false, false, false, false, false, false, false, false]) hd5 rfl (by decide) rfl asked8_f55 (B3.up (bt Hb hb5)) ?_
      refine fill_take (i := 6) (v := .slice ta 16 tc) (vs' := [.agg ((prL i a0 n c f)).toArray, .slice ka 1 1, .slice ba_ 1 1, .slice ka 1 1, .slice ba_ 1 1, .slice ta 32 tc, .slice ta 16 tc, i57, i49, i58, i59, i13, i14]) (listed' := #[true, true, true, true, true, true, true, false, false, false, false, false, false, false]) ho6 asked8_ns asked8_f15 asked8_f16 hP hd6 (fill_sliceH hg6 hop6 (fill_eval hb rfl) (fun w => run_head Tryd.underlying25 size_u8 w ta 32 tc 16 (by omega))) (B3.up (bt Hb hb5)) rfl (by decide) rfl asked8_f17 ?_
      exact N5 _ _ _ (bt Hb hb5) hT5
    refine fill_cons (i := 11) ho11 hg11 ?_ AllReadyH.nil
    refine wp_allocF 24 hop11 allocP04 ?_
    refine fill_next (vs' := [.agg ((prL i a0 n c f)).toArray, .slice ka 1 1, .slice ba_ 1 1, .slice ka 1 1, .slice ba_ 1 1, i55, i56, i57, i49, i58, i59, .pointer (some ⟨u.heap.size, 0, none⟩), i14]) (listed' := #[true, true, true, true, true, false, false, false, false, false, false, true, false, false]) hd11 rfl (by decide) rfl asked8_f56 (B3.up (bt Hb (ba _ _))) ?_
    exact N11 _ _ (bt Hb (ba _ _)) (BlkT.new u zeroP _) Hb.size
  have h1 : wpAnyH Tryd.prog .any asked8.1 Q S 14 #[false, false, false, false, false, false, false, false, false, false, false, false, false, false] (fill a ks_asked8 [i50, i51, i52, i53, i54, i55, i56, i57, i49, i58, i59, i13, i14]) w.drew := by
    refine fill_take (i := 0) (v := .agg ((prL i a0 n c f)).toArray) (vs' := [.agg ((prL i a0 n c f)).toArray, i51, i52, i53, i54, i55, i56, i57, i49, i58, i59, i13, i14]) (listed' := #[true, false, false, false, false, false, false, false, false, false, false, false, false, false]) ho0 asked8_ns asked8_f0 asked8_f1 hP hd0 (fill_load hg0 24 (.tmp 3) hop0 b3 (fill_eval hb e3) (T := 24) (fun w hw => hw) Tryd.underlying24 rfl prov_size) hHeld rfl (by decide) rfl asked8_f2 ?_
    refine fill_take (i := 1) (v := .slice ka 1 1) (vs' := [.agg ((prL i a0 n c f)).toArray, .slice ka 1 1, i52, i53, i54, i55, i56, i57, i49, i58, i59, i13, i14]) (listed' := #[true, true, false, false, false, false, false, false, false, false, false, false, false, false]) ho1 asked8_ns asked8_f3 asked8_f4 hP hd1 (fill_move hg1 (Or.inl hop1) (fill_eval hb e9)) hHeld rfl (by decide) rfl asked8_f5 ?_
    refine fill_take (i := 2) (v := .slice ba_ 1 1) (vs' := [.agg ((prL i a0 n c f)).toArray, .slice ka 1 1, .slice ba_ 1 1, i53, i54, i55, i56, i57, i49, i58, i59, i13, i14]) (listed' := #[true, true, true, false, false, false, false, false, false, false, false, false, false, false]) ho2 asked8_ns asked8_f6 asked8_f7 hP hd2 (fill_move hg2 (Or.inl hop2) (fill_eval hb e10)) hHeld rfl (by decide) rfl asked8_f8 ?_
    refine fill_take (i := 3) (v := .slice ka 1 1) (vs' := [.agg ((prL i a0 n c f)).toArray, .slice ka 1 1, .slice ba_ 1 1, .slice ka 1 1, i54, i55, i56, i57, i49, i58, i59, i13, i14]) (listed' := #[true, true, true, true, false, false, false, false, false, false, false, false, false, false]) ho3 asked8_ns asked8_f9 asked8_f10 hP hd3 (fill_move hg3 (Or.inl hop3) (fill_eval hb e9)) hHeld rfl (by decide) rfl asked8_f11 ?_
    refine fill_take (i := 4) (v := .slice ba_ 1 1) (vs' := [.agg ((prL i a0 n c f)).toArray, .slice ka 1 1, .slice ba_ 1 1, .slice ka 1 1, .slice ba_ 1 1, i55, i56, i57, i49, i58, i59, i13, i14]) (listed' := #[true, true, true, true, true, false, false, false, false, false, false, false, false, false]) ho4 asked8_ns asked8_f12 asked8_f13 hP hd4 (fill_move hg4 (Or.inl hop4) (fill_eval hb e10)) hHeld rfl (by decide) rfl asked8_f14 ?_
    exact N0 _  (bd w)
  rw [← h0] at h1
  rw [show asked8.1.size = 14 from asked8_f57, show Array.replicate 14 false = #[false, false, false, false, false, false, false, false, false, false, false, false, false, false] from asked8_f58]
  exact h1
end Go.Proofs.YthmcmkdncaccbaaDoor
