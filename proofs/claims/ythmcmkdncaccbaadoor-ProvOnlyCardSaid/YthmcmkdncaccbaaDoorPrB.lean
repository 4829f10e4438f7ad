/- Providers: was a pair tagged (a range over a function). -/
import Derived.RangeFuncNested
import Derived.RangeFuncBound
import Derived.RangeFuncCalls
import Derived.RangeFuncLeaves
import Derived.RangeFuncFrom
import Derived.Shelf.Abstract
import Derived.Shelf.RegionOpen
import Derived.WalkKit
import Derived.OwnWalkIn
import Derived.TacticsInMore
import Derived.LoopNIn
import Derived.LoopIn
import Derived.Test.YthmcmkdncaccbaaDoorPrA
set_option linter.unusedSimpArgs false
set_option linter.unusedVariables false
namespace Go.Proofs.YthmcmkdncaccbaaDoor
open Go.RowKit Go.Shelf

attribute [local go_sem] Oper.semAt_some

theorem cell_new_l (W : World) (v : Value) (t : TypeId) : (W.alloc (.cells #[v] t)).cell? ⟨W.heap.size, 0, none⟩ = some v ∧ (W.alloc (.cells #[v] t)).frozen? ⟨W.heap.size, 0, none⟩ = false :=
  ⟨(Blk.new W [v] t).cell 0 (by simp), (Blk.new W [v] t).frozen 0⟩
theorem cell_alloc_l {W : World} {a : Addr} {v : Value} (o : Obj) (h : W.cell? a = some v) : (W.alloc o).cell? a = some v := cell_kept h (World.grownBy_alloc W o none) (fun r e => by cases e)
theorem frozen_alloc_l {W : World} {a : Addr} {v : Value} (o : Obj) (h : W.cell? a = some v) (hf : W.frozen? a = false) : (W.alloc o).frozen? a = false := (frozen_kept h (World.grownBy_alloc W o none) (fun r e => by cases e)).trans hf
/-- the places of the pairs that answer yes, of the first k -/
def upM (M : Nat → Bool) (k : Nat) : List Nat := (List.range k).filter M
theorem upM_yes {M : Nat → Bool} {k : Nat} (h : M k = true) : upM M (k + 1) = upM M k ++ [k] := by simp [upM, List.range_succ, h]
theorem upM_no {M : Nat → Bool} {k : Nat} (h : M k = false) : upM M (k + 1) = upM M k := by simp [upM, List.range_succ, h]
theorem upM_le (M : Nat → Bool) (k : Nat) : (upM M k).length ≤ k := by
  have := List.length_filter_le M (List.range k)
  simpa [upM] using this

theorem found_any (a : Option Addr) (len cap : Nat) (fn : Fn) (x y : Array Value) (w : World) :
    Calls Tryd.prog 30 #[.slice a len cap, .func fn x y] w fun e w' => e = .returned (.func (.func 35) #[] #[.pointer (some ⟨w.heap.size, 0, none⟩), .pointer (some ⟨w.heap.size + 1, 0, none⟩)]) ∧ w' = (w.alloc (.cells #[.slice a len cap] 22)).alloc (.cells #[.func fn x y] 63) := by
  have hmf : ∀ (fn : Fn) (first cap : Array Value) (w : World), (Instr.makeFunc fn first cap).run Tryd.prog w = .ok (.func fn first cap) w := fun _ _ _ _ => rfl
  go_enter Tryd.func30, Tryd.ntmps30
  go_wp2_with fail
  go_ret
  exact ⟨rfl, rfl⟩

set_option maxRecDepth 100000 in
set_option maxHeartbeats 4000000 in
/-- the iterator of found: at each pair that answers yes, its place -/
theorem found1_in (l B1 B2 n₀ b off len cap : Nat) (pv : Value) (M : Nat → Bool) (V0 V1 : Nat → Value) (hreach : len ≤ 1099511627776) (hb : b < n₀) (hB2 : B2 < n₀) (J Jx : List Nat → World → Prop) (W : World) (hn0 : n₀ ≤ W.heap.size)
    (hJ : AbidesFrom W.heap.size J)
    (hY : ∀ (pre : List Nat) (x : Nat) W, J pre W → pre.length < len → YieldAt Fence.wide (3 - 1) Tryd.prog l #[.int .i64 (x : Int)] W fun e W' =>
      (e = .returned (.bool true) ∧ J (pre ++ [x]) W' ∧ Below n₀ W W') ∨ (e = .returned (.bool false) ∧ Jx (pre ++ [x]) W'))
    (hB1c : W.cell? ⟨B1, 0, none⟩ = some (.slice (some ⟨b, off, none⟩) len cap)) (hB2c : W.cell? ⟨B2, 0, none⟩ = some (.func (.func 29) #[pv] #[]))
    (hc : ∀ j, j < len → W.cell? ⟨b, off + j * 2, none⟩ = some (V0 j) ∧ W.cell? ⟨b, off + j * 2 + 1, none⟩ = some (V1 j))
    (hv : ∀ j, j < len → ∃ p0 n0 c0 p1 n1 c1, V0 j = .slice p0 n0 c0 ∧ V1 j = .slice p1 n1 c1)
    (hI : ∀ W' j, j < len → Below n₀ W W' → Calls Tryd.prog 29 #[pv, .agg #[V0 j, V1 j]] W' (BoolOut W' (M j))) (h0 : J [] W) :
    CallsIn Fence.wide 3 Tryd.prog 35 #[.func (.yield l) #[] #[], .pointer (some ⟨B1, 0, none⟩), .pointer (some ⟨B2, 0, none⟩)] W fun e W' => (∃ v, e = .returned v) ∧
      ((∃ ys, ys = upM M len ∧ J ys W') ∨ (∃ pre, (∃ k, k < len ∧ M k = true) ∧ Jx pre W')) := by
  refine callsIn_of_wp Tryd.func35 rfl trivial ?_ rfl
  simp only [Tryd.ntmps35, List.size_toArray, List.length_cons, List.length_nil, Nat.reduceAdd, Nat.reduceSub, Array.replicate_succ, Array.replicate_zero, List.push_toArray, List.append_toArray, List.nil_append, List.cons_append]
  gi_wp2
  gi_loopw [8] (fun i wr => ∃ k : Nat, k ≤ len ∧ i = .int .i64 k ∧ J (upM M k) wr ∧ Below n₀ W wr)
    (fun i _ => len - (intOf i).toNat)
  case atStart => exact ⟨0, Nat.zero_le _, rfl, h0, Below.refl _ _⟩
  case round =>
    obtain ⟨k, hk, rfl, hJs, hnx⟩ := hrel
    by_cases hlt : k < len
    · obtain ⟨hc0, hc1⟩ := hc k hlt
      have hx0 := (hnx.cell (p := ⟨b, off + k * 2, none⟩) hb).trans hc0
      have hx1 := (hnx.cell (p := ⟨b, off + k * 2 + 1, none⟩) hb).trans hc1
      have hx2 := (hnx.cell (p := ⟨B2, 0, none⟩) hB2).trans hB2c
      obtain ⟨p0, n0, c0, p1, n1, c1, e0, e1⟩ := hv k hlt
      have hsz : n₀ ≤ wr.heap.size := Nat.le_trans hn0 hnx.size
      have hbA := ba wr (.cells #[V0 k, V1 k] 59)
      have hIk := hI (wr.alloc (.cells #[V0 k, V1 k] 59)) k hlt (hnx.trans (hbA.mono hsz))
      have hx3 := (hbA.cell (p := ⟨B2, 0, none⟩) (Nat.lt_of_lt_of_le hB2 hsz)).trans hx2
      rw [e0, e1] at hIk hbA hx3
      rw [e0] at hx0
      rw [e1] at hx1
      have HbA := Lib.hid hbA
      clear hc0 hc1 e0 e1 hbA
      rcases hM : M k with _ | _
      · rw [hM] at hIk
        have HI := Lib.hid hIk
        clear hIk
        gi_wp2_with (refine ⟨trivial, ?_⟩; gi_at_call 29; refine (callsIn_wide.2 HI.out).mono ?_; rintro e w2 ⟨rfl, hb2⟩)
        have hbw := bt HbA.out hb2
        have hJ2 : J (upM M k) w2 := hJ _ wr w2 none hJs ⟨hbw.os, hbw.tape, hbw.output, hbw.size, fun k hk _ => hbw.block k hk⟩ (fun r e => by cases e)
        refine ⟨fun _ h => (by cases h), ?_⟩
        gi_wp2
        go_roundw
        case rel => exact ⟨k + 1, by omega, by simp, by rw [upM_no hM]; exact hJ2, hnx.trans (hbw.mono hsz)⟩
        case measure => simp [intOf]; omega
      · rw [hM] at hIk
        have HI := Lib.hid hIk
        clear hIk
        gi_wp2_with (refine ⟨trivial, ?_⟩; gi_at_call 29; refine (callsIn_wide.2 HI.out).mono ?_; rintro e w2 ⟨rfl, hb2⟩; have hbw := bt HbA.out hb2; have hJ2 : J (upM M k) w2 := hJ _ wr w2 none hJs ⟨hbw.os, hbw.tape, hbw.output, hbw.size, fun k hk _ => hbw.block k hk⟩ (fun r e => by cases e); obtain ⟨fn, tmps, assign, body, hy, hR⟩ := hY _ k w2 hJ2 (Nat.lt_of_le_of_lt (upM_le M k) hlt))
        refine hR.mono ?_
        rintro e W3 (⟨rfl, hJ3, hk3⟩ | ⟨rfl, hJx3⟩)
        · gi_wp2
          go_roundw
          case rel => exact ⟨k + 1, by omega, by simp, by rw [upM_yes hM]; exact hJ3, (hnx.trans (hbw.mono hsz)).trans hk3⟩
          case measure => simp [intOf]; omega
        · gi_wp2
          refine bodyPost_ret (results_none rfl _ _ _) rfl ?_
          exact ⟨⟨_, rfl⟩, .inr ⟨_, ⟨k, hlt, hM⟩, hJx3⟩⟩
    · obtain rfl : k = len := by omega
      gi_wp2
      go_end0
      exact ⟨⟨_, rfl⟩, .inl ⟨_, rfl, hJs⟩⟩

set_option maxRecDepth 100000 in
set_option maxHeartbeats 1000000 in
theorem found1_nil_in (l B1 B2 cap : Nat) (a : Option Addr) (J : List Nat → World → Prop) (W : World) (hB1c : W.cell? ⟨B1, 0, none⟩ = some (.slice a 0 cap)) (h0 : J [] W) :
    CallsIn Fence.wide 3 Tryd.prog 35 #[.func (.yield l) #[] #[], .pointer (some ⟨B1, 0, none⟩), .pointer (some ⟨B2, 0, none⟩)] W fun e W' => (∃ v, e = .returned v) ∧ J [] W' := by
  refine callsIn_of_wp Tryd.func35 rfl trivial ?_ rfl
  simp only [Tryd.ntmps35, List.size_toArray, List.length_cons, List.length_nil, Nat.reduceAdd, Nat.reduceSub, Array.replicate_succ, Array.replicate_zero, List.push_toArray, List.append_toArray, List.nil_append, List.cons_append]
  gi_wp2
  gi_loopw [8] (fun i wr => i = .int .i64 0 ∧ J [] wr) (fun _ _ => 0)
  case atStart => exact ⟨rfl, h0⟩
  case round =>
    obtain ⟨rfl, hJs⟩ := hrel
    gi_wp2
    go_end0
    exact ⟨⟨_, rfl⟩, hJs⟩

/-- the pairs that a slice holds, as the iterator is asked of them -/
def EntIn (n₀ : Nat) (w : World) (sv : Value) (pv : Value) (len : Nat) (M : Nat → Bool) : Prop :=
  (∃ a cap, sv = .slice a 0 cap ∧ len = 0) ∨ ∃ (b off cap : Nat) (V0 V1 : Nat → Value), sv = .slice (some ⟨b, off, none⟩) len cap ∧ b < n₀ ∧
    (∀ j, j < len → w.cell? ⟨b, off + j * 2, none⟩ = some (V0 j) ∧ w.cell? ⟨b, off + j * 2 + 1, none⟩ = some (V1 j)) ∧
    (∀ j, j < len → ∃ p0 n0 c0 p1 n1 c1, V0 j = .slice p0 n0 c0 ∧ V1 j = .slice p1 n1 c1) ∧
    (∀ W' j, j < len → Below n₀ w W' → Calls Tryd.prog 29 #[pv, .agg #[V0 j, V1 j]] W' (BoolOut W' (M j)))
theorem found_stops (B1 B2 n₀ len : Nat) (sv pv : Value) (M : Nat → Bool) (hreach : len ≤ 1099511627776) (w : World) (hn0 : n₀ ≤ w.heap.size) (hB1 : B1 < w.heap.size) (hB2 : B2 < n₀)
    (hB1c : w.cell? ⟨B1, 0, none⟩ = some sv) (hB2c : w.cell? ⟨B2, 0, none⟩ = some (.func (.func 29) #[pv] #[])) (hE : EntIn n₀ w sv pv len M) :
    SeqStopsK Fence.wide 3 Tryd.prog 35 #[.pointer (some ⟨B1, 0, none⟩), .pointer (some ⟨B2, 0, none⟩)] (fun x : Nat => #[Value.int .i64 (x : Int)]) (Below n₀) (fun ys => ys = upM M len) (fun _ => ∃ k, k < len ∧ M k = true) len w := fun l J Jx W hW hJ hJx hY h0 => by
  have c1 := (hW.cell (p := ⟨B1, 0, none⟩) hB1).trans hB1c
  have c2 := (hW.cell (p := ⟨B2, 0, none⟩) (Nat.lt_of_lt_of_le hB2 hn0)).trans hB2c
  rcases hE with ⟨a, cap, rfl, rfl⟩ | ⟨b, off, cap, V0, V1, rfl, hb, h1, h2, h3⟩
  · exact (found1_nil_in l B1 B2 cap a J W c1 h0).mono fun e W' ⟨he, hj⟩ => ⟨he, .inl ⟨_, rfl, hj⟩⟩
  · exact found1_in l B1 B2 n₀ b off len cap pv M V0 V1 hreach hb hB2 J Jx W (Nat.le_trans hn0 hW.size) hJ hY c1 c2 (fun j hj => ⟨(hW.cell (p := ⟨b, off + j * 2, none⟩) (Nat.lt_of_lt_of_le hb hn0)).trans (h1 j hj).1, (hW.cell (p := ⟨b, off + j * 2 + 1, none⟩) (Nat.lt_of_lt_of_le hb hn0)).trans (h1 j hj).2⟩) h2 (fun W' j hj h => h3 W' j hj ((hW.mono hn0).trans h)) h0
theorem EntIn.up {w W : World} {n₀ : Nat} {sv pv : Value} {len : Nat} {M : Nat → Bool} (h : EntIn w.heap.size w sv pv len M) (hb : Below w.heap.size w W) (hn : w.heap.size ≤ n₀) : EntIn n₀ W sv pv len M := by
  rcases h with ⟨a, cap, h1, h2⟩ | ⟨b, off, cap, V0, V1, h1, h2, h3, h4, h5⟩
  · exact .inl ⟨a, cap, h1, h2⟩
  · exact .inr ⟨b, off, cap, V0, V1, h1, Nat.lt_of_lt_of_le h2 hn, fun j hj => ⟨(hb.cell (p := ⟨b, off + j * 2, none⟩) h2).trans (h3 j hj).1, (hb.cell (p := ⟨b, off + j * 2 + 1, none⟩) h2).trans (h3 j hj).2⟩, h4, fun W' j hj hW => h5 W' j hj (hb.trans (hW.mono hn))⟩
theorem upM_nil {M : Nat → Bool} {len : Nat} (h : upM M len = []) : ∀ k, k < len → M k = false := fun k hk => by
  rcases hM : M k with _ | _
  · rfl
  · have : k ∈ upM M len := List.mem_filter.2 ⟨List.mem_range.2 hk, hM⟩
    rw [h] at this; cases this
theorem had_iff (es : List Ent) (k b : List UInt8) : hadF es k b = true ↔ ∃ i, i < es.length ∧ isF k b (es.getD i ([], [])) = true := by
  unfold hadF
  rw [List.any_eq_true]
  constructor
  · rintro ⟨e, he, h⟩
    obtain ⟨i, hi, rfl⟩ := List.mem_iff_getElem.1 he
    exact ⟨i, hi, by simpa [List.getD, hi] using h⟩
  · rintro ⟨i, hi, h⟩
    exact ⟨es[i], List.getElem_mem hi, by simpa [List.getD, hi] using h⟩

set_option maxRecDepth 100000 in
set_option maxHeartbeats 4000000 in
theorem had_core (ideal forged : Bool) (sv : Value) (ka ba : Option Addr) (kn kc bn bc len : Nat) (M : Nat → Bool) (w : World) (hreach : len ≤ 1099511627776)
    (hE : EntIn w.heap.size w sv (.agg #[.slice ka kn kc, .slice ba bn bc]) len M) :
    CallsIn Fence.wide 4 Tryd.prog 17 #[.agg #[.bool ideal, sv, .bool forged], .slice ka kn kc, .slice ba bn bc] w fun e W' => e = .returned (.bool (decide (∃ k, k < len ∧ M k = true))) ∧ Below w.heap.size w W' := by
  obtain ⟨sa, sn, sc, hsv⟩ : ∃ sa sn sc, sv = .slice sa sn sc := by
    rcases hE with ⟨a, cap, h, -⟩ | ⟨b, off, cap, V0, V1, h, -⟩
    · exact ⟨_, _, _, h⟩
    · exact ⟨_, _, _, h⟩
  subst hsv
  have HE := Lib.hid hE
  clear hE
  have hmf : ∀ (fn : Fn) (first cap : Array Value) (w : World), (Instr.makeFunc fn first cap).run Tryd.prog w = .ok (.func fn first cap) w := fun _ _ _ _ => rfl
  refine callsIn_of_wp_marks Tryd.func17 rfl trivial ?_ rfl
  simp only [Tryd.ntmps17, List.size_toArray, List.length_cons, List.length_nil, Nat.reduceAdd, Nat.reduceSub, Array.replicate_succ, Array.replicate_zero, List.push_toArray, List.append_toArray, List.nil_append, List.cons_append]
  gi_wp2_with (refine ⟨trivial, ?_⟩; gi_at_call 30; refine (callsIn_wide.2 (found_any _ _ _ _ _ _ _)).mono ?_; rintro e w' ⟨rfl, rfl⟩)
  have hB0 : Below w.heap.size w ((((w.alloc (.cells #[.bool ideal, .slice sa sn sc, .bool forged] 24)).alloc (.cells #[.bool false] 4)).alloc (.cells #[.slice sa sn sc] 22)).alloc (.cells #[.func (.func 29) #[.agg #[.slice ka kn kc, .slice ba bn bc]] #[]] 63)) := (((((Below.refl _ w).alloc (Nat.le_refl _) _).alloc (by simp) _).alloc (by simp; omega) _).alloc (by simp; omega) _)
  have c1 := cell_new_l (w.alloc (.cells #[.bool ideal, .slice sa sn sc, .bool forged] 24)) (.bool false) 4
  have c2 := cell_new_l ((w.alloc (.cells #[.bool ideal, .slice sa sn sc, .bool forged] 24)).alloc (.cells #[.bool false] 4)) (.slice sa sn sc) 22
  have c3 := cell_new_l (((w.alloc (.cells #[.bool ideal, .slice sa sn sc, .bool forged] 24)).alloc (.cells #[.bool false] 4)).alloc (.cells #[.slice sa sn sc] 22)) (.func (.func 29) #[.agg #[.slice ka kn kc, .slice ba bn bc]] #[]) 63
  simp only [World.size_alloc] at c1 c2 c3
  refine wpIn_rangeFunc_ownF (F := Fence.wide) rfl (by decide : 1 ≤ 4) (gf := 35) (lb := #[.pointer (some ⟨w.heap.size + 1 + 1, 0, none⟩), .pointer (some ⟨w.heap.size + 1 + 1 + 1, 0, none⟩)]) rfl trivial (enters_of Tryd.func35 (by kernel_rfl) rfl)
    (found_stops (w.heap.size + 1 + 1) (w.heap.size + 1 + 1 + 1) (w.heap.size + 1 + 1 + 1 + 1) len _ _ M hreach _ (by simp) (by first | (simp; done) | (simp; omega)) (by omega) (cell_alloc_l _ c2.1) c3.1 (HE.out.up hB0 (by omega))) belowK_t (belowK_b (by simp)) (Below.refl _ _) (fun _ => rfl)
    (fun pre W => (pre = [] ∧ W.cell? ⟨w.heap.size + 1, 0, none⟩ = some (.bool false) ∧ W.frozen? ⟨w.heap.size + 1, 0, none⟩ = false) ∧ Below w.heap.size w W)
    (fun c pre W => (c = .ret ∧ W.cell? ⟨w.heap.size + 1, 0, none⟩ = some (.bool true)) ∧ Below w.heap.size w W)
    (OwnFrom.and (Own.from (fun s A B row hs hg hr => ⟨hs.1, cell_kept hs.2.1 hg hr, (frozen_kept hs.2.1 hg hr).trans hs.2.2⟩) _) (ownFrom_below (Nat.le_refl _) (by simp; omega)))
    (fun c => OwnFrom.and (Own.from (fun s A B row hs hg hr => ⟨hs.1, cell_kept hs.2 hg hr⟩) _) (ownFrom_below (Nat.le_refl _) (by simp; omega)))
    ⟨⟨rfl, cell_alloc_l _ (cell_alloc_l _ c1.1), frozen_alloc_l _ (cell_alloc_l _ c1.1) (frozen_alloc_l _ c1.1 c1.2)⟩, hB0⟩
    (fun x => { tmps := #[.agg #[.bool ideal, .slice sa sn sc, .bool forged], .slice ka kn kc, .slice ba bn bc, .pointer (some ⟨w.heap.size, 0, none⟩), undef, undef, .pointer (some ⟨w.heap.size + 1, 0, none⟩), .func (.func 29) #[.agg #[.slice ka kn kc, .slice ba bn bc]] #[], .slice ka kn kc, .slice ba bn bc, .agg #[.slice ka kn kc, .slice ba bn bc], .func (.func 29) #[.agg #[.slice ka kn kc, .slice ba bn bc]] #[], .pointer (some ⟨w.heap.size, 1, none⟩), .slice sa sn sc, .func (.func 29) #[.agg #[.slice ka kn kc, .slice ba bn bc]] #[], .func (.func 35) #[] #[.pointer (some ⟨w.heap.size + 1 + 1, 0, none⟩), .pointer (some ⟨w.heap.size + 1 + 1 + 1, 0, none⟩)], .int .i64 x], defers := [] }) ?assign ?body ?done ?stop
  case assign =>
    intro l x W K hK
    gi_wp2
    first | exact hK | (simp; exact hK) | simpa using hK
  case body =>
    rintro l pre x W ⟨⟨hp, hcr, hfr⟩, hB⟩ _
    gi_wp2
    exact ⟨KeepsOthers.setCell _ _ _, ⟨rfl, World.cell?_setCell_same' _ _ _ (by rw [hcr]; rfl)⟩, hB.setCell (p := ⟨w.heap.size + 1, 0, none⟩) (by simp) _⟩
  case done =>
    rintro D ys W hD rfl ⟨⟨hne, hcr, hfr⟩, hB⟩ hK
    gi_wp2
    have hK' := (KeepsOthers.setCell W ⟨w.heap.size + 1, 0, none⟩ (.bool false)).same D _ hK rfl
    refine ⟨by simp, .inl ⟨_, _, rfl, run_takeDeferred hK', ?_⟩⟩
    have hc5 := cell_kept (World.cell?_setCell_same' W ⟨w.heap.size + 1, 0, none⟩ (.bool false) (by rw [hcr]; rfl)) (grownBy_putObj' _ D (.deferred none)) (fun r e => by cases e; exact ⟨_, hK', rfl⟩)
    refine ⟨.bool false, ?_, by rw [decide_eq_false (fun ⟨k, hk, hM⟩ => by rw [upM_nil hne k hk] at hM; cases hM)], (hB.setCell (p := ⟨w.heap.size + 1, 0, none⟩) (by simp) _).trans (belowK_b (w := w) (Nat.le_refl _) _ D _ _ (by simp at hD; omega) hK' rfl rfl)⟩
    simp [results, Tryd.f17, go_sem, hc5]
  case stop =>
    rintro D c pre W hD hpre ⟨⟨rfl, hcr⟩, hB⟩ hK
    gi_wp2
    refine ⟨by simp, .inl ⟨_, _, rfl, run_takeDeferred hK, ?_⟩⟩
    have hc5 := cell_kept hcr (grownBy_putObj' _ D (.deferred none)) (fun r e => by cases e; exact ⟨_, hK, rfl⟩)
    refine ⟨.bool true, ?_, by rw [decide_eq_true hpre], hB.trans (belowK_b (w := w) (Nat.le_refl _) W D _ _ (by simp at hD; omega) hK rfl rfl)⟩
    simp [results, Tryd.f17, go_sem, hc5]
end Go.Proofs.YthmcmkdncaccbaaDoor
