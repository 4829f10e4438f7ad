/- Providers: which are few, and which the same, the document's answer. -/
import Derived.Test.YthmcmkdncaccbaaDoorPrI
import Derived.BigQuiet
set_option linter.unusedSimpArgs false
set_option linter.unusedVariables false
namespace Go.Proofs.YthmcmkdncaccbaaDoor
open Go.RowKit

/-- few pairs, of few bytes -/
def FewE (es : List Ent) (m : Nat) : Prop := es.length ≤ m ∧ ∀ j, j < es.length → (es.getD j ([], [])).1.length ≤ 100 ∧ (es.getD j ([], [])).2.length ≤ 2000
instance (es : List Ent) (m : Nat) : Decidable (FewE es m) := by unfold FewE; infer_instance
set_option maxRecDepth 100000 in
set_option maxHeartbeats 2000000 in
theorem few_any (i f : Bool) (a : Option Addr) (c m : Nat) (es : List Ent) (w : World) (hes : es.length ≤ maxLen) (hm : m ≤ 1000) (hE : EntsAt w a es) :
    Calls Tryd.prog 10 #[.agg #[.bool i, .slice a es.length c, .bool f], .int .i64 m] w (BoolOut w (decide (FewE es m))) := by
  have HE := Lib.hid hE
  obtain ⟨R, hR⟩ : ∃ R, R = decide (FewE es m) := ⟨_, rfl⟩
  rw [← hR]
  have HR := Lib.hid hR
  unfold maxLen at hes
  clear hE hR
  by_cases hlen : m < es.length
  · have hd : (m : Int) < (es.length : Int) := by omega
    go_enter Tryd.func10, Tryd.ntmps10
    go_wp2_with fail
    go_ret
    refine ⟨?_, ba _ _⟩
    have : R = false := by rw [HR.out, decide_eq_false]; intro h; have := h.1; omega
    rw [this]; rfl
  have hd : ¬ (m : Int) < (es.length : Int) := by omega
  go_enter Tryd.func10, Tryd.ntmps10
  go_wp2_with fail
  generalize hW : World.alloc w _ = W
  have Hw := Lib.hid (show Below w.heap.size w W by rw [← hW]; exact ba w _)
  have B3 := Lib.hid (show Blk W w.heap.size [.bool i, .slice a es.length c, .bool f] by rw [← hW]; exact Blk.new w [.bool i, .slice a es.length c, .bool f] _)
  clear hW
  have y1 : W.cell? ⟨w.heap.size, 1, none⟩ = some (.slice a es.length c) := B3.out.cell 1 (by simp)
  go_loopw [5] (fun v wr => wr = W ∧ ∃ j : Nat, j ≤ es.length ∧ v = .int .i64 (j : Int) ∧ ∀ t, t < j → (es.getD t ([], [])).1.length ≤ 100 ∧ (es.getD t ([], [])).2.length ≤ 2000) (fun v _ => es.length - (intOf v).toNat)
  case atStart => exact ⟨rfl, 0, Nat.zero_le _, rfl, fun t ht => absurd ht (by omega)⟩
  case round =>
    obtain ⟨rfl, j, hj, rfl, hno⟩ := hrel
    have Hno := Lib.hid hno
    clear hno
    by_cases hlt : j < es.length
    · obtain ⟨g, off, rfl, hg, hcs⟩ := (HE.out.mono Hw.out).cell (by omega)
      obtain ⟨p0, c0, p1, c1, x0, x1, -⟩ := hcs j hlt
      have hd1 : (j : Int) < (es.length : Int) := by omega
      have hd0 : (0 : Int) ≤ (j : Int) := by omega
      obtain ⟨n0, hn0⟩ : ∃ n, n = (es.getD j ([], [])).1.length := ⟨_, rfl⟩
      obtain ⟨n1, hn1⟩ : ∃ n, n = (es.getD j ([], [])).2.length := ⟨_, rfl⟩
      rw [← hn0] at x0
      rw [← hn1] at x1
      have Hn0 := Lib.hid hn0
      have Hn1 := Lib.hid hn1
      clear hcs hn0 hn1
      by_cases h0 : n0 ≤ 100
      · have hd2 : ¬ (100 : Int) < (n0 : Int) := by omega
        by_cases h1 : n1 ≤ 2000
        · have hd3 : ¬ (2000 : Int) < (n1 : Int) := by omega
          go_wp2_with fail
          exact ⟨⟨by trivial, j + 1, by omega, by go_num, fun t ht => by
            rcases Nat.lt_or_ge t j with h | h
            · exact Hno.out t h
            · rw [show t = j by omega, ← Hn0.out, ← Hn1.out]; exact ⟨h0, h1⟩⟩, by simp [intOf]; omega⟩
        · have hd3 : (2000 : Int) < (n1 : Int) := by omega
          go_wp2_with fail
          go_ret
          refine ⟨?_, Hw.out⟩
          have : R = false := by rw [HR.out, decide_eq_false]; intro h; have := (h.2 j hlt).2; rw [← Hn1.out] at this; omega
          rw [this]; rfl
      · have hd2 : (100 : Int) < (n0 : Int) := by omega
        go_wp2_with fail
        go_ret
        refine ⟨?_, Hw.out⟩
        have : R = false := by rw [HR.out, decide_eq_false]; intro h; have := (h.2 j hlt).1; rw [← Hn0.out] at this; omega
        rw [this]; rfl
    · obtain rfl : j = es.length := by omega
      go_wp2_with fail
      go_ret
      refine ⟨?_, Hw.out⟩
      have : R = true := by rw [HR.out, decide_eq_true]; exact ⟨by omega, Hno.out⟩
      rw [this]; rfl

set_option maxRecDepth 100000 in
set_option maxHeartbeats 16000000 in
theorem refSameP_any (i f i2 f2 : Bool) (a b : Option Addr) (c d : Nat) (es es2 : List Ent) (w : World) (h1 : es.length ≤ 100000) (h2 : es2.length ≤ 100000) (hE : EntsAt w a es) (hE2 : EntsAt w b es2) :
    Calls Tryd.prog 15 #[.agg #[.bool i, .slice a es.length c, .bool f], .agg #[.bool i2, .slice b es2.length d, .bool f2]] w (BoolOut w (sameP i f es i2 f2 es2)) := by
  have HE := Lib.hid hE
  have HE2 := Lib.hid hE2
  have HS := Lib.hid (show sameP i f es i2 f2 es2 = (((i == i2) && (f == f2)) && decide (es = es2)) from rfl)
  have HQ := Lib.hid (fun h h' => ents_eq (es := es) (es2 := es2) h h')
  obtain ⟨R, hR⟩ : ∃ R, R = decide (es = es2) := ⟨_, rfl⟩
  rw [← hR] at HS
  have HR := Lib.hid hR
  clear hE hE2 hR
  obtain ⟨S, hS⟩ : ∃ S, S = sameP i f es i2 f2 es2 := ⟨_, rfl⟩
  rw [← hS] at HS ⊢
  clear hS
  by_cases hif : (i == i2) = true ∧ (f == f2) = true ∧ es.length = es2.length
  rotate_left
  · have hSf : S = false := by
      rw [HS.out]
      rcases h1 : (i == i2) with _ | _
      · rfl
      rcases h2 : (f == f2) with _ | _
      · rfl
      rw [HR.out, decide_eq_false (fun h => hif ⟨h1, h2, by rw [h]⟩)]; rfl
    have hne : ¬ ((i = i2 ∧ f = f2) ∧ es.length = es2.length) := fun h => hif ⟨by rw [h.1.1]; simp, by rw [h.1.2]; simp, h.2⟩
    subst hSf
    have hd : ((es.length : Int) != (es2.length : Int)) = true ∨ es.length = es2.length := by
      by_cases h : es.length = es2.length
      · exact .inr h
      · left; rw [bne_iff_ne]; omega
    clear HQ HS hif
    rcases hd with hd | hd
    · clear hne
      rcases i with _ | _ <;> rcases i2 with _ | _ <;> rcases f with _ | _ <;> rcases f2 with _ | _
      all_goals
        go_enter Tryd.func15, Tryd.ntmps15
        go_wp2_with fail
        go_ret
        exact ⟨rfl, bta (ba w _) _⟩
    · have hd2 : ((es.length : Int) != (es2.length : Int)) = false := by simp [hd]
      rcases i with _ | _ <;> rcases i2 with _ | _ <;> rcases f with _ | _ <;> rcases f2 with _ | _
      all_goals
        first
        | exact absurd ⟨⟨rfl, rfl⟩, hd⟩ hne
        | (clear hne hd; go_enter Tryd.func15, Tryd.ntmps15; go_wp2_with fail; go_ret; exact ⟨rfl, bta (ba w _) _⟩)
  obtain ⟨hi, hf, hl⟩ := hif
  have hdl : ((es.length : Int) != (es2.length : Int)) = false := by simp [hl]
  have hii : (i != i2) = false := by rw [bne, hi]; rfl
  have hff : (f != f2) = false := by rw [bne, hf]; rfl
  have HSR := Lib.hid (show S = R by rw [HS.out, hi, hf]; simp)
  have Hl := Lib.hid hl
  obtain rfl : i = i2 := by simpa using hi
  obtain rfl : f = f2 := by simpa using hf
  clear HS hl hi hf
  rcases i with _ | _ <;> rcases f with _ | _
  all_goals
    go_enter Tryd.func15, Tryd.ntmps15
    go_wp2_with fail
    generalize hW : World.alloc (World.alloc w _) _ = W
    have G := Lib.hid (show Below w.heap.size w W by rw [← hW]; exact bta (ba w _) _)
    have y2 : W.cell? ⟨w.heap.size, 1, none⟩ = some (.slice a es.length c) := by
      rw [← hW]; exact ((Blk.new w [.bool _, .slice a es.length c, .bool _] _).alloc _).cell 1 (by simp)
    have y3 : W.cell? ⟨w.heap.size + 1, 1, none⟩ = some (.slice b es2.length d) := by
      rw [← hW]; exact (blk_at (size_alloc w _).symm [.bool _, .slice b es2.length d, .bool _] _).cell 1 (by simp)
    clear hW
    generalize w.heap.size + 1 = b3 at y3 ⊢
    generalize hb2 : w.heap.size = b2 at y2 ⊢
    go_loopw [5] (fun v wr => ∃ k : Nat, k ≤ es.length ∧ v = .int .i64 (k : Int) ∧ (∀ j, j < k → es.getD j ([], []) = es2.getD j ([], [])) ∧ (∃ n, wr = W.drewN n)) (fun v _ => es.length - (intOf v).toNat)
    case atStart => exact ⟨0, Nat.zero_le _, rfl, fun j hj => absurd hj (by omega), 0, rfl⟩
    case round =>
      obtain ⟨k, hk, rfl, hno, nd, hnd⟩ := hrel
      have Hno := Lib.hid hno
      have Hnd := Lib.hid hnd
      replace y2 : wr.cell? ⟨b2, 1, none⟩ = some (.slice a es.length c) := by rw [hnd]; exact y2
      replace y3 : wr.cell? ⟨b3, 1, none⟩ = some (.slice b es2.length d) := by rw [hnd]; exact y3
      have GW := Lib.hid (show Below W.heap.size W wr by rw [hnd]; exact btn (Below.refl _ _) _)
      have G1 := Lib.hid (show Below w.heap.size w wr from bt G.out (by rw [hnd]; exact ⟨rfl, rfl, rfl, Nat.le_refl _, fun _ _ => rfl⟩))
      clear hno hnd
      by_cases hlt : k < es.length
      · have hlt2 : k < es2.length := by have := Hl.out; omega
        obtain ⟨g1, o1, rfl, hg1, hcs1⟩ := (HE.out.mono G1.out).cell (by omega)
        obtain ⟨g2, o2, rfl, hg2, hcs2⟩ := (HE2.out.mono G1.out).cell (by omega)
        obtain ⟨p0, c0, p1, c1, x0, x1, l0, m0, l1, m1, b0, b1⟩ := hcs1 k hlt
        obtain ⟨q0, d0, q1, d1, z0, z1, s0, t0, s1, t1, u0, u1⟩ := hcs2 k hlt2
        obtain ⟨e1, he1⟩ : ∃ e, e = es.getD k ([], []) := ⟨_, rfl⟩
        obtain ⟨e2, he2⟩ : ∃ e, e = es2.getD k ([], []) := ⟨_, rfl⟩
        rw [← he1] at x0 x1 b0 b1
        rw [← he2] at z0 z1 u0 u1
        have KA := Lib.hid (fun (W' : World) (h : Below wr.heap.size wr W') => (show Calls Tryd.prog 16 #[.slice p0 e1.1.length c0, .slice q0 e2.1.length d0] W' fun e w' => e = .returned (.bool (e1.1 == e2.1)) ∧ w' = W' from (same01_any p0 q0 e1.1.length c0 e2.1.length d0 e1.1 e2.1 W' rfl rfl (b0.mono h) (u0.mono h)).mono fun e w' ⟨p, q⟩ => ⟨p, q.symm⟩))
        have KB := Lib.hid (fun (W' : World) (h : Below wr.heap.size wr W') => (show Calls Tryd.prog 16 #[.slice p1 e1.2.length c1, .slice q1 e2.2.length d1] W' fun e w' => e = .returned (.bool (e1.2 == e2.2)) ∧ w' = W' from (same01_any p1 q1 e1.2.length c1 e2.2.length d1 e1.2 e2.2 W' rfl rfl (b1.mono h) (u1.mono h)).mono fun e w' ⟨p, q⟩ => ⟨p, q.symm⟩))
        have HF := Lib.hid (show ((e1.1 == e2.1) && (e1.2 == e2.2)) = true ↔ e1 = e2 from by
          rw [Bool.and_eq_true, beq_iff_eq, beq_iff_eq]
          exact ⟨fun h => Prod.ext h.1 h.2, fun h => by rw [h]; exact ⟨rfl, rfl⟩⟩)
        have hi1 : (k : Int) < (es.length : Int) := by omega
        have hi2 : (k : Int) < (es2.length : Int) := by omega
        have hi0 : (0 : Int) ≤ (k : Int) := by omega
        have He1 := Lib.hid he1
        have He2 := Lib.hid he2
        clear hcs1 hcs2 l0 m0 l1 m1 b0 b1 s0 t0 s1 t1 u0 u1 he1 he2 hg1 hg2
        generalize (e1.1 == e2.1) = r1 at HF KA
        generalize (e1.2 == e2.2) = r2 at HF KB
        rcases r1 with _ | _
        · have hne : S = false := by
            rw [HSR.out, HR.out, decide_eq_false]
            intro h
            have h2 := HF.out.2 (by rw [He1.out, He2.out, h])
            cases h2
          clear HF
          go_upto_region 6 with (fail)
          go_big_quiet (first
            | (go_at_call 16; (with_reducible refine Calls.quiet_of_same (KA.out _ (btn (Below.refl _ _) _))))
            | (go_at_call 16; (with_reducible refine Calls.quiet_of_same (KB.out _ (btn (Below.refl _ _) _)))))
          all_goals
            go_wp2_with fail
            go_ret
            exact ⟨by rw [hne]; rfl, G1.out.trans ⟨rfl, rfl, rfl, Nat.le_refl _, fun _ _ => rfl⟩⟩
        · rcases r2 with _ | _
          · have hne : S = false := by
              rw [HSR.out, HR.out, decide_eq_false]
              intro h
              have h2 := HF.out.2 (by rw [He1.out, He2.out, h])
              cases h2
            clear HF
            go_upto_region 6 with (fail)
            go_big_quiet (first
              | (go_at_call 16; (with_reducible refine Calls.quiet_of_same (KA.out _ (btn (Below.refl _ _) _))))
              | (go_at_call 16; (with_reducible refine Calls.quiet_of_same (KB.out _ (btn (Below.refl _ _) _)))))
            all_goals
              go_wp2_with fail
              go_ret
              exact ⟨by rw [hne]; rfl, G1.out.trans ⟨rfl, rfl, rfl, Nat.le_refl _, fun _ _ => rfl⟩⟩
          · have heq := Lib.hid (HF.out.1 rfl)
            clear HF
            go_upto_region 6 with (fail)
            go_big_quiet (first
              | (go_at_call 16; (with_reducible refine Calls.quiet_of_same (KA.out _ (btn (Below.refl _ _) _))))
              | (go_at_call 16; (with_reducible refine Calls.quiet_of_same (KB.out _ (btn (Below.refl _ _) _)))))
            all_goals
              go_wp2_with fail
              exact ⟨⟨k + 1, by omega, by go_num, fun j hj => by
                rcases Nat.lt_or_ge j k with h | h
                · exact Hno.out j h
                · rw [show j = k by omega, ← He1.out, ← He2.out]; exact heq.out, nd + nq, by rw [Hnd.out, World.drewN_drewN]⟩, by simp [intOf]; omega⟩
      · obtain rfl : k = es.length := by omega
        have hdn : ¬ ((es.length : Int) < (es.length : Int)) := by omega
        go_wp2_with fail
        go_ret
        refine ⟨?_, by first | exact G1.out | exact G1.out.trans ⟨rfl, rfl, rfl, Nat.le_refl _, fun _ _ => rfl⟩⟩
        have : S = true := by rw [HSR.out, HR.out, decide_eq_true]; exact HQ.out Hl.out Hno.out
        rw [this]; rfl
end Go.Proofs.YthmcmkdncaccbaaDoor
