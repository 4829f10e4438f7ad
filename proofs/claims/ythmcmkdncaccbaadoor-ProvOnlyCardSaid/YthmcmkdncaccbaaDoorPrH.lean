/- Providers: which are the same, the program's answer. -/
import Derived.Test.YthmcmkdncaccbaaDoorPrG
set_option linter.unusedSimpArgs false
set_option linter.unusedVariables false
namespace Go.Proofs.YthmcmkdncaccbaaDoor
open Go.RowKit

theorem isF_eq {x y : Ent} : isF x.1 x.2 y = true ↔ x = y := by
  unfold isF
  rw [Bool.and_eq_true, beq_iff_eq, beq_iff_eq]
  constructor
  · rintro ⟨h1, h2⟩; exact Prod.ext h1 h2
  · rintro rfl; exact ⟨rfl, rfl⟩
set_option maxHeartbeats 1000000 in
theorem same1_any (a b a2 b2 : Option Addr) (c d c2 d2 : Nat) (k m k2 m2 : List UInt8) (w : World) (h1 : k.length ≤ maxLen) (h2 : m.length ≤ maxLen) (h3 : k2.length ≤ maxLen) (h4 : m2.length ≤ maxLen) (ha : BytesAt w a k) (hb : BytesAt w b m) (ha2 : BytesAt w a2 k2) (hb2 : BytesAt w b2 m2) :
    Calls Tryd.prog 31 #[.agg #[.slice a k.length c, .slice b m.length d], .agg #[.slice a2 k2.length c2, .slice b2 m2.length d2]] w (BoolOut w (isF k m (k2, m2))) := by
  have K := Lib.hid (fun (W : World) (h : Below w.heap.size w W) => is_any a b a2 b2 c d c2 d2 k m k2 m2 W h1 h2 h3 h4 (ha.mono h) (hb.mono h) (ha2.mono h) (hb2.mono h))
  generalize isF k m (k2, m2) = R at K ⊢
  clear ha hb ha2 hb2 h1 h2 h3 h4
  go_enter Tryd.func31, Tryd.ntmps31
  go_wp2_with fail
  refine (K.out _ (bta (ba w _) _)).mono ?_; rintro e w2 ⟨rfl, hb2⟩
  go_wp2_with fail
  go_ret
  exact ⟨rfl, bt (bta (ba w _) _) hb2⟩
theorem ents_eq {es es2 : List Ent} (hl : es.length = es2.length) (h : ∀ j, j < es.length → es.getD j ([], []) = es2.getD j ([], [])) : es = es2 := by
  apply List.ext_getElem hl
  intro j h1 h2
  have := h j h1
  simpa [List.getD, h1, h2] using this

set_option maxRecDepth 100000 in
set_option maxHeartbeats 4000000 in
theorem equalE_any (a b : Option Addr) (c d : Nat) (es es2 : List Ent) (w : World) (h1 : es.length ≤ 100000) (h2 : es2.length ≤ 100000) (hE : EntsAt w a es) (hE2 : EntsAt w b es2) :
    Calls Tryd.prog 32 #[.slice a es.length c, .slice b es2.length d, .func (.func 31) #[] #[]] w (BoolOut w (decide (es = es2))) := by
  by_cases hne : es.length = es2.length
  · have hd : ((es.length : Int) != (es2.length : Int)) = false := by simp [hne]
    have HE := Lib.hid hE
    have HE2 := Lib.hid hE2
    have Hne := Lib.hid hne
    have HQ := Lib.hid (fun h => ents_eq (es := es) (es2 := es2) hne h)
    obtain ⟨R, hR⟩ : ∃ R, R = decide (es = es2) := ⟨_, rfl⟩
    have HR := Lib.hid hR
    rw [← hR]
    clear hE hE2 hne hR
    go_enter Tryd.func32, Tryd.ntmps32
    go_wp2_with fail
    go_loopw [17] (fun v wr => ∃ k : Nat, k ≤ es.length ∧ v = .int .i64 (k : Int) ∧ (∀ j, j < k → es.getD j ([], []) = es2.getD j ([], [])) ∧ Below w.heap.size w wr) (fun v _ => es.length - (intOf v).toNat)
    case atStart => exact ⟨0, Nat.zero_le _, rfl, fun j hj => absurd hj (by omega), Below.refl _ _⟩
    case round =>
      obtain ⟨k, hk, rfl, hno, hG⟩ := hrel
      have Hno := Lib.hid hno
      have G := Lib.hid hG
      by_cases hlt : k < es.length
      · obtain ⟨g1, o1, rfl, hg1, hcs1⟩ := (HE.out.mono hG).cell (by omega)
        obtain ⟨g2, o2, rfl, hg2, hcs2⟩ := (HE2.out.mono hG).cell (by have := Hne.out; omega)
        obtain ⟨p0, c0, p1, c1, x0, x1, l0, m0, l1, m1, b0, b1⟩ := hcs1 k hlt
        obtain ⟨q0, d0, q1, d1, y0, y1, s0, t0, s1, t1, u0, u1⟩ := hcs2 k (by have := Hne.out; omega)
        obtain ⟨e1, he1⟩ : ∃ e, e = es.getD k ([], []) := ⟨_, rfl⟩
        obtain ⟨e2, he2⟩ : ∃ e, e = es2.getD k ([], []) := ⟨_, rfl⟩
        rw [← he1] at x0 x1 l0 l1 b0 b1
        rw [← he2] at y0 y1 s0 s1 u0 u1
        have K := Lib.hid (fun (W : World) (h : Below wr.heap.size wr W) => (show Calls Tryd.prog 31 #[.agg #[.slice p0 e1.1.length c0, .slice p1 e1.2.length c1], .agg #[.slice q0 e2.1.length d0, .slice q1 e2.2.length d1]] W (BoolOut W (isF e1.1 e1.2 e2)) from same1_any p0 p1 q0 q1 c0 c1 d0 d1 e1.1 e1.2 e2.1 e2.2 W (Nat.le_trans l0 m0) (Nat.le_trans l1 m1) (Nat.le_trans s0 t0) (Nat.le_trans s1 t1) (b0.mono h) (b1.mono h) (u0.mono h) (u1.mono h)))
        have HF := Lib.hid (isF_eq (x := e1) (y := e2))
        have hi1 : (k : Int) < (es.length : Int) := by omega
        have hi2 : (k : Int) < (es2.length : Int) := by have := Hne.out; omega
        have hi0 : (0 : Int) ≤ (k : Int) := by omega
        have He1 := Lib.hid he1
        have He2 := Lib.hid he2
        clear hcs1 hcs2 l0 m0 l1 m1 b0 b1 s0 t0 s1 t1 u0 u1 hno hG he1 he2
        generalize (isF e1.1 e1.2 e2) = q at HF K
        have hbA := ba wr (.cells #[.slice p0 e1.1.length c0, .slice p1 e1.2.length c1] 59)
        have z0 := (hbA.cell (p := ⟨g2, o2 + k * 2, none⟩) hg2).trans y0
        have z1 := (hbA.cell (p := ⟨g2, o2 + k * 2 + 1, none⟩) hg2).trans y1
        have HbA := Lib.hid hbA
        clear hbA
        rcases q with _ | _
        · go_wp2_with fail
          refine (K.out _ (bta (ba wr _) _)).mono ?_; rintro e w2 ⟨rfl, hb2⟩
          go_wp2_with fail
          go_ret
          refine ⟨?_, bt (bt G.out (bta (ba wr _) _)) hb2⟩
          have : R = false := by
            rw [HR.out, decide_eq_false]
            intro h
            have h2 := HF.out.2 (by rw [He1.out, He2.out, h])
            cases h2
          rw [this]; rfl
        · go_wp2_with fail
          refine (K.out _ (bta (ba wr _) _)).mono ?_; rintro e w2 ⟨rfl, hb2⟩
          go_wp2_with fail
          exact ⟨⟨k + 1, by omega, by go_num, fun j hj => by
            rcases Nat.lt_or_ge j k with h | h
            · exact Hno.out j h
            · rw [show j = k by omega, ← He1.out, ← He2.out]; exact HF.out.1 (by first | rfl | trivial), bt (bt G.out (bta (ba wr _) _)) hb2⟩, by simp [intOf]; omega⟩
      · obtain rfl : k = es.length := by omega
        go_wp2_with fail
        go_ret
        refine ⟨?_, G.out⟩
        have : R = true := by rw [HR.out, decide_eq_true]; exact HQ.out Hno.out
        rw [this]; rfl
  · have hd : ((es.length : Int) != (es2.length : Int)) = true := by rw [bne_iff_ne]; omega
    have HR := Lib.hid (show decide (es = es2) = false from decide_eq_false fun h => hne (by rw [h]))
    clear hE hE2 hne
    go_enter Tryd.func32, Tryd.ntmps32
    go_wp2_with fail
    go_ret
    exact ⟨by rw [HR.out]; rfl, Below.refl _ _⟩
/-- are two providers the same -/
def sameP (i f : Bool) (es : List Ent) (i2 f2 : Bool) (es2 : List Ent) : Bool := ((i == i2) && (f == f2)) && decide (es = es2)
set_option maxHeartbeats 2000000 in
theorem sameP_any (i f i2 f2 : Bool) (a b : Option Addr) (c d : Nat) (es es2 : List Ent) (w : World) (h1 : es.length ≤ 100000) (h2 : es2.length ≤ 100000) (hE : EntsAt w a es) (hE2 : EntsAt w b es2) :
    Calls Tryd.prog 19 #[.agg #[.bool i, .slice a es.length c, .bool f], .agg #[.bool i2, .slice b es2.length d, .bool f2]] w (BoolOut w (sameP i f es i2 f2 es2)) := by
  have K := Lib.hid (fun (W : World) (h : Below w.heap.size w W) => equalE_any a b c d es es2 W h1 h2 (hE.mono h) (hE2.mono h))
  have HS := Lib.hid (show sameP i f es i2 f2 es2 = (((i == i2) && (f == f2)) && decide (es = es2)) from rfl)
  obtain ⟨q, hq⟩ : ∃ q, q = decide (es = es2) := ⟨_, rfl⟩
  rw [← hq] at K HS
  clear hE hE2 hq h1 h2
  rcases i with _ | _ <;> rcases i2 with _ | _ <;> rcases f with _ | _ <;> rcases f2 with _ | _
  all_goals
    go_enter Tryd.func19, Tryd.ntmps19
    go_wp2_with fail
    try (refine (K.out _ (bta (ba w _) _)).mono ?_; rintro e w2 ⟨rfl, hb2⟩)
    try go_wp2_with fail
    go_ret
    exact ⟨by rw [HS.out]; first | rfl | (simp; done), by first | exact bt (bta (ba w _) _) hb2 | exact bta (ba w _) _⟩
end Go.Proofs.YthmcmkdncaccbaaDoor
