/- Providers: Had of both; clones; a pair put behind others. -/
import Derived.Test.YthmcmkdncaccbaaDoorPrB
import Derived.ArgAppend
import Derived.Deep.DeepCutAuto
set_option linter.unusedSimpArgs false
set_option linter.unusedVariables false
namespace Go.Proofs.YthmcmkdncaccbaaDoor
open Go.RowKit

theorem ents_in {w : World} {a ka ba : Option Addr} {c kc bc : Nat} {es : List Ent} {k b : List UInt8} (hE : EntsAt w a es) (hk : k.length ≤ maxLen) (hb : b.length ≤ maxLen) (hka : BytesAt w ka k) (hba : BytesAt w ba b) :
    EntIn w.heap.size w (.slice a es.length c) (.agg #[.slice ka k.length kc, .slice ba b.length bc]) es.length (fun i => isF k b (es.getD i ([], []))) := by
  by_cases h0 : es.length = 0
  · exact .inl ⟨a, c, by rw [h0], h0⟩
  obtain ⟨vs, h1, h2, h3⟩ := hE
  rcases h2 with h | ⟨g, off, rfl, hlt, hc⟩
  · rw [h, List.length_nil] at h1; omega
  refine .inr ⟨g, off, c, fun j => vs.getD (j * 2) undef, fun j => vs.getD (j * 2 + 1) undef, rfl, hlt, fun j hj => ⟨hc _ (by omega), by rw [Nat.add_assoc]; exact hc _ (by omega)⟩, fun j hj => ?_, fun W' j hj hW => ?_⟩
  · obtain ⟨⟨p0, c0, e0, -⟩, ⟨p1, c1, e1, -⟩⟩ := h3 j hj
    exact ⟨p0, _, c0, p1, _, c1, e0, e1⟩
  · obtain ⟨⟨p0, c0, e0, l0, m0, b0⟩, ⟨p1, c1, e1, l1, m1, b1⟩⟩ := h3 j hj
    simp only [e0, e1]
    exact is_any ka ba p0 p1 kc bc c0 c1 k b _ _ W' hk hb (Nat.le_trans l0 m0) (Nat.le_trans l1 m1) (hka.mono hW) (hba.mono hW) (b0.mono hW) (b1.mono hW)
theorem had_any (i f : Bool) (a ka ba : Option Addr) (c kc bc : Nat) (es : List Ent) (k b : List UInt8) (w : World) (hes : es.length ≤ 100000) (hE : EntsAt w a es) (hk : k.length ≤ maxLen) (hb : b.length ≤ maxLen) (hka : BytesAt w ka k) (hba : BytesAt w ba b) :
    Calls Tryd.prog 17 #[.agg #[.bool i, .slice a es.length c, .bool f], .slice ka k.length kc, .slice ba b.length bc] w (BoolOut w (hadF es k b)) := by
  have h := callsIn_wide.1 (had_core i f (.slice a es.length c) ka ba k.length kc b.length bc es.length _ w (by omega) (ents_in hE hk hb hka hba))
  refine h.mono fun e w' ⟨p, q⟩ => ⟨?_, q⟩
  rw [p]
  rcases hh : hadF es k b with _ | _
  · rw [decide_eq_false]
    intro hx; rw [(had_iff es k b).2 hx] at hh; cases hh
  · rw [decide_eq_true ((had_iff es k b).1 hh)]
/-- the cells of a slice of pairs -/
theorem EntsAt.cell {w : World} {a : Option Addr} {es : List Ent} (h : EntsAt w a es) (h0 : 0 < es.length) :
    ∃ g off, a = some ⟨g, off, none⟩ ∧ g < w.heap.size ∧ ∀ j, j < es.length → ∃ p0 c0 p1 c1, w.cell? ⟨g, off + j * 2, none⟩ = some (.slice p0 (es.getD j ([], [])).1.length c0) ∧ w.cell? ⟨g, off + j * 2 + 1, none⟩ = some (.slice p1 (es.getD j ([], [])).2.length c1) ∧
      (es.getD j ([], [])).1.length ≤ c0 ∧ c0 ≤ maxLen ∧ (es.getD j ([], [])).2.length ≤ c1 ∧ c1 ≤ maxLen ∧ BytesAt w p0 (es.getD j ([], [])).1 ∧ BytesAt w p1 (es.getD j ([], [])).2 := by
  obtain ⟨vs, h1, h2, h3⟩ := h
  rcases h2 with h | ⟨g, off, rfl, hlt, hc⟩
  · rw [h, List.length_nil] at h1; omega
  refine ⟨g, off, rfl, hlt, fun j hj => ?_⟩
  obtain ⟨⟨p0, c0, e0, l0, m0, b0⟩, ⟨p1, c1, e1, l1, m1, b1⟩⟩ := h3 j hj
  exact ⟨p0, c0, p1, c1, by rw [hc _ (by omega), e0], by rw [Nat.add_assoc, hc _ (by omega), e1], l0, m0, l1, m1, b0, b1⟩

set_option maxRecDepth 100000 in
set_option maxHeartbeats 2000000 in
theorem refHad_any (i f : Bool) (a ka ba : Option Addr) (c kc bc : Nat) (es : List Ent) (k b : List UInt8) (w : World) (hes : es.length ≤ 100000) (hE : EntsAt w a es) (hka : BytesAt w ka k) (hba : BytesAt w ba b) :
    Calls Tryd.prog 18 #[.agg #[.bool i, .slice a es.length c, .bool f], .slice ka k.length kc, .slice ba b.length bc] w (BoolOut w (hadF es k b)) := by
  have HE := Lib.hid hE
  have HK := Lib.hid hka
  have HB := Lib.hid hba
  have HH := Lib.hid (had_iff es k b)
  generalize hadF es k b = R at HH ⊢
  clear hE hka hba
  go_enter Tryd.func18, Tryd.ntmps18
  go_wp2_with fail
  generalize hW : World.alloc w _ = W
  have Hw := Lib.hid (show Below w.heap.size w W by rw [← hW]; exact Below.refl _ _ |>.alloc (Nat.le_refl _) _)
  have B3 := Lib.hid (show Blk W w.heap.size [.bool i, .slice a es.length c, .bool f] by rw [← hW]; exact Blk.new w [.bool i, .slice a es.length c, .bool f] _)
  clear hW
  have y1 : W.cell? ⟨w.heap.size, 1, none⟩ = some (.slice a es.length c) := B3.out.cell 1 (by simp)
  go_loopw [7] (fun v wr => wr = W ∧ ∃ j : Nat, j ≤ es.length ∧ v = .int .i64 (j : Int) ∧ ∀ t, t < j → isF k b (es.getD t ([], [])) = false) (fun v _ => es.length - (intOf v).toNat)
  case atStart => exact ⟨rfl, 0, Nat.zero_le _, rfl, fun t ht => absurd ht (by omega)⟩
  case round =>
    obtain ⟨rfl, j, hj, rfl, hno⟩ := hrel
    have Hno := Lib.hid hno
    clear hno
    by_cases hlt : j < es.length
    · obtain ⟨g, off, rfl, hg, hcs⟩ := (HE.out.mono Hw.out).cell (by omega)
      obtain ⟨p0, c0, p1, c1, x0, x1, -, -, -, -, b0, b1⟩ := hcs j hlt
      have K1 := Lib.hid (same01_any p0 ka _ c0 k.length kc _ k wr rfl rfl b0 (HK.out.mono Hw.out))
      have K2 := Lib.hid (same01_any p1 ba _ c1 b.length bc _ b wr rfl rfl b1 (HB.out.mono Hw.out))
      have HF := Lib.hid (show isF k b (es.getD j ([], [])) = (((es.getD j ([], [])).1 == k) && ((es.getD j ([], [])).2 == b)) by
        unfold isF; rw [Bool.beq_comm (a := k), Bool.beq_comm (a := b)])
      clear hcs b0 b1
      have hd1 : (j : Int) < (es.length : Int) := by omega
      have hd0 : (0 : Int) ≤ (j : Int) := by omega
      generalize ((es.getD j ([], [])).1 == k) = q1 at K1 HF
      generalize ((es.getD j ([], [])).2 == b) = q2 at K2 HF
      generalize (es.getD j ([], [])).1.length = n0 at x0 K1
      generalize (es.getD j ([], [])).2.length = n1 at x1 K2
      rcases q1 with _ | _
      · go_wp2_with fail
        refine K1.out.mono ?_; rintro e w2 ⟨rfl, rfl⟩
        go_wp2_with fail
        exact ⟨⟨by trivial, j + 1, by omega, by go_num, fun t ht => by
          rcases Nat.lt_or_ge t j with h | h
          · exact Hno.out t h
          · rw [show t = j by omega, HF.out]; rfl⟩, by simp [intOf]; omega⟩
      · rcases q2 with _ | _
        · go_wp2_with fail
          refine K1.out.mono ?_; rintro e w2 ⟨rfl, rfl⟩
          go_wp2_with fail
          refine K2.out.mono ?_; rintro e w3 ⟨rfl, rfl⟩
          go_wp2_with fail
          exact ⟨⟨by trivial, j + 1, by omega, by go_num, fun t ht => by
            rcases Nat.lt_or_ge t j with h | h
            · exact Hno.out t h
            · rw [show t = j by omega, HF.out]; rfl⟩, by simp [intOf]; omega⟩
        · go_wp2_with fail
          refine K1.out.mono ?_; rintro e w2 ⟨rfl, rfl⟩
          go_wp2_with fail
          refine K2.out.mono ?_; rintro e w3 ⟨rfl, rfl⟩
          go_wp2_with fail
          go_ret
          exact ⟨by rw [HH.out.2 ⟨j, hlt, HF.out⟩]; rfl, Hw.out⟩
    · obtain rfl : j = es.length := by omega
      go_wp2_with fail
      go_ret
      refine ⟨?_, Hw.out⟩
      have : R = false := by
        rcases hR : R with _ | _
        · rfl
        · obtain ⟨t, ht, h⟩ := HH.out.1 hR
          rw [Hno.out t ht] at h; cases h
      rw [this]; rfl
end Go.Proofs.YthmcmkdncaccbaaDoor
