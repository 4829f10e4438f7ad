/- Providers: pairs that were tagged, in plain Lean; which pair is which; right tags. -/
import Derived.Test.YthmcmkdncaccbaaDoorMacD
import Derived.Test.YthmcmkdncaccbaaDoorRows2
set_option linter.unusedSimpArgs false
set_option linter.unusedVariables false
namespace Go.Proofs.YthmcmkdncaccbaaDoor
open Go.RowKit

abbrev Ent : Type := List UInt8 × List UInt8
/-- was a pair tagged -/
def isF (k b : List UInt8) (e : Ent) : Bool := (k == e.1) && (b == e.2)
def hadF (es : List Ent) (k b : List UInt8) : Bool := es.any (isF k b)
/-- the right tag -/
def rightT (k b : List UInt8) : List UInt8 := (tagF k b).take 16
theorem rightT_len (k b : List UInt8) : (rightT k b).length = 16 := by unfold rightT; rw [List.length_take, tagF_len]; rfl
/-- what a slice of pairs holds -/
def EntsAt (w : World) (a : Option Addr) (es : List Ent) : Prop :=
  ∃ vs : List Value, vs.length = es.length * 2 ∧ At w a vs ∧ ∀ i, i < es.length → RowIs w (vs.getD (i * 2) undef) (es.getD i ([], [])).1 ∧ RowIs w (vs.getD (i * 2 + 1) undef) (es.getD i ([], [])).2
theorem EntsAt.mono {w w' : World} {a : Option Addr} {es : List Ent} (h : EntsAt w a es) (hb : Below w.heap.size w w') : EntsAt w' a es := by
  obtain ⟨vs, h1, h2, h3⟩ := h
  exact ⟨vs, h1, h2.mono hb, fun i hi => ⟨(h3 i hi).1.mono hb, (h3 i hi).2.mono hb⟩⟩
theorem EntsAt.nil (w : World) (a : Option Addr) : EntsAt w a [] := ⟨[], rfl, .inl rfl, fun i hi => absurd hi (by simp)⟩
theorem ent_cells2 {w : World} {b : Nat} {v0 v1 : Value} (h : Blk w b [v0, v1]) : w.cell? ⟨b, 0, none⟩ = some v0 ∧ w.cell? ⟨b, 1, none⟩ = some v1 :=
  ⟨h.cell 0 (by simp), h.cell 1 (by simp)⟩

set_option maxRecDepth 100000 in
set_option maxHeartbeats 1000000 in
theorem is_any (a b a2 b2 : Option Addr) (c d c2 d2 : Nat) (k m k2 m2 : List UInt8) (w : World) (h1 : k.length ≤ maxLen) (h2 : m.length ≤ maxLen) (h3 : k2.length ≤ maxLen) (h4 : m2.length ≤ maxLen) (ha : BytesAt w a k) (hb : BytesAt w b m) (ha2 : BytesAt w a2 k2) (hb2 : BytesAt w b2 m2) :
    Calls Tryd.prog 29 #[.agg #[.slice a k.length c, .slice b m.length d], .agg #[.slice a2 k2.length c2, .slice b2 m2.length d2]] w (BoolOut w (isF k m (k2, m2))) := by
  have HE1 := Lib.hid (fun (W : World) (h : Below w.heap.size w W) => macSame_any a a2 c c2 k k2 h1 h3 W (ha.mono h) (ha2.mono h))
  have HE2 := Lib.hid (fun (W : World) (h : Below w.heap.size w W) => macSame_any b b2 d d2 m m2 h2 h4 W (hb.mono h) (hb2.mono h))
  have HS := Lib.hid (show isF k m (k2, m2) = ((k == k2) && (m == m2)) from rfl)
  clear ha hb ha2 hb2 h1 h2 h3 h4
  generalize (k == k2) = p1 at HE1 HS
  generalize (m == m2) = p2 at HE2 HS
  rcases p1 with _ | _
  all_goals
    rcases p2 with _ | _
    all_goals
      go_enter Tryd.func29, Tryd.ntmps29
      go_wp2_with fail
      generalize hW : World.alloc _ _ = W
      obtain ⟨B1, B2, hb⟩ := two_world (a := [.slice a k.length c, .slice b m.length d]) (b := [.slice a2 k2.length c2, .slice b2 m2.length d2]) hW
      clear hW
      generalize w.heap.size + 1 = n2 at B2 ⊢
      refine (HE1.out _ hb).mono ?_; rintro e w2 ⟨rfl, hb2⟩
      obtain ⟨x0, x1⟩ := ent_cells2 (B1.up hb2)
      obtain ⟨y0, y1⟩ := ent_cells2 (B2.up hb2)
      have Hb := Lib.hid (bt hb hb2)
      clear hb B1 B2 HE1 hb2
      go_wp2_with fail
      try (refine (HE2.out _ Hb.out).mono ?_; rintro e w3 ⟨rfl, hb3⟩; replace Hb := Lib.hid (bt Hb.out hb3); clear hb3)
      try go_wp2_with fail
      go_ret
      exact ⟨by rw [HS.out]; rfl, Hb.out⟩
/-- a right tag, as a result -/
def TagOut (w : World) (T : List UInt8) (e : Ending) (w' : World) : Prop := ∃ a c, e = .returned (.slice a 16 c) ∧ (16 ≤ c ∧ c ≤ maxLen) ∧ BytesAt w' a T ∧ Below w.heap.size w w'
set_option maxHeartbeats 1000000 in
theorem right_any04 (a b : Option Addr) (c d : Nat) (k m : List UInt8) (hk : k.length ≤ 100000) (hm : m.length ≤ 90000) (w : World) (ha : BytesAt w a k) (hb : BytesAt w b m) (hks : KeysAt w) :
    Calls Tryd.prog 26 #[.slice a k.length c, .slice b m.length d] w (TagOut w (rightT k m)) := by
  have HT := Lib.hid (macTag_any a b c d k m hk hm w ha hb hks)
  have HR := Lib.hid (show rightT k m = (tagF k m).take 16 from rfl)
  generalize tagF k m = T at HT HR
  generalize rightT k m = R at HR ⊢
  clear ha hb hks hk hm
  go_enter Tryd.func26, Tryd.ntmps26
  go_wp2_with fail
  refine HT.out.mono ?_; rintro e w1 ⟨a1, c1, rfl, ⟨hc1, hm1⟩, hat, hb1⟩
  have hs : ∀ W, (Instr.sliceAt 25 (.slice a1 32 c1) none (some (.int .i64 16)) none).run Tryd.prog W = .ok (.slice a1 16 c1) W := fun W => run_head Tryd.underlying25 size_u8 W a1 32 c1 16 (by omega)
  have Hat := Lib.hid (BytesAt.take hat 16)
  have Hb := Lib.hid hb1
  have Hc := Lib.hid (show 16 ≤ c1 ∧ c1 ≤ maxLen from ⟨by omega, hm1⟩)
  clear hat hb1 hc1 hm1
  go_wp2_with fail
  go_ret
  exact ⟨a1, c1, rfl, Hc.out, by rw [HR.out]; exact Hat.out, Hb.out⟩
set_option maxHeartbeats 1000000 in
theorem refRight_any04 (a b : Option Addr) (c d : Nat) (k m : List UInt8) (hk : k.length ≤ 100000) (hm : m.length ≤ 90000) (w : World) (ha : BytesAt w a k) (hb : BytesAt w b m) :
    Calls Tryd.prog 27 #[.slice a k.length c, .slice b m.length d] w (TagOut w (rightT k m)) := by
  have HT := Lib.hid (refTag_any a b c d k m hk hm w ha hb)
  have HR := Lib.hid (show rightT k m = (tagF k m).take 16 from rfl)
  generalize tagF k m = T at HT HR
  generalize rightT k m = R at HR ⊢
  clear ha hb hk hm
  go_enter Tryd.func27, Tryd.ntmps27
  go_wp2_with fail
  refine HT.out.mono ?_; rintro e w1 ⟨a1, c1, rfl, ⟨hc1, hm1⟩, hat, hb1⟩
  have hs : ∀ W, (Instr.sliceAt 25 (.slice a1 32 c1) none (some (.int .i64 16)) none).run Tryd.prog W = .ok (.slice a1 16 c1) W := fun W => run_head Tryd.underlying25 size_u8 W a1 32 c1 16 (by omega)
  have Hat := Lib.hid (BytesAt.take hat 16)
  have Hb := Lib.hid hb1
  have Hc := Lib.hid (show 16 ≤ c1 ∧ c1 ≤ maxLen from ⟨by omega, hm1⟩)
  clear hat hb1 hc1 hm1
  go_wp2_with fail
  go_ret
  exact ⟨a1, c1, rfl, Hc.out, by rw [HR.out]; exact Hat.out, Hb.out⟩
end Go.Proofs.YthmcmkdncaccbaaDoor
