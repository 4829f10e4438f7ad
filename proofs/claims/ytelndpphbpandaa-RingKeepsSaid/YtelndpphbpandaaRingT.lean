/- The walk of the law RingDoes. -/
import Derived.Test.YtelndpphbpandaaRingG
import Derived.Test.YtelndpphbpandaaInR
import Derived.Deep.RegionHeld3
set_option linter.unusedSimpArgs false
set_option linter.unusedVariables false
namespace Go.Proofs.Ytelndpphbpandaa
open Go.RowKit

/-- the law's head answers true -/
def Shown11OK : Prop := ∀ w : World, Calls Try.prog 8 #[] w fun e w' => e = .returned (.bool true) ∧ Below w.heap.size w w'
/-- the program's Same answers as the document's -/
def Same11OK : Prop := ∀ (r s : Rg) (kc ko kp jc jo jp : List UInt8) (w : World), RgAt w r kc ko kp → RgAt w s jc jo jp →
    Calls Try.prog 15 #[r.v, s.v] w fun e w' => e = .returned (.bool (sameB r s kc ko kp jc jo jp)) ∧ Below w.heap.size w w'
/-- a bool comes back, and what was there is as it was -/
def BoolOut (w : World) (b : Bool) (e : Ending) (w' : World) : Prop := e = .returned (.bool b) ∧ Below w.heap.size w w'

theorem sameB_refl (r : Rg) (kc ko kp : List UInt8) : sameB r r kc ko kp kc ko kp = true := by simp [sameB, sameG]
theorem right_facts {r : Rg} (h : rightB r.c r.o r.p r.l r.t = true) : 0 ≤ r.l ∧ r.l ≤ 16 ∧ 0 ≤ r.t ∧ r.t ≤ 2147483647 ∧ (r.p.no == 0) = noneB r.p := by
  obtain ⟨c, o, p, l, t⟩ := r
  simp only [rightB, Bool.or_eq_true] at h
  rcases h with h | h
  · simp [emptyB, noneB] at h
    obtain ⟨h1, h2, h3, h4, h5⟩ := h
    simp only
    refine ⟨by omega, by omega, by omega, by omega, ?_⟩
    simp [noneB, h3.1, h3.2]
  · simp only [Bool.and_eq_true] at h
    obtain ⟨hc, ho, hp, ht⟩ := h
    simp [realB] at hc
    simp [topB] at ht
    simp only
    have hl : 0 ≤ l ∧ l ≤ 16 := by
      rcases hn : noneB o with _ | _
      · simp [oldB, hn] at ho; omega
      · simp [oldB, hn] at ho; omega
    refine ⟨hl.1, hl.2, by omega, by omega, ?_⟩
    rcases hn : noneB p with _ | _
    · simp [pendB, hn, realB] at hp
      simp; omega
    · simp [noneB] at hn; simp [hn.1]
theorem offer_at {w : World} {r : Rg} {g : G} {kc ko kp l : List UInt8} (hr : RgAt w r kc ko kp) (hg : g.len = l.length) (hl : BytesAt w g.a l) : ∃ a b c, RgAt w (offerF r g).1 a b c := by
  unfold offerF
  rcases realB g with _ | _
  · exact ⟨kc, ko, kp, hr⟩
  · rcases offB r g.no with _ | _
    · exact ⟨kc, ko, l, hr.lc, hr.c, hr.lo, hr.o, hg, hl⟩
    · exact ⟨kc, ko, kp, hr⟩
theorem turn_at {w : World} {r : Rg} {kc ko kp : List UInt8} (hr : RgAt w r kc ko kp) : ∃ a b c, RgAt w (turnF r).1 a b c := by
  unfold turnF
  rcases noneB r.p with _ | _
  · exact ⟨kp, kc, [], hr.lp, hr.p, hr.lc, hr.c, rfl, .inl rfl⟩
  · exact ⟨kc, ko, kp, hr⟩
theorem tick_at {w : World} {r : Rg} {kc ko kp : List UInt8} (hr : RgAt w r kc ko kp) : ∃ a b c, RgAt w (tickF r) a b c := by
  unfold tickF
  rcases decide (1 < r.l) with _ | _
  · exact ⟨kc, [], kp, hr.lc, hr.c, rfl, .inl rfl, hr.lp, hr.p⟩
  · exact ⟨kc, ko, kp, hr.lc, hr.c, hr.lo, hr.o, hr.lp, hr.p⟩
theorem with_at {w : World} {r : Rg} {kc ko kp : List UInt8} (hr : RgAt w r kc ko kp) : ∃ a b c, RgAt w (withF r) a b c :=
  ⟨kc, ko, [], hr.lc, hr.c, hr.lo, hr.o, rfl, .inl rfl⟩
/-- a ring is the same as itself, wherever the document's Same is asked -/
abbrev Self (w0 : World) (R : Rg) : Prop := ∀ w, Below w0.heap.size w0 w → Calls Try.prog 13 #[R.v, R.v] w fun e w' => e = .returned (.bool true) ∧ Below w.heap.size w w'
theorem self_of {w0 : World} {R : Rg} (h : ∃ a b c, RgAt w0 R a b c) : Self w0 R := by
  obtain ⟨a, b, c, h⟩ := h
  intro w hb
  have := refSame_any R R a b c a b c w (h.mono hb) (h.mono hb)
  rwa [sameB_refl] at this

set_option maxRecDepth 100000 in
set_option maxHeartbeats 8000000 in
theorem ringDoes_any (hsh : Shown11OK) (r : Rg) (no : Int) (a : Option Addr) (len cap : Nat) (kc ko kp l : List UInt8) (w : World) (hr : RgAt w r kc ko kp) (hlen : len = l.length) (hl : BytesAt w a l) (hm : len ≤ maxLen) :
    Calls Try.prog 4 #[r.v, .int .i64 no, .slice a len cap] w (BoolOut w true) := by
  unfold maxLen at hm
  have Hsh := Lib.hid hsh
  have HB0 := Lib.hid (Blk.new w r.L 26)
  rcases hF : fewB r with _ | _
  · clear hr hl hlen
    go_enter Try.func4, Try.ntmps4
    go_wp2_with fail
    refine (Hsh.out _).mono ?_; rintro e w1 ⟨rfl, hb1⟩
    have HB1 := Lib.hid (HB0.out.up hb1)
    have Hb := Lib.hid (bt (ba w _) hb1)
    clear hb1
    obtain ⟨c0, c1, c2, c3, c4, c5, c6, c7⟩ := ring_cells HB1.out
    go_wp2_with (go_at_call 9; refine (few_any r _).mono ?_; rintro e w2 ⟨rfl, hb2⟩)
    go_ret
    exact ⟨rfl, bt Hb.out hb2⟩
  · rcases hR : rightB r.c r.o r.p r.l r.t with _ | _
    · clear hr hl hlen
      go_enter Try.func4, Try.ntmps4
      go_wp2_with fail
      refine (Hsh.out _).mono ?_; rintro e w1 ⟨rfl, hb1⟩
      have HB1 := Lib.hid (HB0.out.up hb1)
      have Hb := Lib.hid (bt (ba w _) hb1)
      clear hb1
      obtain ⟨c0, c1, c2, c3, c4, c5, c6, c7⟩ := ring_cells HB1.out
      go_wp2_with (first
        | (go_at_call 9; refine (few_any r _).mono ?_; rintro e w2 ⟨rfl, hb2⟩; have HB1 := Lib.hid (HB1.out.up hb2); have Hb := Lib.hid (bt Hb.out hb2); obtain ⟨c0, c1, c2, c3, c4, c5, c6, c7⟩ := ring_cells HB1.out)
        | (go_at_call 12; refine (refRight_any r.c r.o r.p r.l r.t _).mono ?_; rintro e w3 ⟨rfl, hb3⟩))
      go_ret
      exact ⟨rfl, bt Hb.out hb3⟩
    · by_cases h100 : 100 < len
      · have hd : decide ((100 : Int) < len) = true := by simp; omega
        clear hr hl hlen
        go_enter Try.func4, Try.ntmps4
        go_wp2_with fail
        refine (Hsh.out _).mono ?_; rintro e w1 ⟨rfl, hb1⟩
        have HB1 := Lib.hid (HB0.out.up hb1)
        have Hb := Lib.hid (bt (ba w _) hb1)
        clear hb1
        obtain ⟨c0, c1, c2, c3, c4, c5, c6, c7⟩ := ring_cells HB1.out
        go_wp2_with (first
          | (go_at_call 9; refine (few_any r _).mono ?_; rintro e w2 ⟨rfl, hb2⟩; have HB1 := Lib.hid (HB1.out.up hb2); have Hb := Lib.hid (bt Hb.out hb2); obtain ⟨c0, c1, c2, c3, c4, c5, c6, c7⟩ := ring_cells HB1.out)
          | (go_at_call 12; refine (refRight_any r.c r.o r.p r.l r.t _).mono ?_; rintro e w3 ⟨rfl, hb3⟩; have Hb := Lib.hid (bt Hb.out hb3)))
        go_ret
        exact ⟨rfl, Hb.out⟩
      · have hd : decide ((100 : Int) < len) = false := by simp; omega
        obtain ⟨f0, f1, f2, f3, f4⟩ := right_facts hR
        obtain ⟨X, x, hX⟩ : ∃ X x, offerF r ⟨no, a, len, cap⟩ = (X, x) := ⟨_, _, rfl⟩
        obtain ⟨Y, y, hY⟩ : ∃ Y y, turnF r = (Y, y) := ⟨_, _, rfl⟩
        obtain ⟨Z, hZ⟩ : ∃ Z, tickF r = Z := ⟨_, rfl⟩
        obtain ⟨U, hU⟩ : ∃ U, withF r = U := ⟨_, rfl⟩
        have SX := Lib.hid (self_of (by have := offer_at (g := ⟨no, a, len, cap⟩) hr hlen hl; rwa [hX] at this) : Self w X)
        have SY := Lib.hid (self_of (by have := turn_at hr; rwa [hY] at this) : Self w Y)
        have SZ := Lib.hid (self_of (by have := tick_at hr; rwa [hZ] at this) : Self w Z)
        have SU := Lib.hid (self_of (by have := with_at hr; rwa [hU] at this) : Self w U)
        have PX := Lib.hid (show ∀ w, Calls Try.prog 21 #[r.v, .int .i64 no, .slice a len cap] w fun e w' => e = .returned (.tuple #[X.v, .int .i64 x]) ∧ Below w.heap.size w w' from fun w => by have := offer_any r ⟨no, a, len, cap⟩ w; rwa [hX] at this)
        have QX := Lib.hid (show ∀ w, Calls Try.prog 22 #[r.v, .int .i64 no, .slice a len cap] w fun e w' => e = .returned (.tuple #[X.v, .int .i64 x]) ∧ Below w.heap.size w w' from fun w => by have := refOffer_any r ⟨no, a, len, cap⟩ w; rwa [hX] at this)
        have PY := Lib.hid (show ∀ w, Calls Try.prog 23 #[r.v] w fun e w' => e = .returned (.tuple #[Y.v, .int .i64 y]) ∧ Below w.heap.size w w' from fun w => by have := turn_any r w; rwa [hY] at this)
        have QY := Lib.hid (show ∀ w, Calls Try.prog 24 #[r.v] w fun e w' => e = .returned (.tuple #[Y.v, .int .i64 y]) ∧ Below w.heap.size w w' from fun w => by have := refTurn_any r w f4; rwa [hY] at this)
        have PZ := Lib.hid (show ∀ w, Calls Try.prog 27 #[r.v] w fun e w' => e = .returned Z.v ∧ Below w.heap.size w w' from fun w => by have := tick_any r w f0 f1; rwa [hZ] at this)
        have QZ := Lib.hid (show ∀ w, Calls Try.prog 28 #[r.v] w fun e w' => e = .returned Z.v ∧ Below w.heap.size w w' from fun w => by have := refTick_any r w f0 f1; rwa [hZ] at this)
        have PU := Lib.hid (show ∀ w, Calls Try.prog 25 #[r.v] w fun e w' => e = .returned U.v ∧ Below w.heap.size w w' from fun w => by have := with_any r w; rwa [hU] at this)
        have QU := Lib.hid (show ∀ w, Calls Try.prog 26 #[r.v] w fun e w' => e = .returned U.v ∧ Below w.heap.size w w' from fun w => by have := refWith_any r w; rwa [hU] at this)
        clear hX hY hZ hU hr hl hlen f0 f1 f2 f3 f4
        go_enter Try.func4, Try.ntmps4
        go_wp2_with fail
        refine (Hsh.out _).mono ?_; rintro e w1 ⟨rfl, hb1⟩
        have HB1 := Lib.hid (HB0.out.up hb1)
        have Hb := Lib.hid (bt (ba w _) hb1)
        clear hb1 HB0
        obtain ⟨c0, c1, c2, c3, c4, c5, c6, c7⟩ := ring_cells HB1.out
        go_wp2_with fail
        refine (few_any r _).mono ?_; rintro e w2 ⟨rfl, hb2⟩
        have HB1 := Lib.hid (HB1.out.up hb2)
        have Hb := Lib.hid (bt Hb.out hb2)
        clear hb2 c0 c1 c2 c3 c4 c5 c6 c7
        obtain ⟨c0, c1, c2, c3, c4, c5, c6, c7⟩ := ring_cells HB1.out
        go_wp2_with fail
        refine (refRight_any r.c r.o r.p r.l r.t _).mono ?_; rintro e w3 ⟨rfl, hb3⟩
        have HB1 := Lib.hid (HB1.out.up hb3)
        have Hb := Lib.hid (bt Hb.out hb3)
        clear hb3 c0 c1 c2 c3 c4 c5 c6 c7
        obtain ⟨c0, c1, c2, c3, c4, c5, c6, c7⟩ := ring_cells HB1.out
        go_wp2_with fail
        refine (PX.out _).mono ?_; rintro e w4 ⟨rfl, hb4⟩
        clear c0 c1 c2 c3 c4 c5 c6 c7
        have HB1 := Lib.hid ((HB1.out.up hb4).alloc (.cells X.L.toArray 26))
        have N4 := Lib.hid (Blk.new w4 X.L 26)
        have Hb := Lib.hid (bt (bt Hb.out hb4) (ba w4 (.cells X.L.toArray 26)))
        clear hb4
        obtain ⟨c0, c1, c2, c3, c4, c5, c6, c7⟩ := ring_cells HB1.out
        go_wp2_with fail
        refine (QX.out _).mono ?_; rintro e w5 ⟨rfl, hb5⟩
        clear c0 c1 c2 c3 c4 c5 c6 c7
        have HB1 := Lib.hid ((HB1.out.up hb5).alloc (.cells X.L.toArray 26))
        have N4 := Lib.hid ((N4.out.up hb5).alloc (.cells X.L.toArray 26))
        have N5 := Lib.hid (Blk.new w5 X.L 26)
        have Hb := Lib.hid (bt (bt Hb.out hb5) (ba w5 (.cells X.L.toArray 26)))
        clear hb5
        obtain ⟨c0, c1, c2, c3, c4, c5, c6, c7⟩ := ring_cells HB1.out
        go_wp2_with fail
        refine (PY.out _).mono ?_; rintro e w6 ⟨rfl, hb6⟩
        clear c0 c1 c2 c3 c4 c5 c6 c7
        have HB1 := Lib.hid ((HB1.out.up hb6).alloc (.cells Y.L.toArray 26))
        have N4 := Lib.hid ((N4.out.up hb6).alloc (.cells Y.L.toArray 26))
        have N5 := Lib.hid ((N5.out.up hb6).alloc (.cells Y.L.toArray 26))
        have N6 := Lib.hid (Blk.new w6 Y.L 26)
        have Hb := Lib.hid (bt (bt Hb.out hb6) (ba w6 (.cells Y.L.toArray 26)))
        clear hb6
        obtain ⟨c0, c1, c2, c3, c4, c5, c6, c7⟩ := ring_cells HB1.out
        go_wp2_with fail
        refine (QY.out _).mono ?_; rintro e w7 ⟨rfl, hb7⟩
        clear c0 c1 c2 c3 c4 c5 c6 c7
        have HB1 := Lib.hid ((HB1.out.up hb7).alloc (.cells Y.L.toArray 26))
        have N4 := Lib.hid ((N4.out.up hb7).alloc (.cells Y.L.toArray 26))
        have N5 := Lib.hid ((N5.out.up hb7).alloc (.cells Y.L.toArray 26))
        have N6 := Lib.hid ((N6.out.up hb7).alloc (.cells Y.L.toArray 26))
        have N7 := Lib.hid (Blk.new w7 Y.L 26)
        have Hb := Lib.hid (bt (bt Hb.out hb7) (ba w7 (.cells Y.L.toArray 26)))
        clear hb7
        obtain ⟨c0, c1, c2, c3, c4, c5, c6, c7⟩ := ring_cells HB1.out
        go_wp2_with fail
        generalize hW : World.alloc w7 _ = W
        rw [hW] at HB1 N4 N5 N6 N7 Hb
        clear hW c0 c1 c2 c3 c4 c5 c6 c7
        generalize w4.heap.size = n4 at N4 ⊢
        generalize w5.heap.size = n5 at N5 ⊢
        generalize w6.heap.size = n6 at N6 ⊢
        generalize w7.heap.size = n7 at N7 ⊢
        have KS := Lib.hid (show ∀ w', Below W.heap.size W w' → (Below W.heap.size W w' ∧ w'.cell? ⟨w.heap.size, 0, none⟩ = some (.int .i64 r.c.no) ∧ w'.cell? ⟨w.heap.size, 1, none⟩ = some (.slice r.c.a r.c.len r.c.cap) ∧ w'.cell? ⟨w.heap.size, 2, none⟩ = some (.int .i64 r.o.no) ∧ w'.cell? ⟨w.heap.size, 3, none⟩ = some (.slice r.o.a r.o.len r.o.cap) ∧ w'.cell? ⟨w.heap.size, 4, none⟩ = some (.int .i64 r.p.no) ∧ w'.cell? ⟨w.heap.size, 5, none⟩ = some (.slice r.p.a r.p.len r.p.cap) ∧ w'.cell? ⟨w.heap.size, 6, none⟩ = some (.int .i64 r.l) ∧ w'.cell? ⟨w.heap.size, 7, none⟩ = some (.int .i64 r.t) ∧ w'.cell? ⟨n4, 0, none⟩ = some (.int .i64 X.c.no) ∧ w'.cell? ⟨n4, 1, none⟩ = some (.slice X.c.a X.c.len X.c.cap) ∧ w'.cell? ⟨n4, 2, none⟩ = some (.int .i64 X.o.no) ∧ w'.cell? ⟨n4, 3, none⟩ = some (.slice X.o.a X.o.len X.o.cap) ∧ w'.cell? ⟨n4, 4, none⟩ = some (.int .i64 X.p.no) ∧ w'.cell? ⟨n4, 5, none⟩ = some (.slice X.p.a X.p.len X.p.cap) ∧ w'.cell? ⟨n4, 6, none⟩ = some (.int .i64 X.l) ∧ w'.cell? ⟨n4, 7, none⟩ = some (.int .i64 X.t) ∧ w'.cell? ⟨n5, 0, none⟩ = some (.int .i64 X.c.no) ∧ w'.cell? ⟨n5, 1, none⟩ = some (.slice X.c.a X.c.len X.c.cap) ∧ w'.cell? ⟨n5, 2, none⟩ = some (.int .i64 X.o.no) ∧ w'.cell? ⟨n5, 3, none⟩ = some (.slice X.o.a X.o.len X.o.cap) ∧ w'.cell? ⟨n5, 4, none⟩ = some (.int .i64 X.p.no) ∧ w'.cell? ⟨n5, 5, none⟩ = some (.slice X.p.a X.p.len X.p.cap) ∧ w'.cell? ⟨n5, 6, none⟩ = some (.int .i64 X.l) ∧ w'.cell? ⟨n5, 7, none⟩ = some (.int .i64 X.t) ∧ w'.cell? ⟨n6, 0, none⟩ = some (.int .i64 Y.c.no) ∧ w'.cell? ⟨n6, 1, none⟩ = some (.slice Y.c.a Y.c.len Y.c.cap) ∧ w'.cell? ⟨n6, 2, none⟩ = some (.int .i64 Y.o.no) ∧ w'.cell? ⟨n6, 3, none⟩ = some (.slice Y.o.a Y.o.len Y.o.cap) ∧ w'.cell? ⟨n6, 4, none⟩ = some (.int .i64 Y.p.no) ∧ w'.cell? ⟨n6, 5, none⟩ = some (.slice Y.p.a Y.p.len Y.p.cap) ∧ w'.cell? ⟨n6, 6, none⟩ = some (.int .i64 Y.l) ∧ w'.cell? ⟨n6, 7, none⟩ = some (.int .i64 Y.t) ∧ w'.cell? ⟨n7, 0, none⟩ = some (.int .i64 Y.c.no) ∧ w'.cell? ⟨n7, 1, none⟩ = some (.slice Y.c.a Y.c.len Y.c.cap) ∧ w'.cell? ⟨n7, 2, none⟩ = some (.int .i64 Y.o.no) ∧ w'.cell? ⟨n7, 3, none⟩ = some (.slice Y.o.a Y.o.len Y.o.cap) ∧ w'.cell? ⟨n7, 4, none⟩ = some (.int .i64 Y.p.no) ∧ w'.cell? ⟨n7, 5, none⟩ = some (.slice Y.p.a Y.p.len Y.p.cap) ∧ w'.cell? ⟨n7, 6, none⟩ = some (.int .i64 Y.l) ∧ w'.cell? ⟨n7, 7, none⟩ = some (.int .i64 Y.t)) from fun w' hb => by
          obtain ⟨c0, c1, c2, c3, c4, c5, c6, c7⟩ := ring_cells (HB1.out.up hb)
          obtain ⟨d0, d1, d2, d3, d4, d5, d6, d7⟩ := ring_cells (N4.out.up hb)
          obtain ⟨e0, e1, e2, e3, e4, e5, e6, e7⟩ := ring_cells (N5.out.up hb)
          obtain ⟨f0, f1, f2, f3, f4, f5, f6, f7⟩ := ring_cells (N6.out.up hb)
          obtain ⟨g0, g1, g2, g3, g4, g5, g6, g7⟩ := ring_cells (N7.out.up hb)
          exact ⟨hb, c0, c1, c2, c3, c4, c5, c6, c7, d0, d1, d2, d3, d4, d5, d6, d7, e0, e1, e2, e3, e4, e5, e6, e7, f0, f1, f2, f3, f4, f5, f6, f7, g0, g1, g2, g3, g4, g5, g6, g7⟩)
        obtain ⟨hS0, c0, c1, c2, c3, c4, c5, c6, c7, d0, d1, d2, d3, d4, d5, d6, d7, e0, e1, e2, e3, e4, e5, e6, e7, f0, f1, f2, f3, f4, f5, f6, f7, g0, g1, g2, g3, g4, g5, g6, g7⟩ := KS.out W (Below.refl _ _)
        go_region_held3 (fun w' => Below W.heap.size W w' ∧ w'.cell? ⟨w.heap.size, 0, none⟩ = some (.int .i64 r.c.no) ∧ w'.cell? ⟨w.heap.size, 1, none⟩ = some (.slice r.c.a r.c.len r.c.cap) ∧ w'.cell? ⟨w.heap.size, 2, none⟩ = some (.int .i64 r.o.no) ∧ w'.cell? ⟨w.heap.size, 3, none⟩ = some (.slice r.o.a r.o.len r.o.cap) ∧ w'.cell? ⟨w.heap.size, 4, none⟩ = some (.int .i64 r.p.no) ∧ w'.cell? ⟨w.heap.size, 5, none⟩ = some (.slice r.p.a r.p.len r.p.cap) ∧ w'.cell? ⟨w.heap.size, 6, none⟩ = some (.int .i64 r.l) ∧ w'.cell? ⟨w.heap.size, 7, none⟩ = some (.int .i64 r.t) ∧ w'.cell? ⟨n4, 0, none⟩ = some (.int .i64 X.c.no) ∧ w'.cell? ⟨n4, 1, none⟩ = some (.slice X.c.a X.c.len X.c.cap) ∧ w'.cell? ⟨n4, 2, none⟩ = some (.int .i64 X.o.no) ∧ w'.cell? ⟨n4, 3, none⟩ = some (.slice X.o.a X.o.len X.o.cap) ∧ w'.cell? ⟨n4, 4, none⟩ = some (.int .i64 X.p.no) ∧ w'.cell? ⟨n4, 5, none⟩ = some (.slice X.p.a X.p.len X.p.cap) ∧ w'.cell? ⟨n4, 6, none⟩ = some (.int .i64 X.l) ∧ w'.cell? ⟨n4, 7, none⟩ = some (.int .i64 X.t) ∧ w'.cell? ⟨n5, 0, none⟩ = some (.int .i64 X.c.no) ∧ w'.cell? ⟨n5, 1, none⟩ = some (.slice X.c.a X.c.len X.c.cap) ∧ w'.cell? ⟨n5, 2, none⟩ = some (.int .i64 X.o.no) ∧ w'.cell? ⟨n5, 3, none⟩ = some (.slice X.o.a X.o.len X.o.cap) ∧ w'.cell? ⟨n5, 4, none⟩ = some (.int .i64 X.p.no) ∧ w'.cell? ⟨n5, 5, none⟩ = some (.slice X.p.a X.p.len X.p.cap) ∧ w'.cell? ⟨n5, 6, none⟩ = some (.int .i64 X.l) ∧ w'.cell? ⟨n5, 7, none⟩ = some (.int .i64 X.t) ∧ w'.cell? ⟨n6, 0, none⟩ = some (.int .i64 Y.c.no) ∧ w'.cell? ⟨n6, 1, none⟩ = some (.slice Y.c.a Y.c.len Y.c.cap) ∧ w'.cell? ⟨n6, 2, none⟩ = some (.int .i64 Y.o.no) ∧ w'.cell? ⟨n6, 3, none⟩ = some (.slice Y.o.a Y.o.len Y.o.cap) ∧ w'.cell? ⟨n6, 4, none⟩ = some (.int .i64 Y.p.no) ∧ w'.cell? ⟨n6, 5, none⟩ = some (.slice Y.p.a Y.p.len Y.p.cap) ∧ w'.cell? ⟨n6, 6, none⟩ = some (.int .i64 Y.l) ∧ w'.cell? ⟨n6, 7, none⟩ = some (.int .i64 Y.t) ∧ w'.cell? ⟨n7, 0, none⟩ = some (.int .i64 Y.c.no) ∧ w'.cell? ⟨n7, 1, none⟩ = some (.slice Y.c.a Y.c.len Y.c.cap) ∧ w'.cell? ⟨n7, 2, none⟩ = some (.int .i64 Y.o.no) ∧ w'.cell? ⟨n7, 3, none⟩ = some (.slice Y.o.a Y.o.len Y.o.cap) ∧ w'.cell? ⟨n7, 4, none⟩ = some (.int .i64 Y.p.no) ∧ w'.cell? ⟨n7, 5, none⟩ = some (.slice Y.p.a Y.p.len Y.p.cap) ∧ w'.cell? ⟨n7, 6, none⟩ = some (.int .i64 Y.l) ∧ w'.cell? ⟨n7, 7, none⟩ = some (.int .i64 Y.t))
          (first
            | (go_split_ands; exact KS.out _ (bt (by assumption) hc1))
            | (go_split_ands; exact KS.out _ (bt (by assumption) hc2))
            | (go_split_ands; exact KS.out _ (bt (by assumption) hc3))
            | (go_split_ands; exact KS.out _ (bt (by assumption) hc4))
            | (go_split_ands; exact KS.out _ (bt (by assumption) hc5))
            | (go_split_ands; exact KS.out _ (bt (by assumption) hc6))
            | (go_split_ands; exact KS.out _ (bt (by assumption) hc7))
            | (go_split_ands; exact KS.out _ (bt (by assumption) hc8))
            | (exact KS.out _ (bd _))
            | (go_split_ands; exact KS.out _ (by assumption))
            | go_keep)
          (first
            | (go_at_call 13; go_split_ands; (with_reducible refine Calls.mono (SX.out _ (bt Hb.out (by assumption))) ?_); rintro e x1 ⟨rfl, hc1⟩)
            | (go_at_call 13; go_split_ands; (with_reducible refine Calls.mono (SY.out _ (bt Hb.out (by assumption))) ?_); rintro e x2 ⟨rfl, hc2⟩)
            | (go_at_call 13; go_split_ands; (with_reducible refine Calls.mono (SU.out _ (bt Hb.out (by assumption))) ?_); rintro e x3 ⟨rfl, hc3⟩)
            | (go_at_call 13; go_split_ands; (with_reducible refine Calls.mono (SZ.out _ (bt Hb.out (by assumption))) ?_); rintro e x4 ⟨rfl, hc4⟩)
            | (go_at_call 25; go_split_ands; (with_reducible refine Calls.mono (PU.out _) ?_); rintro e x5 ⟨rfl, hc5⟩)
            | (go_at_call 26; go_split_ands; (with_reducible refine Calls.mono (QU.out _) ?_); rintro e x6 ⟨rfl, hc6⟩)
            | (go_at_call 27; go_split_ands; (with_reducible refine Calls.mono (PZ.out _) ?_); rintro e x7 ⟨rfl, hc7⟩)
            | (go_at_call 28; go_split_ands; (with_reducible refine Calls.mono (QZ.out _) ?_); rintro e x8 ⟨rfl, hc8⟩))
        go_split_ands
        go_wp2_with fail
        go_ret
        exact ⟨rfl, bt Hb.out (by assumption)⟩
end Go.Proofs.Ytelndpphbpandaa
