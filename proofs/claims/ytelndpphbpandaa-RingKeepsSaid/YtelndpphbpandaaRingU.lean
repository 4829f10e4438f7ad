/- The walk of the law RingTells. -/
import Derived.Test.YtelndpphbpandaaRingT
set_option linter.unusedSimpArgs false
set_option linter.unusedVariables false
namespace Go.Proofs.Ytelndpphbpandaa
open Go.RowKit

theorem find_at {w : World} {r : Rg} {no : Int} {kc ko kp : List UInt8} (hr : RgAt w r kc ko kp) : ∃ l : List UInt8, (findF r no).1.len = l.length ∧ BytesAt w (findF r no).1.a l := by
  unfold findF
  rcases hitB no r.c with _ | _
  · rcases hitB no r.o with _ | _
    · rcases hitB no r.p with _ | _
      · exact ⟨[], rfl, .inl rfl⟩
      · exact ⟨kp, hr.lp, hr.p⟩
    · exact ⟨ko, hr.lo, hr.o⟩
  · exact ⟨kc, hr.lc, hr.c⟩
theorem new_at {w : World} {g : G} {l : List UInt8} (hg : g.len = l.length) (hl : BytesAt w g.a l) : ∃ a b c, RgAt w (newF g).1 a b c := by
  unfold newF
  rcases ((g.len : Int) == 32) with _ | _
  · exact ⟨[], [], [], rfl, .inl rfl, rfl, .inl rfl, rfl, .inl rfl⟩
  · exact ⟨l, [], [], hg, hl, rfl, .inl rfl, rfl, .inl rfl⟩
abbrev withL (A B : Rg) (no : Int) (a : Option Addr) (len cap : Nat) : List Value := [.int .i64 A.c.no, .slice A.c.a A.c.len A.c.cap, .int .i64 A.o.no, .slice A.o.a A.o.len A.o.cap, .int .i64 A.p.no, .slice A.p.a A.p.len A.p.cap, .int .i64 A.l, .int .i64 A.t, .int .i64 B.c.no, .slice B.c.a B.c.len B.c.cap, .int .i64 B.o.no, .slice B.o.a B.o.len B.o.cap, .int .i64 B.p.no, .slice B.p.a B.p.len B.p.cap, .int .i64 B.l, .int .i64 B.t, .int .i64 no, .slice a len cap]

set_option maxRecDepth 100000 in
set_option maxHeartbeats 8000000 in
theorem ringTells_any (hsh : Shown11OK) (hsame : Same11OK) (A B : Rg) (no : Int) (a : Option Addr) (len cap : Nat) (kc ko kp jc jo jp l : List UInt8) (w : World) (hA : RgAt w A kc ko kp) (hB : RgAt w B jc jo jp) (hlen : len = l.length) (hl : BytesAt w a l) (hm : len ≤ maxLen) :
    Calls Try.prog 3 #[.agg (withL A B no a len cap).toArray] w (BoolOut w true) := by
  unfold maxLen at hm
  have Hsh := Lib.hid hsh
  have Hsame := Lib.hid hsame
  have HA := Lib.hid hA
  have HB := Lib.hid hB
  have Hlen := Lib.hid hlen
  have Hl := Lib.hid hl
  clear hsh hsame hA hB hlen hl
  rcases hFA : fewB A with _ | _
  · go_enter Try.func3, Try.ntmps3
    go_wp2_with fail
    generalize hW : World.alloc _ _ = W
    obtain ⟨NW, NA, NB, hb⟩ := turn_world (a := withL A B no a len cap) (b := A.L) (c := B.L) hW
    clear hW NW
    generalize w.heap.size + 1 + 1 = m2 at NB ⊢
    generalize w.heap.size + 1 = m1 at NA ⊢
    refine (Hsh.out _).mono ?_; rintro e w1 ⟨rfl, hb1⟩
    have NA := Lib.hid (NA.up hb1)
    have NB := Lib.hid (NB.up hb1)
    have Hb := Lib.hid (bt hb hb1)
    clear hb hb1
    obtain ⟨c0, c1, c2, c3, c4, c5, c6, c7⟩ := ring_cells NA.out
    obtain ⟨d0, d1, d2, d3, d4, d5, d6, d7⟩ := ring_cells NB.out
    go_wp2_with (first
      | (go_at_call 9; ((with_reducible refine Calls.mono (few_any A _) ?_); rintro e w2 ⟨rfl, hb2⟩; have NA := Lib.hid (NA.out.up hb2); have NB := Lib.hid (NB.out.up hb2); have Hb := Lib.hid (bt Hb.out hb2); clear hb2; obtain ⟨c0, c1, c2, c3, c4, c5, c6, c7⟩ := ring_cells NA.out; obtain ⟨d0, d1, d2, d3, d4, d5, d6, d7⟩ := ring_cells NB.out))
      | (go_at_call 9; ((with_reducible refine Calls.mono (few_any B _) ?_); rintro e w2 ⟨rfl, hb2⟩; have NA := Lib.hid (NA.out.up hb2); have NB := Lib.hid (NB.out.up hb2); have Hb := Lib.hid (bt Hb.out hb2); clear hb2; obtain ⟨c0, c1, c2, c3, c4, c5, c6, c7⟩ := ring_cells NA.out; obtain ⟨d0, d1, d2, d3, d4, d5, d6, d7⟩ := ring_cells NB.out)))
    go_ret
    exact ⟨rfl, Hb.out⟩
  · rcases hFB : fewB B with _ | _
    · go_enter Try.func3, Try.ntmps3
      go_wp2_with fail
      generalize hW : World.alloc _ _ = W
      obtain ⟨NW, NA, NB, hb⟩ := turn_world (a := withL A B no a len cap) (b := A.L) (c := B.L) hW
      clear hW NW
      generalize w.heap.size + 1 + 1 = m2 at NB ⊢
      generalize w.heap.size + 1 = m1 at NA ⊢
      refine (Hsh.out _).mono ?_; rintro e w1 ⟨rfl, hb1⟩
      have NA := Lib.hid (NA.up hb1)
      have NB := Lib.hid (NB.up hb1)
      have Hb := Lib.hid (bt hb hb1)
      clear hb hb1
      obtain ⟨c0, c1, c2, c3, c4, c5, c6, c7⟩ := ring_cells NA.out
      obtain ⟨d0, d1, d2, d3, d4, d5, d6, d7⟩ := ring_cells NB.out
      go_wp2_with (first
        | (go_at_call 9; ((with_reducible refine Calls.mono (few_any A _) ?_); rintro e w2 ⟨rfl, hb2⟩; have NA := Lib.hid (NA.out.up hb2); have NB := Lib.hid (NB.out.up hb2); have Hb := Lib.hid (bt Hb.out hb2); clear hb2; obtain ⟨c0, c1, c2, c3, c4, c5, c6, c7⟩ := ring_cells NA.out; obtain ⟨d0, d1, d2, d3, d4, d5, d6, d7⟩ := ring_cells NB.out))
        | (go_at_call 9; ((with_reducible refine Calls.mono (few_any B _) ?_); rintro e w2 ⟨rfl, hb2⟩; have NA := Lib.hid (NA.out.up hb2); have NB := Lib.hid (NB.out.up hb2); have Hb := Lib.hid (bt Hb.out hb2); clear hb2; obtain ⟨c0, c1, c2, c3, c4, c5, c6, c7⟩ := ring_cells NA.out; obtain ⟨d0, d1, d2, d3, d4, d5, d6, d7⟩ := ring_cells NB.out)))
      go_ret
      exact ⟨rfl, Hb.out⟩
    · by_cases h100 : 100 < len
      · have hd : decide ((100 : Int) < len) = true := by simp; omega
        go_enter Try.func3, Try.ntmps3
        go_wp2_with fail
        generalize hW : World.alloc _ _ = W
        obtain ⟨NW, NA, NB, hb⟩ := turn_world (a := withL A B no a len cap) (b := A.L) (c := B.L) hW
        clear hW NW
        generalize w.heap.size + 1 + 1 = m2 at NB ⊢
        generalize w.heap.size + 1 = m1 at NA ⊢
        refine (Hsh.out _).mono ?_; rintro e w1 ⟨rfl, hb1⟩
        have NA := Lib.hid (NA.up hb1)
        have NB := Lib.hid (NB.up hb1)
        have Hb := Lib.hid (bt hb hb1)
        clear hb hb1
        obtain ⟨c0, c1, c2, c3, c4, c5, c6, c7⟩ := ring_cells NA.out
        obtain ⟨d0, d1, d2, d3, d4, d5, d6, d7⟩ := ring_cells NB.out
        go_wp2_with (first
          | (go_at_call 9; ((with_reducible refine Calls.mono (few_any A _) ?_); rintro e w2 ⟨rfl, hb2⟩; have NA := Lib.hid (NA.out.up hb2); have NB := Lib.hid (NB.out.up hb2); have Hb := Lib.hid (bt Hb.out hb2); clear hb2; obtain ⟨c0, c1, c2, c3, c4, c5, c6, c7⟩ := ring_cells NA.out; obtain ⟨d0, d1, d2, d3, d4, d5, d6, d7⟩ := ring_cells NB.out))
          | (go_at_call 9; ((with_reducible refine Calls.mono (few_any B _) ?_); rintro e w2 ⟨rfl, hb2⟩; have NA := Lib.hid (NA.out.up hb2); have NB := Lib.hid (NB.out.up hb2); have Hb := Lib.hid (bt Hb.out hb2); clear hb2; obtain ⟨c0, c1, c2, c3, c4, c5, c6, c7⟩ := ring_cells NA.out; obtain ⟨d0, d1, d2, d3, d4, d5, d6, d7⟩ := ring_cells NB.out)))
        go_ret
        exact ⟨rfl, Hb.out⟩
      · have hd : decide ((100 : Int) < len) = false := by simp; omega
        obtain ⟨X, x, hX⟩ : ∃ X x, newF ⟨0, a, len, cap⟩ = (X, x) := ⟨_, _, rfl⟩
        have SX := Lib.hid (self_of (by have := new_at (g := ⟨0, a, len, cap⟩) Hlen.out Hl.out; rwa [hX] at this) : Self w X)
        have PX := Lib.hid (show ∀ w, Calls Try.prog 10 #[.slice a len cap] w fun e w' => e = .returned (.tuple #[X.v, .int .i64 x]) ∧ Below w.heap.size w w' from fun w => by have := new_any ⟨0, a, len, cap⟩ w; rwa [hX] at this)
        have QX := Lib.hid (show ∀ w, Calls Try.prog 11 #[.slice a len cap] w fun e w' => e = .returned (.tuple #[X.v, .int .i64 x]) ∧ Below w.heap.size w w' from fun w => by have := refNew_any ⟨0, a, len, cap⟩ w; rwa [hX] at this)
        obtain ⟨v, hv⟩ : ∃ v, sameB A B kc ko kp jc jo jp = v := ⟨_, rfl⟩
        have PV := Lib.hid (show ∀ W, Below w.heap.size w W → Calls Try.prog 15 #[A.v, B.v] W fun e w' => e = .returned (.bool v) ∧ Below W.heap.size W w' from fun W hb => by have := Hsame.out A B kc ko kp jc jo jp W (HA.out.mono hb) (HB.out.mono hb); rwa [hv] at this)
        have QV := Lib.hid (show ∀ W, Below w.heap.size w W → Calls Try.prog 13 #[A.v, B.v] W fun e w' => e = .returned (.bool v) ∧ Below W.heap.size W w' from fun W hb => by have := refSame_any A B kc ko kp jc jo jp W (HA.out.mono hb) (HB.out.mono hb); rwa [hv] at this)
        obtain ⟨u, hu⟩ : ∃ u, rightB A.c A.o A.p A.l A.t = u := ⟨_, rfl⟩
        have PR := Lib.hid (show ∀ W, Calls Try.prog 14 #[A.v] W fun e w' => e = .returned (.bool u) ∧ Below W.heap.size W w' from fun W => by have := right_any A.c A.o A.p A.l A.t W; rwa [hu] at this)
        have QR := Lib.hid (show ∀ W, Calls Try.prog 12 #[A.v] W fun e w' => e = .returned (.bool u) ∧ Below W.heap.size W w' from fun W => by have := refRight_any A.c A.o A.p A.l A.t W; rwa [hu] at this)
        obtain ⟨⟨n, g⟩, hn⟩ : ∃ ng, nextF A = ng := ⟨_, rfl⟩
        have PN := Lib.hid (show u = true → ∀ W, Calls Try.prog 16 #[A.v] W fun e w' => e = .returned (.tuple #[.int .i64 n, .int .i64 g]) ∧ Below W.heap.size W w' from fun h W => by have hf := right_facts (hu.trans h); have := next_any A W hf.2.2.1 hf.2.2.2.1; rwa [hn] at this)
        have QN := Lib.hid (show u = true → ∀ W, Calls Try.prog 17 #[A.v] W fun e w' => e = .returned (.tuple #[.int .i64 n, .int .i64 g]) ∧ Below W.heap.size W w' from fun h W => by have hf := right_facts (hu.trans h); have := refNext_any A W hf.2.2.1 hf.2.2.2.1; rwa [hn] at this)
        obtain ⟨⟨f, b⟩, hf⟩ : ∃ fb, findF A no = fb := ⟨_, rfl⟩
        have PF := Lib.hid (show ∀ W, Calls Try.prog 18 #[A.v, .int .i64 no] W fun e w' => e = .returned (.tuple #[.slice f.a f.len f.cap, .bool b]) ∧ Below W.heap.size W w' from fun W => by have := find_any A no W; rwa [hf] at this)
        have QF := Lib.hid (show ∀ W, Calls Try.prog 19 #[A.v, .int .i64 no] W fun e w' => e = .returned (.tuple #[.slice f.a f.len f.cap, .bool b]) ∧ Below W.heap.size W w' from fun W => by have := refFind_any A no W; rwa [hf] at this)
        obtain ⟨lf, hlf, haf⟩ := find_at (no := no) HA.out
        rw [hf] at hlf haf
        have PS := Lib.hid (show ∀ W, Below w.heap.size w W → Calls Try.prog 20 #[.slice f.a f.len f.cap, .slice f.a f.len f.cap] W fun e w' => e = .returned (.bool true) ∧ W = w' from fun W hb => by have := same01_any f.a f.a f.len f.cap f.len f.cap lf lf W hlf hlf (haf.mono hb) (haf.mono hb); rwa [beq_self_eq_true] at this)
        clear hX hv hu hn hf hlf haf Hsame Hlen Hl
        go_enter Try.func3, Try.ntmps3
        go_wp2_with fail
        generalize hW : World.alloc _ _ = W
        obtain ⟨NW, NA, NB, hb⟩ := turn_world (a := withL A B no a len cap) (b := A.L) (c := B.L) hW
        clear hW NW
        generalize w.heap.size + 1 + 1 = m2 at NB ⊢
        generalize w.heap.size + 1 = m1 at NA ⊢
        refine (Hsh.out _).mono ?_; rintro e w1 ⟨rfl, hb1⟩
        have NA := Lib.hid (NA.up hb1)
        have NB := Lib.hid (NB.up hb1)
        have Hb := Lib.hid (bt hb hb1)
        clear hb hb1
        obtain ⟨c0, c1, c2, c3, c4, c5, c6, c7⟩ := ring_cells NA.out
        obtain ⟨d0, d1, d2, d3, d4, d5, d6, d7⟩ := ring_cells NB.out
        go_wp2_with (first
          | (go_at_call 9; ((with_reducible refine Calls.mono (few_any A _) ?_); rintro e w2 ⟨rfl, hb2⟩; have NA := Lib.hid (NA.out.up hb2); have NB := Lib.hid (NB.out.up hb2); have Hb := Lib.hid (bt Hb.out hb2); clear hb2; obtain ⟨c0, c1, c2, c3, c4, c5, c6, c7⟩ := ring_cells NA.out; obtain ⟨d0, d1, d2, d3, d4, d5, d6, d7⟩ := ring_cells NB.out))
          | (go_at_call 9; ((with_reducible refine Calls.mono (few_any B _) ?_); rintro e w2 ⟨rfl, hb2⟩; have NA := Lib.hid (NA.out.up hb2); have NB := Lib.hid (NB.out.up hb2); have Hb := Lib.hid (bt Hb.out hb2); clear hb2; obtain ⟨c0, c1, c2, c3, c4, c5, c6, c7⟩ := ring_cells NA.out; obtain ⟨d0, d1, d2, d3, d4, d5, d6, d7⟩ := ring_cells NB.out)))
        clear c0 c1 c2 c3 c4 c5 c6 c7 d0 d1 d2 d3 d4 d5 d6 d7
        have NA := Lib.hid NA.out
        refine (PX.out _).mono ?_; rintro e w4 ⟨rfl, hb4⟩
        have NA := Lib.hid ((NA.out.up hb4).alloc (.cells X.L.toArray 26))
        have NB := Lib.hid ((NB.out.up hb4).alloc (.cells X.L.toArray 26))
        have N4 := Lib.hid (Blk.new w4 X.L 26)
        have Hb := Lib.hid (bt (bt Hb.out hb4) (ba w4 (.cells X.L.toArray 26)))
        clear hb4
        go_wp2_with fail
        refine (QX.out _).mono ?_; rintro e w5 ⟨rfl, hb5⟩
        have NA := Lib.hid ((NA.out.up hb5).alloc (.cells X.L.toArray 26))
        have NB := Lib.hid ((NB.out.up hb5).alloc (.cells X.L.toArray 26))
        have N4 := Lib.hid ((N4.out.up hb5).alloc (.cells X.L.toArray 26))
        have N5 := Lib.hid (Blk.new w5 X.L 26)
        have Hb := Lib.hid (bt (bt Hb.out hb5) (ba w5 (.cells X.L.toArray 26)))
        clear hb5
        obtain ⟨c0, c1, c2, c3, c4, c5, c6, c7⟩ := ring_cells NA.out
        go_wp2_with fail
        refine (QR.out _).mono ?_; rintro e w6 ⟨rfl, hb6⟩
        clear c0 c1 c2 c3 c4 c5 c6 c7
        have NA := Lib.hid (NA.out.up hb6)
        have NB := Lib.hid (NB.out.up hb6)
        have N4 := Lib.hid (N4.out.up hb6)
        have N5 := Lib.hid (N5.out.up hb6)
        have Hb := Lib.hid (bt Hb.out hb6)
        clear hb6
        generalize w4.heap.size = n4 at N4 ⊢
        generalize w5.heap.size = n5 at N5 ⊢
        have KS := Lib.hid (show ∀ w', Below w6.heap.size w6 w' → (Below w6.heap.size w6 w' ∧ w'.cell? ⟨m1, 0, none⟩ = some (.int .i64 A.c.no) ∧ w'.cell? ⟨m1, 1, none⟩ = some (.slice A.c.a A.c.len A.c.cap) ∧ w'.cell? ⟨m1, 2, none⟩ = some (.int .i64 A.o.no) ∧ w'.cell? ⟨m1, 3, none⟩ = some (.slice A.o.a A.o.len A.o.cap) ∧ w'.cell? ⟨m1, 4, none⟩ = some (.int .i64 A.p.no) ∧ w'.cell? ⟨m1, 5, none⟩ = some (.slice A.p.a A.p.len A.p.cap) ∧ w'.cell? ⟨m1, 6, none⟩ = some (.int .i64 A.l) ∧ w'.cell? ⟨m1, 7, none⟩ = some (.int .i64 A.t) ∧ w'.cell? ⟨m2, 0, none⟩ = some (.int .i64 B.c.no) ∧ w'.cell? ⟨m2, 1, none⟩ = some (.slice B.c.a B.c.len B.c.cap) ∧ w'.cell? ⟨m2, 2, none⟩ = some (.int .i64 B.o.no) ∧ w'.cell? ⟨m2, 3, none⟩ = some (.slice B.o.a B.o.len B.o.cap) ∧ w'.cell? ⟨m2, 4, none⟩ = some (.int .i64 B.p.no) ∧ w'.cell? ⟨m2, 5, none⟩ = some (.slice B.p.a B.p.len B.p.cap) ∧ w'.cell? ⟨m2, 6, none⟩ = some (.int .i64 B.l) ∧ w'.cell? ⟨m2, 7, none⟩ = some (.int .i64 B.t) ∧ w'.cell? ⟨n4, 0, none⟩ = some (.int .i64 X.c.no) ∧ w'.cell? ⟨n4, 1, none⟩ = some (.slice X.c.a X.c.len X.c.cap) ∧ w'.cell? ⟨n4, 2, none⟩ = some (.int .i64 X.o.no) ∧ w'.cell? ⟨n4, 3, none⟩ = some (.slice X.o.a X.o.len X.o.cap) ∧ w'.cell? ⟨n4, 4, none⟩ = some (.int .i64 X.p.no) ∧ w'.cell? ⟨n4, 5, none⟩ = some (.slice X.p.a X.p.len X.p.cap) ∧ w'.cell? ⟨n4, 6, none⟩ = some (.int .i64 X.l) ∧ w'.cell? ⟨n4, 7, none⟩ = some (.int .i64 X.t) ∧ w'.cell? ⟨n5, 0, none⟩ = some (.int .i64 X.c.no) ∧ w'.cell? ⟨n5, 1, none⟩ = some (.slice X.c.a X.c.len X.c.cap) ∧ w'.cell? ⟨n5, 2, none⟩ = some (.int .i64 X.o.no) ∧ w'.cell? ⟨n5, 3, none⟩ = some (.slice X.o.a X.o.len X.o.cap) ∧ w'.cell? ⟨n5, 4, none⟩ = some (.int .i64 X.p.no) ∧ w'.cell? ⟨n5, 5, none⟩ = some (.slice X.p.a X.p.len X.p.cap) ∧ w'.cell? ⟨n5, 6, none⟩ = some (.int .i64 X.l) ∧ w'.cell? ⟨n5, 7, none⟩ = some (.int .i64 X.t)) from fun w' hb => by
          obtain ⟨c0, c1, c2, c3, c4, c5, c6, c7⟩ := ring_cells (NA.out.up hb)
          obtain ⟨d0, d1, d2, d3, d4, d5, d6, d7⟩ := ring_cells (NB.out.up hb)
          obtain ⟨e0, e1, e2, e3, e4, e5, e6, e7⟩ := ring_cells (N4.out.up hb)
          obtain ⟨f0, f1, f2, f3, f4, f5, f6, f7⟩ := ring_cells (N5.out.up hb)
          exact ⟨hb, c0, c1, c2, c3, c4, c5, c6, c7, d0, d1, d2, d3, d4, d5, d6, d7, e0, e1, e2, e3, e4, e5, e6, e7, f0, f1, f2, f3, f4, f5, f6, f7⟩)
        obtain ⟨hS0, c0, c1, c2, c3, c4, c5, c6, c7, d0, d1, d2, d3, d4, d5, d6, d7, e0, e1, e2, e3, e4, e5, e6, e7, f0, f1, f2, f3, f4, f5, f6, f7⟩ := KS.out w6 (Below.refl _ _)
        rcases v with _ | _
        all_goals
          rcases u with _ | _
          all_goals
            go_wp2_with fail
            go_region_held3 (fun w' => Below w6.heap.size w6 w' ∧ w'.cell? ⟨m1, 0, none⟩ = some (.int .i64 A.c.no) ∧ w'.cell? ⟨m1, 1, none⟩ = some (.slice A.c.a A.c.len A.c.cap) ∧ w'.cell? ⟨m1, 2, none⟩ = some (.int .i64 A.o.no) ∧ w'.cell? ⟨m1, 3, none⟩ = some (.slice A.o.a A.o.len A.o.cap) ∧ w'.cell? ⟨m1, 4, none⟩ = some (.int .i64 A.p.no) ∧ w'.cell? ⟨m1, 5, none⟩ = some (.slice A.p.a A.p.len A.p.cap) ∧ w'.cell? ⟨m1, 6, none⟩ = some (.int .i64 A.l) ∧ w'.cell? ⟨m1, 7, none⟩ = some (.int .i64 A.t) ∧ w'.cell? ⟨m2, 0, none⟩ = some (.int .i64 B.c.no) ∧ w'.cell? ⟨m2, 1, none⟩ = some (.slice B.c.a B.c.len B.c.cap) ∧ w'.cell? ⟨m2, 2, none⟩ = some (.int .i64 B.o.no) ∧ w'.cell? ⟨m2, 3, none⟩ = some (.slice B.o.a B.o.len B.o.cap) ∧ w'.cell? ⟨m2, 4, none⟩ = some (.int .i64 B.p.no) ∧ w'.cell? ⟨m2, 5, none⟩ = some (.slice B.p.a B.p.len B.p.cap) ∧ w'.cell? ⟨m2, 6, none⟩ = some (.int .i64 B.l) ∧ w'.cell? ⟨m2, 7, none⟩ = some (.int .i64 B.t) ∧ w'.cell? ⟨n4, 0, none⟩ = some (.int .i64 X.c.no) ∧ w'.cell? ⟨n4, 1, none⟩ = some (.slice X.c.a X.c.len X.c.cap) ∧ w'.cell? ⟨n4, 2, none⟩ = some (.int .i64 X.o.no) ∧ w'.cell? ⟨n4, 3, none⟩ = some (.slice X.o.a X.o.len X.o.cap) ∧ w'.cell? ⟨n4, 4, none⟩ = some (.int .i64 X.p.no) ∧ w'.cell? ⟨n4, 5, none⟩ = some (.slice X.p.a X.p.len X.p.cap) ∧ w'.cell? ⟨n4, 6, none⟩ = some (.int .i64 X.l) ∧ w'.cell? ⟨n4, 7, none⟩ = some (.int .i64 X.t) ∧ w'.cell? ⟨n5, 0, none⟩ = some (.int .i64 X.c.no) ∧ w'.cell? ⟨n5, 1, none⟩ = some (.slice X.c.a X.c.len X.c.cap) ∧ w'.cell? ⟨n5, 2, none⟩ = some (.int .i64 X.o.no) ∧ w'.cell? ⟨n5, 3, none⟩ = some (.slice X.o.a X.o.len X.o.cap) ∧ w'.cell? ⟨n5, 4, none⟩ = some (.int .i64 X.p.no) ∧ w'.cell? ⟨n5, 5, none⟩ = some (.slice X.p.a X.p.len X.p.cap) ∧ w'.cell? ⟨n5, 6, none⟩ = some (.int .i64 X.l) ∧ w'.cell? ⟨n5, 7, none⟩ = some (.int .i64 X.t))
              (first
                | (go_split_ands; exact KS.out _ (bt (by assumption) hc1))
                | (go_split_ands; exact KS.out _ (bt (by assumption) hc2))
                | (go_split_ands; exact KS.out _ (bt (by assumption) hc3))
                | (go_split_ands; exact KS.out _ (bt (by assumption) hc4))
                | (exact KS.out _ (bd _))
                | (go_split_ands; exact KS.out _ (by assumption))
                | go_keep)
              (first
                | (go_at_call 13; go_split_ands; (with_reducible refine Calls.mono (SX.out _ (bt Hb.out (by assumption))) ?_); rintro e x1 ⟨rfl, hc1⟩)
                | (go_at_call 14; go_split_ands; (with_reducible refine Calls.mono (PR.out _) ?_); rintro e x2 ⟨rfl, hc2⟩)
                | (go_at_call 15; go_split_ands; (with_reducible refine Calls.mono (PV.out _ (bt Hb.out (by assumption))) ?_); rintro e x3 ⟨rfl, hc3⟩)
                | (go_at_call 13; go_split_ands; (with_reducible refine Calls.mono (QV.out _ (bt Hb.out (by assumption))) ?_); rintro e x4 ⟨rfl, hc4⟩))
            go_split_ands
            go_wp2_with (first
              | (go_at_call 16; go_must ((with_reducible refine Calls.mono (PN.out trivial _) ?_); rintro e y1 ⟨rfl, hd1⟩; obtain ⟨hk1, c0, c1, c2, c3, c4, c5, c6, c7, -⟩ := KS.out _ (bt (by assumption) hd1)))
              | (go_at_call 17; go_must ((with_reducible refine Calls.mono (QN.out trivial _) ?_); rintro e y2 ⟨rfl, hd2⟩; obtain ⟨hk2, c0, c1, c2, c3, c4, c5, c6, c7, -⟩ := KS.out _ (bt hk1 hd2)))
              | (go_at_call 18; go_must ((with_reducible refine Calls.mono (PF.out _) ?_); rintro e y3 ⟨rfl, hd3⟩; obtain ⟨hk3, c0, c1, c2, c3, c4, c5, c6, c7, -⟩ := KS.out _ (bt hk2 hd3)))
              | (go_at_call 19; go_must ((with_reducible refine Calls.mono (QF.out _) ?_); rintro e y4 ⟨rfl, hd4⟩; obtain ⟨hk4, c0, c1, c2, c3, c4, c5, c6, c7, -⟩ := KS.out _ (bt hk3 hd4)))
              | (go_at_call 20; go_must ((with_reducible refine Calls.mono (PS.out _ (bt Hb.out hk4)) ?_); rintro e y5 ⟨rfl, rfl⟩)))
            go_ret
            first
              | exact ⟨rfl, bt Hb.out hk4⟩
              | exact ⟨rfl, bt Hb.out (by assumption)⟩
end Go.Proofs.Ytelndpphbpandaa
