/- The walk of the law RingOne where the offer is refused. -/
import Derived.Test.YtelndpphbpandaaRingV
import Derived.Test.YtelndpphbpandaaRingH
set_option linter.unusedSimpArgs false
set_option linter.unusedVariables false
namespace Go.Proofs.Ytelndpphbpandaa
open Go.RowKit

abbrev oneL (r : Rg) (no : Int) (fa fb : UInt8) : List Value := [.int .i64 r.c.no, .slice r.c.a r.c.len r.c.cap, .int .i64 r.o.no, .slice r.o.a r.o.len r.o.cap, .int .i64 r.p.no, .slice r.p.a r.p.len r.p.cap, .int .i64 r.l, .int .i64 r.t, .int .i64 no, .int .u8 (bv fa), .int .u8 (bv fb)]

set_option maxRecDepth 100000 in
set_option maxHeartbeats 4000000 in
theorem ringOne_none (hsh : Shown11OK) (r : Rg) (no : Int) (fa fb : UInt8) (w : World) (h : fewB r = false ∨ fewB r = true ∧ rightB r.c r.o r.p r.l r.t = false) :
    Calls Try.prog 6 #[.agg (oneL r no fa fb).toArray] w (BoolOut w true) := by
  have Hsh := Lib.hid hsh
  clear hsh
  rcases h with hF | ⟨hF, hR⟩
  · go_enter Try.func6, Try.ntmps6
    go_wp2_with fail
    generalize hW : World.alloc _ _ = W
    obtain ⟨-, NA, hb⟩ := ring2_world (a := oneL r no fa fb) (b := r.L) hW
    clear hW
    generalize w.heap.size + 1 = m1 at NA ⊢
    refine (Hsh.out _).mono ?_; rintro e w1 ⟨rfl, hb1⟩
    have HB1 := Lib.hid (NA.up hb1)
    have Hb := Lib.hid (bt hb hb1)
    clear hb hb1
    obtain ⟨c0, c1, c2, c3, c4, c5, c6, c7⟩ := ring_cells HB1.out
    go_wp2_with (go_at_call 9; refine (few_any r _).mono ?_; rintro e w2 ⟨rfl, hb2⟩; have HB1 := Lib.hid (HB1.out.up hb2); have Hb := Lib.hid (bt Hb.out hb2); clear hb2; obtain ⟨c0, c1, c2, c3, c4, c5, c6, c7⟩ := ring_cells HB1.out)
    go_ret
    exact ⟨rfl, Hb.out⟩
  · go_enter Try.func6, Try.ntmps6
    go_wp2_with fail
    generalize hW : World.alloc _ _ = W
    obtain ⟨-, NA, hb⟩ := ring2_world (a := oneL r no fa fb) (b := r.L) hW
    clear hW
    generalize w.heap.size + 1 = m1 at NA ⊢
    refine (Hsh.out _).mono ?_; rintro e w1 ⟨rfl, hb1⟩
    have HB1 := Lib.hid (NA.up hb1)
    have Hb := Lib.hid (bt hb hb1)
    clear hb hb1
    obtain ⟨c0, c1, c2, c3, c4, c5, c6, c7⟩ := ring_cells HB1.out
    go_wp2_with (first
      | (go_at_call 9; refine (few_any r _).mono ?_; rintro e w2 ⟨rfl, hb2⟩; have HB1 := Lib.hid (HB1.out.up hb2); have Hb := Lib.hid (bt Hb.out hb2); clear hb2; obtain ⟨c0, c1, c2, c3, c4, c5, c6, c7⟩ := ring_cells HB1.out)
      | (go_at_call 12; refine (refRight_any r.c r.o r.p r.l r.t _).mono ?_; rintro e w2 ⟨rfl, hb2⟩; have HB1 := Lib.hid (HB1.out.up hb2); have Hb := Lib.hid (bt Hb.out hb2); clear hb2; obtain ⟨c0, c1, c2, c3, c4, c5, c6, c7⟩ := ring_cells HB1.out))
    go_ret
    exact ⟨rfl, Hb.out⟩

set_option maxRecDepth 100000 in
set_option maxHeartbeats 8000000 in
theorem ringOne_no (hsh : Shown11OK) (r : Rg) (no E : Int) (fa fb : UInt8) (kc ko kp : List UInt8) (w : World) (hr : RgAt w r kc ko kp) (hF : fewB r = true) (hR : rightB r.c r.o r.p r.l r.t = true) (hE : E ≠ 0) (hv : (E == 1) = (decide (no < 1) || decide (2147483647 < no)))
    (HO : ∀ (b : Option Addr) W, Calls Try.prog 21 #[r.v, .int .i64 no, .slice b 32 32] W fun e w' => e = .returned (.tuple #[r.v, .int .i64 E]) ∧ Below W.heap.size W w') :
    Calls Try.prog 6 #[.agg (oneL r no fa fb).toArray] w (BoolOut w true) := by
  have Hsh := Lib.hid hsh
  have HKa := Lib.hid (fun W => key_any fa W)
  have HKb := Lib.hid (fun W => key_any fb W)
  clear hsh
  have HO := Lib.hid HO
  have SR := Lib.hid (self_of ⟨_, _, _, hr⟩ : Self w r)
  have hE2 : (E != 0) = true := by simpa [bne] using hE
  have hE3 : (E == 0) = false := by simpa using hE
  clear hr hE
  go_enter Try.func6, Try.ntmps6
  go_wp2_with fail
  generalize hW : World.alloc _ _ = W
  obtain ⟨-, NA, hb⟩ := ring2_world (a := oneL r no fa fb) (b := r.L) hW
  clear hW
  generalize w.heap.size + 1 = m1 at NA ⊢
  refine (Hsh.out _).mono ?_; rintro e w1 ⟨rfl, hb1⟩
  have HB1 := Lib.hid (NA.up hb1)
  have Hb := Lib.hid (bt hb hb1)
  clear hb hb1
  obtain ⟨c0, c1, c2, c3, c4, c5, c6, c7⟩ := ring_cells HB1.out
  go_wp2_with (first
    | (go_at_call 9; refine (few_any r _).mono ?_; rintro e w2 ⟨rfl, hb2⟩; have HB1 := Lib.hid (HB1.out.up hb2); have Hb := Lib.hid (bt Hb.out hb2); clear hb2; obtain ⟨c0, c1, c2, c3, c4, c5, c6, c7⟩ := ring_cells HB1.out)
    | (go_at_call 12; refine (refRight_any r.c r.o r.p r.l r.t _).mono ?_; rintro e w2 ⟨rfl, hb2⟩; have HB1 := Lib.hid (HB1.out.up hb2); have Hb := Lib.hid (bt Hb.out hb2); clear hb2; obtain ⟨c0, c1, c2, c3, c4, c5, c6, c7⟩ := ring_cells HB1.out))
  clear c0 c1 c2 c3 c4 c5 c6 c7
  go_cut [8, 9] (fun v8 v9 wx => ∃ b8 b2 : Nat, v8 = .pointer (some ⟨b8, 0, none⟩) ∧ v9 = .int .i64 E ∧ Blk wx b8 r.L ∧ Blk wx b2 (B8s (List.replicate 32 fa)) ∧ Below w2.heap.size w2 wx)
  case first =>
    have KS := Lib.hid (show ∀ w', Below w2.heap.size w2 w' → (Below w2.heap.size w2 w' ∧ w'.cell? ⟨m1, 0, none⟩ = some (.int .i64 r.c.no) ∧ w'.cell? ⟨m1, 1, none⟩ = some (.slice r.c.a r.c.len r.c.cap) ∧ w'.cell? ⟨m1, 2, none⟩ = some (.int .i64 r.o.no) ∧ w'.cell? ⟨m1, 3, none⟩ = some (.slice r.o.a r.o.len r.o.cap) ∧ w'.cell? ⟨m1, 4, none⟩ = some (.int .i64 r.p.no) ∧ w'.cell? ⟨m1, 5, none⟩ = some (.slice r.p.a r.p.len r.p.cap) ∧ w'.cell? ⟨m1, 6, none⟩ = some (.int .i64 r.l) ∧ w'.cell? ⟨m1, 7, none⟩ = some (.int .i64 r.t)) from fun w' hb => by
      obtain ⟨c0, c1, c2, c3, c4, c5, c6, c7⟩ := cells8 (HB1.out.up hb)
      exact ⟨hb, c0, c1, c2, c3, c4, c5, c6, c7⟩)
    obtain ⟨hS0, c0, c1, c2, c3, c4, c5, c6, c7⟩ := KS.out w2 (Below.refl _ _)
    go_region_held3 (fun w' => Below w2.heap.size w2 w' ∧ w'.cell? ⟨m1, 0, none⟩ = some (.int .i64 r.c.no) ∧ w'.cell? ⟨m1, 1, none⟩ = some (.slice r.c.a r.c.len r.c.cap) ∧ w'.cell? ⟨m1, 2, none⟩ = some (.int .i64 r.o.no) ∧ w'.cell? ⟨m1, 3, none⟩ = some (.slice r.o.a r.o.len r.o.cap) ∧ w'.cell? ⟨m1, 4, none⟩ = some (.int .i64 r.p.no) ∧ w'.cell? ⟨m1, 5, none⟩ = some (.slice r.p.a r.p.len r.p.cap) ∧ w'.cell? ⟨m1, 6, none⟩ = some (.int .i64 r.l) ∧ w'.cell? ⟨m1, 7, none⟩ = some (.int .i64 r.t))
      (first
        | (apply KS.out; (with_reducible ((try apply bta); (try (apply rset8_below; rotate_left; first | apply Nat.le_refl | exact hw4)); (try apply bta); (try apply bt3 hb5); (try apply bta); (try apply bt3 hb4); (try apply bta); (first | apply Below.refl | (apply btd; (try apply bta); apply Below.refl)))))
        | fail)
      (first
        | (go_at_call 29; go_split_ands; ((with_reducible refine Calls.mono (HKa.out _) ?_); rintro e w4 ⟨b2, rfl, kK, lb2, hb4⟩; have lk2 := kK.lt; have hw4 : w2.heap.size ≤ w4.heap.size := (by have := hb4.size; first | omega | (simp at this; omega)); (try ((with_reducible have z1 := Blk.up (Blk.new _ R0.L _) hb4); have fz1 := z1.frozen; have lz1 := z1.lt; obtain ⟨x0, x1, x2, x3, x4, x5, x6, x7⟩ := cells8 z1)); (try ((with_reducible have z1 := Blk.up (Blk.new _ R0.L _).drew hb4); have fz1 := z1.frozen; have lz1 := z1.lt; obtain ⟨x0, x1, x2, x3, x4, x5, x6, x7⟩ := cells8 z1))))
        | (go_at_call 21; go_split_ands; ((with_reducible refine Calls.mono (HO.out _ _) ?_); rintro e w5 ⟨rfl, hb5⟩; first | (with_reducible have kK := Blk.upR hb5 kK) | (with_reducible have kK := Blk.upR hb5 (kK.alloc _))); skip; (try ((with_reducible have z1 := Blk.upR hb5 z1); have fz1 := z1.frozen; have lz1 := z1.lt; obtain ⟨x0, x1, x2, x3, x4, x5, x6, x7⟩ := cells8 z1)); (try ((with_reducible have z1 := Blk.upR hb5 (z1.alloc _)); have fz1 := z1.frozen; have lz1 := z1.lt; obtain ⟨x0, x1, x2, x3, x4, x5, x6, x7⟩ := cells8 z1)); (try ((with_reducible have z1 := Blk.up (Blk.new _ R0.L _) hb5); have fz1 := z1.frozen; have lz1 := z1.lt; obtain ⟨x0, x1, x2, x3, x4, x5, x6, x7⟩ := cells8 z1)); (try ((with_reducible have z1 := Blk.up (Blk.new _ R0.L _).drew hb5); have fz1 := z1.frozen; have lz1 := z1.lt; obtain ⟨x0, x1, x2, x3, x4, x5, x6, x7⟩ := cells8 z1))))
    all_goals
      go_split_ands
      go_wp2_with fail
      go_meet
    · exact ⟨w5.heap.size, b2, rfl, rfl, Blk.new w5 r.L _, kK.alloc _, by assumption⟩
    · have z : Blk w5 w4.heap.size R0.L := z1
      exact ⟨w4.heap.size, b2, rfl, rfl, rset8 z, rset8_other kK (Nat.ne_of_lt lk2), by assumption⟩
    · have z : Blk w5 w2.heap.size R0.L := z1
      have hne : b2 ≠ w2.heap.size := by have := lb2; simp at this; omega
      exact ⟨w2.heap.size, b2, rfl, rfl, rset8 z, rset8_other kK hne, by assumption⟩
  case rest =>
    obtain ⟨b8, -, rfl, rfl, h8, -, hbc⟩ := hcut
    have HB1 := Lib.hid (HB1.out.up hbc)
    have Hb := Lib.hid (bt Hb.out hbc)
    have H8 := Lib.hid h8
    clear hbc h8
    go_wp2_with fail
    go_cut [10, 11] (fun v8 v9 wx => ∃ b8 b2 : Nat, v8 = .pointer (some ⟨b8, 0, none⟩) ∧ v9 = .int .i64 E ∧ Blk wx b8 r.L ∧ Blk wx b2 (B8s (List.replicate 32 fb)) ∧ Below wc.heap.size wc wx)
    case first =>
      have KS := Lib.hid (show ∀ w', Below wc.heap.size wc w' → (Below wc.heap.size wc w' ∧ w'.cell? ⟨b8, 0, none⟩ = some (.int .i64 r.c.no) ∧ w'.cell? ⟨b8, 1, none⟩ = some (.slice r.c.a r.c.len r.c.cap) ∧ w'.cell? ⟨b8, 2, none⟩ = some (.int .i64 r.o.no) ∧ w'.cell? ⟨b8, 3, none⟩ = some (.slice r.o.a r.o.len r.o.cap) ∧ w'.cell? ⟨b8, 4, none⟩ = some (.int .i64 r.p.no) ∧ w'.cell? ⟨b8, 5, none⟩ = some (.slice r.p.a r.p.len r.p.cap) ∧ w'.cell? ⟨b8, 6, none⟩ = some (.int .i64 r.l) ∧ w'.cell? ⟨b8, 7, none⟩ = some (.int .i64 r.t)) from fun w' hb => by
        obtain ⟨c0, c1, c2, c3, c4, c5, c6, c7⟩ := cells8 (H8.out.up hb)
        exact ⟨hb, c0, c1, c2, c3, c4, c5, c6, c7⟩)
      obtain ⟨hS0, c0, c1, c2, c3, c4, c5, c6, c7⟩ := KS.out wc (Below.refl _ _)
      go_region_held3 (fun w' => Below wc.heap.size wc w' ∧ w'.cell? ⟨b8, 0, none⟩ = some (.int .i64 r.c.no) ∧ w'.cell? ⟨b8, 1, none⟩ = some (.slice r.c.a r.c.len r.c.cap) ∧ w'.cell? ⟨b8, 2, none⟩ = some (.int .i64 r.o.no) ∧ w'.cell? ⟨b8, 3, none⟩ = some (.slice r.o.a r.o.len r.o.cap) ∧ w'.cell? ⟨b8, 4, none⟩ = some (.int .i64 r.p.no) ∧ w'.cell? ⟨b8, 5, none⟩ = some (.slice r.p.a r.p.len r.p.cap) ∧ w'.cell? ⟨b8, 6, none⟩ = some (.int .i64 r.l) ∧ w'.cell? ⟨b8, 7, none⟩ = some (.int .i64 r.t))
        (first
          | (apply KS.out; (with_reducible ((try apply bta); (try (apply rset8_below; rotate_left; first | apply Nat.le_refl | exact hw4)); (try apply bta); (try apply bt3 hb5); (try apply bta); (try apply bt3 hb4); (try apply bta); (first | apply Below.refl | (apply btd; (try apply bta); apply Below.refl)))))
          | fail)
        (first
          | (go_at_call 29; go_split_ands; ((with_reducible refine Calls.mono (HKb.out _) ?_); rintro e w4 ⟨b2, rfl, kK, lb2, hb4⟩; have lk2 := kK.lt; have hw4 : wc.heap.size ≤ w4.heap.size := (by have := hb4.size; first | omega | (simp at this; omega)); (try ((with_reducible have z1 := Blk.up (Blk.new _ R0.L _) hb4); have fz1 := z1.frozen; have lz1 := z1.lt; obtain ⟨x0, x1, x2, x3, x4, x5, x6, x7⟩ := cells8 z1)); (try ((with_reducible have z1 := Blk.up (Blk.new _ R0.L _).drew hb4); have fz1 := z1.frozen; have lz1 := z1.lt; obtain ⟨x0, x1, x2, x3, x4, x5, x6, x7⟩ := cells8 z1))))
          | (go_at_call 21; go_split_ands; ((with_reducible refine Calls.mono (HO.out _ _) ?_); rintro e w5 ⟨rfl, hb5⟩; first | (with_reducible have kK := Blk.upR hb5 kK) | (with_reducible have kK := Blk.upR hb5 (kK.alloc _))); skip; (try ((with_reducible have z1 := Blk.upR hb5 z1); have fz1 := z1.frozen; have lz1 := z1.lt; obtain ⟨x0, x1, x2, x3, x4, x5, x6, x7⟩ := cells8 z1)); (try ((with_reducible have z1 := Blk.upR hb5 (z1.alloc _)); have fz1 := z1.frozen; have lz1 := z1.lt; obtain ⟨x0, x1, x2, x3, x4, x5, x6, x7⟩ := cells8 z1)); (try ((with_reducible have z1 := Blk.up (Blk.new _ R0.L _) hb5); have fz1 := z1.frozen; have lz1 := z1.lt; obtain ⟨x0, x1, x2, x3, x4, x5, x6, x7⟩ := cells8 z1)); (try ((with_reducible have z1 := Blk.up (Blk.new _ R0.L _).drew hb5); have fz1 := z1.frozen; have lz1 := z1.lt; obtain ⟨x0, x1, x2, x3, x4, x5, x6, x7⟩ := cells8 z1))))
      all_goals
        go_split_ands
        go_wp2_with fail
        go_meet
      · exact ⟨w5.heap.size, b2, rfl, rfl, Blk.new w5 r.L _, kK.alloc _, by assumption⟩
      · have z : Blk w5 w4.heap.size R0.L := z1
        exact ⟨w4.heap.size, b2, rfl, rfl, rset8 z, rset8_other kK (Nat.ne_of_lt lk2), by assumption⟩
      · have z : Blk w5 wc.heap.size R0.L := z1
        have hne : b2 ≠ wc.heap.size := by have := lb2; simp at this; omega
        exact ⟨wc.heap.size, b2, rfl, rfl, rset8 z, rset8_other kK hne, by assumption⟩
    case rest =>
      obtain ⟨b10, -, rfl, rfl, h10, -, hbc⟩ := hcut
      have HB1 := Lib.hid (HB1.out.up hbc)
      have H8 := Lib.hid (H8.out.up hbc)
      have Hb := Lib.hid (bt Hb.out hbc)
      have H10 := Lib.hid h10
      clear hbc h10
      go_wp2_with fail
      go_cut [12, 13] (fun v8 v9 wx => ∃ b8 b2 : Nat, v8 = .pointer (some ⟨b8, 0, none⟩) ∧ v9 = .int .i64 E ∧ Blk wx b8 r.L ∧ Blk wx b2 (B8s (List.replicate 32 fb)) ∧ Below wc.heap.size wc wx)
      case first =>
        have KS := Lib.hid (show ∀ w', Below wc.heap.size wc w' → (Below wc.heap.size wc w' ∧ w'.cell? ⟨m1, 0, none⟩ = some (.int .i64 r.c.no) ∧ w'.cell? ⟨m1, 1, none⟩ = some (.slice r.c.a r.c.len r.c.cap) ∧ w'.cell? ⟨m1, 2, none⟩ = some (.int .i64 r.o.no) ∧ w'.cell? ⟨m1, 3, none⟩ = some (.slice r.o.a r.o.len r.o.cap) ∧ w'.cell? ⟨m1, 4, none⟩ = some (.int .i64 r.p.no) ∧ w'.cell? ⟨m1, 5, none⟩ = some (.slice r.p.a r.p.len r.p.cap) ∧ w'.cell? ⟨m1, 6, none⟩ = some (.int .i64 r.l) ∧ w'.cell? ⟨m1, 7, none⟩ = some (.int .i64 r.t)) from fun w' hb => by
          obtain ⟨c0, c1, c2, c3, c4, c5, c6, c7⟩ := cells8 (HB1.out.up hb)
          exact ⟨hb, c0, c1, c2, c3, c4, c5, c6, c7⟩)
        obtain ⟨hS0, c0, c1, c2, c3, c4, c5, c6, c7⟩ := KS.out wc (Below.refl _ _)
        go_region_held3 (fun w' => Below wc.heap.size wc w' ∧ w'.cell? ⟨m1, 0, none⟩ = some (.int .i64 r.c.no) ∧ w'.cell? ⟨m1, 1, none⟩ = some (.slice r.c.a r.c.len r.c.cap) ∧ w'.cell? ⟨m1, 2, none⟩ = some (.int .i64 r.o.no) ∧ w'.cell? ⟨m1, 3, none⟩ = some (.slice r.o.a r.o.len r.o.cap) ∧ w'.cell? ⟨m1, 4, none⟩ = some (.int .i64 r.p.no) ∧ w'.cell? ⟨m1, 5, none⟩ = some (.slice r.p.a r.p.len r.p.cap) ∧ w'.cell? ⟨m1, 6, none⟩ = some (.int .i64 r.l) ∧ w'.cell? ⟨m1, 7, none⟩ = some (.int .i64 r.t))
          (first
            | (apply KS.out; (with_reducible ((try apply bta); (try (apply rset8_below; rotate_left; first | apply Nat.le_refl | exact hw4)); (try apply bta); (try apply bt3 hb5); (try apply bta); (try apply bt3 hb4); (try apply bta); (first | apply Below.refl | (apply btd; (try apply bta); apply Below.refl)))))
            | fail)
          (first
            | (go_at_call 29; go_split_ands; ((with_reducible refine Calls.mono (HKb.out _) ?_); rintro e w4 ⟨b2, rfl, kK, lb2, hb4⟩; have lk2 := kK.lt; have hw4 : wc.heap.size ≤ w4.heap.size := (by have := hb4.size; first | omega | (simp at this; omega)); (try ((with_reducible have z1 := Blk.up (Blk.new _ R0.L _) hb4); have fz1 := z1.frozen; have lz1 := z1.lt; obtain ⟨x0, x1, x2, x3, x4, x5, x6, x7⟩ := cells8 z1)); (try ((with_reducible have z1 := Blk.up (Blk.new _ R0.L _).drew hb4); have fz1 := z1.frozen; have lz1 := z1.lt; obtain ⟨x0, x1, x2, x3, x4, x5, x6, x7⟩ := cells8 z1))))
            | (go_at_call 21; go_split_ands; ((with_reducible refine Calls.mono (HO.out _ _) ?_); rintro e w5 ⟨rfl, hb5⟩; first | (with_reducible have kK := Blk.upR hb5 kK) | (with_reducible have kK := Blk.upR hb5 (kK.alloc _))); skip; (try ((with_reducible have z1 := Blk.upR hb5 z1); have fz1 := z1.frozen; have lz1 := z1.lt; obtain ⟨x0, x1, x2, x3, x4, x5, x6, x7⟩ := cells8 z1)); (try ((with_reducible have z1 := Blk.upR hb5 (z1.alloc _)); have fz1 := z1.frozen; have lz1 := z1.lt; obtain ⟨x0, x1, x2, x3, x4, x5, x6, x7⟩ := cells8 z1)); (try ((with_reducible have z1 := Blk.up (Blk.new _ R0.L _) hb5); have fz1 := z1.frozen; have lz1 := z1.lt; obtain ⟨x0, x1, x2, x3, x4, x5, x6, x7⟩ := cells8 z1)); (try ((with_reducible have z1 := Blk.up (Blk.new _ R0.L _).drew hb5); have fz1 := z1.frozen; have lz1 := z1.lt; obtain ⟨x0, x1, x2, x3, x4, x5, x6, x7⟩ := cells8 z1))))
        all_goals
          go_split_ands
          go_wp2_with fail
          go_meet
        · exact ⟨w5.heap.size, b2, rfl, rfl, Blk.new w5 r.L _, kK.alloc _, by assumption⟩
        · have z : Blk w5 w4.heap.size R0.L := z1
          exact ⟨w4.heap.size, b2, rfl, rfl, rset8 z, rset8_other kK (Nat.ne_of_lt lk2), by assumption⟩
        · have z : Blk w5 wc.heap.size R0.L := z1
          have hne : b2 ≠ wc.heap.size := by have := lb2; simp at this; omega
          exact ⟨wc.heap.size, b2, rfl, rfl, rset8 z, rset8_other kK hne, by assumption⟩
      case rest =>
        obtain ⟨b12, -, rfl, rfl, -, -, hbc⟩ := hcut
        have HB1 := Lib.hid (HB1.out.up hbc)
        have H8 := Lib.hid (H8.out.up hbc)
        have H10 := Lib.hid (H10.out.up hbc)
        have Hb := Lib.hid (bt Hb.out hbc)
        clear hbc
        obtain ⟨c0, c1, c2, c3, c4, c5, c6, c7⟩ := ring_cells HB1.out
        obtain ⟨d0, d1, d2, d3, d4, d5, d6, d7⟩ := ring_cells H8.out
        rcases hn1 : decide (no < 1) with _ | _
        all_goals
          rcases hn2 : decide (2147483647 < no) with _ | _
          all_goals
            rw [hn1, hn2] at hv
            go_wp2_with (go_at_call 13; refine (SR.out _ Hb.out).mono ?_; rintro e y1 ⟨rfl, hy1⟩; have HB1 := Lib.hid (HB1.out.up hy1); have H10 := Lib.hid (H10.out.up hy1); have Hb := Lib.hid (bt Hb.out hy1); obtain ⟨c0, c1, c2, c3, c4, c5, c6, c7⟩ := ring_cells HB1.out; obtain ⟨e0, e1, e2, e3, e4, e5, e6, e7⟩ := ring_cells H10.out)
            go_ret
            exact ⟨by simp_all, Hb.out⟩
end Go.Proofs.Ytelndpphbpandaa
