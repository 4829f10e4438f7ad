/- The walk of the law RingNext. -/
import Derived.Test.YtelndpphbpandaaRingS
set_option linter.unusedSimpArgs false
set_option linter.unusedVariables false
namespace Go.Proofs.Ytelndpphbpandaa
open Go.RowKit

theorem next_facts {r : Rg} (h : rightB r.c r.o r.p r.l r.t = true) (hE : emptyB r.c r.o r.p r.l r.t = false) : 1 ≤ r.c.no ∧ r.c.no ≤ r.t ∧ r.p.no ≤ r.t ∧ r.t ≤ 2147483647 ∧ r.o.no ≤ r.c.no := by
  obtain ⟨c, o, p, l, t⟩ := r
  simp only at *
  simp only [rightB, hE, Bool.false_or, Bool.and_eq_true] at h
  obtain ⟨hc, ho, hp, ht⟩ := h
  simp [realB] at hc
  simp [topB] at ht
  refine ⟨hc.1, ht.1, ht.2.1, ht.2.2, ?_⟩
  rcases hn : noneB o with _ | _
  · simp [oldB, hn] at ho; omega
  · simp [noneB] at hn; omega
abbrev LX (r : Rg) (n : Int) (b : Option Addr) : List Value := [.int .i64 r.c.no, .slice r.c.a r.c.len r.c.cap, .int .i64 r.o.no, .slice r.o.a r.o.len r.o.cap, .int .i64 n, .slice b 32 32, .int .i64 r.l, .int .i64 n]
abbrev VX (r : Rg) (n : Int) (b : Option Addr) : Value := .agg #[.int .i64 r.c.no, .slice r.c.a r.c.len r.c.cap, .int .i64 r.o.no, .slice r.o.a r.o.len r.o.cap, .int .i64 n, .slice b 32 32, .int .i64 r.l, .int .i64 n]
abbrev LY (r : Rg) (n : Int) : List Value := [.int .i64 r.c.no, .slice r.c.a r.c.len r.c.cap, .int .i64 r.o.no, .slice r.o.a r.o.len r.o.cap, .int .i64 0, .slice none 0 0, .int .i64 r.l, .int .i64 n]
abbrev VY (r : Rg) (n : Int) : Value := .agg #[.int .i64 r.c.no, .slice r.c.a r.c.len r.c.cap, .int .i64 r.o.no, .slice r.o.a r.o.len r.o.cap, .int .i64 0, .slice none 0 0, .int .i64 r.l, .int .i64 n]

set_option maxRecDepth 100000 in
set_option maxHeartbeats 8000000 in
theorem ringNext_any (hsh : Shown11OK) (r : Rg) (fill : UInt8) (w : World) :
    Calls Try.prog 7 #[r.v, .int .u8 (bv fill)] w (BoolOut w true) := by
  have Hsh := Lib.hid hsh
  have HB0 := Lib.hid (Blk.new w r.L 26)
  clear hsh
  rcases hF : fewB r with _ | _
  · go_enter Try.func7, Try.ntmps7
    go_wp2_with fail
    refine (Hsh.out _).mono ?_; rintro e w1 ⟨rfl, hb1⟩
    have HB1 := Lib.hid (HB0.out.up hb1)
    have Hb := Lib.hid (bt (ba w _) hb1)
    clear hb1
    obtain ⟨c0, c1, c2, c3, c4, c5, c6, c7⟩ := ring_cells HB1.out
    go_wp2_with (go_at_call 9; refine (few_any r _).mono ?_; rintro e w2 ⟨rfl, hb2⟩; have HB1 := Lib.hid (HB1.out.up hb2); have Hb := Lib.hid (bt Hb.out hb2); clear hb2; obtain ⟨c0, c1, c2, c3, c4, c5, c6, c7⟩ := ring_cells HB1.out)
    go_ret
    exact ⟨rfl, Hb.out⟩
  · rcases hR : rightB r.c r.o r.p r.l r.t with _ | _
    · go_enter Try.func7, Try.ntmps7
      go_wp2_with fail
      refine (Hsh.out _).mono ?_; rintro e w1 ⟨rfl, hb1⟩
      have HB1 := Lib.hid (HB0.out.up hb1)
      have Hb := Lib.hid (bt (ba w _) hb1)
      clear hb1
      obtain ⟨c0, c1, c2, c3, c4, c5, c6, c7⟩ := ring_cells HB1.out
      go_wp2_with (first
        | (go_at_call 9; refine (few_any r _).mono ?_; rintro e w2 ⟨rfl, hb2⟩; have HB1 := Lib.hid (HB1.out.up hb2); have Hb := Lib.hid (bt Hb.out hb2); clear hb2; obtain ⟨c0, c1, c2, c3, c4, c5, c6, c7⟩ := ring_cells HB1.out)
        | (go_at_call 12; refine (refRight_any r.c r.o r.p r.l r.t _).mono ?_; rintro e w2 ⟨rfl, hb2⟩; have HB1 := Lib.hid (HB1.out.up hb2); have Hb := Lib.hid (bt Hb.out hb2); clear hb2; obtain ⟨c0, c1, c2, c3, c4, c5, c6, c7⟩ := ring_cells HB1.out))
      go_ret
      exact ⟨rfl, Hb.out⟩
    · have hfa := right_facts hR
      rcases hE : emptyB r.c r.o r.p r.l r.t with _ | _
      · have hfb := next_facts hR hE
        by_cases hT : r.t = 2147483647
        · have HN := Lib.hid (show ∀ W, Calls Try.prog 16 #[r.v] W fun e w' => e = .returned (.tuple #[.int .i64 0, .int .i64 10]) ∧ Below W.heap.size W w' from fun W => by have := next_any r W hfa.2.2.1 hfa.2.2.2.1; rwa [show nextF r = (0, 10) by simp [nextF, hE, show decide (2147483647 ≤ r.t) = true by simp [hT]]] at this)
          have hd : (r.t == 2147483647) = true := by simpa using hT
          clear hfa hfb hT
          go_enter Try.func7, Try.ntmps7
          go_wp2_with fail
          refine (Hsh.out _).mono ?_; rintro e w1 ⟨rfl, hb1⟩
          have HB1 := Lib.hid (HB0.out.up hb1)
          have Hb := Lib.hid (bt (ba w _) hb1)
          clear hb1
          obtain ⟨c0, c1, c2, c3, c4, c5, c6, c7⟩ := ring_cells HB1.out
          go_wp2_with (first
            | (go_at_call 9; refine (few_any r _).mono ?_; rintro e w2 ⟨rfl, hb2⟩; have HB1 := Lib.hid (HB1.out.up hb2); have Hb := Lib.hid (bt Hb.out hb2); clear hb2; obtain ⟨c0, c1, c2, c3, c4, c5, c6, c7⟩ := ring_cells HB1.out)
            | (go_at_call 12; refine (refRight_any r.c r.o r.p r.l r.t _).mono ?_; rintro e w2 ⟨rfl, hb2⟩; have HB1 := Lib.hid (HB1.out.up hb2); have Hb := Lib.hid (bt Hb.out hb2); clear hb2; obtain ⟨c0, c1, c2, c3, c4, c5, c6, c7⟩ := ring_cells HB1.out)
            | (go_at_call 16; refine (HN.out _).mono ?_; rintro e w2 ⟨rfl, hb2⟩; have HB1 := Lib.hid (HB1.out.up hb2); have Hb := Lib.hid (bt Hb.out hb2); clear hb2; obtain ⟨c0, c1, c2, c3, c4, c5, c6, c7⟩ := ring_cells HB1.out)
            | (go_at_call 31; refine (refEmpty_any r.c r.o r.p r.l r.t _).mono ?_; rintro e w2 ⟨rfl, hb2⟩; have HB1 := Lib.hid (HB1.out.up hb2); have Hb := Lib.hid (bt Hb.out hb2); clear hb2; obtain ⟨c0, c1, c2, c3, c4, c5, c6, c7⟩ := ring_cells HB1.out))
          go_ret
          exact ⟨rfl, Hb.out⟩
        · have ht : r.t < 2147483647 := by omega
          have HN := Lib.hid (show ∀ W, Calls Try.prog 16 #[r.v] W fun e w' => e = .returned (.tuple #[.int .i64 (r.t + 1), .int .i64 0]) ∧ Below W.heap.size W w' from fun W => by have := next_any r W hfa.2.2.1 hfa.2.2.2.1; rwa [show nextF r = (r.t + 1, 0) by simp [nextF, hE, show decide (2147483647 ≤ r.t) = false from decide_eq_false (by omega)]] at this)
          have HO := Lib.hid (show ∀ (b : Option Addr) W, Calls Try.prog 21 #[r.v, .int .i64 (r.t + 1), .slice b 32 32] W fun e w' => e = .returned (.tuple #[VX r (r.t + 1) b, .int .i64 0]) ∧ Below W.heap.size W w' from fun b W => by
            have := offer_any r ⟨r.t + 1, b, 32, 32⟩ W
            rwa [show offerF r ⟨r.t + 1, b, 32, 32⟩ = (⟨r.c, r.o, ⟨r.t + 1, b, 32, 32⟩, r.l, r.t + 1⟩, 0) by
              simp only [offerF, show realB ⟨r.t + 1, b, 32, 32⟩ = true by simp [realB]; omega, offB, hE, show decide (r.t + 1 ≤ r.c.no) = false from decide_eq_false (by omega), show decide (r.t + 1 < r.p.no) = false from decide_eq_false (by omega), Bool.or_false, cond_true, cond_false, if_pos (show r.t < r.t + 1 by omega)]] at this)
          have HF := Lib.hid (show ∀ W, Calls Try.prog 18 #[r.v, .int .i64 (r.t + 1)] W fun e w' => e = .returned (.tuple #[.slice none 0 0, .bool false]) ∧ Below W.heap.size W w' from fun W => by
            have := find_any r (r.t + 1) W
            rwa [show findF r (r.t + 1) = (G0, false) by
              simp [findF, hitB, show (r.c.no == r.t + 1) = false from beq_eq_false_iff_ne.2 (by omega), show (r.o.no == r.t + 1) = false from beq_eq_false_iff_ne.2 (by omega), show (r.p.no == r.t + 1) = false from beq_eq_false_iff_ne.2 (by omega)]] at this)
          have HW := Lib.hid (show ∀ (b : Option Addr) W, Calls Try.prog 25 #[VX r (r.t + 1) b] W fun e w' => e = .returned (VY r (r.t + 1)) ∧ Below W.heap.size W w' from fun b W => with_any ⟨r.c, r.o, ⟨r.t + 1, b, 32, 32⟩, r.l, r.t + 1⟩ W)
          have HFY := Lib.hid (show ∀ W, Calls Try.prog 18 #[VY r (r.t + 1), .int .i64 (r.t + 1)] W fun e w' => e = .returned (.tuple #[.slice none 0 0, .bool false]) ∧ Below W.heap.size W w' from fun W => by
            have := find_any ⟨r.c, r.o, G0, r.l, r.t + 1⟩ (r.t + 1) W
            rwa [show findF ⟨r.c, r.o, G0, r.l, r.t + 1⟩ (r.t + 1) = (G0, false) by
              simp [findF, hitB, show (r.c.no == r.t + 1) = false from beq_eq_false_iff_ne.2 (by omega), show (r.o.no == r.t + 1) = false from beq_eq_false_iff_ne.2 (by omega), show ((0 : Int) == r.t + 1) = false from beq_eq_false_iff_ne.2 (by omega)]] at this)
          have hEY : emptyB r.c r.o G0 r.l (r.t + 1) = false := by
            simp [emptyB, noneB]; intro h; omega
          obtain ⟨m, g, hmg⟩ : ∃ m g, nextF ⟨r.c, r.o, G0, r.l, r.t + 1⟩ = (m, g) := ⟨_, _, rfl⟩
          have HNY := Lib.hid (show ∀ W, Calls Try.prog 16 #[VY r (r.t + 1)] W fun e w' => e = .returned (.tuple #[.int .i64 m, .int .i64 g]) ∧ Below W.heap.size W w' from fun W => by
            have := next_any ⟨r.c, r.o, G0, r.l, r.t + 1⟩ W (show 0 ≤ r.t + 1 by omega) (show r.t + 1 ≤ 2147483647 by omega)
            rwa [hmg] at this)
          have hq : (g = 0 ∧ m = r.t + 1 + 1) ∨ (g = 10 ∧ r.t + 1 = 2147483647) := by
            by_cases h : r.t + 1 = 2147483647
            · right
              have : nextF ⟨r.c, r.o, G0, r.l, r.t + 1⟩ = (0, 10) := by simp [nextF, hEY, show decide (2147483647 ≤ r.t + 1) = true by simp; omega]
              rw [hmg] at this; exact ⟨(Prod.mk.inj this).2, h⟩
            · left
              have : nextF ⟨r.c, r.o, G0, r.l, r.t + 1⟩ = (r.t + 1 + 1, 0) := by simp [nextF, hEY, show decide (2147483647 ≤ r.t + 1) = false from decide_eq_false (by omega)]
              rw [hmg] at this; exact ⟨(Prod.mk.inj this).2, (Prod.mk.inj this).1⟩
          have hm0 : 0 ≤ r.t := by omega
          clear hmg hEY
          have HK := Lib.hid (fun W => key_any fill W)
          go_enter Try.func7, Try.ntmps7
          go_wp2_with fail
          refine (Hsh.out _).mono ?_; rintro e w1 ⟨rfl, hb1⟩
          have HB1 := Lib.hid (HB0.out.up hb1)
          have Hb := Lib.hid (bt (ba w _) hb1)
          clear hb1
          obtain ⟨c0, c1, c2, c3, c4, c5, c6, c7⟩ := ring_cells HB1.out
          clear hfa hfb hT
          go_wp2_with (first
            | (go_at_call 9; refine (few_any r _).mono ?_; rintro e w2 ⟨rfl, hb2⟩; have HB1 := Lib.hid (HB1.out.up hb2); have Hb := Lib.hid (bt Hb.out hb2); clear hb2; obtain ⟨c0, c1, c2, c3, c4, c5, c6, c7⟩ := ring_cells HB1.out)
            | (go_at_call 12; refine (refRight_any r.c r.o r.p r.l r.t _).mono ?_; rintro e w2 ⟨rfl, hb2⟩; have HB1 := Lib.hid (HB1.out.up hb2); have Hb := Lib.hid (bt Hb.out hb2); clear hb2; obtain ⟨c0, c1, c2, c3, c4, c5, c6, c7⟩ := ring_cells HB1.out)
            | (go_at_call 16; refine (HN.out _).mono ?_; rintro e w2 ⟨rfl, hb2⟩; have HB1 := Lib.hid (HB1.out.up hb2); have Hb := Lib.hid (bt Hb.out hb2); clear hb2; obtain ⟨c0, c1, c2, c3, c4, c5, c6, c7⟩ := ring_cells HB1.out))
          go_cut [8, 9] (fun v8 v9 wx => ∃ b8 b2 : Nat, v8 = .pointer (some ⟨b8, 0, none⟩) ∧ v9 = .int .i64 0 ∧ Blk wx b8 (LX r (r.t + 1) (some ⟨b2, 0, none⟩)) ∧ Blk wx b2 (B8s (List.replicate 32 fill)) ∧ Below w2.heap.size w2 wx)
          case first =>
            have kA := HB1.out
            obtain ⟨c0, c1, c2, c3, c4, c5, c6, c7⟩ := cells8 kA
            have lA := kA.lt
            go_region_with (first
              | (go_at_call 29; ((with_reducible refine Calls.mono (HK.out _) ?_); rintro e w4 ⟨b2, rfl, kK, lb2, hb4⟩; have lk2 := kK.lt; have kA : Blk w4 w.heap.size r.L := Blk.up (by repeat (first | (with_reducible exact kA) | (with_reducible refine Blk.drew ?_) | (with_reducible refine Blk.alloc ?_ _))) hb4; have lA := kA.lt; obtain ⟨c0, c1, c2, c3, c4, c5, c6, c7⟩ := cells8 kA; have hzw4 := hb4.size; (try (have z1 := Blk.up (show Blk _ _ R0.L from (by repeat (first | (with_reducible exact z1) | (with_reducible refine Blk.drew ?_) | (with_reducible refine Blk.alloc ?_ _)))) hb4; have fz1 := z1.frozen; have lz1 := z1.lt; obtain ⟨x0, x1, x2, x3, x4, x5, x6, x7⟩ := cells8 z1)); (try (have z1 := Blk.up (Blk.new _ R0.L _) hb4; have fz1 := z1.frozen; have lz1 := z1.lt; obtain ⟨x0, x1, x2, x3, x4, x5, x6, x7⟩ := cells8 z1)); (try (have z1 := Blk.up (Blk.new _ R0.L _).drew hb4; have fz1 := z1.frozen; have lz1 := z1.lt; obtain ⟨x0, x1, x2, x3, x4, x5, x6, x7⟩ := cells8 z1))))
              | (go_at_call 21; ((with_reducible refine Calls.mono (HO.out _ _) ?_); rintro e w5 ⟨rfl, hb5⟩; have kK : Blk w5 b2 (B8s (List.replicate 32 fill)) := Blk.up (by repeat (first | (with_reducible exact kK) | (with_reducible refine Blk.drew ?_) | (with_reducible refine Blk.alloc ?_ _))) hb5; have kA : Blk w5 w.heap.size r.L := Blk.up (by repeat (first | (with_reducible exact kA) | (with_reducible refine Blk.drew ?_) | (with_reducible refine Blk.alloc ?_ _))) hb5; have lA := kA.lt; obtain ⟨c0, c1, c2, c3, c4, c5, c6, c7⟩ := cells8 kA; have hzw5 := hb5.size; (try (have z1 := Blk.up (show Blk _ _ R0.L from (by repeat (first | (with_reducible exact z1) | (with_reducible refine Blk.drew ?_) | (with_reducible refine Blk.alloc ?_ _)))) hb5; have fz1 := z1.frozen; have lz1 := z1.lt; obtain ⟨x0, x1, x2, x3, x4, x5, x6, x7⟩ := cells8 z1)); (try (have z1 := Blk.up (Blk.new _ R0.L _) hb5; have fz1 := z1.frozen; have lz1 := z1.lt; obtain ⟨x0, x1, x2, x3, x4, x5, x6, x7⟩ := cells8 z1)); (try (have z1 := Blk.up (Blk.new _ R0.L _).drew hb5; have fz1 := z1.frozen; have lz1 := z1.lt; obtain ⟨x0, x1, x2, x3, x4, x5, x6, x7⟩ := cells8 z1)))))
            all_goals
              have hbel : Below w2.heap.size w2 w5 := by repeat (first | (with_reducible exact Below.refl _ _) | (with_reducible refine bt ?_ hb5) | (with_reducible refine bt ?_ hb4) | (with_reducible refine bt ?_ (bd _)) | (with_reducible refine bt ?_ (ba _ _)))
              go_wp2_with fail
              go_meet
            · exact ⟨w5.heap.size, b2, rfl, rfl, Blk.new w5 (LX r (r.t + 1) _) _, kK.alloc _, bt hbel (ba _ _)⟩
            · have z : Blk w5 w4.heap.size R0.L := z1
              have hle : w2.heap.size ≤ w4.heap.size := by have := hb4.size; simp at this; omega
              exact ⟨w4.heap.size, b2, rfl, rfl, rset8 z, rset8_other kK (Nat.ne_of_lt lk2), rset8_below hbel hle⟩
            · have z : Blk w5 w2.heap.size R0.L := z1
              have hne : b2 ≠ w2.heap.size := by have := lb2; simp at this; omega
              exact ⟨w2.heap.size, b2, rfl, rfl, rset8 z, rset8_other kK hne, rset8_below hbel (Nat.le_refl _)⟩
            · exact ⟨w5.heap.size, b2, rfl, rfl, Blk.new w5 (LX r (r.t + 1) _) _, kK.alloc _, bt hbel (ba _ _)⟩
            · have z : Blk w5 w4.heap.size R0.L := z1
              have hle : w2.heap.size ≤ w4.heap.size := by have := hb4.size; simp at this; omega
              exact ⟨w4.heap.size, b2, rfl, rfl, rset8 z, rset8_other kK (Nat.ne_of_lt lk2), rset8_below hbel hle⟩
            · have z : Blk w5 w4.heap.size R0.L := z1
              have hle : w2.heap.size ≤ w4.heap.size := by have := hb4.size; simp at this; omega
              exact ⟨w4.heap.size, b2, rfl, rfl, rset8 z, rset8_other kK (Nat.ne_of_lt lk2), rset8_below hbel hle⟩
            · have z : Blk w5 w2.heap.size R0.L := z1
              have hne : b2 ≠ w2.heap.size := by have := lb2; simp at this; omega
              exact ⟨w2.heap.size, b2, rfl, rfl, rset8 z, rset8_other kK hne, rset8_below hbel (Nat.le_refl _)⟩
            · have z : Blk w5 w2.heap.size R0.L := z1
              have hne : b2 ≠ w2.heap.size := by have := lb2; simp at this; omega
              exact ⟨w2.heap.size, b2, rfl, rfl, rset8 z, rset8_other kK hne, rset8_below hbel (Nat.le_refl _)⟩
          case rest =>
            obtain ⟨b8, b2, rfl, rfl, h8, -, hbc⟩ := hcut
            have HB1 := Lib.hid (HB1.out.up hbc)
            have Hb := Lib.hid (bt Hb.out hbc)
            have H8 := Lib.hid h8
            clear hbc h8 c0 c1 c2 c3 c4 c5 c6 c7
            obtain ⟨c0, c1, c2, c3, c4, c5, c6, c7⟩ := ring_cells HB1.out
            generalize (some ⟨b2, 0, none⟩ : Option Addr) = bk at H8
            go_wp2_with fail
            refine (HF.out _).mono ?_; rintro e y1 ⟨rfl, hy1⟩
            have HB1 := Lib.hid (HB1.out.up hy1)
            have H8 := Lib.hid (H8.out.up hy1)
            have Hb := Lib.hid (bt Hb.out hy1)
            clear hy1 c0 c1 c2 c3 c4 c5 c6 c7
            obtain ⟨d0, d1, d2, d3, d4, d5, d6, d7⟩ := cells8 H8.out
            go_wp2_with fail
            refine (HW.out bk _).mono ?_; rintro e y2 ⟨rfl, hy2⟩
            clear d0 d1 d2 d3 d4 d5 d6 d7
            have HB1 := Lib.hid ((HB1.out.up hy2).alloc (.cells (LY r (r.t + 1)).toArray 26))
            have H12 := Lib.hid (Blk.new y2 (LY r (r.t + 1)) 26)
            have Hb := Lib.hid (bt (bt Hb.out hy2) (ba y2 (.cells (LY r (r.t + 1)).toArray 26)))
            clear hy2
            go_wp2_with fail
            refine (HNY.out _).mono ?_; rintro e y3 ⟨rfl, hy3⟩
            have HB1 := Lib.hid (HB1.out.up hy3)
            have H12 := Lib.hid (H12.out.up hy3)
            have Hb := Lib.hid (bt Hb.out hy3)
            clear hy3
            obtain ⟨d0, d1, d2, d3, d4, d5, d6, d7⟩ := cells8 H12.out
            go_wp2_with fail
            refine (HFY.out _).mono ?_; rintro e y4 ⟨rfl, hy4⟩
            clear d0 d1 d2 d3 d4 d5 d6 d7
            have HB1 := Lib.hid (HB1.out.up hy4)
            have H12 := Lib.hid (H12.out.up hy4)
            have Hb := Lib.hid (bt Hb.out hy4)
            clear hy4
            obtain ⟨c0, c1, c2, c3, c4, c5, c6, c7⟩ := ring_cells HB1.out
            obtain ⟨d0, d1, d2, d3, d4, d5, d6, d7⟩ := cells8 H12.out
            rcases hq with ⟨rfl, rfl⟩ | ⟨rfl, hq⟩
            · go_wp2_with fail
              go_ret
              exact ⟨rfl, Hb.out⟩
            · have hq2 : (r.t + 1 == 2147483647) = true := by simpa using hq
              clear hq
              go_wp2_with fail
              go_ret
              exact ⟨rfl, Hb.out⟩
      · have HN := Lib.hid (show ∀ W, Calls Try.prog 16 #[r.v] W fun e w' => e = .returned (.tuple #[.int .i64 0, .int .i64 9]) ∧ Below W.heap.size W w' from fun W => by have := next_any r W hfa.2.2.1 hfa.2.2.2.1; rwa [show nextF r = (0, 9) by simp [nextF, hE]] at this)
        clear hfa
        go_enter Try.func7, Try.ntmps7
        go_wp2_with fail
        refine (Hsh.out _).mono ?_; rintro e w1 ⟨rfl, hb1⟩
        have HB1 := Lib.hid (HB0.out.up hb1)
        have Hb := Lib.hid (bt (ba w _) hb1)
        clear hb1
        obtain ⟨c0, c1, c2, c3, c4, c5, c6, c7⟩ := ring_cells HB1.out
        go_wp2_with (first
          | (go_at_call 9; refine (few_any r _).mono ?_; rintro e w2 ⟨rfl, hb2⟩; have HB1 := Lib.hid (HB1.out.up hb2); have Hb := Lib.hid (bt Hb.out hb2); clear hb2; obtain ⟨c0, c1, c2, c3, c4, c5, c6, c7⟩ := ring_cells HB1.out)
          | (go_at_call 12; refine (refRight_any r.c r.o r.p r.l r.t _).mono ?_; rintro e w2 ⟨rfl, hb2⟩; have HB1 := Lib.hid (HB1.out.up hb2); have Hb := Lib.hid (bt Hb.out hb2); clear hb2; obtain ⟨c0, c1, c2, c3, c4, c5, c6, c7⟩ := ring_cells HB1.out)
          | (go_at_call 16; refine (HN.out _).mono ?_; rintro e w2 ⟨rfl, hb2⟩; have HB1 := Lib.hid (HB1.out.up hb2); have Hb := Lib.hid (bt Hb.out hb2); clear hb2; obtain ⟨c0, c1, c2, c3, c4, c5, c6, c7⟩ := ring_cells HB1.out)
          | (go_at_call 31; refine (refEmpty_any r.c r.o r.p r.l r.t _).mono ?_; rintro e w2 ⟨rfl, hb2⟩; have HB1 := Lib.hid (HB1.out.up hb2); have Hb := Lib.hid (bt Hb.out hb2); clear hb2; obtain ⟨c0, c1, c2, c3, c4, c5, c6, c7⟩ := ring_cells HB1.out))
        go_ret
        exact ⟨rfl, Hb.out⟩
end Go.Proofs.Ytelndpphbpandaa
