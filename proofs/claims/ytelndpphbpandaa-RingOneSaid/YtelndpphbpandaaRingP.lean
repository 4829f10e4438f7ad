/- The walk of the law RingOne where the offer is taken. -/
import Derived.Test.YtelndpphbpandaaRingO
set_option linter.unusedSimpArgs false
set_option linter.unusedVariables false
namespace Go.Proofs.Ytelndpphbpandaa
open Go.RowKit

abbrev LM (r : Rg) (no M : Int) (k : Option Addr) : List Value := [.int .i64 r.c.no, .slice r.c.a r.c.len r.c.cap, .int .i64 r.o.no, .slice r.o.a r.o.len r.o.cap, .int .i64 no, .slice k 32 32, .int .i64 r.l, .int .i64 M]
abbrev VM (r : Rg) (no M : Int) (k : Option Addr) : Value := .agg #[.int .i64 r.c.no, .slice r.c.a r.c.len r.c.cap, .int .i64 r.o.no, .slice r.o.a r.o.len r.o.cap, .int .i64 no, .slice k 32 32, .int .i64 r.l, .int .i64 M]

set_option maxRecDepth 100000 in
set_option maxHeartbeats 8000000 in
theorem ringOne_yes (hsh : Shown11OK) (r : Rg) (no M D : Int) (fa fb : UInt8) (kc ko kp : List UInt8) (w : World) (hr : RgAt w r kc ko kp) (hF : fewB r = true) (hR : rightB r.c r.o r.p r.l r.t = true) (hD : D ≠ 0) (hn0 : 1 ≤ no) (hn1 : no ≤ 2147483647) (hcn : r.c.no < no)
    (HO : ∀ (b : Option Addr) W, Calls Try.prog 21 #[r.v, .int .i64 no, .slice b 32 32] W fun e w' => e = .returned (.tuple #[VM r no M b, .int .i64 0]) ∧ Below W.heap.size W w')
    (HX : ∀ (k b : Option Addr) W, Calls Try.prog 21 #[VM r no M k, .int .i64 no, .slice b 32 32] W fun e w' => e = .returned (.tuple #[VM r no M b, .int .i64 0]) ∧ Below W.heap.size W w')
    (HN : ∀ (k b : Option Addr) W, Calls Try.prog 21 #[VM r no M k, .int .i64 (no - 1), .slice b 32 32] W fun e w' => e = .returned (.tuple #[VM r no M k, .int .i64 D]) ∧ Below W.heap.size W w')
    (HF : ∀ (k : Option Addr) W, Calls Try.prog 18 #[VM r no M k, .int .i64 no] W fun e w' => e = .returned (.tuple #[.slice k 32 32, .bool true]) ∧ Below W.heap.size W w') :
    Calls Try.prog 6 #[.agg (oneL r no fa fb).toArray] w (BoolOut w true) := by
  have Hsh := Lib.hid hsh
  have HKa := Lib.hid (fun W => key_any fa W)
  have HKb := Lib.hid (fun W => key_any fb W)
  have HO := Lib.hid HO
  have HX := Lib.hid HX
  have HN := Lib.hid HN
  have HF := Lib.hid HF
  have SS := Lib.hid (show ∀ W (k j : Option Addr), Below w.heap.size w W → BytesAt W k (List.replicate 32 fb) → BytesAt W j (List.replicate 32 fb) → Calls Try.prog 13 #[VM r no M k, VM r no M j] W fun e w' => e = .returned (.bool true) ∧ Below W.heap.size W w' from fun W k j hb h1 h2 => by
    have h := hr.mono hb
    have := refSame_any ⟨r.c, r.o, ⟨no, k, 32, 32⟩, r.l, M⟩ ⟨r.c, r.o, ⟨no, j, 32, 32⟩, r.l, M⟩ kc ko (List.replicate 32 fb) kc ko (List.replicate 32 fb) W ⟨h.lc, h.c, h.lo, h.o, by simp, h1⟩ ⟨h.lc, h.c, h.lo, h.o, by simp, h2⟩
    rwa [show sameB ⟨r.c, r.o, ⟨no, k, 32, 32⟩, r.l, M⟩ ⟨r.c, r.o, ⟨no, j, 32, 32⟩, r.l, M⟩ kc ko (List.replicate 32 fb) kc ko (List.replicate 32 fb) = true by simp [sameB, sameG]] at this)
  obtain ⟨U, hU⟩ : ∃ U : Rg, U = ⟨r.c, r.o, G0, r.l, M⟩ := ⟨_, rfl⟩
  have SU := Lib.hid (self_of ⟨kc, ko, [], by rw [hU]; exact ⟨hr.lc, hr.c, hr.lo, hr.o, rfl, .inl rfl⟩⟩ : Self w U)
  have HW := Lib.hid (show ∀ (k : Option Addr) W, Calls Try.prog 25 #[VM r no M k] W fun e w' => e = .returned U.v ∧ Below W.heap.size W w' from fun k W => by rw [hU]; exact with_any ⟨r.c, r.o, ⟨no, k, 32, 32⟩, r.l, M⟩ W)
  have hD2 : (D != 0) = true := by simpa [bne] using hD
  have hcd : decide (r.c.no < no) = true := by simpa using hcn
  have hwr : IntKind.i64.wrap (no - 1) = no - 1 := IntWalk.i64_in _ (by omega)
  clear hr hsh hU hD
  go_enter Try.func6, Try.ntmps6
  go_wp2_with fail
  generalize hW : World.alloc _ _ = W
  obtain ⟨-, NA, hb⟩ := ring2_world (a := oneL r no fa fb) (b := r.L) hW
  clear hW
  generalize w.heap.size + 1 = m1 at NA ⊢
  refine (Hsh.out _).mono ?_; rintro e w1 ⟨rfl, hb1⟩
  have HB1 := Lib.hid (NA.up hb1)
  have Hb := Lib.hid (bt hb hb1)
  clear hb hb1
  obtain ⟨c0, c1, c2, c3, c4, c5, c6, c7⟩ := ring_cells HB1.out
  go_wp2_with (first
    | (go_at_call 9; refine (few_any r _).mono ?_; rintro e w2 ⟨rfl, hb2⟩; have HB1 := Lib.hid (HB1.out.up hb2); have Hb := Lib.hid (bt Hb.out hb2); clear hb2; obtain ⟨c0, c1, c2, c3, c4, c5, c6, c7⟩ := ring_cells HB1.out)
    | (go_at_call 12; refine (refRight_any r.c r.o r.p r.l r.t _).mono ?_; rintro e w2 ⟨rfl, hb2⟩; have HB1 := Lib.hid (HB1.out.up hb2); have Hb := Lib.hid (bt Hb.out hb2); clear hb2; obtain ⟨c0, c1, c2, c3, c4, c5, c6, c7⟩ := ring_cells HB1.out))
  clear c0 c1 c2 c3 c4 c5 c6 c7
  go_cut [8, 9] (fun v8 v9 wx => ∃ b8 b2 : Nat, v8 = .pointer (some ⟨b8, 0, none⟩) ∧ v9 = .int .i64 0 ∧ Blk wx b8 (LM r no M (some ⟨b2, 0, none⟩)) ∧ Blk wx b2 (B8s (List.replicate 32 fa)) ∧ Below w2.heap.size w2 wx)
  case first =>
    have KS := Lib.hid (show ∀ w', Below w2.heap.size w2 w' → (Below w2.heap.size w2 w' ∧ w'.cell? ⟨m1, 0, none⟩ = some (.int .i64 r.c.no) ∧ w'.cell? ⟨m1, 1, none⟩ = some (.slice r.c.a r.c.len r.c.cap) ∧ w'.cell? ⟨m1, 2, none⟩ = some (.int .i64 r.o.no) ∧ w'.cell? ⟨m1, 3, none⟩ = some (.slice r.o.a r.o.len r.o.cap) ∧ w'.cell? ⟨m1, 4, none⟩ = some (.int .i64 r.p.no) ∧ w'.cell? ⟨m1, 5, none⟩ = some (.slice r.p.a r.p.len r.p.cap) ∧ w'.cell? ⟨m1, 6, none⟩ = some (.int .i64 r.l) ∧ w'.cell? ⟨m1, 7, none⟩ = some (.int .i64 r.t)) from fun w' hb => by
      obtain ⟨c0, c1, c2, c3, c4, c5, c6, c7⟩ := cells8 (HB1.out.up hb)
      exact ⟨hb, c0, c1, c2, c3, c4, c5, c6, c7⟩)
    obtain ⟨hS0, c0, c1, c2, c3, c4, c5, c6, c7⟩ := KS.out w2 (Below.refl _ _)
    go_region_held3 (fun w' => Below w2.heap.size w2 w' ∧ w'.cell? ⟨m1, 0, none⟩ = some (.int .i64 r.c.no) ∧ w'.cell? ⟨m1, 1, none⟩ = some (.slice r.c.a r.c.len r.c.cap) ∧ w'.cell? ⟨m1, 2, none⟩ = some (.int .i64 r.o.no) ∧ w'.cell? ⟨m1, 3, none⟩ = some (.slice r.o.a r.o.len r.o.cap) ∧ w'.cell? ⟨m1, 4, none⟩ = some (.int .i64 r.p.no) ∧ w'.cell? ⟨m1, 5, none⟩ = some (.slice r.p.a r.p.len r.p.cap) ∧ w'.cell? ⟨m1, 6, none⟩ = some (.int .i64 r.l) ∧ w'.cell? ⟨m1, 7, none⟩ = some (.int .i64 r.t))
      (first
        | (apply KS.out; (with_reducible ((try apply bta); (try (apply rset8_below; rotate_left; first | apply Nat.le_refl | exact hw4)); (try apply bta); (try apply bt3 hb5); (try apply bta); (try apply bt3 hb4); (try apply bta); (first | apply Below.refl | (apply btd; (try apply bta); apply Below.refl)))))
        | fail)
      (first
        | (go_at_call 29; go_split_ands; ((with_reducible refine Calls.mono (HKa.out _) ?_); rintro e w4 ⟨b2, rfl, kK, lb2, hb4⟩; have lk2 := kK.lt; have hw4 : w2.heap.size ≤ w4.heap.size := (by have := hb4.size; first | omega | (simp at this; omega)); (try ((with_reducible have z1 := Blk.up (Blk.new _ R0.L _) hb4); have fz1 := z1.frozen; have lz1 := z1.lt; obtain ⟨x0, x1, x2, x3, x4, x5, x6, x7⟩ := cells8 z1)); (try ((with_reducible have z1 := Blk.up (Blk.new _ R0.L _).drew hb4); have fz1 := z1.frozen; have lz1 := z1.lt; obtain ⟨x0, x1, x2, x3, x4, x5, x6, x7⟩ := cells8 z1))))
        | (go_at_call 21; go_split_ands; ((with_reducible refine Calls.mono (HO.out _ _) ?_); rintro e w5 ⟨rfl, hb5⟩; first | (with_reducible have kK := Blk.upR hb5 kK) | (with_reducible have kK := Blk.upR hb5 (kK.alloc _))); skip; (try ((with_reducible have z1 := Blk.upR hb5 z1); have fz1 := z1.frozen; have lz1 := z1.lt; obtain ⟨x0, x1, x2, x3, x4, x5, x6, x7⟩ := cells8 z1)); (try ((with_reducible have z1 := Blk.upR hb5 (z1.alloc _)); have fz1 := z1.frozen; have lz1 := z1.lt; obtain ⟨x0, x1, x2, x3, x4, x5, x6, x7⟩ := cells8 z1)); (try ((with_reducible have z1 := Blk.up (Blk.new _ R0.L _) hb5); have fz1 := z1.frozen; have lz1 := z1.lt; obtain ⟨x0, x1, x2, x3, x4, x5, x6, x7⟩ := cells8 z1)); (try ((with_reducible have z1 := Blk.up (Blk.new _ R0.L _).drew hb5); have fz1 := z1.frozen; have lz1 := z1.lt; obtain ⟨x0, x1, x2, x3, x4, x5, x6, x7⟩ := cells8 z1))))
    all_goals
      go_split_ands
      go_wp2_with fail
      go_meet
    · exact ⟨w5.heap.size, b2, rfl, rfl, Blk.new w5 (LM r no M _) _, kK.alloc _, by assumption⟩
    · have z : Blk w5 w4.heap.size R0.L := z1
      exact ⟨w4.heap.size, b2, rfl, rfl, rset8 z, rset8_other kK (Nat.ne_of_lt lk2), by assumption⟩
    · have z : Blk w5 w2.heap.size R0.L := z1
      have hne : b2 ≠ w2.heap.size := by have := lb2; simp at this; omega
      exact ⟨w2.heap.size, b2, rfl, rfl, rset8 z, rset8_other kK hne, by assumption⟩
  case rest =>
    obtain ⟨b8, a8, rfl, rfl, h8, -, hbc⟩ := hcut
    have HB1 := Lib.hid (HB1.out.up hbc)
    have Hb := Lib.hid (bt Hb.out hbc)
    generalize (some ⟨a8, 0, none⟩ : Option Addr) = ka at h8
    have H8 := Lib.hid h8
    clear hbc h8
    go_wp2_with fail
    go_cut [10, 11] (fun v8 v9 wx => ∃ b8 b2 : Nat, v8 = .pointer (some ⟨b8, 0, none⟩) ∧ v9 = .int .i64 0 ∧ Blk wx b8 (LM r no M (some ⟨b2, 0, none⟩)) ∧ Blk wx b2 (B8s (List.replicate 32 fb)) ∧ Below wc.heap.size wc wx)
    case first =>
      have KS := Lib.hid (show ∀ w', Below wc.heap.size wc w' → (Below wc.heap.size wc w' ∧ w'.cell? ⟨b8, 0, none⟩ = some (.int .i64 r.c.no) ∧ w'.cell? ⟨b8, 1, none⟩ = some (.slice r.c.a r.c.len r.c.cap) ∧ w'.cell? ⟨b8, 2, none⟩ = some (.int .i64 r.o.no) ∧ w'.cell? ⟨b8, 3, none⟩ = some (.slice r.o.a r.o.len r.o.cap) ∧ w'.cell? ⟨b8, 4, none⟩ = some (.int .i64 no) ∧ w'.cell? ⟨b8, 5, none⟩ = some (.slice ka 32 32) ∧ w'.cell? ⟨b8, 6, none⟩ = some (.int .i64 r.l) ∧ w'.cell? ⟨b8, 7, none⟩ = some (.int .i64 M)) from fun w' hb => by
        obtain ⟨c0, c1, c2, c3, c4, c5, c6, c7⟩ := cells8 (H8.out.up hb)
        exact ⟨hb, c0, c1, c2, c3, c4, c5, c6, c7⟩)
      obtain ⟨hS0, c0, c1, c2, c3, c4, c5, c6, c7⟩ := KS.out wc (Below.refl _ _)
      go_region_held3 (fun w' => Below wc.heap.size wc w' ∧ w'.cell? ⟨b8, 0, none⟩ = some (.int .i64 r.c.no) ∧ w'.cell? ⟨b8, 1, none⟩ = some (.slice r.c.a r.c.len r.c.cap) ∧ w'.cell? ⟨b8, 2, none⟩ = some (.int .i64 r.o.no) ∧ w'.cell? ⟨b8, 3, none⟩ = some (.slice r.o.a r.o.len r.o.cap) ∧ w'.cell? ⟨b8, 4, none⟩ = some (.int .i64 no) ∧ w'.cell? ⟨b8, 5, none⟩ = some (.slice ka 32 32) ∧ w'.cell? ⟨b8, 6, none⟩ = some (.int .i64 r.l) ∧ w'.cell? ⟨b8, 7, none⟩ = some (.int .i64 M))
        (first
          | (apply KS.out; (with_reducible ((try apply bta); (try (apply rset8_below; rotate_left; first | apply Nat.le_refl | exact hw4)); (try apply bta); (try apply bt3 hb5); (try apply bta); (try apply bt3 hb4); (try apply bta); (first | apply Below.refl | (apply btd; (try apply bta); apply Below.refl)))))
          | fail)
        (first
          | (go_at_call 29; go_split_ands; ((with_reducible refine Calls.mono (HKb.out _) ?_); rintro e w4 ⟨b2, rfl, kK, lb2, hb4⟩; have lk2 := kK.lt; have hw4 : wc.heap.size ≤ w4.heap.size := (by have := hb4.size; first | omega | (simp at this; omega)); (try ((with_reducible have z1 := Blk.up (Blk.new _ R0.L _) hb4); have fz1 := z1.frozen; have lz1 := z1.lt; obtain ⟨x0, x1, x2, x3, x4, x5, x6, x7⟩ := cells8 z1)); (try ((with_reducible have z1 := Blk.up (Blk.new _ R0.L _).drew hb4); have fz1 := z1.frozen; have lz1 := z1.lt; obtain ⟨x0, x1, x2, x3, x4, x5, x6, x7⟩ := cells8 z1))))
          | (go_at_call 21; go_split_ands; ((with_reducible refine Calls.mono (HX.out ka _ _) ?_); rintro e w5 ⟨rfl, hb5⟩; first | (with_reducible have kK := Blk.upR hb5 kK) | (with_reducible have kK := Blk.upR hb5 (kK.alloc _))); skip; (try ((with_reducible have z1 := Blk.upR hb5 z1); have fz1 := z1.frozen; have lz1 := z1.lt; obtain ⟨x0, x1, x2, x3, x4, x5, x6, x7⟩ := cells8 z1)); (try ((with_reducible have z1 := Blk.upR hb5 (z1.alloc _)); have fz1 := z1.frozen; have lz1 := z1.lt; obtain ⟨x0, x1, x2, x3, x4, x5, x6, x7⟩ := cells8 z1)); (try ((with_reducible have z1 := Blk.up (Blk.new _ R0.L _) hb5); have fz1 := z1.frozen; have lz1 := z1.lt; obtain ⟨x0, x1, x2, x3, x4, x5, x6, x7⟩ := cells8 z1)); (try ((with_reducible have z1 := Blk.up (Blk.new _ R0.L _).drew hb5); have fz1 := z1.frozen; have lz1 := z1.lt; obtain ⟨x0, x1, x2, x3, x4, x5, x6, x7⟩ := cells8 z1))))
      all_goals
        go_split_ands
        go_wp2_with fail
        go_meet
      · exact ⟨w5.heap.size, b2, rfl, rfl, Blk.new w5 (LM r no M _) _, kK.alloc _, by assumption⟩
      · have z : Blk w5 w4.heap.size R0.L := z1
        exact ⟨w4.heap.size, b2, rfl, rfl, rset8 z, rset8_other kK (Nat.ne_of_lt lk2), by assumption⟩
      · have z : Blk w5 wc.heap.size R0.L := z1
        have hne : b2 ≠ wc.heap.size := by have := lb2; simp at this; omega
        exact ⟨wc.heap.size, b2, rfl, rfl, rset8 z, rset8_other kK hne, by assumption⟩
    case rest =>
      obtain ⟨b10, a10, rfl, rfl, h10, k10, hbc⟩ := hcut
      have HB1 := Lib.hid (HB1.out.up hbc)
      have H8 := Lib.hid (H8.out.up hbc)
      have Hb := Lib.hid (bt Hb.out hbc)
      have K10 := Lib.hid k10
      generalize hkb : (some ⟨a10, 0, none⟩ : Option Addr) = kb at h10
      have Hkb := Lib.hid hkb
      have H10 := Lib.hid h10
      clear hbc h10 k10 hkb
      go_wp2_with fail
      go_cut [12, 13] (fun v8 v9 wx => ∃ b8 b2 : Nat, v8 = .pointer (some ⟨b8, 0, none⟩) ∧ v9 = .int .i64 0 ∧ Blk wx b8 (LM r no M (some ⟨b2, 0, none⟩)) ∧ Blk wx b2 (B8s (List.replicate 32 fb)) ∧ Below wc.heap.size wc wx)
      case first =>
        have KS := Lib.hid (show ∀ w', Below wc.heap.size wc w' → (Below wc.heap.size wc w' ∧ w'.cell? ⟨m1, 0, none⟩ = some (.int .i64 r.c.no) ∧ w'.cell? ⟨m1, 1, none⟩ = some (.slice r.c.a r.c.len r.c.cap) ∧ w'.cell? ⟨m1, 2, none⟩ = some (.int .i64 r.o.no) ∧ w'.cell? ⟨m1, 3, none⟩ = some (.slice r.o.a r.o.len r.o.cap) ∧ w'.cell? ⟨m1, 4, none⟩ = some (.int .i64 r.p.no) ∧ w'.cell? ⟨m1, 5, none⟩ = some (.slice r.p.a r.p.len r.p.cap) ∧ w'.cell? ⟨m1, 6, none⟩ = some (.int .i64 r.l) ∧ w'.cell? ⟨m1, 7, none⟩ = some (.int .i64 r.t)) from fun w' hb => by
          obtain ⟨c0, c1, c2, c3, c4, c5, c6, c7⟩ := cells8 (HB1.out.up hb)
          exact ⟨hb, c0, c1, c2, c3, c4, c5, c6, c7⟩)
        obtain ⟨hS0, c0, c1, c2, c3, c4, c5, c6, c7⟩ := KS.out wc (Below.refl _ _)
        go_region_held3 (fun w' => Below wc.heap.size wc w' ∧ w'.cell? ⟨m1, 0, none⟩ = some (.int .i64 r.c.no) ∧ w'.cell? ⟨m1, 1, none⟩ = some (.slice r.c.a r.c.len r.c.cap) ∧ w'.cell? ⟨m1, 2, none⟩ = some (.int .i64 r.o.no) ∧ w'.cell? ⟨m1, 3, none⟩ = some (.slice r.o.a r.o.len r.o.cap) ∧ w'.cell? ⟨m1, 4, none⟩ = some (.int .i64 r.p.no) ∧ w'.cell? ⟨m1, 5, none⟩ = some (.slice r.p.a r.p.len r.p.cap) ∧ w'.cell? ⟨m1, 6, none⟩ = some (.int .i64 r.l) ∧ w'.cell? ⟨m1, 7, none⟩ = some (.int .i64 r.t))
          (first
            | (apply KS.out; (with_reducible ((try apply bta); (try (apply rset8_below; rotate_left; first | apply Nat.le_refl | exact hw4)); (try apply bta); (try apply bt3 hb5); (try apply bta); (try apply bt3 hb4); (try apply bta); (first | apply Below.refl | (apply btd; (try apply bta); apply Below.refl)))))
            | fail)
          (first
            | (go_at_call 29; go_split_ands; ((with_reducible refine Calls.mono (HKb.out _) ?_); rintro e w4 ⟨b2, rfl, kK, lb2, hb4⟩; have lk2 := kK.lt; have hw4 : wc.heap.size ≤ w4.heap.size := (by have := hb4.size; first | omega | (simp at this; omega)); (try ((with_reducible have z1 := Blk.up (Blk.new _ R0.L _) hb4); have fz1 := z1.frozen; have lz1 := z1.lt; obtain ⟨x0, x1, x2, x3, x4, x5, x6, x7⟩ := cells8 z1)); (try ((with_reducible have z1 := Blk.up (Blk.new _ R0.L _).drew hb4); have fz1 := z1.frozen; have lz1 := z1.lt; obtain ⟨x0, x1, x2, x3, x4, x5, x6, x7⟩ := cells8 z1))))
            | (go_at_call 21; go_split_ands; ((with_reducible refine Calls.mono (HO.out _ _) ?_); rintro e w5 ⟨rfl, hb5⟩; first | (with_reducible have kK := Blk.upR hb5 kK) | (with_reducible have kK := Blk.upR hb5 (kK.alloc _))); skip; (try ((with_reducible have z1 := Blk.upR hb5 z1); have fz1 := z1.frozen; have lz1 := z1.lt; obtain ⟨x0, x1, x2, x3, x4, x5, x6, x7⟩ := cells8 z1)); (try ((with_reducible have z1 := Blk.upR hb5 (z1.alloc _)); have fz1 := z1.frozen; have lz1 := z1.lt; obtain ⟨x0, x1, x2, x3, x4, x5, x6, x7⟩ := cells8 z1)); (try ((with_reducible have z1 := Blk.up (Blk.new _ R0.L _) hb5); have fz1 := z1.frozen; have lz1 := z1.lt; obtain ⟨x0, x1, x2, x3, x4, x5, x6, x7⟩ := cells8 z1)); (try ((with_reducible have z1 := Blk.up (Blk.new _ R0.L _).drew hb5); have fz1 := z1.frozen; have lz1 := z1.lt; obtain ⟨x0, x1, x2, x3, x4, x5, x6, x7⟩ := cells8 z1))))
        all_goals
          go_split_ands
          go_wp2_with fail
          go_meet
        · exact ⟨w5.heap.size, b2, rfl, rfl, Blk.new w5 (LM r no M _) _, kK.alloc _, by assumption⟩
        · have z : Blk w5 w4.heap.size R0.L := z1
          exact ⟨w4.heap.size, b2, rfl, rfl, rset8 z, rset8_other kK (Nat.ne_of_lt lk2), by assumption⟩
        · have z : Blk w5 wc.heap.size R0.L := z1
          have hne : b2 ≠ wc.heap.size := by have := lb2; simp at this; omega
          exact ⟨wc.heap.size, b2, rfl, rfl, rset8 z, rset8_other kK hne, by assumption⟩
      case rest =>
        obtain ⟨b12, a12, rfl, rfl, h12, k12, hbc⟩ := hcut
        have HB1 := Lib.hid (HB1.out.up hbc)
        have H8 := Lib.hid (H8.out.up hbc)
        have H10 := Lib.hid (H10.out.up hbc)
        have K10 := Lib.hid (K10.out.up hbc)
        have Hb := Lib.hid (bt Hb.out hbc)
        have K12 := Lib.hid k12
        generalize hkd : (some ⟨a12, 0, none⟩ : Option Addr) = kd at h12
        have Hkd := Lib.hid hkd
        have H12 := Lib.hid h12
        clear hbc h12 k12 hkd
        obtain ⟨e0, e1, e2, e3, e4, e5, e6, e7⟩ := cells8 H10.out
        go_wp2_with fail
        refine (HF.out kb _).mono ?_; rintro e y1 ⟨rfl, hy1⟩
        clear e0 e1 e2 e3 e4 e5 e6 e7
        have HB1 := Lib.hid (HB1.out.up hy1)
        have H8 := Lib.hid (H8.out.up hy1)
        have H10 := Lib.hid (H10.out.up hy1)
        have K10 := Lib.hid (K10.out.up hy1)
        have H12 := Lib.hid (H12.out.up hy1)
        have K12 := Lib.hid (K12.out.up hy1)
        have Hb := Lib.hid (bt Hb.out hy1)
        clear hy1
        go_wp2_with fail
        go_cut [16, 17] (fun v8 v9 wx => ∃ b8 b2 : Nat, v8 = .pointer (some ⟨b8, 0, none⟩) ∧ v9 = .int .i64 D ∧ Blk wx b8 (LM r no M kb) ∧ Blk wx b2 (B8s (List.replicate 32 fa)) ∧ Below y1.heap.size y1 wx)
        case first =>
          have KS := Lib.hid (show ∀ w', Below y1.heap.size y1 w' → (Below y1.heap.size y1 w' ∧ w'.cell? ⟨b10, 0, none⟩ = some (.int .i64 r.c.no) ∧ w'.cell? ⟨b10, 1, none⟩ = some (.slice r.c.a r.c.len r.c.cap) ∧ w'.cell? ⟨b10, 2, none⟩ = some (.int .i64 r.o.no) ∧ w'.cell? ⟨b10, 3, none⟩ = some (.slice r.o.a r.o.len r.o.cap) ∧ w'.cell? ⟨b10, 4, none⟩ = some (.int .i64 no) ∧ w'.cell? ⟨b10, 5, none⟩ = some (.slice kb 32 32) ∧ w'.cell? ⟨b10, 6, none⟩ = some (.int .i64 r.l) ∧ w'.cell? ⟨b10, 7, none⟩ = some (.int .i64 M)) from fun w' hb => by
            obtain ⟨c0, c1, c2, c3, c4, c5, c6, c7⟩ := cells8 (H10.out.up hb)
            exact ⟨hb, c0, c1, c2, c3, c4, c5, c6, c7⟩)
          obtain ⟨hS0, c0, c1, c2, c3, c4, c5, c6, c7⟩ := KS.out y1 (Below.refl _ _)
          go_region_held3 (fun w' => Below y1.heap.size y1 w' ∧ w'.cell? ⟨b10, 0, none⟩ = some (.int .i64 r.c.no) ∧ w'.cell? ⟨b10, 1, none⟩ = some (.slice r.c.a r.c.len r.c.cap) ∧ w'.cell? ⟨b10, 2, none⟩ = some (.int .i64 r.o.no) ∧ w'.cell? ⟨b10, 3, none⟩ = some (.slice r.o.a r.o.len r.o.cap) ∧ w'.cell? ⟨b10, 4, none⟩ = some (.int .i64 no) ∧ w'.cell? ⟨b10, 5, none⟩ = some (.slice kb 32 32) ∧ w'.cell? ⟨b10, 6, none⟩ = some (.int .i64 r.l) ∧ w'.cell? ⟨b10, 7, none⟩ = some (.int .i64 M))
            (first
              | (apply KS.out; (with_reducible ((try apply bta); (try (apply rset8_below; rotate_left; first | apply Nat.le_refl | exact hw4)); (try apply bta); (try apply bt3 hb5); (try apply bta); (try apply bt3 hb4); (try apply bta); (first | apply Below.refl | (apply btd; (try apply bta); apply Below.refl)))))
              | fail)
            (first
              | (go_at_call 29; go_split_ands; ((with_reducible refine Calls.mono (HKa.out _) ?_); rintro e w4 ⟨b2, rfl, kK, lb2, hb4⟩; have lk2 := kK.lt; have hw4 : y1.heap.size ≤ w4.heap.size := (by have := hb4.size; first | omega | (simp at this; omega)); (try ((with_reducible have z1 := Blk.up (Blk.new _ R0.L _) hb4); have fz1 := z1.frozen; have lz1 := z1.lt; obtain ⟨x0, x1, x2, x3, x4, x5, x6, x7⟩ := cells8 z1)); (try ((with_reducible have z1 := Blk.up (Blk.new _ R0.L _).drew hb4); have fz1 := z1.frozen; have lz1 := z1.lt; obtain ⟨x0, x1, x2, x3, x4, x5, x6, x7⟩ := cells8 z1))))
              | (go_at_call 21; go_split_ands; ((with_reducible refine Calls.mono (HN.out kb _ _) ?_); rintro e w5 ⟨rfl, hb5⟩; first | (with_reducible have kK := Blk.upR hb5 kK) | (with_reducible have kK := Blk.upR hb5 (kK.alloc _))); skip; (try ((with_reducible have z1 := Blk.upR hb5 z1); have fz1 := z1.frozen; have lz1 := z1.lt; obtain ⟨x0, x1, x2, x3, x4, x5, x6, x7⟩ := cells8 z1)); (try ((with_reducible have z1 := Blk.upR hb5 (z1.alloc _)); have fz1 := z1.frozen; have lz1 := z1.lt; obtain ⟨x0, x1, x2, x3, x4, x5, x6, x7⟩ := cells8 z1)); (try ((with_reducible have z1 := Blk.up (Blk.new _ R0.L _) hb5); have fz1 := z1.frozen; have lz1 := z1.lt; obtain ⟨x0, x1, x2, x3, x4, x5, x6, x7⟩ := cells8 z1)); (try ((with_reducible have z1 := Blk.up (Blk.new _ R0.L _).drew hb5); have fz1 := z1.frozen; have lz1 := z1.lt; obtain ⟨x0, x1, x2, x3, x4, x5, x6, x7⟩ := cells8 z1))))
          all_goals
            go_split_ands
            go_wp2_with fail
            go_meet
          · exact ⟨w5.heap.size, b2, rfl, rfl, Blk.new w5 (LM r no M kb) _, kK.alloc _, by assumption⟩
          · have z : Blk w5 w4.heap.size R0.L := z1
            exact ⟨w4.heap.size, b2, rfl, rfl, rset8 z, rset8_other kK (Nat.ne_of_lt lk2), by assumption⟩
          · have z : Blk w5 y1.heap.size R0.L := z1
            have hne : b2 ≠ y1.heap.size := by have := lb2; simp at this; omega
            exact ⟨y1.heap.size, b2, rfl, rfl, rset8 z, rset8_other kK hne, by assumption⟩
        case rest =>
          obtain ⟨b16, -, rfl, rfl, -, -, hbc⟩ := hcut
          have HB1 := Lib.hid (HB1.out.up hbc)
          have H8 := Lib.hid (H8.out.up hbc)
          have H10 := Lib.hid (H10.out.up hbc)
          have K10 := Lib.hid (K10.out.up hbc)
          have H12 := Lib.hid (H12.out.up hbc)
          have K12 := Lib.hid (K12.out.up hbc)
          have Hb := Lib.hid (bt Hb.out hbc)
          have P10 := Lib.hid (show BytesAt wc kb (List.replicate 32 fb) by rw [← Hkb.out]; exact K10.out.bytes)
          have P12 := Lib.hid (show BytesAt wc kd (List.replicate 32 fb) by rw [← Hkd.out]; exact K12.out.bytes)
          clear hbc
          have KS := Lib.hid (show ∀ w', Below wc.heap.size wc w' → (Below wc.heap.size wc w' ∧ w'.cell? ⟨m1, 0, none⟩ = some (.int .i64 r.c.no) ∧ w'.cell? ⟨m1, 1, none⟩ = some (.slice r.c.a r.c.len r.c.cap) ∧ w'.cell? ⟨m1, 2, none⟩ = some (.int .i64 r.o.no) ∧ w'.cell? ⟨m1, 3, none⟩ = some (.slice r.o.a r.o.len r.o.cap) ∧ w'.cell? ⟨m1, 4, none⟩ = some (.int .i64 r.p.no) ∧ w'.cell? ⟨m1, 5, none⟩ = some (.slice r.p.a r.p.len r.p.cap) ∧ w'.cell? ⟨m1, 6, none⟩ = some (.int .i64 r.l) ∧ w'.cell? ⟨m1, 7, none⟩ = some (.int .i64 r.t) ∧ w'.cell? ⟨b8, 0, none⟩ = some (.int .i64 r.c.no) ∧ w'.cell? ⟨b8, 1, none⟩ = some (.slice r.c.a r.c.len r.c.cap) ∧ w'.cell? ⟨b8, 2, none⟩ = some (.int .i64 r.o.no) ∧ w'.cell? ⟨b8, 3, none⟩ = some (.slice r.o.a r.o.len r.o.cap) ∧ w'.cell? ⟨b8, 4, none⟩ = some (.int .i64 no) ∧ w'.cell? ⟨b8, 5, none⟩ = some (.slice ka 32 32) ∧ w'.cell? ⟨b8, 6, none⟩ = some (.int .i64 r.l) ∧ w'.cell? ⟨b8, 7, none⟩ = some (.int .i64 M) ∧ w'.cell? ⟨b10, 0, none⟩ = some (.int .i64 r.c.no) ∧ w'.cell? ⟨b10, 1, none⟩ = some (.slice r.c.a r.c.len r.c.cap) ∧ w'.cell? ⟨b10, 2, none⟩ = some (.int .i64 r.o.no) ∧ w'.cell? ⟨b10, 3, none⟩ = some (.slice r.o.a r.o.len r.o.cap) ∧ w'.cell? ⟨b10, 4, none⟩ = some (.int .i64 no) ∧ w'.cell? ⟨b10, 5, none⟩ = some (.slice kb 32 32) ∧ w'.cell? ⟨b10, 6, none⟩ = some (.int .i64 r.l) ∧ w'.cell? ⟨b10, 7, none⟩ = some (.int .i64 M) ∧ w'.cell? ⟨b12, 0, none⟩ = some (.int .i64 r.c.no) ∧ w'.cell? ⟨b12, 1, none⟩ = some (.slice r.c.a r.c.len r.c.cap) ∧ w'.cell? ⟨b12, 2, none⟩ = some (.int .i64 r.o.no) ∧ w'.cell? ⟨b12, 3, none⟩ = some (.slice r.o.a r.o.len r.o.cap) ∧ w'.cell? ⟨b12, 4, none⟩ = some (.int .i64 no) ∧ w'.cell? ⟨b12, 5, none⟩ = some (.slice kd 32 32) ∧ w'.cell? ⟨b12, 6, none⟩ = some (.int .i64 r.l) ∧ w'.cell? ⟨b12, 7, none⟩ = some (.int .i64 M)) from fun w' hb => by
            obtain ⟨c0, c1, c2, c3, c4, c5, c6, c7⟩ := ring_cells (HB1.out.up hb)
            obtain ⟨d0, d1, d2, d3, d4, d5, d6, d7⟩ := cells8 (H8.out.up hb)
            obtain ⟨e0, e1, e2, e3, e4, e5, e6, e7⟩ := cells8 (H10.out.up hb)
            obtain ⟨f0, f1, f2, f3, f4, f5, f6, f7⟩ := cells8 (H12.out.up hb)
            exact ⟨hb, c0, c1, c2, c3, c4, c5, c6, c7, d0, d1, d2, d3, d4, d5, d6, d7, e0, e1, e2, e3, e4, e5, e6, e7, f0, f1, f2, f3, f4, f5, f6, f7⟩)
          obtain ⟨hS0, c0, c1, c2, c3, c4, c5, c6, c7, d0, d1, d2, d3, d4, d5, d6, d7, e0, e1, e2, e3, e4, e5, e6, e7, f0, f1, f2, f3, f4, f5, f6, f7⟩ := KS.out wc (Below.refl _ _)
          go_wp2_with fail
          go_region_held3 (fun w' => Below wc.heap.size wc w' ∧ w'.cell? ⟨m1, 0, none⟩ = some (.int .i64 r.c.no) ∧ w'.cell? ⟨m1, 1, none⟩ = some (.slice r.c.a r.c.len r.c.cap) ∧ w'.cell? ⟨m1, 2, none⟩ = some (.int .i64 r.o.no) ∧ w'.cell? ⟨m1, 3, none⟩ = some (.slice r.o.a r.o.len r.o.cap) ∧ w'.cell? ⟨m1, 4, none⟩ = some (.int .i64 r.p.no) ∧ w'.cell? ⟨m1, 5, none⟩ = some (.slice r.p.a r.p.len r.p.cap) ∧ w'.cell? ⟨m1, 6, none⟩ = some (.int .i64 r.l) ∧ w'.cell? ⟨m1, 7, none⟩ = some (.int .i64 r.t) ∧ w'.cell? ⟨b8, 0, none⟩ = some (.int .i64 r.c.no) ∧ w'.cell? ⟨b8, 1, none⟩ = some (.slice r.c.a r.c.len r.c.cap) ∧ w'.cell? ⟨b8, 2, none⟩ = some (.int .i64 r.o.no) ∧ w'.cell? ⟨b8, 3, none⟩ = some (.slice r.o.a r.o.len r.o.cap) ∧ w'.cell? ⟨b8, 4, none⟩ = some (.int .i64 no) ∧ w'.cell? ⟨b8, 5, none⟩ = some (.slice ka 32 32) ∧ w'.cell? ⟨b8, 6, none⟩ = some (.int .i64 r.l) ∧ w'.cell? ⟨b8, 7, none⟩ = some (.int .i64 M) ∧ w'.cell? ⟨b10, 0, none⟩ = some (.int .i64 r.c.no) ∧ w'.cell? ⟨b10, 1, none⟩ = some (.slice r.c.a r.c.len r.c.cap) ∧ w'.cell? ⟨b10, 2, none⟩ = some (.int .i64 r.o.no) ∧ w'.cell? ⟨b10, 3, none⟩ = some (.slice r.o.a r.o.len r.o.cap) ∧ w'.cell? ⟨b10, 4, none⟩ = some (.int .i64 no) ∧ w'.cell? ⟨b10, 5, none⟩ = some (.slice kb 32 32) ∧ w'.cell? ⟨b10, 6, none⟩ = some (.int .i64 r.l) ∧ w'.cell? ⟨b10, 7, none⟩ = some (.int .i64 M) ∧ w'.cell? ⟨b12, 0, none⟩ = some (.int .i64 r.c.no) ∧ w'.cell? ⟨b12, 1, none⟩ = some (.slice r.c.a r.c.len r.c.cap) ∧ w'.cell? ⟨b12, 2, none⟩ = some (.int .i64 r.o.no) ∧ w'.cell? ⟨b12, 3, none⟩ = some (.slice r.o.a r.o.len r.o.cap) ∧ w'.cell? ⟨b12, 4, none⟩ = some (.int .i64 no) ∧ w'.cell? ⟨b12, 5, none⟩ = some (.slice kd 32 32) ∧ w'.cell? ⟨b12, 6, none⟩ = some (.int .i64 r.l) ∧ w'.cell? ⟨b12, 7, none⟩ = some (.int .i64 M))
            (first
              | (go_split_ands; exact KS.out _ (bt (by assumption) hc1))
              | (go_split_ands; exact KS.out _ (bt (by assumption) hc2))
              | (go_split_ands; exact KS.out _ (bt (by assumption) hc3))
              | (go_split_ands; exact KS.out _ (bt (by assumption) hc4))
              | (go_split_ands; exact KS.out _ (bt (by assumption) hc5))
              | (exact KS.out _ (bd _))
              | (go_split_ands; exact KS.out _ (by assumption))
              | go_keep)
            (first
              | (go_at_call 13; go_split_ands; (with_reducible refine Calls.mono (SS.out _ kb kd (bt Hb.out (by assumption)) (P10.out.mono (by assumption)) (P12.out.mono (by assumption))) ?_); rintro e x1 ⟨rfl, hc1⟩)
              | (go_at_call 29; go_split_ands; (with_reducible refine Calls.mono (HKb.out _) ?_); rintro e x2 ⟨q2, rfl, hq2, -, hc2⟩)
              | (go_at_call 20; go_split_ands; (with_reducible refine Calls.mono (same01_any kb (some ⟨q2, 0, none⟩) 32 32 32 32 (List.replicate 32 fb) (List.replicate 32 fb) _ (by simp) (by simp) (P10.out.mono (by assumption)) hq2.bytes) ?_); rintro e x3 ⟨rfl, rfl⟩)
              | (go_at_call 25; go_split_ands; (with_reducible refine Calls.mono (HW.out kb _) ?_); rintro e x4 ⟨rfl, hc3⟩)
              | (go_at_call 25; go_split_ands; (with_reducible refine Calls.mono (HW.out ka _) ?_); rintro e x5 ⟨rfl, hc4⟩)
              | (go_at_call 13; go_split_ands; (with_reducible refine Calls.mono (SU.out _ (bt Hb.out (by assumption))) ?_); rintro e x6 ⟨rfl, hc5⟩))
          all_goals
            go_split_ands
            go_wp2_with fail
            go_ret
            exact ⟨rfl, bt Hb.out (by assumption)⟩
end Go.Proofs.Ytelndpphbpandaa
