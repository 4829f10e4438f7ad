/- Rings of keys: which are the same, of the program. -/
import Derived.Test.YtelndpphbpandaaRingG
import Derived.Deep.RegionHeld3
import Derived.Deep.QuietTactic
import Derived.BigQuiet
set_option linter.unusedSimpArgs false
set_option linter.unusedVariables false
namespace Go.Proofs.Ytelndpphbpandaa
open Go.RowKit

theorem Blk.upR {w w' : World} (hb : Below w.heap.size w w') {b : Nat} {cs : List Value} (h : Blk w b cs) : Blk w' b cs := h.up hb
theorem ban (w : World) (o : Obj) (n : Nat) : Below w.heap.size w ((w.alloc o).drewN n) := (ba w o).trans ⟨rfl, rfl, rfl, Nat.le_refl _, fun _ _ => rfl⟩
theorem bta {W w : World} (h : Below W.heap.size W w) (o : Obj) : Below W.heap.size W (w.alloc o) := bt h (ba w o)
theorem btd {W w : World} (h : Below W.heap.size W w) : Below W.heap.size W w.drew := bt h (bd w)
theorem bt3 {W a b : World} (k : Below a.heap.size a b) (h : Below W.heap.size W a) : Below W.heap.size W b := bt h k
theorem gset6 {w : World} {b : Nat} {a0 a1 a2 a3 a4 a5 v0 v1 v2 v3 v4 v5 : Value} (h : Blk w b [a0, a1, a2, a3, a4, a5]) :
    Blk ((((((w.setCell ⟨b, 0, none⟩ v0).setCell ⟨b, 1, none⟩ v1).setCell ⟨b, 2, none⟩ v2).setCell ⟨b, 3, none⟩ v3).setCell ⟨b, 4, none⟩ v4).setCell ⟨b, 5, none⟩ v5) b [v0, v1, v2, v3, v4, v5] :=
  (((((h.set 0 _).set 1 _).set 2 _).set 3 _).set 4 _).set 5 _
theorem gset6_other {w : World} {c b : Nat} {cs : List Value} {v0 v1 v2 v3 v4 v5 : Value} (h : Blk w c cs) (hn : c ≠ b) :
    Blk ((((((w.setCell ⟨b, 0, none⟩ v0).setCell ⟨b, 1, none⟩ v1).setCell ⟨b, 2, none⟩ v2).setCell ⟨b, 3, none⟩ v3).setCell ⟨b, 4, none⟩ v4).setCell ⟨b, 5, none⟩ v5) c cs :=
  (((((h.other ⟨b, 0, none⟩ hn _).other ⟨b, 1, none⟩ hn _).other ⟨b, 2, none⟩ hn _).other ⟨b, 3, none⟩ hn _).other ⟨b, 4, none⟩ hn _).other ⟨b, 5, none⟩ hn _
theorem blkN6 {w : World} {b : Nat} {v0 v1 v2 v3 v4 v5 : Value} (cs : List Value) (T : TypeId) :
    Blk (((((((w.setCell ⟨b, 0, none⟩ v0).setCell ⟨b, 1, none⟩ v1).setCell ⟨b, 2, none⟩ v2).setCell ⟨b, 3, none⟩ v3).setCell ⟨b, 4, none⟩ v4).setCell ⟨b, 5, none⟩ v5).alloc (.cells cs.toArray T)) w.heap.size cs := by
  have := Blk.new ((((((w.setCell ⟨b, 0, none⟩ v0).setCell ⟨b, 1, none⟩ v1).setCell ⟨b, 2, none⟩ v2).setCell ⟨b, 3, none⟩ v3).setCell ⟨b, 4, none⟩ v4).setCell ⟨b, 5, none⟩ v5) cs T
  have h : ((((((w.setCell ⟨b, 0, none⟩ v0).setCell ⟨b, 1, none⟩ v1).setCell ⟨b, 2, none⟩ v2).setCell ⟨b, 3, none⟩ v3).setCell ⟨b, 4, none⟩ v4).setCell ⟨b, 5, none⟩ v5).heap.size = w.heap.size := by simp
  rwa [h] at this
theorem gset6_below {w0 w : World} {B b : Nat} {v0 v1 v2 v3 v4 v5 : Value} (h : Below B w0 w) (hb : B ≤ b) :
    Below B w0 ((((((w.setCell ⟨b, 0, none⟩ v0).setCell ⟨b, 1, none⟩ v1).setCell ⟨b, 2, none⟩ v2).setCell ⟨b, 3, none⟩ v3).setCell ⟨b, 4, none⟩ v4).setCell ⟨b, 5, none⟩ v5) :=
  (((((h.setCell hb _).setCell hb _).setCell hb _).setCell hb _).setCell hb _).setCell hb _

set_option maxHeartbeats 8000000 in
theorem same_any (r s : Rg) (kc ko kp jc jo jp : List UInt8) (w : World) (hr : RgAt w r kc ko kp) (hs : RgAt w s jc jo jp) :
    Calls Try.prog 15 #[r.v, s.v] w fun e w' => e = .returned (.bool (sameB r s kc ko kp jc jo jp)) ∧ Below w.heap.size w w' := by
  have Hr := Lib.hid hr
  have Hs := Lib.hid hs
  clear hr hs
  go_enter Try.func15, Try.ntmps15
  go_wp2_with fail
  generalize hW : World.alloc _ _ = W
  obtain ⟨HA, HB, hb⟩ := ring2_world (a := r.L) (b := s.L) hW
  clear hW
  have HA := Lib.hid HA
  have HB := Lib.hid HB
  have Hb := Lib.hid hb
  clear hb
  generalize hn1 : w.heap.size + 1 = n1 at HB ⊢
  have Hn1 := Lib.hid (show w.heap.size ≤ n1 by omega)
  clear hn1
  go_cut [5, 6] (fun v5 v6 wx => ∃ b5 b6 : Nat, v5 = .pointer (some ⟨b5, 0, none⟩) ∧ v6 = .pointer (some ⟨b6, 0, none⟩) ∧ Blk wx b5 (gen6 r.c r.o r.p) ∧ Blk wx b6 (gen6 s.c s.o s.p) ∧ Below W.heap.size W wx)
  case first =>
    have KS := Lib.hid (show ∀ w', Below W.heap.size W w' → (Below W.heap.size W w' ∧ w'.cell? ⟨w.heap.size, 0, none⟩ = some (.int .i64 r.c.no) ∧ w'.cell? ⟨w.heap.size, 1, none⟩ = some (.slice r.c.a r.c.len r.c.cap) ∧ w'.cell? ⟨w.heap.size, 2, none⟩ = some (.int .i64 r.o.no) ∧ w'.cell? ⟨w.heap.size, 3, none⟩ = some (.slice r.o.a r.o.len r.o.cap) ∧ w'.cell? ⟨w.heap.size, 4, none⟩ = some (.int .i64 r.p.no) ∧ w'.cell? ⟨w.heap.size, 5, none⟩ = some (.slice r.p.a r.p.len r.p.cap) ∧ w'.cell? ⟨w.heap.size, 6, none⟩ = some (.int .i64 r.l) ∧ w'.cell? ⟨w.heap.size, 7, none⟩ = some (.int .i64 r.t) ∧ w'.cell? ⟨n1, 0, none⟩ = some (.int .i64 s.c.no) ∧ w'.cell? ⟨n1, 1, none⟩ = some (.slice s.c.a s.c.len s.c.cap) ∧ w'.cell? ⟨n1, 2, none⟩ = some (.int .i64 s.o.no) ∧ w'.cell? ⟨n1, 3, none⟩ = some (.slice s.o.a s.o.len s.o.cap) ∧ w'.cell? ⟨n1, 4, none⟩ = some (.int .i64 s.p.no) ∧ w'.cell? ⟨n1, 5, none⟩ = some (.slice s.p.a s.p.len s.p.cap) ∧ w'.cell? ⟨n1, 6, none⟩ = some (.int .i64 s.l) ∧ w'.cell? ⟨n1, 7, none⟩ = some (.int .i64 s.t)) from fun w' hb => by
      obtain ⟨c0, c1, c2, c3, c4, c5, c6, c7⟩ := ring_cells (HA.out.up hb)
      obtain ⟨d0, d1, d2, d3, d4, d5, d6, d7⟩ := ring_cells (HB.out.up hb)
      exact ⟨hb, c0, c1, c2, c3, c4, c5, c6, c7, d0, d1, d2, d3, d4, d5, d6, d7⟩)
    obtain ⟨hS0, c0, c1, c2, c3, c4, c5, c6, c7, d0, d1, d2, d3, d4, d5, d6, d7⟩ := KS.out W (Below.refl _ _)
    go_region_held3 (fun w' => Below W.heap.size W w' ∧ w'.cell? ⟨w.heap.size, 0, none⟩ = some (.int .i64 r.c.no) ∧ w'.cell? ⟨w.heap.size, 1, none⟩ = some (.slice r.c.a r.c.len r.c.cap) ∧ w'.cell? ⟨w.heap.size, 2, none⟩ = some (.int .i64 r.o.no) ∧ w'.cell? ⟨w.heap.size, 3, none⟩ = some (.slice r.o.a r.o.len r.o.cap) ∧ w'.cell? ⟨w.heap.size, 4, none⟩ = some (.int .i64 r.p.no) ∧ w'.cell? ⟨w.heap.size, 5, none⟩ = some (.slice r.p.a r.p.len r.p.cap) ∧ w'.cell? ⟨w.heap.size, 6, none⟩ = some (.int .i64 r.l) ∧ w'.cell? ⟨w.heap.size, 7, none⟩ = some (.int .i64 r.t) ∧ w'.cell? ⟨n1, 0, none⟩ = some (.int .i64 s.c.no) ∧ w'.cell? ⟨n1, 1, none⟩ = some (.slice s.c.a s.c.len s.c.cap) ∧ w'.cell? ⟨n1, 2, none⟩ = some (.int .i64 s.o.no) ∧ w'.cell? ⟨n1, 3, none⟩ = some (.slice s.o.a s.o.len s.o.cap) ∧ w'.cell? ⟨n1, 4, none⟩ = some (.int .i64 s.p.no) ∧ w'.cell? ⟨n1, 5, none⟩ = some (.slice s.p.a s.p.len s.p.cap) ∧ w'.cell? ⟨n1, 6, none⟩ = some (.int .i64 s.l) ∧ w'.cell? ⟨n1, 7, none⟩ = some (.int .i64 s.t))
      (first
        | (apply KS.out; (with_reducible ((try apply bta); (try apply bta); (try (apply gset6_below; rotate_left; first | apply Nat.le_refl | exact hw2 | apply Nat.le_succ | exact Nat.le_succ_of_le hw2)); (try apply bta); (try (apply gset6_below; rotate_left; first | apply Nat.le_refl | exact hw2 | apply Nat.le_succ | exact Nat.le_succ_of_le hw2)); (try apply bta); (try apply bta); (try apply bt3 hb3); (try apply bta); (try apply bta); (try apply bt3 hb2); (try apply bta); (try apply bta); (first | apply Below.refl | (apply btd; (try apply bta); (try apply bta); apply Below.refl)))))
        | fail)
      (first
        | (go_at_call 39; go_split_ands; ((with_reducible refine Calls.mono (all_any r.c r.o r.p r.l r.t _) ?_); rintro e w2 ⟨rfl, hb2⟩; have hzw2 := hb2.size; have hw2 : W.heap.size ≤ w2.heap.size := (by have := hb2.size; first | omega | (simp at this; omega)); (try ((with_reducible have ub1 := Blk.upR hb2 ub1); have fub1 := ub1.frozen; have lub1 := ub1.lt; obtain ⟨x0, x1, x2, x3, x4, x5⟩ := gen6_world ub1)); (try ((with_reducible have ub1 := Blk.upR hb2 (ub1.alloc _)); have fub1 := ub1.frozen; have lub1 := ub1.lt; obtain ⟨x0, x1, x2, x3, x4, x5⟩ := gen6_world ub1)); (try ((with_reducible have ub1 := Blk.upR hb2 ((ub1.alloc _).alloc _)); have fub1 := ub1.frozen; have lub1 := ub1.lt; obtain ⟨x0, x1, x2, x3, x4, x5⟩ := gen6_world ub1)); (try ((with_reducible have ub2 := Blk.upR hb2 ub2); have fub2 := ub2.frozen; have lub2 := ub2.lt; obtain ⟨x0, x1, x2, x3, x4, x5⟩ := gen6_world ub2)); (try ((with_reducible have ub2 := Blk.upR hb2 (ub2.alloc _)); have fub2 := ub2.frozen; have lub2 := ub2.lt; obtain ⟨x0, x1, x2, x3, x4, x5⟩ := gen6_world ub2)); (try ((with_reducible have ub2 := Blk.upR hb2 ((ub2.alloc _).alloc _)); have fub2 := ub2.frozen; have lub2 := ub2.lt; obtain ⟨x0, x1, x2, x3, x4, x5⟩ := gen6_world ub2)); (try ((with_reducible have ub3 := Blk.upR hb2 ub3); have fub3 := ub3.frozen; have lub3 := ub3.lt; obtain ⟨x0, x1, x2, x3, x4, x5⟩ := gen6_world ub3)); (try ((with_reducible have ub3 := Blk.upR hb2 (ub3.alloc _)); have fub3 := ub3.frozen; have lub3 := ub3.lt; obtain ⟨x0, x1, x2, x3, x4, x5⟩ := gen6_world ub3)); (try ((with_reducible have ub3 := Blk.upR hb2 ((ub3.alloc _).alloc _)); have fub3 := ub3.frozen; have lub3 := ub3.lt; obtain ⟨x0, x1, x2, x3, x4, x5⟩ := gen6_world ub3)); (try ((with_reducible have ua1 := Blk.up (Blk.new _ (gen6 G0 G0 G0) _) hb2); have fua1 := ua1.frozen; have lua1 := ua1.lt; obtain ⟨x0, x1, x2, x3, x4, x5⟩ := gen6_world ua1)); (try ((with_reducible have ua1 := Blk.up (Blk.new _ (gen6 G0 G0 G0) _).drew hb2); have fua1 := ua1.frozen; have lua1 := ua1.lt; obtain ⟨x0, x1, x2, x3, x4, x5⟩ := gen6_world ua1)); (try ((with_reducible have ua2 := Blk.up ((Blk.new _ (gen6 G0 G0 G0) _).alloc _) hb2); have fua2 := ua2.frozen; have lua2 := ua2.lt; obtain ⟨x0, x1, x2, x3, x4, x5⟩ := gen6_world ua2)); (try ((with_reducible have ua2 := Blk.up ((Blk.new _ (gen6 G0 G0 G0) _).alloc _).drew hb2); have fua2 := ua2.frozen; have lua2 := ua2.lt; obtain ⟨x0, x1, x2, x3, x4, x5⟩ := gen6_world ua2)); (try ((with_reducible have ua3 := Blk.up (blk1 _ _ (gen6 G0 G0 G0) _) hb2); have fua3 := ua3.frozen; have lua3 := ua3.lt; obtain ⟨x0, x1, x2, x3, x4, x5⟩ := gen6_world ua3)); (try ((with_reducible have ua3 := Blk.up (blk1 _ _ (gen6 G0 G0 G0) _).drew hb2); have fua3 := ua3.frozen; have lua3 := ua3.lt; obtain ⟨x0, x1, x2, x3, x4, x5⟩ := gen6_world ua3))))
        | (go_at_call 39; go_split_ands; ((with_reducible refine Calls.mono (all_any s.c s.o s.p s.l s.t _) ?_); rintro e w3 ⟨rfl, hb3⟩; have hzw3 := hb3.size; have hw3 : W.heap.size ≤ w3.heap.size := (by have := hb3.size; first | omega | (simp at this; omega)); (try ((with_reducible have ua1 := Blk.upR hb3 ua1); have fua1 := ua1.frozen; have lua1 := ua1.lt; obtain ⟨x0, x1, x2, x3, x4, x5⟩ := gen6_world ua1)); (try ((with_reducible have ua1 := Blk.upR hb3 (ua1.alloc _)); have fua1 := ua1.frozen; have lua1 := ua1.lt; obtain ⟨x0, x1, x2, x3, x4, x5⟩ := gen6_world ua1)); (try ((with_reducible have ua1 := Blk.upR hb3 ((ua1.alloc _).alloc _)); have fua1 := ua1.frozen; have lua1 := ua1.lt; obtain ⟨x0, x1, x2, x3, x4, x5⟩ := gen6_world ua1)); (try ((with_reducible have ua2 := Blk.upR hb3 ua2); have fua2 := ua2.frozen; have lua2 := ua2.lt; obtain ⟨x0, x1, x2, x3, x4, x5⟩ := gen6_world ua2)); (try ((with_reducible have ua2 := Blk.upR hb3 (ua2.alloc _)); have fua2 := ua2.frozen; have lua2 := ua2.lt; obtain ⟨x0, x1, x2, x3, x4, x5⟩ := gen6_world ua2)); (try ((with_reducible have ua2 := Blk.upR hb3 ((ua2.alloc _).alloc _)); have fua2 := ua2.frozen; have lua2 := ua2.lt; obtain ⟨x0, x1, x2, x3, x4, x5⟩ := gen6_world ua2)); (try ((with_reducible have ua3 := Blk.upR hb3 ua3); have fua3 := ua3.frozen; have lua3 := ua3.lt; obtain ⟨x0, x1, x2, x3, x4, x5⟩ := gen6_world ua3)); (try ((with_reducible have ua3 := Blk.upR hb3 (ua3.alloc _)); have fua3 := ua3.frozen; have lua3 := ua3.lt; obtain ⟨x0, x1, x2, x3, x4, x5⟩ := gen6_world ua3)); (try ((with_reducible have ua3 := Blk.upR hb3 ((ua3.alloc _).alloc _)); have fua3 := ua3.frozen; have lua3 := ua3.lt; obtain ⟨x0, x1, x2, x3, x4, x5⟩ := gen6_world ua3)); (try ((with_reducible have ub1 := Blk.up (Blk.new _ (gen6 G0 G0 G0) _) hb3); have fub1 := ub1.frozen; have lub1 := ub1.lt; obtain ⟨x0, x1, x2, x3, x4, x5⟩ := gen6_world ub1)); (try ((with_reducible have ub1 := Blk.up (Blk.new _ (gen6 G0 G0 G0) _).drew hb3); have fub1 := ub1.frozen; have lub1 := ub1.lt; obtain ⟨x0, x1, x2, x3, x4, x5⟩ := gen6_world ub1)); (try ((with_reducible have ub2 := Blk.up ((Blk.new _ (gen6 G0 G0 G0) _).alloc _) hb3); have fub2 := ub2.frozen; have lub2 := ub2.lt; obtain ⟨x0, x1, x2, x3, x4, x5⟩ := gen6_world ub2)); (try ((with_reducible have ub2 := Blk.up ((Blk.new _ (gen6 G0 G0 G0) _).alloc _).drew hb3); have fub2 := ub2.frozen; have lub2 := ub2.lt; obtain ⟨x0, x1, x2, x3, x4, x5⟩ := gen6_world ub2)); (try ((with_reducible have ub3 := Blk.up (blk1 _ _ (gen6 G0 G0 G0) _) hb3); have fub3 := ub3.frozen; have lub3 := ub3.lt; obtain ⟨x0, x1, x2, x3, x4, x5⟩ := gen6_world ub3)); (try ((with_reducible have ub3 := Blk.up (blk1 _ _ (gen6 G0 G0 G0) _).drew hb3); have fub3 := ub3.frozen; have lub3 := ub3.lt; obtain ⟨x0, x1, x2, x3, x4, x5⟩ := gen6_world ub3)))))
    all_goals
      go_split_ands
      go_wp2_with fail
      go_meet
      refine ⟨_, _, rfl, rfl, ?_, ?_, ?h3⟩
      case h3 => (with_reducible ((try apply bta); (try apply bta); (try (apply gset6_below; rotate_left; first | apply Nat.le_refl | exact hw2 | apply Nat.le_succ | exact Nat.le_succ_of_le hw2)); (try apply bta); (try (apply gset6_below; rotate_left; first | apply Nat.le_refl | exact hw2 | apply Nat.le_succ | exact Nat.le_succ_of_le hw2)); (try apply bta); (try apply bta); (try apply bt3 hb3); (try apply bta); (try apply bta); (try apply bt3 hb2); (try apply bta); (try apply bta); (first | apply Below.refl | (apply btd; (try apply bta); (try apply bta); apply Below.refl))))
      all_goals
        with_reducible (repeat (first | assumption | apply Blk.new | apply blk1 | apply blkN6 | apply gset6 | apply gset6_other | apply Blk.alloc))
      all_goals first
        | omega
        | fail
  case rest =>
    obtain ⟨b5, b6, rfl, rfl, h5, h6, hbc⟩ := hcut
    have HA := Lib.hid (HA.out.up hbc)
    have HB := Lib.hid (HB.out.up hbc)
    have Hb := Lib.hid (bt Hb.out hbc)
    have H6 := Lib.hid h6
    obtain ⟨c0, c1, c2, c3, c4, c5⟩ := gen6_world h5
    clear h5 h6 hbc
    go_wp2_with fail
    clear c0 c1 c2 c3 c4 c5
    go_loopw [16] (fun i wr => ∃ k : Int, 0 ≤ k ∧ k ≤ 3 ∧ i = .int .i64 k ∧ (0 < k → sameG r.c.no s.c.no kc jc = true) ∧ (1 < k → sameG r.o.no s.o.no ko jo = true) ∧ (2 < k → sameG r.p.no s.p.no kp jp = true) ∧ Below wc.heap.size wc wr) (fun i _ => 3 - (intOf i).toNat)
    case atStart => exact ⟨0, by omega, by omega, rfl, by omega, by omega, by omega, Below.refl _ _⟩
    case round =>
      obtain ⟨k, hk0, hk3, rfl, h0, h1, h2, hb⟩ := hrel
      have Hbr := Lib.hid hb
      have Hbx := Lib.hid (bt Hb.out hb)
      have H6 := Lib.hid (H6.out.up hb)
      have l6 := H6.out.lt
      obtain ⟨d0, d1, d2, d3, d4, d5⟩ := gen6_world H6.out
      clear hb
      have e0 := fun W => run_gen0 (.int .i64 r.c.no) (.slice r.c.a r.c.len r.c.cap) (.int .i64 r.o.no) (.slice r.o.a r.o.len r.o.cap) (.int .i64 r.p.no) (.slice r.p.a r.p.len r.p.cap) W
      have e1 := fun W => run_gen1 (.int .i64 r.c.no) (.slice r.c.a r.c.len r.c.cap) (.int .i64 r.o.no) (.slice r.o.a r.o.len r.o.cap) (.int .i64 r.p.no) (.slice r.p.a r.p.len r.p.cap) W
      have e2 := fun W => run_gen2 (.int .i64 r.c.no) (.slice r.c.a r.c.len r.c.cap) (.int .i64 r.o.no) (.slice r.o.a r.o.len r.o.cap) (.int .i64 r.p.no) (.slice r.p.a r.p.len r.p.cap) W
      rcases (show k = 0 ∨ k = 1 ∨ k = 2 ∨ k = 3 by omega) with rfl | rfl | rfl | rfl
      · clear h0 h1 h2
        have hw : ∀ W, At W r.c.a (B8s kc) → At W s.c.a (B8s jc) → Calls Try.prog 40 #[.slice r.c.a r.c.len r.c.cap, .slice s.c.a s.c.len s.c.cap] W fun e w' => e = .returned (.bool (kc == jc)) ∧ w' = W := fun W h1 h2 => (bequal_any _ _ _ _ _ _ _ _ W Hr.out.lc Hs.out.lc h1 h2).mono fun _ _ ⟨h3, h4⟩ => ⟨h3, h4.symm⟩
        have Hw := Lib.hid hw
        have HP := Lib.hid (Hr.out.c.mono Hbx.out)
        have HQ := Lib.hid (Hs.out.c.mono Hbx.out)
        clear hw
        rcases hq : (r.c.no == s.c.no) with _ | _
        · have hd : (r.c.no != s.c.no) = true := by simpa [bne] using hq
          have HF := Lib.hid (show sameB r s kc ko kp jc jo jp = false by simp [sameB, sameG, hq])
          clear hq
          go_wp2_with fail
          go_quiet ((go_at_call 40; exact Calls.quiet_of_same (Hw.out _ (HP.out.mono (ban _ _ _)) (HQ.out.mono (ban _ _ _)))))
          all_goals
            go_wp2_with fail
            go_ret
            exact ⟨by rw [HF.out]; rfl, (bt Hbx.out (ba _ _)).trans ⟨rfl, rfl, rfl, Nat.le_refl _, fun _ _ => rfl⟩⟩
        · have hd : (r.c.no != s.c.no) = false := by simpa [bne] using hq
          rcases hv : (kc == jc) with _ | _
          · have HF := Lib.hid (show sameB r s kc ko kp jc jo jp = false by simp only [sameB, sameG, hq, hv]; simp)
            have Hw := Lib.hid (show ∀ W, At W r.c.a (B8s kc) → At W s.c.a (B8s jc) → Calls Try.prog 40 #[.slice r.c.a r.c.len r.c.cap, .slice s.c.a s.c.len s.c.cap] W fun e w' => e = .returned (.bool false) ∧ w' = W by have := Hw.out; rwa [hv] at this)
            clear hq hv
            go_wp2_with fail
            go_quiet ((go_at_call 40; exact Calls.quiet_of_same (Hw.out _ (HP.out.mono (ban _ _ _)) (HQ.out.mono (ban _ _ _)))))
            all_goals
              go_wp2_with fail
              go_ret
              exact ⟨by rw [HF.out]; rfl, (bt Hbx.out (ba _ _)).trans ⟨rfl, rfl, rfl, Nat.le_refl _, fun _ _ => rfl⟩⟩
          · have HK := Lib.hid (show sameG r.c.no s.c.no kc jc = true by simp only [sameG, hq, hv]; rfl)
            have Hw := Lib.hid (show ∀ W, At W r.c.a (B8s kc) → At W s.c.a (B8s jc) → Calls Try.prog 40 #[.slice r.c.a r.c.len r.c.cap, .slice s.c.a s.c.len s.c.cap] W fun e w' => e = .returned (.bool true) ∧ w' = W by have := Hw.out; rwa [hv] at this)
            clear hq hv
            go_wp2_with fail
            go_quiet ((go_at_call 40; exact Calls.quiet_of_same (Hw.out _ (HP.out.mono (ban _ _ _)) (HQ.out.mono (ban _ _ _)))))
            all_goals
              go_wp2_with fail
              exact ⟨⟨1, by decide, by decide, rfl, fun _ => HK.out, by omega, by omega, (bt Hbr.out (ba _ _)).trans ⟨rfl, rfl, rfl, Nat.le_refl _, fun _ _ => rfl⟩⟩, by simp [intOf]⟩
      · have K0 := Lib.hid (h0 (by decide))
        clear h0 h1 h2
        have hw : ∀ W, At W r.o.a (B8s ko) → At W s.o.a (B8s jo) → Calls Try.prog 40 #[.slice r.o.a r.o.len r.o.cap, .slice s.o.a s.o.len s.o.cap] W fun e w' => e = .returned (.bool (ko == jo)) ∧ w' = W := fun W h1 h2 => (bequal_any _ _ _ _ _ _ _ _ W Hr.out.lo Hs.out.lo h1 h2).mono fun _ _ ⟨h3, h4⟩ => ⟨h3, h4.symm⟩
        have Hw := Lib.hid hw
        have HP := Lib.hid (Hr.out.o.mono Hbx.out)
        have HQ := Lib.hid (Hs.out.o.mono Hbx.out)
        clear hw
        rcases hq : (r.o.no == s.o.no) with _ | _
        · have hd : (r.o.no != s.o.no) = true := by simpa [bne] using hq
          have HF := Lib.hid (show sameB r s kc ko kp jc jo jp = false by simp [sameB, K0.out, sameG, hq])
          clear hq
          go_wp2_with fail
          go_quiet ((go_at_call 40; exact Calls.quiet_of_same (Hw.out _ (HP.out.mono (ban _ _ _)) (HQ.out.mono (ban _ _ _)))))
          all_goals
            go_wp2_with fail
            go_ret
            exact ⟨by rw [HF.out]; rfl, (bt Hbx.out (ba _ _)).trans ⟨rfl, rfl, rfl, Nat.le_refl _, fun _ _ => rfl⟩⟩
        · have hd : (r.o.no != s.o.no) = false := by simpa [bne] using hq
          rcases hv : (ko == jo) with _ | _
          · have HF := Lib.hid (show sameB r s kc ko kp jc jo jp = false by simp only [sameB, K0.out, sameG, hq, hv]; simp)
            have Hw := Lib.hid (show ∀ W, At W r.o.a (B8s ko) → At W s.o.a (B8s jo) → Calls Try.prog 40 #[.slice r.o.a r.o.len r.o.cap, .slice s.o.a s.o.len s.o.cap] W fun e w' => e = .returned (.bool false) ∧ w' = W by have := Hw.out; rwa [hv] at this)
            clear hq hv
            go_wp2_with fail
            go_quiet ((go_at_call 40; exact Calls.quiet_of_same (Hw.out _ (HP.out.mono (ban _ _ _)) (HQ.out.mono (ban _ _ _)))))
            all_goals
              go_wp2_with fail
              go_ret
              exact ⟨by rw [HF.out]; rfl, (bt Hbx.out (ba _ _)).trans ⟨rfl, rfl, rfl, Nat.le_refl _, fun _ _ => rfl⟩⟩
          · have HK := Lib.hid (show sameG r.o.no s.o.no ko jo = true by simp only [sameG, hq, hv]; rfl)
            have Hw := Lib.hid (show ∀ W, At W r.o.a (B8s ko) → At W s.o.a (B8s jo) → Calls Try.prog 40 #[.slice r.o.a r.o.len r.o.cap, .slice s.o.a s.o.len s.o.cap] W fun e w' => e = .returned (.bool true) ∧ w' = W by have := Hw.out; rwa [hv] at this)
            clear hq hv
            go_wp2_with fail
            go_quiet ((go_at_call 40; exact Calls.quiet_of_same (Hw.out _ (HP.out.mono (ban _ _ _)) (HQ.out.mono (ban _ _ _)))))
            all_goals
              go_wp2_with fail
              exact ⟨⟨2, by decide, by decide, rfl, fun _ => K0.out, fun _ => HK.out, by omega, (bt Hbr.out (ba _ _)).trans ⟨rfl, rfl, rfl, Nat.le_refl _, fun _ _ => rfl⟩⟩, by simp [intOf]⟩
      · have K0 := Lib.hid (h0 (by decide))
        have K1 := Lib.hid (h1 (by decide))
        clear h0 h1 h2
        have hw : ∀ W, At W r.p.a (B8s kp) → At W s.p.a (B8s jp) → Calls Try.prog 40 #[.slice r.p.a r.p.len r.p.cap, .slice s.p.a s.p.len s.p.cap] W fun e w' => e = .returned (.bool (kp == jp)) ∧ w' = W := fun W h1 h2 => (bequal_any _ _ _ _ _ _ _ _ W Hr.out.lp Hs.out.lp h1 h2).mono fun _ _ ⟨h3, h4⟩ => ⟨h3, h4.symm⟩
        have Hw := Lib.hid hw
        have HP := Lib.hid (Hr.out.p.mono Hbx.out)
        have HQ := Lib.hid (Hs.out.p.mono Hbx.out)
        clear hw
        rcases hq : (r.p.no == s.p.no) with _ | _
        · have hd : (r.p.no != s.p.no) = true := by simpa [bne] using hq
          have HF := Lib.hid (show sameB r s kc ko kp jc jo jp = false by simp [sameB, K0.out, K1.out, sameG, hq])
          clear hq
          go_wp2_with fail
          go_quiet ((go_at_call 40; exact Calls.quiet_of_same (Hw.out _ (HP.out.mono (ban _ _ _)) (HQ.out.mono (ban _ _ _)))))
          all_goals
            go_wp2_with fail
            go_ret
            exact ⟨by rw [HF.out]; rfl, (bt Hbx.out (ba _ _)).trans ⟨rfl, rfl, rfl, Nat.le_refl _, fun _ _ => rfl⟩⟩
        · have hd : (r.p.no != s.p.no) = false := by simpa [bne] using hq
          rcases hv : (kp == jp) with _ | _
          · have HF := Lib.hid (show sameB r s kc ko kp jc jo jp = false by simp only [sameB, K0.out, K1.out, sameG, hq, hv]; simp)
            have Hw := Lib.hid (show ∀ W, At W r.p.a (B8s kp) → At W s.p.a (B8s jp) → Calls Try.prog 40 #[.slice r.p.a r.p.len r.p.cap, .slice s.p.a s.p.len s.p.cap] W fun e w' => e = .returned (.bool false) ∧ w' = W by have := Hw.out; rwa [hv] at this)
            clear hq hv
            go_wp2_with fail
            go_quiet ((go_at_call 40; exact Calls.quiet_of_same (Hw.out _ (HP.out.mono (ban _ _ _)) (HQ.out.mono (ban _ _ _)))))
            all_goals
              go_wp2_with fail
              go_ret
              exact ⟨by rw [HF.out]; rfl, (bt Hbx.out (ba _ _)).trans ⟨rfl, rfl, rfl, Nat.le_refl _, fun _ _ => rfl⟩⟩
          · have HK := Lib.hid (show sameG r.p.no s.p.no kp jp = true by simp only [sameG, hq, hv]; rfl)
            have Hw := Lib.hid (show ∀ W, At W r.p.a (B8s kp) → At W s.p.a (B8s jp) → Calls Try.prog 40 #[.slice r.p.a r.p.len r.p.cap, .slice s.p.a s.p.len s.p.cap] W fun e w' => e = .returned (.bool true) ∧ w' = W by have := Hw.out; rwa [hv] at this)
            clear hq hv
            go_wp2_with fail
            go_quiet ((go_at_call 40; exact Calls.quiet_of_same (Hw.out _ (HP.out.mono (ban _ _ _)) (HQ.out.mono (ban _ _ _)))))
            all_goals
              go_wp2_with fail
              exact ⟨⟨3, by decide, by decide, rfl, fun _ => K0.out, fun _ => K1.out, fun _ => HK.out, (bt Hbr.out (ba _ _)).trans ⟨rfl, rfl, rfl, Nat.le_refl _, fun _ _ => rfl⟩⟩, by simp [intOf]⟩
      · have K0 := Lib.hid (h0 (by decide))
        have K1 := Lib.hid (h1 (by decide))
        have K2 := Lib.hid (h2 (by decide))
        clear h0 h1 h2 e0 e1 e2 d0 d1 d2 d3 d4 d5
        obtain ⟨-, -, -, -, -, -, c6, c7⟩ := ring_cells (HA.out.up Hbr.out)
        obtain ⟨-, -, -, -, -, -, f6, f7⟩ := ring_cells (HB.out.up Hbr.out)
        go_wp2_with fail
        all_goals
          go_ret
          exact ⟨by simp [sameB, K0.out, K1.out, K2.out, *], Hbx.out⟩
end Go.Proofs.Ytelndpphbpandaa
