/- Hubs: which are the same, of the program and of the document. -/
import Derived.Test.YtcccgjpmfbmplaaHuD
import Derived.BigQuiet
import Derived.Test.YtcccgjpmfbmplaaHex
set_option linter.unusedSimpArgs false
set_option linter.unusedVariables false
namespace Go.Proofs.Ytcccgjpmfbmplaa
open Go.RowKit

def sameH (h : Hv) (s : Nat → Fd) (g : Hv) (t : Nat → Fd) : Bool := (c4 fun i => sameFd (s i) (t i)) && ((c4 fun i => h.u i == g.u i) && ((c4 fun i => decide (h.l i = g.l i)) && decide (h.nx = g.nx)))
theorem c4_bad {p : Nat → Bool} (i : Nat) (hi : i < 4) (hq : p i = false) : c4 p = false := by
  unfold c4
  rcases (show i = 0 ∨ i = 1 ∨ i = 2 ∨ i = 3 by omega) with rfl | rfl | rfl | rfl <;> rw [hq] <;> simp
theorem c4_all {p : Nat → Bool} (h : ∀ i, i < 4 → p i = true) : c4 p = true := by
  unfold c4; rw [h 0 (by decide), h 1 (by decide), h 2 (by decide), h 3 (by decide)]; rfl
theorem sameH_bad {h : Hv} {s : Nat → Fd} {g : Hv} {t : Nat → Fd} (i : Nat) (hi : i < 4) (hq : sameFd (s i) (t i) = false) : sameH h s g t = false := by
  unfold sameH; rw [c4_bad i hi hq]; rfl
theorem sameH_badu {h : Hv} {s : Nat → Fd} {g : Hv} {t : Nat → Fd} (i : Nat) (hi : i < 4) (hq : (h.u i == g.u i) = false) : sameH h s g t = false := by
  unfold sameH; rw [c4_bad (p := fun i => h.u i == g.u i) i hi hq]; simp
theorem sameH_badl {h : Hv} {s : Nat → Fd} {g : Hv} {t : Nat → Fd} (i : Nat) (hi : i < 4) (hq : decide (h.l i = g.l i) = false) : sameH h s g t = false := by
  unfold sameH; rw [c4_bad (p := fun i => decide (h.l i = g.l i)) i hi hq]; simp
theorem feed0 {w : World} {b : Nat} {h : Hv} (hb : Blk w b h.L) : w.cell? ⟨b, 4, none⟩ = some (.slice (h.f 0).a (h.f 0).len (h.f 0).cap) ∧ w.cell? ⟨b, 5, none⟩ = some (.int .i64 (h.f 0).skip) ∧ w.cell? ⟨b, 6, none⟩ = some (.int .i64 (h.f 0).bad) := ⟨hb.cell 4 (by simp), hb.cell 5 (by simp), hb.cell 6 (by simp)⟩
theorem feed1 {w : World} {b : Nat} {h : Hv} (hb : Blk w b h.L) : w.cell? ⟨b, 7, none⟩ = some (.slice (h.f 1).a (h.f 1).len (h.f 1).cap) ∧ w.cell? ⟨b, 8, none⟩ = some (.int .i64 (h.f 1).skip) ∧ w.cell? ⟨b, 9, none⟩ = some (.int .i64 (h.f 1).bad) := ⟨hb.cell 7 (by simp), hb.cell 8 (by simp), hb.cell 9 (by simp)⟩
theorem feed2 {w : World} {b : Nat} {h : Hv} (hb : Blk w b h.L) : w.cell? ⟨b, 10, none⟩ = some (.slice (h.f 2).a (h.f 2).len (h.f 2).cap) ∧ w.cell? ⟨b, 11, none⟩ = some (.int .i64 (h.f 2).skip) ∧ w.cell? ⟨b, 12, none⟩ = some (.int .i64 (h.f 2).bad) := ⟨hb.cell 10 (by simp), hb.cell 11 (by simp), hb.cell 12 (by simp)⟩
theorem feed3 {w : World} {b : Nat} {h : Hv} (hb : Blk w b h.L) : w.cell? ⟨b, 13, none⟩ = some (.slice (h.f 3).a (h.f 3).len (h.f 3).cap) ∧ w.cell? ⟨b, 14, none⟩ = some (.int .i64 (h.f 3).skip) ∧ w.cell? ⟨b, 15, none⟩ = some (.int .i64 (h.f 3).bad) := ⟨hb.cell 13 (by simp), hb.cell 14 (by simp), hb.cell 15 (by simp)⟩

set_option maxRecDepth 100000 in
set_option maxHeartbeats 4000000 in
theorem hubSame_any (h g : Hv) (s t : Nat → Fd) (w : World) (hh : HbAt w h s) (hg : HbAt w g t) : Calls Try.prog 12 #[h.v, g.v] w fun e w' => e = .returned (.bool (sameH h s g t)) ∧ Below w.heap.size w w' := by
  obtain ⟨V, hV⟩ : ∃ V, V = sameH h s g t := ⟨_, rfl⟩
  rw [← hV]
  have HV := Lib.hid hV
  clear hV
  have HH := Lib.hid hh
  have HG := Lib.hid hg
  clear hh hg
  go_enter Try.func12, Try.ntmps12
  go_upto_region 1 with (fail)
  generalize hW : World.alloc (World.alloc w _) _ = W
  obtain ⟨hB1, hB2, hB3⟩ : BlkT 29 W w.heap.size h.L ∧ BlkT 29 W (w.heap.size + 1) g.L ∧ Below w.heap.size w W := by rw [← hW]; exact hub_two w h.L g.L
  have B1 := Lib.hid hB1
  have B2 := Lib.hid hB2
  have B3 := Lib.hid hB3
  clear hW hB1 hB2 hB3
  generalize w.heap.size + 1 = b2 at B2 ⊢
  go_wp2_with fail
  go_loopw [6] (fun v6 wr => ∃ k : Int, 0 ≤ k ∧ k ≤ 4 ∧ v6 = .int .i64 k ∧ (∀ i : Nat, (i : Int) < k → sameFd (s i) (t i) = true) ∧ Below W.heap.size W wr) (fun v6 _ => 4 - (intOf v6).toNat)
  case atStart => exact ⟨0, by omega, by omega, rfl, fun i hi => by omega, Below.refl _ _⟩
  case round =>
    obtain ⟨k, hk0, hk4, rfl, hok, hb⟩ := hrel
    have Hok := Lib.hid hok
    have Hb := Lib.hid hb
    have C1 := Lib.hid (B1.out.up hb)
    have C2 := Lib.hid (B2.out.up hb)
    have C3 := Lib.hid (bt B3.out hb)
    clear hok hb
    rcases (show k = 0 ∨ k = 1 ∨ k = 2 ∨ k = 3 ∨ k = 4 by omega) with rfl | rfl | rfl | rfl | rfl
    · clear hk0 hk4
      obtain ⟨q, hq⟩ : ∃ q, q = sameFd (s 0) (t 0) := ⟨_, rfl⟩
      have HS := Lib.hid (fun (W' : World) (hb : Below w.heap.size w W') => (show Calls Try.prog 31 #[(h.f 0).v, (g.f 0).v] W' (BoolOut W' q) from (same_any (h.f 0) (g.f 0) (s 0) (t 0) W' ((HH.out 0 (by decide)).mono hb) ((HG.out 0 (by decide)).mono hb)).mono fun e w' ⟨p1, p2⟩ => ⟨by rw [p1, hq]; rfl, p2⟩))
      have HO := Lib.hid hq
      clear hq
      have hx := And.intro (feed0 C1.out.blk) (feed0 C2.out.blk)
      have hbd := btd C3.out
      go_upto_region 4 with (fail)
      go_region_held3 (fun w' => (w'.cell? ⟨w.heap.size, 4, none⟩ = some (.slice (h.f 0).a (h.f 0).len (h.f 0).cap) ∧ w'.cell? ⟨w.heap.size, 5, none⟩ = some (.int .i64 (h.f 0).skip) ∧ w'.cell? ⟨w.heap.size, 6, none⟩ = some (.int .i64 (h.f 0).bad)) ∧ (w'.cell? ⟨b2, 4, none⟩ = some (.slice (g.f 0).a (g.f 0).len (g.f 0).cap) ∧ w'.cell? ⟨b2, 5, none⟩ = some (.int .i64 (g.f 0).skip) ∧ w'.cell? ⟨b2, 6, none⟩ = some (.int .i64 (g.f 0).bad))) (first | assumption) (first
        | (go_at_call 31; (with_reducible refine Calls.mono (HS.out _ hbd) ?_); rintro e w3 ⟨rfl, hb3⟩; have D1 := (C1.out.up (bd _)).up hb3; have D2 := (C2.out.up (bd _)).up hb3; have D3 := bt hbd hb3; have D4 := bt (btd Hb.out) hb3; have hx3 := And.intro (feed0 D1.blk) (feed0 D2.blk)))
      have B1' := Lib.hid D1
      have E3 := Lib.hid D3
      have E4 := Lib.hid D4
      clear D1 D2 D3 D4 hx3 hx hb3 hbd
      rcases q with _ | _
      · have HF := Lib.hid (show V = false by rw [HV.out]; exact sameH_bad 0 (by decide) HO.out.symm)
        clear Hok HO HS
        go_wp2_with fail
        go_ret
        exact ⟨by rw [HF.out]; rfl, E3.out⟩
      · have HT := Lib.hid (show sameFd (s 0) (t 0) = true from HO.out.symm)
        clear HO HS
        go_wp2_with fail
        exact ⟨⟨1, by decide, by decide, rfl, fun i hi => by
          rcases Nat.lt_or_ge i 0 with h1 | h1
          · exact Hok.out i (by omega)
          · have : i = 0 := by omega
            subst this; exact HT.out, E4.out⟩, by simp [intOf]⟩
    · clear hk0 hk4
      obtain ⟨q, hq⟩ : ∃ q, q = sameFd (s 1) (t 1) := ⟨_, rfl⟩
      have HS := Lib.hid (fun (W' : World) (hb : Below w.heap.size w W') => (show Calls Try.prog 31 #[(h.f 1).v, (g.f 1).v] W' (BoolOut W' q) from (same_any (h.f 1) (g.f 1) (s 1) (t 1) W' ((HH.out 1 (by decide)).mono hb) ((HG.out 1 (by decide)).mono hb)).mono fun e w' ⟨p1, p2⟩ => ⟨by rw [p1, hq]; rfl, p2⟩))
      have HO := Lib.hid hq
      clear hq
      have hx := And.intro (feed1 C1.out.blk) (feed1 C2.out.blk)
      have hbd := btd C3.out
      go_upto_region 4 with (fail)
      go_region_held3 (fun w' => (w'.cell? ⟨w.heap.size, 7, none⟩ = some (.slice (h.f 1).a (h.f 1).len (h.f 1).cap) ∧ w'.cell? ⟨w.heap.size, 8, none⟩ = some (.int .i64 (h.f 1).skip) ∧ w'.cell? ⟨w.heap.size, 9, none⟩ = some (.int .i64 (h.f 1).bad)) ∧ (w'.cell? ⟨b2, 7, none⟩ = some (.slice (g.f 1).a (g.f 1).len (g.f 1).cap) ∧ w'.cell? ⟨b2, 8, none⟩ = some (.int .i64 (g.f 1).skip) ∧ w'.cell? ⟨b2, 9, none⟩ = some (.int .i64 (g.f 1).bad))) (first | assumption) (first
        | (go_at_call 31; (with_reducible refine Calls.mono (HS.out _ hbd) ?_); rintro e w3 ⟨rfl, hb3⟩; have D1 := (C1.out.up (bd _)).up hb3; have D2 := (C2.out.up (bd _)).up hb3; have D3 := bt hbd hb3; have D4 := bt (btd Hb.out) hb3; have hx3 := And.intro (feed1 D1.blk) (feed1 D2.blk)))
      have B1' := Lib.hid D1
      have E3 := Lib.hid D3
      have E4 := Lib.hid D4
      clear D1 D2 D3 D4 hx3 hx hb3 hbd
      rcases q with _ | _
      · have HF := Lib.hid (show V = false by rw [HV.out]; exact sameH_bad 1 (by decide) HO.out.symm)
        clear Hok HO HS
        go_wp2_with fail
        go_ret
        exact ⟨by rw [HF.out]; rfl, E3.out⟩
      · have HT := Lib.hid (show sameFd (s 1) (t 1) = true from HO.out.symm)
        clear HO HS
        go_wp2_with fail
        exact ⟨⟨2, by decide, by decide, rfl, fun i hi => by
          rcases Nat.lt_or_ge i 1 with h1 | h1
          · exact Hok.out i (by omega)
          · have : i = 1 := by omega
            subst this; exact HT.out, E4.out⟩, by simp [intOf]⟩
    · clear hk0 hk4
      obtain ⟨q, hq⟩ : ∃ q, q = sameFd (s 2) (t 2) := ⟨_, rfl⟩
      have HS := Lib.hid (fun (W' : World) (hb : Below w.heap.size w W') => (show Calls Try.prog 31 #[(h.f 2).v, (g.f 2).v] W' (BoolOut W' q) from (same_any (h.f 2) (g.f 2) (s 2) (t 2) W' ((HH.out 2 (by decide)).mono hb) ((HG.out 2 (by decide)).mono hb)).mono fun e w' ⟨p1, p2⟩ => ⟨by rw [p1, hq]; rfl, p2⟩))
      have HO := Lib.hid hq
      clear hq
      have hx := And.intro (feed2 C1.out.blk) (feed2 C2.out.blk)
      have hbd := btd C3.out
      go_upto_region 4 with (fail)
      go_region_held3 (fun w' => (w'.cell? ⟨w.heap.size, 10, none⟩ = some (.slice (h.f 2).a (h.f 2).len (h.f 2).cap) ∧ w'.cell? ⟨w.heap.size, 11, none⟩ = some (.int .i64 (h.f 2).skip) ∧ w'.cell? ⟨w.heap.size, 12, none⟩ = some (.int .i64 (h.f 2).bad)) ∧ (w'.cell? ⟨b2, 10, none⟩ = some (.slice (g.f 2).a (g.f 2).len (g.f 2).cap) ∧ w'.cell? ⟨b2, 11, none⟩ = some (.int .i64 (g.f 2).skip) ∧ w'.cell? ⟨b2, 12, none⟩ = some (.int .i64 (g.f 2).bad))) (first | assumption) (first
        | (go_at_call 31; (with_reducible refine Calls.mono (HS.out _ hbd) ?_); rintro e w3 ⟨rfl, hb3⟩; have D1 := (C1.out.up (bd _)).up hb3; have D2 := (C2.out.up (bd _)).up hb3; have D3 := bt hbd hb3; have D4 := bt (btd Hb.out) hb3; have hx3 := And.intro (feed2 D1.blk) (feed2 D2.blk)))
      have B1' := Lib.hid D1
      have E3 := Lib.hid D3
      have E4 := Lib.hid D4
      clear D1 D2 D3 D4 hx3 hx hb3 hbd
      rcases q with _ | _
      · have HF := Lib.hid (show V = false by rw [HV.out]; exact sameH_bad 2 (by decide) HO.out.symm)
        clear Hok HO HS
        go_wp2_with fail
        go_ret
        exact ⟨by rw [HF.out]; rfl, E3.out⟩
      · have HT := Lib.hid (show sameFd (s 2) (t 2) = true from HO.out.symm)
        clear HO HS
        go_wp2_with fail
        exact ⟨⟨3, by decide, by decide, rfl, fun i hi => by
          rcases Nat.lt_or_ge i 2 with h1 | h1
          · exact Hok.out i (by omega)
          · have : i = 2 := by omega
            subst this; exact HT.out, E4.out⟩, by simp [intOf]⟩
    · clear hk0 hk4
      obtain ⟨q, hq⟩ : ∃ q, q = sameFd (s 3) (t 3) := ⟨_, rfl⟩
      have HS := Lib.hid (fun (W' : World) (hb : Below w.heap.size w W') => (show Calls Try.prog 31 #[(h.f 3).v, (g.f 3).v] W' (BoolOut W' q) from (same_any (h.f 3) (g.f 3) (s 3) (t 3) W' ((HH.out 3 (by decide)).mono hb) ((HG.out 3 (by decide)).mono hb)).mono fun e w' ⟨p1, p2⟩ => ⟨by rw [p1, hq]; rfl, p2⟩))
      have HO := Lib.hid hq
      clear hq
      have hx := And.intro (feed3 C1.out.blk) (feed3 C2.out.blk)
      have hbd := btd C3.out
      go_upto_region 4 with (fail)
      go_region_held3 (fun w' => (w'.cell? ⟨w.heap.size, 13, none⟩ = some (.slice (h.f 3).a (h.f 3).len (h.f 3).cap) ∧ w'.cell? ⟨w.heap.size, 14, none⟩ = some (.int .i64 (h.f 3).skip) ∧ w'.cell? ⟨w.heap.size, 15, none⟩ = some (.int .i64 (h.f 3).bad)) ∧ (w'.cell? ⟨b2, 13, none⟩ = some (.slice (g.f 3).a (g.f 3).len (g.f 3).cap) ∧ w'.cell? ⟨b2, 14, none⟩ = some (.int .i64 (g.f 3).skip) ∧ w'.cell? ⟨b2, 15, none⟩ = some (.int .i64 (g.f 3).bad))) (first | assumption) (first
        | (go_at_call 31; (with_reducible refine Calls.mono (HS.out _ hbd) ?_); rintro e w3 ⟨rfl, hb3⟩; have D1 := (C1.out.up (bd _)).up hb3; have D2 := (C2.out.up (bd _)).up hb3; have D3 := bt hbd hb3; have D4 := bt (btd Hb.out) hb3; have hx3 := And.intro (feed3 D1.blk) (feed3 D2.blk)))
      have B1' := Lib.hid D1
      have E3 := Lib.hid D3
      have E4 := Lib.hid D4
      clear D1 D2 D3 D4 hx3 hx hb3 hbd
      rcases q with _ | _
      · have HF := Lib.hid (show V = false by rw [HV.out]; exact sameH_bad 3 (by decide) HO.out.symm)
        clear Hok HO HS
        go_wp2_with fail
        go_ret
        exact ⟨by rw [HF.out]; rfl, E3.out⟩
      · have HT := Lib.hid (show sameFd (s 3) (t 3) = true from HO.out.symm)
        clear HO HS
        go_wp2_with fail
        exact ⟨⟨4, by decide, by decide, rfl, fun i hi => by
          rcases Nat.lt_or_ge i 3 with h1 | h1
          · exact Hok.out i (by omega)
          · have : i = 3 := by omega
            subst this; exact HT.out, E4.out⟩, by simp [intOf]⟩
    · obtain ⟨U, hU⟩ : ∃ U, U = c4 fun i => h.u i == g.u i := ⟨_, rfl⟩
      obtain ⟨L, hL⟩ : ∃ L, L = c4 fun i => decide (h.l i = g.l i) := ⟨_, rfl⟩
      have HF := Lib.hid (show V = (U && (L && decide (h.nx = g.nx))) by rw [HV.out]; unfold sameH; rw [c4_all (p := fun i => sameFd (s i) (t i)) (fun i hi => Hok.out i (by omega)), ← hU, ← hL]; rfl)
      have q1 : ∀ W, (Op.equalIn 10000 22 (.agg #[.bool (h.u 0), .bool (h.u 1), .bool (h.u 2), .bool (h.u 3)]) (.agg #[.bool (g.u 0), .bool (g.u 1), .bool (g.u 2), .bool (g.u 3)])).run Try.prog W = .ok U W := fun W => by rw [hU]; exact eq_bools (h.u 0) (h.u 1) (h.u 2) (h.u 3) (g.u 0) (g.u 1) (g.u 2) (g.u 3) W
      have q2 : ∀ W, (Op.equalIn 10000 27 (.agg #[.int .i64 (h.l 0), .int .i64 (h.l 1), .int .i64 (h.l 2), .int .i64 (h.l 3)]) (.agg #[.int .i64 (g.l 0), .int .i64 (g.l 1), .int .i64 (g.l 2), .int .i64 (g.l 3)])).run Try.prog W = .ok L W := fun W => by rw [hL]; exact eq_ints (h.l 0) (h.l 1) (h.l 2) (h.l 3) (g.l 0) (g.l 1) (g.l 2) (g.l 3) W
      obtain ⟨u0, u1, u2, u3⟩ := hub_u C1.out.blk
      obtain ⟨x0, x1, x2, x3⟩ := hub_u C2.out.blk
      obtain ⟨l0, l1, l2, l3, l4⟩ := hub_l C1.out.blk
      obtain ⟨y0, y1, y2, y3, y4⟩ := hub_l C2.out.blk
      clear hU hL Hok Hb
      rcases U with _ | _
      all_goals rcases L with _ | _
      all_goals
        go_wp2_with fail
        all_goals
          go_ret
          exact ⟨by rw [HF.out]; first | rfl | (simp; done) | (simp [*]; done) | (simp; rw [Bool.eq_iff_iff]; simp), C3.out⟩

set_option maxRecDepth 100000 in
set_option maxHeartbeats 4000000 in
theorem refHubSame_any (h g : Hv) (s t : Nat → Fd) (w : World) (hh : HbAt w h s) (hg : HbAt w g t) : Calls Try.prog 13 #[h.v, g.v] w fun e w' => e = .returned (.bool (sameH h s g t)) ∧ Below w.heap.size w w' := by
  obtain ⟨V, hV⟩ : ∃ V, V = sameH h s g t := ⟨_, rfl⟩
  rw [← hV]
  have HV := Lib.hid hV
  clear hV
  have HH := Lib.hid hh
  have HG := Lib.hid hg
  clear hh hg
  go_enter Try.func13, Try.ntmps13
  go_upto_region 1 with (fail)
  generalize hW : World.alloc (World.alloc w _) _ = W
  obtain ⟨hB1, hB2, hB3⟩ : BlkT 29 W w.heap.size h.L ∧ BlkT 29 W (w.heap.size + 1) g.L ∧ Below w.heap.size w W := by rw [← hW]; exact hub_two w h.L g.L
  have B1 := Lib.hid hB1
  have B2 := Lib.hid hB2
  have B3 := Lib.hid hB3
  clear hW hB1 hB2 hB3
  generalize w.heap.size + 1 = b2 at B2 ⊢
  go_wp2_with fail
  go_loopw [5] (fun v5 wr => ∃ k : Int, 0 ≤ k ∧ k ≤ 4 ∧ v5 = .int .i64 k ∧ (∀ i : Nat, (i : Int) < k → sameFd (s i) (t i) = true ∧ (h.u i == g.u i) = true ∧ decide (h.l i = g.l i) = true) ∧ Below W.heap.size W wr) (fun v5 _ => 4 - (intOf v5).toNat)
  case atStart => exact ⟨0, by omega, by omega, rfl, fun i hi => by omega, Below.refl _ _⟩
  case round =>
    obtain ⟨k, hk0, hk4, rfl, hok, hb⟩ := hrel
    have Hok := Lib.hid hok
    have Hb := Lib.hid hb
    have C1 := Lib.hid (B1.out.up hb)
    have C2 := Lib.hid (B2.out.up hb)
    have C3 := Lib.hid (bt B3.out hb)
    clear hok hb
    rcases (show k = 0 ∨ k = 1 ∨ k = 2 ∨ k = 3 ∨ k = 4 by omega) with rfl | rfl | rfl | rfl | rfl
    · clear hk0 hk4
      obtain ⟨q, hq⟩ : ∃ q, q = sameFd (s 0) (t 0) := ⟨_, rfl⟩
      have HS := Lib.hid (fun (W' : World) (hb : Below w.heap.size w W') => (show Calls Try.prog 27 #[(h.f 0).v, (g.f 0).v] W' (BoolOut W' q) from (refSame_any (h.f 0) (g.f 0) (s 0) (t 0) W' ((HH.out 0 (by decide)).mono hb) ((HG.out 0 (by decide)).mono hb)).mono fun e w' ⟨p1, p2⟩ => ⟨by rw [p1, hq]; rfl, p2⟩))
      have HO := Lib.hid hq
      clear hq
      have hx := And.intro (feed0 C1.out.blk) (feed0 C2.out.blk)
      have hbd := btd C3.out
      go_upto_region 4 with (fail)
      go_region_held3 (fun w' => (w'.cell? ⟨w.heap.size, 4, none⟩ = some (.slice (h.f 0).a (h.f 0).len (h.f 0).cap) ∧ w'.cell? ⟨w.heap.size, 5, none⟩ = some (.int .i64 (h.f 0).skip) ∧ w'.cell? ⟨w.heap.size, 6, none⟩ = some (.int .i64 (h.f 0).bad)) ∧ (w'.cell? ⟨b2, 4, none⟩ = some (.slice (g.f 0).a (g.f 0).len (g.f 0).cap) ∧ w'.cell? ⟨b2, 5, none⟩ = some (.int .i64 (g.f 0).skip) ∧ w'.cell? ⟨b2, 6, none⟩ = some (.int .i64 (g.f 0).bad))) (first | assumption) (first
        | (go_at_call 27; (with_reducible refine Calls.mono (HS.out _ hbd) ?_); rintro e w3 ⟨rfl, hb3⟩; have D1 := (C1.out.up (bd _)).up hb3; have D2 := (C2.out.up (bd _)).up hb3; have D3 := bt hbd hb3; have D4 := bt (btd Hb.out) hb3; have hx3 := And.intro (feed0 D1.blk) (feed0 D2.blk)))
      have E1 := Lib.hid D1
      have E2 := Lib.hid D2
      have E3 := Lib.hid D3
      have E4 := Lib.hid D4
      clear D1 D2 D3 D4 hx3 hx hb3 hbd C1 C2 C3 HS
      obtain ⟨u0, u1, u2, u3⟩ := hub_u E1.out.blk
      obtain ⟨x0, x1, x2, x3⟩ := hub_u E2.out.blk
      obtain ⟨l0, l1, l2, l3, -⟩ := hub_l E1.out.blk
      obtain ⟨y0, y1, y2, y3, -⟩ := hub_l E2.out.blk
      rcases q with _ | _
      · have HF := Lib.hid (show V = false by rw [HV.out]; exact sameH_bad 0 (by decide) HO.out.symm)
        clear Hok HO
        go_wp2_with fail
        go_quiet (fail)
        go_wp2_with fail
        go_ret
        exact ⟨by rw [HF.out]; rfl, by first | exact E3.out | exact btd E3.out | exact btn E3.out _⟩
      rcases hu : (h.u 0 == g.u 0) with _ | _
      · have HF := Lib.hid (show V = false by rw [HV.out]; exact sameH_badu 0 (by decide) hu)
        have hu2 : (h.u 0 != g.u 0) = true := by unfold bne; rw [hu]; rfl
        clear Hok HO
        go_wp2_with fail
        go_quiet (fail)
        go_wp2_with fail
        go_ret
        exact ⟨by rw [HF.out]; rfl, by first | exact E3.out | exact btd E3.out | exact btn E3.out _⟩
      have hu2 : (h.u 0 != g.u 0) = false := by unfold bne; rw [hu]; rfl
      rcases hl : decide (h.l 0 = g.l 0) with _ | _
      · have HF := Lib.hid (show V = false by rw [HV.out]; exact sameH_badl 0 (by decide) hl)
        have hl1 := of_decide_eq_false hl
        have hl2 : (h.l 0 == g.l 0) = false := by rw [beq_eq_false_iff_ne]; exact hl1
        have hl3 : (h.l 0 != g.l 0) = true := by unfold bne; rw [hl2]; rfl
        clear Hok HO hl
        go_wp2_with fail
        go_quiet (fail)
        go_wp2_with fail
        go_ret
        exact ⟨by rw [HF.out]; rfl, by first | exact E3.out | exact btd E3.out | exact btn E3.out _⟩
      have HT := Lib.hid (show sameFd (s 0) (t 0) = true ∧ (h.u 0 == g.u 0) = true ∧ decide (h.l 0 = g.l 0) = true from ⟨HO.out.symm, hu, hl⟩)
      have hl2 : (h.l 0 == g.l 0) = true := by rw [beq_iff_eq]; exact of_decide_eq_true hl
      have hl3 : (h.l 0 != g.l 0) = false := by unfold bne; rw [hl2]; rfl
      clear HO hl
      go_wp2_with fail
      go_quiet (fail)
      go_wp2_with fail
      exact ⟨⟨1, by decide, by decide, rfl, fun i hi => by
          rcases Nat.lt_or_ge i 0 with h1 | h1
          · exact Hok.out i (by omega)
          · have : i = 0 := by omega
            subst this; exact HT.out, by first | exact E4.out | exact btd E4.out | exact btn E4.out _⟩, by simp [intOf]⟩
    · clear hk0 hk4
      obtain ⟨q, hq⟩ : ∃ q, q = sameFd (s 1) (t 1) := ⟨_, rfl⟩
      have HS := Lib.hid (fun (W' : World) (hb : Below w.heap.size w W') => (show Calls Try.prog 27 #[(h.f 1).v, (g.f 1).v] W' (BoolOut W' q) from (refSame_any (h.f 1) (g.f 1) (s 1) (t 1) W' ((HH.out 1 (by decide)).mono hb) ((HG.out 1 (by decide)).mono hb)).mono fun e w' ⟨p1, p2⟩ => ⟨by rw [p1, hq]; rfl, p2⟩))
      have HO := Lib.hid hq
      clear hq
      have hx := And.intro (feed1 C1.out.blk) (feed1 C2.out.blk)
      have hbd := btd C3.out
      go_upto_region 4 with (fail)
      go_region_held3 (fun w' => (w'.cell? ⟨w.heap.size, 7, none⟩ = some (.slice (h.f 1).a (h.f 1).len (h.f 1).cap) ∧ w'.cell? ⟨w.heap.size, 8, none⟩ = some (.int .i64 (h.f 1).skip) ∧ w'.cell? ⟨w.heap.size, 9, none⟩ = some (.int .i64 (h.f 1).bad)) ∧ (w'.cell? ⟨b2, 7, none⟩ = some (.slice (g.f 1).a (g.f 1).len (g.f 1).cap) ∧ w'.cell? ⟨b2, 8, none⟩ = some (.int .i64 (g.f 1).skip) ∧ w'.cell? ⟨b2, 9, none⟩ = some (.int .i64 (g.f 1).bad))) (first | assumption) (first
        | (go_at_call 27; (with_reducible refine Calls.mono (HS.out _ hbd) ?_); rintro e w3 ⟨rfl, hb3⟩; have D1 := (C1.out.up (bd _)).up hb3; have D2 := (C2.out.up (bd _)).up hb3; have D3 := bt hbd hb3; have D4 := bt (btd Hb.out) hb3; have hx3 := And.intro (feed1 D1.blk) (feed1 D2.blk)))
      have E1 := Lib.hid D1
      have E2 := Lib.hid D2
      have E3 := Lib.hid D3
      have E4 := Lib.hid D4
      clear D1 D2 D3 D4 hx3 hx hb3 hbd C1 C2 C3 HS
      obtain ⟨u0, u1, u2, u3⟩ := hub_u E1.out.blk
      obtain ⟨x0, x1, x2, x3⟩ := hub_u E2.out.blk
      obtain ⟨l0, l1, l2, l3, -⟩ := hub_l E1.out.blk
      obtain ⟨y0, y1, y2, y3, -⟩ := hub_l E2.out.blk
      rcases q with _ | _
      · have HF := Lib.hid (show V = false by rw [HV.out]; exact sameH_bad 1 (by decide) HO.out.symm)
        clear Hok HO
        go_wp2_with fail
        go_quiet (fail)
        go_wp2_with fail
        go_ret
        exact ⟨by rw [HF.out]; rfl, by first | exact E3.out | exact btd E3.out | exact btn E3.out _⟩
      rcases hu : (h.u 1 == g.u 1) with _ | _
      · have HF := Lib.hid (show V = false by rw [HV.out]; exact sameH_badu 1 (by decide) hu)
        have hu2 : (h.u 1 != g.u 1) = true := by unfold bne; rw [hu]; rfl
        clear Hok HO
        go_wp2_with fail
        go_quiet (fail)
        go_wp2_with fail
        go_ret
        exact ⟨by rw [HF.out]; rfl, by first | exact E3.out | exact btd E3.out | exact btn E3.out _⟩
      have hu2 : (h.u 1 != g.u 1) = false := by unfold bne; rw [hu]; rfl
      rcases hl : decide (h.l 1 = g.l 1) with _ | _
      · have HF := Lib.hid (show V = false by rw [HV.out]; exact sameH_badl 1 (by decide) hl)
        have hl1 := of_decide_eq_false hl
        have hl2 : (h.l 1 == g.l 1) = false := by rw [beq_eq_false_iff_ne]; exact hl1
        have hl3 : (h.l 1 != g.l 1) = true := by unfold bne; rw [hl2]; rfl
        clear Hok HO hl
        go_wp2_with fail
        go_quiet (fail)
        go_wp2_with fail
        go_ret
        exact ⟨by rw [HF.out]; rfl, by first | exact E3.out | exact btd E3.out | exact btn E3.out _⟩
      have HT := Lib.hid (show sameFd (s 1) (t 1) = true ∧ (h.u 1 == g.u 1) = true ∧ decide (h.l 1 = g.l 1) = true from ⟨HO.out.symm, hu, hl⟩)
      have hl2 : (h.l 1 == g.l 1) = true := by rw [beq_iff_eq]; exact of_decide_eq_true hl
      have hl3 : (h.l 1 != g.l 1) = false := by unfold bne; rw [hl2]; rfl
      clear HO hl
      go_wp2_with fail
      go_quiet (fail)
      go_wp2_with fail
      exact ⟨⟨2, by decide, by decide, rfl, fun i hi => by
          rcases Nat.lt_or_ge i 1 with h1 | h1
          · exact Hok.out i (by omega)
          · have : i = 1 := by omega
            subst this; exact HT.out, by first | exact E4.out | exact btd E4.out | exact btn E4.out _⟩, by simp [intOf]⟩
    · clear hk0 hk4
      obtain ⟨q, hq⟩ : ∃ q, q = sameFd (s 2) (t 2) := ⟨_, rfl⟩
      have HS := Lib.hid (fun (W' : World) (hb : Below w.heap.size w W') => (show Calls Try.prog 27 #[(h.f 2).v, (g.f 2).v] W' (BoolOut W' q) from (refSame_any (h.f 2) (g.f 2) (s 2) (t 2) W' ((HH.out 2 (by decide)).mono hb) ((HG.out 2 (by decide)).mono hb)).mono fun e w' ⟨p1, p2⟩ => ⟨by rw [p1, hq]; rfl, p2⟩))
      have HO := Lib.hid hq
      clear hq
      have hx := And.intro (feed2 C1.out.blk) (feed2 C2.out.blk)
      have hbd := btd C3.out
      go_upto_region 4 with (fail)
      go_region_held3 (fun w' => (w'.cell? ⟨w.heap.size, 10, none⟩ = some (.slice (h.f 2).a (h.f 2).len (h.f 2).cap) ∧ w'.cell? ⟨w.heap.size, 11, none⟩ = some (.int .i64 (h.f 2).skip) ∧ w'.cell? ⟨w.heap.size, 12, none⟩ = some (.int .i64 (h.f 2).bad)) ∧ (w'.cell? ⟨b2, 10, none⟩ = some (.slice (g.f 2).a (g.f 2).len (g.f 2).cap) ∧ w'.cell? ⟨b2, 11, none⟩ = some (.int .i64 (g.f 2).skip) ∧ w'.cell? ⟨b2, 12, none⟩ = some (.int .i64 (g.f 2).bad))) (first | assumption) (first
        | (go_at_call 27; (with_reducible refine Calls.mono (HS.out _ hbd) ?_); rintro e w3 ⟨rfl, hb3⟩; have D1 := (C1.out.up (bd _)).up hb3; have D2 := (C2.out.up (bd _)).up hb3; have D3 := bt hbd hb3; have D4 := bt (btd Hb.out) hb3; have hx3 := And.intro (feed2 D1.blk) (feed2 D2.blk)))
      have E1 := Lib.hid D1
      have E2 := Lib.hid D2
      have E3 := Lib.hid D3
      have E4 := Lib.hid D4
      clear D1 D2 D3 D4 hx3 hx hb3 hbd C1 C2 C3 HS
      obtain ⟨u0, u1, u2, u3⟩ := hub_u E1.out.blk
      obtain ⟨x0, x1, x2, x3⟩ := hub_u E2.out.blk
      obtain ⟨l0, l1, l2, l3, -⟩ := hub_l E1.out.blk
      obtain ⟨y0, y1, y2, y3, -⟩ := hub_l E2.out.blk
      rcases q with _ | _
      · have HF := Lib.hid (show V = false by rw [HV.out]; exact sameH_bad 2 (by decide) HO.out.symm)
        clear Hok HO
        go_wp2_with fail
        go_quiet (fail)
        go_wp2_with fail
        go_ret
        exact ⟨by rw [HF.out]; rfl, by first | exact E3.out | exact btd E3.out | exact btn E3.out _⟩
      rcases hu : (h.u 2 == g.u 2) with _ | _
      · have HF := Lib.hid (show V = false by rw [HV.out]; exact sameH_badu 2 (by decide) hu)
        have hu2 : (h.u 2 != g.u 2) = true := by unfold bne; rw [hu]; rfl
        clear Hok HO
        go_wp2_with fail
        go_quiet (fail)
        go_wp2_with fail
        go_ret
        exact ⟨by rw [HF.out]; rfl, by first | exact E3.out | exact btd E3.out | exact btn E3.out _⟩
      have hu2 : (h.u 2 != g.u 2) = false := by unfold bne; rw [hu]; rfl
      rcases hl : decide (h.l 2 = g.l 2) with _ | _
      · have HF := Lib.hid (show V = false by rw [HV.out]; exact sameH_badl 2 (by decide) hl)
        have hl1 := of_decide_eq_false hl
        have hl2 : (h.l 2 == g.l 2) = false := by rw [beq_eq_false_iff_ne]; exact hl1
        have hl3 : (h.l 2 != g.l 2) = true := by unfold bne; rw [hl2]; rfl
        clear Hok HO hl
        go_wp2_with fail
        go_quiet (fail)
        go_wp2_with fail
        go_ret
        exact ⟨by rw [HF.out]; rfl, by first | exact E3.out | exact btd E3.out | exact btn E3.out _⟩
      have HT := Lib.hid (show sameFd (s 2) (t 2) = true ∧ (h.u 2 == g.u 2) = true ∧ decide (h.l 2 = g.l 2) = true from ⟨HO.out.symm, hu, hl⟩)
      have hl2 : (h.l 2 == g.l 2) = true := by rw [beq_iff_eq]; exact of_decide_eq_true hl
      have hl3 : (h.l 2 != g.l 2) = false := by unfold bne; rw [hl2]; rfl
      clear HO hl
      go_wp2_with fail
      go_quiet (fail)
      go_wp2_with fail
      exact ⟨⟨3, by decide, by decide, rfl, fun i hi => by
          rcases Nat.lt_or_ge i 2 with h1 | h1
          · exact Hok.out i (by omega)
          · have : i = 2 := by omega
            subst this; exact HT.out, by first | exact E4.out | exact btd E4.out | exact btn E4.out _⟩, by simp [intOf]⟩
    · clear hk0 hk4
      obtain ⟨q, hq⟩ : ∃ q, q = sameFd (s 3) (t 3) := ⟨_, rfl⟩
      have HS := Lib.hid (fun (W' : World) (hb : Below w.heap.size w W') => (show Calls Try.prog 27 #[(h.f 3).v, (g.f 3).v] W' (BoolOut W' q) from (refSame_any (h.f 3) (g.f 3) (s 3) (t 3) W' ((HH.out 3 (by decide)).mono hb) ((HG.out 3 (by decide)).mono hb)).mono fun e w' ⟨p1, p2⟩ => ⟨by rw [p1, hq]; rfl, p2⟩))
      have HO := Lib.hid hq
      clear hq
      have hx := And.intro (feed3 C1.out.blk) (feed3 C2.out.blk)
      have hbd := btd C3.out
      go_upto_region 4 with (fail)
      go_region_held3 (fun w' => (w'.cell? ⟨w.heap.size, 13, none⟩ = some (.slice (h.f 3).a (h.f 3).len (h.f 3).cap) ∧ w'.cell? ⟨w.heap.size, 14, none⟩ = some (.int .i64 (h.f 3).skip) ∧ w'.cell? ⟨w.heap.size, 15, none⟩ = some (.int .i64 (h.f 3).bad)) ∧ (w'.cell? ⟨b2, 13, none⟩ = some (.slice (g.f 3).a (g.f 3).len (g.f 3).cap) ∧ w'.cell? ⟨b2, 14, none⟩ = some (.int .i64 (g.f 3).skip) ∧ w'.cell? ⟨b2, 15, none⟩ = some (.int .i64 (g.f 3).bad))) (first | assumption) (first
        | (go_at_call 27; (with_reducible refine Calls.mono (HS.out _ hbd) ?_); rintro e w3 ⟨rfl, hb3⟩; have D1 := (C1.out.up (bd _)).up hb3; have D2 := (C2.out.up (bd _)).up hb3; have D3 := bt hbd hb3; have D4 := bt (btd Hb.out) hb3; have hx3 := And.intro (feed3 D1.blk) (feed3 D2.blk)))
      have E1 := Lib.hid D1
      have E2 := Lib.hid D2
      have E3 := Lib.hid D3
      have E4 := Lib.hid D4
      clear D1 D2 D3 D4 hx3 hx hb3 hbd C1 C2 C3 HS
      obtain ⟨u0, u1, u2, u3⟩ := hub_u E1.out.blk
      obtain ⟨x0, x1, x2, x3⟩ := hub_u E2.out.blk
      obtain ⟨l0, l1, l2, l3, -⟩ := hub_l E1.out.blk
      obtain ⟨y0, y1, y2, y3, -⟩ := hub_l E2.out.blk
      rcases q with _ | _
      · have HF := Lib.hid (show V = false by rw [HV.out]; exact sameH_bad 3 (by decide) HO.out.symm)
        clear Hok HO
        go_wp2_with fail
        go_quiet (fail)
        go_wp2_with fail
        go_ret
        exact ⟨by rw [HF.out]; rfl, by first | exact E3.out | exact btd E3.out | exact btn E3.out _⟩
      rcases hu : (h.u 3 == g.u 3) with _ | _
      · have HF := Lib.hid (show V = false by rw [HV.out]; exact sameH_badu 3 (by decide) hu)
        have hu2 : (h.u 3 != g.u 3) = true := by unfold bne; rw [hu]; rfl
        clear Hok HO
        go_wp2_with fail
        go_quiet (fail)
        go_wp2_with fail
        go_ret
        exact ⟨by rw [HF.out]; rfl, by first | exact E3.out | exact btd E3.out | exact btn E3.out _⟩
      have hu2 : (h.u 3 != g.u 3) = false := by unfold bne; rw [hu]; rfl
      rcases hl : decide (h.l 3 = g.l 3) with _ | _
      · have HF := Lib.hid (show V = false by rw [HV.out]; exact sameH_badl 3 (by decide) hl)
        have hl1 := of_decide_eq_false hl
        have hl2 : (h.l 3 == g.l 3) = false := by rw [beq_eq_false_iff_ne]; exact hl1
        have hl3 : (h.l 3 != g.l 3) = true := by unfold bne; rw [hl2]; rfl
        clear Hok HO hl
        go_wp2_with fail
        go_quiet (fail)
        go_wp2_with fail
        go_ret
        exact ⟨by rw [HF.out]; rfl, by first | exact E3.out | exact btd E3.out | exact btn E3.out _⟩
      have HT := Lib.hid (show sameFd (s 3) (t 3) = true ∧ (h.u 3 == g.u 3) = true ∧ decide (h.l 3 = g.l 3) = true from ⟨HO.out.symm, hu, hl⟩)
      have hl2 : (h.l 3 == g.l 3) = true := by rw [beq_iff_eq]; exact of_decide_eq_true hl
      have hl3 : (h.l 3 != g.l 3) = false := by unfold bne; rw [hl2]; rfl
      clear HO hl
      go_wp2_with fail
      go_quiet (fail)
      go_wp2_with fail
      exact ⟨⟨4, by decide, by decide, rfl, fun i hi => by
          rcases Nat.lt_or_ge i 3 with h1 | h1
          · exact Hok.out i (by omega)
          · have : i = 3 := by omega
            subst this; exact HT.out, by first | exact E4.out | exact btd E4.out | exact btn E4.out _⟩, by simp [intOf]⟩
    · have HF := Lib.hid (show V = decide (h.nx = g.nx) by rw [HV.out]; unfold sameH; rw [c4_all (p := fun i => sameFd (s i) (t i)) (fun i hi => (Hok.out i (by omega)).1), c4_all (p := fun i => h.u i == g.u i) (fun i hi => (Hok.out i (by omega)).2.1), c4_all (p := fun i => decide (h.l i = g.l i)) (fun i hi => (Hok.out i (by omega)).2.2)]; rfl)
      obtain ⟨-, -, -, -, l4⟩ := hub_l C1.out.blk
      obtain ⟨-, -, -, -, y4⟩ := hub_l C2.out.blk
      clear Hok Hb
      go_wp2_with fail
      go_ret
      exact ⟨by rw [HF.out]; first | rfl | (simp; done) | (congr 2; rw [Bool.eq_iff_iff]; simp), C3.out⟩
end Go.Proofs.Ytcccgjpmfbmplaa
