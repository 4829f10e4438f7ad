/- Rings of keys: what is offered and turned. -/
import Derived.Test.YtelndpphbpandaaRingE
set_option linter.unusedSimpArgs false
set_option linter.unusedVariables false
namespace Go.Proofs.Ytelndpphbpandaa
open Go.RowKit

theorem turn_world {w W : World} {a b c : List Value} {A B C : TypeId} (h : ((w.alloc (.cells a.toArray A)).alloc (.cells b.toArray B)).alloc (.cells c.toArray C) = W) : Blk W w.heap.size a ∧ Blk W (w.heap.size + 1) b ∧ Blk W (w.heap.size + 1 + 1) c ∧ Below w.heap.size w W := by
  obtain ⟨h1, h2⟩ := blks3 h
  exact ⟨h1.get 0 rfl, h1.get 1 rfl, h1.get 2 rfl, h2⟩
theorem offer_world {w W : World} {a b c d : List Value} {A B C D : TypeId} (h : (((w.alloc (.cells a.toArray A)).alloc (.cells b.toArray B)).alloc (.cells c.toArray C)).alloc (.cells d.toArray D) = W) : Blk W w.heap.size a ∧ Blk W (w.heap.size + 1) b ∧ Blk W (w.heap.size + 1 + 1) c ∧ Blk W (w.heap.size + 1 + 1 + 1) d ∧ Below w.heap.size w W := by
  obtain ⟨h1, h2⟩ := blks4 h
  exact ⟨h1.get 0 rfl, h1.get 1 rfl, h1.get 2 rfl, h1.get 3 rfl, h2⟩
/-- what a ring's own results leave -/
theorem ring_back {W : World} {b : Nat} {r : Rg} {e : Int} {fn : Func} {tmps : Array Value} {p u : Tmp} (h : fn.results = #[.cell p 26, .tmp u]) (hp : tmps.getD p undef = .pointer (some ⟨b, 0, none⟩)) (hu : tmps.getD u undef = .int .i64 e) (hB : Blk W b r.L) :
    (results fn tmps).run Try.prog W = .ok (.tuple #[r.v, .int .i64 e]) W :=
  results_blk_tmp h tmps W b hp (.int .i64 e) hu hB Try.underlying26 rfl ring_info

set_option maxHeartbeats 1000000 in
theorem turn_any (r : Rg) (w : World) :
    Calls Try.prog 23 #[r.v] w fun e w' => e = .returned (.tuple #[(turnF r).1.v, .int .i64 (turnF r).2]) ∧ Below w.heap.size w w' := by
  obtain ⟨c, o, p, l, t⟩ := r
  have HI := Lib.hid ring_info
  rcases hP : noneB p with _ | _
  all_goals
    go_enter Try.func23, Try.ntmps23
    go_wp2_with fail
    generalize hW : World.alloc _ _ = W
    obtain ⟨HA, HB, HC, hb⟩ := turn_world (a := ringL c o p l t) (b := R0.L) (c := ringL c o p l t) hW
    clear hW
    refine (none_any p _).mono ?_; rintro e w2 ⟨rfl, hb2⟩
    have HA := Lib.hid (HA.up hb2)
    have HB := Lib.hid (HB.up hb2)
    have HC := Lib.hid (HC.up hb2)
    have Hb := Lib.hid (bt hb hb2)
    clear hb hb2
    generalize hn2 : w.heap.size + 1 + 1 = n2 at HC ⊢
    generalize hn1 : w.heap.size + 1 = n1 at HB ⊢
    have Hne := Lib.hid (show n1 ≠ n2 by omega)
    have Hle := Lib.hid (show w.heap.size ≤ n1 by omega)
    have Hle2 := Lib.hid (show w.heap.size ≤ n2 by omega)
    clear hn1 hn2
  · obtain ⟨c0, c1, c2, c3, c4, c5, c6, c7⟩ := ring_cells HC.out
    have fC := HC.out.frozen
    have HC2 := Lib.hid (((((((HC.out.set 2 (.int .i64 c.no)).set 3 (.slice c.a c.len c.cap)).set 0 (.int .i64 p.no)).set 1 (.slice p.a p.len p.cap)).set 4 (.int .i64 0)).set 5 (.slice none 0 0)).set 6 (.int .i64 16))
    have HB2 := Lib.hid (((((((HB.out.other ⟨n2, 2, none⟩ Hne.out (.int .i64 c.no)).other ⟨n2, 3, none⟩ Hne.out (.slice c.a c.len c.cap)).other ⟨n2, 0, none⟩ Hne.out (.int .i64 p.no)).other ⟨n2, 1, none⟩ Hne.out (.slice p.a p.len p.cap)).other ⟨n2, 4, none⟩ Hne.out (.int .i64 0)).other ⟨n2, 5, none⟩ Hne.out (.slice none 0 0)).other ⟨n2, 6, none⟩ Hne.out (.int .i64 16))
    go_wp2_with (first
      | (refine wpList_load_blk 26 (.tmp 27) n2 (cs := ringL p c G0 16 t) rfl rfl rfl ?hb Try.underlying26 rfl HI.out ?_; (case hb => exact HC2.out))
      | (refine wpList_store_blk 26 (.tmp 2) (.tmp 28) n1 (old := R0.L) (cs := ringL p c G0 16 t) rfl rfl rfl rfl ?hb HI.out rfl rfl ?_; (case hb => exact HB2.out)))
    refine bodyPost_ret (ring_back (r := ⟨p, c, G0, 16, t⟩) rfl rfl rfl (HB2.out.row _)) rfl ⟨?_, below_setRow (((((((Hb.out.setCell Hle2.out _).setCell Hle2.out _).setCell Hle2.out _).setCell Hle2.out _).setCell Hle2.out _).setCell Hle2.out _).setCell Hle2.out _) Hle.out _⟩
    simp [turnF, hP]
  · go_wp2_with (first
      | (refine wpList_load_blk 26 (.tmp 1) w.heap.size rfl rfl rfl HA.out Try.underlying26 rfl HI.out ?_)
      | (refine wpList_store_blk 26 (.tmp 2) (.tmp 11) n1 rfl rfl rfl rfl HB.out HI.out rfl rfl ?_))
    refine bodyPost_ret (ring_back (r := ⟨c, o, p, l, t⟩) rfl rfl rfl (HB.out.row _)) rfl ⟨?_, below_setRow Hb.out Hle.out _⟩
    simp [turnF, hP]

set_option maxHeartbeats 1000000 in
theorem refTurn_any (r : Rg) (w : World) (hp : (r.p.no == 0) = noneB r.p) :
    Calls Try.prog 24 #[r.v] w fun e w' => e = .returned (.tuple #[(turnF r).1.v, .int .i64 (turnF r).2]) ∧ Below w.heap.size w w' := by
  obtain ⟨c, o, p, l, t⟩ := r
  simp only at hp
  rcases hP : noneB p with _ | _
  · rw [hP] at hp
    go_enter Try.func24, Try.ntmps24
    go_wp2_with fail
    refine bodyPost_ret (v := .tuple #[ringV p c G0 16 t, .int .i64 0]) (by simp [results, Try.results24, go_sem, G0]) rfl ⟨by simp [turnF, hP], bt (ba w _) (ba _ _)⟩
  · rw [hP] at hp
    go_enter Try.func24, Try.ntmps24
    go_wp2_with fail
    refine bodyPost_ret (v := .tuple #[ringV c o p l t, .int .i64 9]) (by simp [results, Try.results24, go_sem, G0]) rfl ⟨by simp [turnF, hP], bt (ba w _) (ba _ _)⟩

set_option maxHeartbeats 1000000 in
theorem offer_any (r : Rg) (g : G) (w : World) :
    Calls Try.prog 21 #[r.v, .int .i64 g.no, .slice g.a g.len g.cap] w fun e w' => e = .returned (.tuple #[(offerF r g).1.v, .int .i64 (offerF r g).2]) ∧ Below w.heap.size w w' := by
  obtain ⟨c, o, p, l, t⟩ := r
  have HI := Lib.hid ring_info
  go_enter Try.func21, Try.ntmps21
  go_wp2_with fail
  generalize hW : World.alloc _ _ = W
  obtain ⟨HA, HB, HC, HD, hb⟩ := offer_world (a := ringL c o p l t) (b := R0.L) (c := [.int .i64 g.no, .slice g.a g.len g.cap]) (d := ringL c o p l t) hW
  clear hW
  refine (real_any g _).mono ?_; rintro e w2 ⟨rfl, hb2⟩
  have HA := Lib.hid (HA.up hb2)
  have HB := Lib.hid (HB.up hb2)
  have HC := Lib.hid (HC.up hb2)
  have HD := Lib.hid (HD.up hb2)
  have Hb := Lib.hid (bt hb hb2)
  clear hb hb2
  generalize hn3 : w.heap.size + 1 + 1 + 1 = n3 at HD ⊢
  generalize hn2 : w.heap.size + 1 + 1 = n2 at HC ⊢
  generalize hn1 : w.heap.size + 1 = n1 at HB ⊢
  have Hne := Lib.hid (show n1 ≠ n3 by omega)
  have Hle := Lib.hid (show w.heap.size ≤ n1 by omega)
  have Hle3 := Lib.hid (show w.heap.size ≤ n3 by omega)
  clear hn1 hn2 hn3
  rcases hR : realB g with _ | _
  · go_wp2_with (first
      | (refine wpList_load_blk 26 (.tmp 3) w.heap.size (cs := ringL c o p l t) rfl rfl rfl ?hb Try.underlying26 rfl HI.out ?_; (case hb => exact HA.out))
      | (refine wpList_store_blk 26 (.tmp 6) (.tmp 18) n1 (old := R0.L) (cs := ringL c o p l t) rfl rfl rfl rfl ?hb HI.out rfl rfl ?_; (case hb => exact HB.out)))
    refine bodyPost_ret (ring_back (r := ⟨c, o, p, l, t⟩) rfl rfl rfl (HB.out.row _)) rfl ⟨?_, below_setRow Hb.out Hle.out _⟩
    simp [offerF, hR]
  · go_wp2_with (refine wpList_load_blk 65 (.tmp 9) n3 (cs := ringL c o p l t) rfl rfl rfl ?hb Try.underlying65 rfl (by kernel_rfl) ?_; (case hb => exact HD.out))
    refine (wempty_any c o p l t _).mono ?_; rintro e w3 ⟨rfl, hb3⟩
    have HA := Lib.hid (HA.out.up hb3)
    have HB := Lib.hid (HB.out.up hb3)
    have HC := Lib.hid (HC.out.up hb3)
    have HD := Lib.hid (HD.out.up hb3)
    have Hb := Lib.hid (bt Hb.out hb3)
    clear hb3
    obtain ⟨c0, c1, c2, c3, c4, c5, c6, c7⟩ := ring_cells HD.out
    have fD := HD.out.frozen
    have cc0 := HC.out.cell 0 (by simp)
    have cc1 := HC.out.cell 1 (by simp)
    have back : ∀ X : Rg, ringV X.c X.o X.p X.l X.t = X.v := fun _ => rfl
    rcases hE : emptyB c o p l t with _ | _
    · by_cases h1 : g.no ≤ c.no
      · have hd : decide (g.no ≤ c.no) = true := by simpa using h1
        have HF := Lib.hid (show offerF ⟨c, o, p, l, t⟩ g = (⟨c, o, p, l, t⟩, 9) by simp [offerF, offB, hR, hE, h1])
        go_wp2_with (first
          | (refine wpList_load_blk 26 (.tmp 3) w.heap.size (cs := ringL c o p l t) rfl rfl rfl ?hb Try.underlying26 rfl HI.out ?_; (case hb => exact HA.out))
          | (refine wpList_store_blk 26 (.tmp 6) (.tmp 37) n1 (old := R0.L) (cs := ringL c o p l t) rfl rfl rfl rfl ?hb HI.out rfl rfl ?_; (case hb => exact HB.out)))
        exact bodyPost_ret (ring_back (r := ⟨c, o, p, l, t⟩) rfl rfl rfl (HB.out.row _)) rfl ⟨by rw [HF.out], below_setRow Hb.out Hle.out _⟩
      · have hd : decide (g.no ≤ c.no) = false := by simpa using h1
        by_cases h2 : g.no < p.no
        · have hd2 : decide (g.no < p.no) = true := by simpa using h2
          have HF := Lib.hid (show offerF ⟨c, o, p, l, t⟩ g = (⟨c, o, p, l, t⟩, 9) by simp [offerF, offB, hR, hE, h2])
          go_wp2_with (first
            | (refine wpList_load_blk 26 (.tmp 3) w.heap.size (cs := ringL c o p l t) rfl rfl rfl ?hb Try.underlying26 rfl HI.out ?_; (case hb => exact HA.out))
            | (refine wpList_store_blk 26 (.tmp 6) (.tmp 37) n1 (old := R0.L) (cs := ringL c o p l t) rfl rfl rfl rfl ?hb HI.out rfl rfl ?_; (case hb => exact HB.out)))
          exact bodyPost_ret (ring_back (r := ⟨c, o, p, l, t⟩) rfl rfl rfl (HB.out.row _)) rfl ⟨by rw [HF.out], below_setRow Hb.out Hle.out _⟩
        · have hd2 : decide (g.no < p.no) = false := by simpa using h2
          by_cases h3 : t < g.no
          · have HF := Lib.hid (show offerF ⟨c, o, p, l, t⟩ g = (⟨c, o, g, l, g.no⟩, 0) by simp only [offerF, offB, hR, hE, hd, hd2, Bool.or_false, cond_true, cond_false, if_pos h3])
            have HD2 := Lib.hid (((HD.out.set 4 (.int .i64 g.no)).set 5 (.slice g.a g.len g.cap)).set 7 (.int .i64 g.no))
            have HB2 := Lib.hid (((HB.out.other ⟨n3, 4, none⟩ Hne.out (.int .i64 g.no)).other ⟨n3, 5, none⟩ Hne.out (.slice g.a g.len g.cap)).other ⟨n3, 7, none⟩ Hne.out (.int .i64 g.no))
            go_wp2_with (first
              | (refine wpList_load_blk 26 (.tmp 48) n3 (cs := ringL c o g l g.no) rfl rfl rfl ?hb Try.underlying26 rfl HI.out ?_; (case hb => exact HD2.out))
              | (refine wpList_store_blk 26 (.tmp 6) (.tmp 49) n1 (old := R0.L) (cs := ringL c o g l g.no) rfl rfl rfl rfl ?hb HI.out rfl rfl ?_; (case hb => exact HB2.out)))
            exact bodyPost_ret (ring_back (r := ⟨c, o, g, l, g.no⟩) rfl rfl rfl (HB2.out.row _)) rfl ⟨by rw [HF.out], below_setRow (((Hb.out.setCell Hle3.out _).setCell Hle3.out _).setCell Hle3.out _) Hle.out _⟩
          · have HF := Lib.hid (show offerF ⟨c, o, p, l, t⟩ g = (⟨c, o, g, l, t⟩, 0) by simp only [offerF, offB, hR, hE, hd, hd2, Bool.or_false, cond_true, cond_false, if_neg h3])
            have HD2 := Lib.hid (((HD.out.set 4 (.int .i64 g.no)).set 5 (.slice g.a g.len g.cap)).set 7 (.int .i64 t))
            have HB2 := Lib.hid (((HB.out.other ⟨n3, 4, none⟩ Hne.out (.int .i64 g.no)).other ⟨n3, 5, none⟩ Hne.out (.slice g.a g.len g.cap)).other ⟨n3, 7, none⟩ Hne.out (.int .i64 t))
            go_wp2_with (first
              | (refine wpList_load_blk 26 (.tmp 48) n3 (cs := ringL c o g l t) rfl rfl rfl ?hb Try.underlying26 rfl HI.out ?_; (case hb => exact HD2.out))
              | (refine wpList_store_blk 26 (.tmp 6) (.tmp 49) n1 (old := R0.L) (cs := ringL c o g l t) rfl rfl rfl rfl ?hb HI.out rfl rfl ?_; (case hb => exact HB2.out)))
            exact bodyPost_ret (ring_back (r := ⟨c, o, g, l, t⟩) rfl rfl rfl (HB2.out.row _)) rfl ⟨by rw [HF.out], below_setRow (((Hb.out.setCell Hle3.out _).setCell Hle3.out _).setCell Hle3.out _) Hle.out _⟩
    · have HF := Lib.hid (show offerF ⟨c, o, p, l, t⟩ g = (⟨c, o, p, l, t⟩, 9) by simp [offerF, offB, hR, hE])
      go_wp2_with (first
        | (refine wpList_load_blk 26 (.tmp 3) w.heap.size (cs := ringL c o p l t) rfl rfl rfl ?hb Try.underlying26 rfl HI.out ?_; (case hb => exact HA.out))
        | (refine wpList_store_blk 26 (.tmp 6) (.tmp 37) n1 (old := R0.L) (cs := ringL c o p l t) rfl rfl rfl rfl ?hb HI.out rfl rfl ?_; (case hb => exact HB.out)))
      exact bodyPost_ret (ring_back (r := ⟨c, o, p, l, t⟩) rfl rfl rfl (HB.out.row _)) rfl ⟨by rw [HF.out], below_setRow Hb.out Hle.out _⟩

set_option maxHeartbeats 1000000 in
theorem refOffer_any (r : Rg) (g : G) (w : World) :
    Calls Try.prog 22 #[r.v, .int .i64 g.no, .slice g.a g.len g.cap] w fun e w' => e = .returned (.tuple #[(offerF r g).1.v, .int .i64 (offerF r g).2]) ∧ Below w.heap.size w w' := by
  obtain ⟨c, o, p, l, t⟩ := r
  have HI := Lib.hid ring_info
  by_cases hl : g.len = 32
  · have hd : ((g.len : Int) != 32) = false := by simp; omega
    by_cases h1 : g.no < 1
    · have HF := Lib.hid (show offerF ⟨c, o, p, l, t⟩ g = (⟨c, o, p, l, t⟩, 1) by simp [offerF, show realB g = false by simp [realB]; intro h; omega])
      have hd1 : decide (g.no < 1) = true := by simpa using h1
      go_enter Try.func22, Try.ntmps22
      go_wp2_with fail
      exact bodyPost_ret (v := .tuple #[ringV c o p l t, .int .i64 1]) (by simp [results, Try.results22, go_sem, G0]) rfl ⟨by rw [HF.out], bt (ba w _) (ba _ _)⟩
    · have hd1 : decide (g.no < 1) = false := by simpa using h1
      by_cases h2 : 2147483647 < g.no
      · have HF := Lib.hid (show offerF ⟨c, o, p, l, t⟩ g = (⟨c, o, p, l, t⟩, 1) by simp [offerF, show realB g = false by simp [realB]; intro h h'; omega])
        have hd2 : decide (2147483647 < g.no) = true := by simpa using h2
        go_enter Try.func22, Try.ntmps22
        go_wp2_with fail
        exact bodyPost_ret (v := .tuple #[ringV c o p l t, .int .i64 1]) (by simp [results, Try.results22, go_sem, G0]) rfl ⟨by rw [HF.out], bt (ba w _) (ba _ _)⟩
      · have hd2 : decide (2147483647 < g.no) = false := by simpa using h2
        have hR : realB g = true := by simp [realB, hl]; omega
        clear hl
        go_enter Try.func22, Try.ntmps22
        go_wp2_with fail
        generalize hW : World.alloc _ _ = W
        obtain ⟨HAB, hb⟩ := blks2 (a := ringL c o p l t) (b := R0.L) hW
        have HA := HAB.get 0 rfl
        have HB := HAB.get 1 rfl
        clear hW HAB
        refine (refEmpty_any c o p l t _).mono ?_; rintro e w3 ⟨rfl, hb3⟩
        have HA := Lib.hid (show Blk w3 w.heap.size (ringL c o p l t) from HA.up hb3)
        have HB := Lib.hid (show Blk w3 (w.heap.size + 1) R0.L from HB.up hb3)
        have Hb := Lib.hid (bt hb hb3)
        clear hb hb3
        generalize hn1 : w.heap.size + 1 = n1 at HB ⊢
        have Hne := Lib.hid (show n1 ≠ w.heap.size by omega)
        have Hle := Lib.hid (show w.heap.size ≤ n1 by omega)
        clear hn1
        obtain ⟨c0, c1, c2, c3, c4, c5, c6, c7⟩ := ring_cells HA.out
        have fA := HA.out.frozen
        rcases hE : emptyB c o p l t with _ | _
        · by_cases h3 : g.no ≤ c.no
          · have hd3 : decide (g.no ≤ c.no) = true := by simpa using h3
            have HF := Lib.hid (show offerF ⟨c, o, p, l, t⟩ g = (⟨c, o, p, l, t⟩, 9) by simp [offerF, offB, hR, hE, h3])
            go_wp2_with (first
              | (refine wpList_load_blk 26 (.tmp 3) w.heap.size (cs := ringL c o p l t) rfl rfl rfl ?hb Try.underlying26 rfl HI.out ?_; (case hb => exact HA.out))
              | (refine wpList_store_blk 26 (.tmp 6) (.tmp 38) n1 (old := R0.L) (cs := ringL c o p l t) rfl rfl rfl rfl ?hb HI.out rfl rfl ?_; (case hb => exact HB.out)))
            exact bodyPost_ret (ring_back (r := ⟨c, o, p, l, t⟩) rfl rfl rfl (HB.out.row _)) rfl ⟨by rw [HF.out], below_setRow Hb.out Hle.out _⟩
          · have hd3 : decide (g.no ≤ c.no) = false := by simpa using h3
            by_cases h4 : g.no < p.no
            · have hd4 : decide (g.no < p.no) = true := by simpa using h4
              have HF := Lib.hid (show offerF ⟨c, o, p, l, t⟩ g = (⟨c, o, p, l, t⟩, 9) by simp [offerF, offB, hR, hE, h4])
              go_wp2_with (first
                | (refine wpList_load_blk 26 (.tmp 3) w.heap.size (cs := ringL c o p l t) rfl rfl rfl ?hb Try.underlying26 rfl HI.out ?_; (case hb => exact HA.out))
                | (refine wpList_store_blk 26 (.tmp 6) (.tmp 38) n1 (old := R0.L) (cs := ringL c o p l t) rfl rfl rfl rfl ?hb HI.out rfl rfl ?_; (case hb => exact HB.out)))
              exact bodyPost_ret (ring_back (r := ⟨c, o, p, l, t⟩) rfl rfl rfl (HB.out.row _)) rfl ⟨by rw [HF.out], below_setRow Hb.out Hle.out _⟩
            · have hd4 : decide (g.no < p.no) = false := by simpa using h4
              by_cases h5 : t < g.no
              · have hd5 : decide (t < g.no) = true := by simpa using h5
                have HF := Lib.hid (show offerF ⟨c, o, p, l, t⟩ g = (⟨c, o, g, l, g.no⟩, 0) by simp only [offerF, offB, hR, hE, hd3, hd4, Bool.or_false, cond_true, cond_false, if_pos h5])
                have HA2 := Lib.hid (((HA.out.set 4 (.int .i64 g.no)).set 5 (.slice g.a g.len g.cap)).set 7 (.int .i64 g.no))
                have HB2 := Lib.hid (((HB.out.other ⟨w.heap.size, 4, none⟩ Hne.out (.int .i64 g.no)).other ⟨w.heap.size, 5, none⟩ Hne.out (.slice g.a g.len g.cap)).other ⟨w.heap.size, 7, none⟩ Hne.out (.int .i64 g.no))
                go_wp2_with (first
                  | (refine wpList_load_blk 26 (.tmp 3) w.heap.size (cs := ringL c o g l g.no) rfl rfl rfl ?hb Try.underlying26 rfl HI.out ?_; (case hb => exact HA2.out))
                  | (refine wpList_store_blk 26 (.tmp 6) (.tmp 49) n1 (old := R0.L) (cs := ringL c o g l g.no) rfl rfl rfl rfl ?hb HI.out rfl rfl ?_; (case hb => exact HB2.out)))
                exact bodyPost_ret (ring_back (r := ⟨c, o, g, l, g.no⟩) rfl rfl rfl (HB2.out.row _)) rfl ⟨by rw [HF.out], below_setRow (((Hb.out.setCell (Nat.le_refl _) _).setCell (Nat.le_refl _) _).setCell (Nat.le_refl _) _) Hle.out _⟩
              · have hd5 : decide (t < g.no) = false := by simpa using h5
                have HF := Lib.hid (show offerF ⟨c, o, p, l, t⟩ g = (⟨c, o, g, l, t⟩, 0) by simp only [offerF, offB, hR, hE, hd3, hd4, Bool.or_false, cond_true, cond_false, if_neg h5])
                have HA2 := Lib.hid ((HA.out.set 4 (.int .i64 g.no)).set 5 (.slice g.a g.len g.cap))
                have HB2 := Lib.hid ((HB.out.other ⟨w.heap.size, 4, none⟩ Hne.out (.int .i64 g.no)).other ⟨w.heap.size, 5, none⟩ Hne.out (.slice g.a g.len g.cap))
                go_wp2_with (first
                  | (refine wpList_load_blk 26 (.tmp 3) w.heap.size (cs := ringL c o g l t) rfl rfl rfl ?hb Try.underlying26 rfl HI.out ?_; (case hb => exact HA2.out))
                  | (refine wpList_store_blk 26 (.tmp 6) (.tmp 49) n1 (old := R0.L) (cs := ringL c o g l t) rfl rfl rfl rfl ?hb HI.out rfl rfl ?_; (case hb => exact HB2.out)))
                exact bodyPost_ret (ring_back (r := ⟨c, o, g, l, t⟩) rfl rfl rfl (HB2.out.row _)) rfl ⟨by rw [HF.out], below_setRow ((Hb.out.setCell (Nat.le_refl _) _).setCell (Nat.le_refl _) _) Hle.out _⟩
        · have HF := Lib.hid (show offerF ⟨c, o, p, l, t⟩ g = (⟨c, o, p, l, t⟩, 9) by simp [offerF, offB, hR, hE])
          go_wp2_with (first
            | (refine wpList_load_blk 26 (.tmp 3) w.heap.size (cs := ringL c o p l t) rfl rfl rfl ?hb Try.underlying26 rfl HI.out ?_; (case hb => exact HA.out))
            | (refine wpList_store_blk 26 (.tmp 6) (.tmp 38) n1 (old := R0.L) (cs := ringL c o p l t) rfl rfl rfl rfl ?hb HI.out rfl rfl ?_; (case hb => exact HB.out)))
          exact bodyPost_ret (ring_back (r := ⟨c, o, p, l, t⟩) rfl rfl rfl (HB.out.row _)) rfl ⟨by rw [HF.out], below_setRow Hb.out Hle.out _⟩
  · have HF := Lib.hid (show offerF ⟨c, o, p, l, t⟩ g = (⟨c, o, p, l, t⟩, 1) by simp [offerF, show realB g = false by simp [realB]; intro h h'; omega])
    have hd : ((g.len : Int) != 32) = true := by simp; omega
    clear hl
    go_enter Try.func22, Try.ntmps22
    go_wp2_with fail
    exact bodyPost_ret (v := .tuple #[ringV c o p l t, .int .i64 1]) (by simp [results, Try.results22, go_sem, G0]) rfl ⟨by rw [HF.out], bt (ba w _) (ba _ _)⟩
end Go.Proofs.Ytelndpphbpandaa
