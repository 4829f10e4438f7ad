/- Rings of keys: which are the same. -/
import Derived.Test.YtelndpphbpandaaRingF
import Derived.Deep.Cut
import Derived.Deep.DeepCutAuto
set_option linter.unusedSimpArgs false
set_option linter.unusedVariables false
namespace Go.Proofs.Ytelndpphbpandaa
open Go.RowKit

theorem ring2_world {w W : World} {a b : List Value} {A B : TypeId} (h : (w.alloc (.cells a.toArray A)).alloc (.cells b.toArray B) = W) : Blk W w.heap.size a ∧ Blk W (w.heap.size + 1) b ∧ Below w.heap.size w W := by
  obtain ⟨h1, h2⟩ := blks2 h
  exact ⟨h1.get 0 rfl, h1.get 1 rfl, h2⟩

set_option maxHeartbeats 1000000 in
theorem refSame_any (r s : Rg) (kc ko kp jc jo jp : List UInt8) (w : World) (hr : RgAt w r kc ko kp) (hs : RgAt w s jc jo jp) :
    Calls Try.prog 13 #[r.v, s.v] w fun e w' => e = .returned (.bool (sameB r s kc ko kp jc jo jp)) ∧ Below w.heap.size w w' := by
  have Hr := Lib.hid hr
  have Hs := Lib.hid hs
  clear hr hs
  rcases hX : sameG r.c.no s.c.no kc jc with _ | _
  all_goals
    rcases hY : sameG r.o.no s.o.no ko jo with _ | _
    all_goals
      rcases hZ : sameG r.p.no s.p.no kp jp with _ | _
      all_goals
        go_enter Try.func13, Try.ntmps13
        go_wp2_with fail
        generalize hW : World.alloc _ _ = W
        obtain ⟨HA, HB, hb⟩ := ring2_world (a := r.L) (b := s.L) hW
        clear hW
        have HA := Lib.hid HA
        have HB := Lib.hid HB
        have Hb := Lib.hid hb
        clear hb
        refine (refSameGen_any r.c s.c kc jc _ Hr.out.lc Hs.out.lc (Hr.out.c.mono Hb.out) (Hs.out.c.mono Hb.out)).mono ?_; rintro e w2 ⟨rfl, hb2⟩
        have HA := Lib.hid (HA.out.up hb2)
        have HB := Lib.hid (HB.out.up hb2)
        have Hb := Lib.hid (bt Hb.out hb2)
        clear hb2
        generalize hn1 : w.heap.size + 1 = n1 at HB ⊢
        clear hn1
        obtain ⟨c0, c1, c2, c3, c4, c5, c6, c7⟩ := ring_cells HA.out
        obtain ⟨d0, d1, d2, d3, d4, d5, d6, d7⟩ := ring_cells HB.out
        go_wp2_with (first
          | (go_at_call 34; ((with_reducible refine Calls.mono (refSameGen_any r.o s.o ko jo _ Hr.out.lo Hs.out.lo (Hr.out.o.mono Hb.out) (Hs.out.o.mono Hb.out)) ?_); rintro e w2 ⟨rfl, hb2⟩; have HA := Lib.hid (HA.out.up hb2); have HB := Lib.hid (HB.out.up hb2); have Hb := Lib.hid (bt Hb.out hb2); clear hb2; obtain ⟨c0, c1, c2, c3, c4, c5, c6, c7⟩ := ring_cells HA.out; obtain ⟨d0, d1, d2, d3, d4, d5, d6, d7⟩ := ring_cells HB.out))
          | (go_at_call 34; ((with_reducible refine Calls.mono (refSameGen_any r.p s.p kp jp _ Hr.out.lp Hs.out.lp (Hr.out.p.mono Hb.out) (Hs.out.p.mono Hb.out)) ?_); rintro e w2 ⟨rfl, hb2⟩; have HA := Lib.hid (HA.out.up hb2); have HB := Lib.hid (HB.out.up hb2); have Hb := Lib.hid (bt Hb.out hb2); clear hb2; obtain ⟨c0, c1, c2, c3, c4, c5, c6, c7⟩ := ring_cells HA.out; obtain ⟨d0, d1, d2, d3, d4, d5, d6, d7⟩ := ring_cells HB.out)))
        all_goals
          go_ret
          exact ⟨by simp [sameB, *], Hb.out⟩

abbrev gen6 (c o p : G) : List Value := [.int .i64 c.no, .slice c.a c.len c.cap, .int .i64 o.no, .slice o.a o.len o.cap, .int .i64 p.no, .slice p.a p.len p.cap]
theorem gen6_world {W : World} {b : Nat} {c o p : G} (h : Blk W b (gen6 c o p)) :
    W.cell? ⟨b, 0, none⟩ = some (.int .i64 c.no) ∧ W.cell? ⟨b, 1, none⟩ = some (.slice c.a c.len c.cap) ∧ W.cell? ⟨b, 2, none⟩ = some (.int .i64 o.no) ∧ W.cell? ⟨b, 3, none⟩ = some (.slice o.a o.len o.cap) ∧
    W.cell? ⟨b, 4, none⟩ = some (.int .i64 p.no) ∧ W.cell? ⟨b, 5, none⟩ = some (.slice p.a p.len p.cap) :=
  ⟨h.cell 0 (by simp), h.cell 1 (by simp), h.cell 2 (by simp), h.cell 3 (by simp), h.cell 4 (by simp), h.cell 5 (by simp)⟩

end Go.Proofs.Ytelndpphbpandaa
