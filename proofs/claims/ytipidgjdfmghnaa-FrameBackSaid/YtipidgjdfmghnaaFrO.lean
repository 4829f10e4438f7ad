/- The walk of the law FrameTells. -/
import Derived.Test.YtipidgjdfmghnaaFrN
import Derived.BigQuiet
set_option linter.unusedSimpArgs false
set_option linter.unusedVariables false
namespace Go.Proofs.Ytipidgjdfmghnaa
open Go.RowKit

set_option maxRecDepth 100000 in
set_option maxHeartbeats 4000000 in
theorem frameTells_any (hsh : Shown08OK) (f g : Fv) (s t : Fd) (a : Option Addr) (cap : Nat) (l : List UInt8) (w : World) (hf : FdAt w f s) (hg : FdAt w g t) (hl : BytesAt w a l) (hlm : l.length ≤ maxLen) :
    Calls Try.prog 3 #[f.v, g.v, .slice a l.length cap] w (BoolOut w true) := by
  have Hsh := Lib.hid hsh
  have Hf := Lib.hid hf
  have Hg := Lib.hid hg
  have Hl := Lib.hid (And.intro hl hlm)
  clear hsh hl hlm
  have hfl := hf.len
  have hgl := hg.len
  clear hf hg
  have Hfl := Lib.hid hfl
  have Hgl := Lib.hid hgl
  clear hfl hgl
  rcases h1 : decide ((1200 : Int) < f.len) with _ | _
  · rcases h2 : decide ((1200 : Int) < g.len) with _ | _
    · rcases h3 : decide ((1200 : Int) < (l.length : Int)) with _ | _
      · go_enter Try.func3, Try.ntmps3
        go_wp2_with fail
        generalize hW : World.alloc _ _ = W
        obtain ⟨B1, B2, hb⟩ := two_world (a := f.L) (b := g.L) hW
        clear hW
        generalize w.heap.size + 1 = n2 at B2 ⊢
        refine (Hsh.out _).mono ?_; rintro e w1 ⟨rfl, hb1⟩
        have H1 := Lib.hid (B1.up hb1)
        have H2 := Lib.hid (B2.up hb1)
        have Hb := Lib.hid (bt hb hb1)
        obtain ⟨c0, c1, c2⟩ := cells3 H1.out
        obtain ⟨d0, d1, d2⟩ := cells3 H2.out
        clear hb hb1 B1 B2
        go_wp2_with fail
        refine (pack_any a cap l _ Hl.out.2 (Hl.out.1.mono Hb.out)).mono ?_
        rintro e w2 ⟨hb2, ⟨hp, a1, k1, rfl, -, -, ha1⟩ | ⟨hp, rfl⟩⟩
        · replace H1 := Lib.hid (H1.out.up hb2)
          replace H2 := Lib.hid (H2.out.up hb2)
          replace Hb := Lib.hid (bt Hb.out hb2)
          clear c0 c1 c2 d0 d1 d2 hb2
          obtain ⟨c0, c1, c2⟩ := cells3 H1.out
          obtain ⟨d0, d1, d2⟩ := cells3 H2.out
          have Hp := Lib.hid hp
          clear hp
          go_wp2_with fail
          refine (refPack_any a cap l _ Hl.out.2 (Hl.out.1.mono Hb.out)).mono ?_
          rintro e w3 ⟨hb3, ⟨hp3, a2, k2, rfl, -, -, ha2⟩ | ⟨hp3, rfl⟩⟩
          case inr => exact absurd (Hp.out.symm.trans hp3) (by decide)
          have HA := Lib.hid (And.intro (ha1.mono hb3) ha2)
          clear ha1 ha2
          replace H1 := Lib.hid (H1.out.up hb3)
          replace H2 := Lib.hid (H2.out.up hb3)
          replace Hb := Lib.hid (bt Hb.out hb3)
          clear c0 c1 c2 d0 d1 d2 Hp hp3
          have HSm := Lib.hid (show ∀ W', Below w3.heap.size w3 W' → Calls Try.prog 12 #[.slice a1 (l.length + 2) k1, .slice a2 (l.length + 2) k2] W' fun e w' => e = .returned (.bool true) ∧ W' = w' from fun W' h => by
            have := same01_any a1 a2 (l.length + 2) k1 (l.length + 2) k2 (packL l) (packL l) W' rfl rfl (HA.out.1.mono h) (HA.out.2.mono h)
            rwa [beq_self_eq_true] at this)
          have HR1 := Lib.hid (show ∀ W', Below w3.heap.size w3 W' → Calls Try.prog 13 #[f.v] W' fun e w' => e = .returned (.bool (rightF s)) ∧ Below W'.heap.size W' w' from fun W' h => right_any f s W' (Hf.out.mono (bt Hb.out h)))
          have HR2 := Lib.hid (show ∀ W', Below w3.heap.size w3 W' → Calls Try.prog 14 #[f.v] W' fun e w' => e = .returned (.bool (rightF s)) ∧ Below W'.heap.size W' w' from fun W' h => refRight_any f s W' (Hf.out.mono (bt Hb.out h)))
          have HS1 := Lib.hid (show ∀ W', Below w3.heap.size w3 W' → Calls Try.prog 15 #[f.v, g.v] W' fun e w' => e = .returned (.bool ((s.buf == t.buf) && ((s.skip == t.skip) && (s.bad == t.bad)))) ∧ Below W'.heap.size W' w' from fun W' h => same_any f g s t W' (Hf.out.mono (bt Hb.out h)) (Hg.out.mono (bt Hb.out h)))
          have HS2 := Lib.hid (show ∀ W', Below w3.heap.size w3 W' → Calls Try.prog 16 #[f.v, g.v] W' fun e w' => e = .returned (.bool ((s.buf == t.buf) && ((s.skip == t.skip) && (s.bad == t.bad)))) ∧ Below W'.heap.size W' w' from fun W' h => refSame_any f g s t W' (Hf.out.mono (bt Hb.out h)) (Hg.out.mono (bt Hb.out h)))
          generalize rightF s = r1 at HR1 HR2
          generalize ((s.buf == t.buf) && ((s.skip == t.skip) && (s.bad == t.bad))) = r2 at HS1 HS2
          have KS := Lib.hid (show ∀ w', Below w3.heap.size w3 w' → (Below w3.heap.size w3 w' ∧ w'.cell? ⟨w.heap.size, 0, none⟩ = some (.slice f.a f.len f.cap) ∧ w'.cell? ⟨w.heap.size, 1, none⟩ = some (.int .i64 f.skip) ∧ w'.cell? ⟨w.heap.size, 2, none⟩ = some (.int .i64 f.bad) ∧ w'.cell? ⟨n2, 0, none⟩ = some (.slice g.a g.len g.cap) ∧ w'.cell? ⟨n2, 1, none⟩ = some (.int .i64 g.skip) ∧ w'.cell? ⟨n2, 2, none⟩ = some (.int .i64 g.bad)) from fun w' hb => by
            obtain ⟨c0, c1, c2⟩ := cells3 (H1.out.up hb)
            obtain ⟨d0, d1, d2⟩ := cells3 (H2.out.up hb)
            exact ⟨hb, c0, c1, c2, d0, d1, d2⟩)
          obtain ⟨hS0, c0, c1, c2, d0, d1, d2⟩ := KS.out w3 (Below.refl _ _)
          clear hb3
          go_wp2_with fail
          go_region_held3 (fun w' => Below w3.heap.size w3 w' ∧ w'.cell? ⟨w.heap.size, 0, none⟩ = some (.slice f.a f.len f.cap) ∧ w'.cell? ⟨w.heap.size, 1, none⟩ = some (.int .i64 f.skip) ∧ w'.cell? ⟨w.heap.size, 2, none⟩ = some (.int .i64 f.bad) ∧ w'.cell? ⟨n2, 0, none⟩ = some (.slice g.a g.len g.cap) ∧ w'.cell? ⟨n2, 1, none⟩ = some (.int .i64 g.skip) ∧ w'.cell? ⟨n2, 2, none⟩ = some (.int .i64 g.bad))
            (first
              | (go_split_ands; exact KS.out _ (bt (by assumption) hc1))
              | (go_split_ands; exact KS.out _ (bt (by assumption) hc2))
              | (go_split_ands; exact KS.out _ (bt (by assumption) hc3))
              | (go_split_ands; exact KS.out _ (bt (by assumption) hc4))
              | (exact KS.out _ (bd _))
              | (go_split_ands; exact KS.out _ (by assumption))
              | go_keep)
            (first
              | (go_at_call 12; go_split_ands; (with_reducible refine Calls.mono (HSm.out _ (by assumption)) ?_); rintro e x0 ⟨rfl, rfl⟩)
              | (go_at_call 13; go_split_ands; (with_reducible refine Calls.mono (HR1.out _ (by assumption)) ?_); rintro e x1 ⟨rfl, hc1⟩)
              | (go_at_call 14; go_split_ands; (with_reducible refine Calls.mono (HR2.out _ (by assumption)) ?_); rintro e x2 ⟨rfl, hc2⟩)
              | (go_at_call 15; go_split_ands; (with_reducible refine Calls.mono (HS1.out _ (by assumption)) ?_); rintro e x3 ⟨rfl, hc3⟩)
              | (go_at_call 16; go_split_ands; (with_reducible refine Calls.mono (HS2.out _ (by assumption)) ?_); rintro e x4 ⟨rfl, hc4⟩))
          all_goals
            go_split_ands
            go_wp2_with fail
            go_ret
            exact ⟨by (try simp); (try rfl), bt Hb.out (by assumption)⟩
        · replace H1 := Lib.hid (H1.out.up hb2)
          replace H2 := Lib.hid (H2.out.up hb2)
          replace Hb := Lib.hid (bt Hb.out hb2)
          clear c0 c1 c2 d0 d1 d2 hb2
          obtain ⟨c0, c1, c2⟩ := cells3 H1.out
          obtain ⟨d0, d1, d2⟩ := cells3 H2.out
          have Hp := Lib.hid hp
          clear hp
          go_wp2_with fail
          refine (refPack_any a cap l _ Hl.out.2 (Hl.out.1.mono Hb.out)).mono ?_
          rintro e w3 ⟨hb3, ⟨hp3, a2, k2, rfl, -, -, ha2⟩ | ⟨hp3, rfl⟩⟩
          case inl => exact absurd (Hp.out.symm.trans hp3) (by decide)
          replace H1 := Lib.hid (H1.out.up hb3)
          replace H2 := Lib.hid (H2.out.up hb3)
          replace Hb := Lib.hid (bt Hb.out hb3)
          clear c0 c1 c2 d0 d1 d2 Hp hp3
          have HSm := Lib.hid (show ∀ W', Below w3.heap.size w3 W' → Calls Try.prog 12 #[.slice none 0 0, .slice none 0 0] W' fun e w' => e = .returned (.bool true) ∧ W' = w' from fun W' h => by
            have := same01_any none none 0 0 0 0 [] [] W' rfl rfl (.inl rfl) (.inl rfl)
            rwa [beq_self_eq_true] at this)
          have HR1 := Lib.hid (show ∀ W', Below w3.heap.size w3 W' → Calls Try.prog 13 #[f.v] W' fun e w' => e = .returned (.bool (rightF s)) ∧ Below W'.heap.size W' w' from fun W' h => right_any f s W' (Hf.out.mono (bt Hb.out h)))
          have HR2 := Lib.hid (show ∀ W', Below w3.heap.size w3 W' → Calls Try.prog 14 #[f.v] W' fun e w' => e = .returned (.bool (rightF s)) ∧ Below W'.heap.size W' w' from fun W' h => refRight_any f s W' (Hf.out.mono (bt Hb.out h)))
          have HS1 := Lib.hid (show ∀ W', Below w3.heap.size w3 W' → Calls Try.prog 15 #[f.v, g.v] W' fun e w' => e = .returned (.bool ((s.buf == t.buf) && ((s.skip == t.skip) && (s.bad == t.bad)))) ∧ Below W'.heap.size W' w' from fun W' h => same_any f g s t W' (Hf.out.mono (bt Hb.out h)) (Hg.out.mono (bt Hb.out h)))
          have HS2 := Lib.hid (show ∀ W', Below w3.heap.size w3 W' → Calls Try.prog 16 #[f.v, g.v] W' fun e w' => e = .returned (.bool ((s.buf == t.buf) && ((s.skip == t.skip) && (s.bad == t.bad)))) ∧ Below W'.heap.size W' w' from fun W' h => refSame_any f g s t W' (Hf.out.mono (bt Hb.out h)) (Hg.out.mono (bt Hb.out h)))
          generalize rightF s = r1 at HR1 HR2
          generalize ((s.buf == t.buf) && ((s.skip == t.skip) && (s.bad == t.bad))) = r2 at HS1 HS2
          have KS := Lib.hid (show ∀ w', Below w3.heap.size w3 w' → (Below w3.heap.size w3 w' ∧ w'.cell? ⟨w.heap.size, 0, none⟩ = some (.slice f.a f.len f.cap) ∧ w'.cell? ⟨w.heap.size, 1, none⟩ = some (.int .i64 f.skip) ∧ w'.cell? ⟨w.heap.size, 2, none⟩ = some (.int .i64 f.bad) ∧ w'.cell? ⟨n2, 0, none⟩ = some (.slice g.a g.len g.cap) ∧ w'.cell? ⟨n2, 1, none⟩ = some (.int .i64 g.skip) ∧ w'.cell? ⟨n2, 2, none⟩ = some (.int .i64 g.bad)) from fun w' hb => by
            obtain ⟨c0, c1, c2⟩ := cells3 (H1.out.up hb)
            obtain ⟨d0, d1, d2⟩ := cells3 (H2.out.up hb)
            exact ⟨hb, c0, c1, c2, d0, d1, d2⟩)
          obtain ⟨hS0, c0, c1, c2, d0, d1, d2⟩ := KS.out w3 (Below.refl _ _)
          clear hb3
          go_wp2_with fail
          go_region_held3 (fun w' => Below w3.heap.size w3 w' ∧ w'.cell? ⟨w.heap.size, 0, none⟩ = some (.slice f.a f.len f.cap) ∧ w'.cell? ⟨w.heap.size, 1, none⟩ = some (.int .i64 f.skip) ∧ w'.cell? ⟨w.heap.size, 2, none⟩ = some (.int .i64 f.bad) ∧ w'.cell? ⟨n2, 0, none⟩ = some (.slice g.a g.len g.cap) ∧ w'.cell? ⟨n2, 1, none⟩ = some (.int .i64 g.skip) ∧ w'.cell? ⟨n2, 2, none⟩ = some (.int .i64 g.bad))
            (first
              | (go_split_ands; exact KS.out _ (bt (by assumption) hc1))
              | (go_split_ands; exact KS.out _ (bt (by assumption) hc2))
              | (go_split_ands; exact KS.out _ (bt (by assumption) hc3))
              | (go_split_ands; exact KS.out _ (bt (by assumption) hc4))
              | (exact KS.out _ (bd _))
              | (go_split_ands; exact KS.out _ (by assumption))
              | go_keep)
            (first
              | (go_at_call 12; go_split_ands; (with_reducible refine Calls.mono (HSm.out _ (by assumption)) ?_); rintro e x0 ⟨rfl, rfl⟩)
              | (go_at_call 13; go_split_ands; (with_reducible refine Calls.mono (HR1.out _ (by assumption)) ?_); rintro e x1 ⟨rfl, hc1⟩)
              | (go_at_call 14; go_split_ands; (with_reducible refine Calls.mono (HR2.out _ (by assumption)) ?_); rintro e x2 ⟨rfl, hc2⟩)
              | (go_at_call 15; go_split_ands; (with_reducible refine Calls.mono (HS1.out _ (by assumption)) ?_); rintro e x3 ⟨rfl, hc3⟩)
              | (go_at_call 16; go_split_ands; (with_reducible refine Calls.mono (HS2.out _ (by assumption)) ?_); rintro e x4 ⟨rfl, hc4⟩))
          all_goals
            go_split_ands
            go_wp2_with fail
            go_ret
            exact ⟨by (try simp); (try rfl), bt Hb.out (by assumption)⟩
      · go_enter Try.func3, Try.ntmps3
        go_wp2_with fail
        generalize hW : World.alloc _ _ = W
        obtain ⟨B1, B2, hb⟩ := two_world (a := f.L) (b := g.L) hW
        clear hW
        generalize w.heap.size + 1 = n2 at B2 ⊢
        refine (Hsh.out _).mono ?_; rintro e w1 ⟨rfl, hb1⟩
        have Hb := Lib.hid (bt hb hb1)
        obtain ⟨c0, c1, c2⟩ := cells3 (B1.up hb1)
        obtain ⟨d0, d1, d2⟩ := cells3 (B2.up hb1)
        clear hb hb1 B1 B2
        go_wp2_with fail
        go_ret
        exact ⟨rfl, Hb.out⟩
    · go_enter Try.func3, Try.ntmps3
      go_wp2_with fail
      generalize hW : World.alloc _ _ = W
      obtain ⟨B1, B2, hb⟩ := two_world (a := f.L) (b := g.L) hW
      clear hW
      generalize w.heap.size + 1 = n2 at B2 ⊢
      refine (Hsh.out _).mono ?_; rintro e w1 ⟨rfl, hb1⟩
      have Hb := Lib.hid (bt hb hb1)
      obtain ⟨c0, c1, c2⟩ := cells3 (B1.up hb1)
      obtain ⟨d0, d1, d2⟩ := cells3 (B2.up hb1)
      clear hb hb1 B1 B2
      go_wp2_with fail
      go_ret
      exact ⟨rfl, Hb.out⟩
  · go_enter Try.func3, Try.ntmps3
    go_wp2_with fail
    generalize hW : World.alloc _ _ = W
    obtain ⟨B1, B2, hb⟩ := two_world (a := f.L) (b := g.L) hW
    clear hW
    generalize w.heap.size + 1 = n2 at B2 ⊢
    refine (Hsh.out _).mono ?_; rintro e w1 ⟨rfl, hb1⟩
    have Hb := Lib.hid (bt hb hb1)
    obtain ⟨c0, c1, c2⟩ := cells3 (B1.up hb1)
    obtain ⟨d0, d1, d2⟩ := cells3 (B2.up hb1)
    clear hb hb1 B1 B2
    go_wp2_with fail
    go_ret
    exact ⟨rfl, Hb.out⟩
end Go.Proofs.Ytipidgjdfmghnaa
