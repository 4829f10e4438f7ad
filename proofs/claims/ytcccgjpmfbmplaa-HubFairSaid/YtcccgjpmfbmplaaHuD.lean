/- Hubs: which are right, of the program and of the document. -/
import Derived.Test.YtcccgjpmfbmplaaHuC
set_option linter.unusedSimpArgs false
set_option linter.unusedVariables false
namespace Go.Proofs.Ytcccgjpmfbmplaa
open Go.RowKit

theorem run_hub0 (x0 x1 x2 x3 x4 x5 x6 x7 x8 x9 x10 x11 : Value) (w : World) : (Instr.index 26 (.agg #[x0, x1, x2, x3, x4, x5, x6, x7, x8, x9, x10, x11]) (.int .i64 0)).run Try.prog w = .ok (.agg #[x0, x1, x2]) w := by kernel_rfl
theorem run_hub1 (x0 x1 x2 x3 x4 x5 x6 x7 x8 x9 x10 x11 : Value) (w : World) : (Instr.index 26 (.agg #[x0, x1, x2, x3, x4, x5, x6, x7, x8, x9, x10, x11]) (.int .i64 1)).run Try.prog w = .ok (.agg #[x3, x4, x5]) w := by kernel_rfl
theorem run_hub2 (x0 x1 x2 x3 x4 x5 x6 x7 x8 x9 x10 x11 : Value) (w : World) : (Instr.index 26 (.agg #[x0, x1, x2, x3, x4, x5, x6, x7, x8, x9, x10, x11]) (.int .i64 2)).run Try.prog w = .ok (.agg #[x6, x7, x8]) w := by kernel_rfl
theorem run_hub3 (x0 x1 x2 x3 x4 x5 x6 x7 x8 x9 x10 x11 : Value) (w : World) : (Instr.index 26 (.agg #[x0, x1, x2, x3, x4, x5, x6, x7, x8, x9, x10, x11]) (.int .i64 3)).run Try.prog w = .ok (.agg #[x9, x10, x11]) w := by kernel_rfl

set_option maxRecDepth 100000 in
set_option maxHeartbeats 2000000 in
theorem hubRight_any (h : Hv) (s : Nat → Fd) (w : World) (hh : HbAt w h s) : Calls Try.prog 11 #[h.v] w fun e w' => e = .returned (.bool (rightH h s)) ∧ Below w.heap.size w w' := by
  obtain ⟨V, hV⟩ : ∃ V, V = rightH h s := ⟨_, rfl⟩
  rw [← hV]
  have HV := Lib.hid hV
  clear hV
  have HN := Lib.hid (fun W => is_any h.nx W)
  have HH := Lib.hid hh
  clear hh
  go_enter Try.func11, Try.ntmps11
  go_upto_region 1 with (fail)
  generalize hW : World.alloc w _ = W
  have B1 := Lib.hid (show BlkT 29 W w.heap.size h.L by rw [← hW]; exact BlkT.new w h.L _)
  have B3 := Lib.hid (show Below w.heap.size w W by rw [← hW]; exact ba w _)
  clear hW
  obtain ⟨f0, f1, f2, f3, f4, f5, f6, f7, f8, f9, f10, f11⟩ := hub_f B1.out.blk
  go_wp2_with fail
  clear f0 f1 f2 f3 f4 f5 f6 f7 f8 f9 f10 f11
  go_loopw [7] (fun v7 wr => ∃ k : Int, 0 ≤ k ∧ k ≤ 4 ∧ v7 = .int .i64 k ∧ (∀ i : Nat, (i : Int) < k → okC h s i = true) ∧ Below W.heap.size W wr) (fun v7 _ => 4 - (intOf v7).toNat)
  case atStart => exact ⟨0, by omega, by omega, rfl, fun i hi => by omega, Below.refl _ _⟩
  case round =>
    obtain ⟨k, hk0, hk4, rfl, hok, hb⟩ := hrel
    have Hok := Lib.hid hok
    have Hb := Lib.hid hb
    have C1 := Lib.hid (B1.out.up hb)
    have C3 := Lib.hid (bt B3.out hb)
    clear hok hb
    rcases (show k = 0 ∨ k = 1 ∨ k = 2 ∨ k = 3 ∨ k = 4 by omega) with rfl | rfl | rfl | rfl | rfl
    · clear hk0 hk4
      have hix := fun W => run_hub0 (.slice (h.f 0).a (h.f 0).len (h.f 0).cap) (.int .i64 (h.f 0).skip) (.int .i64 (h.f 0).bad) (.slice (h.f 1).a (h.f 1).len (h.f 1).cap) (.int .i64 (h.f 1).skip) (.int .i64 (h.f 1).bad) (.slice (h.f 2).a (h.f 2).len (h.f 2).cap) (.int .i64 (h.f 2).skip) (.int .i64 (h.f 2).bad) (.slice (h.f 3).a (h.f 3).len (h.f 3).cap) (.int .i64 (h.f 3).skip) (.int .i64 (h.f 3).bad) W
      have HR := Lib.hid (fun (W' : World) (hb : Below w.heap.size w W') => right_any (h.f 0) (s 0) W' ((HH.out 0 (by decide)).mono hb))
      have HS := Lib.hid (fun (W' : World) (hb : Below w.heap.size w W') => same_any (h.f 0) zeroF (s 0) zeroD W' ((HH.out 0 (by decide)).mono hb) (zeroF_at W'))
      have HO := Lib.hid (show okC h s 0 = (rightF (s 0) && (h.u 0 || sameFd (s 0) zeroD)) from rfl)
      have HV' := Lib.hid (show okC h s 0 = false → V = false from fun hq => by rw [HV.out]; unfold rightH c4; rw [hq]; simp)
      go_upto_region 4 with (fail)
      generalize hW2 : World.alloc wr _ = W2
      have D1 := Lib.hid (show BlkT 29 W2 w.heap.size h.L by rw [← hW2]; exact C1.out.up (ba _ _))
      have D2 := Lib.hid (show BlkT 25 W2 wr.heap.size (h.f 0).L by rw [← hW2]; exact BlkT.new wr (h.f 0).L _)
      have D3 := Lib.hid (show Below w.heap.size w W2 by rw [← hW2]; exact bt C3.out (ba _ _))
      have D4 := Lib.hid (show Below W.heap.size W W2 by rw [← hW2]; exact bt Hb.out (ba _ _))
      clear hW2 C1 C3 Hb hix
      generalize wr.heap.size = b4 at D2 ⊢
      obtain ⟨g0, g1, g2⟩ := cells3 D2.out.blk
      go_wp2_with fail
      refine (HR.out _ D3.out).mono ?_; rintro e w3 ⟨rfl, hb3⟩
      have E1 := Lib.hid (D1.out.up hb3)
      have E2 := Lib.hid (D2.out.up hb3)
      have E3 := Lib.hid (bt D3.out hb3)
      have E4 := Lib.hid (bt D4.out hb3)
      clear hb3 g0 g1 g2 D1 D2 D3 D4 HR
      obtain ⟨u0, u1, u2, u3⟩ := hub_u E1.out.blk
      obtain ⟨g0, g1, g2⟩ := cells3 E2.out.blk
      rcases hr : rightF (s 0) with _ | _
      · have HF := Lib.hid (HV'.out (by rw [HO.out, hr]; rfl))
        clear HV' HO HS Hok
        go_wp2_with fail
        go_ret
        exact ⟨by rw [HF.out]; rfl, E3.out⟩
      rcases hu : h.u 0 with _ | _
      · rw [hu] at u0
        have Hu := Lib.hid hu
        have Hr := Lib.hid hr
        clear hu hr
        go_wp2_with fail
        refine (HS.out _ E3.out).mono ?_; rintro e w4 ⟨rfl, hb4⟩
        have F3 := Lib.hid (bt E3.out hb4)
        have F4 := Lib.hid (bt E4.out hb4)
        clear hb4 u0 u1 u2 u3 g0 g1 g2 E1 E2 E3 E4
        rcases hs : sameFd (s 0) zeroD with _ | _
        · have HF := Lib.hid (HV'.out (by rw [HO.out, Hr.out, Hu.out, hs]; rfl))
          have hs' : ((s 0).buf == zeroD.buf && ((s 0).skip == zeroD.skip && (s 0).bad == zeroD.bad)) = false := hs
          rw [hs']
          clear HV' HO HS Hok hs hs'
          go_wp2_with fail
          go_ret
          exact ⟨by rw [HF.out]; rfl, F3.out⟩
        · have HT := Lib.hid (show okC h s 0 = true by rw [HO.out, Hr.out, Hu.out, hs]; rfl)
          have hs' : ((s 0).buf == zeroD.buf && ((s 0).skip == zeroD.skip && (s 0).bad == zeroD.bad)) = true := hs
          rw [hs']
          clear HV' HO HS hs hs'
          go_wp2_with fail
          exact ⟨⟨1, by decide, by decide, rfl, fun i hi => by
            rcases Nat.lt_or_ge i 0 with h1 | h1
            · exact Hok.out i (by omega)
            · have : i = 0 := by omega
              subst this; exact HT.out, F4.out⟩, by simp [intOf]⟩
      · have HT := Lib.hid (show okC h s 0 = true by rw [HO.out, hr, hu]; rfl)
        rw [hu] at u0
        clear hu hr HV' HO HS
        go_wp2_with fail
        exact ⟨⟨1, by decide, by decide, rfl, fun i hi => by
          rcases Nat.lt_or_ge i 0 with h1 | h1
          · exact Hok.out i (by omega)
          · have : i = 0 := by omega
            subst this; exact HT.out, E4.out⟩, by simp [intOf]⟩
    · clear hk0 hk4
      have hix := fun W => run_hub1 (.slice (h.f 0).a (h.f 0).len (h.f 0).cap) (.int .i64 (h.f 0).skip) (.int .i64 (h.f 0).bad) (.slice (h.f 1).a (h.f 1).len (h.f 1).cap) (.int .i64 (h.f 1).skip) (.int .i64 (h.f 1).bad) (.slice (h.f 2).a (h.f 2).len (h.f 2).cap) (.int .i64 (h.f 2).skip) (.int .i64 (h.f 2).bad) (.slice (h.f 3).a (h.f 3).len (h.f 3).cap) (.int .i64 (h.f 3).skip) (.int .i64 (h.f 3).bad) W
      have HR := Lib.hid (fun (W' : World) (hb : Below w.heap.size w W') => right_any (h.f 1) (s 1) W' ((HH.out 1 (by decide)).mono hb))
      have HS := Lib.hid (fun (W' : World) (hb : Below w.heap.size w W') => same_any (h.f 1) zeroF (s 1) zeroD W' ((HH.out 1 (by decide)).mono hb) (zeroF_at W'))
      have HO := Lib.hid (show okC h s 1 = (rightF (s 1) && (h.u 1 || sameFd (s 1) zeroD)) from rfl)
      have HV' := Lib.hid (show okC h s 1 = false → V = false from fun hq => by rw [HV.out]; unfold rightH c4; rw [hq]; simp)
      go_upto_region 4 with (fail)
      generalize hW2 : World.alloc wr _ = W2
      have D1 := Lib.hid (show BlkT 29 W2 w.heap.size h.L by rw [← hW2]; exact C1.out.up (ba _ _))
      have D2 := Lib.hid (show BlkT 25 W2 wr.heap.size (h.f 1).L by rw [← hW2]; exact BlkT.new wr (h.f 1).L _)
      have D3 := Lib.hid (show Below w.heap.size w W2 by rw [← hW2]; exact bt C3.out (ba _ _))
      have D4 := Lib.hid (show Below W.heap.size W W2 by rw [← hW2]; exact bt Hb.out (ba _ _))
      clear hW2 C1 C3 Hb hix
      generalize wr.heap.size = b4 at D2 ⊢
      obtain ⟨g0, g1, g2⟩ := cells3 D2.out.blk
      go_wp2_with fail
      refine (HR.out _ D3.out).mono ?_; rintro e w3 ⟨rfl, hb3⟩
      have E1 := Lib.hid (D1.out.up hb3)
      have E2 := Lib.hid (D2.out.up hb3)
      have E3 := Lib.hid (bt D3.out hb3)
      have E4 := Lib.hid (bt D4.out hb3)
      clear hb3 g0 g1 g2 D1 D2 D3 D4 HR
      obtain ⟨u0, u1, u2, u3⟩ := hub_u E1.out.blk
      obtain ⟨g0, g1, g2⟩ := cells3 E2.out.blk
      rcases hr : rightF (s 1) with _ | _
      · have HF := Lib.hid (HV'.out (by rw [HO.out, hr]; rfl))
        clear HV' HO HS Hok
        go_wp2_with fail
        go_ret
        exact ⟨by rw [HF.out]; rfl, E3.out⟩
      rcases hu : h.u 1 with _ | _
      · rw [hu] at u1
        have Hu := Lib.hid hu
        have Hr := Lib.hid hr
        clear hu hr
        go_wp2_with fail
        refine (HS.out _ E3.out).mono ?_; rintro e w4 ⟨rfl, hb4⟩
        have F3 := Lib.hid (bt E3.out hb4)
        have F4 := Lib.hid (bt E4.out hb4)
        clear hb4 u0 u1 u2 u3 g0 g1 g2 E1 E2 E3 E4
        rcases hs : sameFd (s 1) zeroD with _ | _
        · have HF := Lib.hid (HV'.out (by rw [HO.out, Hr.out, Hu.out, hs]; rfl))
          have hs' : ((s 1).buf == zeroD.buf && ((s 1).skip == zeroD.skip && (s 1).bad == zeroD.bad)) = false := hs
          rw [hs']
          clear HV' HO HS Hok hs hs'
          go_wp2_with fail
          go_ret
          exact ⟨by rw [HF.out]; rfl, F3.out⟩
        · have HT := Lib.hid (show okC h s 1 = true by rw [HO.out, Hr.out, Hu.out, hs]; rfl)
          have hs' : ((s 1).buf == zeroD.buf && ((s 1).skip == zeroD.skip && (s 1).bad == zeroD.bad)) = true := hs
          rw [hs']
          clear HV' HO HS hs hs'
          go_wp2_with fail
          exact ⟨⟨2, by decide, by decide, rfl, fun i hi => by
            rcases Nat.lt_or_ge i 1 with h1 | h1
            · exact Hok.out i (by omega)
            · have : i = 1 := by omega
              subst this; exact HT.out, F4.out⟩, by simp [intOf]⟩
      · have HT := Lib.hid (show okC h s 1 = true by rw [HO.out, hr, hu]; rfl)
        rw [hu] at u1
        clear hu hr HV' HO HS
        go_wp2_with fail
        exact ⟨⟨2, by decide, by decide, rfl, fun i hi => by
          rcases Nat.lt_or_ge i 1 with h1 | h1
          · exact Hok.out i (by omega)
          · have : i = 1 := by omega
            subst this; exact HT.out, E4.out⟩, by simp [intOf]⟩
    · clear hk0 hk4
      have hix := fun W => run_hub2 (.slice (h.f 0).a (h.f 0).len (h.f 0).cap) (.int .i64 (h.f 0).skip) (.int .i64 (h.f 0).bad) (.slice (h.f 1).a (h.f 1).len (h.f 1).cap) (.int .i64 (h.f 1).skip) (.int .i64 (h.f 1).bad) (.slice (h.f 2).a (h.f 2).len (h.f 2).cap) (.int .i64 (h.f 2).skip) (.int .i64 (h.f 2).bad) (.slice (h.f 3).a (h.f 3).len (h.f 3).cap) (.int .i64 (h.f 3).skip) (.int .i64 (h.f 3).bad) W
      have HR := Lib.hid (fun (W' : World) (hb : Below w.heap.size w W') => right_any (h.f 2) (s 2) W' ((HH.out 2 (by decide)).mono hb))
      have HS := Lib.hid (fun (W' : World) (hb : Below w.heap.size w W') => same_any (h.f 2) zeroF (s 2) zeroD W' ((HH.out 2 (by decide)).mono hb) (zeroF_at W'))
      have HO := Lib.hid (show okC h s 2 = (rightF (s 2) && (h.u 2 || sameFd (s 2) zeroD)) from rfl)
      have HV' := Lib.hid (show okC h s 2 = false → V = false from fun hq => by rw [HV.out]; unfold rightH c4; rw [hq]; simp)
      go_upto_region 4 with (fail)
      generalize hW2 : World.alloc wr _ = W2
      have D1 := Lib.hid (show BlkT 29 W2 w.heap.size h.L by rw [← hW2]; exact C1.out.up (ba _ _))
      have D2 := Lib.hid (show BlkT 25 W2 wr.heap.size (h.f 2).L by rw [← hW2]; exact BlkT.new wr (h.f 2).L _)
      have D3 := Lib.hid (show Below w.heap.size w W2 by rw [← hW2]; exact bt C3.out (ba _ _))
      have D4 := Lib.hid (show Below W.heap.size W W2 by rw [← hW2]; exact bt Hb.out (ba _ _))
      clear hW2 C1 C3 Hb hix
      generalize wr.heap.size = b4 at D2 ⊢
      obtain ⟨g0, g1, g2⟩ := cells3 D2.out.blk
      go_wp2_with fail
      refine (HR.out _ D3.out).mono ?_; rintro e w3 ⟨rfl, hb3⟩
      have E1 := Lib.hid (D1.out.up hb3)
      have E2 := Lib.hid (D2.out.up hb3)
      have E3 := Lib.hid (bt D3.out hb3)
      have E4 := Lib.hid (bt D4.out hb3)
      clear hb3 g0 g1 g2 D1 D2 D3 D4 HR
      obtain ⟨u0, u1, u2, u3⟩ := hub_u E1.out.blk
      obtain ⟨g0, g1, g2⟩ := cells3 E2.out.blk
      rcases hr : rightF (s 2) with _ | _
      · have HF := Lib.hid (HV'.out (by rw [HO.out, hr]; rfl))
        clear HV' HO HS Hok
        go_wp2_with fail
        go_ret
        exact ⟨by rw [HF.out]; rfl, E3.out⟩
      rcases hu : h.u 2 with _ | _
      · rw [hu] at u2
        have Hu := Lib.hid hu
        have Hr := Lib.hid hr
        clear hu hr
        go_wp2_with fail
        refine (HS.out _ E3.out).mono ?_; rintro e w4 ⟨rfl, hb4⟩
        have F3 := Lib.hid (bt E3.out hb4)
        have F4 := Lib.hid (bt E4.out hb4)
        clear hb4 u0 u1 u2 u3 g0 g1 g2 E1 E2 E3 E4
        rcases hs : sameFd (s 2) zeroD with _ | _
        · have HF := Lib.hid (HV'.out (by rw [HO.out, Hr.out, Hu.out, hs]; rfl))
          have hs' : ((s 2).buf == zeroD.buf && ((s 2).skip == zeroD.skip && (s 2).bad == zeroD.bad)) = false := hs
          rw [hs']
          clear HV' HO HS Hok hs hs'
          go_wp2_with fail
          go_ret
          exact ⟨by rw [HF.out]; rfl, F3.out⟩
        · have HT := Lib.hid (show okC h s 2 = true by rw [HO.out, Hr.out, Hu.out, hs]; rfl)
          have hs' : ((s 2).buf == zeroD.buf && ((s 2).skip == zeroD.skip && (s 2).bad == zeroD.bad)) = true := hs
          rw [hs']
          clear HV' HO HS hs hs'
          go_wp2_with fail
          exact ⟨⟨3, by decide, by decide, rfl, fun i hi => by
            rcases Nat.lt_or_ge i 2 with h1 | h1
            · exact Hok.out i (by omega)
            · have : i = 2 := by omega
              subst this; exact HT.out, F4.out⟩, by simp [intOf]⟩
      · have HT := Lib.hid (show okC h s 2 = true by rw [HO.out, hr, hu]; rfl)
        rw [hu] at u2
        clear hu hr HV' HO HS
        go_wp2_with fail
        exact ⟨⟨3, by decide, by decide, rfl, fun i hi => by
          rcases Nat.lt_or_ge i 2 with h1 | h1
          · exact Hok.out i (by omega)
          · have : i = 2 := by omega
            subst this; exact HT.out, E4.out⟩, by simp [intOf]⟩
    · clear hk0 hk4
      have hix := fun W => run_hub3 (.slice (h.f 0).a (h.f 0).len (h.f 0).cap) (.int .i64 (h.f 0).skip) (.int .i64 (h.f 0).bad) (.slice (h.f 1).a (h.f 1).len (h.f 1).cap) (.int .i64 (h.f 1).skip) (.int .i64 (h.f 1).bad) (.slice (h.f 2).a (h.f 2).len (h.f 2).cap) (.int .i64 (h.f 2).skip) (.int .i64 (h.f 2).bad) (.slice (h.f 3).a (h.f 3).len (h.f 3).cap) (.int .i64 (h.f 3).skip) (.int .i64 (h.f 3).bad) W
      have HR := Lib.hid (fun (W' : World) (hb : Below w.heap.size w W') => right_any (h.f 3) (s 3) W' ((HH.out 3 (by decide)).mono hb))
      have HS := Lib.hid (fun (W' : World) (hb : Below w.heap.size w W') => same_any (h.f 3) zeroF (s 3) zeroD W' ((HH.out 3 (by decide)).mono hb) (zeroF_at W'))
      have HO := Lib.hid (show okC h s 3 = (rightF (s 3) && (h.u 3 || sameFd (s 3) zeroD)) from rfl)
      have HV' := Lib.hid (show okC h s 3 = false → V = false from fun hq => by rw [HV.out]; unfold rightH c4; rw [hq]; simp)
      go_upto_region 4 with (fail)
      generalize hW2 : World.alloc wr _ = W2
      have D1 := Lib.hid (show BlkT 29 W2 w.heap.size h.L by rw [← hW2]; exact C1.out.up (ba _ _))
      have D2 := Lib.hid (show BlkT 25 W2 wr.heap.size (h.f 3).L by rw [← hW2]; exact BlkT.new wr (h.f 3).L _)
      have D3 := Lib.hid (show Below w.heap.size w W2 by rw [← hW2]; exact bt C3.out (ba _ _))
      have D4 := Lib.hid (show Below W.heap.size W W2 by rw [← hW2]; exact bt Hb.out (ba _ _))
      clear hW2 C1 C3 Hb hix
      generalize wr.heap.size = b4 at D2 ⊢
      obtain ⟨g0, g1, g2⟩ := cells3 D2.out.blk
      go_wp2_with fail
      refine (HR.out _ D3.out).mono ?_; rintro e w3 ⟨rfl, hb3⟩
      have E1 := Lib.hid (D1.out.up hb3)
      have E2 := Lib.hid (D2.out.up hb3)
      have E3 := Lib.hid (bt D3.out hb3)
      have E4 := Lib.hid (bt D4.out hb3)
      clear hb3 g0 g1 g2 D1 D2 D3 D4 HR
      obtain ⟨u0, u1, u2, u3⟩ := hub_u E1.out.blk
      obtain ⟨g0, g1, g2⟩ := cells3 E2.out.blk
      rcases hr : rightF (s 3) with _ | _
      · have HF := Lib.hid (HV'.out (by rw [HO.out, hr]; rfl))
        clear HV' HO HS Hok
        go_wp2_with fail
        go_ret
        exact ⟨by rw [HF.out]; rfl, E3.out⟩
      rcases hu : h.u 3 with _ | _
      · rw [hu] at u3
        have Hu := Lib.hid hu
        have Hr := Lib.hid hr
        clear hu hr
        go_wp2_with fail
        refine (HS.out _ E3.out).mono ?_; rintro e w4 ⟨rfl, hb4⟩
        have F3 := Lib.hid (bt E3.out hb4)
        have F4 := Lib.hid (bt E4.out hb4)
        clear hb4 u0 u1 u2 u3 g0 g1 g2 E1 E2 E3 E4
        rcases hs : sameFd (s 3) zeroD with _ | _
        · have HF := Lib.hid (HV'.out (by rw [HO.out, Hr.out, Hu.out, hs]; rfl))
          have hs' : ((s 3).buf == zeroD.buf && ((s 3).skip == zeroD.skip && (s 3).bad == zeroD.bad)) = false := hs
          rw [hs']
          clear HV' HO HS Hok hs hs'
          go_wp2_with fail
          go_ret
          exact ⟨by rw [HF.out]; rfl, F3.out⟩
        · have HT := Lib.hid (show okC h s 3 = true by rw [HO.out, Hr.out, Hu.out, hs]; rfl)
          have hs' : ((s 3).buf == zeroD.buf && ((s 3).skip == zeroD.skip && (s 3).bad == zeroD.bad)) = true := hs
          rw [hs']
          clear HV' HO HS hs hs'
          go_wp2_with fail
          exact ⟨⟨4, by decide, by decide, rfl, fun i hi => by
            rcases Nat.lt_or_ge i 3 with h1 | h1
            · exact Hok.out i (by omega)
            · have : i = 3 := by omega
              subst this; exact HT.out, F4.out⟩, by simp [intOf]⟩
      · have HT := Lib.hid (show okC h s 3 = true by rw [HO.out, hr, hu]; rfl)
        rw [hu] at u3
        clear hu hr HV' HO HS
        go_wp2_with fail
        exact ⟨⟨4, by decide, by decide, rfl, fun i hi => by
          rcases Nat.lt_or_ge i 3 with h1 | h1
          · exact Hok.out i (by omega)
          · have : i = 3 := by omega
            subst this; exact HT.out, E4.out⟩, by simp [intOf]⟩
    · have HF := Lib.hid (show V = isC h.nx by rw [HV.out]; unfold rightH c4; rw [Hok.out 0 (by decide), Hok.out 1 (by decide), Hok.out 2 (by decide), Hok.out 3 (by decide)]; rfl)
      obtain ⟨-, -, -, -, l4⟩ := hub_l C1.out.blk
      clear Hok Hb
      go_wp2_with fail
      refine (HN.out _).mono ?_; rintro e w4 ⟨rfl, rfl⟩
      go_wp2_with fail
      go_ret
      exact ⟨by rw [HF.out]; rfl, C3.out⟩

set_option maxRecDepth 100000 in
set_option maxHeartbeats 2000000 in
theorem refHubRight_any (h : Hv) (s : Nat → Fd) (w : World) (hh : HbAt w h s) : Calls Try.prog 10 #[h.v] w fun e w' => e = .returned (.bool (rightH h s)) ∧ Below w.heap.size w w' := by
  obtain ⟨V, hV⟩ : ∃ V, V = rightH h s := ⟨_, rfl⟩
  rw [← hV]
  have HV := Lib.hid hV
  clear hV
  have HH := Lib.hid hh
  clear hh
  go_enter Try.func10, Try.ntmps10
  go_upto_region 1 with (fail)
  generalize hW : World.alloc w _ = W
  have B1 := Lib.hid (show BlkT 29 W w.heap.size h.L by rw [← hW]; exact BlkT.new w h.L _)
  have B3 := Lib.hid (show Below w.heap.size w W by rw [← hW]; exact ba w _)
  clear hW
  go_wp2_with fail
  go_loopw [3] (fun v3 wr => ∃ k : Int, 0 ≤ k ∧ k ≤ 4 ∧ v3 = .int .i64 k ∧ (∀ i : Nat, (i : Int) < k → okC h s i = true) ∧ Below W.heap.size W wr) (fun v3 _ => 4 - (intOf v3).toNat)
  case atStart => exact ⟨0, by omega, by omega, rfl, fun i hi => by omega, Below.refl _ _⟩
  case round =>
    obtain ⟨k, hk0, hk4, rfl, hok, hb⟩ := hrel
    have Hok := Lib.hid hok
    have Hb := Lib.hid hb
    have C1 := Lib.hid (B1.out.up hb)
    have C3 := Lib.hid (bt B3.out hb)
    clear hok hb
    rcases (show k = 0 ∨ k = 1 ∨ k = 2 ∨ k = 3 ∨ k = 4 by omega) with rfl | rfl | rfl | rfl | rfl
    · clear hk0 hk4
      have HR := Lib.hid (fun (W' : World) (hb : Below w.heap.size w W') => refRight_any (h.f 0) (s 0) W' ((HH.out 0 (by decide)).mono hb))
      have HS := Lib.hid (fun (W' : World) (hb : Below w.heap.size w W') => refSame_any (h.f 0) zeroF (s 0) zeroD W' ((HH.out 0 (by decide)).mono hb) (zeroF_at W'))
      have HO := Lib.hid (show okC h s 0 = (rightF (s 0) && (h.u 0 || sameFd (s 0) zeroD)) from rfl)
      have HV' := Lib.hid (show okC h s 0 = false → V = false from fun hq => by rw [HV.out]; unfold rightH c4; rw [hq]; simp)
      obtain ⟨f0, f1, f2, f3, f4, f5, f6, f7, f8, f9, f10, f11⟩ := hub_f C1.out.blk
      go_wp2_with fail
      refine (HR.out _ C3.out).mono ?_; rintro e w3 ⟨rfl, hb3⟩
      have E1 := Lib.hid (C1.out.up hb3)
      have E3 := Lib.hid (bt C3.out hb3)
      have E4 := Lib.hid (bt Hb.out hb3)
      clear hb3 f0 f1 f2 f3 f4 f5 f6 f7 f8 f9 f10 f11 C1 C3 Hb HR
      obtain ⟨f0, f1, f2, f3, f4, f5, f6, f7, f8, f9, f10, f11⟩ := hub_f E1.out.blk
      go_wp2_with fail
      refine (HS.out _ E3.out).mono ?_; rintro e w4 ⟨rfl, hb4⟩
      have F1 := Lib.hid (E1.out.up hb4)
      have F3 := Lib.hid (bt E3.out hb4)
      have F4 := Lib.hid (bt E4.out hb4)
      clear hb4 f0 f1 f2 f3 f4 f5 f6 f7 f8 f9 f10 f11 E1 E3 E4 HS
      obtain ⟨u0, u1, u2, u3⟩ := hub_u F1.out.blk
      obtain ⟨q, hq⟩ : ∃ q, q = sameFd (s 0) zeroD := ⟨_, rfl⟩
      have hq2 : ((s 0).buf == zeroD.buf && ((s 0).skip == zeroD.skip && (s 0).bad == zeroD.bad)) = q := hq.symm
      rw [hq2]
      rw [← hq] at HO
      clear hq hq2
      obtain ⟨r, hr⟩ : ∃ r, r = rightF (s 0) := ⟨_, rfl⟩
      rw [← hr]
      rw [← hr] at HO
      clear hr
      obtain ⟨u, hu⟩ : ∃ u, u = h.u 0 := ⟨_, rfl⟩
      rw [← hu] at HO u0
      clear hu
      rcases r with _ | _ <;> rcases u with _ | _ <;> rcases q with _ | _
      all_goals first
        | (have HF := Lib.hid (HV'.out (by rw [HO.out]; rfl))
           clear HV' HO Hok
           go_wp2_with fail
           go_ret
           exact ⟨by rw [HF.out]; rfl, F3.out⟩)
        | (have HT := Lib.hid (show okC h s 0 = true by rw [HO.out]; rfl)
           clear HV' HO
           go_wp2_with fail
           exact ⟨⟨1, by decide, by decide, rfl, fun i hi => by
             rcases Nat.lt_or_ge i 0 with h1 | h1
             · exact Hok.out i (by omega)
             · have : i = 0 := by omega
               subst this; exact HT.out, F4.out⟩, by simp [intOf]⟩)
    · clear hk0 hk4
      have HR := Lib.hid (fun (W' : World) (hb : Below w.heap.size w W') => refRight_any (h.f 1) (s 1) W' ((HH.out 1 (by decide)).mono hb))
      have HS := Lib.hid (fun (W' : World) (hb : Below w.heap.size w W') => refSame_any (h.f 1) zeroF (s 1) zeroD W' ((HH.out 1 (by decide)).mono hb) (zeroF_at W'))
      have HO := Lib.hid (show okC h s 1 = (rightF (s 1) && (h.u 1 || sameFd (s 1) zeroD)) from rfl)
      have HV' := Lib.hid (show okC h s 1 = false → V = false from fun hq => by rw [HV.out]; unfold rightH c4; rw [hq]; simp)
      obtain ⟨f0, f1, f2, f3, f4, f5, f6, f7, f8, f9, f10, f11⟩ := hub_f C1.out.blk
      go_wp2_with fail
      refine (HR.out _ C3.out).mono ?_; rintro e w3 ⟨rfl, hb3⟩
      have E1 := Lib.hid (C1.out.up hb3)
      have E3 := Lib.hid (bt C3.out hb3)
      have E4 := Lib.hid (bt Hb.out hb3)
      clear hb3 f0 f1 f2 f3 f4 f5 f6 f7 f8 f9 f10 f11 C1 C3 Hb HR
      obtain ⟨f0, f1, f2, f3, f4, f5, f6, f7, f8, f9, f10, f11⟩ := hub_f E1.out.blk
      go_wp2_with fail
      refine (HS.out _ E3.out).mono ?_; rintro e w4 ⟨rfl, hb4⟩
      have F1 := Lib.hid (E1.out.up hb4)
      have F3 := Lib.hid (bt E3.out hb4)
      have F4 := Lib.hid (bt E4.out hb4)
      clear hb4 f0 f1 f2 f3 f4 f5 f6 f7 f8 f9 f10 f11 E1 E3 E4 HS
      obtain ⟨u0, u1, u2, u3⟩ := hub_u F1.out.blk
      obtain ⟨q, hq⟩ : ∃ q, q = sameFd (s 1) zeroD := ⟨_, rfl⟩
      have hq2 : ((s 1).buf == zeroD.buf && ((s 1).skip == zeroD.skip && (s 1).bad == zeroD.bad)) = q := hq.symm
      rw [hq2]
      rw [← hq] at HO
      clear hq hq2
      obtain ⟨r, hr⟩ : ∃ r, r = rightF (s 1) := ⟨_, rfl⟩
      rw [← hr]
      rw [← hr] at HO
      clear hr
      obtain ⟨u, hu⟩ : ∃ u, u = h.u 1 := ⟨_, rfl⟩
      rw [← hu] at HO u1
      clear hu
      rcases r with _ | _ <;> rcases u with _ | _ <;> rcases q with _ | _
      all_goals first
        | (have HF := Lib.hid (HV'.out (by rw [HO.out]; rfl))
           clear HV' HO Hok
           go_wp2_with fail
           go_ret
           exact ⟨by rw [HF.out]; rfl, F3.out⟩)
        | (have HT := Lib.hid (show okC h s 1 = true by rw [HO.out]; rfl)
           clear HV' HO
           go_wp2_with fail
           exact ⟨⟨2, by decide, by decide, rfl, fun i hi => by
             rcases Nat.lt_or_ge i 1 with h1 | h1
             · exact Hok.out i (by omega)
             · have : i = 1 := by omega
               subst this; exact HT.out, F4.out⟩, by simp [intOf]⟩)
    · clear hk0 hk4
      have HR := Lib.hid (fun (W' : World) (hb : Below w.heap.size w W') => refRight_any (h.f 2) (s 2) W' ((HH.out 2 (by decide)).mono hb))
      have HS := Lib.hid (fun (W' : World) (hb : Below w.heap.size w W') => refSame_any (h.f 2) zeroF (s 2) zeroD W' ((HH.out 2 (by decide)).mono hb) (zeroF_at W'))
      have HO := Lib.hid (show okC h s 2 = (rightF (s 2) && (h.u 2 || sameFd (s 2) zeroD)) from rfl)
      have HV' := Lib.hid (show okC h s 2 = false → V = false from fun hq => by rw [HV.out]; unfold rightH c4; rw [hq]; simp)
      obtain ⟨f0, f1, f2, f3, f4, f5, f6, f7, f8, f9, f10, f11⟩ := hub_f C1.out.blk
      go_wp2_with fail
      refine (HR.out _ C3.out).mono ?_; rintro e w3 ⟨rfl, hb3⟩
      have E1 := Lib.hid (C1.out.up hb3)
      have E3 := Lib.hid (bt C3.out hb3)
      have E4 := Lib.hid (bt Hb.out hb3)
      clear hb3 f0 f1 f2 f3 f4 f5 f6 f7 f8 f9 f10 f11 C1 C3 Hb HR
      obtain ⟨f0, f1, f2, f3, f4, f5, f6, f7, f8, f9, f10, f11⟩ := hub_f E1.out.blk
      go_wp2_with fail
      refine (HS.out _ E3.out).mono ?_; rintro e w4 ⟨rfl, hb4⟩
      have F1 := Lib.hid (E1.out.up hb4)
      have F3 := Lib.hid (bt E3.out hb4)
      have F4 := Lib.hid (bt E4.out hb4)
      clear hb4 f0 f1 f2 f3 f4 f5 f6 f7 f8 f9 f10 f11 E1 E3 E4 HS
      obtain ⟨u0, u1, u2, u3⟩ := hub_u F1.out.blk
      obtain ⟨q, hq⟩ : ∃ q, q = sameFd (s 2) zeroD := ⟨_, rfl⟩
      have hq2 : ((s 2).buf == zeroD.buf && ((s 2).skip == zeroD.skip && (s 2).bad == zeroD.bad)) = q := hq.symm
      rw [hq2]
      rw [← hq] at HO
      clear hq hq2
      obtain ⟨r, hr⟩ : ∃ r, r = rightF (s 2) := ⟨_, rfl⟩
      rw [← hr]
      rw [← hr] at HO
      clear hr
      obtain ⟨u, hu⟩ : ∃ u, u = h.u 2 := ⟨_, rfl⟩
      rw [← hu] at HO u2
      clear hu
      rcases r with _ | _ <;> rcases u with _ | _ <;> rcases q with _ | _
      all_goals first
        | (have HF := Lib.hid (HV'.out (by rw [HO.out]; rfl))
           clear HV' HO Hok
           go_wp2_with fail
           go_ret
           exact ⟨by rw [HF.out]; rfl, F3.out⟩)
        | (have HT := Lib.hid (show okC h s 2 = true by rw [HO.out]; rfl)
           clear HV' HO
           go_wp2_with fail
           exact ⟨⟨3, by decide, by decide, rfl, fun i hi => by
             rcases Nat.lt_or_ge i 2 with h1 | h1
             · exact Hok.out i (by omega)
             · have : i = 2 := by omega
               subst this; exact HT.out, F4.out⟩, by simp [intOf]⟩)
    · clear hk0 hk4
      have HR := Lib.hid (fun (W' : World) (hb : Below w.heap.size w W') => refRight_any (h.f 3) (s 3) W' ((HH.out 3 (by decide)).mono hb))
      have HS := Lib.hid (fun (W' : World) (hb : Below w.heap.size w W') => refSame_any (h.f 3) zeroF (s 3) zeroD W' ((HH.out 3 (by decide)).mono hb) (zeroF_at W'))
      have HO := Lib.hid (show okC h s 3 = (rightF (s 3) && (h.u 3 || sameFd (s 3) zeroD)) from rfl)
      have HV' := Lib.hid (show okC h s 3 = false → V = false from fun hq => by rw [HV.out]; unfold rightH c4; rw [hq]; simp)
      obtain ⟨f0, f1, f2, f3, f4, f5, f6, f7, f8, f9, f10, f11⟩ := hub_f C1.out.blk
      go_wp2_with fail
      refine (HR.out _ C3.out).mono ?_; rintro e w3 ⟨rfl, hb3⟩
      have E1 := Lib.hid (C1.out.up hb3)
      have E3 := Lib.hid (bt C3.out hb3)
      have E4 := Lib.hid (bt Hb.out hb3)
      clear hb3 f0 f1 f2 f3 f4 f5 f6 f7 f8 f9 f10 f11 C1 C3 Hb HR
      obtain ⟨f0, f1, f2, f3, f4, f5, f6, f7, f8, f9, f10, f11⟩ := hub_f E1.out.blk
      go_wp2_with fail
      refine (HS.out _ E3.out).mono ?_; rintro e w4 ⟨rfl, hb4⟩
      have F1 := Lib.hid (E1.out.up hb4)
      have F3 := Lib.hid (bt E3.out hb4)
      have F4 := Lib.hid (bt E4.out hb4)
      clear hb4 f0 f1 f2 f3 f4 f5 f6 f7 f8 f9 f10 f11 E1 E3 E4 HS
      obtain ⟨u0, u1, u2, u3⟩ := hub_u F1.out.blk
      obtain ⟨q, hq⟩ : ∃ q, q = sameFd (s 3) zeroD := ⟨_, rfl⟩
      have hq2 : ((s 3).buf == zeroD.buf && ((s 3).skip == zeroD.skip && (s 3).bad == zeroD.bad)) = q := hq.symm
      rw [hq2]
      rw [← hq] at HO
      clear hq hq2
      obtain ⟨r, hr⟩ : ∃ r, r = rightF (s 3) := ⟨_, rfl⟩
      rw [← hr]
      rw [← hr] at HO
      clear hr
      obtain ⟨u, hu⟩ : ∃ u, u = h.u 3 := ⟨_, rfl⟩
      rw [← hu] at HO u3
      clear hu
      rcases r with _ | _ <;> rcases u with _ | _ <;> rcases q with _ | _
      all_goals first
        | (have HF := Lib.hid (HV'.out (by rw [HO.out]; rfl))
           clear HV' HO Hok
           go_wp2_with fail
           go_ret
           exact ⟨by rw [HF.out]; rfl, F3.out⟩)
        | (have HT := Lib.hid (show okC h s 3 = true by rw [HO.out]; rfl)
           clear HV' HO
           go_wp2_with fail
           exact ⟨⟨4, by decide, by decide, rfl, fun i hi => by
             rcases Nat.lt_or_ge i 3 with h1 | h1
             · exact Hok.out i (by omega)
             · have : i = 3 := by omega
               subst this; exact HT.out, F4.out⟩, by simp [intOf]⟩)
    · have HF := Lib.hid (show V = isC h.nx by rw [HV.out]; unfold rightH c4; rw [Hok.out 0 (by decide), Hok.out 1 (by decide), Hok.out 2 (by decide), Hok.out 3 (by decide)]; rfl)
      obtain ⟨-, -, -, -, l4⟩ := hub_l C1.out.blk
      clear Hok Hb
      rcases (show h.nx < 0 ∨ (0 ≤ h.nx ∧ h.nx < 4) ∨ 4 ≤ h.nx by omega) with h1 | ⟨h1, h2⟩ | h1
      all_goals
        go_wp2_with fail
        go_ret
        exact ⟨by rw [HF.out]; unfold isC; simp [h1] <;> omega, C3.out⟩
end Go.Proofs.Ytcccgjpmfbmplaa
