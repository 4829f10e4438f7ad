/- Hubs: their values; a connection turned, raised, cut. -/
import Derived.Test.YtcccgjpmfbmplaaFrC
import Derived.Test.YtcccgjpmfbmplaaFrK
import Derived.Test.YtcccgjpmfbmplaaBlk2
import Derived.Deep.DeepCutAuto
set_option linter.unusedSimpArgs false
set_option linter.unusedVariables false
namespace Go.Proofs.Ytcccgjpmfbmplaa
open Go.RowKit

/-- a hub's value -/
structure Hv where
  u : Nat → Bool
  f : Nat → Fv
  l : Nat → Int
  nx : Int
abbrev Hv.L (h : Hv) : List Value := [.bool (h.u 0), .bool (h.u 1), .bool (h.u 2), .bool (h.u 3),
  .slice (h.f 0).a (h.f 0).len (h.f 0).cap, .int .i64 (h.f 0).skip, .int .i64 (h.f 0).bad, .slice (h.f 1).a (h.f 1).len (h.f 1).cap, .int .i64 (h.f 1).skip, .int .i64 (h.f 1).bad,
  .slice (h.f 2).a (h.f 2).len (h.f 2).cap, .int .i64 (h.f 2).skip, .int .i64 (h.f 2).bad, .slice (h.f 3).a (h.f 3).len (h.f 3).cap, .int .i64 (h.f 3).skip, .int .i64 (h.f 3).bad,
  .int .i64 (h.l 0), .int .i64 (h.l 1), .int .i64 (h.l 2), .int .i64 (h.l 3), .int .i64 h.nx]
abbrev Hv.v (h : Hv) : Value := .agg #[.bool (h.u 0), .bool (h.u 1), .bool (h.u 2), .bool (h.u 3),
  .slice (h.f 0).a (h.f 0).len (h.f 0).cap, .int .i64 (h.f 0).skip, .int .i64 (h.f 0).bad, .slice (h.f 1).a (h.f 1).len (h.f 1).cap, .int .i64 (h.f 1).skip, .int .i64 (h.f 1).bad,
  .slice (h.f 2).a (h.f 2).len (h.f 2).cap, .int .i64 (h.f 2).skip, .int .i64 (h.f 2).bad, .slice (h.f 3).a (h.f 3).len (h.f 3).cap, .int .i64 (h.f 3).skip, .int .i64 (h.f 3).bad,
  .int .i64 (h.l 0), .int .i64 (h.l 1), .int .i64 (h.l 2), .int .i64 (h.l 3), .int .i64 h.nx]
def upd {α : Type} (f : Nat → α) (c : Nat) (v : α) : Nat → α := fun i => if i = c then v else f i
abbrev zeroF : Fv := ⟨none, 0, 0, 0, 0⟩
def Hv.turn (h : Hv) (c : Nat) (up : Bool) : Hv := ⟨upd h.u c up, upd h.f c zeroF, h.l, h.nx⟩
def Hv.live (h : Hv) (c : Nat) : Hv := ⟨h.u, h.f, upd h.l c (more (h.l c)), h.nx⟩
theorem hub_size : (Try.prog.info? 29).map (·.size) = some 21 := by kernel_rfl
theorem hub_u {w : World} {b : Nat} {h : Hv} (hb : Blk w b h.L) : w.cell? ⟨b, 0, none⟩ = some (.bool (h.u 0)) ∧ w.cell? ⟨b, 1, none⟩ = some (.bool (h.u 1)) ∧ w.cell? ⟨b, 2, none⟩ = some (.bool (h.u 2)) ∧ w.cell? ⟨b, 3, none⟩ = some (.bool (h.u 3)) :=
  ⟨hb.cell 0 (by simp), hb.cell 1 (by simp), hb.cell 2 (by simp), hb.cell 3 (by simp)⟩
theorem hub_f {w : World} {b : Nat} {h : Hv} (hb : Blk w b h.L) : w.cell? ⟨b, 4, none⟩ = some (.slice (h.f 0).a (h.f 0).len (h.f 0).cap) ∧ w.cell? ⟨b, 5, none⟩ = some (.int .i64 (h.f 0).skip) ∧ w.cell? ⟨b, 6, none⟩ = some (.int .i64 (h.f 0).bad) ∧ w.cell? ⟨b, 7, none⟩ = some (.slice (h.f 1).a (h.f 1).len (h.f 1).cap) ∧ w.cell? ⟨b, 8, none⟩ = some (.int .i64 (h.f 1).skip) ∧ w.cell? ⟨b, 9, none⟩ = some (.int .i64 (h.f 1).bad) ∧ w.cell? ⟨b, 10, none⟩ = some (.slice (h.f 2).a (h.f 2).len (h.f 2).cap) ∧ w.cell? ⟨b, 11, none⟩ = some (.int .i64 (h.f 2).skip) ∧ w.cell? ⟨b, 12, none⟩ = some (.int .i64 (h.f 2).bad) ∧ w.cell? ⟨b, 13, none⟩ = some (.slice (h.f 3).a (h.f 3).len (h.f 3).cap) ∧ w.cell? ⟨b, 14, none⟩ = some (.int .i64 (h.f 3).skip) ∧ w.cell? ⟨b, 15, none⟩ = some (.int .i64 (h.f 3).bad) :=
  ⟨hb.cell 4 (by simp), hb.cell 5 (by simp), hb.cell 6 (by simp), hb.cell 7 (by simp), hb.cell 8 (by simp), hb.cell 9 (by simp), hb.cell 10 (by simp), hb.cell 11 (by simp), hb.cell 12 (by simp), hb.cell 13 (by simp), hb.cell 14 (by simp), hb.cell 15 (by simp)⟩
theorem hub_l {w : World} {b : Nat} {h : Hv} (hb : Blk w b h.L) : w.cell? ⟨b, 16, none⟩ = some (.int .i64 (h.l 0)) ∧ w.cell? ⟨b, 17, none⟩ = some (.int .i64 (h.l 1)) ∧ w.cell? ⟨b, 18, none⟩ = some (.int .i64 (h.l 2)) ∧ w.cell? ⟨b, 19, none⟩ = some (.int .i64 (h.l 3)) ∧ w.cell? ⟨b, 20, none⟩ = some (.int .i64 h.nx) :=
  ⟨hb.cell 16 (by simp), hb.cell 17 (by simp), hb.cell 18 (by simp), hb.cell 19 (by simp), hb.cell 20 (by simp)⟩

def isC (c : Int) : Bool := decide (0 ≤ c) && decide (c < 4)
set_option maxHeartbeats 400000 in
theorem is_any (c : Int) (w : World) : Calls Try.prog 32 #[.int .i64 c] w fun e w' => e = .returned (.bool (isC c)) ∧ w = w' := by
  obtain ⟨V, hV⟩ : ∃ V, V = isC c := ⟨_, rfl⟩
  rw [← hV]
  have HV := Lib.hid hV
  clear hV
  by_cases h1 : 0 ≤ c <;> by_cases h2 : c < 4
  all_goals
    go_enter Try.func32, Try.ntmps32
    go_wp2_with fail
    go_ret
    exact ⟨by rw [HV.out]; unfold isC; simp [h1, h2] <;> omega, rfl⟩

/-- a hub, and a number, as a result -/
def HubOut (w : World) (p : Hv × Int) (e : Ending) (w' : World) : Prop := e = .returned (.tuple #[p.1.v, .int .i64 p.2]) ∧ Below w.heap.size w w'
def turnedF (h : Hv) (c : Int) (up : Bool) : Hv × Int := bif isC c then (bif (h.u c.toNat == up) then (h, 9) else (h.turn c.toNat up, 0)) else (h, 1)
theorem isC_four {c : Int} (h : isC c = true) : c = 0 ∨ c = 1 ∨ c = 2 ∨ c = 3 := by unfold isC at h; simp at h; omega
theorem hub_two (w : World) (L M : List Value) : BlkT 29 ((w.alloc (.cells L.toArray 29)).alloc (.cells M.toArray 29)) w.heap.size L ∧ BlkT 29 ((w.alloc (.cells L.toArray 29)).alloc (.cells M.toArray 29)) (w.heap.size + 1) M ∧ Below w.heap.size w ((w.alloc (.cells L.toArray 29)).alloc (.cells M.toArray 29)) := by
  have k1 := BlkT.new (w.alloc (.cells L.toArray 29)) M 29
  rw [show (w.alloc (.cells L.toArray 29)).heap.size = w.heap.size + 1 by simp] at k1
  exact ⟨(BlkT.new w L _).up (ba _ _), k1, bt (ba w _) (ba _ _)⟩
def zeroH : Hv := ⟨fun _ => false, fun _ => zeroF, fun _ => 0, 0⟩
set_option maxRecDepth 100000 in
set_option maxHeartbeats 2000000 in
theorem turned_any (h : Hv) (c : Int) (up : Bool) (w : World) : Calls Try.prog 33 #[h.v, .int .i64 c, .bool up] w (HubOut w (turnedF h c up)) := by
  obtain ⟨V, hV⟩ : ∃ V, V = turnedF h c up := ⟨_, rfl⟩
  rw [← hV]
  have HV := Lib.hid hV
  clear hV
  have HI := Lib.hid hub_size
  rcases hc : isC c with _ | _
  · have Hc := Lib.hid (fun W => is_any c W)
    rw [hc] at Hc
    have HV2 := Lib.hid (show V = (h, 1) by rw [HV.out]; unfold turnedF; rw [hc]; rfl)
    clear HV hc
    go_enter Try.func33, Try.ntmps33
    go_upto_region 1 with (fail)
    generalize hW : World.alloc (World.alloc w _) _ = W
    obtain ⟨hB1, hB2, hB3⟩ : BlkT 29 W w.heap.size h.L ∧ BlkT 29 W (w.heap.size + 1) zeroH.L ∧ Below w.heap.size w W := by rw [← hW]; exact hub_two w h.L zeroH.L
    clear hW
    have B1 := Lib.hid hB1
    have B2 := Lib.hid hB2
    have B3 := Lib.hid hB3
    have B4 := Lib.hid (show w.heap.size ≤ w.heap.size + 1 by omega)
    clear hB1 hB2 hB3
    generalize w.heap.size + 1 = b2 at B2 B4 ⊢
    go_wp2_with fail
    refine (Hc.out _).mono ?_; rintro e w1 ⟨rfl, rfl⟩
    go_wp2_with (first
      | (refine wpList_load_blk 29 (.tmp 3) w.heap.size (cs := h.L) rfl rfl rfl B1.out.blk Try.underlying29 rfl HI.out ?_)
      | (refine wpList_store_blk 29 (.tmp 6) (.tmp 11) b2 (old := zeroH.L) (cs := h.L) rfl rfl rfl rfl B2.out.blk HI.out rfl rfl ?_))
    refine bodyPost_ret (results_blk_tmp rfl _ _ b2 (cs := h.L) rfl _ rfl ((B2.out.row h.L).blk) Try.underlying29 rfl hub_size) rfl ?_
    exact ⟨by rw [HV2.out]; rfl, below_setRow B3.out B4.out _⟩
  · have HV2 := Lib.hid (show V = bif (h.u c.toNat == up) then (h, 9) else (h.turn c.toNat up, 0) by rw [HV.out]; unfold turnedF; rw [hc]; rfl)
    have Hc := Lib.hid (fun W => is_any c W)
    rw [hc] at Hc
    have hc4 := isC_four hc
    clear HV hc
    rcases hc4 with rfl | rfl | rfl | rfl
    all_goals
      rcases hq : (h.u (Int.toNat _) == up) with _ | _
      all_goals
        rw [hq] at HV2
        first | (have hq' : (h.u 0 == up) = _ := hq) | (have hq' : (h.u 1 == up) = _ := hq) | (have hq' : (h.u 2 == up) = _ := hq) | (have hq' : (h.u 3 == up) = _ := hq)
        clear hq
        go_enter Try.func33, Try.ntmps33
        go_upto_region 1 with (fail)
        generalize hW : World.alloc (World.alloc w _) _ = W
        obtain ⟨hB1, hB2, hB3⟩ : BlkT 29 W w.heap.size h.L ∧ BlkT 29 W (w.heap.size + 1) zeroH.L ∧ Below w.heap.size w W := by rw [← hW]; exact hub_two w h.L zeroH.L
        clear hW
        have B1 := Lib.hid hB1
        have B2 := Lib.hid hB2
        have B3 := Lib.hid hB3
        have B4 := Lib.hid (show w.heap.size ≤ w.heap.size + 1 by omega)
        have B5 := Lib.hid (show w.heap.size + 1 ≠ w.heap.size by omega)
        clear hB1 hB2 hB3
        generalize w.heap.size + 1 = b2 at B2 B4 B5 ⊢
        obtain ⟨u0, u1, u2, u3⟩ := hub_u B1.out.blk
        obtain ⟨f0, f1, f2, f3, f4, f5, f6, f7, f8, f9, f10, f11⟩ := hub_f B1.out.blk
        have fz := B1.out.blk.frozen
        go_wp2_with fail
        refine (Hc.out _).mono ?_; rintro e w1 ⟨rfl, rfl⟩
      · go_upto_region 7 with (fail)
        generalize hW : World.setCell (World.setCell (World.setCell (World.setCell W _ _) _ _) _ _) _ _ = W'
        obtain ⟨hB1, hB2, hB3⟩ : BlkT 29 W' w.heap.size V.1.L ∧ BlkT 29 W' b2 zeroH.L ∧ Below w.heap.size w W' := by
          rw [HV2.out, ← hW]
          exact ⟨(((B1.out.set _ _).set _ _).set _ _).set _ _, (((B2.out.other B5.out _).other B5.out _).other B5.out _).other B5.out _, (((B3.out.setCell (Nat.le_refl _) _).setCell (Nat.le_refl _) _).setCell (Nat.le_refl _) _).setCell (Nat.le_refl _) _⟩
        have C1 := Lib.hid hB1
        have C2 := Lib.hid hB2
        have C3 := Lib.hid hB3
        clear hB1 hB2 hB3 hW
        go_wp2_with (first
          | (refine wpList_load_blk 29 (.tmp 3) w.heap.size (cs := V.1.L) rfl rfl rfl C1.out.blk Try.underlying29 rfl HI.out ?_)
          | (refine wpList_store_blk 29 (.tmp 6) (.tmp 27) b2 (old := zeroH.L) (cs := V.1.L) rfl rfl rfl rfl C2.out.blk HI.out rfl rfl ?_))
        refine bodyPost_ret (results_blk_tmp rfl _ _ b2 (cs := V.1.L) rfl _ rfl ((C2.out.row V.1.L).blk) Try.underlying29 rfl hub_size) rfl ?_
        exact ⟨by rw [show V.2 = 0 by rw [HV2.out]; rfl]; rfl, below_setRow C3.out B4.out _⟩
      · go_wp2_with (first
          | (refine wpList_load_blk 29 (.tmp 3) w.heap.size (cs := h.L) rfl rfl rfl B1.out.blk Try.underlying29 rfl HI.out ?_)
          | (refine wpList_store_blk 29 (.tmp 6) (.tmp 18) b2 (old := zeroH.L) (cs := h.L) rfl rfl rfl rfl B2.out.blk HI.out rfl rfl ?_))
        refine bodyPost_ret (results_blk_tmp rfl _ _ b2 (cs := h.L) rfl _ rfl ((B2.out.row h.L).blk) Try.underlying29 rfl hub_size) rfl ?_
        exact ⟨by rw [HV2.out]; rfl, below_setRow B3.out B4.out _⟩
end Go.Proofs.Ytcccgjpmfbmplaa
