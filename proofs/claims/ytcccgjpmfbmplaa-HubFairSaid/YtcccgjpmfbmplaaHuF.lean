/- Hubs: which connection comes next, of the program and of the document. -/
import Derived.Test.YtcccgjpmfbmplaaHuE
set_option linter.unusedSimpArgs false
set_option linter.unusedVariables false
namespace Go.Proofs.Ytcccgjpmfbmplaa
open Go.RowKit

theorem results_cell_tmp2 {fn : Func} {p u v : Tmp} {ty : TypeId} (h : fn.results = #[.cell p ty, .tmp u, .tmp v]) (tmps : Array Value) (P : Program) (w : World) :
    (results fn tmps).run P w =
      ((asAddr (tmps.getD p undef)).run P w).andThen fun a w₁ => ((loadVar ty a).run P w₁).andThen fun x w₂ => .ok (.tuple #[x, tmps.getD u undef, tmps.getD v undef]) w₂ := by
  simp only [results, h]
  simp [Sem.run_bind, Result.andThen]
theorem results_blk_tmp2 {P : Program} {fn : Func} {p u v : Tmp} {ty : TypeId} (h : fn.results = #[.cell p ty, .tmp u, .tmp v]) (tmps : Array Value) (w : World) (g : Nat) {cs : List Value} {d : TypeDesc}
    (hp : tmps.getD p undef = .pointer (some ⟨g, 0, none⟩)) (v2 v3 : Value) (hv : tmps.getD u undef = v2) (hv3 : tmps.getD v undef = v3) (hb : Blk w g cs) (hu : P.underlying ty = some d) (hd : (match d with | .struct _ | .array _ _ => true | _ => false) = true) (hi : (P.info? ty).map (·.size) = some cs.length) :
    (results fn tmps).run P w = .ok (.tuple #[.agg cs.toArray, v2, v3]) w := by
  obtain ⟨T, hg⟩ := hb
  rw [results_cell_tmp2 h, hp, hv, hv3]
  simp [asAddr, run_loadVar_row w g T ty cs.toArray _ d hg hu hd (by simpa using hi)]

def pickGo (h : Hv) : Nat → Nat → Option Nat
  | 0, _ => none
  | f + 1, c => bif h.u c then some c else pickGo h f ((c + 1) % 4)
/-- the connection that comes next -/
def pickC (h : Hv) : Option Nat := pickGo h 4 h.nx.toNat
def Hv.next (h : Hv) (c : Nat) : Hv := ⟨h.u, h.f, h.l, (((c + 1) % 4 : Nat) : Int)⟩
def pickF (h : Hv) : Hv × Int × Int := match pickC h with | some c => (h.next c, (c : Int), 0) | none => (h, 0, 11)
def Hub3 (w : World) (p : Hv × Int × Int) (e : Ending) (w' : World) : Prop := e = .returned (.tuple #[p.1.v, .int .i64 p.2.1, .int .i64 p.2.2]) ∧ Below w.heap.size w w'
theorem hub_up {w : World} {b : Nat} {h : Hv} (hb : Blk w b h.L) (c : Nat) (hc : c < 4) : w.cell? ⟨b, c, none⟩ = some (.bool (h.u c)) := by
  obtain ⟨u0, u1, u2, u3⟩ := hub_u hb
  rcases (show c = 0 ∨ c = 1 ∨ c = 2 ∨ c = 3 by omega) with rfl | rfl | rfl | rfl <;> assumption
def distH (h : Hv) (c : Nat) : Nat := bif h.u c then 0 else bif h.u ((c + 1) % 4) then 1 else bif h.u ((c + 2) % 4) then 2 else 3
theorem pick_step (h : Hv) (C : Nat) (hC : C < 4) (hu : h.u C = false) (hs : (pickGo h 4 C).isSome = true) : pickGo h 4 ((C + 1) % 4) = pickGo h 4 C ∧ distH h ((C + 1) % 4) < distH h C := by
  rcases (show C = 0 ∨ C = 1 ∨ C = 2 ∨ C = 3 by omega) with rfl | rfl | rfl | rfl
  all_goals
    simp only [pickGo, distH, Nat.reduceAdd, Nat.reduceMod] at hs ⊢
    revert hs hu
    cases h.u 0 <;> cases h.u 1 <;> cases h.u 2 <;> cases h.u 3 <;> simp
theorem any_pick (h : Hv) (hn : isC h.nx = true) : anyH h = (pickC h).isSome := by
  unfold pickC
  rcases isC_four hn with h0 | h0 | h0 | h0 <;> rw [h0] <;> simp [pickGo, anyH] <;> cases h.u 0 <;> cases h.u 1 <;> cases h.u 2 <;> cases h.u 3 <;> rfl

set_option maxRecDepth 100000 in
set_option maxHeartbeats 2000000 in
theorem pick_any (h : Hv) (hn : isC h.nx = true) (w : World) : Calls Try.prog 14 #[h.v] w (Hub3 w (pickF h)) := by
  obtain ⟨V, hV⟩ : ∃ V, V = pickF h := ⟨_, rfl⟩
  rw [← hV]
  have HV := Lib.hid hV
  have HI := Lib.hid hub_size
  obtain ⟨N, hN, hN4⟩ : ∃ N : Nat, h.nx = (N : Int) ∧ N < 4 := by
    have := isC_four hn
    exact ⟨h.nx.toNat, by omega, by omega⟩
  have HN := Lib.hid hN
  clear hV hN hn
  go_enter Try.func14, Try.ntmps14
  go_upto_region 1 with (fail)
  generalize hW : World.alloc (World.alloc w _) _ = W
  obtain ⟨hB1, hB2, hB3⟩ : BlkT 29 W w.heap.size h.L ∧ BlkT 29 W (w.heap.size + 1) zeroH.L ∧ Below w.heap.size w W := by rw [← hW]; exact hub_two w h.L zeroH.L
  clear hW
  have B1 := Lib.hid hB1
  have B2 := Lib.hid hB2
  have B3 := Lib.hid hB3
  have B4 := Lib.hid (show w.heap.size ≤ w.heap.size + 1 by omega)
  have B5 := Lib.hid (show w.heap.size + 1 ≠ w.heap.size by omega)
  clear hB1 hB2 hB3
  generalize w.heap.size + 1 = b2 at B2 B4 B5 ⊢
  go_wp2_with fail
  go_loopw [7] (fun v7 wr => ∃ k : Nat, k ≤ 4 ∧ v7 = .int .i64 k ∧ pickGo h (4 - k) ((N + k) % 4) = pickC h ∧ wr = W) (fun v7 _ => 4 - (intOf v7).toNat)
  case atStart => exact ⟨0, by omega, rfl, by unfold pickC; rw [HN.out, Nat.mod_eq_of_lt (by omega)]; rfl, rfl⟩
  case round =>
    obtain ⟨k, hk4, rfl, hgo, rfl⟩ := hrel
    have Hgo := Lib.hid hgo
    clear hgo
    by_cases hlt : k < 4
    · obtain ⟨C, hC⟩ : ∃ C, C = (N + k) % 4 := ⟨_, rfl⟩
      have hC4 : C < 4 := by rw [hC]; exact Nat.mod_lt _ (by decide)
      have hm : ((N : Int) + (k : Int)).tmod 4 = (C : Int) := by rw [Int.tmod_eq_emod_of_nonneg (by omega), hC]; omega
      have hm' : ((N : Int) + (k : Int)) % 4 = (C : Int) := by rw [hC]; omega
      have Hstep := Lib.hid (show pickC h = bif h.u C then some C else pickGo h (4 - (k + 1)) ((C + 1) % 4) by
        rw [← Hgo.out, ← hC, show 4 - k = (4 - (k + 1)) + 1 by omega]; rfl)
      have Hnx := Lib.hid (show (C + 1) % 4 = (N + (k + 1)) % 4 by omega)
      have hl4 : wr.cell? ⟨w.heap.size, 20, none⟩ = some (.int .i64 (N : Int)) := by rw [← HN.out]; exact B1.out.blk.cell 20 (by simp)
      have hcu := hub_up B1.out.blk C hC4
      have fz := B1.out.blk.frozen
      clear hC
      rcases hu : h.u C with _ | _
      · rw [hu] at hcu
        have Hp := Lib.hid (show pickGo h (4 - (k + 1)) ((N + (k + 1)) % 4) = pickC h by rw [Hstep.out, hu, ← Hnx.out]; rfl)
        clear hu Hstep Hnx Hgo
        go_wp2_with fail
        exact ⟨⟨k + 1, by omega, by go_num, Hp.out, by first | rfl | trivial⟩, by simp [intOf]; omega⟩
      · rw [hu] at hcu
        have HV2 := Lib.hid (show V = (h.next C, (C : Int), 0) by rw [HV.out]; unfold pickF; rw [Hstep.out, hu]; rfl)
        clear hu Hstep Hnx Hgo
        obtain ⟨D, hD⟩ : ∃ D, D = (C + 1) % 4 := ⟨_, rfl⟩
        have hm2 : ((C : Int) + 1).tmod 4 = (D : Int) := by rw [Int.tmod_eq_emod_of_nonneg (by omega), hD]; omega
        have hm2' : ((C : Int) + 1) % 4 = (D : Int) := by rw [hD]; omega
        have HD := Lib.hid hD
        clear hD
        go_upto_region 7 with (fail)
        generalize hW3 : World.setCell wr _ _ = W3
        obtain ⟨hB1, hB2, hB3⟩ : BlkT 29 W3 w.heap.size (h.next C).L ∧ BlkT 29 W3 b2 zeroH.L ∧ Below w.heap.size w W3 := by
          rw [← hW3, HD.out]
          exact ⟨B1.out.set _ _, B2.out.other B5.out _, B3.out.setCell (Nat.le_refl _) _⟩
        have E1 := Lib.hid hB1
        have E2 := Lib.hid hB2
        have E3 := Lib.hid hB3
        clear hB1 hB2 hB3 hW3 hl4 hcu fz hm hm' hm2 hm2'
        go_wp2_with (first
          | (refine wpList_load_blk 29 (.tmp 1) w.heap.size (cs := (h.next C).L) rfl rfl rfl E1.out.blk Try.underlying29 rfl HI.out ?_)
          | (refine wpList_store_blk 29 (.tmp 2) (.tmp 23) b2 (old := zeroH.L) (cs := (h.next C).L) rfl rfl rfl rfl E2.out.blk HI.out rfl rfl ?_))
        refine bodyPost_ret (results_blk_tmp2 rfl _ _ b2 (cs := (h.next C).L) rfl _ _ rfl rfl ((E2.out.row (h.next C).L).blk) Try.underlying29 rfl hub_size) rfl ?_
        exact ⟨by rw [HV2.out]; rfl, below_setRow E3.out B4.out _⟩
    · have HV2 := Lib.hid (show V = (h, 0, 11) by
        have : pickC h = none := by rw [← Hgo.out, show 4 - k = 0 by omega]; rfl
        rw [HV.out]; unfold pickF; rw [this])
      clear Hgo
      go_wp2_with (first
        | (refine wpList_load_blk 29 (.tmp 1) w.heap.size (cs := h.L) rfl rfl rfl B1.out.blk Try.underlying29 rfl HI.out ?_)
        | (refine wpList_store_blk 29 (.tmp 2) (.tmp 26) b2 (old := zeroH.L) (cs := h.L) rfl rfl rfl rfl B2.out.blk HI.out rfl rfl ?_))
      refine bodyPost_ret (results_blk_tmp2 rfl _ _ b2 (cs := h.L) rfl _ _ rfl rfl ((B2.out.row h.L).blk) Try.underlying29 rfl hub_size) rfl ?_
      exact ⟨by rw [HV2.out]; rfl, below_setRow B3.out B4.out _⟩

set_option maxRecDepth 100000 in
set_option maxHeartbeats 2000000 in
theorem refPick_any (h : Hv) (hn : isC h.nx = true) (w : World) : Calls Try.prog 15 #[h.v] w (Hub3 w (pickF h)) := by
  obtain ⟨V, hV⟩ : ∃ V, V = pickF h := ⟨_, rfl⟩
  rw [← hV]
  have HV := Lib.hid hV
  have HI := Lib.hid hub_size
  obtain ⟨N, hN, hN4⟩ : ∃ N : Nat, h.nx = (N : Int) ∧ N < 4 := by
    have := isC_four hn
    exact ⟨h.nx.toNat, by omega, by omega⟩
  have HN := Lib.hid hN
  have HA := Lib.hid (fun W => refAny_any h W)
  have Hap := Lib.hid (any_pick h hn)
  clear hV hN hn
  go_enter Try.func15, Try.ntmps15
  go_upto_region 1 with (fail)
  generalize hW : World.alloc (World.alloc w _) _ = W
  obtain ⟨hB1, hB2, hB3⟩ : BlkT 29 W w.heap.size h.L ∧ BlkT 29 W (w.heap.size + 1) zeroH.L ∧ Below w.heap.size w W := by rw [← hW]; exact hub_two w h.L zeroH.L
  clear hW
  have B1 := Lib.hid hB1
  have B2 := Lib.hid hB2
  have B3 := Lib.hid hB3
  have B4 := Lib.hid (show w.heap.size ≤ w.heap.size + 1 by omega)
  have B5 := Lib.hid (show w.heap.size + 1 ≠ w.heap.size by omega)
  clear hB1 hB2 hB3
  generalize w.heap.size + 1 = b2 at B2 B4 B5 ⊢
  go_wp2_with (first
    | (refine wpList_load_blk 29 (.tmp 1) w.heap.size (cs := h.L) rfl rfl rfl B1.out.blk Try.underlying29 rfl HI.out ?_))
  refine (HA.out _).mono ?_; rintro e W1 ⟨rfl, hb1⟩
  have C1 := Lib.hid (B1.out.up hb1)
  have C2 := Lib.hid (B2.out.up hb1)
  have C3 := Lib.hid (bt B3.out hb1)
  clear hb1 B1 B2 B3 HA
  rcases ha : anyH h with _ | _
  · have HV2 := Lib.hid (show V = (h, 0, 11) by
      have : pickC h = none := by have := Hap.out; rw [ha] at this; exact Option.isSome_eq_false_iff.1 this.symm |> Option.isNone_iff_eq_none.1
      rw [HV.out]; unfold pickF; rw [this])
    clear Hap ha
    go_wp2_with (first
      | (refine wpList_load_blk 29 (.tmp 1) w.heap.size (cs := h.L) rfl rfl rfl C1.out.blk Try.underlying29 rfl HI.out ?_)
      | (refine wpList_store_blk 29 (.tmp 2) (.tmp 11) b2 (old := zeroH.L) (cs := h.L) rfl rfl rfl rfl C2.out.blk HI.out rfl rfl ?_))
    refine bodyPost_ret (results_blk_tmp2 rfl _ _ b2 (cs := h.L) rfl _ _ rfl rfl ((C2.out.row h.L).blk) Try.underlying29 rfl hub_size) rfl ?_
    exact ⟨by rw [HV2.out]; rfl, below_setRow C3.out B4.out _⟩
  · have Hs := Lib.hid (show (pickC h).isSome = true by rw [← Hap.out, ha])
    have hl4 : W1.cell? ⟨w.heap.size, 20, none⟩ = some (.int .i64 (N : Int)) := by rw [← HN.out]; exact C1.out.blk.cell 20 (by simp)
    have fz := C1.out.blk.frozen
    clear Hap ha
    go_wp2_with fail
    go_loopw [6] (fun v6 wr => ∃ C : Nat, C < 4 ∧ v6 = .int .i64 C ∧ pickGo h 4 C = pickC h ∧ wr = W1) (fun v6 _ => distH h (intOf v6).toNat)
    case atStart => exact ⟨N, hN4, rfl, by unfold pickC; rw [HN.out]; rfl, rfl⟩
    case round =>
      obtain ⟨C, hC4, rfl, hgo, rfl⟩ := hrel
      have Hgo := Lib.hid hgo
      clear hgo
      have hcu := hub_up C1.out.blk C hC4
      rcases hu : h.u C with _ | _
      · rw [hu] at hcu
        have Hst := Lib.hid (pick_step h C hC4 hu (by rw [Hgo.out]; exact Hs.out))
        obtain ⟨D, hD⟩ : ∃ D, D = (C + 1) % 4 := ⟨_, rfl⟩
        have hD4 : D < 4 := by rw [hD]; exact Nat.mod_lt _ (by decide)
        have hm2 : ((C : Int) + 1).tmod 4 = (D : Int) := by rw [Int.tmod_eq_emod_of_nonneg (by omega), hD]; omega
        have hm2' : ((C : Int) + 1) % 4 = (D : Int) := by rw [hD]; omega
        have HD := Lib.hid hD
        clear hD hu
        go_wp2_with fail
        exact ⟨⟨D, hD4, rfl, by rw [HD.out, Hst.out.1, Hgo.out], by first | rfl | trivial⟩, by have := Hst.out.2; rw [← HD.out] at this; simpa [intOf] using this⟩
      · rw [hu] at hcu
        have HV2 := Lib.hid (show V = (h.next C, (C : Int), 0) by
          have : pickC h = some C := by rw [← Hgo.out]; unfold pickGo; rw [hu]; rfl
          rw [HV.out]; unfold pickF; rw [this])
        obtain ⟨D, hD⟩ : ∃ D, D = (C + 1) % 4 := ⟨_, rfl⟩
        have hm2 : ((C : Int) + 1).tmod 4 = (D : Int) := by rw [Int.tmod_eq_emod_of_nonneg (by omega), hD]; omega
        have hm2' : ((C : Int) + 1) % 4 = (D : Int) := by rw [hD]; omega
        have HD := Lib.hid hD
        clear hD hu Hgo
        go_upto_region 8 with (fail)
        generalize hW3 : World.setCell wr _ _ = W3
        obtain ⟨hB1, hB2, hB3⟩ : BlkT 29 W3 w.heap.size (h.next C).L ∧ BlkT 29 W3 b2 zeroH.L ∧ Below w.heap.size w W3 := by
          rw [← hW3, HD.out]
          exact ⟨C1.out.set _ _, C2.out.other B5.out _, C3.out.setCell (Nat.le_refl _) _⟩
        have E1 := Lib.hid hB1
        have E2 := Lib.hid hB2
        have E3 := Lib.hid hB3
        clear hB1 hB2 hB3 hW3 hl4 hcu fz hm2 hm2'
        go_wp2_with (first
          | (refine wpList_load_blk 29 (.tmp 1) w.heap.size (cs := (h.next C).L) rfl rfl rfl E1.out.blk Try.underlying29 rfl HI.out ?_)
          | (refine wpList_store_blk 29 (.tmp 2) (.tmp 26) b2 (old := zeroH.L) (cs := (h.next C).L) rfl rfl rfl rfl E2.out.blk HI.out rfl rfl ?_))
        refine bodyPost_ret (results_blk_tmp2 rfl _ _ b2 (cs := (h.next C).L) rfl _ _ rfl rfl ((E2.out.row (h.next C).L).blk) Try.underlying29 rfl hub_size) rfl ?_
        exact ⟨by rw [HV2.out]; rfl, below_setRow E3.out B4.out _⟩
end Go.Proofs.Ytcccgjpmfbmplaa
