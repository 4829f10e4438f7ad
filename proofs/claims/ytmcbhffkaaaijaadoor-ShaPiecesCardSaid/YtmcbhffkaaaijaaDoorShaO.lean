/- The document's Block; the walk of the law ShaParts. -/
import Derived.Test.YtmcbhffkaaaijaaDoorShaL
import Derived.Test.YtmcbhffkaaaijaaDoorInB
set_option linter.unusedSimpArgs false
set_option linter.unusedVariables false
namespace Go.Proofs.YtmcbhffkaaaijaaDoor
open Go.RowKit

set_option maxRecDepth 100000 in
set_option maxHeartbeats 1000000 in
theorem refBlock_bad (s : R8) (a : Option Addr) (len cap : Nat) (h : len ≠ 64) (hm : len ≤ 1000) (w : World) :
    Calls Tryd.prog 15 #[.agg s.cells.toArray, .slice a len cap] w fun e w' => e = .returned (.tuple #[.agg s.cells.toArray, .int .i64 1]) ∧ Below w.heap.size w w' := by
  have hd : ((len : Int) != 64) = true := by simp; omega
  have hn : ¬ len = 64 := h
  clear h
  go_enter Tryd.func15, Tryd.ntmps15
  go_wp2_with fail
  exact bodyPost_ret (v := .tuple #[.agg s.cells.toArray, .int .i64 1]) (by simp [results, Tryd.results15, go_sem]) rfl ⟨rfl, (ba w _).trans ((ba _ _).mono (by simp))⟩

theorem r8_info : (Tryd.prog.info? 28).map (·.size) = some 8 := by kernel_rfl
set_option maxRecDepth 100000 in
set_option maxHeartbeats 2000000 in
theorem refBlock_any (s : R8) (a : Option Addr) (cap : Nat) (l : List UInt8) (w : World) (hl : l.length = 64) (hat : BytesAt w a l) :
    Calls Tryd.prog 15 #[.agg s.cells.toArray, .slice a 64 cap] w fun e w' => e = .returned (.tuple #[.agg (blockF s l).cells.toArray, .int .i64 0]) ∧ Below w.heap.size w w' := by
  have Hat := Lib.hid hat
  have Hst := Lib.hid (show ∀ kw, At kw (some ⟨kw.heap.size - 1, 0, none⟩) (W32s shaK) → True from fun _ _ => trivial)
  have Hl := Lib.hid hl
  have hdt : (l.drop 0).take 64 = l := by rw [List.drop_zero, List.take_of_length_le (by omega)]
  have Hdt := Lib.hid hdt
  clear hat hl hdt Hst
  go_enter Tryd.func15, Tryd.ntmps15
  go_wp2_with fail
  generalize hW : World.alloc (World.alloc w _) _ = W
  have hB0 : Blk W w.heap.size s.cells := by rw [← hW]; exact (Blk.new _ _ _).alloc _
  have hB1 : Blk W (w.heap.size + 1) (R8.mk 0 0 0 0 0 0 0 0).cells := by
    rw [← hW]; have := Blk.new (w.alloc (.cells s.cells.toArray 28)) (R8.mk 0 0 0 0 0 0 0 0).cells 28
    rwa [World.size_alloc] at this
  have hb0 : Below w.heap.size w W := by rw [← hW]; exact (ba w _).trans ((ba _ _).mono (by simp))
  clear hW
  obtain ⟨c0, c1, c2, c3, c4, c5, c6, c7⟩ := r8_cells hB0
  obtain ⟨d0, d1, d2, d3, d4, d5, d6, d7⟩ := r8_cells (hB0.drew.alloc (.cells (W32s shaK).toArray 27))
  obtain ⟨f0, f1, f2, f3, f4, f5, f6, f7⟩ := r8_cells (hB0.alloc (.cells (W32s shaK).toArray 27))
  have HB1 := Lib.hid hB1
  have Hb0 := Lib.hid hb0
  have hsz := hb0.size
  have hsz1 := hB1.lt
  clear hB0 hB1 hb0
  go_region_with (first
    | (go_at_call 35; refine (keys_any _).mono ?_; rintro e w3 ⟨rfl, rfl⟩)
    | (go_at_call 34; refine (step_any s a (some ⟨W.heap.size, 0, none⟩) 0 64 cap 64 l _ Hl.out.symm (by decide) (by decide) (Hat.out.mono (bt Hb0.out (bt (bd W) (ba _ _)))) (keys_at W.drew)).mono ?_; rw [Hdt.out]; rintro e w4 ⟨rfl, hb4⟩; have hBz := (HB1.out.drew.alloc (.cells (W32s shaK).toArray 27)).below hb4 (by simp; omega); obtain ⟨e0, e1, e2, e3, e4, e5, e6, e7⟩ := r8_cells hBz; have fz := hBz.frozen))
  all_goals
    go_wp2_with fail
    refine bodyPost_ret (v := .tuple #[.agg (blockF s l).cells.toArray, .int .i64 0]) (results_blk_tmp rfl _ _ (w.heap.size + 1) rfl (.int .i64 0) rfl (r8_set hBz) Tryd.underlying28 rfl r8_info) rfl ⟨rfl, set8_below (bt (bt (bt Hb0.out (bd W)) (ba _ _)) hb4) (by omega)⟩

theorem blocks_same (s : R8) (a : Option Addr) (len cap : Nat) (l : List UInt8) (hl : len = l.length) (hm : len ≤ 1000) : ∃ (R : R8) (c : Int),
    (∀ w, BytesAt w a l → KeysAt w → Calls Tryd.prog 14 #[.agg s.cells.toArray, .slice a len cap] w fun e w' => e = .returned (.tuple #[.agg R.cells.toArray, .int .i64 c]) ∧ Below w.heap.size w w') ∧
    (∀ w, BytesAt w a l → Calls Tryd.prog 15 #[.agg s.cells.toArray, .slice a len cap] w fun e w' => e = .returned (.tuple #[.agg R.cells.toArray, .int .i64 c]) ∧ Below w.heap.size w w') := by
  by_cases h : len = 64
  · subst h
    exact ⟨blockF s l, 0, fun w h1 h2 => block_any s a cap l w hl.symm h1 h2, fun w h1 => refBlock_any s a cap l w hl.symm h1⟩
  · exact ⟨s, 1, fun w _ _ => block_bad s a len cap h w, fun w _ => refBlock_bad s a len cap h hm w⟩
theorem keys_same (i : Int) : ∃ v : Int,
    (∀ w, KeysAt w → Calls Tryd.prog 19 #[.int .i64 i] w fun e w' => e = .returned (.int .u32 v) ∧ w = w') ∧
    (∀ w, Calls Tryd.prog 20 #[.int .i64 i] w fun e w' => e = .returned (.int .u32 v) ∧ Below w.heap.size w w') := by
  by_cases h : 0 ≤ i ∧ i < 64
  · obtain ⟨k, rfl⟩ := Int.eq_ofNat_of_zero_le h.1
    exact ⟨uv (kAt k), fun w hk => key_in k (by omega) w hk, fun w => refKey_in k (by omega) w⟩
  · exact ⟨0, fun w _ => key_out i (by omega) w, fun w => (refKey_out i (by omega) w).mono fun e w' ⟨h1, h2⟩ => ⟨h1, h2 ▸ Below.refl _ _⟩⟩
end Go.Proofs.YtmcbhffkaaaijaaDoor
