/- The walk of the law's step: what is done with a ring. -/
import Derived.Test.YtelndpphbpandaaRingO
set_option linter.unusedSimpArgs false
set_option linter.unusedVariables false
namespace Go.Proofs.Ytelndpphbpandaa
open Go.RowKit

abbrev stepL (kind no : Int) (f : UInt8) : List Value := [.int .u8 kind, .int .i64 no, .int .u8 (bv f)]
theorem step_cells {w : World} {b : Nat} {kind no : Int} {f : UInt8} (h : Blk w b (stepL kind no f)) : w.cell? ⟨b, 0, none⟩ = some (.int .u8 kind) ∧ w.cell? ⟨b, 1, none⟩ = some (.int .i64 no) ∧ w.cell? ⟨b, 2, none⟩ = some (.int .u8 (bv f)) :=
  ⟨h.cell 0 (by simp), h.cell 1 (by simp), h.cell 2 (by simp)⟩
theorem done_back {W : World} {b : Nat} {r : Rg} {e : Bool} {fn : Func} {tmps : Array Value} {p u : Tmp} (h : fn.results = #[.cell p 26, .tmp u]) (hp : tmps.getD p undef = .pointer (some ⟨b, 0, none⟩)) (hu : tmps.getD u undef = .bool e) (hB : Blk W b r.L) :
    (results fn tmps).run Try.prog W = .ok (.tuple #[r.v, .bool e]) W :=
  results_blk_tmp h tmps W b hp (.bool e) hu hB Try.underlying26 rfl ring_info

set_option maxHeartbeats 2000000 in
theorem done3 (r : Rg) (kind no : Int) (f : UInt8) (w : World) (h0 : 0 ≤ kind) (h1 : kind ≤ 255) (hq : kind % 5 = 3) (X : Rg) (HC : ∀ W, Calls Try.prog 25 #[r.v] W fun e w' => e = .returned X.v ∧ Below W.heap.size W w') :
    Calls Try.prog 30 #[r.v, .agg #[.int .u8 kind, .int .i64 no, .int .u8 (bv f)]] w fun e w' => e = .returned (.tuple #[X.v, .bool true]) ∧ Below w.heap.size w w' := by
  have HC := Lib.hid HC
  have HI := Lib.hid ring_info
  go_enter Try.func30, Try.ntmps30
  go_wp2_with fail
  generalize hW : World.alloc _ _ = W
  obtain ⟨HA, HS, HZ, hb⟩ := turn_world (a := r.L) (b := stepL kind no f) (c := R0.L) hW
  clear hW
  generalize hn2 : w.heap.size + 1 + 1 = n2 at HZ ⊢
  have Hle := Lib.hid (show w.heap.size ≤ n2 by omega)
  generalize w.heap.size + 1 = n1 at HS ⊢
  clear hn2
  have HB1 := Lib.hid HA
  have HS := Lib.hid HS
  have HZ := Lib.hid HZ
  have Hb := Lib.hid hb
  clear hb HA
  obtain ⟨c0, c1, c2, c3, c4, c5, c6, c7⟩ := ring_cells HB1.out
  obtain ⟨s0, s1, s2⟩ := step_cells HS.out
  go_wp2_with (first
    | (go_at_call 25; refine (HC.out _).mono ?_; rintro e w2 ⟨rfl, hb2⟩; have HZ := Lib.hid (HZ.out.up hb2); have Hb := Lib.hid (bt Hb.out hb2))
    | (refine wpList_store_blk 26 (.tmp 4) (.tmp 67) n2 (old := R0.L) (cs := X.L) rfl rfl rfl rfl ?hb HI.out rfl rfl ?_; (case hb => exact HZ.out)))
  exact bodyPost_ret (done_back (r := X) rfl rfl rfl (HZ.out.row _)) rfl ⟨rfl, below_setRow Hb.out Hle.out _⟩

set_option maxHeartbeats 2000000 in
theorem done4 (r : Rg) (kind no : Int) (f : UInt8) (w : World) (h0 : 0 ≤ kind) (h1 : kind ≤ 255) (hq : kind % 5 = 4) (X : Rg) (HC : ∀ W, Calls Try.prog 27 #[r.v] W fun e w' => e = .returned X.v ∧ Below W.heap.size W w') :
    Calls Try.prog 30 #[r.v, .agg #[.int .u8 kind, .int .i64 no, .int .u8 (bv f)]] w fun e w' => e = .returned (.tuple #[X.v, .bool true]) ∧ Below w.heap.size w w' := by
  have HC := Lib.hid HC
  have HI := Lib.hid ring_info
  go_enter Try.func30, Try.ntmps30
  go_wp2_with fail
  generalize hW : World.alloc _ _ = W
  obtain ⟨HA, HS, HZ, hb⟩ := turn_world (a := r.L) (b := stepL kind no f) (c := R0.L) hW
  clear hW
  generalize hn2 : w.heap.size + 1 + 1 = n2 at HZ ⊢
  have Hle := Lib.hid (show w.heap.size ≤ n2 by omega)
  generalize w.heap.size + 1 = n1 at HS ⊢
  clear hn2
  have HB1 := Lib.hid HA
  have HS := Lib.hid HS
  have HZ := Lib.hid HZ
  have Hb := Lib.hid hb
  clear hb HA
  obtain ⟨c0, c1, c2, c3, c4, c5, c6, c7⟩ := ring_cells HB1.out
  obtain ⟨s0, s1, s2⟩ := step_cells HS.out
  go_wp2_with (first
    | (go_at_call 27; refine (HC.out _).mono ?_; rintro e w2 ⟨rfl, hb2⟩; have HZ := Lib.hid (HZ.out.up hb2); have Hb := Lib.hid (bt Hb.out hb2))
    | (refine wpList_store_blk 26 (.tmp 4) (.tmp 69) n2 (old := R0.L) (cs := X.L) rfl rfl rfl rfl ?hb HI.out rfl rfl ?_; (case hb => exact HZ.out)))
  exact bodyPost_ret (done_back (r := X) rfl rfl rfl (HZ.out.row _)) rfl ⟨rfl, below_setRow Hb.out Hle.out _⟩

set_option maxHeartbeats 2000000 in
theorem done2 (r : Rg) (kind no : Int) (f : UInt8) (w : World) (h0 : 0 ≤ kind) (h1 : kind ≤ 255) (hq : kind % 5 = 2) (X : Rg) (x : Int) (HC : ∀ W, Calls Try.prog 23 #[r.v] W fun e w' => e = .returned (.tuple #[X.v, .int .i64 x]) ∧ Below W.heap.size W w') :
    Calls Try.prog 30 #[r.v, .agg #[.int .u8 kind, .int .i64 no, .int .u8 (bv f)]] w fun e w' => e = .returned (.tuple #[X.v, .bool (x == 0)]) ∧ Below w.heap.size w w' := by
  have HC := Lib.hid HC
  have HI := Lib.hid ring_info
  go_enter Try.func30, Try.ntmps30
  go_wp2_with fail
  generalize hW : World.alloc _ _ = W
  obtain ⟨HA, HS, HZ, hb⟩ := turn_world (a := r.L) (b := stepL kind no f) (c := R0.L) hW
  clear hW
  generalize hn2 : w.heap.size + 1 + 1 = n2 at HZ ⊢
  have Hle := Lib.hid (show w.heap.size ≤ n2 by omega)
  generalize w.heap.size + 1 = n1 at HS ⊢
  clear hn2
  have HB1 := Lib.hid HA
  have HS := Lib.hid HS
  have HZ := Lib.hid HZ
  have Hb := Lib.hid hb
  clear hb HA
  obtain ⟨c0, c1, c2, c3, c4, c5, c6, c7⟩ := ring_cells HB1.out
  obtain ⟨s0, s1, s2⟩ := step_cells HS.out
  go_wp2_with (first
    | (go_at_call 23; refine (HC.out _).mono ?_; rintro e w2 ⟨rfl, hb2⟩; have HZ := Lib.hid ((HZ.out.up hb2).alloc (.cells X.L.toArray 26)); have HY := Lib.hid (Blk.new w2 X.L 26); have Hb := Lib.hid (bt (bt Hb.out hb2) (ba w2 (.cells X.L.toArray 26))))
    | (refine wpList_load_blk 26 (.tmp 12) w2.heap.size (cs := X.L) rfl rfl rfl ?hb Try.underlying26 rfl HI.out ?_; (case hb => exact HY.out))
    | (refine wpList_store_blk 26 (.tmp 4) (.tmp 61) n2 (old := R0.L) (cs := X.L) rfl rfl rfl rfl ?hb HI.out rfl rfl ?_; (case hb => exact HZ.out)))
  exact bodyPost_ret (done_back (r := X) rfl rfl rfl (HZ.out.row _)) rfl ⟨rfl, below_setRow Hb.out Hle.out _⟩
/-- the step's result where a key was offered: the ring Xf of the key's slice, and whether it was taken -/
def KeyDone (w : World) (fill : UInt8) (Xf : Option Addr → Rg) (ok : Bool) (e : Ending) (w' : World) : Prop := ∃ b, e = .returned (.tuple #[(Xf (some ⟨b, 0, none⟩)).v, .bool ok]) ∧ BytesAt w' (some ⟨b, 0, none⟩) (List.replicate 32 fill) ∧ Below w.heap.size w w'
theorem rset_row {w : World} {b g : Nat} {cs ds : List Value} (h : Blk w b cs) (hn : b ≠ g) : Blk (w.setRow g ds.toArray) b cs := h.rowOther g hn _

set_option maxRecDepth 100000 in
set_option maxHeartbeats 8000000 in
theorem done1 (r : Rg) (kind no : Int) (f : UInt8) (w : World) (h0 : 0 ≤ kind) (h1 : kind ≤ 255) (hq : kind % 5 = 1) (Xf : Option Addr → Rg) (x : Int) (HC : ∀ (k : Option Addr) W, Calls Try.prog 21 #[r.v, .int .i64 no, .slice k 32 32] W fun e w' => e = .returned (.tuple #[(Xf k).v, .int .i64 x]) ∧ Below W.heap.size W w') :
    Calls Try.prog 30 #[r.v, .agg #[.int .u8 kind, .int .i64 no, .int .u8 (bv f)]] w (KeyDone w f Xf (x == 0)) := by
  have HC := Lib.hid HC
  have HI := Lib.hid ring_info
  have HK := Lib.hid (fun W => key_any f W)
  go_enter Try.func30, Try.ntmps30
  go_wp2_with fail
  generalize hW : World.alloc _ _ = W
  obtain ⟨HA, HS, HZ, hb⟩ := turn_world (a := r.L) (b := stepL kind no f) (c := R0.L) hW
  clear hW
  generalize hn2 : w.heap.size + 1 + 1 = n2 at HZ ⊢
  have Hle := Lib.hid (show w.heap.size ≤ n2 by omega)
  generalize w.heap.size + 1 = n1 at HS ⊢
  clear hn2
  have HB1 := Lib.hid HA
  have HS := Lib.hid HS
  have HZ := Lib.hid HZ
  have Hb := Lib.hid hb
  clear hb HA
  obtain ⟨s0, s1, s2⟩ := step_cells HS.out
  go_wp2_with fail
  clear s0 s1 s2 hq h0 h1
  go_cut [10, 11] (fun v8 v9 wx => ∃ b8 b2 : Nat, v8 = .pointer (some ⟨b8, 0, none⟩) ∧ v9 = .int .i64 x ∧ Blk wx b8 (Xf (some ⟨b2, 0, none⟩)).L ∧ Blk wx b2 (B8s (List.replicate 32 f)) ∧ Below W.heap.size W wx)
  case first =>
    have KS := Lib.hid (show ∀ w', Below W.heap.size W w' → (Below W.heap.size W w' ∧ w'.cell? ⟨w.heap.size, 0, none⟩ = some (.int .i64 r.c.no) ∧ w'.cell? ⟨w.heap.size, 1, none⟩ = some (.slice r.c.a r.c.len r.c.cap) ∧ w'.cell? ⟨w.heap.size, 2, none⟩ = some (.int .i64 r.o.no) ∧ w'.cell? ⟨w.heap.size, 3, none⟩ = some (.slice r.o.a r.o.len r.o.cap) ∧ w'.cell? ⟨w.heap.size, 4, none⟩ = some (.int .i64 r.p.no) ∧ w'.cell? ⟨w.heap.size, 5, none⟩ = some (.slice r.p.a r.p.len r.p.cap) ∧ w'.cell? ⟨w.heap.size, 6, none⟩ = some (.int .i64 r.l) ∧ w'.cell? ⟨w.heap.size, 7, none⟩ = some (.int .i64 r.t) ∧ w'.cell? ⟨n1, 0, none⟩ = some (.int .u8 kind) ∧ w'.cell? ⟨n1, 1, none⟩ = some (.int .i64 no) ∧ w'.cell? ⟨n1, 2, none⟩ = some (.int .u8 (bv f))) from fun w' hb => by
      obtain ⟨c0, c1, c2, c3, c4, c5, c6, c7⟩ := cells8 (HB1.out.up hb)
      obtain ⟨s0, s1, s2⟩ := step_cells (HS.out.up hb)
      exact ⟨hb, c0, c1, c2, c3, c4, c5, c6, c7, s0, s1, s2⟩)
    obtain ⟨hS0, c0, c1, c2, c3, c4, c5, c6, c7, s0, s1, s2⟩ := KS.out W (Below.refl _ _)
    go_region_held3 (fun w' => Below W.heap.size W w' ∧ w'.cell? ⟨w.heap.size, 0, none⟩ = some (.int .i64 r.c.no) ∧ w'.cell? ⟨w.heap.size, 1, none⟩ = some (.slice r.c.a r.c.len r.c.cap) ∧ w'.cell? ⟨w.heap.size, 2, none⟩ = some (.int .i64 r.o.no) ∧ w'.cell? ⟨w.heap.size, 3, none⟩ = some (.slice r.o.a r.o.len r.o.cap) ∧ w'.cell? ⟨w.heap.size, 4, none⟩ = some (.int .i64 r.p.no) ∧ w'.cell? ⟨w.heap.size, 5, none⟩ = some (.slice r.p.a r.p.len r.p.cap) ∧ w'.cell? ⟨w.heap.size, 6, none⟩ = some (.int .i64 r.l) ∧ w'.cell? ⟨w.heap.size, 7, none⟩ = some (.int .i64 r.t) ∧ w'.cell? ⟨n1, 0, none⟩ = some (.int .u8 kind) ∧ w'.cell? ⟨n1, 1, none⟩ = some (.int .i64 no) ∧ w'.cell? ⟨n1, 2, none⟩ = some (.int .u8 (bv f)))
      (first
        | (apply KS.out; (with_reducible ((try apply bta); (try (apply rset8_below; rotate_left; first | apply Nat.le_refl | exact hw4)); (try apply bta); (try apply bt3 hb5); (try apply bta); (try apply bt3 hb4); (try apply bta); (first | apply Below.refl | (apply btd; (try apply bta); apply Below.refl)))))
        | fail)
      (first
        | (go_at_call 29; go_split_ands; ((with_reducible refine Calls.mono (HK.out _) ?_); rintro e w4 ⟨b2, rfl, kK, lb2, hb4⟩; have lk2 := kK.lt; have hw4 : W.heap.size ≤ w4.heap.size := (by have := hb4.size; first | omega | (simp at this; omega)); (try ((with_reducible have z1 := Blk.up (Blk.new _ R0.L _) hb4); have fz1 := z1.frozen; have lz1 := z1.lt; obtain ⟨x0, x1, x2, x3, x4, x5, x6, x7⟩ := cells8 z1)); (try ((with_reducible have z1 := Blk.up (Blk.new _ R0.L _).drew hb4); have fz1 := z1.frozen; have lz1 := z1.lt; obtain ⟨x0, x1, x2, x3, x4, x5, x6, x7⟩ := cells8 z1))))
        | (go_at_call 21; go_split_ands; ((with_reducible refine Calls.mono (HC.out _ _) ?_); rintro e w5 ⟨rfl, hb5⟩; first | (with_reducible have kK := Blk.upR hb5 kK) | (with_reducible have kK := Blk.upR hb5 (kK.alloc _))); skip; (try ((with_reducible have z1 := Blk.upR hb5 z1); have fz1 := z1.frozen; have lz1 := z1.lt; obtain ⟨x0, x1, x2, x3, x4, x5, x6, x7⟩ := cells8 z1)); (try ((with_reducible have z1 := Blk.upR hb5 (z1.alloc _)); have fz1 := z1.frozen; have lz1 := z1.lt; obtain ⟨x0, x1, x2, x3, x4, x5, x6, x7⟩ := cells8 z1)); (try ((with_reducible have z1 := Blk.up (Blk.new _ R0.L _) hb5); have fz1 := z1.frozen; have lz1 := z1.lt; obtain ⟨x0, x1, x2, x3, x4, x5, x6, x7⟩ := cells8 z1)); (try ((with_reducible have z1 := Blk.up (Blk.new _ R0.L _).drew hb5); have fz1 := z1.frozen; have lz1 := z1.lt; obtain ⟨x0, x1, x2, x3, x4, x5, x6, x7⟩ := cells8 z1))))
    all_goals
      go_split_ands
      go_wp2_with fail
      go_meet
    · exact ⟨w5.heap.size, b2, rfl, rfl, Blk.new w5 (Xf _).L _, kK.alloc _, by assumption⟩
    · have z : Blk w5 w4.heap.size R0.L := z1
      exact ⟨w4.heap.size, b2, rfl, rfl, rset8 z, rset8_other kK (Nat.ne_of_lt lk2), by assumption⟩
    · have z : Blk w5 W.heap.size R0.L := z1
      have hne : b2 ≠ W.heap.size := by have := lb2; simp at this; omega
      exact ⟨W.heap.size, b2, rfl, rfl, rset8 z, rset8_other kK hne, by assumption⟩
  case rest =>
    obtain ⟨b8, b2, rfl, rfl, h8, hk, hbc⟩ := hcut
    have HZl := Lib.hid HZ.out.lt
    have HZ := Lib.hid (HZ.out.up hbc)
    have Hb := Lib.hid (bt Hb.out hbc)
    have HY := Lib.hid h8
    have Hk := Lib.hid hk
    have hkl := hk.lt
    generalize hX : Xf (some ⟨b2, 0, none⟩) = X at HY
    have HX := Lib.hid hX
    clear h8 hk hX
    go_wp2_with (first
      | (refine wpList_load_blk 26 (.tmp 10) b8 (cs := X.L) rfl rfl rfl ?hb Try.underlying26 rfl HI.out ?_; (case hb => exact HY.out))
      | (refine wpList_store_blk 26 (.tmp 4) (.tmp 51) n2 (old := R0.L) (cs := X.L) rfl rfl rfl rfl ?hb HI.out rfl rfl ?_; (case hb => exact HZ.out)))
    refine bodyPost_ret (done_back (r := X) rfl rfl rfl (HZ.out.row _)) rfl ⟨b2, by rw [HX.out], ?_, below_setRow Hb.out Hle.out _⟩
    exact Blk.bytes (rset_row Hk.out (by rintro rfl; obtain ⟨T, hT⟩ := HZ.out; obtain ⟨U, hU⟩ := Hk.out; have h := hT.symm.trans hU; simp at h))

set_option maxHeartbeats 2000000 in
theorem done0_no (r : Rg) (kind no : Int) (f : UInt8) (w : World) (h0 : 0 ≤ kind) (h1 : kind ≤ 255) (hq : kind % 5 = 0) (n x : Int) (hx : x ≠ 0) (HNx : ∀ W, Calls Try.prog 16 #[r.v] W fun e w' => e = .returned (.tuple #[.int .i64 n, .int .i64 x]) ∧ Below W.heap.size W w') :
    Calls Try.prog 30 #[r.v, .agg #[.int .u8 kind, .int .i64 no, .int .u8 (bv f)]] w fun e w' => e = .returned (.tuple #[r.v, .bool false]) ∧ Below w.heap.size w w' := by
  have HNx := Lib.hid HNx
  have HI := Lib.hid ring_info
  have hx2 : (x != 0) = true := by simpa [bne] using hx
  clear hx
  go_enter Try.func30, Try.ntmps30
  go_wp2_with fail
  generalize hW : World.alloc _ _ = W
  obtain ⟨HA, HS, HZ, hb⟩ := turn_world (a := r.L) (b := stepL kind no f) (c := R0.L) hW
  clear hW
  generalize hn2 : w.heap.size + 1 + 1 = n2 at HZ ⊢
  have Hle := Lib.hid (show w.heap.size ≤ n2 by omega)
  generalize w.heap.size + 1 = n1 at HS ⊢
  clear hn2
  have HB1 := Lib.hid HA
  have HS := Lib.hid HS
  have HZ := Lib.hid HZ
  have Hb := Lib.hid hb
  clear hb HA
  obtain ⟨c0, c1, c2, c3, c4, c5, c6, c7⟩ := ring_cells HB1.out
  obtain ⟨s0, s1, s2⟩ := step_cells HS.out
  go_wp2_with (first
    | (go_at_call 16; refine (HNx.out _).mono ?_; rintro e w2 ⟨rfl, hb2⟩; have HB1 := Lib.hid (HB1.out.up hb2); have HS := Lib.hid (HS.out.up hb2); have HZ := Lib.hid (HZ.out.up hb2); have Hb := Lib.hid (bt Hb.out hb2); obtain ⟨s0, s1, s2⟩ := step_cells HS.out)
    | (refine wpList_load_blk 26 (.tmp 2) w.heap.size (cs := r.L) rfl rfl rfl ?hb Try.underlying26 rfl HI.out ?_; (case hb => exact HB1.out))
    | (refine wpList_store_blk 26 (.tmp 4) (.tmp 26) n2 (old := R0.L) (cs := r.L) rfl rfl rfl rfl ?hb HI.out rfl rfl ?_; (case hb => exact HZ.out)))
  exact bodyPost_ret (done_back (r := r) rfl rfl rfl (HZ.out.row _)) rfl ⟨rfl, below_setRow Hb.out Hle.out _⟩

set_option maxRecDepth 100000 in
set_option maxHeartbeats 8000000 in
theorem done0 (r : Rg) (kind no : Int) (f : UInt8) (w : World) (h0 : 0 ≤ kind) (h1 : kind ≤ 255) (hq : kind % 5 = 0) (n : Int) (HNx : ∀ W, Calls Try.prog 16 #[r.v] W fun e w' => e = .returned (.tuple #[.int .i64 n, .int .i64 0]) ∧ Below W.heap.size W w') (Xf : Option Addr → Rg) (x : Int) (HC : ∀ (k : Option Addr) W, Calls Try.prog 21 #[r.v, .int .i64 n, .slice k 32 32] W fun e w' => e = .returned (.tuple #[(Xf k).v, .int .i64 x]) ∧ Below W.heap.size W w') :
    Calls Try.prog 30 #[r.v, .agg #[.int .u8 kind, .int .i64 no, .int .u8 (bv f)]] w (KeyDone w f Xf (x == 0)) := by
  have HNx := Lib.hid HNx
  have HC := Lib.hid HC
  have HI := Lib.hid ring_info
  have HK := Lib.hid (fun W => key_any f W)
  go_enter Try.func30, Try.ntmps30
  go_wp2_with fail
  generalize hW : World.alloc _ _ = W
  obtain ⟨HA, HS, HZ, hb⟩ := turn_world (a := r.L) (b := stepL kind no f) (c := R0.L) hW
  clear hW
  generalize hn2 : w.heap.size + 1 + 1 = n2 at HZ ⊢
  have Hle := Lib.hid (show w.heap.size ≤ n2 by omega)
  generalize w.heap.size + 1 = n1 at HS ⊢
  clear hn2
  have HB1 := Lib.hid HA
  have HS := Lib.hid HS
  have HZ := Lib.hid HZ
  have Hb := Lib.hid hb
  clear hb HA
  obtain ⟨c0, c1, c2, c3, c4, c5, c6, c7⟩ := ring_cells HB1.out
  obtain ⟨s0, s1, s2⟩ := step_cells HS.out
  go_wp2_with (go_at_call 16; refine (HNx.out _).mono ?_; rintro e w2 ⟨rfl, hb2⟩; have HB1 := Lib.hid (HB1.out.up hb2); have HS := Lib.hid (HS.out.up hb2); have HZ := Lib.hid (HZ.out.up hb2); have Hb := Lib.hid (bt Hb.out hb2); obtain ⟨s0, s1, s2⟩ := step_cells HS.out)
  clear s0 s1 s2 hq h0 h1 c0 c1 c2 c3 c4 c5 c6 c7
  go_cut [8, 9] (fun v8 v9 wx => ∃ b8 b2 : Nat, v8 = .pointer (some ⟨b8, 0, none⟩) ∧ v9 = .int .i64 x ∧ Blk wx b8 (Xf (some ⟨b2, 0, none⟩)).L ∧ Blk wx b2 (B8s (List.replicate 32 f)) ∧ Below w2.heap.size w2 wx)
  case first =>
    have KS := Lib.hid (show ∀ w', Below w2.heap.size w2 w' → (Below w2.heap.size w2 w' ∧ w'.cell? ⟨w.heap.size, 0, none⟩ = some (.int .i64 r.c.no) ∧ w'.cell? ⟨w.heap.size, 1, none⟩ = some (.slice r.c.a r.c.len r.c.cap) ∧ w'.cell? ⟨w.heap.size, 2, none⟩ = some (.int .i64 r.o.no) ∧ w'.cell? ⟨w.heap.size, 3, none⟩ = some (.slice r.o.a r.o.len r.o.cap) ∧ w'.cell? ⟨w.heap.size, 4, none⟩ = some (.int .i64 r.p.no) ∧ w'.cell? ⟨w.heap.size, 5, none⟩ = some (.slice r.p.a r.p.len r.p.cap) ∧ w'.cell? ⟨w.heap.size, 6, none⟩ = some (.int .i64 r.l) ∧ w'.cell? ⟨w.heap.size, 7, none⟩ = some (.int .i64 r.t) ∧ w'.cell? ⟨n1, 0, none⟩ = some (.int .u8 kind) ∧ w'.cell? ⟨n1, 1, none⟩ = some (.int .i64 no) ∧ w'.cell? ⟨n1, 2, none⟩ = some (.int .u8 (bv f))) from fun w' hb => by
      obtain ⟨c0, c1, c2, c3, c4, c5, c6, c7⟩ := cells8 (HB1.out.up hb)
      obtain ⟨s0, s1, s2⟩ := step_cells (HS.out.up hb)
      exact ⟨hb, c0, c1, c2, c3, c4, c5, c6, c7, s0, s1, s2⟩)
    obtain ⟨hS0, c0, c1, c2, c3, c4, c5, c6, c7, s0, s1, s2⟩ := KS.out w2 (Below.refl _ _)
    go_region_held3 (fun w' => Below w2.heap.size w2 w' ∧ w'.cell? ⟨w.heap.size, 0, none⟩ = some (.int .i64 r.c.no) ∧ w'.cell? ⟨w.heap.size, 1, none⟩ = some (.slice r.c.a r.c.len r.c.cap) ∧ w'.cell? ⟨w.heap.size, 2, none⟩ = some (.int .i64 r.o.no) ∧ w'.cell? ⟨w.heap.size, 3, none⟩ = some (.slice r.o.a r.o.len r.o.cap) ∧ w'.cell? ⟨w.heap.size, 4, none⟩ = some (.int .i64 r.p.no) ∧ w'.cell? ⟨w.heap.size, 5, none⟩ = some (.slice r.p.a r.p.len r.p.cap) ∧ w'.cell? ⟨w.heap.size, 6, none⟩ = some (.int .i64 r.l) ∧ w'.cell? ⟨w.heap.size, 7, none⟩ = some (.int .i64 r.t) ∧ w'.cell? ⟨n1, 0, none⟩ = some (.int .u8 kind) ∧ w'.cell? ⟨n1, 1, none⟩ = some (.int .i64 no) ∧ w'.cell? ⟨n1, 2, none⟩ = some (.int .u8 (bv f)))
      (first
        | (apply KS.out; (with_reducible ((try apply bta); (try (apply rset8_below; rotate_left; first | apply Nat.le_refl | exact hw4)); (try apply bta); (try apply bt3 hb5); (try apply bta); (try apply bt3 hb4); (try apply bta); (first | apply Below.refl | (apply btd; (try apply bta); apply Below.refl)))))
        | fail)
      (first
        | (go_at_call 29; go_split_ands; ((with_reducible refine Calls.mono (HK.out _) ?_); rintro e w4 ⟨b2, rfl, kK, lb2, hb4⟩; have lk2 := kK.lt; have hw4 : w2.heap.size ≤ w4.heap.size := (by have := hb4.size; first | omega | (simp at this; omega)); (try ((with_reducible have z1 := Blk.up (Blk.new _ R0.L _) hb4); have fz1 := z1.frozen; have lz1 := z1.lt; obtain ⟨x0, x1, x2, x3, x4, x5, x6, x7⟩ := cells8 z1)); (try ((with_reducible have z1 := Blk.up (Blk.new _ R0.L _).drew hb4); have fz1 := z1.frozen; have lz1 := z1.lt; obtain ⟨x0, x1, x2, x3, x4, x5, x6, x7⟩ := cells8 z1))))
        | (go_at_call 21; go_split_ands; ((with_reducible refine Calls.mono (HC.out _ _) ?_); rintro e w5 ⟨rfl, hb5⟩; first | (with_reducible have kK := Blk.upR hb5 kK) | (with_reducible have kK := Blk.upR hb5 (kK.alloc _))); skip; (try ((with_reducible have z1 := Blk.upR hb5 z1); have fz1 := z1.frozen; have lz1 := z1.lt; obtain ⟨x0, x1, x2, x3, x4, x5, x6, x7⟩ := cells8 z1)); (try ((with_reducible have z1 := Blk.upR hb5 (z1.alloc _)); have fz1 := z1.frozen; have lz1 := z1.lt; obtain ⟨x0, x1, x2, x3, x4, x5, x6, x7⟩ := cells8 z1)); (try ((with_reducible have z1 := Blk.up (Blk.new _ R0.L _) hb5); have fz1 := z1.frozen; have lz1 := z1.lt; obtain ⟨x0, x1, x2, x3, x4, x5, x6, x7⟩ := cells8 z1)); (try ((with_reducible have z1 := Blk.up (Blk.new _ R0.L _).drew hb5); have fz1 := z1.frozen; have lz1 := z1.lt; obtain ⟨x0, x1, x2, x3, x4, x5, x6, x7⟩ := cells8 z1))))
    all_goals
      go_split_ands
      go_wp2_with fail
      go_meet
    · exact ⟨w5.heap.size, b2, rfl, rfl, Blk.new w5 (Xf _).L _, kK.alloc _, by assumption⟩
    · have z : Blk w5 w4.heap.size R0.L := z1
      exact ⟨w4.heap.size, b2, rfl, rfl, rset8 z, rset8_other kK (Nat.ne_of_lt lk2), by assumption⟩
    · have z : Blk w5 w2.heap.size R0.L := z1
      have hne : b2 ≠ w2.heap.size := by have := lb2; simp at this; omega
      exact ⟨w2.heap.size, b2, rfl, rfl, rset8 z, rset8_other kK hne, by assumption⟩
  case rest =>
    obtain ⟨b8, b2, rfl, rfl, h8, hk, hbc⟩ := hcut
    have HZl := Lib.hid HZ.out.lt
    have HZ := Lib.hid (HZ.out.up hbc)
    have Hb := Lib.hid (bt Hb.out hbc)
    have HY := Lib.hid h8
    have Hk := Lib.hid hk
    have hkl := hk.lt
    generalize hX : Xf (some ⟨b2, 0, none⟩) = X at HY
    have HX := Lib.hid hX
    clear h8 hk hX
    go_wp2_with (first
      | (refine wpList_load_blk 26 (.tmp 8) b8 (cs := X.L) rfl rfl rfl ?hb Try.underlying26 rfl HI.out ?_; (case hb => exact HY.out))
      | (refine wpList_store_blk 26 (.tmp 4) (.tmp 36) n2 (old := R0.L) (cs := X.L) rfl rfl rfl rfl ?hb HI.out rfl rfl ?_; (case hb => exact HZ.out)))
    refine bodyPost_ret (done_back (r := X) rfl rfl rfl (HZ.out.row _)) rfl ⟨b2, by rw [HX.out], ?_, below_setRow Hb.out Hle.out _⟩
    exact Blk.bytes (rset_row Hk.out (by rintro rfl; obtain ⟨T, hT⟩ := HZ.out; obtain ⟨U, hU⟩ := Hk.out; have h := hT.symm.trans hU; simp at h))
end Go.Proofs.Ytelndpphbpandaa
