/- The schedule of a block's words, and the walk of spread. -/
import Derived.Test.YthmcmkdncaccbaaDoorShaA
import Derived.BigRegion
import Derived.BigQuiet
set_option linter.unusedSimpArgs false
set_option linter.unusedVariables false
namespace Go.Proofs.YthmcmkdncaccbaaDoor
open Go.RowKit

def wordOf (a b c d : UInt8) : UInt32 := (a.toUInt32 <<< 24) ||| (b.toUInt32 <<< 16) ||| (c.toUInt32 <<< 8) ||| d.toUInt32
def nextW (l : List UInt32) (t : Nat) : UInt32 := sig1 (l.getD (t - 2) 0) + l.getD (t - 7) 0 + sig0 (l.getD (t - 15) 0) + l.getD (t - 16) 0
/-- the first t words of a block's schedule -/
def schedN (b : List UInt8) : Nat → List UInt32
  | 0 => []
  | t + 1 => schedN b t ++ [if t < 16 then wordOf (b.getD (4 * t) 0) (b.getD (4 * t + 1) 0) (b.getD (4 * t + 2) 0) (b.getD (4 * t + 3) 0) else nextW (schedN b t) t]
theorem schedN_length (b : List UInt8) : ∀ t, (schedN b t).length = t
  | 0 => rfl
  | t + 1 => by simp [schedN, schedN_length b t]
/-- the array behind t rounds -/
def schedC (b : List UInt8) (t : Nat) : List Value := W32s (schedN b t) ++ List.replicate (64 - t) (.int .u32 0)
theorem schedC_length (b : List UInt8) (t : Nat) (h : t ≤ 64) : (schedC b t).length = 64 := by simp [schedC, schedN_length]; omega
theorem schedC_at (b : List UInt8) (t i : Nat) (h : i < t) : (schedC b t).getD i undef = .int .u32 (uv ((schedN b t).getD i 0)) := by
  have hi : i < (schedN b t).length := by rw [schedN_length]; exact h
  simp [schedC, List.getD, List.getElem?_append, hi]
theorem schedC_set (b : List UInt8) (t : Nat) (h : t < 64) (x : UInt32) (hx : schedN b (t + 1) = schedN b t ++ [x]) : (schedC b t).set t (.int .u32 (uv x)) = schedC b (t + 1) := by
  unfold schedC
  rw [set_mid _ _ _ 64 t (by simp [schedN_length]) h, hx]; simp

set_option maxRecDepth 100000 in
set_option maxHeartbeats 2000000 in
theorem spread_any (a : Option Addr) (cap : Nat) (l : List UInt8) (w : World) (hl : l.length = 64) (hat : BytesAt w a l) :
    Calls Tryd.prog 51 #[.slice a 64 cap] w fun e w' => e = .returned (.agg (W32s (schedN l 64)).toArray) ∧ Below w.heap.size w w' := by
  obtain ⟨b, off, rfl, hbl, hc⟩ := bytes_cell hat (by omega)
  have Hc := Lib.hid hc
  clear hc hat
  go_enter Tryd.func51, Tryd.ntmps51
  go_wp2_with fail
  generalize hW : (w.alloc _).alloc _ = W0
  have hB0 : Blk W0 w.heap.size (List.replicate 64 (.int .u32 0)) := by rw [← hW]; exact (Blk.new _ _ _).alloc _
  have hB1 : Blk W0 (w.heap.size + 1) (schedC l 0) := by
    rw [← hW]; have := Blk.new (w.alloc (.cells (List.replicate 64 (.int .u32 0)).toArray 87)) (schedC l 0) 87
    rw [World.size_alloc] at this; exact this
  have hb0 : Below w.heap.size w W0 := by rw [← hW]; exact (ba w _).trans ((ba _ _).mono (by simp))
  clear hW
  go_loopw [9] (fun i wr => ∃ t : Nat, t ≤ 64 ∧ i = .int .i64 t ∧ Blk wr w.heap.size (List.replicate 64 (.int .u32 0)) ∧ Blk wr (w.heap.size + 1) (schedC l t) ∧ Below w.heap.size w wr) (fun i _ => 64 - (intOf i).toNat)
  case atStart => exact ⟨0, Nat.zero_le _, rfl, hB0, hB1, hb0⟩
  case round =>
    clear hB0 hB1 hb0
    obtain ⟨t, ht, rfl, hB0, hB1, hb⟩ := hrel
    by_cases h64 : t < 64
    · have hlen := schedC_length l t ht
      have hst := hB1.cell t (by omega)
      have hfr := hB1.frozen t
      have HB0 := Lib.hid hB0
      have HB1 := Lib.hid hB1
      clear hB0 hB1
      have hbs := hb.size
      by_cases h16 : t < 16
      · have c0 : wr.cell? ⟨b, off + 4 * t, none⟩ = _ := (hb.cell (p := ⟨b, off + 4 * t, none⟩) hbl).trans (Hc.out (4 * t) (by omega))
        have c1 : wr.cell? ⟨b, off + (4 * t + 1), none⟩ = _ := (hb.cell (p := ⟨b, off + (4 * t + 1), none⟩) hbl).trans (Hc.out (4 * t + 1) (by omega))
        have c2 : wr.cell? ⟨b, off + (4 * t + 2), none⟩ = _ := (hb.cell (p := ⟨b, off + (4 * t + 2), none⟩) hbl).trans (Hc.out (4 * t + 2) (by omega))
        have c3 : wr.cell? ⟨b, off + (4 * t + 3), none⟩ = _ := (hb.cell (p := ⟨b, off + (4 * t + 3), none⟩) hbl).trans (Hc.out (4 * t + 3) (by omega))
        have hs24 : ∀ y, Op.shift .shl .u32 (uv y) .u64 24 = pure (.int .u32 (uv (y <<< 24))) := fun y => shl32 0 y 24 (by decide) .u64
        have hs16 : ∀ y, Op.shift .shl .u32 (uv y) .u64 16 = pure (.int .u32 (uv (y <<< 16))) := fun y => shl32 0 y 16 (by decide) .u64
        have hs8 : ∀ y, Op.shift .shl .u32 (uv y) .u64 8 = pure (.int .u32 (uv (y <<< 8))) := fun y => shl32 0 y 8 (by decide) .u64
        have Hx := Lib.hid (show schedN l (t + 1) = schedN l t ++ [wordOf (l.getD (4 * t) 0) (l.getD (4 * t + 1) 0) (l.getD (4 * t + 2) 0) (l.getD (4 * t + 3) 0)] by rw [schedN, if_pos h16])
        generalize l.getD (4 * t) 0 = x0 at c0 Hx
        generalize l.getD (4 * t + 1) 0 = x1 at c1 Hx
        generalize l.getD (4 * t + 2) 0 = x2 at c2 Hx
        generalize l.getD (4 * t + 3) 0 = x3 at c3 Hx
        generalize (schedC l t).getD t undef = old at hst
        go_wp2_with fail
        go_region
        all_goals go_wp2_with fail
        exact ⟨⟨t + 1, by omega, by go_num, (HB0.out.other _ (by simp) _).drew, by rw [← schedC_set l t h64 _ Hx.out]; exact (HB1.out.set t _).drew, (hb.setCell (by simp) _).drew⟩, by simp [intOf]; omega⟩
      · have hge : 16 ≤ t := by omega
        clear h16 Hc
        have c15 := HB1.out.cell (t - 15) (by omega)
        have c2 := HB1.out.cell (t - 2) (by omega)
        have c7 := HB1.out.cell (t - 7) (by omega)
        have c16 := HB1.out.cell (t - 16) (by omega)
        rw [schedC_at l t _ (by omega)] at c15 c2 c7 c16
        have hs3 : ∀ y, Op.shift .shr .u32 (uv y) .u64 3 = pure (.int .u32 (uv (y >>> 3))) := fun y => shr32 0 y 3 (by decide) .u64
        have hs10 : ∀ y, Op.shift .shr .u32 (uv y) .u64 10 = pure (.int .u32 (uv (y >>> 10))) := fun y => shr32 0 y 10 (by decide) .u64
        have Hx := Lib.hid (show schedN l (t + 1) = schedN l t ++ [sig1 ((schedN l t).getD (t - 2) 0) + (schedN l t).getD (t - 7) 0 + sig0 ((schedN l t).getD (t - 15) 0) + (schedN l t).getD (t - 16) 0] by rw [schedN, if_neg (by omega)]; rfl)
        generalize (schedN l t).getD (t - 2) 0 = x2 at c2 Hx
        generalize (schedN l t).getD (t - 7) 0 = x7 at c7 Hx
        generalize (schedN l t).getD (t - 15) 0 = x15 at c15 Hx
        generalize (schedN l t).getD (t - 16) 0 = x16 at c16 Hx
        generalize (schedC l t).getD t undef = old at hst
        go_wp2_with fail
        go_region
        all_goals
          go_wp2_with fail
          refine (rot7 _ _).mono ?_; rintro e w' ⟨rfl, rfl⟩
          go_wp2_with fail
          refine (rot18 _ _).mono ?_; rintro e w' ⟨rfl, rfl⟩
          go_wp2_with fail
          refine (rot17 _ _).mono ?_; rintro e w' ⟨rfl, rfl⟩
          go_wp2_with fail
          refine (rot19 _ _).mono ?_; rintro e w' ⟨rfl, rfl⟩
          go_wp2_with fail
          go_region
          all_goals
            go_wp2_with fail
            exact ⟨⟨t + 1, by omega, by go_num, (HB0.out.other _ (by simp) _).drew.drew, by rw [← schedC_set l t h64 _ Hx.out]; exact (HB1.out.set t _).drew.drew, (hb.setCell (by simp) _).drew.drew⟩, by simp [intOf]; omega⟩
    · obtain rfl : t = 64 := by omega
      have HB0 := Lib.hid hB0
      have HB1 := Lib.hid hB1
      clear hB0 hB1
      have hs64 : schedC l 64 = W32s (schedN l 64) := by simp [schedC]
      rw [hs64] at HB1
      have hcell1 : (W32s (schedN l 64)).all (·.oneCell') = true := by simp [Value.oneCell']
      have hlen1 : (W32s (schedN l 64)).length = 64 := by simp [schedN_length]
      have hi1 : (Tryd.prog.info? 87).map (·.size) = some (W32s (schedN l 64)).length := by rw [hlen1]; kernel_rfl
      have HC := Lib.hid hcell1
      have HL := Lib.hid hlen1
      have HI := Lib.hid hi1
      clear hcell1 hlen1 hi1
      obtain ⟨cs, hcs⟩ : ∃ cs, cs = W32s (schedN l 64) := ⟨_, rfl⟩
      rw [← hcs] at HB1 HC HL HI
      have Hcs := Lib.hid hcs
      clear hcs
      go_wp2_with (first
        | (refine wpList_load_blk 87 (.tmp 3) (w.heap.size + 1) rfl rfl rfl HB1.out Tryd.underlying87 rfl HI.out ?_)
        | (refine wpList_store_blk 87 (.tmp 2) (.tmp 89) w.heap.size rfl rfl rfl rfl HB0.out HI.out (by rw [HL.out]; rfl) HC.out ?_))
      refine bodyPost_ret (v := .agg cs.toArray) (results_blk (d := .array 64 71) rfl _ _ w.heap.size rfl (HB0.out.row cs) Tryd.underlying87 rfl HI.out) rfl ⟨by rw [Hcs.out], below_setRow hb (Nat.le_refl _) _⟩
end Go.Proofs.YthmcmkdncaccbaaDoor
