/- A block's rounds, and the walk of Block. -/
import Derived.Test.YthmcmkdncaccbaaDoorShaB
set_option linter.unusedSimpArgs false
set_option linter.unusedVariables false
namespace Go.Proofs.YthmcmkdncaccbaaDoor
open Go.RowKit

/-- eight words -/
structure R8 where
  a : UInt32
  b : UInt32
  c : UInt32
  d : UInt32
  e : UInt32
  f : UInt32
  g : UInt32
  h : UInt32
def R8.l (s : R8) : List UInt32 := [s.a, s.b, s.c, s.d, s.e, s.f, s.g, s.h]
/-- eight words as cells -/
abbrev R8.cells (s : R8) : List Value := [.int .u32 (uv s.a), .int .u32 (uv s.b), .int .u32 (uv s.c), .int .u32 (uv s.d), .int .u32 (uv s.e), .int .u32 (uv s.f), .int .u32 (uv s.g), .int .u32 (uv s.h)]
def R8.add (s t : R8) : R8 := ⟨s.a + t.a, s.b + t.b, s.c + t.c, s.d + t.d, s.e + t.e, s.f + t.f, s.g + t.g, s.h + t.h⟩
def tOne (s : R8) (k x : UInt32) : UInt32 := s.h + bsig1 s.e + ((s.e &&& s.f) ^^^ (~~~s.e &&& s.g)) + k + x
def tTwo (s : R8) : UInt32 := bsig0 s.a + ((s.a &&& s.b) ^^^ (s.a &&& s.c) ^^^ (s.b &&& s.c))
/-- one round -/
def rnd (s : R8) (k x : UInt32) : R8 := ⟨tOne s k x + tTwo s, s.a, s.b, s.c, s.d + tOne s k x, s.e, s.f, s.g⟩
def shaK : List UInt32 := [1116352408, 1899447441, 3049323471, 3921009573, 961987163, 1508970993, 2453635748, 2870763221, 3624381080, 310598401, 607225278, 1426881987, 1925078388, 2162078206, 2614888103, 3248222580, 3835390401, 4022224774, 264347078, 604807628, 770255983, 1249150122, 1555081692, 1996064986, 2554220882, 2821834349, 2952996808, 3210313671, 3336571891, 3584528711, 113926993, 338241895, 666307205, 773529912, 1294757372, 1396182291, 1695183700, 1986661051, 2177026350, 2456956037, 2730485921, 2820302411, 3259730800, 3345764771, 3516065817, 3600352804, 4094571909, 275423344, 430227734, 506948616, 659060556, 883997877, 958139571, 1322822218, 1537002063, 1747873779, 1955562222, 2024104815, 2227730452, 2361852424, 2428436474, 2756734187, 3204031479, 3329325298]
def kAt (t : Nat) : UInt32 := shaK.getD t 0
/-- n rounds over the words m -/
def rnds (m : List UInt32) (s : R8) : Nat → R8
  | 0 => s
  | t + 1 => rnd (rnds m s t) (kAt t) (m.getD t 0)
/-- words behind a block -/
def blockF (s : R8) (b : List UInt8) : R8 := s.add (rnds (schedN b 64) s 64)

/-- the table of the rounds' keys, the program's variable -/
def KeysAt (w : World) : Prop := 0 < w.heap.size ∧ ∀ i, i < 64 → w.cell? ⟨0, i, none⟩ = some (.int .u32 (uv (kAt i)))
theorem KeysAt.mono {w w' : World} (h : KeysAt w) (hb : Below w.heap.size w w') : KeysAt w' :=
  ⟨Nat.lt_of_lt_of_le h.1 hb.size, fun i hi => by rw [hb.cell (p := ⟨0, i, none⟩) h.1]; exact h.2 i hi⟩

theorem run_index_agg {P : Program} {T E : TypeId} {n : Nat} (hT : P.underlying T = some (.array n E)) (hs : ∀ w, (sizeOf E).run P w = .ok 1 w) (hp : ∀ (w : World) (cs : Array Value) (i : Nat), i < cs.size → (part E cs i).run P w = .ok (cs.getD i undef) w)
    (cs : List Value) (hn : cs.length = n) (i : Nat) (hi : i < n) (w : World) : (Instr.index T (.agg cs.toArray) (.int .i64 i)).run P w = .ok (cs.getD i undef) w := by
  have h1 := hp w cs.toArray i (by simpa using (by omega : i < cs.length))
  simp [Instr.index, asIntOf, run_underlying hT, hs, hi, h1]

set_option maxRecDepth 100000 in
set_option maxHeartbeats 2000000 in
theorem block_bad (s : R8) (a : Option Addr) (len cap : Nat) (h : len ≠ 64) (w : World) :
    Calls Tryd.prog 47 #[.agg s.cells.toArray, .slice a len cap] w fun e w' => e = .returned (.tuple #[.agg s.cells.toArray, .int .i64 1]) ∧ Below w.heap.size w w' := by
  have hb : ((len : Int) != 64) = true := by simp; omega
  obtain ⟨a0, a1, a2, a3, a4, a5, a6, a7⟩ := s
  go_enter Tryd.func47, Tryd.ntmps47
  go_wp2_with fail
  exact bodyPost_ret (v := .tuple #[.agg (R8.cells ⟨a0, a1, a2, a3, a4, a5, a6, a7⟩).toArray, .int .i64 1]) (by simp [results, Tryd.results47, go_sem]) rfl ⟨rfl, (ba w _).trans ((ba _ _).mono (by simp))⟩

theorem size_u32 (w : World) : (sizeOf 71).run Tryd.prog w = .ok 1 w := by kernel_rfl
theorem part_u32 (w : World) (cs : Array Value) (i : Nat) (h : i < cs.size) : (part 71 cs i).run Tryd.prog w = .ok (cs.getD i undef) w := by
  have h1 : (isAgg 71).run Tryd.prog w = .ok false w := by kernel_rfl
  simp [part, h1, h]

/-- the words behind i rounds of the last loop -/
def mixC (s r : R8) (i : Nat) : List Value := (s.add r).cells.take i ++ s.cells.drop i
theorem lt8 {i : Nat} (h : i < 8) : i = 0 ∨ i = 1 ∨ i = 2 ∨ i = 3 ∨ i = 4 ∨ i = 5 ∨ i = 6 ∨ i = 7 := by omega
theorem mixC_len (s r : R8) (i : Nat) (h : i ≤ 8) : (mixC s r i).length = 8 := by simp [mixC]; omega
theorem mixC_at (s r : R8) (i : Nat) (h : i < 8) : (mixC s r i).getD i undef = .int .u32 (uv (s.l.getD i 0)) := by
  rcases lt8 h with rfl | rfl | rfl | rfl | rfl | rfl | rfl | rfl <;> rfl
theorem cells_at (r : R8) (i : Nat) (h : i < 8) : r.cells.getD i undef = .int .u32 (uv (r.l.getD i 0)) := by
  rcases lt8 h with rfl | rfl | rfl | rfl | rfl | rfl | rfl | rfl <;> rfl
theorem mixC_set (s r : R8) (i : Nat) (h : i < 8) : (mixC s r i).set i (.int .u32 (uv (s.l.getD i 0 + r.l.getD i 0))) = mixC s r (i + 1) := by
  rcases lt8 h with rfl | rfl | rfl | rfl | rfl | rfl | rfl | rfl <;> rfl
theorem cells_one (r : R8) : r.cells.all (·.oneCell') = true := rfl

set_option maxRecDepth 100000 in
set_option maxHeartbeats 2000000 in
theorem block_any (s : R8) (a : Option Addr) (cap : Nat) (l : List UInt8) (w : World) (hl : l.length = 64) (hat : BytesAt w a l) (hk : KeysAt w) :
    Calls Tryd.prog 47 #[.agg s.cells.toArray, .slice a 64 cap] w fun e w' => e = .returned (.tuple #[.agg (blockF s l).cells.toArray, .int .i64 0]) ∧ Below w.heap.size w w' := by
  have Hat := Lib.hid hat
  have Hk := Lib.hid hk
  clear hat hk
  go_enter Tryd.func47, Tryd.ntmps47
  go_wp2_with fail
  obtain ⟨s0, hs0⟩ : ∃ s0, s0 = s := ⟨s, rfl⟩
  generalize hW : World.alloc _ _ = W0
  have hB0 : Blk W0 w.heap.size s.cells := by rw [← hW]; exact ((Blk.new _ _ _).alloc _).alloc _
  have hB1 : Blk W0 (w.heap.size + 1) (List.replicate 8 (.int .u32 0)) := by
    rw [← hW]; have := (Blk.new (w.alloc (.cells s.cells.toArray 72)) (List.replicate 8 (.int .u32 0)) 72).alloc (.cells s.cells.toArray 72)
    rw [World.size_alloc] at this; exact this
  have hB2 : Blk W0 (w.heap.size + 1 + 1) s.cells := by
    rw [← hW]; have := (Blk.new ((w.alloc (.cells s.cells.toArray 72)).alloc (.cells (List.replicate 8 (.int .u32 0)).toArray 72)) s.cells 72)
    rw [World.size_alloc, World.size_alloc] at this; exact this
  have hb0 : Below w.heap.size w W0 := by rw [← hW]; exact ((ba w _).trans ((ba _ _).mono (by simp))).trans ((ba _ _).mono (by simp; omega))
  have hsz : W0.heap.size = w.heap.size + 3 := by rw [← hW]; simp
  clear hW hs0
  refine (spread_any a cap l _ hl (At.mono Hat.out hb0)).mono ?_
  rintro e w1 ⟨rfl, hb1⟩
  have hB0' := hB0.below hb1 (by omega)
  have hB1' := hB1.below hb1 (by omega)
  have hB2' := hB2.below hb1 (by omega)
  have hb1' := hb0.trans (hb1.mono (by omega))
  clear hB0 hB1 hB2 hb0 hb1 hsz
  have hml := schedN_length l 64
  have Hbf := Lib.hid (show blockF s l = s.add (rnds (schedN l 64) s 64) from rfl)
  generalize schedN l 64 = m at hml Hbf ⊢
  have Hk1 := Lib.hid (KeysAt.mono Hk.out hb1')
  have Hidx := Lib.hid (fun (t : Nat) (ht : t < 64) (W : World) => run_index_agg Tryd.underlying87 size_u32 part_u32 (W32s m) (by simp [hml]) t ht W)
  have hk0 := Hk1.out.1
  go_wp2_with fail
  go_loopw [23] (fun i wr => ∃ t : Nat, t ≤ 64 ∧ i = .int .i64 t ∧ Blk wr w.heap.size s.cells ∧ Blk wr (w.heap.size + 1) (List.replicate 8 (.int .u32 0)) ∧ Blk wr (w.heap.size + 1 + 1) (rnds m s t).cells ∧ Below w.heap.size w wr) (fun i _ => 64 - (intOf i).toNat)
  case atStart => exact ⟨0, Nat.zero_le _, rfl, hB0', hB1', hB2', hb1'⟩
  case round =>
    clear hB0' hB1' hB2' hb1'
    obtain ⟨t, ht, rfl, hB0, hB1, hB2, hb⟩ := hrel
    by_cases h64 : t < 64
    · have hix := Hidx.out t h64
      rw [show (W32s m).getD t undef = .int .u32 (uv (m.getD t 0)) by simp [List.getD, hml, h64]] at hix
      have hkt := (KeysAt.mono Hk.out hb).2 t h64
      have Hr := Lib.hid (show rnds m s (t + 1) = rnd (rnds m s t) (kAt t) (m.getD t 0) from rfl)
      generalize m.getD t 0 = x at hix Hr
      generalize kAt t = k at hkt Hr
      rcases hr : rnds m s t with ⟨a0, a1, a2, a3, a4, a5, a6, a7⟩
      rw [hr] at Hr hB2
      clear hr
      have c0 : wr.cell? ⟨w.heap.size + 1 + 1, 0, none⟩ = _ := hB2.cell 0 (by show 0 < 8; decide)
      have c1 : wr.cell? ⟨w.heap.size + 1 + 1, 1, none⟩ = _ := hB2.cell 1 (by show 1 < 8; decide)
      have c2 : wr.cell? ⟨w.heap.size + 1 + 1, 2, none⟩ = _ := hB2.cell 2 (by show 2 < 8; decide)
      have c3 : wr.cell? ⟨w.heap.size + 1 + 1, 3, none⟩ = _ := hB2.cell 3 (by show 3 < 8; decide)
      have c4 : wr.cell? ⟨w.heap.size + 1 + 1, 4, none⟩ = _ := hB2.cell 4 (by show 4 < 8; decide)
      have c5 : wr.cell? ⟨w.heap.size + 1 + 1, 5, none⟩ = _ := hB2.cell 5 (by show 5 < 8; decide)
      have c6 : wr.cell? ⟨w.heap.size + 1 + 1, 6, none⟩ = _ := hB2.cell 6 (by show 6 < 8; decide)
      have c7 : wr.cell? ⟨w.heap.size + 1 + 1, 7, none⟩ = _ := hB2.cell 7 (by show 7 < 8; decide)
      simp only [List.getD_cons_zero, List.getD_cons_succ] at c0 c1 c2 c3 c4 c5 c6 c7
      have HB0 := Lib.hid hB0
      have HB1 := Lib.hid hB1
      have HB2 := Lib.hid hB2
      clear hB0 hB1 hB2
      have hbs := hb.size
      go_wp2_with fail
      go_region
      all_goals
        go_wp2_with fail
        refine (rot6 _ _).mono ?_; rintro e w' ⟨rfl, rfl⟩
        go_wp2_with fail
        refine (rot11 _ _).mono ?_; rintro e w' ⟨rfl, rfl⟩
        go_wp2_with fail
        refine (rot25 _ _).mono ?_; rintro e w' ⟨rfl, rfl⟩
        go_wp2_with fail
        refine (rot2 _ _).mono ?_; rintro e w' ⟨rfl, rfl⟩
        go_wp2_with fail
        refine (rot13 _ _).mono ?_; rintro e w' ⟨rfl, rfl⟩
        go_wp2_with fail
        refine (rot22 _ _).mono ?_; rintro e w' ⟨rfl, rfl⟩
        go_wp2_with fail
        go_quiet (fail)
        go_wp2_with fail
        have HB0 := Lib.hid (HB0.out.drewN (1 + nq))
        have HB1 := Lib.hid (HB1.out.drewN (1 + nq))
        have HB2 := Lib.hid (HB2.out.drewN (1 + nq))
        have hb : Below w.heap.size w (wr.drewN (1 + nq)) := ⟨hb.os, hb.tape, hb.output, hb.size, hb.block⟩
        clear c0 c1 c2 c3 c4 c5 c6 c7 hix hkt hbs
        generalize wr.drewN (1 + nq) = W1 at HB0 HB1 HB2 hb ⊢
        obtain ⟨w2, hcp, hB2, hoth, hbel⟩ := copy_into (P := Tryd.prog) HB2.out.drew (At.take HB2.out.drew.at 7) (dT := 84) (sT := 84) (ty := 3) Tryd.underlying84 (by kernel_rfl) (some ⟨w.heap.size + 1 + 1, 1, none⟩) 1 7 7 7 8 7 rfl rfl (fun _ => rfl) (by show 8 ≤ 8; decide) (by simp [Value.oneCell'])
        have hB0 := hoth _ _ (by omega) HB0.out.drew
        have hB1 := hoth _ _ (by omega) HB1.out.drew
        have hb2 := hbel _ _ hb.drew (by omega)
        clear HB0 HB1 HB2 hoth hbel hb
        replace hB2 : Blk w2 (w.heap.size + 1 + 1) (R8.cells ⟨a0, a0, a1, a2, a3, a4, a5, a6⟩) := hB2
        have c4 : w2.cell? ⟨w.heap.size + 1 + 1, 4, none⟩ = some (.int .u32 (uv a3)) := hB2.cell 4 (by show 4 < 8; decide)
        have c0 : w2.cell? ⟨w.heap.size + 1 + 1, 0, none⟩ = some (.int .u32 (uv a0)) := hB2.cell 0 (by show 0 < 8; decide)
        have f4 := hB2.frozen 4
        have f0 := hB2.frozen 0
        have HB0 := Lib.hid hB0
        have HB1 := Lib.hid hB1
        have HB2 := Lib.hid hB2
        clear hB0 hB1 hB2
        go_region
        all_goals
          go_wp2_with fail
          exact ⟨⟨t + 1, by omega, by go_num, (HB0.out.other _ (by simp; omega) _).other _ (by simp; omega) _, (HB1.out.other _ (by simp) _).other _ (by simp) _, by rw [Hr.out]; exact (HB2.out.set 4 _).set 0 _, (hb2.setCell (by simp; omega) _).setCell (by simp; omega) _⟩, by simp [intOf]; omega⟩
    · obtain rfl : t = 64 := by omega
      have HB0 := Lib.hid hB0
      have HB1 := Lib.hid hB1
      have HB2 := Lib.hid hB2
      clear hB0 hB1 hB2
      generalize rnds m s 64 = r at HB2 Hbf
      have hbs := hb.size
      go_wp2_with fail
      go_loopw [98] (fun i wr => ∃ t : Nat, t ≤ 8 ∧ i = .int .i64 t ∧ Blk wr w.heap.size (mixC s r t) ∧ Blk wr (w.heap.size + 1) (List.replicate 8 (.int .u32 0)) ∧ Blk wr (w.heap.size + 1 + 1) r.cells ∧ Below w.heap.size w wr) (fun i _ => 8 - (intOf i).toNat)
      case atStart => exact ⟨0, Nat.zero_le _, rfl, HB0.out, HB1.out, HB2.out, hb⟩
      case round =>
        clear HB0 HB1 HB2 hb hbs
        obtain ⟨t, ht, rfl, hB0, hB1, hB2, hb⟩ := hrel
        by_cases h8 : t < 8
        · have c0 := hB0.cell t (by rw [mixC_len s r t ht]; exact h8)
          have c2 := hB2.cell t (by show t < 8; exact h8)
          rw [mixC_at s r t h8] at c0
          rw [cells_at r t h8] at c2
          have f0 := hB0.frozen t
          have Hset := Lib.hid (mixC_set s r t h8)
          generalize s.l.getD t 0 = x at c0 Hset
          generalize r.l.getD t 0 = y at c2 Hset
          have HB0 := Lib.hid hB0
          have HB1 := Lib.hid hB1
          have HB2 := Lib.hid hB2
          clear hB0 hB1 hB2
          have hbs := hb.size
          go_wp2_with fail
          go_region
          all_goals
            go_wp2_with fail
            exact ⟨⟨t + 1, by omega, by go_num, by rw [← Hset.out]; exact (HB0.out.set t _).drew, (HB1.out.other _ (by simp) _).drew, (HB2.out.other _ (by simp; omega) _).drew, (hb.setCell (by simp) _).drew⟩, by simp [intOf]; omega⟩
        · obtain rfl : t = 8 := by omega
          have Hbf2 : Hid (Blk wr w.heap.size (blockF s l).cells) := by rw [Hbf.out]; exact hB0
          have HB1 := Lib.hid hB1
          have HC : Hid ((blockF s l).cells.all (·.oneCell') = true) := rfl
          have HI : Hid ((Tryd.prog.info? 72).map (·.size) = some (blockF s l).cells.length) := by show _ = some 8; kernel_rfl
          obtain ⟨cs, hcs⟩ : ∃ cs, cs = (blockF s l).cells := ⟨_, rfl⟩
          rw [← hcs] at Hbf2 HC HI
          have HL : Hid (cs.length = 8) := by rw [hcs]; rfl
          have Hcs := Lib.hid hcs
          clear hcs hB0 hB1 hB2 Hbf
          go_wp2_with (first
            | (refine wpList_load_blk 72 (.tmp 2) w.heap.size rfl rfl rfl Hbf2.out Tryd.underlying72 rfl HI.out ?_)
            | (refine wpList_store_blk 72 (.tmp 4) (.tmp 110) (w.heap.size + 1) rfl rfl rfl rfl HB1.out HI.out (by rw [HL.out]; rfl) HC.out ?_))
          exact bodyPost_ret (v := .tuple #[.agg cs.toArray, .int .i64 0]) (results_blk_tmp (d := .array 8 71) rfl _ _ (w.heap.size + 1) rfl _ rfl (HB1.out.row cs) Tryd.underlying72 rfl HI.out) rfl ⟨by rw [Hcs.out], below_setRow hb (by omega) _⟩
end Go.Proofs.YthmcmkdncaccbaaDoor
