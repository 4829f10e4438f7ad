/- The walk of the document's step. -/
import Derived.Test.YthmcmkdncaccbaaDoorShaC
set_option linter.unusedSimpArgs false
set_option linter.unusedVariables false
namespace Go.Proofs.YthmcmkdncaccbaaDoor
open Go.RowKit

theorem word_sum (a b c d : UInt8) : a.toUInt32 * 16777216 + b.toUInt32 * 65536 + c.toUInt32 * 256 + d.toUInt32 = wordOf a b c d := by
  unfold wordOf
  have ha := a.toNat_lt; have hb := b.toNat_lt; have hc := c.toNat_lt; have hd := d.toNat_lt
  apply UInt32.toNat_inj.1
  have e1 : (a.toUInt32 <<< 24).toNat = a.toNat <<< 24 := by
    rw [UInt32.toNat_shiftLeft, UInt8.toNat_toUInt32, Nat.shiftLeft_eq, Nat.shiftLeft_eq]; show a.toNat * 2 ^ 24 % 2 ^ 32 = _; omega
  have e2 : (b.toUInt32 <<< 16).toNat = b.toNat <<< 16 := by
    rw [UInt32.toNat_shiftLeft, UInt8.toNat_toUInt32, Nat.shiftLeft_eq, Nat.shiftLeft_eq]; show b.toNat * 2 ^ 16 % 2 ^ 32 = _; omega
  have e3 : (c.toUInt32 <<< 8).toNat = c.toNat <<< 8 := by
    rw [UInt32.toNat_shiftLeft, UInt8.toNat_toUInt32, Nat.shiftLeft_eq, Nat.shiftLeft_eq]; show c.toNat * 2 ^ 8 % 2 ^ 32 = _; omega
  rw [UInt32.toNat_or, UInt32.toNat_or, UInt32.toNat_or, e1, e2, e3, UInt8.toNat_toUInt32]
  have f1 : a.toNat <<< 24 ||| b.toNat <<< 16 = a.toNat <<< 24 + b.toNat <<< 16 :=
    (Nat.shiftLeft_add_eq_or_of_lt (by rw [Nat.shiftLeft_eq]; omega) _).symm
  have f2 : (a.toNat <<< 24 + b.toNat <<< 16) ||| c.toNat <<< 8 = a.toNat <<< 24 + b.toNat <<< 16 + c.toNat <<< 8 := by
    have := (Nat.shiftLeft_add_eq_or_of_lt (i := 16) (b := c.toNat <<< 8) (by rw [Nat.shiftLeft_eq]; omega) (a.toNat * 256 + b.toNat)).symm
    have g : (a.toNat * 256 + b.toNat) <<< 16 = a.toNat <<< 24 + b.toNat <<< 16 := by rw [Nat.shiftLeft_eq, Nat.shiftLeft_eq, Nat.shiftLeft_eq]; omega
    rwa [g] at this
  have f3 : (a.toNat <<< 24 + b.toNat <<< 16 + c.toNat <<< 8) ||| d.toNat = a.toNat <<< 24 + b.toNat <<< 16 + c.toNat <<< 8 + d.toNat := by
    have := (Nat.shiftLeft_add_eq_or_of_lt (i := 8) (b := d.toNat) (by omega) (a.toNat * 65536 + b.toNat * 256 + c.toNat)).symm
    have g : (a.toNat * 65536 + b.toNat * 256 + c.toNat) <<< 8 = a.toNat <<< 24 + b.toNat <<< 16 + c.toNat <<< 8 := by rw [Nat.shiftLeft_eq, Nat.shiftLeft_eq, Nat.shiftLeft_eq, Nat.shiftLeft_eq]; omega
    rwa [g] at this
  rw [f1, f2, f3]
  simp only [UInt32.toNat_add, UInt32.toNat_mul, UInt8.toNat_toUInt32, Nat.shiftLeft_eq]
  show (((a.toNat * 16777216 % 2 ^ 32 + b.toNat * 65536 % 2 ^ 32) % 2 ^ 32 + c.toNat * 256 % 2 ^ 32) % 2 ^ 32 + d.toNat) % 2 ^ 32 = _
  omega

theorem mul32 (t : TypeId) (x c : UInt32) (n : Int) (h : n = uv c) : binOp .mul t (.int .u32 (uv x)) (.int .u32 n) = pure (.int .u32 (uv (x * c))) := by
  subst h
  show pure (Value.int .u32 (IntKind.u32.wrap (uv x * uv c))) = _
  have h : IntKind.u32.wrap (uv x * uv c) = uv (x * c) := by
    unfold uv; rw [IntKind.wrap_u32, UInt32.toNat_mul, ← Int.natCast_mul]; omega
  rw [h]

theorem q6 (x : UInt32) (w : World) : Calls Tryd.prog 53 #[.int .u32 (uv x), .int .u32 6] w fun e w' => e = .returned (.int .u32 (uv (rotr x 6))) ∧ w' = w :=
  (turn6 x w).mono fun _ _ h => ⟨h.1, h.2.symm⟩
theorem q11 (x : UInt32) (w : World) : Calls Tryd.prog 53 #[.int .u32 (uv x), .int .u32 11] w fun e w' => e = .returned (.int .u32 (uv (rotr x 11))) ∧ w' = w :=
  (turn11 x w).mono fun _ _ h => ⟨h.1, h.2.symm⟩
theorem q25 (x : UInt32) (w : World) : Calls Tryd.prog 53 #[.int .u32 (uv x), .int .u32 25] w fun e w' => e = .returned (.int .u32 (uv (rotr x 25))) ∧ w' = w :=
  (turn25 x w).mono fun _ _ h => ⟨h.1, h.2.symm⟩
def rotrI (x : UInt32) (k : Int) : UInt32 := rotr x (UInt32.ofNat k.toNat)
theorem turnI (x : UInt32) (k : Int) (h : k = 6 ∨ k = 11 ∨ k = 25) (w : World) : Calls Tryd.prog 53 #[.int .u32 (uv x), .int .u32 k] w fun e w' => e = .returned (.int .u32 (uv (rotrI x k))) ∧ w' = w := by
  rcases h with rfl | rfl | rfl
  · exact q6 x w
  · exact q11 x w
  · exact q25 x w
/-- what the document's step keeps: its words, its result, its schedule -/
structure M3 (w wr : World) (s : R8) (l : List UInt8) (t : Nat) : Prop where
  b0 : Blk wr w.heap.size s.cells
  b1 : Blk wr (w.heap.size + 1) (List.replicate 8 (.int .u32 0))
  b2 : Blk wr (w.heap.size + 1 + 1) (schedC l t)
  below : Below w.heap.size w wr
theorem M3.step {w wr : World} {s : R8} {l : List UInt8} {t : Nat} (h : M3 w wr s l t) (ht : t < 64) (x : UInt32) (hx : schedN l (t + 1) = schedN l t ++ [x]) :
    M3 w (wr.setCell ⟨w.heap.size + 1 + 1, t, none⟩ (.int .u32 (uv x))).drew s l (t + 1) :=
  ⟨(h.b0.other _ (by simp; omega) _).drew, (h.b1.other _ (by simp) _).drew, by rw [← schedC_set l t ht x hx]; exact (h.b2.set t _).drew, (h.below.setCell (by simp; omega) _).drew⟩
theorem M3.drewN {w wr : World} {s : R8} {l : List UInt8} {t : Nat} (h : M3 w wr s l t) (n : Nat) : M3 w (wr.drewN n) s l t :=
  ⟨h.b0.drewN n, h.b1.drewN n, h.b2.drewN n, ⟨h.below.os, h.below.tape, h.below.output, h.below.size, h.below.block⟩⟩
theorem kcell {w : World} {ka : Option Addr} (h : At w ka (W32s shaK)) : ∃ kb ko, ka = some ⟨kb, ko, none⟩ ∧ kb < w.heap.size ∧ ∀ i, i < 64 → w.cell? ⟨kb, ko + i, none⟩ = some (.int .u32 (uv (kAt i))) := by
  rcases h with h | ⟨kb, ko, rfl, hlt, hc⟩
  · simp [shaK] at h
  · refine ⟨kb, ko, rfl, hlt, fun i hi => ?_⟩
    rw [hc i (by simpa [shaK] using hi)]
    have : i < shaK.length := by simpa [shaK] using hi
    simp [List.getD, this, kAt]

set_option maxRecDepth 100000 in
set_option maxHeartbeats 4000000 in
theorem step_any (s : R8) (a ka : Option Addr) (at_ len cap kcap : Nat) (l : List UInt8) (w : World) (hl : len = l.length) (hm : len ≤ maxLen) (ha : at_ + 64 ≤ len) (hat : BytesAt w a l) (hk : At w ka (W32s shaK)) :
    Calls Tryd.prog 50 #[.agg s.cells.toArray, .slice a len cap, .int .i64 at_, .slice ka 64 kcap] w fun e w' => e = .returned (.agg (blockF s ((l.drop at_).take 64)).cells.toArray) ∧ Below w.heap.size w w' := by
  unfold maxLen at hm
  subst hl
  obtain ⟨b, off, rfl, hbl, hc⟩ := bytes_cell hat (by omega)
  have Hc := Lib.hid hc
  clear hc hat
  have Hk := Lib.hid hk
  clear hk
  have hmk : ∀ w, (Instr.makeSlice 84 (.int .i64 64) (.int .i64 64)).run Tryd.prog w = .ok (.slice (some ⟨w.heap.size, 0, none⟩) 64 64) (w.alloc (.cells (List.replicate 64 (.int .u32 0)).toArray 71)) := fun _ => by kernel_rfl
  go_enter Tryd.func50, Tryd.ntmps50
  go_wp2_with fail
  generalize hW : World.alloc _ _ = W0
  obtain ⟨l', hl'⟩ : ∃ l', l' = (l.drop at_).take 64 := ⟨_, rfl⟩
  have Hl' := Lib.hid hl'
  have hb' : ∀ i, i < 64 → l'.getD i 0 = l.getD (at_ + i) 0 := fun i hi => by rw [hl']; simp [List.getD, List.getElem?_take, hi]
  have Hb' := Lib.hid hb'
  clear hl' hb'
  have hm0 : M3 w W0 s l' 0 := by
    refine ⟨?_, ?_, ?_, ?_⟩
    · rw [← hW]; exact ((Blk.new _ _ _).alloc _).alloc _
    · rw [← hW]; have := (Blk.new (w.alloc (.cells s.cells.toArray 72)) (List.replicate 8 (.int .u32 0)) 72).alloc (.cells (List.replicate 64 (.int .u32 0)).toArray 71)
      rw [World.size_alloc] at this; exact this
    · rw [← hW]; have := (Blk.new ((w.alloc (.cells s.cells.toArray 72)).alloc (.cells (List.replicate 8 (.int .u32 0)).toArray 72)) (schedC l' 0) 71)
      rw [World.size_alloc, World.size_alloc] at this; exact this
    · rw [← hW]; exact ((ba w _).trans ((ba _ _).mono (by simp))).trans ((ba _ _).mono (by simp; omega))
  clear hW
  go_loopw [10] (fun i wr => ∃ t : Nat, t ≤ 16 ∧ i = .int .i64 t ∧ M3 w wr s l' t) (fun i _ => 16 - (intOf i).toNat)
  case atStart => exact ⟨0, Nat.zero_le _, rfl, hm0⟩
  case round =>
    clear hm0
    obtain ⟨t, ht, rfl, hm3⟩ := hrel
    by_cases h16 : t < 16
    · have hlen := schedC_length l' t (by omega)
      have hst := hm3.b2.cell t (by omega)
      have hfr := hm3.b2.frozen t
      have hbs := hm3.below.size
      have c0 : wr.cell? ⟨b, off + (at_ + 4 * t), none⟩ = _ := (hm3.below.cell (p := ⟨b, off + (at_ + 4 * t), none⟩) hbl).trans (Hc.out (at_ + 4 * t) (by omega))
      have c1 : wr.cell? ⟨b, off + (at_ + 4 * t + 1), none⟩ = _ := (hm3.below.cell (p := ⟨b, off + (at_ + 4 * t + 1), none⟩) hbl).trans (Hc.out (at_ + 4 * t + 1) (by omega))
      have c2 : wr.cell? ⟨b, off + (at_ + 4 * t + 2), none⟩ = _ := (hm3.below.cell (p := ⟨b, off + (at_ + 4 * t + 2), none⟩) hbl).trans (Hc.out (at_ + 4 * t + 2) (by omega))
      have c3 : wr.cell? ⟨b, off + (at_ + 4 * t + 3), none⟩ = _ := (hm3.below.cell (p := ⟨b, off + (at_ + 4 * t + 3), none⟩) hbl).trans (Hc.out (at_ + 4 * t + 3) (by omega))
      have Hx := Lib.hid (show schedN l' (t + 1) = schedN l' t ++ [(l.getD (at_ + 4 * t) 0).toUInt32 * 16777216 + (l.getD (at_ + 4 * t + 1) 0).toUInt32 * 65536 + (l.getD (at_ + 4 * t + 2) 0).toUInt32 * 256 + (l.getD (at_ + 4 * t + 3) 0).toUInt32] by
        rw [schedN, if_pos h16, word_sum, Hb'.out _ (by omega), Hb'.out _ (by omega), Hb'.out _ (by omega), Hb'.out _ (by omega)]; rfl)
      have Hm3 := Lib.hid hm3
      clear hm3
      have hm1 : ∀ x t, binOp .mul t (.int .u32 (uv x)) (.int .u32 16777216) = pure (.int .u32 (uv (x * 16777216))) := fun x t => mul32 t x 16777216 16777216 (by decide)
      have hm2 : ∀ x t, binOp .mul t (.int .u32 (uv x)) (.int .u32 65536) = pure (.int .u32 (uv (x * 65536))) := fun x t => mul32 t x 65536 65536 (by decide)
      have hm4 : ∀ x t, binOp .mul t (.int .u32 (uv x)) (.int .u32 256) = pure (.int .u32 (uv (x * 256))) := fun x t => mul32 t x 256 256 (by decide)
      generalize l.getD (at_ + 4 * t) 0 = x0 at c0 Hx
      generalize l.getD (at_ + 4 * t + 1) 0 = x1 at c1 Hx
      generalize l.getD (at_ + 4 * t + 2) 0 = x2 at c2 Hx
      generalize l.getD (at_ + 4 * t + 3) 0 = x3 at c3 Hx
      generalize (schedC l' t).getD t undef = old at hst
      go_wp2_with fail
      go_region
      all_goals go_wp2_with fail
      exact ⟨⟨t + 1, by omega, by go_num, Hm3.out.step (by omega) _ Hx.out⟩, by simp [intOf]; omega⟩
    · have e16 : t = 16 := by omega
      rw [e16] at hm3
      clear Hc hbl e16
      go_wp2_with fail
      go_loopw [12] (fun i wr => ∃ t : Nat, 16 ≤ t ∧ t ≤ 64 ∧ i = .int .i64 t ∧ M3 w wr s l' t) (fun i _ => 64 - (intOf i).toNat)
      case atStart => exact ⟨16, Nat.le_refl _, by omega, rfl, hm3⟩
      case round =>
        clear hm3
        obtain ⟨t, hge, ht, rfl, hm3⟩ := hrel
        by_cases h64 : t < 64
        · have hlen := schedC_length l' t (by omega)
          have hst := hm3.b2.cell t (by omega)
          have hfr := hm3.b2.frozen t
          have hbs := hm3.below.size
          have c15 := hm3.b2.cell (t - 15) (by omega)
          have c2 := hm3.b2.cell (t - 2) (by omega)
          have c7 := hm3.b2.cell (t - 7) (by omega)
          have c16 := hm3.b2.cell (t - 16) (by omega)
          rw [schedC_at l' t _ (by omega)] at c15 c2 c7 c16
          have hs3 : ∀ y, Op.shift .shr .u32 (uv y) .u64 3 = pure (.int .u32 (uv (y >>> 3))) := fun y => shr32 0 y 3 (by decide) .u64
          have hs10 : ∀ y, Op.shift .shr .u32 (uv y) .u64 10 = pure (.int .u32 (uv (y >>> 10))) := fun y => shr32 0 y 10 (by decide) .u64
          have Hx := Lib.hid (show schedN l' (t + 1) = schedN l' t ++ [sig1 ((schedN l' t).getD (t - 2) 0) + (schedN l' t).getD (t - 7) 0 + sig0 ((schedN l' t).getD (t - 15) 0) + (schedN l' t).getD (t - 16) 0] by rw [schedN, if_neg (by omega)]; rfl)
          have Hm3 := Lib.hid hm3
          clear hm3
          generalize (schedN l' t).getD (t - 2) 0 = x2 at c2 Hx
          generalize (schedN l' t).getD (t - 7) 0 = x7 at c7 Hx
          generalize (schedN l' t).getD (t - 15) 0 = x15 at c15 Hx
          generalize (schedN l' t).getD (t - 16) 0 = x16 at c16 Hx
          generalize (schedC l' t).getD t undef = old at hst
          go_wp2_with fail
          refine (turn7 _ _).mono ?_; rintro e w' ⟨rfl, rfl⟩
          go_wp2_with fail
          refine (turn18 _ _).mono ?_; rintro e w' ⟨rfl, rfl⟩
          go_wp2_with fail
          refine (turn17 _ _).mono ?_; rintro e w' ⟨rfl, rfl⟩
          go_wp2_with fail
          refine (turn19 _ _).mono ?_; rintro e w' ⟨rfl, rfl⟩
          go_wp2_with fail
          go_region
          all_goals
            go_wp2_with fail
            exact ⟨⟨t + 1, by omega, by omega, by go_num, Hm3.out.step (by omega) _ Hx.out⟩, by simp [intOf]; omega⟩
        · have e64 : t = 64 := by omega
          rw [e64] at hm3
          clear e64
          have hbs := hm3.below.size
          have k0 : wr.cell? ⟨w.heap.size, 0, none⟩ = some (.int .u32 (uv s.a)) := hm3.b0.cell 0 (by show 0 < 8; decide)
          have k1 : wr.cell? ⟨w.heap.size, 1, none⟩ = some (.int .u32 (uv s.b)) := hm3.b0.cell 1 (by show 1 < 8; decide)
          have k2 : wr.cell? ⟨w.heap.size, 2, none⟩ = some (.int .u32 (uv s.c)) := hm3.b0.cell 2 (by show 2 < 8; decide)
          have k3 : wr.cell? ⟨w.heap.size, 3, none⟩ = some (.int .u32 (uv s.d)) := hm3.b0.cell 3 (by show 3 < 8; decide)
          have k4 : wr.cell? ⟨w.heap.size, 4, none⟩ = some (.int .u32 (uv s.e)) := hm3.b0.cell 4 (by show 4 < 8; decide)
          have k5 : wr.cell? ⟨w.heap.size, 5, none⟩ = some (.int .u32 (uv s.f)) := hm3.b0.cell 5 (by show 5 < 8; decide)
          have k6 : wr.cell? ⟨w.heap.size, 6, none⟩ = some (.int .u32 (uv s.g)) := hm3.b0.cell 6 (by show 6 < 8; decide)
          have k7 : wr.cell? ⟨w.heap.size, 7, none⟩ = some (.int .u32 (uv s.h)) := hm3.b0.cell 7 (by show 7 < 8; decide)
          have Hm3 := Lib.hid hm3
          clear hm3
          go_wp2_with fail
          go_loopw [17, 18, 19, 20, 21, 22, 23, 24, 25] (fun a b c d e f g h i wr => ∃ (t : Nat) (a0 a1 a2 a3 a4 a5 a6 a7 : UInt32), t ≤ 64 ∧ Hid (rnds (schedN l' 64) s t = ⟨a0, a1, a2, a3, a4, a5, a6, a7⟩) ∧ i = .int .i64 t ∧ a = .int .u32 (uv a0) ∧ b = .int .u32 (uv a1) ∧ c = .int .u32 (uv a2) ∧ d = .int .u32 (uv a3)
            ∧ e = .int .u32 (uv a4) ∧ f = .int .u32 (uv a5) ∧ g = .int .u32 (uv a6) ∧ h = .int .u32 (uv a7) ∧ M3 w wr s l' 64) (fun _ _ _ _ _ _ _ _ i _ => 64 - (intOf i).toNat)
          case atStart => exact ⟨0, s.a, s.b, s.c, s.d, s.e, s.f, s.g, s.h, by omega, rfl, rfl, rfl, rfl, rfl, rfl, rfl, rfl, rfl, rfl, Hm3.out⟩
          case round =>
            clear Hm3 k0 k1 k2 k3 k4 k5 k6 k7 hbs
            obtain ⟨t, a0, a1, a2, a3, a4, a5, a6, a7, ht, hR, rfl, rfl, rfl, rfl, rfl, rfl, rfl, rfl, rfl, hm3⟩ := hrel
            by_cases h64 : t < 64
            · obtain ⟨kb, ko, rfl, hkb, hkc⟩ := kcell Hk.out
              have ck : wr.cell? ⟨kb, ko + t, none⟩ = _ := (hm3.below.cell (p := ⟨kb, ko + t, none⟩) hkb).trans (hkc t h64)
              clear hkc
              have cm := hm3.b2.cell t (by rw [schedC_length l' 64 (by omega)]; exact h64)
              rw [schedC_at l' 64 t h64] at cm
              have Hr := Lib.hid (show rnds (schedN l' 64) s (t + 1) = rnd (rnds (schedN l' 64) s t) (kAt t) ((schedN l' 64).getD t 0) from rfl)
              rw [hR.out] at Hr
              generalize (schedN l' 64).getD t 0 = x at cm Hr
              generalize kAt t = k at ck Hr
              have Hm3 := Lib.hid hm3
              have hbs := hm3.below.size
              clear hm3 Hk hR Hl' Hb'
              go_wp2_with fail
              go_big_quiet (first | (go_at_call 53; refine Calls.quiet_of_same (turnI _ _ (by decide) _)))
              go_wp2_with fail
              refine (turn2 _ _).mono ?_; rintro e w' ⟨rfl, rfl⟩
              go_wp2_with fail
              refine (turn13 _ _).mono ?_; rintro e w' ⟨rfl, rfl⟩
              go_wp2_with fail
              refine (turn22 _ _).mono ?_; rintro e w' ⟨rfl, rfl⟩
              go_wp2_with fail
              exact ⟨⟨t + 1, _, _, _, _, _, _, _, _, by omega, Hr.out, by go_num, rfl, rfl, rfl, rfl, rfl, rfl, rfl, rfl, Hm3.out.drewN nq⟩, by simp [intOf]; omega⟩
            · have e64 : t = 64 := by omega
              rw [e64] at hR
              clear e64
              have k0 : wr.cell? ⟨w.heap.size, 0, none⟩ = some (.int .u32 (uv s.a)) := hm3.b0.cell 0 (by show 0 < 8; decide)
              have k1 : wr.cell? ⟨w.heap.size, 1, none⟩ = some (.int .u32 (uv s.b)) := hm3.b0.cell 1 (by show 1 < 8; decide)
              have k2 : wr.cell? ⟨w.heap.size, 2, none⟩ = some (.int .u32 (uv s.c)) := hm3.b0.cell 2 (by show 2 < 8; decide)
              have k3 : wr.cell? ⟨w.heap.size, 3, none⟩ = some (.int .u32 (uv s.d)) := hm3.b0.cell 3 (by show 3 < 8; decide)
              have k4 : wr.cell? ⟨w.heap.size, 4, none⟩ = some (.int .u32 (uv s.e)) := hm3.b0.cell 4 (by show 4 < 8; decide)
              have k5 : wr.cell? ⟨w.heap.size, 5, none⟩ = some (.int .u32 (uv s.f)) := hm3.b0.cell 5 (by show 5 < 8; decide)
              have k6 : wr.cell? ⟨w.heap.size, 6, none⟩ = some (.int .u32 (uv s.g)) := hm3.b0.cell 6 (by show 6 < 8; decide)
              have k7 : wr.cell? ⟨w.heap.size, 7, none⟩ = some (.int .u32 (uv s.h)) := hm3.b0.cell 7 (by show 7 < 8; decide)
              have Hm3 := Lib.hid hm3
              have hbs := hm3.below.size
              have HI := Lib.hid (show (Tryd.prog.info? 72).map (·.size) = some 8 by kernel_rfl)
              clear hm3
              go_wp2_with (refine wpList_store_blk 72 (.tmp 8) (.tmp 234) (w.heap.size + 1) (cs := (R8.add s ⟨a0, a1, a2, a3, a4, a5, a6, a7⟩).cells) rfl rfl rfl rfl Hm3.out.b1 HI.out rfl rfl ?_)
              refine bodyPost_ret (v := .agg (R8.add s ⟨a0, a1, a2, a3, a4, a5, a6, a7⟩).cells.toArray) (results_blk (d := .array 8 71) rfl _ _ (w.heap.size + 1) rfl (Hm3.out.b1.row _) Tryd.underlying72 rfl HI.out) rfl ⟨by rw [← Hl'.out]; unfold blockF; rw [hR.out], below_setRow Hm3.out.below (by omega) _⟩
end Go.Proofs.YthmcmkdncaccbaaDoor
