/- The walk of the project's Sum. -/
import Derived.Test.YthmcmkdncaccbaaDoorShaH
import Derived.Test.YthmcmkdncaccbaaDoorShaF
import Derived.Deep.DeepMust
set_option linter.unusedSimpArgs false
set_option linter.unusedVariables false
namespace Go.Proofs.YthmcmkdncaccbaaDoor
open Go.RowKit

/-- a word in four bytes -/
def w4 (x : UInt32) : List UInt8 := [(x >>> 24).toUInt8, (x >>> 16).toUInt8, (x >>> 8).toUInt8, x.toUInt8]
def R8.bytes (s : R8) : List UInt8 := w4 s.a ++ w4 s.b ++ w4 s.c ++ w4 s.d ++ w4 s.e ++ w4 s.f ++ w4 s.g ++ w4 s.h
/-- the digest: of words, and of what is left, behind n bytes -/
def sumF (s : R8) (l : List UInt8) (n : Nat) : List UInt8 := (putS s (l ++ padF n)).bytes

theorem pad_more' (l : List UInt8) (k j : Nat) (m : Int) (b : UInt8) (hj : j < 8) (hb : (be8 m).getD j 0 = b) : B8s (l ++ (128 :: (List.replicate k 0 ++ (be8 m).take j))) ++ [.int .u8 (bv b)] = B8s (l ++ (128 :: (List.replicate k 0 ++ (be8 m).take (j + 1)))) := by
  rw [take_snoc (be8 m) j (by show j < 8; exact hj) 0, hb]; simp
theorem r8_cells {w : World} {b : Nat} {r : R8} (h : Blk w b r.cells) :
    w.cell? ⟨b, 0, none⟩ = some (.int .u32 (uv r.a)) ∧ w.cell? ⟨b, 1, none⟩ = some (.int .u32 (uv r.b)) ∧ w.cell? ⟨b, 2, none⟩ = some (.int .u32 (uv r.c)) ∧ w.cell? ⟨b, 3, none⟩ = some (.int .u32 (uv r.d)) ∧
    w.cell? ⟨b, 4, none⟩ = some (.int .u32 (uv r.e)) ∧ w.cell? ⟨b, 5, none⟩ = some (.int .u32 (uv r.f)) ∧ w.cell? ⟨b, 6, none⟩ = some (.int .u32 (uv r.g)) ∧ w.cell? ⟨b, 7, none⟩ = some (.int .u32 (uv r.h)) :=
  ⟨h.cell 0 (by show 0 < 8; decide), h.cell 1 (by show 1 < 8; decide), h.cell 2 (by show 2 < 8; decide), h.cell 3 (by show 3 < 8; decide), h.cell 4 (by show 4 < 8; decide), h.cell 5 (by show 5 < 8; decide), h.cell 6 (by show 6 < 8; decide), h.cell 7 (by show 7 < 8; decide)⟩
theorem r8_set {w : World} {b : Nat} {r r' : R8} (h : Blk w b r.cells) :
    Blk ((((((((w.setCell ⟨b, 0, none⟩ (.int .u32 (uv r'.a))).setCell ⟨b, 1, none⟩ (.int .u32 (uv r'.b))).setCell ⟨b, 2, none⟩ (.int .u32 (uv r'.c))).setCell ⟨b, 3, none⟩ (.int .u32 (uv r'.d))).setCell ⟨b, 4, none⟩ (.int .u32 (uv r'.e))).setCell ⟨b, 5, none⟩ (.int .u32 (uv r'.f))).setCell ⟨b, 6, none⟩ (.int .u32 (uv r'.g))).setCell ⟨b, 7, none⟩ (.int .u32 (uv r'.h))) b r'.cells :=
  (((((((h.set 0 _).set 1 _).set 2 _).set 3 _).set 4 _).set 5 _).set 6 _).set 7 _
theorem bytes_step (R : R8) (k : Nat) (h : k < 8) : R.bytes.take (4 * k) ++ w4 (R.l.getD k 0) = R.bytes.take (4 * (k + 1)) := by
  rcases lt8 h with rfl | rfl | rfl | rfl | rfl | rfl | rfl | rfl <;> rfl
theorem wrap_u32_u8 (y : UInt32) : IntKind.u8.wrap (uv y) = bv y.toUInt8 := by
  unfold uv bv; rw [IntKind.wrap_u8]; simp
def z32 : List Value := List.replicate 32 (.int .u8 0)
def z128 : List Value := List.replicate 128 (.int .u8 0)
theorem zc_mod (n : Nat) : zc (n % 64) = zc n := by unfold zc; omega

/-- bytes of the call's own as a result -/
def OwnOut (w : World) (l : List UInt8) (e : Ending) (w' : World) : Prop := ∃ a cap, e = .returned (.slice a l.length cap) ∧ w'.ownsRow w.heap.size 5 1 (.slice a l.length cap) l.length (B8s l) ∧ Below w.heap.size w w'
theorem own_base {w : World} {b b' : Nat} {e : TypeId} {size n : Nat} {v : Value} {xs : List Value} (h : w.ownsRow b e size v n xs) (hb : b' ≤ b) : w.ownsRow b' e size v n xs :=
  ⟨h.1, h.2.imp id fun ⟨g, cap, cur, hv, hg, r⟩ => ⟨g, cap, cur, hv, Nat.le_trans hb hg, r⟩⟩
theorem OwnOut.bytes {w : World} {l : List UInt8} {e : Ending} {w' : World} (h : OwnOut w l e w') : BytesOut w l e w' := by
  obtain ⟨a, c, h1, h2, h3⟩ := h
  exact ⟨a, c, h1, own_at h2, h3⟩
set_option maxRecDepth 100000 in
set_option maxHeartbeats 1000000 in
theorem sum_own (s : R8) (n : Nat) (a : Option Addr) (ca : Nat) (l : List UInt8) (hn : n ≤ 1125899906842624) (hr : l.length = n % 64) (w : World) (hl : BytesAt w a l) (hk : KeysAt w) :
    Calls Tryd.prog 42 #[.agg (hashC s n a l.length ca).toArray] w (OwnOut w (sumF s l n)) := by
  have Hl := Lib.hid hl
  have Hk := Lib.hid hk
  have Hr := Lib.hid hr
  have hr64 : l.length < 64 := by omega
  clear hl hk hr
  obtain ⟨s0, s1, s2, s3, s4, s5, s6, s7⟩ := s
  go_enter Tryd.func42, Tryd.ntmps42
  go_wp2_with fail
  have hmk : ∀ w, (Instr.makeSlice 25 (.int .i64 0) (.int .i64 128)).run Tryd.prog w = .ok (.slice (some ⟨w.heap.size, 0, none⟩) 0 128) (w.alloc (.cells z128.toArray 5)) := fun w =>
    run_mk0 elemB w .i64 .i64 128 (by decide) (by decide) rfl z128 rfl
  generalize hW : World.alloc w _ = W
  have hB0 : Blk W w.heap.size (hashC ⟨s0, s1, s2, s3, s4, s5, s6, s7⟩ n a l.length ca) := by rw [← hW]; exact Blk.new _ _ _
  have hb0 : Below w.heap.size w W := by rw [← hW]; exact ba _ _
  clear hW
  have c9 : W.cell? ⟨w.heap.size, 9, none⟩ = some (.slice a l.length ca) := hB0.cell 9 (by show 9 < 10; decide)
  have c9' : (W.alloc (.cells z128.toArray 5)).cell? ⟨w.heap.size, 9, none⟩ = some (.slice a l.length ca) := (hB0.alloc _).cell 9 (by show 9 < 10; decide)
  have HB0 := Lib.hid hB0
  have Hb0 := Lib.hid hb0
  have Hat := Lib.hid (Hl.out.mono hb0)
  clear hB0 hb0
  go_region_law ((refine step_buf (.tmp 9) (.tmp 11) 25 rfl rfl elemB rfl (Buf.made W 5 z128 0 128 (by decide) rfl (by decide)).drew (sp := a) (m := l.length) (news := B8s l) rfl (Hat.out.mono ((ba W _).trans ((bd _).mono (by simp)))) (by simp) (bytes_one l) (by omega) (by decide) l.length (by omega) (B8s l) rfl ?_; intro a1 c1 w1 hB1))
  all_goals
    clear c9 c9'
    have Hz := Lib.hid (show zc l.length = zc n by rw [Hr.out]; exact zc_mod n)
    obtain ⟨Z, hZ⟩ : ∃ Z, Z = zc l.length := ⟨_, rfl⟩
    have HZ := Lib.hid hZ
    have hz63 : Z ≤ 63 := by rw [hZ]; unfold zc; omega
    have hz64 : (l.length + 1 + Z) % 64 = 56 := by rw [hZ]; unfold zc; omega
    have hzlt : ∀ k, k < Z → (l.length + 1 + k) % 64 ≠ 56 := by intro k hk; rw [hZ] at hk; unfold zc at hk; omega
    have Hz64 := Lib.hid hz64
    have Hzlt := Lib.hid hzlt
    clear hZ hz64 hzlt hmk
    go_wp2_with (first
      | (at_builtin; go_must (refine wpList_buf (.tmp 13) (.tmp 14) 25 rfl rfl elemB rfl (hB1.alloc _) (news := [.int .u8 128]) rfl (at_new w1 _ _) rfl (by decide) (by omega) (by decide) (l.length + 1) rfl (B8s (l ++ (128 :: List.replicate 0 0))) (by simp; rfl) ?_; intro a2 c2 w2 hB2))
      | fail)
    clear hB1
    go_loopw [3] (fun v wr => ∃ k m : Nat, k ≤ Z ∧ m = l.length + 1 + k ∧ Buf W wr 5 v m (B8s (l ++ (128 :: List.replicate k 0)))) (fun v _ => 200 - (match v with | .slice _ n _ => n | _ => 0))
    case atStart => exact ⟨0, l.length + 1, by omega, rfl, hB2⟩
    case round =>
      clear hB2
      obtain ⟨k, m, hk, hm, hB⟩ := hrel
      obtain ⟨a2, c2, rfl, -, -⟩ := hB.slice
      have HB := Lib.hid hB
      have hm1 : m ≤ 130 := by omega
      clear hB
      by_cases hlt : k < Z
      · have hne : ((m : Int) % 64 != 56) = true := by have := Hzlt.out k hlt; simp; omega
        have Hm := Lib.hid hm
        clear hm
        go_wp2_with (first
          | (at_builtin; go_must (refine wpList_buf (.tmp 20) (.tmp 21) 25 rfl rfl elemB rfl (HB.out.alloc _) (news := [.int .u8 0]) rfl (at_new wr _ _) rfl (by decide) (by omega) (by decide) (m + 1) rfl (B8s (l ++ (128 :: List.replicate (k + 1) 0))) (by rw [List.replicate_succ']; simp; rfl) ?_; intro a3 c3 w3 hB3))
          | fail)
        go_roundw
        case rel => exact ⟨k + 1, m + 1, by omega, by have := Hm.out; omega, hB3⟩
        case measure => simp; omega
      · obtain ⟨Hm, Hm64⟩ : Hid (m = l.length + 1 + Z) ∧ Hid (m % 64 = 56) := by
          have h : k = Z := by omega
          subst h; exact ⟨hm, by rw [hm]; exact Hz64.out⟩
        have hne : ((m : Int) % 64 != 56) = false := by have := Hm64.out; simp; omega
        have Hk2 := Lib.hid (show k = zc n by rw [← Hz.out, ← HZ.out]; omega)
        clear hm
        go_wp2_with fail
        go_loopw [3, 4] (fun v i wr => ∃ (j p : Nat) (x : Int), j ≤ 8 ∧ x = 56 - 8 * j ∧ i = .int .i64 x ∧ p = m + j ∧ Buf W wr 5 v p (B8s (l ++ (128 :: (List.replicate k 0 ++ (be8 (8 * n)).take j))))) (fun _ i _ => match i with | .int _ x => (x + 8).toNat | _ => 0)
        case atStart => exact ⟨0, m, 56, by omega, rfl, rfl, rfl, by simpa using HB.out⟩
        case round =>
          clear HB
          obtain ⟨j, p, x, hj, hx, rfl, hp, hB⟩ := hrel
          obtain ⟨a3, c3, rfl, -, -⟩ := hB.slice
          have HB := Lib.hid hB
          have hpb : p ≤ 140 := by omega
          clear hB
          have Hx := Lib.hid hx
          have Hp := Lib.hid hp
          have c8 : wr.cell? ⟨w.heap.size, 8, none⟩ = some (.int .i64 n) := (HB.out.blk HB0.out).cell 8 (by show 8 < 10; decide)
          by_cases hj8 : j < 8
          · have hx0 : 0 ≤ x := by omega
            have hx1 : x ≤ 56 := by omega
            clear hx hp
            have hs := shrI 3 (8 * (n : Int)) x .i64 hx0 (by omega)
            have hw := wrap8 (8 * (n : Int) / 2 ^ x.toNat)
            have hby := Lib.hid (be8_at (8 * n) x j hj8 Hx.out)
            have hts := Lib.hid (pad_more' l k j (8 * n) _ hj8 hby.out)
            clear hby
            generalize lowByte (8 * (n : Int) / 2 ^ x.toNat) = by1 at hw hts
            go_wp2_with (first
              | (at_builtin; go_must (refine wpList_buf (.tmp 27) (.tmp 34) 25 rfl rfl elemB rfl (HB.out.alloc _) (news := [.int .u8 (bv by1)]) rfl (at_new wr _ _) rfl (by simp; rfl) (by omega) (by decide) (p + 1) (by omega) (B8s (l ++ (128 :: (List.replicate k 0 ++ (be8 (8 * n)).take (j + 1))))) hts.out ?_; intro a4 c4 w4 hB4))
              | fail)
            go_roundw
            case rel => exact ⟨j + 1, p + 1, x - 8, by omega, by have := Hx.out; omega, rfl, by have := Hp.out; omega, hB4⟩
            case measure => simp; omega
          · have hx2 : x < 0 := by omega
            obtain rfl : j = 8 := by omega
            have hn0 : ¬ 0 ≤ x := by omega
            clear hx hp hn0 c8
            have HT : ∃ T, T = l ++ padF n ∧ BytesAt wr a3 T ∧ T.length = p ∧ p % 64 = 0 ∧ p ≤ c3 := by
              have h1 := HB.out.at
              have h2 := HB.out.len
              have h3 := HB.out.cap
              have hk3 := Hk2.out
              have hp3 := Hp.out
              have hm3 := Hm64.out
              subst hk3
              refine ⟨_, rfl, h1, ?_, by omega, h3.2.1⟩
              rw [← h2]; simp [padF, be8]
            obtain ⟨T, hT, hTat, hTl, hp64, hpc⟩ := HT
            have HTe := Lib.hid hT
            have HTl := Lib.hid hTl
            have HI8 := Lib.hid (show (Tryd.prog.info? 72).map (·.size) = some 8 by kernel_rfl)
            have Hbel := Lib.hid (Hb0.out.trans (HB.out.bel.mono Hb0.out.size))
            have Hkeys := Lib.hid (KeysAt.mono Hk.out Hbel.out)
            have hWs := Nat.le_trans Hb0.out.size HB.out.size
            obtain ⟨c0, c1, c2, c3', c4, c5, c6, c7, -, -⟩ := hash_cells (HB.out.blk HB0.out)
            have Hp64 := Lib.hid hp64
            clear hT hTl hp64 HB Hx Hp Hm Hm64 Hk2 Hz64 Hzlt Hat HB0
            obtain ⟨Wm, rfl⟩ : ∃ x, x = wr := ⟨wr, rfl⟩
            go_wp2_with fail
            obtain ⟨r0, hr0⟩ : ∃ r0, r0 = R8.mk s0 s1 s2 s3 s4 s5 s6 s7 := ⟨_, rfl⟩
            have HR0 := Lib.hid hr0
            have hBr : Blk (Wm.alloc (.cells #[.int .u32 (uv s0), .int .u32 (uv s1), .int .u32 (uv s2), .int .u32 (uv s3), .int .u32 (uv s4), .int .u32 (uv s5), .int .u32 (uv s6), .int .u32 (uv s7)] 72)) Wm.heap.size r0.cells := by
              rw [hr0]; exact Blk.new Wm (R8.mk s0 s1 s2 s3 s4 s5 s6 s7).cells _
            have hbr : Below Wm.heap.size Wm (Wm.alloc (.cells #[.int .u32 (uv s0), .int .u32 (uv s1), .int .u32 (uv s2), .int .u32 (uv s3), .int .u32 (uv s4), .int .u32 (uv s5), .int .u32 (uv s6), .int .u32 (uv s7)] 72)) := ba Wm _
            generalize World.alloc Wm _ = W3 at hBr hbr
            clear hr0 c0 c1 c2 c3' c4 c5 c6 c7
            go_loopw [3] (fun v wx => ∃ (k : Nat) (a' : Option Addr) (cap' : Nat), 64 * k ≤ p ∧ v = .slice a' (p - 64 * k) cap' ∧ p - 64 * k ≤ cap' ∧ BytesAt Wm a' (T.drop (64 * k)) ∧ Blk wx Wm.heap.size (absN r0 T k).cells ∧ Below Wm.heap.size Wm wx) (fun v _ => sLen v)
            case atStart => exact ⟨0, a3, c3, by omega, rfl, by omega, hTat, hBr, hbr⟩
            case round =>
              clear hTat hBr hbr
              obtain ⟨k, a', cap', hk, rfl, hcap, hat, hBr, hb⟩ := hrel
              by_cases h64 : 0 < p - 64 * k
              · have hge : 64 ≤ p - 64 * k := by have := Hp64.out; omega
                have Hk1 := Lib.hid ((Hkeys.out.mono hb).mono (bd wr))
                have Hat := Lib.hid (((BytesAt.take hat 64).mono hb).mono (bd wr))
                have Hadv := Lib.hid (BytesAt.adv (k := 64) hat (cap := cap') (len := p - 64 * k) (by rw [List.length_drop, HTl.out]) hcap)
                have Hl64 := Lib.hid (show ((T.drop (64 * k)).take 64).length = 64 by rw [List.length_take, List.length_drop, HTl.out]; omega)
                have Hnext := Lib.hid (show absN r0 T (k + 1) = blockF (absN r0 T k) ((T.drop (64 * k)).take 64) from rfl)
                generalize (T.drop (64 * k)).take 64 = bl at Hat Hl64 Hnext
                obtain ⟨r, hr⟩ : ∃ r, r = absN r0 T k := ⟨_, rfl⟩
                rw [← hr] at hBr Hnext
                clear hr hat
                obtain ⟨c0, c1, c2, c3, c4, c5, c6, c7⟩ := r8_cells hBr
                have HBr := Lib.hid hBr
                have hbs := hb.size
                clear hBr
                have hsl0 : ∀ W, (Instr.sliceAt 25 (.slice a' (p - 64 * k) cap') none (some (.int .i64 64)) none).run Tryd.prog W = .ok (.slice a' 64 cap') W := fun W =>
                  run_head (P := Tryd.prog) Tryd.underlying25 size_u8 W a' (p - 64 * k) cap' 64 (by omega)
                have hsl9 : ∀ W, (Instr.sliceAt 25 (.slice a' (p - 64 * k) cap') (some (.int .i64 64)) none none).run Tryd.prog W = .ok (.slice (adv a' cap' 64 1) (p - 64 * k - 64) (cap' - 64)) W := fun W =>
                  run_tail (P := Tryd.prog) Tryd.underlying25 size_u8 W a' (p - 64 * k) cap' 64 hge
                have Hcon := Lib.hid (block_any r a' cap' bl wr.drew Hl64.out Hat.out Hk1.out)
                go_wp2_with fail
                go_region_with ((go_at_call 47; refine Calls.mono Hcon.out ?_; rintro e w' ⟨rfl, hb'⟩; obtain ⟨d0, d1, d2, d3, d4, d5, d6, d7⟩ := r8_cells (HBr.out.drew.below hb' HBr.out.lt); have fz := (HBr.out.drew.below hb' HBr.out.lt).frozen))
                all_goals
                  go_wp2_with fail
                  exact ⟨⟨k + 1, _, _, by omega, by rw [show p - 64 * (k + 1) = p - 64 * k - 64 by omega], by omega, by
                    have h := Hadv.out
                    rw [List.drop_drop] at h
                    exact h, by rw [Hnext.out]; exact r8_set (HBr.out.drew.below hb' HBr.out.lt), set8_below (hb.drew.trans (hb'.mono hb.size)) (Nat.le_refl _)⟩, by simp [sLen]; omega⟩
              · have hkn := Lib.hid (show k = nb T by unfold nb; have := HTl.out; have := Hp64.out; omega)
                have Hput := Lib.hid (show absN r0 T k = putS r0 T by rw [hkn.out]; rfl)
                have hmk : ∀ w, (Instr.makeSlice 25 (.int .i64 0) (.int .i64 32)).run Tryd.prog w = .ok (.slice (some ⟨w.heap.size, 0, none⟩) 0 32) (w.alloc (.cells z32.toArray 5)) := fun w =>
                  run_mk0 elemB w .i64 .i64 32 (by decide) (by decide) rfl z32 rfl
                generalize absN r0 T k = R at hBr Hput
                obtain ⟨d0, d1, d2, d3, d4, d5, d6, d7⟩ := r8_cells (hBr.alloc (.cells z32.toArray 5))
                have hz0 : ¬ 0 < p - 64 * k := h64
                have hp0 : p - 64 * k = 0 := by omega
                rw [hp0]
                have Hb := Lib.hid hb
                clear hkn hat hBr hb hp0 hz0 h64 hk hcap
                go_wp2_with fail
                have hB1 : Buf wr (wr.alloc (.cells z32.toArray 5)) 5 (.slice (some ⟨wr.heap.size, 0, none⟩) 0 32) 0 (B8s (R.bytes.take 0)) := Buf.made wr 5 z32 0 32 (by decide) rfl (by decide)
                obtain ⟨Wn, rfl⟩ : ∃ x, x = wr := ⟨wr, rfl⟩
                clear d0 d1 d2 d3 d4 d5 d6 d7 hmk
                go_loopw [6, 52] (fun v i wx => ∃ k m : Nat, k ≤ 8 ∧ m = 4 * k ∧ i = .int .i64 k ∧ Buf Wn wx 5 v m (B8s (R.bytes.take m))) (fun _ i _ => 8 - (intOf i).toNat)
                case atStart => exact ⟨0, 0, by omega, rfl, rfl, hB1⟩
                case round =>
                  clear hB1
                  obtain ⟨k, m, hk, hm, rfl, hB⟩ := hrel
                  obtain ⟨a5, c5, rfl, -, -⟩ := hB.slice
                  have HB := Lib.hid hB
                  have hm2 : m ≤ 32 := by omega
                  have Hm := Lib.hid hm
                  clear hB hm
                  by_cases hlt : k < 8
                  · have hidx : ∀ W, (Instr.index 72 (.agg R.cells.toArray) (.int .i64 k)).run Tryd.prog W = .ok (.int .u32 (uv (R.l.getD k 0))) W := fun W => by
                      have := run_index_agg (P := Tryd.prog) Tryd.underlying72 size_u32 part_u32 R.cells rfl k hlt W
                      rwa [cells_at R k hlt] at this
                    have Hst := Lib.hid (bytes_step R k hlt)
                    generalize R.l.getD k 0 = x at hidx Hst
                    have h24 : Op.shift .shr .u32 (uv x) .u64 24 = pure (.int .u32 (uv (x >>> 24))) := shr32 0 x 24 (by decide) .u64
                    have h16 : Op.shift .shr .u32 (uv x) .u64 16 = pure (.int .u32 (uv (x >>> 16))) := shr32 0 x 16 (by decide) .u64
                    have h08 : Op.shift .shr .u32 (uv x) .u64 8 = pure (.int .u32 (uv (x >>> 8))) := shr32 0 x 8 (by decide) .u64
                    have hw1 := wrap_u32_u8 (x >>> 24)
                    have hw2 := wrap_u32_u8 (x >>> 16)
                    have hw3 := wrap_u32_u8 (x >>> 8)
                    have hw4 := wrap_u32_u8 x
                    go_wp2_with (first
                      | (at_builtin; go_must (refine wpList_buf (.tmp 55) (.tmp 67) 25 rfl rfl elemB rfl (HB.out.alloc _) (news := [.int .u8 (bv (x >>> 24).toUInt8), .int .u8 (bv (x >>> 16).toUInt8), .int .u8 (bv (x >>> 8).toUInt8), .int .u8 (bv x.toUInt8)]) rfl (at_new wr _ _) rfl (by simp; exact ⟨rfl, rfl, rfl, rfl⟩) (by omega) (by decide) (m + 4) rfl (B8s (R.bytes.take (m + 4))) (by rw [Hm.out, show 4 * k + 4 = 4 * (k + 1) by omega, ← Hst.out]; simp [w4]) ?_; intro a6 c6 w6 hB6))
                      | fail)
                    go_roundw
                    case rel => exact ⟨k + 1, m + 4, by omega, by have := Hm.out; omega, by go_num, hB6⟩
                    case measure => simp [intOf]; omega
                  · go_wp2_with fail
                    go_ret
                    have h8 : k = 8 := by omega
                    have hm8 : m = 32 := by rw [Hm.out, h8]
                    subst hm8
                    refine ⟨a5, c5, ?_, ?_, Hbel.out.trans ((Hb.out.trans (HB.out.bel.mono Hb.out.size)).mono Hbel.out.size)⟩
                    · unfold sumF; rw [← HTe.out, ← HR0.out, ← Hput.out]; rfl
                    · unfold sumF; rw [← HTe.out, ← HR0.out, ← Hput.out]; exact own_base HB.out.own (Nat.le_trans Hbel.out.size Hb.out.size)
theorem sum_core (s : R8) (n : Nat) (a : Option Addr) (ca : Nat) (l : List UInt8) (hn : n ≤ 1125899906842624) (hr : l.length = n % 64) (w : World) (hl : BytesAt w a l) (hk : KeysAt w) :
    Calls Tryd.prog 42 #[.agg (hashC s n a l.length ca).toArray] w (BytesOut w (sumF s l n)) :=
  (sum_own s n a ca l hn hr w hl hk).mono fun _ _ h => h.bytes
end Go.Proofs.YthmcmkdncaccbaaDoor
