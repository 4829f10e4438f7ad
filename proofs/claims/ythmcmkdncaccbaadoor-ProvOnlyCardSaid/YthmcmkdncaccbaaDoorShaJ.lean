/- The walk of the document's Sum. -/
import Derived.Test.YthmcmkdncaccbaaDoorShaI
import Derived.Deep.DeepCutAuto
import Derived.Deep.RegionHeld3
set_option linter.unusedSimpArgs false
set_option linter.unusedVariables false
namespace Go.Proofs.YthmcmkdncaccbaaDoor
open Go.RowKit

theorem Buf.made' (wB w : World) (hb : Below wB.heap.size wB w) (e : TypeId) (cs : List Value) (k cap : Nat) (hk : k ≤ cap) (hl : cs.length = cap) (hm : cap ≤ maxLen) :
    Buf wB (w.alloc (.cells cs.toArray e)) e (.slice (some ⟨w.heap.size, 0, Option.none⟩) k cap) k (cs.take k) :=
  ⟨⟨by rw [List.length_take]; omega, .inr ⟨w.heap.size, cap, cs.toArray, rfl, hb.size, by simp only [World.alloc, Array.getElem?_push, if_true], hk, hm, by simp [hl], by simp⟩⟩, hb.trans ((ba w _).mono hb.size)⟩

theorem quo32 (t : TypeId) (x c : UInt32) (n : Int) (h : n = uv c) (h0 : 0 < c) : binOp .quo t (.int .u32 (uv x)) (.int .u32 n) = pure (.int .u32 (uv (x / c))) := by
  subst h
  show Op.intDiv .quo .u32 (uv x) (uv c) = _
  have hc : 0 < c.toNat := by simpa [UInt32.lt_iff_toNat_lt] using h0
  unfold Op.intDiv
  rw [if_neg (by unfold uv; omega)]
  show pure (Value.int .u32 (IntKind.u32.wrap ((uv x).tdiv (uv c)))) = _
  have e : (uv x).tdiv (uv c) = ((x.toNat / c.toNat : Nat) : Int) := by unfold uv; rw [Int.tdiv_eq_ediv_of_nonneg (by omega)]; simp
  rw [e, wrap_nat32 _ (Nat.lt_of_le_of_lt (Nat.div_le_self _ _) x.toNat_lt)]
  unfold uv; rw [UInt32.toNat_div]
theorem rem32 (t : TypeId) (x c : UInt32) (n : Int) (h : n = uv c) (h0 : 0 < c) : binOp .rem t (.int .u32 (uv x)) (.int .u32 n) = pure (.int .u32 (uv (x % c))) := by
  subst h
  show Op.intDiv .rem .u32 (uv x) (uv c) = _
  have hc : 0 < c.toNat := by simpa [UInt32.lt_iff_toNat_lt] using h0
  unfold Op.intDiv
  rw [if_neg (by unfold uv; omega)]
  show pure (Value.int .u32 ((uv x).tmod (uv c))) = _
  have e : (uv x).tmod (uv c) = ((x.toNat % c.toNat : Nat) : Int) := by unfold uv; rw [Int.tmod_eq_emod_of_nonneg (by omega)]; simp
  rw [e]; unfold uv; rw [UInt32.toNat_mod]
@[go_sem high] theorem quo24 (t : TypeId) (x : UInt32) : binOp .quo t (.int .u32 (uv x)) (.int .u32 16777216) = pure (.int .u32 (uv (x >>> 24))) := by
  exact (quo32 t x 16777216 16777216 rfl (by decide)).trans (by congr 3; exact UInt32.toNat_inj.1 (by simp [UInt32.toNat_div, UInt32.toNat_shiftRight, Nat.shiftRight_eq_div_pow]))
@[go_sem high] theorem quo16 (t : TypeId) (x : UInt32) : binOp .quo t (.int .u32 (uv x)) (.int .u32 65536) = pure (.int .u32 (uv (x >>> 16))) := by
  exact (quo32 t x 65536 65536 rfl (by decide)).trans (by congr 3; exact UInt32.toNat_inj.1 (by simp [UInt32.toNat_div, UInt32.toNat_shiftRight, Nat.shiftRight_eq_div_pow]))
@[go_sem high] theorem quo8 (t : TypeId) (x : UInt32) : binOp .quo t (.int .u32 (uv x)) (.int .u32 256) = pure (.int .u32 (uv (x >>> 8))) := by
  exact (quo32 t x 256 256 rfl (by decide)).trans (by congr 3; exact UInt32.toNat_inj.1 (by simp [UInt32.toNat_div, UInt32.toNat_shiftRight, Nat.shiftRight_eq_div_pow]))
@[go_sem high] theorem rem8 (t : TypeId) (x : UInt32) : binOp .rem t (.int .u32 (uv x)) (.int .u32 256) = pure (.int .u32 (uv (x % 256))) := rem32 t x 256 _ rfl (by decide)

theorem low8 (x : UInt32) : (x % 256).toUInt8 = x.toUInt8 := UInt8.toNat_inj.1 (by simp)

set_option maxRecDepth 100000 in
set_option maxHeartbeats 1000000 in
theorem refSum_own (s : R8) (n : Nat) (a : Option Addr) (ca : Nat) (l : List UInt8) (hn : n ≤ 1125899906842624) (hr : l.length = n % 64) (w : World) (hl : BytesAt w a l) :
    Calls Tryd.prog 43 #[.agg (hashC s n a l.length ca).toArray] w (OwnOut w (sumF s l n)) := by
  have Hl := Lib.hid hl
  have Hr := Lib.hid hr
  have hr64 : l.length < 64 := by omega
  clear hl hr
  obtain ⟨s0, s1, s2, s3, s4, s5, s6, s7⟩ := s
  go_enter Tryd.func43, Tryd.ntmps43
  go_wp2_with fail
  generalize hW : World.alloc w _ = W
  have hB0 : Blk W w.heap.size (hashC ⟨s0, s1, s2, s3, s4, s5, s6, s7⟩ n a l.length ca) := by rw [← hW]; exact Blk.new _ _ _
  have hb0 : Below w.heap.size w W := by rw [← hW]; exact ba _ _
  clear hW
  have HB0 := Lib.hid hB0
  have Hb0 := Lib.hid hb0
  have Hat := Lib.hid (Hl.out.mono hb0)
  have hwW : w.heap.size < W.heap.size := hB0.lt
  clear hb0
  obtain ⟨P, hP⟩ : ∃ P, P = padF n := ⟨_, rfl⟩
  have HP := Lib.hid hP
  have hPl : P.length ≤ 100 := by rw [hP, padF_len]; unfold zc; omega
  have Hpad := Lib.hid (pad_any n hn)
  rw [← hP] at Hpad
  clear hP
  go_cut [3] (fun v wx => ∃ m, m = l.length + P.length ∧ Buf W wx 5 v m (B8s (l ++ P)))
  case first =>
    have c8 := HB0.out.cell 8 (by show 8 < 10; decide)
    have c9 := HB0.out.cell 9 (by show 9 < 10; decide)
    have e8 := (HB0.out.alloc (.cells #[] 5)).cell 8 (by show 8 < 10; decide)
    have e9 := (HB0.out.alloc (.cells #[] 5)).cell 9 (by show 9 < 10; decide)
    go_region_law (first
      | (refine step_buf (.tmp 9) (.tmp 11) 25 rfl rfl elemB rfl (Buf.made W 5 [] 0 0 (by decide) rfl (by decide)).drew (sp := a) (m := l.length) (news := B8s l) rfl (Hat.out.mono ((ba W _).trans ((bd _).mono (by simp)))) (by simp) (bytes_one l) (by omega) (by decide) l.length (by omega) (B8s l) rfl ?_; intro a1 c1 w1 hB1; have f8 := (hB1.blk HB0.out).cell 8 (by show 8 < 10; decide); have f9 := (hB1.blk HB0.out).cell 9 (by show 9 < 10; decide))
      | (refine step_buf (.tmp 12) (.tmp 15) 25 rfl rfl elemB rfl (hB1.later hb2) (sp := a2) (m := P.length) (news := B8s P) rfl hat2 (by simp) (bytes_one P) (by omega) (by decide) (l.length + P.length) rfl (B8s (l ++ P)) (by simp) ?_; intro a3 c3 w3 hB3)
      | (go_simp; go_at_call 48; refine Calls.mono (Hpad.out _) ?_; rintro e w' ⟨a2, c2, rfl, hat2, hb2⟩))
    all_goals
      go_wp2_with fail
      go_meet
      exact ⟨_, rfl, hB3⟩
  case rest =>
    obtain ⟨p, hp, hB⟩ := hcut
    obtain ⟨a3, c3, rfl, -, -⟩ := hB.slice
    have HT : ∃ T, T = l ++ padF n ∧ BytesAt wc a3 T ∧ T.length = p ∧ p % 64 = 0 ∧ p ≤ c3 := by
      have h1 := hB.at
      have h2 := hB.len
      have h3 := hB.cap
      have h4 := Hr.out
      rw [HP.out] at h1 h2 hp
      refine ⟨_, rfl, h1, by simpa using h2, ?_, h3.2.1⟩
      rw [hp, h4, padF_len]; unfold zc; omega
    obtain ⟨T, hT, hTat, hTl, hp64, hpc⟩ := HT
    have hp200 : p ≤ 200 := by omega
    have HTe := Lib.hid hT
    have HTl := Lib.hid hTl
    have Hp64 := Lib.hid hp64
    have Hbel := Lib.hid (Hb0.out.trans (hB.bel.mono Hb0.out.size))
    obtain ⟨c0, c1, c2, c3', c4, c5, c6, c7, -, -⟩ := hash_cells (hB.blk HB0.out)
    obtain ⟨Wm, rfl⟩ : ∃ x, x = wc := ⟨wc, rfl⟩
    clear hT hTl hp64 hB hp HB0 Hat Hpad Hl HP hPl hwW
    go_wp2_with (first
      | (go_at_call 49; go_must (refine (keys_any _).mono ?_; rintro e w3 ⟨rfl, rfl⟩))
      | fail)
    obtain ⟨r0, hr0⟩ : ∃ r0, r0 = R8.mk s0 s1 s2 s3 s4 s5 s6 s7 := ⟨_, rfl⟩
    have HR0 := Lib.hid hr0
    have hBr : Blk ((Wm.alloc (.cells #[.int .u32 (uv s0), .int .u32 (uv s1), .int .u32 (uv s2), .int .u32 (uv s3), .int .u32 (uv s4), .int .u32 (uv s5), .int .u32 (uv s6), .int .u32 (uv s7)] 72)).alloc (.cells (W32s shaK).toArray 71)) Wm.heap.size r0.cells := by
      rw [hr0]; exact (Blk.new Wm (R8.mk s0 s1 s2 s3 s4 s5 s6 s7).cells _).alloc _
    have hbr : Below Wm.heap.size Wm ((Wm.alloc (.cells #[.int .u32 (uv s0), .int .u32 (uv s1), .int .u32 (uv s2), .int .u32 (uv s3), .int .u32 (uv s4), .int .u32 (uv s5), .int .u32 (uv s6), .int .u32 (uv s7)] 72)).alloc (.cells (W32s shaK).toArray 71)) := (ba Wm _).trans ((ba _ _).mono (by simp))
    have hKk : Blk ((Wm.alloc (.cells #[.int .u32 (uv s0), .int .u32 (uv s1), .int .u32 (uv s2), .int .u32 (uv s3), .int .u32 (uv s4), .int .u32 (uv s5), .int .u32 (uv s6), .int .u32 (uv s7)] 72)).alloc (.cells (W32s shaK).toArray 71)) (Wm.heap.size + 1) (W32s shaK) := by
      have := Blk.new (Wm.alloc (.cells #[.int .u32 (uv s0), .int .u32 (uv s1), .int .u32 (uv s2), .int .u32 (uv s3), .int .u32 (uv s4), .int .u32 (uv s5), .int .u32 (uv s6), .int .u32 (uv s7)] 72)) (W32s shaK) 71
      rwa [World.size_alloc] at this
    generalize World.alloc (World.alloc Wm _) _ = W3 at hBr hbr hKk
    clear hr0 c0 c1 c2 c3' c4 c5 c6 c7
    go_loopw [6] (fun v wx => ∃ k t : Nat, t = 64 * k ∧ t ≤ p ∧ v = .int .i64 (t : Int) ∧ Blk wx Wm.heap.size (absN r0 T k).cells ∧ Blk wx (Wm.heap.size + 1) (W32s shaK) ∧ Below Wm.heap.size Wm wx) (fun v _ => p - (intOf v).toNat)
    case atStart => exact ⟨0, 0, rfl, by omega, rfl, hBr, hKk, hbr⟩
    case round =>
      clear hBr hbr hKk
      obtain ⟨k, t, ht, htp, rfl, hBr, hKk, hb⟩ := hrel
      by_cases h64 : t < p
      · have hge : t + 64 ≤ p := by have := Hp64.out; omega
        have Hnext := Lib.hid (show absN r0 T (k + 1) = blockF (absN r0 T k) ((T.drop t).take 64) by rw [ht]; rfl)
        have Ht := Lib.hid ht
        clear ht
        obtain ⟨r, hr⟩ : ∃ r, r = absN r0 T k := ⟨_, rfl⟩
        rw [← hr] at hBr Hnext
        clear hr
        obtain ⟨c0, c1, c2, c3', c4, c5, c6, c7⟩ := r8_cells hBr
        have Hcon := Lib.hid (step_any r a3 (some ⟨Wm.heap.size + 1, 0, none⟩) t p c3 64 T wr HTl.out.symm (by unfold maxLen; omega) hge (hTat.mono hb) hKk.at)
        have HBr := Lib.hid hBr
        have HK := Lib.hid hKk
        have hbs := hb.size
        clear hBr hKk
        go_wp2_with (first
          | (go_at_call 50; go_must (refine Calls.mono Hcon.out ?_; rintro e w' ⟨rfl, hb'⟩; obtain ⟨d0, d1, d2, d3, d4, d5, d6, d7⟩ := r8_cells (HBr.out.below hb' HBr.out.lt); have fz := (HBr.out.below hb' HBr.out.lt).frozen))
          | fail)
        exact ⟨⟨k + 1, t + 64, by have := Ht.out; omega, by omega, by go_num, by rw [Hnext.out]; exact r8_set (HBr.out.below hb' HBr.out.lt), set8_other (HK.out.below hb' HK.out.lt) (by omega), set8_below (hb.trans (hb'.mono hb.size)) (Nat.le_refl _)⟩, by simp [intOf]; omega⟩
      · have hkn := Lib.hid (show k = nb T by unfold nb; have := HTl.out; have := Hp64.out; omega)
        have Hput := Lib.hid (show absN r0 T k = putS r0 T by rw [hkn.out]; rfl)
        generalize absN r0 T k = R at hBr Hput
        have HBr := Lib.hid hBr
        have Hb := Lib.hid hb
        clear hkn hBr hb hKk ht
        go_wp2_with fail
        have hB1 : Buf wr wr 5 (.slice none 0 0) 0 (B8s (R.bytes.take 0)) := Buf.nil wr _
        obtain ⟨Wn, rfl⟩ : ∃ x, x = wr := ⟨wr, rfl⟩
        go_loopw [7, 8] (fun v i wx => ∃ k m : Nat, k ≤ 8 ∧ m = 4 * k ∧ i = .int .i64 k ∧ Buf Wn wx 5 v m (B8s (R.bytes.take m))) (fun _ i _ => 8 - (intOf i).toNat)
        case atStart => exact ⟨0, 0, by omega, rfl, rfl, hB1⟩
        case round =>
          clear hB1
          obtain ⟨k, m, hk, hm, rfl, hB⟩ := hrel
          obtain ⟨a5, c5, rfl, -, -⟩ := hB.slice
          have HB := Lib.hid hB
          have hm2 : m ≤ 32 := by omega
          have Hm := Lib.hid hm
          clear hB hm
          by_cases hlt : k < 8
          · have hcell := (HB.out.blk HBr.out).cell k hlt
            have Hc := Lib.hid (show ∀ w', Blk w' Wm.heap.size R.cells → w'.cell? ⟨Wm.heap.size, k, none⟩ = some (.int .u32 (uv (R.l.getD k 0))) from fun w' h => by rw [← cells_at R k hlt]; exact h.cell k hlt)
            rw [cells_at R k hlt] at hcell
            have Hst := Lib.hid (bytes_step R k hlt)
            generalize R.l.getD k 0 = x at hcell Hst Hc
            have hx := uv_lt x
            have hw1 := wrap_u32_u8 (x >>> 24)
            have hw2 := wrap_u32_u8 ((x >>> 16) % 256)
            have hw3 := wrap_u32_u8 ((x >>> 8) % 256)
            have hw4 := wrap_u32_u8 (x % 256)
            go_wp2_with fail
            go_region_held3 (fun w' => w'.cell? ⟨Wm.heap.size, k, none⟩ = some (.int .u32 (uv x)))
              (first
                | go_keep
                | (exact Hc.out _ ((HB.out.alloc _).blk HBr.out))
                | (exact Hc.out _ (((HB.out.alloc _).drew).blk HBr.out))
                | (exact Hc.out _ (hB6.blk HBr.out)))
              ((refine step_buf (.tmp 35) (.tmp 58) 25 rfl rfl elemB rfl (HB.out.alloc _).drew (news := [.int .u8 (bv (x >>> 24).toUInt8), .int .u8 (bv ((x >>> 16) % 256).toUInt8), .int .u8 (bv ((x >>> 8) % 256).toUInt8), .int .u8 (bv (x % 256).toUInt8)]) rfl ((at_new wr _ _).mono (bd _)) rfl (by simp; exact ⟨rfl, rfl, rfl, rfl⟩) (by omega) (by decide) (m + 4) rfl (B8s (R.bytes.take (m + 4))) (by rw [Hm.out, show 4 * k + 4 = 4 * (k + 1) by omega, ← Hst.out]; simp [w4, low8]) ?_; intro a6 c6 w6 hB6))
            go_wp2_with fail
            go_roundw
            case rel => exact ⟨k + 1, m + 4, by omega, by have := Hm.out; omega, by go_num, hB6⟩
            case measure => simp [intOf]; omega
          · go_wp2_with fail
            go_ret
            have h8 : k = 8 := by omega
            have hm8 : m = 32 := by rw [Hm.out, h8]
            subst hm8
            refine ⟨a5, c5, ?_, ?_, Hbel.out.trans ((Hb.out.trans (HB.out.bel.mono Hb.out.size)).mono Hbel.out.size)⟩
            · unfold sumF; rw [← HTe.out, ← HR0.out, ← Hput.out]; rfl
            · unfold sumF; rw [← HTe.out, ← HR0.out, ← Hput.out]; exact own_base HB.out.own (Nat.le_trans Hbel.out.size Hb.out.size)
theorem refSum_core (s : R8) (n : Nat) (a : Option Addr) (ca : Nat) (l : List UInt8) (hn : n ≤ 1125899906842624) (hr : l.length = n % 64) (w : World) (hl : BytesAt w a l) :
    Calls Tryd.prog 43 #[.agg (hashC s n a l.length ca).toArray] w (BytesOut w (sumF s l n)) :=
  (refSum_own s n a ca l hn hr w hl).mono fun _ _ h => h.bytes
end Go.Proofs.YthmcmkdncaccbaaDoor
