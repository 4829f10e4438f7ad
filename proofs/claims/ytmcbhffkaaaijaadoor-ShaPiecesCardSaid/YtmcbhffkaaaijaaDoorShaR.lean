/- The walk of the law ShaGoes. -/
import Derived.Test.YtmcbhffkaaaijaaDoorShaQ
import Derived.Deep.RegionHeld3
set_option linter.unusedSimpArgs false
set_option linter.unusedVariables false
namespace Go.Proofs.YtmcbhffkaaaijaaDoor
open Go.RowKit

theorem hset10 {w : World} {b : Nat} {r r' : R8} {n n' : Int} {a a' : Option Addr} {len len' cap cap' : Nat} (h : Blk w b (hashC r n a len cap)) :
    Blk ((((((((((w.setCell ⟨b, 0, none⟩ (.int .u32 (uv r'.a))).setCell ⟨b, 1, none⟩ (.int .u32 (uv r'.b))).setCell ⟨b, 2, none⟩ (.int .u32 (uv r'.c))).setCell ⟨b, 3, none⟩ (.int .u32 (uv r'.d))).setCell ⟨b, 4, none⟩ (.int .u32 (uv r'.e))).setCell ⟨b, 5, none⟩ (.int .u32 (uv r'.f))).setCell ⟨b, 6, none⟩ (.int .u32 (uv r'.g))).setCell ⟨b, 7, none⟩ (.int .u32 (uv r'.h))).setCell ⟨b, 8, none⟩ (.int .i64 n')).setCell ⟨b, 9, none⟩ (.slice a' len' cap')) b (hashC r' n' a' len' cap') :=
  (((((((((h.set 0 _).set 1 _).set 2 _).set 3 _).set 4 _).set 5 _).set 6 _).set 7 _).set 8 _).set 9 _
theorem hset10_below {w0 w : World} {B b : Nat} {v0 v1 v2 v3 v4 v5 v6 v7 v8 v9 : Value} (h : Below B w0 w) (hb : B ≤ b) :
    Below B w0 ((((((((((w.setCell ⟨b, 0, none⟩ v0).setCell ⟨b, 1, none⟩ v1).setCell ⟨b, 2, none⟩ v2).setCell ⟨b, 3, none⟩ v3).setCell ⟨b, 4, none⟩ v4).setCell ⟨b, 5, none⟩ v5).setCell ⟨b, 6, none⟩ v6).setCell ⟨b, 7, none⟩ v7).setCell ⟨b, 8, none⟩ v8).setCell ⟨b, 9, none⟩ v9) :=
  (((((((((h.setCell hb _).setCell hb _).setCell hb _).setCell hb _).setCell hb _).setCell hb _).setCell hb _).setCell hb _).setCell hb _).setCell hb _
theorem absN_shift (s : R8) (l : List UInt8) : ∀ k, absN (blockF s (l.take 64)) (l.drop 64) k = absN s l (k + 1)
  | 0 => by simp [absN]
  | k + 1 => by
    show blockF (absN (blockF s (l.take 64)) (l.drop 64) k) (((l.drop 64).drop (64 * k)).take 64) = blockF (absN s l (k + 1)) ((l.drop (64 * (k + 1))).take 64)
    rw [absN_shift s l k, List.drop_drop, show 64 + 64 * k = 64 * (k + 1) by omega]
theorem putS_shift (s : R8) (l : List UInt8) (h : 64 ≤ l.length) : putS (blockF s (l.take 64)) (l.drop 64) = putS s l := by
  unfold putS
  rw [show nb l = nb (l.drop 64) + 1 by unfold nb; rw [List.length_drop]; omega, ← absN_shift]
theorem putR_shift (l : List UInt8) (h : 64 ≤ l.length) : putR (l.drop 64) = putR l := by
  unfold putR
  rw [show nb l = nb (l.drop 64) + 1 by unfold nb; rw [List.length_drop]; omega, List.drop_drop]
  congr 1; omega
theorem putS_one (s : R8) (l : List UInt8) (h : l.length = 64) : putS s l = blockF s l := by
  unfold putS; rw [show nb l = 1 by unfold nb; omega]
  simp [absN, List.take_of_length_le (Nat.le_of_eq h)]
theorem putR_one (l : List UInt8) (h : l.length = 64) : putR l = [] := by
  unfold putR; rw [show nb l = 1 by unfold nb; omega]
  exact List.drop_of_length_le (by omega)
/-- a digest of these words, count and rest comes back -/
def HashIs (w : World) (R : R8) (N : Int) (ln : Nat) (q : List UInt8) (e : Ending) (w' : World) : Prop := ∃ a c, e = .returned (.agg #[.int .u32 (uv R.a), .int .u32 (uv R.b), .int .u32 (uv R.c), .int .u32 (uv R.d), .int .u32 (uv R.e), .int .u32 (uv R.f), .int .u32 (uv R.g), .int .u32 (uv R.h), .int .i64 N, .slice a ln c]) ∧ BytesAt w' a q ∧ Below w.heap.size w w'

/-- a row of bytes that lies in another block -/
def AtNot (b : Nat) (w : World) (a : Option Addr) (xs : List Value) : Prop := xs = [] ∨ ∃ g off, a = some ⟨g, off, none⟩ ∧ g ≠ b ∧ g < w.heap.size ∧ ∀ i, i < xs.length → w.cell? ⟨g, off + i, none⟩ = some (xs.getD i undef)
theorem AtNot.at {b : Nat} {w : World} {a : Option Addr} {xs : List Value} (h : AtNot b w a xs) : At w a xs := by
  rcases h with h | ⟨g, off, h1, h2, h3, h4⟩
  · exact .inl h
  · exact .inr ⟨g, off, h1, h3, h4⟩
theorem AtNot.set {b i : Nat} {w : World} {a : Option Addr} {xs : List Value} (h : AtNot b w a xs) (v : Value) : AtNot b (w.setCell ⟨b, i, none⟩ v) a xs := by
  rcases h with h | ⟨g, off, h1, h2, h3, h4⟩
  · exact .inl h
  · refine .inr ⟨g, off, h1, h2, by simpa using h3, fun j hj => ?_⟩
    rw [← h4 j hj]
    exact World.cell?_of_block (Below.heap_setCell _ _ _ _ h2)
theorem at_set10 {w : World} {b : Nat} {a : Option Addr} {xs : List Value} {v0 v1 v2 v3 v4 v5 v6 v7 v8 v9 : Value} (h : AtNot b w a xs) :
    AtNot b ((((((((((w.setCell ⟨b, 0, none⟩ v0).setCell ⟨b, 1, none⟩ v1).setCell ⟨b, 2, none⟩ v2).setCell ⟨b, 3, none⟩ v3).setCell ⟨b, 4, none⟩ v4).setCell ⟨b, 5, none⟩ v5).setCell ⟨b, 6, none⟩ v6).setCell ⟨b, 7, none⟩ v7).setCell ⟨b, 8, none⟩ v8).setCell ⟨b, 9, none⟩ v9) a xs :=
  (((((((((h.set _).set _).set _).set _).set _).set _).set _).set _).set _).set _
theorem at_apart {w : World} {b : Nat} {s : R8} {n : Int} {a' : Option Addr} {len cap : Nat} {a : Option Addr} {q : List UInt8} (h : BytesAt w a q) (hB : Blk w b (hashC s n a' len cap)) : AtNot b w a (B8s q) := by
  rcases h with h | ⟨g, off, h1, h2, h3⟩
  · exact .inl h
  · by_cases hq : (B8s q) = []
    · exact .inl hq
    · refine .inr ⟨g, off, h1, ?_, h2, h3⟩
      rintro rfl
      have hl : 0 < (B8s q).length := by
        rcases Nat.eq_zero_or_pos (B8s q).length with h | h
        · exact (hq (List.eq_nil_of_length_eq_zero h)).elim
        · exact h
      have h0 := h3 0 hl
      have hq' : 0 < q.length := by simpa using hl
      rw [Nat.add_zero, getD_B8 q 0 hq'] at h0
      by_cases ho : off < 10
      · have hc := hB.cell off (by simpa [R8.cells] using ho)
        rw [hc] at h0
        have : off = 0 ∨ off = 1 ∨ off = 2 ∨ off = 3 ∨ off = 4 ∨ off = 5 ∨ off = 6 ∨ off = 7 ∨ off = 8 ∨ off = 9 := by omega
        rcases this with rfl | rfl | rfl | rfl | rfl | rfl | rfl | rfl | rfl | rfl <;> simp [R8.cells] at h0
      · obtain ⟨T, hT⟩ := hB
        have : w.cell? ⟨g, off, none⟩ = none := by simp [World.cell?, hT, R8.cells]; omega
        rw [this] at h0; cases h0

theorem goes1 (s : R8) (n : Int) (b : Option Addr) (lb cb : Nat) (l : List UInt8) (R : R8) (hn0 : 0 ≤ n) (hn1 : n ≤ 65535) (hb : lb = l.length) (h64 : 64 ≤ lb) (h500 : lb ≤ 500) (hR : R = blockF s (l.take 64)) :
    ∀ w, BytesAt w b l → KeysAt w → Calls Tryd.prog 23 #[.agg #[.int .u32 (uv s.a), .int .u32 (uv s.b), .int .u32 (uv s.c), .int .u32 (uv s.d), .int .u32 (uv s.e), .int .u32 (uv s.f), .int .u32 (uv s.g), .int .u32 (uv s.h), .int .i64 (64 * n), .slice none 0 0], .slice b 64 cb] w (HashIs w R (64 * n + 64) 0 []) := by
  intro w h1 h2
  have hl64 : (l.take 64).length = 64 := by rw [List.length_take]; omega
  refine (put_any s (64 * n) none b 0 0 64 cb [] (l.take 64) (by omega) (by omega) rfl hl64.symm (by omega) (by omega) w (at_none w) (BytesAt.take h1 64) h2).mono fun e w' ⟨a, c, h3, h4, h5⟩ => ?_
  rw [List.nil_append, putS_one _ _ hl64, putR_one _ hl64, ← hR] at h3
  rw [List.nil_append, putR_one _ hl64] at h4
  exact ⟨a, c, h3, h4, h5⟩
theorem goes2 (s : R8) (n : Int) (b bb : Option Addr) (lb cb : Nat) (l q : List UInt8) (R T : R8) (hn0 : 0 ≤ n) (hn1 : n ≤ 65535) (hb : lb = l.length) (h64 : 64 ≤ lb) (h500 : lb ≤ 500) (hR : R = blockF s (l.take 64)) (hT : T = putS s l) (hq : q = putR l) :
    ∀ (a : Option Addr) (c : Nat) (w : World), BytesAt w bb (l.drop 64) → KeysAt w → Calls Tryd.prog 23 #[.agg #[.int .u32 (uv R.a), .int .u32 (uv R.b), .int .u32 (uv R.c), .int .u32 (uv R.d), .int .u32 (uv R.e), .int .u32 (uv R.f), .int .u32 (uv R.g), .int .u32 (uv R.h), .int .i64 (64 * n + 64), .slice a 0 c], .slice bb (lb - 64) (cb - 64)] w (HashIs w T (64 * n + lb) q.length q) := by
  intro a c w h1 h2
  have hld : (l.drop 64).length = lb - 64 := by rw [List.length_drop]; omega
  refine (put_any R (64 * n + 64) a bb 0 c (lb - 64) (cb - 64) [] (l.drop 64) (by omega) (by omega) rfl hld.symm (by omega) (by omega) w (.inl rfl) h1 h2).mono fun e w' ⟨a, c, h3, h4, h5⟩ => ?_
  rw [List.nil_append, hR, putS_shift s l (by omega), putR_shift l (by omega), ← hT, ← hq, show 64 * n + 64 + ((lb - 64 : Nat) : Int) = 64 * n + lb by omega] at h3
  rw [List.nil_append, putR_shift l (by omega), ← hq] at h4
  exact ⟨a, c, h3, h4, h5⟩
theorem goes3 (s : R8) (n : Int) (b : Option Addr) (lb cb : Nat) (l q : List UInt8) (T : R8) (hn0 : 0 ≤ n) (hn1 : n ≤ 65535) (hb : lb = l.length) (h500 : lb ≤ 500) (hT : T = putS s l) (hq : q = putR l) :
    ∀ w, BytesAt w b l → KeysAt w → Calls Tryd.prog 23 #[.agg #[.int .u32 (uv s.a), .int .u32 (uv s.b), .int .u32 (uv s.c), .int .u32 (uv s.d), .int .u32 (uv s.e), .int .u32 (uv s.f), .int .u32 (uv s.g), .int .u32 (uv s.h), .int .i64 (64 * n), .slice none 0 0], .slice b lb cb] w (HashIs w T (64 * n + lb) q.length q) := by
  intro w h1 h2
  refine (put_any s (64 * n) none b 0 0 lb cb [] l (by omega) (by omega) rfl hb (by omega) (by omega) w (at_none w) h1 h2).mono fun e w' ⟨a, c, h3, h4, h5⟩ => ?_
  rw [List.nil_append, ← hT, ← hq] at h3
  rw [List.nil_append, ← hq] at h4
  exact ⟨a, c, h3, h4, h5⟩
theorem goes4 (s : R8) (b : Option Addr) (lb cb : Nat) (l : List UInt8) (R : R8) (hb : lb = l.length) (h64 : 64 ≤ lb) (hR : R = blockF s (l.take 64)) :
    ∀ w, BytesAt w b l → KeysAt w → Calls Tryd.prog 14 #[.agg s.cells.toArray, .slice b 64 cb] w fun e w' => e = .returned (.tuple #[.agg R.cells.toArray, .int .i64 0]) ∧ Below w.heap.size w w' := by
  intro w h1 h2
  have hl64 : (l.take 64).length = 64 := by rw [List.length_take]; omega
  rw [hR]; exact block_any s b cb (l.take 64) w hl64 (BytesAt.take h1 64) h2
theorem goes5 (b bb : Option Addr) (lb cb : Nat) (l : List UInt8) (hb : lb = l.length) (hcb : lb ≤ cb) (hbb : bb = adv b cb 64 1) : ∀ w, BytesAt w b l → BytesAt w bb (l.drop 64) := by
  intro w h
  rw [hbb]; exact BytesAt.adv h hb.symm hcb

set_option maxRecDepth 100000 in
set_option maxHeartbeats 8000000 in
theorem shaGoes_any (hsh : ShownOK) (s : R8) (n : Int) (b : Option Addr) (lb cb : Nat) (l : List UInt8) (w : World) (hn0 : 0 ≤ n) (hn1 : n ≤ 65535) (hb : lb = l.length) (hcb : lb ≤ cb) (hlb : cb ≤ maxLen) (hl : BytesAt w b l) (hk : KeysAt w) :
    Calls Tryd.prog 9 #[.agg s.cells.toArray, .int .u16 n, .slice b lb cb] w (BoolOut w true) := by
  have Hsh := Lib.hid hsh
  have Hl := Lib.hid hl
  have Hk := Lib.hid hk
  have Hb := Lib.hid hb
  unfold maxLen at hlb
  clear hsh hl hk hb
  by_cases h1 : lb < 64
  · have hd : (lb : Int) < 64 := by omega
    go_enter Tryd.func9, Tryd.ntmps9
    go_wp2_with fail
    refine (Hsh.out _ (Hk.out.mono (ba w _))).mono ?_; rintro e w1 ⟨rfl, hb1⟩
    go_wp2_with fail
    go_ret
    exact ⟨rfl, bt (ba w _) hb1⟩
  · have hd : ¬ (lb : Int) < 64 := by omega
    by_cases h2 : 500 < lb
    · have hd2 : (500 : Int) < lb := by omega
      go_enter Tryd.func9, Tryd.ntmps9
      go_wp2_with fail
      refine (Hsh.out _ (Hk.out.mono (ba w _))).mono ?_; rintro e w1 ⟨rfl, hb1⟩
      go_wp2_with fail
      go_ret
      exact ⟨rfl, bt (ba w _) hb1⟩
    · have hd2 : ¬ (500 : Int) < lb := by omega
      obtain ⟨R, hR⟩ : ∃ R, R = blockF s (l.take 64) := ⟨_, rfl⟩
      obtain ⟨T, hT⟩ : ∃ T, T = putS s l := ⟨_, rfl⟩
      obtain ⟨q, hq⟩ : ∃ q, q = putR l := ⟨_, rfl⟩
      obtain ⟨bb, hbb⟩ : ∃ bb, bb = adv b cb 64 1 := ⟨_, rfl⟩
      have HP1 := Lib.hid (goes1 s n b lb cb l R hn0 hn1 Hb.out (by omega) (by omega) hR)
      have HP2 := Lib.hid (goes2 s n b bb lb cb l q R T hn0 hn1 Hb.out (by omega) (by omega) hR hT hq)
      have HP3 := Lib.hid (goes3 s n b lb cb l q T hn0 hn1 Hb.out (by omega) hT hq)
      have HB1 := Lib.hid (goes4 s b lb cb l R Hb.out (by omega) hR)
      have Hadv := Lib.hid (goes5 b bb lb cb l Hb.out hcb hbb)
      have hsl1 : ∀ W, (Instr.sliceAt 22 (.slice b lb cb) none (some (.int .i64 64)) none).run Tryd.prog W = .ok (.slice b 64 cb) W := fun W =>
        run_head (P := Tryd.prog) Tryd.underlying22 size_u8 W b lb cb 64 (by omega)
      have hsl2 : ∀ W, (Instr.sliceAt 22 (.slice b lb cb) (some (.int .i64 64)) none none).run Tryd.prog W = .ok (.slice bb (lb - 64) (cb - 64)) W := fun W => by
        rw [hbb]; exact run_tail (P := Tryd.prog) Tryd.underlying22 size_u8 W b lb cb 64 (by omega)
      clear hR hT hq hbb
      go_enter Tryd.func9, Tryd.ntmps9
      go_wp2_with fail
      have HA0 := Lib.hid (Blk.new w s.cells 28)
      refine (Hsh.out _ (Hk.out.mono (ba w _))).mono ?_; rintro e w1 ⟨rfl, hb1⟩
      have HA1 := Lib.hid (Blk.onto hb1 HA0.out)
      have Hb1 := Lib.hid (bt (ba w _) hb1)
      clear hb1 HA0
      obtain ⟨c0, c1, c2, c3, c4, c5, c6, c7⟩ := r8_cells HA1.out
      go_wp2_with fail
      clear c0 c1 c2 c3 c4 c5 c6 c7
      generalize hg : World.alloc w1 _ = W
      have HA := Lib.hid (show Blk W w.heap.size s.cells by rw [← hg]; exact HA1.out.alloc _)
      have HH := Lib.hid (show Blk W w1.heap.size (hashC s (64 * n) none 0 0) by rw [← hg]; exact Blk.new w1 (hashC s (64 * n) none 0 0) _)
      have HbW := Lib.hid (show Below w.heap.size w W by rw [← hg]; exact bt Hb1.out (ba w1 _))
      have HlW := Lib.hid (Hl.out.mono HbW.out)
      have HkW := Lib.hid (Hk.out.mono HbW.out)
      clear hg HA1 Hb1
      go_cut [9] (fun v wx => ∃ (g : Nat) (a : Option Addr) (c : Nat), v = .pointer (some ⟨g, 0, none⟩) ∧ Blk wx g (hashC R (64 * n + 64) a 0 c) ∧ Below W.heap.size W wx)
      case first =>
        clear HP2 HP3 HB1 Hadv hsl2
        obtain ⟨c0, c1, c2, c3, c4, c5, c6, c7, c8, c9⟩ := hash_cells HH.out
        obtain ⟨d0, d1, d2, d3, d4, d5, d6, d7, d8, d9⟩ := hash_cells (HH.out.alloc (.cells #[.int .u32 0, .int .u32 0, .int .u32 0, .int .u32 0, .int .u32 0, .int .u32 0, .int .u32 0, .int .u32 0, .int .i64 0, .slice none 0 0] 36))
        have HatW := HlW
        go_region_with (first
          | (go_at_call 23; refine (Calls.mono (HP1.out _ (by repeat (first | (with_reducible exact HlW.out) | (with_reducible exact HatW.out) | (with_reducible refine At.mono ?_ (bd _)) | (with_reducible refine At.mono ?_ (ba _ _)))) (by repeat (first | (with_reducible exact HkW.out) | (with_reducible refine KeysAt.mono ?_ (bd _)) | (with_reducible refine KeysAt.mono ?_ (ba _ _))))) ?_); rintro e w2 ⟨a2, k2, rfl, hat2, hb2⟩; (try (have hBz := Blk.onto hb2 (by first | exact (Blk.new _ (hashC ⟨0, 0, 0, 0, 0, 0, 0, 0⟩ 0 none 0 0) _) | exact (Blk.new _ (hashC ⟨0, 0, 0, 0, 0, 0, 0, 0⟩ 0 none 0 0) _).drew); obtain ⟨e0, e1, e2, e3, e4, e5, e6, e7, e8, e9⟩ := hash_cells hBz; have fz := hBz.frozen))))
        all_goals
          have hbel : Below W.heap.size W w2 := by repeat (first | (with_reducible exact Below.refl _ _) | (with_reducible refine bt ?_ hb2) | (with_reducible refine bt ?_ (bd _)) | (with_reducible refine bt ?_ (ba _ _)))
          go_wp2_with fail
          go_meet
        · exact ⟨_, a2, k2, rfl, Blk.new w2 (hashC R (64 * n + 64) a2 0 k2) _, bt hbel (ba _ _)⟩
        · exact ⟨_, a2, k2, rfl, hset10 hBz, hset10_below hbel (Nat.le_refl _)⟩
        · exact ⟨_, a2, k2, rfl, hset10 hBz, hset10_below hbel (Nat.le_refl _)⟩
      case rest =>
        obtain ⟨g9, a9, k9, rfl, hB9, hb9⟩ := hcut
        have HA := Lib.hid (Blk.onto hb9 HA.out)
        have HH := Lib.hid (Blk.onto hb9 HH.out)
        have HbW := Lib.hid (bt HbW.out hb9)
        have HlW := Lib.hid (Hl.out.mono HbW.out)
        have HkW := Lib.hid (Hk.out.mono HbW.out)
        have H9 := Lib.hid hB9
        clear hB9 hb9
        go_wp2_with fail
        go_cut [10, 11] (fun v10 v11 wx => ∃ g10 : Nat, v10 = .pointer (some ⟨g10, 0, none⟩) ∧ v11 = .int .i64 0 ∧ Blk wx g10 R.cells ∧ Below wc.heap.size wc wx)
        case first =>
          clear HP1 HP2 HP3 Hadv hsl2
          obtain ⟨c0, c1, c2, c3, c4, c5, c6, c7⟩ := r8_cells HA.out
          obtain ⟨d0, d1, d2, d3, d4, d5, d6, d7⟩ := r8_cells (HA.out.alloc (.cells #[.int .u32 0, .int .u32 0, .int .u32 0, .int .u32 0, .int .u32 0, .int .u32 0, .int .u32 0, .int .u32 0] 28))
          go_region_with (first
            | (go_at_call 14; refine (Calls.mono (HB1.out _ (by repeat (first | (with_reducible exact HlW.out) | (with_reducible refine At.mono ?_ (bd _)) | (with_reducible refine At.mono ?_ (ba _ _)))) (by repeat (first | (with_reducible exact HkW.out) | (with_reducible refine KeysAt.mono ?_ (bd _)) | (with_reducible refine KeysAt.mono ?_ (ba _ _))))) ?_); rintro e w2 ⟨rfl, hb2⟩; (try (have hBz := Blk.onto hb2 (by first | exact (Blk.new _ (R8.mk 0 0 0 0 0 0 0 0).cells _) | exact (Blk.new _ (R8.mk 0 0 0 0 0 0 0 0).cells _).drew); obtain ⟨e0, e1, e2, e3, e4, e5, e6, e7⟩ := r8_cells hBz; have fz := hBz.frozen))))
          all_goals
            have hbel : Below wc.heap.size wc w2 := by repeat (first | (with_reducible exact Below.refl _ _) | (with_reducible refine bt ?_ hb2) | (with_reducible refine bt ?_ (bd _)) | (with_reducible refine bt ?_ (ba _ _)))
            go_wp2_with fail
            go_meet
          · exact ⟨_, rfl, rfl, Blk.new w2 R.cells _, bt hbel (ba _ _)⟩
          · exact ⟨_, rfl, rfl, r8_set hBz, set8_below hbel (Nat.le_refl _)⟩
          · exact ⟨_, rfl, rfl, r8_set hBz, set8_below hbel (Nat.le_refl _)⟩
        case rest =>
          obtain ⟨g10, rfl, rfl, hB10, hb10⟩ := hcut
          have HH := Lib.hid (Blk.onto hb10 HH.out)
          have H9 := Lib.hid (Blk.onto hb10 H9.out)
          have HbW := Lib.hid (bt HbW.out hb10)
          have HlW := Lib.hid (Hl.out.mono HbW.out)
          have HkW := Lib.hid (Hk.out.mono HbW.out)
          have H10 := Lib.hid hB10
          clear hB10 hb10 HA
          go_wp2_with fail
          go_cut [12] (fun v wx => ∃ (g : Nat) (a : Option Addr) (c : Nat), v = .pointer (some ⟨g, 0, none⟩) ∧ Blk wx g (hashC T (64 * n + lb) a q.length c) ∧ BytesAt wx a q ∧ Below wc.heap.size wc wx)
          case first =>
            clear HP1 HP3 HB1 hsl1
            obtain ⟨c0, c1, c2, c3, c4, c5, c6, c7, c8, c9⟩ := hash_cells H9.out
            obtain ⟨d0, d1, d2, d3, d4, d5, d6, d7, d8, d9⟩ := hash_cells (H9.out.alloc (.cells #[.int .u32 0, .int .u32 0, .int .u32 0, .int .u32 0, .int .u32 0, .int .u32 0, .int .u32 0, .int .u32 0, .int .i64 0, .slice none 0 0] 36))
            have HdW := Lib.hid (Hadv.out wc HlW.out)
            go_region_with (first
              | (go_at_call 23; refine (Calls.mono (HP2.out _ _ _ (by repeat (first | (with_reducible exact HdW.out) | (with_reducible refine At.mono ?_ (bd _)) | (with_reducible refine At.mono ?_ (ba _ _)))) (by repeat (first | (with_reducible exact HkW.out) | (with_reducible refine KeysAt.mono ?_ (bd _)) | (with_reducible refine KeysAt.mono ?_ (ba _ _))))) ?_); rintro e w2 ⟨a2, k2, rfl, hat2, hb2⟩; (try (have hBz := Blk.onto hb2 (by first | exact (Blk.new _ (hashC ⟨0, 0, 0, 0, 0, 0, 0, 0⟩ 0 none 0 0) _) | exact (Blk.new _ (hashC ⟨0, 0, 0, 0, 0, 0, 0, 0⟩ 0 none 0 0) _).drew); obtain ⟨e0, e1, e2, e3, e4, e5, e6, e7, e8, e9⟩ := hash_cells hBz; have fz := hBz.frozen))))
            all_goals
              have hbel : Below wc.heap.size wc w2 := by repeat (first | (with_reducible exact Below.refl _ _) | (with_reducible refine bt ?_ hb2) | (with_reducible refine bt ?_ (bd _)) | (with_reducible refine bt ?_ (ba _ _)))
              go_wp2_with fail
              go_meet
            · exact ⟨_, a2, k2, rfl, Blk.new w2 (hashC T (64 * n + lb) a2 q.length k2) _, hat2.mono (ba _ _), bt hbel (ba _ _)⟩
            · exact ⟨_, a2, k2, rfl, hset10 hBz, (at_set10 (at_apart hat2 hBz)).at, hset10_below hbel (Nat.le_refl _)⟩
            · exact ⟨_, a2, k2, rfl, hset10 hBz, (at_set10 (at_apart hat2 hBz)).at, hset10_below hbel (Nat.le_refl _)⟩
          case rest =>
            obtain ⟨g12, a12, k12, rfl, hB12, hat12, hb12⟩ := hcut
            have HH := Lib.hid (Blk.onto hb12 HH.out)
            have H9 := Lib.hid (Blk.onto hb12 H9.out)
            have H10 := Lib.hid (Blk.onto hb12 H10.out)
            have HbW := Lib.hid (bt HbW.out hb12)
            have HlW := Lib.hid (Hl.out.mono HbW.out)
            have HkW := Lib.hid (Hk.out.mono HbW.out)
            have H12 := Lib.hid hB12
            have Hat := Lib.hid hat12
            clear hB12 hat12 hb12
            have heq : ∀ W, (Op.equalIn 10000 28 (.agg #[.int .u32 (uv R.a), .int .u32 (uv R.b), .int .u32 (uv R.c), .int .u32 (uv R.d), .int .u32 (uv R.e), .int .u32 (uv R.f), .int .u32 (uv R.g), .int .u32 (uv R.h)]) (.agg #[.int .u32 (uv R.a), .int .u32 (uv R.b), .int .u32 (uv R.c), .int .u32 (uv R.d), .int .u32 (uv R.e), .int .u32 (uv R.f), .int .u32 (uv R.g), .int .u32 (uv R.h)])).run Tryd.prog W = .ok true W := fun W => eq8 R W
            have hw1 : IntKind.i64.wrap (64 * n + 64) = 64 * n + 64 := IntWalk.i64_in _ (by omega)
            have hw2 : IntKind.i64.wrap (64 * n + (lb : Int)) = 64 * n + lb := IntWalk.i64_in _ (by omega)
            have KS := Lib.hid (show ∀ w', Below wc.heap.size wc w' → (Below wc.heap.size wc w' ∧ w'.cell? ⟨w1.heap.size, 0, none⟩ = some (.int .u32 (uv s.a)) ∧ w'.cell? ⟨w1.heap.size, 1, none⟩ = some (.int .u32 (uv s.b)) ∧ w'.cell? ⟨w1.heap.size, 2, none⟩ = some (.int .u32 (uv s.c)) ∧ w'.cell? ⟨w1.heap.size, 3, none⟩ = some (.int .u32 (uv s.d)) ∧ w'.cell? ⟨w1.heap.size, 4, none⟩ = some (.int .u32 (uv s.e)) ∧ w'.cell? ⟨w1.heap.size, 5, none⟩ = some (.int .u32 (uv s.f)) ∧ w'.cell? ⟨w1.heap.size, 6, none⟩ = some (.int .u32 (uv s.g)) ∧ w'.cell? ⟨w1.heap.size, 7, none⟩ = some (.int .u32 (uv s.h)) ∧ w'.cell? ⟨w1.heap.size, 8, none⟩ = some (.int .i64 (64 * n)) ∧ w'.cell? ⟨w1.heap.size, 9, none⟩ = some (.slice none 0 0) ∧ w'.cell? ⟨g9, 0, none⟩ = some (.int .u32 (uv R.a)) ∧ w'.cell? ⟨g9, 1, none⟩ = some (.int .u32 (uv R.b)) ∧ w'.cell? ⟨g9, 2, none⟩ = some (.int .u32 (uv R.c)) ∧ w'.cell? ⟨g9, 3, none⟩ = some (.int .u32 (uv R.d)) ∧ w'.cell? ⟨g9, 4, none⟩ = some (.int .u32 (uv R.e)) ∧ w'.cell? ⟨g9, 5, none⟩ = some (.int .u32 (uv R.f)) ∧ w'.cell? ⟨g9, 6, none⟩ = some (.int .u32 (uv R.g)) ∧ w'.cell? ⟨g9, 7, none⟩ = some (.int .u32 (uv R.h)) ∧ w'.cell? ⟨g9, 8, none⟩ = some (.int .i64 (64 * n + 64)) ∧ w'.cell? ⟨g9, 9, none⟩ = some (.slice a9 0 k9) ∧ w'.cell? ⟨g10, 0, none⟩ = some (.int .u32 (uv R.a)) ∧ w'.cell? ⟨g10, 1, none⟩ = some (.int .u32 (uv R.b)) ∧ w'.cell? ⟨g10, 2, none⟩ = some (.int .u32 (uv R.c)) ∧ w'.cell? ⟨g10, 3, none⟩ = some (.int .u32 (uv R.d)) ∧ w'.cell? ⟨g10, 4, none⟩ = some (.int .u32 (uv R.e)) ∧ w'.cell? ⟨g10, 5, none⟩ = some (.int .u32 (uv R.f)) ∧ w'.cell? ⟨g10, 6, none⟩ = some (.int .u32 (uv R.g)) ∧ w'.cell? ⟨g10, 7, none⟩ = some (.int .u32 (uv R.h)) ∧ w'.cell? ⟨g12, 0, none⟩ = some (.int .u32 (uv T.a)) ∧ w'.cell? ⟨g12, 1, none⟩ = some (.int .u32 (uv T.b)) ∧ w'.cell? ⟨g12, 2, none⟩ = some (.int .u32 (uv T.c)) ∧ w'.cell? ⟨g12, 3, none⟩ = some (.int .u32 (uv T.d)) ∧ w'.cell? ⟨g12, 4, none⟩ = some (.int .u32 (uv T.e)) ∧ w'.cell? ⟨g12, 5, none⟩ = some (.int .u32 (uv T.f)) ∧ w'.cell? ⟨g12, 6, none⟩ = some (.int .u32 (uv T.g)) ∧ w'.cell? ⟨g12, 7, none⟩ = some (.int .u32 (uv T.h)) ∧ w'.cell? ⟨g12, 8, none⟩ = some (.int .i64 (64 * n + lb)) ∧ w'.cell? ⟨g12, 9, none⟩ = some (.slice a12 q.length k12)) from fun w' hb => by
              obtain ⟨c0, c1, c2, c3, c4, c5, c6, c7, c8, c9⟩ := hash_cells (Blk.onto hb HH.out)
              obtain ⟨d0, d1, d2, d3, d4, d5, d6, d7, d8, d9⟩ := hash_cells (Blk.onto hb H9.out)
              obtain ⟨e0, e1, e2, e3, e4, e5, e6, e7⟩ := r8_cells (Blk.onto hb H10.out)
              obtain ⟨f0, f1, f2, f3, f4, f5, f6, f7, f8, f9⟩ := hash_cells (Blk.onto hb H12.out)
              exact ⟨hb, c0, c1, c2, c3, c4, c5, c6, c7, c8, c9, d0, d1, d2, d3, d4, d5, d6, d7, d8, d9, e0, e1, e2, e3, e4, e5, e6, e7, f0, f1, f2, f3, f4, f5, f6, f7, f8, f9⟩)
            obtain ⟨hS0, c0, c1, c2, c3, c4, c5, c6, c7, c8, c9, d0, d1, d2, d3, d4, d5, d6, d7, d8, d9, e0, e1, e2, e3, e4, e5, e6, e7, f0, f1, f2, f3, f4, f5, f6, f7, f8, f9⟩ := KS.out wc (Below.refl _ _)
            go_wp2_with fail
            go_region_held3 (fun w' => Below wc.heap.size wc w' ∧ w'.cell? ⟨w1.heap.size, 0, none⟩ = some (.int .u32 (uv s.a)) ∧ w'.cell? ⟨w1.heap.size, 1, none⟩ = some (.int .u32 (uv s.b)) ∧ w'.cell? ⟨w1.heap.size, 2, none⟩ = some (.int .u32 (uv s.c)) ∧ w'.cell? ⟨w1.heap.size, 3, none⟩ = some (.int .u32 (uv s.d)) ∧ w'.cell? ⟨w1.heap.size, 4, none⟩ = some (.int .u32 (uv s.e)) ∧ w'.cell? ⟨w1.heap.size, 5, none⟩ = some (.int .u32 (uv s.f)) ∧ w'.cell? ⟨w1.heap.size, 6, none⟩ = some (.int .u32 (uv s.g)) ∧ w'.cell? ⟨w1.heap.size, 7, none⟩ = some (.int .u32 (uv s.h)) ∧ w'.cell? ⟨w1.heap.size, 8, none⟩ = some (.int .i64 (64 * n)) ∧ w'.cell? ⟨w1.heap.size, 9, none⟩ = some (.slice none 0 0) ∧ w'.cell? ⟨g9, 0, none⟩ = some (.int .u32 (uv R.a)) ∧ w'.cell? ⟨g9, 1, none⟩ = some (.int .u32 (uv R.b)) ∧ w'.cell? ⟨g9, 2, none⟩ = some (.int .u32 (uv R.c)) ∧ w'.cell? ⟨g9, 3, none⟩ = some (.int .u32 (uv R.d)) ∧ w'.cell? ⟨g9, 4, none⟩ = some (.int .u32 (uv R.e)) ∧ w'.cell? ⟨g9, 5, none⟩ = some (.int .u32 (uv R.f)) ∧ w'.cell? ⟨g9, 6, none⟩ = some (.int .u32 (uv R.g)) ∧ w'.cell? ⟨g9, 7, none⟩ = some (.int .u32 (uv R.h)) ∧ w'.cell? ⟨g9, 8, none⟩ = some (.int .i64 (64 * n + 64)) ∧ w'.cell? ⟨g9, 9, none⟩ = some (.slice a9 0 k9) ∧ w'.cell? ⟨g10, 0, none⟩ = some (.int .u32 (uv R.a)) ∧ w'.cell? ⟨g10, 1, none⟩ = some (.int .u32 (uv R.b)) ∧ w'.cell? ⟨g10, 2, none⟩ = some (.int .u32 (uv R.c)) ∧ w'.cell? ⟨g10, 3, none⟩ = some (.int .u32 (uv R.d)) ∧ w'.cell? ⟨g10, 4, none⟩ = some (.int .u32 (uv R.e)) ∧ w'.cell? ⟨g10, 5, none⟩ = some (.int .u32 (uv R.f)) ∧ w'.cell? ⟨g10, 6, none⟩ = some (.int .u32 (uv R.g)) ∧ w'.cell? ⟨g10, 7, none⟩ = some (.int .u32 (uv R.h)) ∧ w'.cell? ⟨g12, 0, none⟩ = some (.int .u32 (uv T.a)) ∧ w'.cell? ⟨g12, 1, none⟩ = some (.int .u32 (uv T.b)) ∧ w'.cell? ⟨g12, 2, none⟩ = some (.int .u32 (uv T.c)) ∧ w'.cell? ⟨g12, 3, none⟩ = some (.int .u32 (uv T.d)) ∧ w'.cell? ⟨g12, 4, none⟩ = some (.int .u32 (uv T.e)) ∧ w'.cell? ⟨g12, 5, none⟩ = some (.int .u32 (uv T.f)) ∧ w'.cell? ⟨g12, 6, none⟩ = some (.int .u32 (uv T.g)) ∧ w'.cell? ⟨g12, 7, none⟩ = some (.int .u32 (uv T.h)) ∧ w'.cell? ⟨g12, 8, none⟩ = some (.int .i64 (64 * n + lb)) ∧ w'.cell? ⟨g12, 9, none⟩ = some (.slice a12 q.length k12))
              (first
                | (go_split_ands; exact KS.out _ (bt (by assumption) hc1))
                | (go_split_ands; exact KS.out _ (bt (by assumption) hc2))
                | (exact KS.out _ (bd _))
                | (go_split_ands; exact KS.out _ (by assumption))
                | go_keep)
              (first
                | (go_at_call 23; go_split_ands; (with_reducible refine Calls.mono (HP3.out _ (HlW.out.mono (by assumption)) (HkW.out.mono (by assumption))) ?_); rintro e x1 ⟨a13, k13, rfl, hat13, hc1⟩)
                | (go_at_call 16; go_split_ands; refine (same02_yes T (64 * n + lb) a12 a13 q.length k12 q.length k13 q _ rfl rfl (Hat.out.mono (by assumption)) hat13).mono ?_; rintro e x2 ⟨rfl, hc2⟩))
            all_goals
              go_split_ands
              go_wp2_with fail
              go_ret
              exact ⟨rfl, bt HbW.out (by assumption)⟩
theorem shaGoes_in (hsh : ShownOK) (w : World) (hk : KeysAt w) (s : R8) (n : Int) (hn : (Lit.int .u16 n).wf = true) (b : Option Addr) (lb cb : Nat) (l : List UInt8) (h : InBytes w b lb cb l) :
    Calls Tryd.prog 9 #[.agg s.cells.toArray, .int .u16 n, .slice b lb cb] w (BoolOut w true) := by
  have hb : 0 ≤ n ∧ n ≤ 65535 := by
    simp [Lit.wf, IntKind.min, IntKind.max, IntKind.signed, IntKind.bits] at hn
    omega
  exact shaGoes_any hsh s n b lb cb l w hb.1 hb.2 h.1 h.2.1 h.2.2.1 h.2.2.2 hk
end Go.Proofs.YtmcbhffkaaaijaaDoor
