/- The walk of the law ShaPuts. -/
import Derived.Test.YtmcbhffkaaaijaaDoorShaP
set_option linter.unusedSimpArgs false
set_option linter.unusedVariables false
namespace Go.Proofs.YtmcbhffkaaaijaaDoor
open Go.RowKit

theorem put_both (s : R8) (n : Int) (a b : Option Addr) (la ca lb cb : Nat) (l m : List UInt8) (h0 : 0 ≤ n) (hn : n ≤ 1125899906842624) (hr : (la : Int) = n % 64) (ha : la = l.length) (hb : lb = m.length) (hm : lb ≤ 600) : ∃ (R : R8) (N : Int) (q : List UInt8), 0 ≤ N ∧ N ≤ 1125899906842624 ∧ (q.length : Int) = N % 64 ∧
    (∀ w, BytesAt w a l → BytesAt w b m → KeysAt w → Calls Tryd.prog 23 #[.agg (hashC s n a la ca).toArray, .slice b lb cb] w (HashOut w R N q)) ∧
    (∀ w, BytesAt w a l → BytesAt w b m → Calls Tryd.prog 24 #[.agg (hashC s n a la ca).toArray, .slice b lb cb] w (HashOut w R N q)) := by
  by_cases h : (lb : Int) ≤ 1125899906842624 - n
  · refine ⟨putS s (l ++ m), n + lb, putR (l ++ m), by omega, by omega, ?_, fun w h1 h2 h3 => put_any s n a b la ca lb cb l m h0 hn ha hb h (by omega) w h1 h2 h3, fun w h1 h2 => refPut_any s n a b la ca lb cb l m h0 hn ha hb h (by omega) w h1 h2⟩
    rw [putR_length, List.length_append]; omega
  · subst ha
    refine ⟨s, n, l, h0, hn, hr, fun w h1 h2 _ => (put_no s n a b l.length ca lb cb h0 hn (by omega) w).mono fun e w' ⟨h3, h4⟩ => ⟨a, ca, h3, h1.mono h4, h4⟩, fun w h1 h2 => (refPut_no s n a b l.length ca lb cb h0 hn (by omega) w).mono fun e w' ⟨h3, h4⟩ => ⟨a, ca, h3, h1.mono h4, h4⟩⟩
theorem sum_both (s : R8) (n : Int) (a : Option Addr) (len ca : Nat) (l : List UInt8) (h0 : 0 ≤ n) (hn : n ≤ 1125899906842624) (hlen : len = l.length) (hr : (l.length : Int) = n % 64) : ∃ d : List UInt8, d.length = 32 ∧
    (∀ w, BytesAt w a l → KeysAt w → Calls Tryd.prog 25 #[.agg (hashC s n a len ca).toArray] w (BytesOut w d)) ∧
    (∀ w, BytesAt w a l → Calls Tryd.prog 26 #[.agg (hashC s n a len ca).toArray] w (BytesOut w d)) :=
  ⟨_, rfl, fun w h1 h2 => sum_any s n a len ca l h0 hn hlen hr w h1 h2, fun w h1 => refSum_any s n a len ca l h0 hn hlen hr w h1⟩

set_option maxRecDepth 100000 in
set_option maxHeartbeats 4000000 in
theorem shaPuts_any (hsh : ShownOK) (s : R8) (n : Int) (a b : Option Addr) (la ca lb cb : Nat) (l m : List UInt8) (w : World) (ha : la = l.length) (hb : lb = m.length) (hla : la ≤ maxLen) (hlb : lb ≤ maxLen) (hl : BytesAt w a l) (hm : BytesAt w b m) (hk : KeysAt w) :
    Calls Tryd.prog 5 #[.agg (hashC s n a la ca).toArray, .slice b lb cb] w (BoolOut w true) := by
  have Hsh := Lib.hid hsh
  have Hl := Lib.hid hl
  have Hm := Lib.hid hm
  have Hk := Lib.hid hk
  have Ha := Lib.hid ha
  have Hb := Lib.hid hb
  unfold maxLen at hla hlb
  clear hsh hl hm hk ha hb
  have HI := Lib.hid (show (Tryd.prog.info? 36).map (·.size) = some 10 by kernel_rfl)
  by_cases h1 : 100 < la
  · have hd : (100 : Int) < la := by omega
    go_enter Tryd.func5, Tryd.ntmps5
    go_wp2_with fail
    have HB0 := Lib.hid (Blk.new w (hashC s n a la ca) 36)
    refine (Hsh.out _ (Hk.out.mono (ba w _))).mono ?_; rintro e w1 ⟨rfl, hb1⟩
    obtain ⟨-, -, -, -, -, -, -, -, c8, c9⟩ := hash_cells (Blk.onto hb1 HB0.out)
    have Hb1 := Lib.hid (bt (ba w _) hb1)
    clear hb1
    go_wp2_with fail
    go_ret
    exact ⟨rfl, Hb1.out⟩
  · have hd : ¬ (100 : Int) < la := by omega
    by_cases h2 : 600 < lb
    · have hd2 : (600 : Int) < lb := by omega
      go_enter Tryd.func5, Tryd.ntmps5
      go_wp2_with fail
      have HB0 := Lib.hid (Blk.new w (hashC s n a la ca) 36)
      refine (Hsh.out _ (Hk.out.mono (ba w _))).mono ?_; rintro e w1 ⟨rfl, hb1⟩
      obtain ⟨-, -, -, -, -, -, -, -, c8, c9⟩ := hash_cells (Blk.onto hb1 HB0.out)
      have Hb1 := Lib.hid (bt (ba w _) hb1)
      clear hb1
      go_wp2_with fail
      go_ret
      exact ⟨rfl, Hb1.out⟩
    · have hd2 : ¬ (600 : Int) < lb := by omega
      by_cases hr : rightH n la = true
      · have hr2 : 0 ≤ n ∧ n ≤ 1125899906842624 ∧ (la : Int) = n % 64 := by simpa [rightH, and_assoc] using hr
        obtain ⟨R, N, q, hN0, hN1, hq, hP, hQ⟩ := put_both s n a b la ca lb cb l m hr2.1 hr2.2.1 hr2.2.2 Ha.out Hb.out (by omega)
        obtain ⟨D, hD, hS, hT⟩ := sum_both s n a la ca l hr2.1 hr2.2.1 Ha.out (by rw [← Ha.out]; exact hr2.2.2)
        have HP := Lib.hid hP
        have HQ := Lib.hid hQ
        have HS := Lib.hid (show ∀ w, BytesAt w a l → KeysAt w → Calls Tryd.prog 25 #[.agg #[.int .u32 (uv s.a), .int .u32 (uv s.b), .int .u32 (uv s.c), .int .u32 (uv s.d), .int .u32 (uv s.e), .int .u32 (uv s.f), .int .u32 (uv s.g), .int .u32 (uv s.h), .int .i64 n, .slice a la ca]] w (BytesOut w D) from hS)
        have HT := Lib.hid (show ∀ w, BytesAt w a l → Calls Tryd.prog 26 #[.agg #[.int .u32 (uv s.a), .int .u32 (uv s.b), .int .u32 (uv s.c), .int .u32 (uv s.d), .int .u32 (uv s.e), .int .u32 (uv s.f), .int .u32 (uv s.g), .int .u32 (uv s.h), .int .i64 n, .slice a la ca]] w (BytesOut w D) from hT)
        have Hr := Lib.hid hr
        have Hq := Lib.hid hq
        have HN0 := Lib.hid hN0
        have HN1 := Lib.hid hN1
        clear hP hQ hS hT hr hq hN0 hN1 hr2 hD
        go_enter Tryd.func5, Tryd.ntmps5
        go_wp2_with fail
        have HB0 := Lib.hid (Blk.new w (hashC s n a la ca) 36)
        refine (Hsh.out _ (Hk.out.mono (ba w _))).mono ?_; rintro e w1 ⟨rfl, hb1⟩
        have HB1 := Lib.hid (Blk.onto hb1 HB0.out)
        have Hb1 := Lib.hid (bt (ba w _) hb1)
        clear hb1 HB0
        obtain ⟨c0, c1, c2, c3, c4, c5, c6, c7, c8, c9⟩ := hash_cells HB1.out
        go_wp2_with fail
        refine (refRight_any s n a la ca _).mono ?_; rintro e w2 ⟨rfl, hb2⟩
        rw [Hr.out]
        clear c0 c1 c2 c3 c4 c5 c6 c7 c8 c9
        have HB2 := Lib.hid (Blk.onto hb2 HB1.out)
        have Hb2 := Lib.hid (bt Hb1.out hb2)
        clear hb2
        obtain ⟨c0, c1, c2, c3, c4, c5, c6, c7, c8, c9⟩ := hash_cells HB2.out
        go_wp2_with fail
        refine (right_any s n a la ca _).mono ?_; rintro e w3 ⟨rfl, hb3⟩
        rw [Hr.out]
        clear c0 c1 c2 c3 c4 c5 c6 c7 c8 c9
        have HB3 := Lib.hid (Blk.onto hb3 HB2.out)
        have Hb3 := Lib.hid (bt Hb2.out hb3)
        clear hb3
        obtain ⟨c0, c1, c2, c3, c4, c5, c6, c7, c8, c9⟩ := hash_cells HB3.out
        go_wp2_with fail
        refine (HP.out w3 (Hl.out.mono Hb3.out) (Hm.out.mono Hb3.out) (Hk.out.mono Hb3.out)).mono ?_; rintro e w4 ⟨a4, k4, rfl, hat4, hb4⟩
        clear c0 c1 c2 c3 c4 c5 c6 c7 c8 c9
        have HX4 := Lib.hid (Blk.new w4 (hashC R N a4 q.length k4) 36)
        have HB4 := Lib.hid ((Blk.onto hb4 HB3.out).alloc (.cells (hashC R N a4 q.length k4).toArray 36))
        have Hb4 := Lib.hid (bt (bt Hb3.out hb4) (ba w4 (.cells (hashC R N a4 q.length k4).toArray 36)))
        have Hat4 := Lib.hid (hat4.mono (ba w4 (.cells (hashC R N a4 q.length k4).toArray 36)))
        clear hb4 hat4
        obtain ⟨E, -, hS2, hT2⟩ := sum_both R N a4 q.length k4 q HN0.out HN1.out rfl Hq.out
        have HS2 := Lib.hid (show ∀ w, BytesAt w a4 q → KeysAt w → Calls Tryd.prog 25 #[.agg #[.int .u32 (uv R.a), .int .u32 (uv R.b), .int .u32 (uv R.c), .int .u32 (uv R.d), .int .u32 (uv R.e), .int .u32 (uv R.f), .int .u32 (uv R.g), .int .u32 (uv R.h), .int .i64 N, .slice a4 q.length k4]] w (BytesOut w E) from hS2)
        have HT2 := Lib.hid (show ∀ w, BytesAt w a4 q → Calls Tryd.prog 26 #[.agg #[.int .u32 (uv R.a), .int .u32 (uv R.b), .int .u32 (uv R.c), .int .u32 (uv R.d), .int .u32 (uv R.e), .int .u32 (uv R.f), .int .u32 (uv R.g), .int .u32 (uv R.h), .int .i64 N, .slice a4 q.length k4]] w (BytesOut w E) from hT2)
        obtain ⟨W4, hW4⟩ : ∃ W4, W4 = w4.alloc (.cells (hashC R N a4 q.length k4).toArray 36) := ⟨_, rfl⟩
        have HX := Lib.hid (show Blk W4 w4.heap.size (hashC R N a4 q.length k4) by rw [hW4]; exact HX4.out)
        have HB := Lib.hid (show Blk W4 w.heap.size (hashC s n a la ca) by rw [hW4]; exact HB4.out)
        have Hb := Lib.hid (show Below w.heap.size w W4 by rw [hW4]; exact Hb4.out)
        have Hat := Lib.hid (show BytesAt W4 a4 q by rw [hW4]; exact Hat4.out)
        have KS := Lib.hid (show ∀ w', Below W4.heap.size W4 w' → Below W4.heap.size W4 w' ∧ w'.cell? ⟨w.heap.size, 0, none⟩ = some (.int .u32 (uv s.a)) ∧ w'.cell? ⟨w.heap.size, 1, none⟩ = some (.int .u32 (uv s.b)) ∧ w'.cell? ⟨w.heap.size, 2, none⟩ = some (.int .u32 (uv s.c)) ∧ w'.cell? ⟨w.heap.size, 3, none⟩ = some (.int .u32 (uv s.d)) ∧ w'.cell? ⟨w.heap.size, 4, none⟩ = some (.int .u32 (uv s.e)) ∧ w'.cell? ⟨w.heap.size, 5, none⟩ = some (.int .u32 (uv s.f)) ∧ w'.cell? ⟨w.heap.size, 6, none⟩ = some (.int .u32 (uv s.g)) ∧ w'.cell? ⟨w.heap.size, 7, none⟩ = some (.int .u32 (uv s.h)) ∧ w'.cell? ⟨w.heap.size, 8, none⟩ = some (.int .i64 n) ∧ w'.cell? ⟨w.heap.size, 9, none⟩ = some (.slice a la ca) ∧ w'.cell? ⟨w4.heap.size, 0, none⟩ = some (.int .u32 (uv R.a)) ∧ w'.cell? ⟨w4.heap.size, 1, none⟩ = some (.int .u32 (uv R.b)) ∧ w'.cell? ⟨w4.heap.size, 2, none⟩ = some (.int .u32 (uv R.c)) ∧ w'.cell? ⟨w4.heap.size, 3, none⟩ = some (.int .u32 (uv R.d)) ∧ w'.cell? ⟨w4.heap.size, 4, none⟩ = some (.int .u32 (uv R.e)) ∧ w'.cell? ⟨w4.heap.size, 5, none⟩ = some (.int .u32 (uv R.f)) ∧ w'.cell? ⟨w4.heap.size, 6, none⟩ = some (.int .u32 (uv R.g)) ∧ w'.cell? ⟨w4.heap.size, 7, none⟩ = some (.int .u32 (uv R.h)) ∧ w'.cell? ⟨w4.heap.size, 8, none⟩ = some (.int .i64 N) ∧ w'.cell? ⟨w4.heap.size, 9, none⟩ = some (.slice a4 q.length k4) from fun w' hb => by
          obtain ⟨c0, c1, c2, c3, c4, c5, c6, c7, c8, c9⟩ := hash_cells (Blk.onto hb HB.out)
          obtain ⟨d0, d1, d2, d3, d4, d5, d6, d7, d8, d9⟩ := hash_cells (Blk.onto hb HX.out)
          exact ⟨hb, c0, c1, c2, c3, c4, c5, c6, c7, c8, c9, d0, d1, d2, d3, d4, d5, d6, d7, d8, d9⟩)
        clear hS2 hT2 HX4 HB4 Hb4 Hat4 HP
        go_wp2_with fail
        generalize hg : World.alloc w4 _ = Wg
        obtain rfl : W4 = Wg := hW4.trans hg
        clear hW4 hg
        have hrefl := KS.out W4 (Below.refl _ _)
        obtain ⟨hS0, c0, c1, c2, c3, c4, c5, c6, c7, c8, c9, d0, d1, d2, d3, d4, d5, d6, d7, d8, d9⟩ := hrefl
        go_region_held3 (fun w' => Below W4.heap.size W4 w' ∧ w'.cell? ⟨w.heap.size, 0, none⟩ = some (.int .u32 (uv s.a)) ∧ w'.cell? ⟨w.heap.size, 1, none⟩ = some (.int .u32 (uv s.b)) ∧ w'.cell? ⟨w.heap.size, 2, none⟩ = some (.int .u32 (uv s.c)) ∧ w'.cell? ⟨w.heap.size, 3, none⟩ = some (.int .u32 (uv s.d)) ∧ w'.cell? ⟨w.heap.size, 4, none⟩ = some (.int .u32 (uv s.e)) ∧ w'.cell? ⟨w.heap.size, 5, none⟩ = some (.int .u32 (uv s.f)) ∧ w'.cell? ⟨w.heap.size, 6, none⟩ = some (.int .u32 (uv s.g)) ∧ w'.cell? ⟨w.heap.size, 7, none⟩ = some (.int .u32 (uv s.h)) ∧ w'.cell? ⟨w.heap.size, 8, none⟩ = some (.int .i64 n) ∧ w'.cell? ⟨w.heap.size, 9, none⟩ = some (.slice a la ca) ∧ w'.cell? ⟨w4.heap.size, 0, none⟩ = some (.int .u32 (uv R.a)) ∧ w'.cell? ⟨w4.heap.size, 1, none⟩ = some (.int .u32 (uv R.b)) ∧ w'.cell? ⟨w4.heap.size, 2, none⟩ = some (.int .u32 (uv R.c)) ∧ w'.cell? ⟨w4.heap.size, 3, none⟩ = some (.int .u32 (uv R.d)) ∧ w'.cell? ⟨w4.heap.size, 4, none⟩ = some (.int .u32 (uv R.e)) ∧ w'.cell? ⟨w4.heap.size, 5, none⟩ = some (.int .u32 (uv R.f)) ∧ w'.cell? ⟨w4.heap.size, 6, none⟩ = some (.int .u32 (uv R.g)) ∧ w'.cell? ⟨w4.heap.size, 7, none⟩ = some (.int .u32 (uv R.h)) ∧ w'.cell? ⟨w4.heap.size, 8, none⟩ = some (.int .i64 N) ∧ w'.cell? ⟨w4.heap.size, 9, none⟩ = some (.slice a4 q.length k4))
          (first
            | (go_split_ands; exact KS.out _ (bt (by assumption) hb5))
            | (go_split_ands; exact KS.out _ (bt (by assumption) hb6))
            | (go_split_ands; exact KS.out _ (bt (by assumption) hb7))
            | (go_split_ands; exact KS.out _ (bt (by assumption) hb8))
            | (go_split_ands; exact KS.out _ (bt (by assumption) hb9))
            | (go_split_ands; exact KS.out _ (bt (by assumption) hb10))
            | (exact KS.out _ (bd _))
            | (go_split_ands; exact KS.out _ (by assumption))
            | go_keep)
          (first
            | (go_at_call 24; go_split_ands; refine (HQ.out _ (Hl.out.mono (bt Hb.out (by assumption))) (Hm.out.mono (bt Hb.out (by assumption)))).mono ?_; rintro e w5 ⟨a5, k5, rfl, hat5, hb5⟩)
            | (go_at_call 16; go_split_ands; refine (same02_yes R N a4 a5 q.length k4 q.length k5 q _ rfl rfl (Hat.out.mono (by assumption)) hat5).mono ?_; rintro e w6 ⟨rfl, hb6⟩)
            | (go_at_call 25; go_split_ands; (with_reducible refine Calls.mono (HS2.out _ (Hat.out.mono (by assumption)) (Hk.out.mono (bt Hb.out (by assumption)))) ?_); rintro e w7 ⟨a7, k7, rfl, hat7, hb7⟩)
            | (go_at_call 26; go_split_ands; (with_reducible refine Calls.mono (HT2.out _ (Hat.out.mono (by assumption))) ?_); rintro e w8 ⟨a8, k8, rfl, hat8, hb8⟩)
            | (go_at_call 25; go_split_ands; (with_reducible refine Calls.mono (HS.out _ (Hl.out.mono (bt Hb.out (by assumption))) (Hk.out.mono (bt Hb.out (by assumption)))) ?_); rintro e w9 ⟨a9, k9, rfl, hat9, hb9⟩)
            | (go_at_call 26; go_split_ands; (with_reducible refine Calls.mono (HT.out _ (Hl.out.mono (bt Hb.out (by assumption)))) ?_); rintro e w10 ⟨a10, k10, rfl, hat10, hb10⟩)
            | (go_at_call 11; go_split_ands; (with_reducible refine Calls.mono (same01_any a7 a8 _ k7 _ k8 E E _ rfl rfl (hat7.mono hb8) hat8) ?_); rintro e w11 ⟨rfl, rfl⟩)
            | (go_at_call 11; go_split_ands; (with_reducible refine Calls.mono (same01_any a9 a10 _ k9 _ k10 D D _ rfl rfl (hat9.mono hb10) hat10) ?_); rintro e w12 ⟨rfl, rfl⟩))
        go_split_ands
        go_wp2_with fail
        go_ret
        exact ⟨rfl, bt Hb.out (by assumption)⟩
      · have hr : rightH n la = false := by simpa using hr
        have Hr := Lib.hid hr
        clear hr
        go_enter Tryd.func5, Tryd.ntmps5
        go_wp2_with fail
        have HB0 := Lib.hid (Blk.new w (hashC s n a la ca) 36)
        refine (Hsh.out _ (Hk.out.mono (ba w _))).mono ?_; rintro e w1 ⟨rfl, hb1⟩
        have HB1 := Lib.hid (Blk.onto hb1 HB0.out)
        have Hb1 := Lib.hid (bt (ba w _) hb1)
        clear hb1 HB0
        obtain ⟨c0, c1, c2, c3, c4, c5, c6, c7, c8, c9⟩ := hash_cells HB1.out
        go_wp2_with fail
        refine (refRight_any s n a la ca _).mono ?_; rintro e w2 ⟨rfl, hb2⟩
        rw [Hr.out]
        clear c0 c1 c2 c3 c4 c5 c6 c7 c8 c9
        have HB2 := Lib.hid (Blk.onto hb2 HB1.out)
        have Hb2 := Lib.hid (bt Hb1.out hb2)
        clear hb2
        obtain ⟨c0, c1, c2, c3, c4, c5, c6, c7, c8, c9⟩ := hash_cells HB2.out
        go_wp2_with fail
        refine (right_any s n a la ca _).mono ?_; rintro e w3 ⟨rfl, hb3⟩
        rw [Hr.out]
        clear c0 c1 c2 c3 c4 c5 c6 c7 c8 c9
        have Hb3 := Lib.hid (bt Hb2.out hb3)
        clear hb3
        go_wp2_with fail
        go_ret
        exact ⟨rfl, Hb3.out⟩
theorem shaPuts_in (hsh : ShownOK) (w : World) (hk : KeysAt w) (s : R8) (n : Int) (a : Option Addr) (la ca : Nat) (l : List UInt8) (h1 : InBytes w a la ca l) (b : Option Addr) (lb cb : Nat) (m : List UInt8) (h2 : InBytes w b lb cb m) :
    Calls Tryd.prog 5 #[.agg (hashC s n a la ca).toArray, .slice b lb cb] w (BoolOut w true) :=
  shaPuts_any hsh s n a b la ca lb cb l m w h1.1 h2.1 (Nat.le_trans h1.2.1 h1.2.2.1) (Nat.le_trans h2.2.1 h2.2.2.1) h1.2.2.2 h2.2.2.2 hk
end Go.Proofs.YtmcbhffkaaaijaaDoor
