/- The walk of the law ShaBlocks. -/
import Derived.Test.YtmcbhffkaaaijaaDoorShaR
import Derived.Deep.QuietTactic
set_option linter.unusedSimpArgs false
set_option linter.unusedVariables false
namespace Go.Proofs.YtmcbhffkaaaijaaDoor
open Go.RowKit

theorem absN_comp (s : R8) (x : List UInt8) (j : Nat) : ∀ k, absN (absN s x j) (x.drop (64 * j)) k = absN s x (j + k)
  | 0 => rfl
  | k + 1 => by
    show blockF (absN (absN s x j) (x.drop (64 * j)) k) (((x.drop (64 * j)).drop (64 * k)).take 64) = blockF (absN s x (j + k)) ((x.drop (64 * (j + k))).take 64)
    rw [absN_comp s x j k, List.drop_drop, show 64 * j + 64 * k = 64 * (j + k) by omega]
theorem absN_app (s : R8) (l m : List UInt8) : ∀ k, 64 * k ≤ l.length → absN s (l ++ m) k = absN s l k
  | 0, _ => rfl
  | k + 1, h => by
    show blockF (absN s (l ++ m) k) (((l ++ m).drop (64 * k)).take 64) = blockF (absN s l k) ((l.drop (64 * k)).take 64)
    rw [absN_app s l m k (by omega), List.drop_append_of_le_length (by omega), List.take_append_of_le_length (by rw [List.length_drop]; omega)]
theorem putS_app (s : R8) (l m : List UInt8) : putS (putS s l) (putR l ++ m) = putS s (l ++ m) := by
  have hn : nb (l ++ m) = nb l + nb (putR l ++ m) := by
    unfold putR nb; rw [List.length_append, List.length_append, List.length_drop]; omega
  have hl : 64 * nb l ≤ l.length := by unfold nb; omega
  have h1 : putS s (l ++ m) = absN s (l ++ m) (nb (l ++ m)) := rfl
  rw [h1, hn, ← absN_comp, absN_app s l m _ hl, List.drop_append_of_le_length hl]
  rfl
theorem ofF_all (l : List UInt8) : ofF l = (putS iv (l ++ padF l.length)).bytes := by
  unfold ofF sumF; rw [putS_app]
theorem lt8' {k : Nat} (h : k < 8) : k = 0 ∨ k = 1 ∨ k = 2 ∨ k = 3 ∨ k = 4 ∨ k = 5 ∨ k = 6 ∨ k = 7 := by omega
theorem bytes_at4 (R : R8) (k : Nat) (h : k < 8) : R.bytes.getD (4 * k) 0 = ((R.l.getD k 0) >>> 24).toUInt8 ∧ R.bytes.getD (4 * k + 1) 0 = ((R.l.getD k 0) >>> 16).toUInt8 ∧ R.bytes.getD (4 * k + 2) 0 = ((R.l.getD k 0) >>> 8).toUInt8 ∧ R.bytes.getD (4 * k + 3) 0 = (R.l.getD k 0).toUInt8 := by
  rcases lt8' h with rfl | rfl | rfl | rfl | rfl | rfl | rfl | rfl <;> exact ⟨rfl, rfl, rfl, rfl⟩
theorem word_back (x : UInt32) : (x >>> (24 : UInt32)).toUInt8.toUInt32 * (16777216 : UInt32) + (x >>> (16 : UInt32)).toUInt8.toUInt32 * (65536 : UInt32) + (x >>> (8 : UInt32)).toUInt8.toUInt32 * (256 : UInt32) + x.toUInt8.toUInt32 = x := by
  apply UInt32.toNat_inj.1
  have := x.toNat_lt
  simp [UInt32.toNat_add, UInt32.toNat_mul, UInt32.toNat_shiftRight, Nat.shiftRight_eq_div_pow]
  omega

set_option maxRecDepth 100000 in
set_option maxHeartbeats 4000000 in
theorem shaBlocks_any (hsh : ShownOK) (a : Option Addr) (cap : Nat) (l : List UInt8) (w : World) (hm : l.length ≤ maxLen) (hl : BytesAt w a l) (hk : KeysAt w) :
    Calls Tryd.prog 8 #[.slice a l.length cap] w (BoolOut w true) := by
  have Hsh := Lib.hid hsh
  have Hl := Lib.hid hl
  have Hk := Lib.hid hk
  unfold maxLen at hm
  clear hsh hl hk
  by_cases h1 : 1000 < l.length
  · have hd : (1000 : Int) < l.length := by omega
    go_enter Tryd.func8, Tryd.ntmps8
    go_wp2_with fail
    refine (Hsh.out _ Hk.out).mono ?_; rintro e w1 ⟨rfl, hb1⟩
    go_wp2_with fail
    go_ret
    exact ⟨rfl, hb1⟩
  · have hd : ¬ (1000 : Int) < l.length := by omega
    obtain ⟨P, hP⟩ : ∃ P, P = padF l.length := ⟨_, rfl⟩
    have hPl : P.length ≤ 100 := by rw [hP, padF_len]; unfold zc; omega
    have Hpad := Lib.hid (pad_any l.length (by omega))
    rw [← hP] at Hpad
    have HPe := Lib.hid hP
    have Hp64 := Lib.hid (show (l.length + P.length) % 64 = 0 by rw [hP, padF_len]; unfold zc; omega)
    clear hP
    go_enter Tryd.func8, Tryd.ntmps8
    go_wp2_with fail
    refine (Hsh.out _ Hk.out).mono ?_; rintro e w1 ⟨rfl, hb1⟩
    have Hl1 := Lib.hid (Hl.out.mono hb1)
    have Hk1 := Lib.hid (Hk.out.mono hb1)
    have Hb1 := Lib.hid hb1
    clear hb1
    go_wp2_with (first
      | (at_builtin; refine wpList_buf (.tmp 17) (.tmp 18) 22 rfl rfl elemB rfl (Buf.made w1 5 [] 0 0 (by decide) rfl (by decide)) (sp := a) (m := l.length) (news := B8s l) rfl (Hl1.out.mono (ba w1 _)) (by simp) (bytes_one l) (by omega) (by decide) l.length (by omega) (B8s l) rfl ?_; intro a1 c1 w2 hB1)
      | (go_at_call 30; go_must (refine Calls.mono (Hpad.out _) ?_; rintro e w3 ⟨a2, c2, rfl, hat2, hb2⟩))
      | (at_builtin; refine wpList_buf (.tmp 19) (.tmp 22) 22 rfl rfl elemB rfl (hB1.later hb2) (sp := a2) (m := P.length) (news := B8s P) rfl hat2 (by simp) (bytes_one P) (by omega) (by decide) (l.length + P.length) rfl (B8s (l ++ P)) (by simp) ?_; intro a3 c3 w4 hB3)
      | (go_at_call 17; go_must (refine (new_any _).mono ?_; rintro e w5 ⟨rfl, hb5⟩)))
    obtain ⟨T, p, hT, hTat, hTl, hp64, hpc, hp2⟩ : ∃ (T : List UInt8) (p : Nat), T = l ++ P ∧ BytesAt w4 a3 T ∧ p = T.length ∧ p % 64 = 0 ∧ p ≤ c3 ∧ l.length + P.length = p := by
      have h1 := hB3.at
      have h2 := hB3.cap
      exact ⟨l ++ P, l.length + P.length, rfl, h1, by simp, Hp64.out, h2.2.1, rfl⟩
    have Hbel := Lib.hid (bt Hb1.out (bt hB3.bel hb5))
    have HT := Lib.hid (hTat.mono hb5)
    have Hk5 := Lib.hid (Hk1.out.mono (bt hB3.bel hb5))
    have Hl5 := Lib.hid (Hl1.out.mono (bt hB3.bel hb5))
    rw [hp2]
    generalize hW : World.alloc (World.alloc w5 _) _ = W
    have hB5 : Blk W (w5.heap.size + 1) iv.cells := by
      rw [← hW]; have := Blk.new (w5.alloc (.cells (hashC iv 0 none 0 0).toArray 36)) iv.cells 28
      rwa [World.size_alloc] at this
    have hbW : Below w5.heap.size w5 W := by rw [← hW]; exact (ba w5 _).trans ((ba _ _).mono (by simp))
    have HTl := Lib.hid hTl
    have HTe := Lib.hid hT
    have Hp := Lib.hid hp64
    have hpm : p ≤ 1100 := by omega
    clear hW hT hTl hp64 hTat hp2 hB3 hB1 hb5 hat2 hb2 Hl1 Hk1 Hb1 Hl Hk Hpad
    generalize hn6 : w5.heap.size + 1 = n6 at hB5 ⊢
    have Hn6 := Lib.hid (show w5.heap.size ≤ n6 by omega)
    clear hn6
    go_loopw [7] (fun v wx => ∃ k t : Nat, t = 64 * k ∧ t ≤ p ∧ v = .int .i64 (t : Int) ∧ Blk wx n6 (absN iv T k).cells ∧ Below w5.heap.size w5 wx) (fun v _ => p - (intOf v).toNat)
    case atStart => exact ⟨0, 0, rfl, by omega, rfl, hB5, hbW⟩
    case round =>
      clear hB5 hbW
      obtain ⟨k, t, ht, htp, rfl, hB6, hb⟩ := hrel
      by_cases h64 : t < p
      · have hge : t + 64 ≤ p := by have := Hp.out; omega
        have Hnext := Lib.hid (show absN iv T (k + 1) = blockF (absN iv T k) ((T.drop t).take 64) by rw [ht]; rfl)
        have Ht := Lib.hid ht
        clear ht
        obtain ⟨r, hr⟩ : ∃ r, r = absN iv T k := ⟨_, rfl⟩
        rw [← hr] at hB6 Hnext
        clear hr
        obtain ⟨r2, hr2⟩ : ∃ r2, r2 = blockF r ((T.drop t).take 64) := ⟨_, rfl⟩
        rw [← hr2] at Hnext
        have HBc := Lib.hid (show ∀ W, BytesAt W a3 T → KeysAt W → Calls Tryd.prog 14 #[.agg r.cells.toArray, .slice (adv a3 c3 t 1) 64 (c3 - t)] W fun e w' => e = .returned (.tuple #[.agg r2.cells.toArray, .int .i64 0]) ∧ Below W.heap.size W w' from fun W h1 h2 => by
          have h3 := BytesAt.take (BytesAt.adv h1 (cap := c3) (k := t) HTl.out.symm hpc) 64
          rw [hr2]
          exact block_any r (adv a3 c3 t 1) (c3 - t) ((T.drop t).take 64) W (by rw [List.length_take, List.length_drop, ← HTl.out]; omega) h3 h2)
        have hsl : ∀ W, (Instr.sliceAt 22 (.slice a3 p c3) (some (.int .i64 (t : Int))) (some (.int .i64 ((t : Int) + 64))) none).run Tryd.prog W = .ok (.slice (adv a3 c3 t 1) 64 (c3 - t)) W := fun W => by
          have := run_adv_lh (P := Tryd.prog) Tryd.underlying22 size_u8 W a3 p c3 (t : Int) ((t : Int) + 64) (by omega) (by omega) (by omega)
          rwa [show ((t : Int) + 64).toNat - (t : Int).toNat = 64 by omega, Int.toNat_natCast] at this
        have hwt : IntKind.i64.wrap ((t : Int) + 64) = (t : Int) + 64 := IntWalk.i64_in _ (by omega)
        have HB6 := Lib.hid hB6
        have Hb := Lib.hid hb
        have HlW := Lib.hid (HT.out.mono hb)
        have HkW := Lib.hid (Hk5.out.mono hb)
        have l6 := hB6.lt
        clear hB6 hr2 hb
        go_wp2_with fail
        go_cut [8, 9] (fun v8 v9 wx => ∃ g : Nat, v8 = .pointer (some ⟨g, 0, none⟩) ∧ v9 = .int .i64 0 ∧ Blk wx g r2.cells ∧ Below wr.heap.size wr wx)
        case first =>
          obtain ⟨c0, c1, c2, c3', c4, c5, c6, c7⟩ := r8_cells HB6.out
          obtain ⟨d0, d1, d2, d3, d4, d5, d6, d7⟩ := r8_cells (HB6.out.alloc (.cells #[.int .u32 0, .int .u32 0, .int .u32 0, .int .u32 0, .int .u32 0, .int .u32 0, .int .u32 0, .int .u32 0] 28))
          go_region_with (first
            | (go_at_call 14; refine (Calls.mono (HBc.out _ (by repeat (first | (with_reducible exact HlW.out) | (with_reducible refine At.mono ?_ (bd _)) | (with_reducible refine At.mono ?_ (ba _ _)))) (by repeat (first | (with_reducible exact HkW.out) | (with_reducible refine KeysAt.mono ?_ (bd _)) | (with_reducible refine KeysAt.mono ?_ (ba _ _))))) ?_); rintro e w2 ⟨rfl, hb2⟩; (try (have hBz := Blk.onto hb2 (by first | exact (Blk.new _ (R8.mk 0 0 0 0 0 0 0 0).cells _) | exact (Blk.new _ (R8.mk 0 0 0 0 0 0 0 0).cells _).drew); obtain ⟨e0, e1, e2, e3, e4, e5, e6, e7⟩ := r8_cells hBz; have fz := hBz.frozen))))
          all_goals
            have hbel : Below wr.heap.size wr w2 := by repeat (first | (with_reducible exact Below.refl _ _) | (with_reducible refine bt ?_ hb2) | (with_reducible refine bt ?_ (bd _)) | (with_reducible refine bt ?_ (ba _ _)))
            go_wp2_with fail
            go_meet
          · exact ⟨_, rfl, rfl, Blk.new w2 r2.cells _, bt hbel (ba _ _)⟩
          · exact ⟨_, rfl, rfl, r8_set hBz, set8_below hbel (Nat.le_refl _)⟩
          · exact ⟨_, rfl, rfl, r8_set hBz, set8_below hbel (Nat.le_refl _)⟩
        case rest =>
          obtain ⟨g, rfl, rfl, h8, hbc⟩ := hcut
          have HB6 := Lib.hid (Blk.onto hbc HB6.out)
          have Hb := Lib.hid (bt Hb.out hbc)
          have H8 := Lib.hid h8
          clear h8 hbc
          have R8I := Lib.hid r8_info
          go_wp2_with (first
            | (refine wpList_load_blk 28 (.tmp 8) g (cs := r2.cells) rfl rfl rfl ?hb Tryd.underlying28 rfl R8I.out ?_; (case hb => exact H8.out))
            | (refine wpList_store_blk 28 (.tmp 6) (.tmp 45) n6 (old := r.cells) (cs := r2.cells) rfl rfl rfl rfl ?hb R8I.out rfl rfl ?_; (case hb => exact HB6.out)))
          exact ⟨⟨k + 1, t + 64, by have := Ht.out; omega, by omega, by go_num, by rw [Hnext.out]; exact HB6.out.row _, below_setRow Hb.out Hn6.out _⟩, by simp [intOf]; omega⟩
      · have hkn : k = nb T := by unfold nb; have := HTl.out; have := Hp.out; omega
        have hput : absN iv T k = putS iv T := by rw [hkn]; rfl
        have hof : ofF l = (absN iv T k).bytes := by rw [hput, HTe.out, HPe.out]; exact ofF_all l
        generalize absN iv T k = R at hB6 hof
        have HB6 := Lib.hid hB6
        have Hof := Lib.hid hof
        have Hb := Lib.hid hb
        clear hkn hput hof hB6 hb ht
        go_wp2_with fail
        refine (of_any a l.length cap l rfl (by omega) _ (Hl5.out.mono Hb.out) (Hk5.out.mono Hb.out)).mono ?_; rintro e w6 ⟨a5, c5, rfl, hat5, hb6⟩
        rw [show (ofF l).length = 32 from rfl]
        have HB6 := Lib.hid (Blk.onto hb6 HB6.out)
        have Hb := Lib.hid (bt Hb.out hb6)
        have HA5 := Lib.hid (show BytesAt w6 a5 R.bytes by rw [← Hof.out]; exact hat5)
        clear hat5 hb6
        go_wp2_with fail
        go_loopw [11] (fun v wx => ∃ k : Nat, k ≤ 8 ∧ v = .int .i64 (k : Int) ∧ Below w6.heap.size w6 wx) (fun v _ => 8 - (intOf v).toNat)
        case atStart => exact ⟨0, by omega, rfl, Below.refl _ _⟩
        case round =>
          obtain ⟨k, hk, rfl, hb⟩ := hrel
          by_cases hlt : k < 8
          · obtain ⟨b, off, hae, hbl, hc⟩ := bytes_cell (HA5.out.mono hb) (by show 0 < 32; decide)
            obtain ⟨q0, q1, q2, q3⟩ := bytes_at4 R k hlt
            have c0 : wr.cell? ⟨b, off + 4 * k, none⟩ = _ := hc (4 * k) (by show 4 * k < 32; omega)
            have c1 : wr.cell? ⟨b, off + (4 * k + 1), none⟩ = _ := hc (4 * k + 1) (by show 4 * k + 1 < 32; omega)
            have c2 : wr.cell? ⟨b, off + (4 * k + 2), none⟩ = _ := hc (4 * k + 2) (by show 4 * k + 2 < 32; omega)
            have c3' : wr.cell? ⟨b, off + (4 * k + 3), none⟩ = _ := hc (4 * k + 3) (by show 4 * k + 3 < 32; omega)
            have c4 := (Blk.onto hb HB6.out).cell k hlt
            rw [cells_at R k hlt] at c4
            rw [q0] at c0
            rw [q1] at c1
            rw [q2] at c2
            rw [q3] at c3'
            have Hx := Lib.hid (word_back (R.l.getD k 0))
            clear hc q0 q1 q2 q3
            generalize R.l.getD k 0 = x at c0 c1 c2 c3' c4 Hx
            generalize (x >>> 24).toUInt8 = y0 at c0 Hx
            generalize (x >>> 16).toUInt8 = y1 at c1 Hx
            generalize (x >>> 8).toUInt8 = y2 at c2 Hx
            generalize x.toUInt8 = y3 at c3' Hx
            have hm0 := fun t => mul32 t y0.toUInt32 16777216 16777216 rfl
            have hm1 := fun t => mul32 t y1.toUInt32 65536 65536 rfl
            have hm2 := fun t => mul32 t y2.toUInt32 256 256 rfl
            have hne : (uv (y0.toUInt32 * 16777216 + y1.toUInt32 * 65536 + y2.toUInt32 * 256 + y3.toUInt32) != uv x) = false := by rw [Hx.out]; simp
            have hw0 : IntKind.i64.wrap (4 * (k : Int)) = 4 * (k : Int) := IntWalk.i64_in _ (by omega)
            have hw1 : IntKind.i64.wrap (4 * (k : Int) + 1) = 4 * (k : Int) + 1 := IntWalk.i64_in _ (by omega)
            have hw2 : IntKind.i64.wrap (4 * (k : Int) + 2) = 4 * (k : Int) + 2 := IntWalk.i64_in _ (by omega)
            have hw3 : IntKind.i64.wrap (4 * (k : Int) + 3) = 4 * (k : Int) + 3 := IntWalk.i64_in _ (by omega)
            have Hbr := Lib.hid hb
            clear Hx hb
            subst hae
            go_wp2_with fail
            go_quiet (fail)
            all_goals
              go_wp2_with fail
              exact ⟨⟨k + 1, by omega, by go_num, Hbr.out.trans ⟨rfl, rfl, rfl, Nat.le_refl _, fun _ _ => rfl⟩⟩, by simp [intOf]; omega⟩
          · go_wp2_with fail
            go_ret
            exact ⟨rfl, bt (bt Hbel.out Hb.out) hb⟩
theorem shaBlocks_in (hsh : ShownOK) (w : World) (hk : KeysAt w) (a : Option Addr) (len cap : Nat) (l : List UInt8) (h : InBytes w a len cap l) :
    Calls Tryd.prog 8 #[.slice a len cap] w (BoolOut w true) := by
  have h1 := h.1
  subst h1
  exact shaBlocks_any hsh a cap l w (Nat.le_trans h.2.1 h.2.2.1) h.2.2.2 hk
end Go.Proofs.YtmcbhffkaaaijaaDoor
