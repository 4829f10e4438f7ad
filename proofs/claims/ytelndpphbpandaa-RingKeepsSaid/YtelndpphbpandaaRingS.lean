/- Rings of keys: the document's example, step by step. -/
import Derived.Test.YtelndpphbpandaaRingK
import Derived.Test.YtelndpphbpandaaRingT
import Derived.Deep.RegionWith
import Derived.Deep.RegionHeld3
set_option linter.unusedSimpArgs false
set_option linter.unusedVariables false
namespace Go.Proofs.Ytelndpphbpandaa
open Go.RowKit

abbrev L1 (a : Option Addr) : List Value := [.int .i64 1, .slice a 32 32, .int .i64 0, .slice none 0 0, .int .i64 0, .slice none 0 0, .int .i64 0, .int .i64 1]
abbrev L2 (a b : Option Addr) : List Value := [.int .i64 1, .slice a 32 32, .int .i64 0, .slice none 0 0, .int .i64 2, .slice b 32 32, .int .i64 0, .int .i64 2]
abbrev L3 (a b : Option Addr) (l : Int) : List Value := [.int .i64 2, .slice b 32 32, .int .i64 1, .slice a 32 32, .int .i64 0, .slice none 0 0, .int .i64 l, .int .i64 2]
abbrev L4 (b : Option Addr) : List Value := [.int .i64 2, .slice b 32 32, .int .i64 0, .slice none 0 0, .int .i64 0, .slice none 0 0, .int .i64 0, .int .i64 2]
abbrev V1 (a : Option Addr) : Value := .agg #[.int .i64 1, .slice a 32 32, .int .i64 0, .slice none 0 0, .int .i64 0, .slice none 0 0, .int .i64 0, .int .i64 1]
abbrev V2 (a b : Option Addr) : Value := .agg #[.int .i64 1, .slice a 32 32, .int .i64 0, .slice none 0 0, .int .i64 2, .slice b 32 32, .int .i64 0, .int .i64 2]
abbrev V3 (a b : Option Addr) (l : Int) : Value := .agg #[.int .i64 2, .slice b 32 32, .int .i64 1, .slice a 32 32, .int .i64 0, .slice none 0 0, .int .i64 l, .int .i64 2]
abbrev V4 (b : Option Addr) : Value := .agg #[.int .i64 2, .slice b 32 32, .int .i64 0, .slice none 0 0, .int .i64 0, .slice none 0 0, .int .i64 0, .int .i64 2]
abbrev q1 (a : Option Addr) : Rg := ⟨⟨1, a, 32, 32⟩, G0, G0, 0, 1⟩
abbrev q2 (a b : Option Addr) : Rg := ⟨⟨1, a, 32, 32⟩, G0, ⟨2, b, 32, 32⟩, 0, 2⟩
abbrev q3 (a b : Option Addr) (l : Int) : Rg := ⟨⟨2, b, 32, 32⟩, ⟨1, a, 32, 32⟩, G0, l, 2⟩

theorem sh_new (a : Option Addr) (w : World) : Calls Try.prog 10 #[.slice a 32 32] w fun e w' => e = .returned (.tuple #[V1 a, .int .i64 0]) ∧ Below w.heap.size w w' :=
  new_any ⟨0, a, 32, 32⟩ w
theorem sh_next (a : Option Addr) (w : World) : Calls Try.prog 16 #[V1 a] w fun e w' => e = .returned (.tuple #[.int .i64 2, .int .i64 0]) ∧ Below w.heap.size w w' :=
  next_any (q1 a) w (show (0 : Int) ≤ 1 by decide) (show (1 : Int) ≤ 2147483647 by decide)
theorem sh_offer (a b : Option Addr) (w : World) : Calls Try.prog 21 #[V1 a, .int .i64 2, .slice b 32 32] w fun e w' => e = .returned (.tuple #[V2 a b, .int .i64 0]) ∧ Below w.heap.size w w' :=
  offer_any (q1 a) ⟨2, b, 32, 32⟩ w
theorem sh_turn (a b : Option Addr) (w : World) : Calls Try.prog 23 #[V2 a b] w fun e w' => e = .returned (.tuple #[V3 a b 16, .int .i64 0]) ∧ Below w.heap.size w w' :=
  turn_any (q2 a b) w
theorem sh_tick (a b : Option Addr) (l : Int) (h1 : 1 < l) (h2 : l ≤ 16) (w : World) : Calls Try.prog 27 #[V3 a b l] w fun e w' => e = .returned (V3 a b (l - 1)) ∧ Below w.heap.size w w' := by
  have := tick_any (q3 a b l) w (show 0 ≤ l by omega) h2
  rwa [show tickF (q3 a b l) = q3 a b (l - 1) by simp [tickF, h1]] at this
theorem sh_tick1 (a b : Option Addr) (w : World) : Calls Try.prog 27 #[V3 a b 1] w fun e w' => e = .returned (V4 b) ∧ Below w.heap.size w w' :=
  tick_any (q3 a b 1) w (show (0 : Int) ≤ 1 by decide) (show (1 : Int) ≤ 16 by decide)
theorem sh_find1 (a b : Option Addr) (w : World) : Calls Try.prog 18 #[V3 a b 1, .int .i64 1] w fun e w' => e = .returned (.tuple #[.slice a 32 32, .bool true]) ∧ Below w.heap.size w w' :=
  find_any (q3 a b 1) 1 w
theorem sh_find2 (b : Option Addr) (w : World) : Calls Try.prog 18 #[V4 b, .int .i64 1] w fun e w' => e = .returned (.tuple #[.slice none 0 0, .bool false]) ∧ Below w.heap.size w w' :=
  find_any ⟨⟨2, b, 32, 32⟩, G0, G0, 0, 2⟩ 1 w
theorem sh_find3 (a b : Option Addr) (w : World) : Calls Try.prog 18 #[V3 a b 1, .int .i64 2] w fun e w' => e = .returned (.tuple #[.slice b 32 32, .bool true]) ∧ Below w.heap.size w w' :=
  find_any (q3 a b 1) 2 w
theorem sh_right (a b : Option Addr) (w : World) : Calls Try.prog 14 #[V3 a b 16] w fun e w' => e = .returned (.bool true) ∧ Below w.heap.size w w' :=
  right_any ⟨2, b, 32, 32⟩ ⟨1, a, 32, 32⟩ G0 16 2 w
theorem sh_right0 (w : World) : Calls Try.prog 14 #[.agg #[.int .i64 0, .slice none 0 0, .int .i64 0, .slice none 0 0, .int .i64 0, .slice none 0 0, .int .i64 0, .int .i64 1]] w fun e w' => e = .returned (.bool false) ∧ Below w.heap.size w w' :=
  right_any G0 G0 G0 0 1 w
theorem sh_with (a : Option Addr) (w : World) : Calls Try.prog 25 #[V1 a] w fun e w' => e = .returned (V1 a) ∧ Below w.heap.size w w' :=
  with_any (q1 a) w
theorem cells8 {w : World} {b : Nat} {v0 v1 v2 v3 v4 v5 v6 v7 : Value} (h : Blk w b [v0, v1, v2, v3, v4, v5, v6, v7]) :
    w.cell? ⟨b, 0, none⟩ = some v0 ∧ w.cell? ⟨b, 1, none⟩ = some v1 ∧ w.cell? ⟨b, 2, none⟩ = some v2 ∧ w.cell? ⟨b, 3, none⟩ = some v3 ∧ w.cell? ⟨b, 4, none⟩ = some v4 ∧ w.cell? ⟨b, 5, none⟩ = some v5 ∧ w.cell? ⟨b, 6, none⟩ = some v6 ∧ w.cell? ⟨b, 7, none⟩ = some v7 :=
  ⟨h.cell 0 (by simp), h.cell 1 (by simp), h.cell 2 (by simp), h.cell 3 (by simp), h.cell 4 (by simp), h.cell 5 (by simp), h.cell 6 (by simp), h.cell 7 (by simp)⟩
theorem key1 (w : World) : Calls Try.prog 29 #[.int .u8 1] w (KeyOut w 1) := key_any 1 w
theorem key2 (w : World) : Calls Try.prog 29 #[.int .u8 2] w (KeyOut w 2) := key_any 2 w
theorem sh_same (hs : Same11OK) (a : Option Addr) (w : World) (h : BytesAt w a (List.replicate 32 1)) : Calls Try.prog 15 #[V1 a, V1 a] w fun e w' => e = .returned (.bool true) ∧ Below w.heap.size w w' :=
  (hs (q1 a) (q1 a) (List.replicate 32 1) [] [] (List.replicate 32 1) [] [] w ⟨rfl, h, rfl, .inl rfl, rfl, .inl rfl⟩ ⟨rfl, h, rfl, .inl rfl, rfl, .inl rfl⟩)
theorem sh_same2 (hs : Same11OK) (a b : Option Addr) (w : World) (h : BytesAt w a (List.replicate 32 1)) (h2 : BytesAt w b (List.replicate 32 2)) : Calls Try.prog 15 #[V1 a, V2 a b] w fun e w' => e = .returned (.bool false) ∧ Below w.heap.size w w' :=
  (hs (q1 a) (q2 a b) (List.replicate 32 1) [] [] (List.replicate 32 1) [] (List.replicate 32 2) w ⟨rfl, h, rfl, .inl rfl, rfl, .inl rfl⟩ ⟨rfl, h, rfl, .inl rfl, rfl, h2⟩)
theorem rset8_other {w : World} {c b : Nat} {cs : List Value} {v0 v1 v2 v3 v4 v5 v6 v7 : Value} (h : Blk w c cs) (hn : c ≠ b) :
    Blk ((((((((w.setCell ⟨b, 0, none⟩ v0).setCell ⟨b, 1, none⟩ v1).setCell ⟨b, 2, none⟩ v2).setCell ⟨b, 3, none⟩ v3).setCell ⟨b, 4, none⟩ v4).setCell ⟨b, 5, none⟩ v5).setCell ⟨b, 6, none⟩ v6).setCell ⟨b, 7, none⟩ v7) c cs :=
  (((((((h.other ⟨b, 0, none⟩ hn _).other ⟨b, 1, none⟩ hn _).other ⟨b, 2, none⟩ hn _).other ⟨b, 3, none⟩ hn _).other ⟨b, 4, none⟩ hn _).other ⟨b, 5, none⟩ hn _).other ⟨b, 6, none⟩ hn _).other ⟨b, 7, none⟩ hn _

set_option maxRecDepth 100000 in
set_option maxHeartbeats 8000000 in
theorem shown11_of (hsame : Same11OK) (w : World) : Calls Try.prog 8 #[] w fun e w' => e = .returned (.bool true) ∧ Below w.heap.size w w' := by
  have HI := Lib.hid ring_info
  have Hsame := Lib.hid hsame
  clear hsame
  go_enter Try.func8, Try.ntmps8
  go_wp2_with fail
  refine (key1 _).mono ?_; rintro e w1 ⟨b1, rfl, hat1, -, hb1⟩
  have HK1 := Lib.hid hat1
  have Hb := Lib.hid hb1
  clear hat1 hb1
  generalize hA : (some ⟨b1, 0, none⟩ : Option Addr) = a
  have HA := Lib.hid hA
  clear hA
  go_wp2_with fail
  refine (sh_new a _).mono ?_; rintro e w2 ⟨rfl, hb2⟩
  have HK1 := Lib.hid ((HK1.out.up hb2).alloc (.cells (L1 a).toArray 26))
  have HB1 := Lib.hid (Blk.new w2 (L1 a) 26)
  have Hb := Lib.hid (bt (bt Hb.out hb2) (ba w2 (.cells (L1 a).toArray 26)))
  clear hb2
  go_wp2_with fail
  generalize World.alloc w2 _ = W2 at HK1 HB1 Hb ⊢
  generalize w2.heap.size = n1 at HB1 ⊢
  refine (sh_next a _).mono ?_; rintro e w3 ⟨rfl, hb3⟩
  have HK1 := Lib.hid (HK1.out.up hb3)
  have HB1 := Lib.hid (HB1.out.up hb3)
  have Hb := Lib.hid (bt Hb.out hb3)
  clear hb3
  go_wp2_with fail
  go_cut [5, 6] (fun v5 v6 wx => ∃ b5 b2 : Nat, v5 = .pointer (some ⟨b5, 0, none⟩) ∧ v6 = .int .i64 0 ∧ Blk wx b5 (L2 a (some ⟨b2, 0, none⟩)) ∧ Blk wx b2 (B8s (List.replicate 32 2)) ∧ Below w3.heap.size w3 wx)
  case first =>
    have kA := HB1.out
    obtain ⟨c0, c1, c2, c3, c4, c5, c6, c7⟩ := cells8 kA
    have lA := kA.lt
    go_region_with (first
      | (go_at_call 29; ((with_reducible refine Calls.mono (key2 _) ?_); rintro e w4 ⟨b2, rfl, kK, lb2, hb4⟩; have lk2 := kK.lt; have kA : Blk w4 n1 (L1 a) := Blk.up (by repeat (first | (with_reducible exact kA) | (with_reducible refine Blk.drew ?_) | (with_reducible refine Blk.alloc ?_ _))) hb4; have lA := kA.lt; obtain ⟨c0, c1, c2, c3, c4, c5, c6, c7⟩ := cells8 kA; have hzw4 := hb4.size; (try (have z1 := Blk.up (show Blk _ _ R0.L from (by repeat (first | (with_reducible exact z1) | (with_reducible refine Blk.drew ?_) | (with_reducible refine Blk.alloc ?_ _)))) hb4; have fz1 := z1.frozen; have lz1 := z1.lt; obtain ⟨x0, x1, x2, x3, x4, x5, x6, x7⟩ := cells8 z1)); (try (have z1 := Blk.up (Blk.new _ R0.L _) hb4; have fz1 := z1.frozen; have lz1 := z1.lt; obtain ⟨x0, x1, x2, x3, x4, x5, x6, x7⟩ := cells8 z1)); (try (have z1 := Blk.up (Blk.new _ R0.L _).drew hb4; have fz1 := z1.frozen; have lz1 := z1.lt; obtain ⟨x0, x1, x2, x3, x4, x5, x6, x7⟩ := cells8 z1))))
      | (go_at_call 21; ((with_reducible refine Calls.mono (sh_offer a _ _) ?_); rintro e w5 ⟨rfl, hb5⟩; have kK : Blk w5 b2 (B8s (List.replicate 32 2)) := Blk.up (by repeat (first | (with_reducible exact kK) | (with_reducible refine Blk.drew ?_) | (with_reducible refine Blk.alloc ?_ _))) hb5; have kA : Blk w5 n1 (L1 a) := Blk.up (by repeat (first | (with_reducible exact kA) | (with_reducible refine Blk.drew ?_) | (with_reducible refine Blk.alloc ?_ _))) hb5; have lA := kA.lt; obtain ⟨c0, c1, c2, c3, c4, c5, c6, c7⟩ := cells8 kA; have hzw5 := hb5.size; (try (have z1 := Blk.up (show Blk _ _ R0.L from (by repeat (first | (with_reducible exact z1) | (with_reducible refine Blk.drew ?_) | (with_reducible refine Blk.alloc ?_ _)))) hb5; have fz1 := z1.frozen; have lz1 := z1.lt; obtain ⟨x0, x1, x2, x3, x4, x5, x6, x7⟩ := cells8 z1)); (try (have z1 := Blk.up (Blk.new _ R0.L _) hb5; have fz1 := z1.frozen; have lz1 := z1.lt; obtain ⟨x0, x1, x2, x3, x4, x5, x6, x7⟩ := cells8 z1)); (try (have z1 := Blk.up (Blk.new _ R0.L _).drew hb5; have fz1 := z1.frozen; have lz1 := z1.lt; obtain ⟨x0, x1, x2, x3, x4, x5, x6, x7⟩ := cells8 z1)))))
    all_goals
      have hbel : Below w3.heap.size w3 w5 := by repeat (first | (with_reducible exact Below.refl _ _) | (with_reducible refine bt ?_ hb5) | (with_reducible refine bt ?_ hb4) | (with_reducible refine bt ?_ (bd _)) | (with_reducible refine bt ?_ (ba _ _)))
      go_wp2_with fail
      go_meet
    · exact ⟨w5.heap.size, b2, rfl, rfl, Blk.new w5 (L2 a _) _, kK.alloc _, bt hbel (ba _ _)⟩
    · have z : Blk w5 w4.heap.size R0.L := z1
      have hle : w3.heap.size ≤ w4.heap.size := by have := hb4.size; simp at this; omega
      exact ⟨w4.heap.size, b2, rfl, rfl, rset8 z, rset8_other kK (Nat.ne_of_lt lk2), rset8_below hbel hle⟩
    · have z : Blk w5 w3.heap.size R0.L := z1
      have hne : b2 ≠ w3.heap.size := by have := lb2; simp at this; omega
      exact ⟨w3.heap.size, b2, rfl, rfl, rset8 z, rset8_other kK hne, rset8_below hbel (Nat.le_refl _)⟩
    · exact ⟨w5.heap.size, b2, rfl, rfl, Blk.new w5 (L2 a _) _, kK.alloc _, bt hbel (ba _ _)⟩
    · have z : Blk w5 w4.heap.size R0.L := z1
      have hle : w3.heap.size ≤ w4.heap.size := by have := hb4.size; simp at this; omega
      exact ⟨w4.heap.size, b2, rfl, rfl, rset8 z, rset8_other kK (Nat.ne_of_lt lk2), rset8_below hbel hle⟩
    · have z : Blk w5 w4.heap.size R0.L := z1
      have hle : w3.heap.size ≤ w4.heap.size := by have := hb4.size; simp at this; omega
      exact ⟨w4.heap.size, b2, rfl, rfl, rset8 z, rset8_other kK (Nat.ne_of_lt lk2), rset8_below hbel hle⟩
    · have z : Blk w5 w3.heap.size R0.L := z1
      have hne : b2 ≠ w3.heap.size := by have := lb2; simp at this; omega
      exact ⟨w3.heap.size, b2, rfl, rfl, rset8 z, rset8_other kK hne, rset8_below hbel (Nat.le_refl _)⟩
    · have z : Blk w5 w3.heap.size R0.L := z1
      have hne : b2 ≠ w3.heap.size := by have := lb2; simp at this; omega
      exact ⟨w3.heap.size, b2, rfl, rfl, rset8 z, rset8_other kK hne, rset8_below hbel (Nat.le_refl _)⟩
  case rest =>
    obtain ⟨b5, b2, rfl, rfl, hB5, hK2, hbc⟩ := hcut
    have HK1 := Lib.hid (HK1.out.up hbc)
    have HB1 := Lib.hid (HB1.out.up hbc)
    have Hb := Lib.hid (bt Hb.out hbc)
    generalize hBe : (some ⟨b2, 0, none⟩ : Option Addr) = b at hB5
    have HBe := Lib.hid hBe
    have HB5 := Lib.hid hB5
    have HK2 := Lib.hid hK2
    clear hBe hbc hK2
    obtain ⟨c0, c1, c2, c3, c4, c5, c6, c7⟩ := cells8 hB5
    clear hB5
    go_wp2_with fail
    refine (sh_turn a b _).mono ?_; rintro e w4 ⟨rfl, hb4⟩
    clear c0 c1 c2 c3 c4 c5 c6 c7
    have HK1 := Lib.hid (HK1.out.up hb4)
    have HK2 := Lib.hid (HK2.out.up hb4)
    have HB1 := Lib.hid (HB1.out.up hb4)
    have HB5 := Lib.hid (HB5.out.up hb4)
    have Hb := Lib.hid (bt Hb.out hb4)
    clear hb4
    have Hl4 := Lib.hid (show b1 < w4.heap.size ∧ b2 < w4.heap.size ∧ n1 < w4.heap.size ∧ b5 < w4.heap.size from ⟨HK1.out.lt, HK2.out.lt, HB1.out.lt, HB5.out.lt⟩)
    go_wp2_with fail
    generalize hW : World.alloc (World.alloc w4 _) _ = W
    obtain ⟨hB7, hB9, hb⟩ := ring2_world (a := L3 a b 16) (b := L3 a b 16) hW
    clear hW
    have HK1 := Lib.hid (HK1.out.up hb)
    have HK2 := Lib.hid (HK2.out.up hb)
    have HB1 := Lib.hid (HB1.out.up hb)
    have HB5 := Lib.hid (HB5.out.up hb)
    have Hlt := Lib.hid (show b1 < w4.heap.size + 1 ∧ b2 < w4.heap.size + 1 ∧ n1 < w4.heap.size + 1 ∧ b5 < w4.heap.size + 1 ∧ w4.heap.size < w4.heap.size + 1 ∧ w.heap.size ≤ w4.heap.size + 1 from ⟨Nat.lt_succ_of_lt Hl4.out.1, Nat.lt_succ_of_lt Hl4.out.2.1, Nat.lt_succ_of_lt Hl4.out.2.2.1, Nat.lt_succ_of_lt Hl4.out.2.2.2, Nat.lt_succ_self _, by have := Hb.out.size; omega⟩)
    have Hb := Lib.hid (bt Hb.out hb)
    have HB7 := Lib.hid hB7
    have HB9 := Lib.hid hB9
    clear hB7 hB9 hb
    clear Hl4
    generalize w4.heap.size + 1 = n9 at HB9 Hlt ⊢
    generalize hn7 : w4.heap.size = n7 at HB7 Hlt ⊢
    clear hn7
    go_loopw [10] (fun v wr => ∃ k : Nat, k ≤ 15 ∧ v = .int .i64 k ∧ Blk wr n9 (L3 a b (16 - (k : Int))) ∧ Below n9 W wr) (fun v _ => 15 - (intOf v).toNat)
    case atStart => exact ⟨0, by omega, rfl, HB9.out, Below.refl _ _⟩
    case round =>
      obtain ⟨k, hk, rfl, hB, hbw⟩ := hrel
      have HBx := Lib.hid hB
      have Hbw := Lib.hid hbw
      clear hB hbw
      by_cases hlt : k < 15
      · obtain ⟨c0, c1, c2, c3, c4, c5, c6, c7⟩ := cells8 HBx.out
        have lB := HBx.out.lt
        go_wp2_with (go_at_call 27; refine (sh_tick a b (16 - (k : Int)) (by omega) (by omega) _).mono ?_; rintro e w5 ⟨rfl, hb5⟩; have HBy := Lib.hid (HBx.out.up hb5); have Hby := Lib.hid (Hbw.out.trans (hb5.mono (Nat.le_of_lt lB))); clear hb5; go_wp2_with (refine wpList_store_blk 26 (.tmp 9) (.tmp 45) n9 (old := L3 a b (16 - (k : Int))) (cs := L3 a b (16 - (k : Int) - 1)) rfl rfl rfl rfl ?hb HI.out rfl rfl ?_; (case hb => exact HBy.out)))
        go_roundw
        case rel => exact ⟨k + 1, by omega, by go_num, by rw [show 16 - ((k + 1 : Nat) : Int) = 16 - (k : Int) - 1 by omega]; exact HBy.out.row _, below_setRow Hby.out (Nat.le_refl _) _⟩
        case measure => simp [intOf]; omega
      · have HBz := Lib.hid (show Blk wr n9 (L3 a b 1) by have := HBx.out; rwa [show 16 - (k : Int) = 1 by omega] at this)
        have h15 : k = 15 := by omega
        have hd : ((k : Int) < 15) = False := by simp; omega
        have HK1 := Lib.hid (HK1.out.below Hbw.out Hlt.out.1)
        have HK2 := Lib.hid (HK2.out.below Hbw.out Hlt.out.2.1)
        have HB1 := Lib.hid (HB1.out.below Hbw.out Hlt.out.2.2.1)
        have HB5 := Lib.hid (HB5.out.below Hbw.out Hlt.out.2.2.2.1)
        have HB7 := Lib.hid (HB7.out.below Hbw.out Hlt.out.2.2.2.2.1)
        have Hb := Lib.hid (Hb.out.trans (Hbw.out.mono Hlt.out.2.2.2.2.2))
        clear h15 hlt HBx
        obtain ⟨c0, c1, c2, c3, c4, c5, c6, c7⟩ := cells8 HBz.out
        go_wp2_with fail
        refine (sh_find1 a b _).mono ?_; rintro e w5 ⟨rfl, hb5⟩
        have HBz := Lib.hid (HBz.out.up hb5)
        have Hx := Lib.hid hb5
        clear hb5 c0 c1 c2 c3 c4 c5 c6 c7
        obtain ⟨c0, c1, c2, c3, c4, c5, c6, c7⟩ := cells8 HBz.out
        go_wp2_with fail
        refine (sh_tick1 a b _).mono ?_; rintro e w6 ⟨rfl, hb6⟩
        have HBz := Lib.hid (HBz.out.up hb6)
        have Hx := Lib.hid (bt Hx.out hb6)
        clear hb6 c0 c1 c2 c3 c4 c5 c6 c7
        go_wp2_with fail
        refine (sh_find2 b _).mono ?_; rintro e w7 ⟨rfl, hb7⟩
        have HBz := Lib.hid (HBz.out.up hb7)
        have Hx := Lib.hid (bt Hx.out hb7)
        clear hb7
        obtain ⟨c0, c1, c2, c3, c4, c5, c6, c7⟩ := cells8 HBz.out
        go_wp2_with fail
        refine (sh_find3 a b _).mono ?_; rintro e w8 ⟨rfl, hb8⟩
        clear c0 c1 c2 c3 c4 c5 c6 c7
        have Hx := Lib.hid (bt Hx.out hb8)
        clear hb8 HBz
        have HK1 := Lib.hid (HK1.out.up Hx.out)
        have HK2 := Lib.hid (HK2.out.up Hx.out)
        have HB1 := Lib.hid (HB1.out.up Hx.out)
        have HB5 := Lib.hid (HB5.out.up Hx.out)
        have HB7 := Lib.hid (HB7.out.up Hx.out)
        have Hb := Lib.hid (bt Hb.out Hx.out)
        have HP1 := Lib.hid (show BytesAt w8 a (List.replicate 32 1) by rw [← HA.out]; exact HK1.out.bytes)
        have HP2 := Lib.hid (show BytesAt w8 b (List.replicate 32 2) by rw [← HBe.out]; exact HK2.out.bytes)
        clear HK1 HK2 hd Hx
        have KS := Lib.hid (show ∀ w', Below w8.heap.size w8 w' → (Below w8.heap.size w8 w' ∧ w'.cell? ⟨n1, 0, none⟩ = some (.int .i64 1) ∧ w'.cell? ⟨n1, 1, none⟩ = some (.slice a 32 32) ∧ w'.cell? ⟨n1, 2, none⟩ = some (.int .i64 0) ∧ w'.cell? ⟨n1, 3, none⟩ = some (.slice none 0 0) ∧ w'.cell? ⟨n1, 4, none⟩ = some (.int .i64 0) ∧ w'.cell? ⟨n1, 5, none⟩ = some (.slice none 0 0) ∧ w'.cell? ⟨n1, 6, none⟩ = some (.int .i64 0) ∧ w'.cell? ⟨n1, 7, none⟩ = some (.int .i64 1) ∧ w'.cell? ⟨b5, 0, none⟩ = some (.int .i64 1) ∧ w'.cell? ⟨b5, 1, none⟩ = some (.slice a 32 32) ∧ w'.cell? ⟨b5, 2, none⟩ = some (.int .i64 0) ∧ w'.cell? ⟨b5, 3, none⟩ = some (.slice none 0 0) ∧ w'.cell? ⟨b5, 4, none⟩ = some (.int .i64 2) ∧ w'.cell? ⟨b5, 5, none⟩ = some (.slice b 32 32) ∧ w'.cell? ⟨b5, 6, none⟩ = some (.int .i64 0) ∧ w'.cell? ⟨b5, 7, none⟩ = some (.int .i64 2) ∧ w'.cell? ⟨n7, 0, none⟩ = some (.int .i64 2) ∧ w'.cell? ⟨n7, 1, none⟩ = some (.slice b 32 32) ∧ w'.cell? ⟨n7, 2, none⟩ = some (.int .i64 1) ∧ w'.cell? ⟨n7, 3, none⟩ = some (.slice a 32 32) ∧ w'.cell? ⟨n7, 4, none⟩ = some (.int .i64 0) ∧ w'.cell? ⟨n7, 5, none⟩ = some (.slice none 0 0) ∧ w'.cell? ⟨n7, 6, none⟩ = some (.int .i64 16) ∧ w'.cell? ⟨n7, 7, none⟩ = some (.int .i64 2)) from fun w' hb => by
          obtain ⟨c0, c1, c2, c3, c4, c5, c6, c7⟩ := cells8 (HB1.out.up hb)
          obtain ⟨d0, d1, d2, d3, d4, d5, d6, d7⟩ := cells8 (HB5.out.up hb)
          obtain ⟨e0, e1, e2, e3, e4, e5, e6, e7⟩ := cells8 (HB7.out.up hb)
          exact ⟨hb, c0, c1, c2, c3, c4, c5, c6, c7, d0, d1, d2, d3, d4, d5, d6, d7, e0, e1, e2, e3, e4, e5, e6, e7⟩)
        obtain ⟨hS0, c0, c1, c2, c3, c4, c5, c6, c7, d0, d1, d2, d3, d4, d5, d6, d7, e0, e1, e2, e3, e4, e5, e6, e7⟩ := KS.out w8 (Below.refl _ _)
        go_wp2_with fail
        go_region_held3 (fun w' => Below w8.heap.size w8 w' ∧ w'.cell? ⟨n1, 0, none⟩ = some (.int .i64 1) ∧ w'.cell? ⟨n1, 1, none⟩ = some (.slice a 32 32) ∧ w'.cell? ⟨n1, 2, none⟩ = some (.int .i64 0) ∧ w'.cell? ⟨n1, 3, none⟩ = some (.slice none 0 0) ∧ w'.cell? ⟨n1, 4, none⟩ = some (.int .i64 0) ∧ w'.cell? ⟨n1, 5, none⟩ = some (.slice none 0 0) ∧ w'.cell? ⟨n1, 6, none⟩ = some (.int .i64 0) ∧ w'.cell? ⟨n1, 7, none⟩ = some (.int .i64 1) ∧ w'.cell? ⟨b5, 0, none⟩ = some (.int .i64 1) ∧ w'.cell? ⟨b5, 1, none⟩ = some (.slice a 32 32) ∧ w'.cell? ⟨b5, 2, none⟩ = some (.int .i64 0) ∧ w'.cell? ⟨b5, 3, none⟩ = some (.slice none 0 0) ∧ w'.cell? ⟨b5, 4, none⟩ = some (.int .i64 2) ∧ w'.cell? ⟨b5, 5, none⟩ = some (.slice b 32 32) ∧ w'.cell? ⟨b5, 6, none⟩ = some (.int .i64 0) ∧ w'.cell? ⟨b5, 7, none⟩ = some (.int .i64 2) ∧ w'.cell? ⟨n7, 0, none⟩ = some (.int .i64 2) ∧ w'.cell? ⟨n7, 1, none⟩ = some (.slice b 32 32) ∧ w'.cell? ⟨n7, 2, none⟩ = some (.int .i64 1) ∧ w'.cell? ⟨n7, 3, none⟩ = some (.slice a 32 32) ∧ w'.cell? ⟨n7, 4, none⟩ = some (.int .i64 0) ∧ w'.cell? ⟨n7, 5, none⟩ = some (.slice none 0 0) ∧ w'.cell? ⟨n7, 6, none⟩ = some (.int .i64 16) ∧ w'.cell? ⟨n7, 7, none⟩ = some (.int .i64 2))
          (first
            | (go_split_ands; exact KS.out _ (bt (by assumption) hc1))
            | (go_split_ands; exact KS.out _ (bt (by assumption) hc2))
            | (go_split_ands; exact KS.out _ (bt (by assumption) hc3))
            | (go_split_ands; exact KS.out _ (bt (by assumption) hc4))
            | (go_split_ands; exact KS.out _ (bt (by assumption) hc5))
            | (go_split_ands; exact KS.out _ (bt (by assumption) hc6))
            | (go_split_ands; exact KS.out _ (bt (by assumption) hc7))
            | (exact KS.out _ (bd _))
            | (go_split_ands; exact KS.out _ (by assumption))
            | go_keep)
          (first
            | (go_at_call 29; go_split_ands; (with_reducible refine Calls.mono (key1 _) ?_); rintro e x1 ⟨k1, rfl, hk1, -, hc1⟩)
            | (go_at_call 29; go_split_ands; (with_reducible refine Calls.mono (key2 _) ?_); rintro e x2 ⟨k2, rfl, hk2, -, hc2⟩)
            | (go_at_call 20; go_split_ands; (with_reducible refine Calls.mono (same01_any a (some ⟨k1, 0, none⟩) 32 32 32 32 (List.replicate 32 1) (List.replicate 32 1) _ (by simp) (by simp) (HP1.out.mono (by assumption)) hk1.bytes) ?_); rintro e x3 ⟨rfl, rfl⟩)
            | (go_at_call 20; go_split_ands; (with_reducible refine Calls.mono (same01_any b (some ⟨k2, 0, none⟩) 32 32 32 32 (List.replicate 32 2) (List.replicate 32 2) _ (by simp) (by simp) (HP2.out.mono (by assumption)) hk2.bytes) ?_); rintro e x3 ⟨rfl, rfl⟩)
            | (go_at_call 14; go_split_ands; (with_reducible refine Calls.mono (sh_right a b _) ?_); rintro e x4 ⟨rfl, hc3⟩)
            | (go_at_call 14; go_split_ands; (with_reducible refine Calls.mono (sh_right0 _) ?_); rintro e x5 ⟨rfl, hc4⟩)
            | (go_at_call 25; go_split_ands; (with_reducible refine Calls.mono (sh_with a _) ?_); rintro e x6 ⟨rfl, hc5⟩)
            | (go_at_call 15; go_split_ands; (with_reducible refine Calls.mono (sh_same Hsame.out a _ (HP1.out.mono (by assumption))) ?_); rintro e x7 ⟨rfl, hc6⟩)
            | (go_at_call 15; go_split_ands; (with_reducible refine Calls.mono (sh_same2 Hsame.out a b _ (HP1.out.mono (by assumption)) (HP2.out.mono (by assumption))) ?_); rintro e x8 ⟨rfl, hc7⟩))
        go_split_ands
        go_wp2_with fail
        go_ret
        exact ⟨rfl, bt Hb.out (by assumption)⟩
end Go.Proofs.Ytelndpphbpandaa
