/- The document's examples: the walk of shown. -/
import Derived.Test.YtmcbhffkaaaijaaDoorShaL
import Derived.Lib.SlBytesConst
set_option linter.unusedSimpArgs false
set_option linter.unusedVariables false
namespace Go.Proofs.YtmcbhffkaaaijaaDoor
open Go.RowKit

def ofA : List UInt8 := ofF []
def ofB : List UInt8 := ofF [97, 98, 99]
def hexA : List UInt8 := hexF ofA
def hexB : List UInt8 := hexF ofB
set_option maxRecDepth 100000 in
theorem hexA_eq : hexA = [101, 51, 98, 48, 99, 52, 52, 50, 57, 56, 102, 99, 49, 99, 49, 52, 57, 97, 102, 98, 102, 52, 99, 56, 57, 57, 54, 102, 98, 57, 50, 52, 50, 55, 97, 101, 52, 49, 101, 52, 54, 52, 57, 98, 57, 51, 52, 99, 97, 52, 57, 53, 57, 57, 49, 98, 55, 56, 53, 50, 98, 56, 53, 53] := by decide +kernel
set_option maxRecDepth 100000 in
theorem hexB_eq : hexB = [98, 97, 55, 56, 49, 54, 98, 102, 56, 102, 48, 49, 99, 102, 101, 97, 52, 49, 52, 49, 52, 48, 100, 101, 53, 100, 97, 101, 50, 50, 50, 51, 98, 48, 48, 51, 54, 49, 97, 51, 57, 54, 49, 55, 55, 97, 57, 99, 98, 52, 49, 48, 102, 102, 54, 49, 102, 50, 48, 48, 49, 53, 97, 100] := by decide +kernel
def z70 : List UInt8 := List.replicate 70 0
def z70v : List Value := B8s z70
theorem Blk.tow {w w' : World} {b : Nat} {cs : List Value} (hb : Below w.heap.size w w') (h : Blk w b cs) : Blk w' b cs := h.below hb h.lt
def zeroHash : List Value := [.int .u32 0, .int .u32 0, .int .u32 0, .int .u32 0, .int .u32 0, .int .u32 0, .int .u32 0, .int .u32 0, .int .i64 0, .slice none 0 0]
theorem zeroAt {w : World} {b : Nat} (h : Blk w b zeroHash) : Blk w b (hashC ⟨0, 0, 0, 0, 0, 0, 0, 0⟩ 0 none 0 0) := h
theorem hash_set10 {w : World} {b : Nat} {r r' : R8} {n n' : Int} {a a' : Option Addr} {len len' cap cap' : Nat} (h : Blk w b (hashC r n a len cap)) :
    Blk ((((((((((w.setCell ⟨b, 0, none⟩ (.int .u32 (uv r'.a))).setCell ⟨b, 1, none⟩ (.int .u32 (uv r'.b))).setCell ⟨b, 2, none⟩ (.int .u32 (uv r'.c))).setCell ⟨b, 3, none⟩ (.int .u32 (uv r'.d))).setCell ⟨b, 4, none⟩ (.int .u32 (uv r'.e))).setCell ⟨b, 5, none⟩ (.int .u32 (uv r'.f))).setCell ⟨b, 6, none⟩ (.int .u32 (uv r'.g))).setCell ⟨b, 7, none⟩ (.int .u32 (uv r'.h))).setCell ⟨b, 8, none⟩ (.int .i64 n')).setCell ⟨b, 9, none⟩ (.slice a' len' cap')) b (hashC r' n' a' len' cap') :=
  (((((((((h.set 0 _).set 1 _).set 2 _).set 3 _).set 4 _).set 5 _).set 6 _).set 7 _).set 8 _).set 9 _
theorem set10_below {w0 w : World} {B b : Nat} {v0 v1 v2 v3 v4 v5 v6 v7 v8 v9 : Value} (h : Below B w0 w) (hb : B ≤ b) :
    Below B w0 ((((((((((w.setCell ⟨b, 0, none⟩ v0).setCell ⟨b, 1, none⟩ v1).setCell ⟨b, 2, none⟩ v2).setCell ⟨b, 3, none⟩ v3).setCell ⟨b, 4, none⟩ v4).setCell ⟨b, 5, none⟩ v5).setCell ⟨b, 6, none⟩ v6).setCell ⟨b, 7, none⟩ v7).setCell ⟨b, 8, none⟩ v8).setCell ⟨b, 9, none⟩ v9) :=
  (((((((((h.setCell hb _).setCell hb _).setCell hb _).setCell hb _).setCell hb _).setCell hb _).setCell hb _).setCell hb _).setCell hb _).setCell hb _
theorem hash_set10b {w0 w : World} {B b : Nat} {r : R8} {n : Int} {a : Option Addr} {len cap : Nat} (h : Blk w b (hashC r n a len cap)) (hb : Below B w0 w) (hB : B ≤ b) (r' : R8) (n' : Int) (a' : Option Addr) (len' cap' : Nat) :
    Blk ((((((((((w.setCell ⟨b, 0, none⟩ (.int .u32 (uv r'.a))).setCell ⟨b, 1, none⟩ (.int .u32 (uv r'.b))).setCell ⟨b, 2, none⟩ (.int .u32 (uv r'.c))).setCell ⟨b, 3, none⟩ (.int .u32 (uv r'.d))).setCell ⟨b, 4, none⟩ (.int .u32 (uv r'.e))).setCell ⟨b, 5, none⟩ (.int .u32 (uv r'.f))).setCell ⟨b, 6, none⟩ (.int .u32 (uv r'.g))).setCell ⟨b, 7, none⟩ (.int .u32 (uv r'.h))).setCell ⟨b, 8, none⟩ (.int .i64 n')).setCell ⟨b, 9, none⟩ (.slice a' len' cap')) b (hashC r' n' a' len' cap') ∧ Below B w0 ((((((((((w.setCell ⟨b, 0, none⟩ (.int .u32 (uv r'.a))).setCell ⟨b, 1, none⟩ (.int .u32 (uv r'.b))).setCell ⟨b, 2, none⟩ (.int .u32 (uv r'.c))).setCell ⟨b, 3, none⟩ (.int .u32 (uv r'.d))).setCell ⟨b, 4, none⟩ (.int .u32 (uv r'.e))).setCell ⟨b, 5, none⟩ (.int .u32 (uv r'.f))).setCell ⟨b, 6, none⟩ (.int .u32 (uv r'.g))).setCell ⟨b, 7, none⟩ (.int .u32 (uv r'.h))).setCell ⟨b, 8, none⟩ (.int .i64 n')).setCell ⟨b, 9, none⟩ (.slice a' len' cap')) :=
  ⟨hash_set10 h, set10_below hb hB⟩
theorem hex_of (D S : List UInt8) (hS : S = hexF D) (hl : D.length = 32) (a : Option Addr) (ca : Nat) (w : World) (h : BytesAt w a D) :
    Calls Tryd.prog 31 #[.slice a 32 ca] w (StrOut w S) := by
  subst hS; exact hex_any a 32 ca D hl.symm (by decide) w h
theorem of_nil (D : List UInt8) (hD : D = ofA) (w : World) (hk : KeysAt w) : Calls Tryd.prog 12 #[.slice none 0 0] w fun e w' => ∃ a c, e = .returned (.slice a 32 c) ∧ BytesAt w' a D ∧ Below w.heap.size w w' := by
  subst hD; exact of_any none 0 0 [] rfl (by decide) w (at_none w) hk
theorem of_abc (D : List UInt8) (hD : D = ofB) (w : World) (b : Option Addr) (hb : BytesAt w b [97, 98, 99]) (hk : KeysAt w) : Calls Tryd.prog 12 #[.slice b 3 3] w fun e w' => ∃ a c, e = .returned (.slice a 32 c) ∧ BytesAt w' a D ∧ Below w.heap.size w w' := by
  subst hD; exact of_any b 3 3 [97, 98, 99] rfl (by decide) w hb hk
theorem at_of_block {w : World} {b : Nat} {cs : List Value} {T : TypeId} {fr : Nat × Nat} (h : w.heap[b]? = some (.cells cs.toArray T fr)) : At w (some ⟨b, 0, none⟩) cs := by
  have hb : b < w.heap.size := by
    rcases Nat.lt_or_ge b w.heap.size with h' | h'
    · exact h'
    · rw [Array.getElem?_eq_none h'] at h; cases h
  refine .inr ⟨b, 0, rfl, hb, fun i hi => ?_⟩
  rw [Nat.zero_add]; simp [World.cell?, h, List.getD, hi]
theorem at_newf (w : World) (cs : List Value) (T : TypeId) (fr : Nat × Nat) : At (w.alloc (.cells cs.toArray T fr)) (some ⟨w.heap.size, 0, none⟩) cs :=
  at_of_block (T := T) (fr := fr) (by simp only [World.alloc, Array.getElem?_push, if_true])
theorem at_z70 (w : World) (n : Nat) (h : n = w.heap.size) : BytesAt (w.alloc (.cells z70v.toArray 5)) (some ⟨n, 0, none⟩) z70 := h ▸ at_new w z70v _
theorem at_new' (w : World) (cs : List Value) (T : TypeId) (n : Nat) (h : n = w.heap.size) : At (w.alloc (.cells cs.toArray T)) (some ⟨n, 0, none⟩) cs := h ▸ at_new w cs T
theorem put_z70 (b : Option Addr) (w : World) (hm : BytesAt w b z70) (hk : KeysAt w) :
    Calls Tryd.prog 23 #[.agg (hashC iv 0 none 0 0).toArray, .slice b 70 70] w fun e w' => ∃ R a c, e = .returned (.agg (hashC R 70 a 6 c).toArray) ∧ Below w.heap.size w w' :=
  (put_new b 70 70 z70 rfl (by decide) w hm hk).mono fun _ _ ⟨a, c, h1, _, h2⟩ => ⟨_, a, c, h1, h2⟩

set_option maxRecDepth 100000 in
set_option maxHeartbeats 4000000 in
theorem shown_any (w : World) (hk : KeysAt w) :
    Calls Tryd.prog 10 #[] w (BoolOut w true) := by
  have HK := Lib.hid hk
  obtain ⟨DA, SA, hDA, hSA, hlA, hA⟩ : ∃ DA SA, DA = ofA ∧ SA = hexF DA ∧ DA.length = 32 ∧ (SA == [101, 51, 98, 48, 99, 52, 52, 50, 57, 56, 102, 99, 49, 99, 49, 52, 57, 97, 102, 98, 102, 52, 99, 56, 57, 57, 54, 102, 98, 57, 50, 52, 50, 55, 97, 101, 52, 49, 101, 52, 54, 52, 57, 98, 57, 51, 52, 99, 97, 52, 57, 53, 57, 57, 49, 98, 55, 56, 53, 50, 98, 56, 53, 53]) = true := ⟨_, _, rfl, rfl, rfl, by rw [show hexF ofA = _ from hexA_eq]; decide +kernel⟩
  obtain ⟨DB, SB, hDB, hSB, hlB, hB⟩ : ∃ DB SB, DB = ofB ∧ SB = hexF DB ∧ DB.length = 32 ∧ (SB == [98, 97, 55, 56, 49, 54, 98, 102, 56, 102, 48, 49, 99, 102, 101, 97, 52, 49, 52, 49, 52, 48, 100, 101, 53, 100, 97, 101, 50, 50, 50, 51, 98, 48, 48, 51, 54, 49, 97, 51, 57, 54, 49, 55, 55, 97, 57, 99, 98, 52, 49, 48, 102, 102, 54, 49, 102, 50, 48, 48, 49, 53, 97, 100]) = true := ⟨_, _, rfl, rfl, rfl, by rw [show hexF ofB = _ from hexB_eq]; decide +kernel⟩
  have HofA := Lib.hid (of_nil DA hDA)
  have HofB := Lib.hid (of_abc DB hDB)
  have HhxA := Lib.hid (hex_of DA SA hSA hlA)
  have HhxB := Lib.hid (hex_of DB SB hSB hlB)
  clear hDA hSA hlA hDB hSB hlB
  obtain ⟨z, Z, hmk, hatz, hputz⟩ : ∃ (z : List UInt8) (Z : List Value), (∀ w, (Instr.makeSlice 22 (.int .i64 70) (.int .i64 70)).run Tryd.prog w = .ok (.slice (some ⟨w.heap.size, 0, none⟩) 70 70) (w.alloc (.cells Z.toArray 5))) ∧
      (∀ (w : World) (n : Nat), n = w.heap.size → BytesAt (w.alloc (.cells Z.toArray 5)) (some ⟨n, 0, none⟩) z) ∧
      (∀ (b : Option Addr) (w : World), BytesAt w b z → KeysAt w → Calls Tryd.prog 23 #[.agg (hashC iv 0 none 0 0).toArray, .slice b 70 70] w fun e w' => ∃ R a c, e = .returned (.agg (hashC R 70 a 6 c).toArray) ∧ Below w.heap.size w w') :=
    ⟨z70, z70v, fun w => run_mk elemB w .i64 .i64 70 (by decide) (by decide) rfl, at_z70, put_z70⟩
  have Hatz := Lib.hid hatz
  have Hputz := Lib.hid hputz
  clear hatz hputz
  have HA := Lib.hid hA
  have HBs := Lib.hid hB
  clear hk hA hB
  go_enter Tryd.func10, Tryd.ntmps10
  go_wp2_with fail
  go_cut [1] (fun v wx => ∃ (g : Nat) (R : R8) (a : Option Addr) (c : Nat), v = .pointer (some ⟨g, 0, none⟩) ∧ Blk wx g (hashC R 70 a 6 c) ∧ Below w.heap.size w wx)
  case first =>
    clear HA HBs HofA HofB HhxA HhxB
    go_region_with (first
      | (go_at_call 17; refine (new_any _).mono ?_; rintro e w1 ⟨rfl, hb1⟩)
      | (go_at_call 23; refine (Hputz.out _ _ (by repeat (first | (with_reducible exact Hatz.out _ _ (by simp)) | (with_reducible refine At.mono ?_ hb1) | (with_reducible refine At.mono ?_ (bd _)) | (with_reducible refine At.mono ?_ (ba _ _)))) (by repeat (first | (with_reducible exact HK.out) | (with_reducible refine KeysAt.mono ?_ hb1) | (with_reducible refine KeysAt.mono ?_ (bd _)) | (with_reducible refine KeysAt.mono ?_ (ba _ _))))).mono ?_; rintro e w2 ⟨R, a2, c2, rfl, hb2⟩; (try (have hBz := Blk.tow hb2 (zeroAt (by first | (exact (Blk.new _ zeroHash _)) | (exact (Blk.new _ zeroHash _).drew) | (exact (Blk.new _ zeroHash _).alloc _) | (exact ((Blk.new _ zeroHash _).alloc _).drew) | (exact (Blk.tow hb1 (Blk.new _ zeroHash _))) | (exact (Blk.tow hb1 (Blk.new _ zeroHash _).drew)) | (exact (Blk.tow hb1 (Blk.new _ zeroHash _)).alloc _) | (exact (Blk.tow hb1 (Blk.new _ zeroHash _).drew).alloc _) | (exact (Blk.tow hb1 ((Blk.new _ zeroHash _).alloc _))) | (exact (Blk.tow hb1 ((Blk.new _ zeroHash _).alloc _).drew)))); (try simp only [World.size_alloc, World.size_drew] at hBz); obtain ⟨d0, d1, d2, d3, d4, d5, d6, d7, d8, d9⟩ := hash_cells hBz; have fz := hBz.frozen))))
    all_goals
      have hbel : Below w.heap.size w w2 := by repeat (first | (with_reducible exact Below.refl _ _) | (with_reducible refine bt ?_ hb2) | (with_reducible refine bt ?_ hb1) | (with_reducible refine bt ?_ (bd _)) | (with_reducible refine bt ?_ (ba _ _)))
      have hbs := hb1.size
      simp only [World.size_alloc, World.size_drew] at hbs
      go_wp2_with fail
      go_meet
      first
        | (have hXY := hash_set10b hBz hbel (by omega) R 70 a2 6 c2; exact ⟨_, R, a2, c2, rfl, hXY.1, hXY.2⟩)
        | exact ⟨_, R, a2, c2, rfl, Blk.new w2 (hashC R 70 a2 6 c2) _, bt hbel (ba _ _)⟩
  case rest =>
    obtain ⟨g, R, a, c, rfl, hB, hb⟩ := hcut
    have HB := Lib.hid hB
    have Hb := Lib.hid hb
    have HKc := Lib.hid (KeysAt.mono HK.out hb)
    clear hB hb
    go_wp2_with fail
    refine (HofA.out wc HKc.out).mono ?_; rintro e w1 ⟨a1, c1, rfl, hat1, hb1⟩
    have Hat1 := Lib.hid hat1
    have Hb1 := Lib.hid hb1
    clear hat1 hb1
    go_wp2_with fail
    refine (HhxA.out a1 c1 _ Hat1.out).mono ?_; rintro e w2 ⟨rfl, hb2⟩
    have hA := HA.out
    have Hb2 := Lib.hid (bt Hb1.out hb2)
    clear hb2
    have hcv := Lib.run_convert_bytes_const (P := Tryd.prog) w2 22 5 #[.int .u8 97, .int .u8 98, .int .u8 99] 3 3 Tryd.underlying22 Tryd.underlying5
    go_wp2_with fail
    have Hb3 := Lib.hid (bt Hb2.out (ba w2 (.cells #[.int .u8 97, .int .u8 98, .int .u8 99] 5 (3, 4))))
    clear hcv hA
    refine (HofB.out _ _ (at_newf w2 (B8s [97, 98, 99]) _ (3, 4)) (KeysAt.mono HKc.out Hb3.out)).mono ?_; rintro e w3 ⟨a3, c3, rfl, hat3, hb3⟩
    have Hat3 := Lib.hid hat3
    have Hb4 := Lib.hid (bt Hb3.out hb3)
    clear hat3 hb3
    go_wp2_with fail
    refine (HhxB.out a3 c3 _ Hat3.out).mono ?_; rintro e w4 ⟨rfl, hb4⟩
    have hB := HBs.out
    have Hb5 := Lib.hid (bt Hb4.out hb4)
    clear hb4
    obtain ⟨d0, d1, d2, d3, d4, d5, d6, d7, d8, d9⟩ := hash_cells (Blk.tow Hb5.out HB.out)
    go_wp2_with fail
    refine (right_any R 70 a 6 c _).mono ?_; rintro e w5 ⟨rfl, hb5⟩
    rw [show rightH 70 6 = true by decide]
    clear hB d0 d1 d2 d3 d4 d5 d6 d7 d8 d9
    have Hb6 := Lib.hid (bt Hb5.out hb5)
    clear hb5
    go_wp2_with fail
    refine (right_any ⟨0, 0, 0, 0, 0, 0, 0, 0⟩ 1 none 0 0 _).mono ?_; rintro e w6 ⟨rfl, hb6⟩
    rw [show rightH 1 0 = false by decide]
    have Hb7 := Lib.hid (bt Hb6.out hb6)
    clear hb6
    go_wp2_with fail
    refine (key_in 63 (by decide) _ (KeysAt.mono HKc.out Hb7.out)).mono ?_; rintro e w7 ⟨rfl, rfl⟩
    have hk63 : (uv (kAt 63) == 3329325298) = true := by decide
    go_wp2_with fail
    go_ret
    exact ⟨rfl, bt Hb.out Hb7.out⟩
end Go.Proofs.YtmcbhffkaaaijaaDoor
