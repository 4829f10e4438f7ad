/- The document's examples of layer 3: the walk of shown. -/
import Derived.Test.YtbpmgjnjcdjdfaaDoorMacE
import Derived.Lib.SlBytesConst
set_option linter.unusedSimpArgs false
set_option linter.unusedVariables false
namespace Go.Proofs.YtbpmgjnjcdjdfaaDoor
open Go.RowKit

theorem at_of_block {w : World} {b : Nat} {cs : List Value} {T : TypeId} {fr : Nat × Nat} (h : w.heap[b]? = some (.cells cs.toArray T fr)) : At w (some ⟨b, 0, none⟩) cs := by
  have hb : b < w.heap.size := by
    rcases Nat.lt_or_ge b w.heap.size with h' | h'
    · exact h'
    · rw [Array.getElem?_eq_none h'] at h; cases h
  refine .inr ⟨b, 0, rfl, hb, fun i hi => ?_⟩
  rw [Nat.zero_add]; simp [World.cell?, h, List.getD, hi]
theorem at_newf (w : World) (cs : List Value) (T : TypeId) (fr : Nat × Nat) : At (w.alloc (.cells cs.toArray T fr)) (some ⟨w.heap.size, 0, none⟩) cs :=
  at_of_block (T := T) (fr := fr) (by simp only [World.alloc, Array.getElem?_push, if_true])
def key11 : List UInt8 := List.replicate 20 11
def hiThere : List UInt8 := [72, 105, 32, 84, 104, 101, 114, 101]
set_option maxRecDepth 100000 in
theorem hexTag_eq : hexF (tagF key11 hiThere) = [98, 48, 51, 52, 52, 99, 54, 49, 100, 56, 100, 98, 51, 56, 53, 51, 53, 99, 97, 56, 97, 102, 99, 101, 97, 102, 48, 98, 102, 49, 50, 98, 56, 56, 49, 100, 99, 50, 48, 48, 99, 57, 56, 51, 51, 100, 97, 55, 50, 54, 101, 57, 51, 55, 54, 99, 50, 101, 51, 50, 99, 102, 102, 55] := by decide +kernel
set_option maxRecDepth 100000 in
theorem block12 : (blockK [1, 2]).getD 0 0 = 1 ∧ (blockK [1, 2]).getD 1 0 = 2 ∧ (blockK [1, 2]).getD 63 0 = 0 := by decide +kernel
def fill11 (k : Nat) : List Value := B8s (List.replicate k 11) ++ List.replicate (20 - k) (.int .u8 0)
theorem fill11_set (k : Nat) (h : k < 20) : (fill11 k).set k (.int .u8 11) = fill11 (k + 1) := by
  unfold fill11
  rw [set_mid _ _ _ 20 k (by simp) h]
  congr 1
  rw [List.replicate_succ', B8s_app]; rfl
theorem fill11_end : fill11 20 = B8s key11 := by unfold fill11 key11; simp
theorem fill11_len (k : Nat) (h : k ≤ 20) : (fill11 k).length = 20 := by simp [fill11]; omega
theorem rows_one {w : World} {a b : Nat} {n : Nat} {r : List UInt8} (hn : n = r.length) (hm : n ≤ maxLen) (h : Blk w a [.slice (some ⟨b, 0, none⟩) n n]) (hb : BytesAt w (some ⟨b, 0, none⟩) r) : RowsAt w (some ⟨a, 0, none⟩) [r] :=
  ⟨_, h.at, RowsOf.one ⟨_, _, by rw [hn], Nat.le_refl _, by rw [← hn]; exact hm, hb⟩⟩
theorem der11 (a : Option Addr) (pa : Option Addr) (W : World) (h1 : BytesAt W a key11) (h2 : RowsAt W pa [[1]]) (hk : KeysAt W) :
    Calls Tryd.prog 20 #[.slice a 20 20, .string ⟨#[97]⟩, .slice pa 1 1] W (KeyOut W (tagF key11 (toldF [97] [[1]]))) :=
  macDerive_ok a 20 key11 ⟨#[97]⟩ pa 1 [[1]] (by decide) (by decide) (by decide) (by decide) W h1 h2 hk
theorem tag11 (a b : Option Addr) (W : World) (h1 : BytesAt W a key11) (h2 : BytesAt W b hiThere) (hk : KeysAt W) :
    Calls Tryd.prog 14 #[.slice a 20 20, .slice b 8 8] W (Out32 W (tagF key11 hiThere)) :=
  macTag_any a b 20 8 key11 hiThere (by decide) (by decide) W h1 h2 hk
theorem kcv11 (a : Option Addr) (W : World) (h1 : BytesAt W a key11) (hk : KeysAt W) :
    Calls Tryd.prog 16 #[.slice a 20 20] W (KcvOut W key11) :=
  macKcv_any a 20 key11 (by decide) W h1 hk
theorem sameK (a : Option Addr) (K : List UInt8) (hK : K.length = 64) (W : World) (h1 : BytesAt W a K) :
    Calls Tryd.prog 18 #[.slice a 64 64, .slice a 64 64] W fun e w' => e = .returned (.bool true) ∧ Below W.heap.size W w' := by
  have := macSame_any a a 64 64 K K (by rw [hK]; decide) (by rw [hK]; decide) W h1 h1
  rwa [hK, beq_self_eq_true] at this
theorem sameK11 (a b : Option Addr) (K : List UInt8) (hK : K.length = 64) (W : World) (h1 : BytesAt W a K) (h2 : BytesAt W b key11) :
    Calls Tryd.prog 18 #[.slice a 64 64, .slice b 20 20] W fun e w' => e = .returned (.bool false) ∧ Below W.heap.size W w' := by
  have := macSame_any a b 64 20 K key11 (by rw [hK]; decide) (by decide) W h1 h2
  rwa [hK, show key11.length = 20 from rfl, show (K == key11) = false from beq_eq_false_iff_ne.2 fun h => by rw [h] at hK; exact absurd hK (by decide)] at this
def Shown03OK : Prop := ∀ w, KeysAt w → Calls Tryd.prog 10 #[] w (BoolOut w true)

set_option maxRecDepth 100000 in
set_option maxHeartbeats 4000000 in
theorem shown03 : Shown03OK := by
  intro w hk
  have Hk := Lib.hid hk
  obtain ⟨D, S, hD, hS, hS2⟩ : ∃ D S, D = tagF key11 hiThere ∧ S = hexF D ∧ (S == [98, 48, 51, 52, 52, 99, 54, 49, 100, 56, 100, 98, 51, 56, 53, 51, 53, 99, 97, 56, 97, 102, 99, 101, 97, 102, 48, 98, 102, 49, 50, 98, 56, 56, 49, 100, 99, 50, 48, 48, 99, 57, 56, 51, 51, 100, 97, 55, 50, 54, 101, 57, 51, 55, 54, 99, 50, 101, 51, 50, 99, 102, 102, 55]) = true := ⟨_, _, rfl, rfl, by rw [hexTag_eq]; decide⟩
  have HD := Lib.hid hD
  have HDl := Lib.hid (show D.length = 32 by rw [hD]; exact tagF_len _ _)
  have HS := Lib.hid hS
  have HS2 := Lib.hid hS2
  have Hfill := Lib.hid fill11_set
  have Hend := Lib.hid fill11_end
  have Hflen := Lib.hid fill11_len
  obtain ⟨Z, hZ⟩ : ∃ Z, Z = fill11 0 := ⟨_, rfl⟩
  have hmk : ∀ w, (Instr.makeSlice 22 (.int .i64 20) (.int .i64 20)).run Tryd.prog w = .ok (.slice (some ⟨w.heap.size, 0, none⟩) 20 20) (w.alloc (.cells Z.toArray 5)) := fun w => by
    rw [hZ]; exact run_mk elemB w .i64 .i64 20 (by decide) (by decide) rfl
  have HZ := Lib.hid hZ
  clear hk hD hS hS2 hZ
  go_enter Tryd.func10, Tryd.ntmps10
  go_wp2_with fail
  generalize hW : World.alloc w _ = W
  have hB : Blk W w.heap.size (fill11 0) := by rw [← hW, ← HZ.out]; exact Blk.new w Z _
  have hb : Below w.heap.size w W := by rw [← hW]; exact ba w _
  clear hW hmk HZ
  go_loopw [2] (fun v2 wx => ∃ i : Nat, i ≤ 20 ∧ v2 = .int .i64 (i : Int) ∧ Blk wx w.heap.size (fill11 i) ∧ Below w.heap.size w wx) (fun v2 _ => 20 - (intOf v2).toNat)
  case atStart => exact ⟨0, by decide, rfl, hB, hb⟩
  case round =>
    clear hB hb
    obtain ⟨i, hi, rfl, hB, hb⟩ := hrel
    by_cases hlt : i < 20
    · have HB := Lib.hid hB
      have Hb := Lib.hid hb
      have HF := Lib.hid (Hfill.out i hlt)
      have c0 := hB.cell i (by rw [Hflen.out i hi]; exact hlt)
      have fz := hB.frozen
      clear hB hb
      go_wp2_with fail
      exact ⟨⟨i + 1, by omega, by go_num, by rw [← HF.out]; exact HB.out.set i _, Hb.out.setCell (Nat.le_refl _) _⟩, by simp [intOf]; omega⟩
    · obtain rfl : i = 20 := by omega
      rw [Hend.out] at hB
      have HB := Lib.hid hB
      have Hb := Lib.hid hb
      clear hB hb hlt hi
      have H12 := Lib.hid block12
      have Hbl := Lib.hid (blockK_len [1, 2])
      have HBk := Lib.hid (fun W' (h : BytesAt W' (some ⟨wr.heap.size, 0, none⟩) [1, 2]) hk => macBlock_any (some ⟨wr.heap.size, 0, none⟩) 2 [1, 2] (by decide) W' h hk)
      generalize blockK [1, 2] = BK at H12 Hbl HBk
      go_wp2_with fail
      refine (HBk.out _ (at_new wr (B8s [1, 2]) 5) (Hk.out.mono (bta Hb.out _))).mono ?_; rintro e w2 ⟨rfl, hB2, hb2⟩
      have HB2 := Lib.hid hB2
      have Hb2 := Lib.hid (bt (ba wr _) hb2)
      clear hB2 hb2
      generalize World.heap (World.alloc wr _) = hh at HB2 ⊢
      generalize hh.size = bk at HB2 ⊢
      have HDer := Lib.hid (der11 (some ⟨w.heap.size, 0, none⟩))
      have HTag := Lib.hid (tag11 (some ⟨w.heap.size, 0, none⟩))
      have HKcv := Lib.hid (kcv11 (some ⟨w.heap.size, 0, none⟩))
      rw [← HD.out] at HTag
      have HB11 := Lib.hid (HB.out.up Hb2.out).at
      have Hk2 := Lib.hid (Hk.out.mono (bt Hb.out Hb2.out))
      have Hb2 := Lib.hid (bt Hb.out Hb2.out)
      generalize tagF key11 (toldF [97] [[1]]) = T at HDer
      generalize w.heap.size = kb at HB11 HDer HTag HKcv ⊢
      have HSk := Lib.hid (sameK (some ⟨bk, 0, none⟩) BK Hbl.out)
      have HSk11 := Lib.hid (sameK11 (some ⟨bk, 0, none⟩) (some ⟨kb, 0, none⟩) BK Hbl.out)
      have HkAt := Lib.hid (show ∀ W', Below w2.heap.size w2 W' → BytesAt W' (some ⟨bk, 0, none⟩) BK from fun W' h => (HB2.out.up h).at)
      have HkC := Lib.hid (show ∀ W', Below w2.heap.size w2 W' → W'.cell? ⟨bk, 0, none⟩ = some (.int .u8 1) ∧ W'.cell? ⟨bk, 1, none⟩ = some (.int .u8 2) ∧ W'.cell? ⟨bk, 63, none⟩ = some (.int .u8 0) from fun W' h => by
        have hB := HB2.out.up h
        have hl := Hbl.out
        obtain ⟨h0, h1, h2⟩ := H12.out
        refine ⟨?_, ?_, ?_⟩
        · rw [hB.cell 0 (by rw [List.length_map, hl]; decide), getD_B8 _ _ (by rw [hl]; decide), h0]; rfl
        · rw [hB.cell 1 (by rw [List.length_map, hl]; decide), getD_B8 _ _ (by rw [hl]; decide), h1]; rfl
        · rw [hB.cell 63 (by rw [List.length_map, hl]; decide), getD_B8 _ _ (by rw [hl]; decide), h2]; rfl)
      have HHex := Lib.hid (show ∀ (b : Option Addr) (c : Nat) (W' : World), BytesAt W' b D → Calls Tryd.prog 25 #[.slice b 32 c] W' (StrOut W' S) from fun b c W' h => by rw [HS.out]; exact hex_any b 32 c D HDl.out.symm (by decide) W' h)
      generalize key11 = K11 at *
      go_wp2_with fail
      generalize hW3 : World.alloc (World.alloc w2 _) _ = W3
      obtain ⟨hq0, hq1, hqb⟩ := two_world (a := B8s [1]) (b := [.slice (some ⟨w2.heap.size, 0, none⟩) 1 1]) hW3
      clear hW3
      refine (HDer.out _ _ (HB11.out.mono hqb) (rows_one rfl (by decide) hq1 hq0.at) (Hk2.out.mono hqb)).mono ?_; rintro e w3 ⟨b3, c3, rfl, -, hb3⟩
      have Hb3 := Lib.hid (bt hqb hb3)
      clear hq0 hq1 hqb hb3 HDer
      have hcv := Lib.run_convert_bytes_const (P := Tryd.prog) w3 22 5 #[.int .u8 72, .int .u8 105, .int .u8 32, .int .u8 84, .int .u8 104, .int .u8 101, .int .u8 114, .int .u8 101] 8 8 Tryd.underlying22 Tryd.underlying5
      go_wp2_with fail
      clear hcv
      refine (HTag.out _ _ (HB11.out.mono (bta Hb3.out _)) (at_newf w3 (B8s hiThere) 5 (8, 9)) (Hk2.out.mono (bta Hb3.out _))).mono ?_; rintro e w4 ⟨b4, c4, rfl, -, hat4, hb4⟩
      have Hat4 := Lib.hid hat4
      have Hb4 := Lib.hid (bt (bta Hb3.out _) hb4)
      clear hat4 hb4 HTag
      go_wp2_with fail
      refine (HHex.out _ _ _ Hat4.out).mono ?_; rintro e w5 ⟨rfl, hb5⟩
      have Hb5 := Lib.hid (bt Hb4.out hb5)
      have hA := HS2.out
      obtain ⟨c0, c1, c63⟩ := HkC.out w5 Hb5.out
      clear hb5 HHex
      go_wp2_with fail
      refine (HKcv.out _ (HB11.out.mono Hb5.out) (Hk2.out.mono Hb5.out)).mono ?_; rintro e w6 ⟨b6, c6, rfl, -, -, hb6⟩
      have Hb6 := Lib.hid (bt Hb5.out hb6)
      clear hb6 c0 c1 c63 hA
      go_wp2_with fail
      refine (HSk.out _ (HkAt.out _ Hb6.out)).mono ?_; rintro e w7 ⟨rfl, hb7⟩
      have Hb7 := Lib.hid (bt Hb6.out hb7)
      clear hb7
      go_wp2_with fail
      refine (HSk11.out _ (HkAt.out _ Hb7.out) (HB11.out.mono Hb7.out)).mono ?_; rintro e w8 ⟨rfl, hb8⟩
      go_wp2_with fail
      go_ret
      exact ⟨rfl, bt Hb2.out (bt Hb7.out hb8)⟩
end Go.Proofs.YtbpmgjnjcdjdfaaDoor
