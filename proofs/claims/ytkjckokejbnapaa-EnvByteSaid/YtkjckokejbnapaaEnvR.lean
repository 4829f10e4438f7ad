/- Envelopes: the document's example. -/
import Derived.Test.YtkjckokejbnapaaEnvP
import Derived.Test.YtkjckokejbnapaaHex
set_option linter.unusedSimpArgs false
set_option linter.unusedVariables false
namespace Go.Proofs.Ytkjckokejbnapaa
open Go.RowKit

abbrev z16 : List UInt8 := List.replicate 16 0
def exIn : List UInt8 := inF 2 1 3 4 1 0 [255]
def exHex : List UInt8 := hexF exIn
theorem ex_may : MayBe 2 1 3 4 1 0 1 := ⟨by decide, by decide, by decide, by decide, by decide, by decide, by decide, by decide, by decide⟩
theorem ex_good : readGood (exIn ++ z16) := by
  refine ⟨⟨?_, ?_, ?_⟩, ?_⟩
  all_goals decide +kernel
theorem ex_nums : numF (exIn ++ z16) 0 1 = 2 ∧ numF (exIn ++ z16) 1 1 = 1 ∧ numF (exIn ++ z16) 2 8 = 3 ∧ numF (exIn ++ z16) 10 8 = 4 ∧ numF (exIn ++ z16) 18 4 = 1 ∧ numF (exIn ++ z16) 22 8 = 0 := by decide +kernel
theorem ex_body : bodyR (exIn ++ z16) = [255] := by decide +kernel
theorem ex_tag : tagR (exIn ++ z16) = z16 := by decide +kernel
theorem ex_hex : hexF exIn = [48, 50, 48, 49, 48, 48, 48, 48, 48, 48, 48, 48, 48, 48, 48, 48, 48, 48, 48, 51, 48, 48, 48, 48, 48, 48, 48, 48, 48, 48, 48, 48, 48, 48, 48, 52, 48, 48, 48, 48, 48, 48, 48, 49, 48, 48, 48, 48, 48, 48, 48, 48, 48, 48, 48, 48, 48, 48, 48, 48, 102, 102] := by decide +kernel
theorem ex_lenI : exIn.length = 31 := by decide +kernel
theorem ex_len : (exIn ++ z16).length = 47 := by decide +kernel

set_option maxHeartbeats 400000 in
theorem tag_any (w : World) : Calls Try.prog 22 #[] w fun e w' => e = .returned (.slice (some ⟨w.heap.size, 0, none⟩) 16 16) ∧ BytesAt w' (some ⟨w.heap.size, 0, none⟩) z16 ∧ Below w.heap.size w w' := by
  obtain ⟨Z, hZ⟩ : ∃ Z, Z = B8s z16 := ⟨_, rfl⟩
  have HZ := Lib.hid hZ
  have hmk : ∀ w, (Instr.makeSlice 23 (.int .i64 16) (.int .i64 16)).run Try.prog w = .ok (.slice (some ⟨w.heap.size, 0, none⟩) 16 16) (w.alloc (.cells Z.toArray 5)) := fun w => by
    rw [hZ]; exact run_mk elemB w .i64 .i64 16 (by decide) (by decide) rfl
  clear hZ
  go_enter Try.func22, Try.ntmps22
  go_wp2_with fail
  go_ret
  exact ⟨rfl, (by have := at_new w Z 5; rw [HZ.out] at this ⊢; exact this), ba _ _⟩

theorem exSame (W : World) (a4 a5 a1 t1 : Option Addr) (cp4 cp5 : Nat) (h4 : BytesAt W a4 [255]) (h5 : BytesAt W a5 z16) (h1 : BytesAt W a1 [255]) (h2 : BytesAt W t1 z16) :
    Calls Try.prog 18 #[envV 2 1 3 4 1 0 (.slice a4 1 cp4) (.slice a5 16 cp5), envV 2 1 3 4 1 0 (.slice a1 1 1) (.slice t1 16 16)] W (BoolOut W true) :=
  (envSame_any 2 1 3 4 1 0 a4 a5 cp4 cp5 [255] z16 2 1 3 4 1 0 a1 t1 1 16 [255] z16 W h4 h5 h1 h2).mono fun e w' ⟨h, h'⟩ => ⟨by rw [h]; rfl, h'⟩
theorem exSame0 (W : World) (a1 t1 : Option Addr) (h1 : BytesAt W a1 [255]) (h2 : BytesAt W t1 z16) :
    Calls Try.prog 18 #[envV 2 1 3 4 1 0 (.slice a1 1 1) (.slice t1 16 16), envV 0 0 0 0 0 0 (.slice none 0 0) (.slice none 0 0)] W (BoolOut W false) :=
  (envSame_any 2 1 3 4 1 0 a1 t1 1 16 [255] z16 0 0 0 0 0 0 none none 0 0 [] [] W h1 h2 (.inl rfl) (.inl rfl)).mono fun e w' ⟨h, h'⟩ => ⟨by rw [h]; rfl, h'⟩
theorem exRight (W : World) (a1 t1 : Option Addr) :
    Calls Try.prog 16 #[envV 2 1 3 4 1 0 (.slice a1 1 1) (.slice t1 16 16)] W (BoolOut W true) :=
  (right_any 2 1 3 4 1 0 a1 t1 1 1 16 16 (by decide) (by decide) W).mono fun e w' ⟨h, h'⟩ => ⟨by rw [h]; rfl, h'⟩
theorem exRight0 (W : World) :
    Calls Try.prog 16 #[envV 0 0 0 0 0 0 (.slice none 0 0) (.slice none 0 0)] W (BoolOut W false) :=
  (right_any 0 0 0 0 0 0 none none 0 0 0 0 (by decide) (by decide) W).mono fun e w' ⟨h, h'⟩ => ⟨by rw [h]; rfl, h'⟩

def Shown12OK : Prop := ∀ w, Calls Try.prog 9 #[] w (BoolOut w true)
set_option maxRecDepth 100000 in
set_option maxHeartbeats 2000000 in
theorem shown12 : Shown12OK := by
  intro w
  go_enter Try.func9, Try.ntmps9
  go_wp2_with fail
  refine (tag_any _).mono ?_; rintro e w1 ⟨rfl, ht1, hb1⟩
  have hB1 : BytesAt w1 (some ⟨w.heap.size, 0, none⟩) [255] := At.mono (cs := B8s [255]) (at_new w [.int .u8 255] 5) hb1
  go_upto_region 2 with (fail)
  generalize hW : World.alloc w1 _ = W
  have E0 : BlkT 25 W w1.heap.size (envL 2 1 3 4 1 0 (.slice (some ⟨w.heap.size, 0, none⟩) 1 1) (.slice (some ⟨w.heap.size + 1, 0, none⟩) 16 16)) := by rw [← hW]; exact BlkT.new w1 _ _
  have hBW : BytesAt W (some ⟨w.heap.size, 0, none⟩) [255] := by rw [← hW]; exact hB1.mono (ba _ _)
  have hTW : BytesAt W (some ⟨(w.alloc (.cells #[.int .u8 255] 5)).heap.size, 0, none⟩) z16 := by rw [← hW]; exact ht1.mono (ba _ _)
  have hbW : Below w.heap.size w W := by rw [← hW]; exact bta (bt (ba w _) hb1) _
  clear hW hB1 ht1 hb1
  rw [size_alloc] at hTW
  generalize w1.heap.size = b at E0 ⊢
  generalize (some ⟨w.heap.size, 0, none⟩ : Option Addr) = a1 at E0 hBW ⊢
  generalize (some ⟨w.heap.size + 1, 0, none⟩ : Option Addr) = t1 at E0 hTW ⊢
  have hXl := ex_lenI
  have hTl : (exIn ++ z16).length = 47 := ex_len
  have HI := Lib.hid (show ∀ W a1 t1, BytesAt W a1 [255] → Calls Try.prog 11 #[envV 2 1 3 4 1 0 (.slice a1 1 1) (.slice t1 16 16)] W (RowOut W exIn) from fun W a1 t1 h => input_ok 2 1 3 4 1 0 a1 t1 1 16 16 [255] ex_may W h)
  have HW := Lib.hid (show ∀ W a1 t1, BytesAt W a1 [255] → BytesAt W t1 z16 → Calls Try.prog 13 #[envV 2 1 3 4 1 0 (.slice a1 1 1) (.slice t1 16 16)] W (RowOut W (exIn ++ z16)) from fun W a1 t1 h h' => write_ok 2 1 3 4 1 0 a1 t1 1 16 [255] z16 ex_may rfl W h h')
  have HR := Lib.hid (show ∀ W a c, (exIn ++ z16).length ≤ c → c ≤ maxLen → BytesAt W a (exIn ++ z16) → Calls Try.prog 20 #[.slice a (exIn ++ z16).length c] W (EnvOut W 2 1 3 4 1 0 [255] z16) from fun W a c h1 h2 h => (read_mid a c (exIn ++ z16) (by rw [hTl]; decide) (by rw [hTl]; decide) h1 h2 W h).mono fun e w' h => by
    have h := h.1 ex_good
    obtain ⟨q1, q2, q3, q4, q5, q6⟩ := ex_nums
    rw [q1, q2, q3, q4, q5, q6, ex_body, ex_tag] at h
    exact h)
  have HH := Lib.hid (show ∀ W a c, BytesAt W a exIn → Calls Try.prog 23 #[.slice a exIn.length c] W (StrOut W (hexF exIn)) from fun W a c h => hex_any a exIn.length c exIn rfl (by rw [hXl]; decide) W h)
  rw [ex_hex] at HH
  obtain ⟨XT, hXT⟩ : ∃ XT, XT = exIn ++ z16 := ⟨_, rfl⟩
  rw [← hXT] at HW HR hTl
  generalize exIn = X at HI HH hXl hXT
  have HXl := Lib.hid hXl
  have HTl := Lib.hid hTl
  clear hXl hTl hXT
  obtain ⟨c0, c1, c2, c3, c4, c5, c6, c7⟩ := env_cells E0.blk
  go_wp2_with fail
  refine (HI.out _ _ _ hBW).mono ?_; rintro e w2 ⟨a2, cp2, rfl, hO2, hb2⟩
  have E2 := E0.up hb2
  have hB2 := hBW.mono hb2
  have hT2 := hTW.mono hb2
  have b2 := bt hbW hb2
  have X2 := Lib.hid hO2
  clear c0 c1 c2 c3 c4 c5 c6 c7 E0 hBW hTW hbW hO2 hb2
  obtain ⟨c0, c1, c2, c3, c4, c5, c6, c7⟩ := env_cells E2.blk
  go_wp2_with fail
  refine (HW.out _ _ _ hB2 hT2).mono ?_; rintro e w3 ⟨a3, cp3, rfl, hO3, hb3⟩
  have E3 := E2.up hb3
  have hB3 := hB2.mono hb3
  have hT3 := hT2.mono hb3
  have b3 := bt b2 hb3
  have X3 := Lib.hid (X2.out.up hb3)
  obtain ⟨_, _, hq1, hq2, hq3⟩ := own_slice hO3.own
  cases hq1
  clear c0 c1 c2 c3 c4 c5 c6 c7 E2 hB2 hT2 b2 X2 hb3
  go_wp2_with fail
  refine (HR.out _ _ _ hq2 hq3 hO3.at).mono ?_; rintro e w4 ⟨a4, cp4, a5, cp5, rfl, k1, k2, k3, k4, hB4, hT4, hb4⟩
  have E4 := E3.up hb4
  have hB4' := hB3.mono hb4
  have hT4' := hT3.mono hb4
  have b4 := bt b3 hb4
  have X4 := Lib.hid (X3.out.up hb4)
  clear E3 hB3 hT3 b3 X3 hO3 hb4 hq2 hq3
  go_upto_region 5 with (fail)
  generalize hW5 : World.alloc w4 _ = W5
  have E5 : BlkT 25 W5 b (envL 2 1 3 4 1 0 (.slice a1 1 1) (.slice t1 16 16)) := by rw [← hW5]; exact E4.up (ba _ _)
  have F5 : BlkT 25 W5 w4.heap.size (envL 2 1 3 4 1 0 (.slice a4 1 cp4) (.slice a5 16 cp5)) := by rw [← hW5]; exact BlkT.new w4 (envL 2 1 3 4 1 0 (.slice a4 1 cp4) (.slice a5 16 cp5)) _
  have hB5 : BytesAt W5 a1 [255] := by rw [← hW5]; exact hB4'.mono (ba _ _)
  have hT5 : BytesAt W5 t1 z16 := by rw [← hW5]; exact hT4'.mono (ba _ _)
  have hC5 : BytesAt W5 a4 [255] := by rw [← hW5]; exact hB4.mono (ba _ _)
  have hD5 : BytesAt W5 a5 z16 := by rw [← hW5]; exact hT4.mono (ba _ _)
  have X5 : BytesAt W5 a2 X := by rw [← hW5]; exact (X4.out.up (ba _ _)).at
  have b5 : Below w.heap.size w W5 := by rw [← hW5]; exact bta b4 _
  clear hW5 E4 hB4' hT4' hB4 hT4 X4 b4
  generalize w4.heap.size = b6 at F5 ⊢
  have hlT := HTl.out
  go_wp2_with fail
  refine (HH.out _ _ _ X5).mono ?_; rintro e w6 ⟨rfl, hb6⟩
  have E6 := Lib.hid (E5.up hb6)
  have F6 := Lib.hid (F5.up hb6)
  have HS6 := Lib.hid (exSame w6 a4 a5 a1 t1 cp4 cp5 (hC5.mono hb6) (hD5.mono hb6) (hB5.mono hb6) (hT5.mono hb6))
  have B6 := Lib.hid (hB5.mono hb6)
  have T6 := Lib.hid (hT5.mono hb6)
  have G6 := Lib.hid (bt b5 hb6)
  clear E5 F5 hB5 hT5 hC5 hD5 X5 b5 hb6
  obtain ⟨c0, c1, c2, c3, c4, c5, c6, c7⟩ := env_cells E6.out.blk
  obtain ⟨d0, d1, d2, d3, d4, d5, d6, d7⟩ := env_cells F6.out.blk
  go_wp2_with fail
  refine HS6.out.mono ?_; rintro e w7 ⟨rfl, hb7⟩
  have E7 := Lib.hid (E6.out.up hb7)
  have B7 := Lib.hid (B6.out.mono hb7)
  have T7 := Lib.hid (T6.out.mono hb7)
  have G7 := Lib.hid (bt G6.out hb7)
  clear c0 c1 c2 c3 c4 c5 c6 c7 d0 d1 d2 d3 d4 d5 d6 d7 hb7
  obtain ⟨c0, c1, c2, c3, c4, c5, c6, c7⟩ := env_cells E7.out.blk
  go_wp2_with fail
  refine (exRight _ a1 t1).mono ?_; rintro e w8 ⟨rfl, hb8⟩
  have E8 := Lib.hid (E7.out.up hb8)
  have b8 := Lib.hid (B7.out.mono hb8)
  have T8 := Lib.hid (T7.out.mono hb8)
  have G8 := Lib.hid (bt G7.out hb8)
  clear c0 c1 c2 c3 c4 c5 c6 c7 hb8
  go_wp2_with fail
  refine (exRight0 _).mono ?_; rintro e w9 ⟨rfl, hb9⟩
  have E9 := Lib.hid (E8.out.up hb9)
  have b9 := Lib.hid (b8.out.mono hb9)
  have T9 := Lib.hid (T8.out.mono hb9)
  have G9 := Lib.hid (bt G8.out hb9)
  clear hb9
  obtain ⟨c0, c1, c2, c3, c4, c5, c6, c7⟩ := env_cells E9.out.blk
  go_wp2_with fail
  refine (exSame0 _ a1 t1 b9.out T9.out).mono ?_; rintro e w10 ⟨rfl, hb10⟩
  have G10 := Lib.hid (bt G9.out hb10)
  clear hb10
  go_wp2_with fail
  go_ret
  exact ⟨rfl, G10.out⟩
end Go.Proofs.Ytkjckokejbnapaa
