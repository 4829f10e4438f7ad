/- Envelopes: their bytes, of the program; a number's bytes, of the document. -/
import Derived.Test.YtkjckokejbnapaaEnvI
set_option linter.unusedSimpArgs false
set_option linter.unusedVariables false
namespace Go.Proofs.Ytkjckokejbnapaa
open Go.RowKit

theorem OwnB.low {B C n : Nat} {w : World} {v : Value} {xs : List Value} (h : OwnB C w v n xs) (hB : B ≤ C) : OwnB B w v n xs := ⟨own_base h.own hB, Nat.le_trans hB h.le⟩
theorem inF_len (k d e0 e1 g s : Nat) (bl : List UInt8) : (inF k d e0 e1 g s bl).length = 30 + bl.length := by unfold inF; rw [List.length_append, inH_len]

set_option maxHeartbeats 1000000 in
theorem write_bad (k d e0 e1 g s : Int) (b_ t_ : Option Addr) (n bc m tc : Nat) (hn : n ≤ maxLen) (hm : m ≤ maxLen) (hp : rightB k d e0 e1 g s n m = false) (w : World) :
    Calls Try.prog 13 #[envV k d e0 e1 g s (.slice b_ n bc) (.slice t_ m tc)] w (NoOut w) := by
  have Hp := Lib.hid (fun W => right_any k d e0 e1 g s b_ t_ n bc m tc hn hm W)
  rw [hp] at Hp
  go_enter Try.func13, Try.ntmps13
  go_wp2_with fail
  refine (Hp.out _).mono ?_; rintro e w1 ⟨rfl, hb1⟩
  have Hb1 := Lib.hid (bt (ba w _) hb1)
  clear hb1
  go_wp2_with fail
  go_ret2
  exact ⟨rfl, Hb1.out⟩

set_option maxRecDepth 100000 in
set_option maxHeartbeats 1000000 in
theorem write_ok (k d e0 e1 g s : Nat) (b_ t_ : Option Addr) (bc tc : Nat) (bl tl : List UInt8) (h : MayBe k d e0 e1 g s bl.length) (ht : tl.length = 16) (w : World) (hbl : BytesAt w b_ bl) (htl : BytesAt w t_ tl) :
    Calls Try.prog 13 #[envV k d e0 e1 g s (.slice b_ bl.length bc) (.slice t_ tl.length tc)] w (RowOut w (inF k d e0 e1 g s bl ++ tl)) := by
  have Hp := Lib.hid (fun W => right_any k d e0 e1 g s b_ t_ bl.length bc tl.length tc (by have := h.n2; unfold maxLen; omega) (by unfold maxLen; omega) W)
  rw [show rightB k d e0 e1 g s bl.length tl.length = true by unfold rightB; rw [h.parts, ht]; rfl] at Hp
  have HI := Lib.hid (fun W hb => input_ok k d e0 e1 g s b_ t_ bc tl.length tc bl h W hb)
  have HL := Lib.hid (inF_len k d e0 e1 g s bl)
  obtain ⟨XF, hXF⟩ : ∃ XF, XF = inF k d e0 e1 g s bl ++ tl := ⟨_, rfl⟩
  rw [← hXF]
  have HXF := Lib.hid hXF
  have Hbl := Lib.hid hbl
  have Htl := Lib.hid htl
  have h900 := h.n2
  have htb : tl.length ≤ 16 := by omega
  clear hXF hbl htl h ht
  obtain ⟨YF, hYF⟩ : ∃ YF, YF = inF k d e0 e1 g s bl := ⟨_, rfl⟩
  rw [← hYF] at HXF HL HI
  have HXs := Lib.hid (show B8s XF = B8s YF ++ B8s tl by rw [HXF.out, B8s_app])
  have HXl := Lib.hid (show YF.length + tl.length = XF.length by rw [HXF.out, List.length_append])
  clear hYF
  go_enter Try.func13, Try.ntmps13
  go_wp2_with fail
  refine (Hp.out _).mono ?_; rintro e w1 ⟨rfl, hb1⟩
  have E1 := Lib.hid (env_box w k d e0 e1 g s _ _ hb1)
  have Hb1 := Lib.hid (bt (ba w _) hb1)
  clear hb1 Hp
  obtain ⟨c0, c1, c2, c3, c4, c5, c6, c7⟩ := env_cells E1.out.blk
  go_wp2_with fail
  refine (HI.out _ (Hbl.out.mono Hb1.out)).mono ?_; rintro e w2 ⟨a2, cp2, rfl, hO2, hb2⟩
  have HO2 := Lib.hid (hO2.low Hb1.out.size)
  have Hb2 := Lib.hid (bt Hb1.out hb2)
  have E2 := Lib.hid (E1.out.up hb2)
  clear c0 c1 c2 c3 c4 c5 c6 c7 hO2 hb2 HI
  obtain ⟨c0, c1, c2, c3, c4, c5, c6, c7⟩ := env_cells E2.out.blk
  have Ht2 := Lib.hid (Htl.out.mono Hb2.out)
  have hYb : YF.length ≤ 930 := by have := HL.out; omega
  clear HL HXF E1
  go_wp2_with (at_builtin; go_must ((refine wpList_ownB2 (.tmp 14) (.tmp 16) rfl rfl rfl HO2.out (news := B8s tl) (m := tl.length) rfl Ht2.out (by simp) (bytes_one tl) (by omega) XF.length HXl.out (B8s XF) HXs.out ?_); intro a6 c6' w6 h6 hg6 hat6))
  go_ret2
  exact ⟨a6, c6', rfl, h6, below_own Hb2.out HO2.out.own hg6 HO2.out.le (Nat.le_refl _)⟩

set_option maxHeartbeats 400000 in
theorem refbig_any (n z : Nat) (hz : 1 ≤ z) (hz8 : z ≤ 8) (hn : n < 256 ^ z) (hn63 : n ≤ 9223372036854775807) (w : World) :
    Calls Try.prog 28 #[.int .i64 n, .int .i64 z] w fun e w' => e = .returned (.slice (some ⟨w.heap.size, 0, none⟩) z z) ∧ BlkT 5 w' w.heap.size (B8s (bigF n z)) ∧ Below w.heap.size w w' := by
  have HB := Lib.hid (fun W => refBig_any n z hz hz8 hn hn63 W)
  go_enter Try.func28, Try.ntmps28
  go_wp2_with fail
  refine (HB.out _).mono ?_; rintro e w1 ⟨rfl, hB, hb⟩
  go_wp2_with fail
  go_ret
  exact ⟨rfl, hB, hb⟩
end Go.Proofs.Ytkjckokejbnapaa
