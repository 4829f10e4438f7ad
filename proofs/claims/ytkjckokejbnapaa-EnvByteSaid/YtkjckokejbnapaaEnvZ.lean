/- The walk of the law EnvReads. -/
import Derived.Test.YtkjckokejbnapaaEnvY
import Derived.Test.YtkjckokejbnapaaEnvR
import Derived.Test.YtkjckokejbnapaaInE
set_option linter.unusedSimpArgs false
set_option linter.unusedVariables false
namespace Go.Proofs.Ytkjckokejbnapaa
open Go.RowKit

/-- an envelope, or none, that was read -/
def ReadE (w : World) (k d e0 e1 g s : Int) (bl tl : List UInt8) (er : Int) (e : Ending) (w' : World) : Prop :=
  ∃ a1 c1 a2 c2, e = .returned (.tuple #[envV k d e0 e1 g s (.slice a1 bl.length c1) (.slice a2 tl.length c2), .int .i64 er]) ∧ BytesAt w' a1 bl ∧ BytesAt w' a2 tl ∧ Below w.heap.size w w'
theorem NoEnv.e {w : World} {why : Int} {e : Ending} {w' : World} (h : NoEnv w why e w') : ReadE w 0 0 0 0 0 0 [] [] why e w' := ⟨none, 0, none, 0, h.1, .inl rfl, .inl rfl, h.2⟩
theorem EnvOut.e {w : World} {k d e0 e1 g s : Int} {bl tl : List UInt8} {e : Ending} {w' : World} (h : EnvOut w k d e0 e1 g s bl tl e w') : ReadE w k d e0 e1 g s bl tl 0 e w' := by
  obtain ⟨a1, c1, a2, c2, h1, _, _, _, _, h2, h3, h4⟩ := h
  exact ⟨a1, c1, a2, c2, h1, h2, h3, h4⟩
theorem read_both (a : Option Addr) (c : Nat) (l : List UInt8) (hm : l.length ≤ maxLen) (hc : l.length ≤ c) (hcm : c ≤ maxLen) : ∃ (k d e0 e1 g s : Int) (bl tl : List UInt8) (er : Int),
    (∀ W, BytesAt W a l → Calls Try.prog 20 #[.slice a l.length c] W (ReadE W k d e0 e1 g s bl tl er)) ∧
    (∀ W, BytesAt W a l → Calls Try.prog 21 #[.slice a l.length c] W (ReadE W k d e0 e1 g s bl tl er)) := by
  by_cases h1 : l.length < 47
  · exact ⟨0, 0, 0, 0, 0, 0, [], [], 3, fun W _ => (read_short a c l h1 W).mono fun _ _ h => h.e, fun W _ => (refRead_short a c l h1 W).mono fun _ _ h => h.e⟩
  by_cases h2 : 946 < l.length
  · exact ⟨0, 0, 0, 0, 0, 0, [], [], 4, fun W _ => (read_long a c l h2 hm W).mono fun _ _ h => h.e, fun W _ => (refRead_long a c l h2 hm W).mono fun _ _ h => h.e⟩
  by_cases h3 : readGood l
  · exact ⟨_, _, _, _, _, _, _, _, 0, fun W hl => (read_mid a c l (by omega) (by omega) hc hcm W hl).mono fun _ _ h => (h.1 h3).e, fun W hl => (refRead_mid a c l (by omega) (by omega) hc hcm W hl).mono fun _ _ h => (h.1 h3).e⟩
  · exact ⟨0, 0, 0, 0, 0, 0, [], [], 2, fun W hl => (read_mid a c l (by omega) (by omega) hc hcm W hl).mono fun _ _ h => (h.2 h3).e, fun W hl => (refRead_mid a c l (by omega) (by omega) hc hcm W hl).mono fun _ _ h => (h.2 h3).e⟩
theorem sameB_refl (k d e0 e1 g s : Int) (bl tl : List UInt8) : sameB k d e0 e1 g s bl tl k d e0 e1 g s bl tl = true := by simp [sameB]

set_option maxRecDepth 100000 in
set_option maxHeartbeats 2000000 in
theorem envReads_any (a : Option Addr) (c : Nat) (l : List UInt8) (w : World) (hm : l.length ≤ maxLen) (hc : l.length ≤ c) (hcm : c ≤ maxLen) (hl : BytesAt w a l) :
    Calls Try.prog 4 #[.slice a l.length c] w (BoolOut w true) := by
  obtain ⟨k, d, e0, e1, g, s, bl, tl, er, HR, HR'⟩ := read_both a c l hm hc hcm
  have HR := Lib.hid (fun W (h : Below w.heap.size w W) => HR W (hl.mono h))
  have HR' := Lib.hid (fun W (h : Below w.heap.size w W) => HR' W (hl.mono h))
  have HS := Lib.hid (fun a1 c1 a2 c2 a3 c3 a4 c4 W h1 h2 h3 h4 => refEnvSame_any k d e0 e1 g s a1 a2 c1 c2 bl tl k d e0 e1 g s a3 a4 c3 c4 bl tl W h1 h2 h3 h4)
  rw [sameB_refl] at HS
  have Hsh := Lib.hid shown12
  clear hl hm hc hcm
  generalize l.length = n at *
  by_cases hn : (1000 : Int) < (n : Int)
  · clear HR HR' HS
    go_enter Try.func4, Try.ntmps4
    go_wp2_with fail
    refine (Hsh.out _).mono ?_; rintro e w1 ⟨rfl, hb1⟩
    have B1 := Lib.hid hb1
    clear hb1
    go_wp2_with fail
    go_ret
    exact ⟨rfl, B1.out⟩
  go_enter Try.func4, Try.ntmps4
  go_wp2_with fail
  refine (Hsh.out _).mono ?_; rintro e w1 ⟨rfl, hb1⟩
  have B1 := Lib.hid hb1
  clear hb1
  go_wp2_with fail
  refine (HR.out _ B1.out).mono ?_; rintro e w2 ⟨a1, c1, a2, c2, rfl, h21, h22, hb2⟩
  have B2 := Lib.hid (bt B1.out hb2)
  have X2 := Lib.hid h21
  have Y2 := Lib.hid h22
  clear h21 h22 hb2
  go_upto_region 5 with (fail)
  generalize hW3 : World.alloc w2 _ = W3
  have E3 := Lib.hid (show BlkT 25 W3 w2.heap.size (envL k d e0 e1 g s (.slice a1 bl.length c1) (.slice a2 tl.length c2)) by rw [← hW3]; exact BlkT.new w2 (envL k d e0 e1 g s (.slice a1 bl.length c1) (.slice a2 tl.length c2)) _)
  have B3 := Lib.hid (show Below w.heap.size w W3 by rw [← hW3]; exact bta B2.out _)
  have X3 := Lib.hid (show BytesAt W3 a1 bl by rw [← hW3]; exact X2.out.mono (ba _ _))
  have Y3 := Lib.hid (show BytesAt W3 a2 tl by rw [← hW3]; exact Y2.out.mono (ba _ _))
  clear hW3 X2 Y2 B2
  generalize w2.heap.size = b1 at E3 ⊢
  go_wp2_with fail
  refine (HR'.out _ B3.out).mono ?_; rintro e w4 ⟨a3, c3, a4, c4, rfl, h41, h42, hb4⟩
  have B4 := Lib.hid (bt B3.out hb4)
  have E4 := Lib.hid (E3.out.up hb4)
  have X4 := Lib.hid (X3.out.mono hb4)
  have Y4 := Lib.hid (Y3.out.mono hb4)
  have U4 := Lib.hid h41
  have V4 := Lib.hid h42
  clear h41 h42 hb4 X3 Y3 E3
  go_upto_region 6 with (fail)
  generalize hW5 : World.alloc w4 _ = W5
  have F5 := Lib.hid (show BlkT 25 W5 w4.heap.size (envL k d e0 e1 g s (.slice a3 bl.length c3) (.slice a4 tl.length c4)) by rw [← hW5]; exact BlkT.new w4 (envL k d e0 e1 g s (.slice a3 bl.length c3) (.slice a4 tl.length c4)) _)
  have B5 := Lib.hid (show Below w.heap.size w W5 by rw [← hW5]; exact bta B4.out _)
  have E5 := Lib.hid (show BlkT 25 W5 b1 (envL k d e0 e1 g s (.slice a1 bl.length c1) (.slice a2 tl.length c2)) by rw [← hW5]; exact E4.out.up (ba _ _))
  have HS5 := Lib.hid (HS.out a1 c1 a2 c2 a3 c3 a4 c4 W5 (by rw [← hW5]; exact X4.out.mono (ba _ _)) (by rw [← hW5]; exact Y4.out.mono (ba _ _)) (by rw [← hW5]; exact U4.out.mono (ba _ _)) (by rw [← hW5]; exact V4.out.mono (ba _ _)))
  clear hW5 E4 X4 Y4 U4 V4 B4
  generalize w4.heap.size = b2 at F5 ⊢
  obtain ⟨c0, c1', c2', c3', c4', c5, c6, c7⟩ := env_cells E5.out.blk
  obtain ⟨d0, d1, d2', d3, d4, d5, d6, d7⟩ := env_cells F5.out.blk
  go_wp2_with fail
  refine HS5.out.mono ?_; rintro e w6 ⟨rfl, hb6⟩
  have B6 := Lib.hid (bt B5.out hb6)
  clear hb6
  go_wp2_with fail
  go_ret
  exact ⟨by simp, B6.out⟩
theorem envReads_in (w : World) (a : Option Addr) (n c : Nat) (l : List UInt8) (h : InBytes w a n c l) : Calls Try.prog 4 #[.slice a n c] w (BoolOut w true) := by
  obtain ⟨rfl, q1, q2, q3⟩ := h
  exact envReads_any a c l w (Nat.le_trans q1 q2) q1 q2 q3
end Go.Proofs.Ytkjckokejbnapaa
