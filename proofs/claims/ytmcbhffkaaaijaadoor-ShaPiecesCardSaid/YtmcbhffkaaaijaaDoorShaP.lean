/- The walk of the law ShaParts. -/
import Derived.Test.YtmcbhffkaaaijaaDoorShaO
set_option linter.unusedSimpArgs false
set_option linter.unusedVariables false
namespace Go.Proofs.YtmcbhffkaaaijaaDoor
open Go.RowKit

theorem Blk.onto {w w' : World} {b : Nat} {cs : List Value} (hb : Below w.heap.size w w') (h : Blk w b cs) : Blk w' b cs := h.below hb h.lt

set_option maxRecDepth 100000 in
set_option maxHeartbeats 2000000 in
theorem shaParts_any (hsh : ShownOK) (i : Int) (s : R8) (a : Option Addr) (cap : Nat) (l : List UInt8) (len : Nat) (w : World) (hlen : len = l.length) (hm : len ≤ maxLen) (hl : BytesAt w a l) (hk : KeysAt w) :
    Calls Tryd.prog 4 #[.int .i64 i, .agg s.cells.toArray, .slice a len cap] w (BoolOut w true) := by
  have Hsh := Lib.hid hsh
  have Hl := Lib.hid hl
  have Hk := Lib.hid hk
  have Hlen := Lib.hid hlen
  unfold maxLen at hm
  clear hsh hl hk hlen
  by_cases h : 200 < len
  · have hd : (200 : Int) < len := by omega
    go_enter Tryd.func4, Tryd.ntmps4
    go_wp2_with fail
    refine (Hsh.out _ (Hk.out.mono (ba w _))).mono ?_; rintro e w1 ⟨rfl, hb1⟩
    go_wp2_with fail
    go_ret
    exact ⟨rfl, bt (ba w _) hb1⟩
  · have hd : ¬ (200 : Int) < len := by omega
    obtain ⟨R, c, hP, hQ⟩ := blocks_same s a len cap l Hlen.out (by omega)
    obtain ⟨v, hK1, hK2⟩ := keys_same i
    have HP := Lib.hid hP
    have HQ := Lib.hid hQ
    have HK1 := Lib.hid hK1
    have HK2 := Lib.hid hK2
    clear hP hQ hK1 hK2
    go_enter Tryd.func4, Tryd.ntmps4
    go_wp2_with fail
    have HB0 := Lib.hid (Blk.new w s.cells 28)
    refine (Hsh.out _ (Hk.out.mono (ba w _))).mono ?_; rintro e w1 ⟨rfl, hb1⟩
    have HB1 := Lib.hid (Blk.onto hb1 HB0.out)
    have Hb1 := Lib.hid (bt (ba w _) hb1)
    clear hb1 HB0
    obtain ⟨c0, c1, c2, c3, c4, c5, c6, c7⟩ := r8_cells HB1.out
    go_wp2_with fail
    refine (HP.out w1 (Hl.out.mono Hb1.out) (Hk.out.mono Hb1.out)).mono ?_; rintro e w2 ⟨rfl, hb2⟩
    have HB2 := Lib.hid ((Blk.onto hb2 HB1.out).alloc (.cells R.cells.toArray 28))
    have Hb2 := Lib.hid (bt (bt Hb1.out hb2) (ba w2 (.cells R.cells.toArray 28)))
    have HR2 := Lib.hid (Blk.new w2 R.cells 28)
    clear hb2 c0 c1 c2 c3 c4 c5 c6 c7
    obtain ⟨c0, c1, c2, c3, c4, c5, c6, c7⟩ := r8_cells HB2.out
    go_wp2_with fail
    refine (HQ.out _ (Hl.out.mono Hb2.out)).mono ?_; rintro e w3 ⟨rfl, hb3⟩
    clear c0 c1 c2 c3 c4 c5 c6 c7
    have HR3 := Lib.hid ((Blk.onto hb3 HR2.out).alloc (.cells R.cells.toArray 28))
    have HS3 := Lib.hid (Blk.new w3 R.cells 28)
    have Hb3 := Lib.hid (bt (bt Hb2.out hb3) (ba w3 (.cells R.cells.toArray 28)))
    clear hb3
    go_wp2_with fail
    refine (new_any _).mono ?_; rintro e w4 ⟨rfl, hb4⟩
    have Hb4 := Lib.hid hb4
    clear hb4
    go_wp2_with fail
    refine (refNew_any _).mono ?_; rintro e w5 ⟨rfl, hb5⟩
    have Hb5 := Lib.hid (bt Hb4.out hb5)
    clear hb5
    go_wp2_with fail
    refine (same02_yes iv 0 none none 0 0 0 0 [] _ rfl rfl (at_none _) (at_none _)).mono ?_; rintro e w6 ⟨rfl, hb6⟩
    have Hb6 := Lib.hid (bt Hb5.out hb6)
    clear hb6
    go_wp2_with fail
    refine (HK1.out _ (Hk.out.mono (bt Hb3.out Hb6.out))).mono ?_; rintro e w7 ⟨rfl, rfl⟩
    go_wp2_with fail
    refine (HK2.out _).mono ?_; rintro e w7 ⟨rfl, hb7⟩
    have Hb7 := Lib.hid (bt Hb6.out hb7)
    clear hb7
    obtain ⟨c0, c1, c2, c3, c4, c5, c6, c7⟩ := r8_cells (Blk.onto Hb7.out HR3.out)
    obtain ⟨d0, d1, d2, d3, d4, d5, d6, d7⟩ := r8_cells (Blk.onto Hb7.out HS3.out)
    have heq : ∀ W, (Op.equalIn 10000 28 (.agg #[.int .u32 (uv R.a), .int .u32 (uv R.b), .int .u32 (uv R.c), .int .u32 (uv R.d), .int .u32 (uv R.e), .int .u32 (uv R.f), .int .u32 (uv R.g), .int .u32 (uv R.h)]) (.agg #[.int .u32 (uv R.a), .int .u32 (uv R.b), .int .u32 (uv R.c), .int .u32 (uv R.d), .int .u32 (uv R.e), .int .u32 (uv R.f), .int .u32 (uv R.g), .int .u32 (uv R.h)])).run Tryd.prog W = .ok true W := fun W => eq8 R W
    go_wp2_with fail
    go_ret
    exact ⟨rfl, bt Hb3.out Hb7.out⟩

theorem shaParts_in (hsh : ShownOK) (w : World) (hk : KeysAt w) (i : Int) (s : R8) (a : Option Addr) (len cap : Nat) (l : List UInt8) (h : InBytes w a len cap l) :
    Calls Tryd.prog 4 #[.int .i64 i, .agg s.cells.toArray, .slice a len cap] w (BoolOut w true) :=
  shaParts_any hsh i s a cap l len _ h.1 (Nat.le_trans h.2.1 h.2.2.1) h.2.2.2 hk
end Go.Proofs.YtmcbhffkaaaijaaDoor
