/- The walk of the law ShaTells. -/
import Derived.Test.YtmcbhffkaaaijaaDoorShaL
import Derived.Test.YtmcbhffkaaaijaaDoorInB
set_option linter.unusedSimpArgs false
set_option linter.unusedVariables false
namespace Go.Proofs.YtmcbhffkaaaijaaDoor
open Go.RowKit

set_option maxRecDepth 100000 in
set_option maxHeartbeats 1000000 in
theorem shaTells_any (hsh : ShownOK) (a : Option Addr) (cap : Nat) (l : List UInt8) (len : Nat) (w : World) (hlen : len = l.length) (hm : len ≤ maxLen) (hl : BytesAt w a l) (hk : KeysAt w) :
    Calls Tryd.prog 3 #[.slice a len cap] w (BoolOut w true) := by
  have Hsh := Lib.hid hsh
  clear hsh
  have Hl := Lib.hid hl
  have Hk := Lib.hid hk
  have Hlen := Lib.hid hlen
  unfold maxLen at hm
  clear hl hk hlen
  by_cases h : 1500 < len
  · have hd : (1500 : Int) < len := by omega
    go_enter Tryd.func3, Tryd.ntmps3
    go_wp2_with fail
    refine (Hsh.out w Hk.out).mono ?_; rintro e w1 ⟨rfl, hb1⟩
    go_wp2_with fail
    go_ret
    exact ⟨rfl, hb1⟩
  · have hd : ¬ (1500 : Int) < len := by omega
    go_enter Tryd.func3, Tryd.ntmps3
    go_wp2_with fail
    refine (Hsh.out w Hk.out).mono ?_; rintro e w1 ⟨rfl, hb1⟩
    have Hb1 := Lib.hid hb1
    clear hb1
    go_wp2_with fail
    refine (of_any a len cap l Hlen.out (by omega) _ (Hl.out.mono Hb1.out) (KeysAt.mono Hk.out Hb1.out)).mono ?_; rintro e w2 ⟨a2, c2, rfl, hat2, hb2⟩
    have Hat2 := Lib.hid hat2
    have Hb2 := Lib.hid hb2
    have Hb12 := Lib.hid (bt Hb1.out hb2)
    clear hat2 hb2
    go_wp2_with fail
    refine (refOf_any a len cap l Hlen.out (by omega) _ (Hl.out.mono Hb12.out)).mono ?_; rintro e w3 ⟨a3, c3, rfl, hat3, hb3⟩
    have Hat3 := Lib.hid hat3
    have Hb3 := Lib.hid hb3
    clear hat3 hb3
    go_wp2_with fail
    refine (same01_any a2 a3 _ c2 _ c3 (ofF l) (ofF l) _ rfl rfl (Hat2.out.mono Hb3.out) Hat3.out).mono ?_; rintro e w4 ⟨rfl, rfl⟩
    rw [show (ofF l == ofF l) = true from beq_self_eq_true _]
    go_wp2_with fail
    go_ret
    exact ⟨rfl, bt Hb12.out Hb3.out⟩
theorem shaTells_in (hsh : ShownOK) (w : World) (hk : KeysAt w) (a : Option Addr) (len cap : Nat) (l : List UInt8) (h : InBytes w a len cap l) :
    Calls Tryd.prog 3 #[.slice a len cap] w (BoolOut w true) :=
  shaTells_any hsh a cap l len _ h.1 (Nat.le_trans h.2.1 h.2.2.1) h.2.2.2 hk
end Go.Proofs.YtmcbhffkaaaijaaDoor
