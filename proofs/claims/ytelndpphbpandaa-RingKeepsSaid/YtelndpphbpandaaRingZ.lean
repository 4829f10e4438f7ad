/- The laws of layer 11, from what came in on. -/
import Derived.Test.YtelndpphbpandaaRingH
import Derived.Test.YtelndpphbpandaaRingS
import Derived.Test.YtelndpphbpandaaRingU
set_option linter.unusedSimpArgs false
set_option linter.unusedVariables false
namespace Go.Proofs.Ytelndpphbpandaa
open Go.RowKit

theorem same11 : Same11OK := fun r s kc ko kp jc jo jp w h1 h2 => same_any r s kc ko kp jc jo jp w h1 h2
theorem shown11 : Shown11OK := fun w => shown11_of same11 w
theorem ringDoes_in (W : World) (R : Rg) (hR : InRing W R) (no : Int) (hn : (Lit.int .i64 no).wf = true) (a : Option Addr) (len cap : Nat) (l : List UInt8) (h : InBytes W a len cap l) :
    Calls Try.prog 4 #[R.v, .int .i64 no, .slice a len cap] W (BoolOut W true) := by
  obtain ⟨kc, ko, kp, hr⟩ := hR.at
  exact ringDoes_any shown11 R no a len cap kc ko kp l W hr h.1 h.2.2.2 (Nat.le_trans h.2.1 h.2.2.1)
theorem ringTells_in (W : World) (A B : Rg) (no : Int) (a : Option Addr) (len cap : Nat) (l : List UInt8) (hA : InRing W A) (hB : InRing W B) (hn : (Lit.int .i64 no).wf = true) (h : InBytes W a len cap l) :
    Calls Try.prog 3 #[.agg (A.L ++ (B.L ++ [Value.int .i64 no, Value.slice a len cap])).toArray] W (BoolOut W true) := by
  obtain ⟨kc, ko, kp, hr⟩ := hA.at
  obtain ⟨jc, jo, jp, hs⟩ := hB.at
  exact ringTells_any shown11 same11 A B no a len cap kc ko kp jc jo jp l W hr hs h.1 h.2.2.2 (Nat.le_trans h.2.1 h.2.2.1)

end Go.Proofs.Ytelndpphbpandaa
