/- The law RingKeeps, from what came in on. -/
import Derived.Test.YtelndpphbpandaaRingJ
import Derived.Test.YtelndpphbpandaaRingZ
set_option linter.unusedSimpArgs false
set_option linter.unusedVariables false
namespace Go.Proofs.Ytelndpphbpandaa
open Go.RowKit

theorem ringKeeps_in (W : World) (a : Option Addr) (len cap : Nat) (h : len ≤ cap ∧ cap ≤ maxLen ∧ InSteps W a len) :
    Calls Try.prog 5 #[.slice a len cap] W (BoolOut W true) :=
  ringKeeps_any shown11 a len cap W h.2.2 (Nat.le_trans h.1 h.2.1)
end Go.Proofs.Ytelndpphbpandaa
