/- The law FrameBack, from what came in on. -/
import Derived.Test.YtipidgjdfmghnaaFbB
import Derived.Test.YtipidgjdfmghnaaFrQ
set_option linter.unusedSimpArgs false
set_option linter.unusedVariables false
namespace Go.Proofs.Ytipidgjdfmghnaa
open Go.RowKit

theorem frameBack_in (W : World) (a2 : Option Addr) (len2 cap2 : Nat) (rows : List (List UInt8)) (h2 : InRows W a2 len2 cap2 rows) (c : Int) (wc : (Lit.int .u16 c).wf = true) :
    Calls Try.prog 6 #[.slice a2 len2 cap2, .int .u16 c] W (BoolOut W true) := by
  obtain ⟨rfl, g1, g2, g3⟩ := h2
  have hn : 0 ≤ c ∧ c ≤ 65535 := by simp [Lit.wf, IntKind.min, IntKind.max, IntKind.bits, IntKind.signed] at wc; omega
  obtain ⟨N, rfl⟩ := Int.eq_ofNat_of_zero_le hn.1
  exact frameBack_any shown08 a2 cap2 rows N W g3 (Nat.le_trans g1 g2) (by omega)
end Go.Proofs.Ytipidgjdfmghnaa
