/- The law RingNext, from what came in on. -/
import Derived.Test.YtelndpphbpandaaRingZ
import Derived.Test.YtelndpphbpandaaRingV
set_option linter.unusedSimpArgs false
set_option linter.unusedVariables false
namespace Go.Proofs.Ytelndpphbpandaa
open Go.RowKit

theorem ringNext_in (W : World) (R : Rg) (hR : InRing W R) (n : Int) (hn : (Lit.int .u8 n).wf = true) :
    Calls Try.prog 7 #[R.v, .int .u8 n] W (BoolOut W true) := by
  obtain ⟨b, rfl⟩ := exists_bv hn
  exact ringNext_any shown11 R b W
end Go.Proofs.Ytelndpphbpandaa
