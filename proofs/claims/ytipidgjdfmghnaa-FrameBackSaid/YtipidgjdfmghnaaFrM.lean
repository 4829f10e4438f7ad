/- Frames: what the laws ask of the examples. -/
import Derived.Test.YtipidgjdfmghnaaFrL
import Derived.Test.YtipidgjdfmghnaaHex
set_option linter.unusedSimpArgs false
set_option linter.unusedVariables false
namespace Go.Proofs.Ytipidgjdfmghnaa
open Go.RowKit

/-- the document's examples hold -/
def Shown08OK : Prop := ∀ w, Calls Try.prog 9 #[] w (BoolOut w true)
end Go.Proofs.Ytipidgjdfmghnaa
