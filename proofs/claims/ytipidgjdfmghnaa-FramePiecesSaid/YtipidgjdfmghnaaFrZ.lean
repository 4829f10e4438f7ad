/- The law FramePieces, from what came in on. -/
import Derived.Test.YtipidgjdfmghnaaFrY
import Derived.Test.YtipidgjdfmghnaaFrQ
set_option linter.unusedSimpArgs false
set_option linter.unusedVariables false
namespace Go.Proofs.Ytipidgjdfmghnaa
open Go.RowKit

theorem framePieces_in (W : World) (a : Option Addr) (len cap : Nat) (sk bd : Int) (l : List UInt8) (h : InBytes W a len cap l) (hs : (Lit.int .i64 sk).wf = true) (hb : (Lit.int .i64 bd).wf = true)
    (a2 : Option Addr) (len2 cap2 : Nat) (rows : List (List UInt8)) (h2 : InRows W a2 len2 cap2 rows) :
    Calls Try.prog 5 #[.agg #[.slice a len cap, .int .i64 sk, .int .i64 bd], .slice a2 len2 cap2] W (BoolOut W true) := by
  obtain ⟨rfl, g1, g2, g3⟩ := h2
  exact framePieces_any shown08 ⟨a, len, cap, sk, bd⟩ ⟨l, sk, bd⟩ a2 cap2 rows W (fd_in h) g3 (Nat.le_trans g1 g2)
end Go.Proofs.Ytipidgjdfmghnaa
