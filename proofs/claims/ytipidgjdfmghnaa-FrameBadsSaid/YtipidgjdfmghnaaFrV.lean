/- The law FrameBads, from what came in on. -/
import Derived.Test.YtipidgjdfmghnaaFrU
import Derived.Test.YtipidgjdfmghnaaFrQ
set_option linter.unusedSimpArgs false
set_option linter.unusedVariables false
namespace Go.Proofs.Ytipidgjdfmghnaa
open Go.RowKit

theorem frameBads_in (W : World) (n : Int) (wn : (Lit.int .u16 n).wf = true) (x : Int) (wx : (Lit.int .u8 x).wf = true) (a : Option Addr) (len cap : Nat) (l : List UInt8) (h : InBytes W a len cap l) :
    Calls Try.prog 8 #[.int .u16 n, .int .u8 x, .slice a len cap] W (BoolOut W true) := by
  obtain ⟨rfl, g1, g2, g3⟩ := h
  obtain ⟨y, rfl⟩ := exists_bv wx
  have hn : 0 ≤ n := by simp [Lit.wf, IntKind.min, IntKind.max, IntKind.bits, IntKind.signed] at wn; omega
  obtain ⟨N, rfl⟩ := Int.eq_ofNat_of_zero_le hn
  exact frameBads_any shown08 N y a cap l W g3
end Go.Proofs.Ytipidgjdfmghnaa
