/- The laws FrameTells and FramePushes, from what came in on. -/
import Derived.Test.YtipidgjdfmghnaaFrO
import Derived.Test.YtipidgjdfmghnaaFrS
import Derived.Test.YtipidgjdfmghnaaInF
set_option linter.unusedSimpArgs false
set_option linter.unusedVariables false
namespace Go.Proofs.Ytipidgjdfmghnaa
open Go.RowKit

theorem fd_in {W : World} {a : Option Addr} {len cap : Nat} {sk bd : Int} {l : List UInt8} (h : InBytes W a len cap l) : FdAt W ⟨a, len, cap, sk, bd⟩ ⟨l, sk, bd⟩ := ⟨h.1, h.2.1, h.2.2.1, h.2.2.2, rfl, rfl⟩
theorem frameTells_in (W : World) (a : Option Addr) (len cap : Nat) (sk bd : Int) (l : List UInt8) (h : InBytes W a len cap l) (hs : (Lit.int .i64 sk).wf = true) (hb : (Lit.int .i64 bd).wf = true)
    (a1 : Option Addr) (len1 cap1 : Nat) (sk1 bd1 : Int) (l1 : List UInt8) (h1 : InBytes W a1 len1 cap1 l1) (hs1 : (Lit.int .i64 sk1).wf = true) (hb1 : (Lit.int .i64 bd1).wf = true)
    (a2 : Option Addr) (len2 cap2 : Nat) (l2 : List UInt8) (h2 : InBytes W a2 len2 cap2 l2) :
    Calls Try.prog 3 #[.agg #[.slice a len cap, .int .i64 sk, .int .i64 bd], .agg #[.slice a1 len1 cap1, .int .i64 sk1, .int .i64 bd1], .slice a2 len2 cap2] W (BoolOut W true) := by
  obtain ⟨rfl, g1, g2, g3⟩ := h2
  exact frameTells_any shown08 ⟨a, len, cap, sk, bd⟩ ⟨a1, len1, cap1, sk1, bd1⟩ ⟨l, sk, bd⟩ ⟨l1, sk1, bd1⟩ a2 cap2 l2 W (fd_in h) (fd_in h1) g3 (Nat.le_trans g1 g2)
theorem framePushes_in (W : World) (a : Option Addr) (len cap : Nat) (sk bd : Int) (l : List UInt8) (h : InBytes W a len cap l) (hs : (Lit.int .i64 sk).wf = true) (hb : (Lit.int .i64 bd).wf = true)
    (a2 : Option Addr) (len2 cap2 : Nat) (l2 : List UInt8) (h2 : InBytes W a2 len2 cap2 l2) :
    Calls Try.prog 4 #[.agg #[.slice a len cap, .int .i64 sk, .int .i64 bd], .slice a2 len2 cap2] W (BoolOut W true) := by
  obtain ⟨rfl, g1, g2, g3⟩ := h2
  exact framePushes_any shown08 ⟨a, len, cap, sk, bd⟩ ⟨l, sk, bd⟩ a2 cap2 l2 W (fd_in h) g3
end Go.Proofs.Ytipidgjdfmghnaa
