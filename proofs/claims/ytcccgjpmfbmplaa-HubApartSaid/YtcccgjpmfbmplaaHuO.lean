/- The walk of the law HubApart: the cases joined. -/
import Derived.Test.YtcccgjpmfbmplaaHuOA
import Derived.Test.YtcccgjpmfbmplaaHuOB
import Derived.Test.YtcccgjpmfbmplaaHuOC
import Derived.Test.YtcccgjpmfbmplaaHuOD
import Derived.Test.YtcccgjpmfbmplaaHuOE
set_option linter.unusedSimpArgs false
set_option linter.unusedVariables false
namespace Go.Proofs.Ytcccgjpmfbmplaa
open Go.RowKit

theorem hubApart_any (h : Hv) (s : Nat → Fd) (c : Int) (a : Option Addr) (cap : Nat) (l : List UInt8) (ot : Nat) (w : World) (hot : ot < 256) (hh : HbAt w h s) (hl : BytesAt w a l) (hml : l.length ≤ maxLen) :
    Calls Try.prog 6 #[apartV h c (.slice a l.length cap) ot] w (BoolOut w true) := by
  rcases q1 : isC c with _ | _
  · exact hubApart_A h s c a cap l ot w hot hh hl hml q1
  · rcases q2 : h.u c.toNat with _ | _
    · by_cases q3 : ((ot % 4 : Nat) : Int) = c
      · exact hubApart_C1 h s c a cap l ot w hot hh hl hml q1 q2 q3
      · exact hubApart_C2 h s c a cap l ot w hot hh hl hml q1 q2 q3
    · by_cases q3 : ((ot % 4 : Nat) : Int) = c
      · exact hubApart_B1 h s c a cap l ot w hot hh hl hml q1 q2 q3
      · exact hubApart_B2 h s c a cap l ot w hot hh hl hml q1 q2 q3
theorem hubApart_in (w : World) (h : Hv) (s : Nat → Fd) (hh : HbAt w h s) (c : Int) (a : Option Addr) (n cap : Nat) (l : List UInt8) (ha : InBytes w a n cap l) (ot : Int) (hot : (Lit.int .u8 ot).wf = true) :
    Calls Try.prog 6 #[apartV h c (.slice a n cap) ot] w (BoolOut w true) := by
  obtain ⟨rfl, u1, u2, u3⟩ := ha
  simp [Lit.wf, IntKind.min, IntKind.max, IntKind.bits, IntKind.signed] at hot
  obtain ⟨x, rfl⟩ : ∃ x : Nat, ot = x := ⟨ot.toNat, by omega⟩
  exact hubApart_any h s c a cap l x w (by omega) hh u3 (Nat.le_trans u1 u2)
end Go.Proofs.Ytcccgjpmfbmplaa
