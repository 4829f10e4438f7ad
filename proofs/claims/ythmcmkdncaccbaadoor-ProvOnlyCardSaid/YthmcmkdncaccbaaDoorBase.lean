/- What all walks over this program share: its byte slices; the document's Same of rows. -/
import Derived.Test.YthmcmkdncaccbaaDoorProg
import Derived.Test.YthmcmkdncaccbaaDoorBuf
set_option linter.unusedSimpArgs false
set_option linter.unusedVariables false
namespace Go.Proofs.YthmcmkdncaccbaaDoor
open Go.RowKit

theorem elemB : ElemT Tryd.prog 25 5 1 1 (.int .u8 0) := ElemT.mk1 Tryd.underlying25 (by kernel_rfl) rfl (by decide)
theorem size_u8 (w : World) : (sizeOf 5).run Tryd.prog w = .ok 1 w := by kernel_rfl
theorem beq_str (l m : List UInt8) : ((⟨l.toArray⟩ : ByteArray).toList == (⟨m.toArray⟩ : ByteArray).toList) = (l == m) := by
  rw [ByteArray.toList_mk, ByteArray.toList_mk]

set_option maxHeartbeats 400000 in
theorem same01_any (a b : Option Addr) (la ca lb cb : Nat) (l m : List UInt8) (w : World) (ha : la = l.length) (hb : lb = m.length) (hl : BytesAt w a l) (hm : BytesAt w b m) :
    Calls Tryd.prog 16 #[.slice a la ca, .slice b lb cb] w fun e w' => e = .returned (.bool (l == m)) ∧ w = w' := by
  have h1 := run_str hl 25 9 5 Tryd.underlying25 Tryd.underlying5 Tryd.underlying9 la ca ha
  have h2 := run_str hm 25 9 5 Tryd.underlying25 Tryd.underlying5 Tryd.underlying9 lb cb hb
  have h3 := Lib.hid (beq_str l m)
  clear hl hm ha hb
  go_enter Tryd.func16, Tryd.ntmps16
  go_wp2_with fail
  go_ret
  exact ⟨rfl, rfl⟩

end Go.Proofs.YthmcmkdncaccbaaDoor
