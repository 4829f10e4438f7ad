/- Envelopes: read, of the program. -/
import Derived.Test.YtkjckokejbnapaaEnvM
set_option linter.unusedSimpArgs false
set_option linter.unusedVariables false
namespace Go.Proofs.Ytkjckokejbnapaa
open Go.RowKit

abbrev zeroE : List Value := envL 0 0 0 0 0 0 (.slice none 0 0) (.slice none 0 0)
/-- no envelope, and why -/
def NoEnv (w : World) (why : Int) (e : Ending) (w' : World) : Prop := e = .returned (.tuple #[.agg zeroE.toArray, .int .i64 why]) ∧ Below w.heap.size w w'
theorem env_size : (Try.prog.info? 25).map (·.size) = some 8 := by kernel_rfl

set_option maxRecDepth 100000 in
set_option maxHeartbeats 1000000 in
theorem read_short (a : Option Addr) (c : Nat) (l : List UInt8) (h : l.length < 47) (w : World) :
    Calls Try.prog 20 #[.slice a l.length c] w (NoEnv w 3) := by
  have hd : (l.length : Int) < 47 := by omega
  go_enter Try.func20, Try.ntmps20
  go_wp2_with fail
  refine bodyPost_ret (results_blk_tmp rfl _ _ (w.heap.size + 1) (cs := zeroE) rfl _ rfl ?hb Try.underlying25 rfl env_size) rfl ?_
  case hb => have := Blk.new (w.alloc (.cells #[.slice a l.length c] 23)) zeroE 25; rwa [size_alloc] at this
  exact ⟨rfl, bta (ba w _) _⟩

set_option maxRecDepth 100000 in
set_option maxHeartbeats 1000000 in
theorem read_long (a : Option Addr) (c : Nat) (l : List UInt8) (h : 946 < l.length) (hm : l.length ≤ maxLen) (w : World) :
    Calls Try.prog 20 #[.slice a l.length c] w (NoEnv w 4) := by
  unfold maxLen at hm
  have hd : ¬ (l.length : Int) < 47 := by omega
  have hd2 : (946 : Int) < (l.length : Int) := by omega
  go_enter Try.func20, Try.ntmps20
  go_wp2_with fail
  refine bodyPost_ret (results_blk_tmp rfl _ _ (w.heap.size + 1) (cs := zeroE) rfl _ rfl ?hb Try.underlying25 rfl env_size) rfl ?_
  case hb => have := Blk.new (w.alloc (.cells #[.slice a l.length c] 23)) zeroE 25; rwa [size_alloc] at this
  exact ⟨rfl, bta (ba w _) _⟩
end Go.Proofs.Ytkjckokejbnapaa
