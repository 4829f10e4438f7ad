/- The walks of the small functions of layer 2: New, Right, Key, keys, of the program and of the document. -/
import Derived.Test.YthmcmkdncaccbaaDoorShaD
import Derived.Test.YthmcmkdncaccbaaDoorMem2
set_option linter.unusedSimpArgs false
set_option linter.unusedVariables false
namespace Go.Proofs.YthmcmkdncaccbaaDoor
open Go.RowKit

def iv : R8 := ⟨1779033703, 3144134277, 1013904242, 2773480762, 1359893119, 2600822924, 528734635, 1541459225⟩
/-- a digest under way as cells -/
abbrev hashC (s : R8) (n : Int) (a : Option Addr) (len cap : Nat) : List Value := s.cells ++ [.int .i64 n, .slice a len cap]

set_option maxHeartbeats 400000 in
theorem new_any (w : World) :
    Calls Tryd.prog 41 #[] w fun e w' => e = .returned (.agg (hashC iv 0 none 0 0).toArray) ∧ Below w.heap.size w w' := by
  go_enter Tryd.func41, Tryd.ntmps41
  go_wp2_with fail
  exact bodyPost_ret (v := .agg (hashC iv 0 none 0 0).toArray) (by simp [results, Tryd.results41, go_sem]; exact ⟨rfl, rfl, rfl, rfl, rfl, rfl, rfl, rfl⟩) rfl ⟨rfl, ba w _⟩

set_option maxHeartbeats 400000 in
theorem refNew_any (w : World) :
    Calls Tryd.prog 45 #[] w fun e w' => e = .returned (.agg (hashC iv 0 none 0 0).toArray) ∧ Below w.heap.size w w' := by
  go_enter Tryd.func45, Tryd.ntmps45
  go_wp2_with fail
  exact bodyPost_ret (v := .agg (hashC iv 0 none 0 0).toArray) (by simp [results, Tryd.results45, go_sem]; exact ⟨rfl, rfl, rfl, rfl, rfl, rfl, rfl, rfl⟩) rfl ⟨rfl, ba w _⟩

/-- is a digest under way right? -/
def rightH (n : Int) (len : Nat) : Bool := decide (0 ≤ n) && (decide (n ≤ 1125899906842624) && ((len : Int) == n % 64))

set_option maxRecDepth 100000 in
set_option maxHeartbeats 1000000 in
theorem keys_any (w : World) :
    Calls Tryd.prog 49 #[] w fun e w' => e = .returned (.slice (some ⟨w.heap.size, 0, none⟩) 64 64) ∧ w' = w.alloc (.cells (W32s shaK).toArray 71) := by
  go_enter Tryd.func49, Tryd.ntmps49
  go_wp2_with fail
  go_ret
  exact ⟨rfl, rfl⟩

theorem keys_at (w : World) : At (w.alloc (.cells (W32s shaK).toArray 71)) (some ⟨w.heap.size, 0, none⟩) (W32s shaK) := (Blk.new w (W32s shaK) _).at
end Go.Proofs.YthmcmkdncaccbaaDoor
