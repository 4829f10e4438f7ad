/- The walks of the small functions of layer 2: New, Right, Key, keys, of the program and of the document. -/
import Derived.Test.YtmcbhffkaaaijaaDoorShaD
import Derived.Test.YtmcbhffkaaaijaaDoorMem2
set_option linter.unusedSimpArgs false
set_option linter.unusedVariables false
namespace Go.Proofs.YtmcbhffkaaaijaaDoor
open Go.RowKit

def iv : R8 := ⟨1779033703, 3144134277, 1013904242, 2773480762, 1359893119, 2600822924, 528734635, 1541459225⟩
/-- a digest under way as cells -/
abbrev hashC (s : R8) (n : Int) (a : Option Addr) (len cap : Nat) : List Value := s.cells ++ [.int .i64 n, .slice a len cap]

set_option maxHeartbeats 400000 in
theorem new_any (w : World) :
    Calls Tryd.prog 17 #[] w fun e w' => e = .returned (.agg (hashC iv 0 none 0 0).toArray) ∧ Below w.heap.size w w' := by
  go_enter Tryd.func17, Tryd.ntmps17
  go_wp2_with fail
  exact bodyPost_ret (v := .agg (hashC iv 0 none 0 0).toArray) (by simp [results, Tryd.results17, go_sem]; exact ⟨rfl, rfl, rfl, rfl, rfl, rfl, rfl, rfl⟩) rfl ⟨rfl, ba w _⟩

set_option maxHeartbeats 400000 in
theorem refNew_any (w : World) :
    Calls Tryd.prog 18 #[] w fun e w' => e = .returned (.agg (hashC iv 0 none 0 0).toArray) ∧ Below w.heap.size w w' := by
  go_enter Tryd.func18, Tryd.ntmps18
  go_wp2_with fail
  exact bodyPost_ret (v := .agg (hashC iv 0 none 0 0).toArray) (by simp [results, Tryd.results18, go_sem]; exact ⟨rfl, rfl, rfl, rfl, rfl, rfl, rfl, rfl⟩) rfl ⟨rfl, ba w _⟩

/-- is a digest under way right? -/
def rightH (n : Int) (len : Nat) : Bool := decide (0 ≤ n) && (decide (n ≤ 1125899906842624) && ((len : Int) == n % 64))

set_option maxHeartbeats 400000 in
theorem right_any (s : R8) (n : Int) (a : Option Addr) (len cap : Nat) (w : World) :
    Calls Tryd.prog 22 #[.agg (hashC s n a len cap).toArray] w fun e w' => e = .returned (.bool (rightH n len)) ∧ Below w.heap.size w w' := by
  obtain ⟨s0, s1, s2, s3, s4, s5, s6, s7⟩ := s
  go_enter Tryd.func22, Tryd.ntmps22
  go_wp2_with fail
  all_goals
    go_ret
    exact ⟨by (try simp only [Int.not_lt, Int.not_le] at *); simp [rightH, *]; try omega, ba w _⟩

set_option maxHeartbeats 400000 in
theorem refRight_any (s : R8) (n : Int) (a : Option Addr) (len cap : Nat) (w : World) :
    Calls Tryd.prog 21 #[.agg (hashC s n a len cap).toArray] w fun e w' => e = .returned (.bool (rightH n len)) ∧ Below w.heap.size w w' := by
  obtain ⟨s0, s1, s2, s3, s4, s5, s6, s7⟩ := s
  go_enter Tryd.func21, Tryd.ntmps21
  go_wp2_with fail
  all_goals
    go_ret
    exact ⟨by (try simp only [Int.not_lt, Int.not_le] at *); simp [rightH, *]; try omega, ba w _⟩

set_option maxRecDepth 100000 in
set_option maxHeartbeats 400000 in
theorem key_in (i : Nat) (hi : i < 64) (w : World) (hk : KeysAt w) :
    Calls Tryd.prog 19 #[.int .i64 i] w fun e w' => e = .returned (.int .u32 (uv (kAt i))) ∧ w = w' := by
  have h0 := hk.2 i hi
  clear hk
  generalize kAt i = k at h0 ⊢
  go_enter Tryd.func19, Tryd.ntmps19
  go_wp2_with fail
  go_ret
  exact ⟨rfl, rfl⟩
theorem key_out (i : Int) (hi : i < 0 ∨ 64 ≤ i) (w : World) :
    Calls Tryd.prog 19 #[.int .i64 i] w fun e w' => e = .returned (.int .u32 0) ∧ w = w' := by
  rcases hi with hi | hi
  all_goals
    go_enter Tryd.func19, Tryd.ntmps19
    go_wp2_with fail
    go_ret
    exact ⟨rfl, rfl⟩

set_option maxRecDepth 100000 in
set_option maxHeartbeats 1000000 in
theorem keys_any (w : World) :
    Calls Tryd.prog 35 #[] w fun e w' => e = .returned (.slice (some ⟨w.heap.size, 0, none⟩) 64 64) ∧ w' = w.alloc (.cells (W32s shaK).toArray 27) := by
  go_enter Tryd.func35, Tryd.ntmps35
  go_wp2_with fail
  go_ret
  exact ⟨rfl, rfl⟩

theorem keys_at (w : World) : At (w.alloc (.cells (W32s shaK).toArray 27)) (some ⟨w.heap.size, 0, none⟩) (W32s shaK) := (Blk.new w (W32s shaK) _).at
set_option maxRecDepth 100000 in
set_option maxHeartbeats 1000000 in
theorem refKey_in (i : Nat) (hi : i < 64) (w : World) :
    Calls Tryd.prog 20 #[.int .i64 i] w fun e w' => e = .returned (.int .u32 (uv (kAt i))) ∧ Below w.heap.size w w' := by
  have hc := fun (w : World) => (Blk.new w (W32s shaK) 27).cell i (by simpa [shaK] using hi)
  have hg : (W32s shaK).getD i undef = .int .u32 (uv (kAt i)) := by
    have : i < shaK.length := by simpa [shaK] using hi
    simp [List.getD, this, kAt]
  rw [hg] at hc
  generalize hK : W32s shaK = K at hc
  go_enter Tryd.func20, Tryd.ntmps20
  go_wp2_with (refine (keys_any _).mono ?_; rintro e w' ⟨rfl, rfl⟩; rw [hK])
  go_ret
  exact ⟨rfl, ba w _⟩
theorem refKey_out (i : Int) (hi : i < 0 ∨ 64 ≤ i) (w : World) :
    Calls Tryd.prog 20 #[.int .i64 i] w fun e w' => e = .returned (.int .u32 0) ∧ w = w' := by
  have hj : i < 0 ∨ 63 < i := by omega
  clear hi
  rcases hj with hj | hj
  all_goals
    go_enter Tryd.func20, Tryd.ntmps20
    go_wp2_with fail
    go_ret
    exact ⟨rfl, rfl⟩
end Go.Proofs.YtmcbhffkaaaijaaDoor
