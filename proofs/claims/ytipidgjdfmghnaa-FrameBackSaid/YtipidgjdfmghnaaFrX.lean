/- Frames: how long rows are. -/
import Derived.Test.YtipidgjdfmghnaaFrK
set_option linter.unusedSimpArgs false
set_option linter.unusedVariables false
namespace Go.Proofs.Ytipidgjdfmghnaa
open Go.RowKit

theorem w64w (x : Int) (h1 : -9223372036854775808 ≤ x) (h2 : x ≤ 9223372036854775807) : wrap64 x = x := by unfold wrap64; omega
/-- how many bytes rows have, and how many there are -/
def totalF (rows : List (List UInt8)) : Nat := rows.length + (rows.map List.length).sum
def sumL (rows : List (List UInt8)) : Nat := (rows.map List.length).sum
theorem sumL_snoc (rows : List (List UInt8)) (k : Nat) (h : k < rows.length) : sumL (rows.take (k + 1)) = sumL (rows.take k) + (rows.getD k []).length := by
  rw [take_snoc rows k h []]; simp [sumL]
theorem sumL_le (rows : List (List UInt8)) (k : Nat) : sumL (rows.take k) ≤ sumL rows := by
  have e : sumL rows = sumL (rows.take k) + sumL (rows.drop k) := by
    conv => lhs; rw [← List.take_append_drop k rows]
    simp only [sumL, List.map_append, List.sum_append]
  omega
set_option maxHeartbeats 300000 in
theorem long_any (a : Option Addr) (cap : Nat) (rows : List (List UInt8)) (most : Nat) (w : World) (hm : most ≤ 100000) (hl : rows.length ≤ maxLen) (h : RowsAt w a rows) :
    Calls Try.prog 20 #[.slice a rows.length cap, .int .i64 (most : Int)] w fun e w' => e = .returned (.int .i64 (if totalF rows ≤ most then (totalF rows : Int) else (most : Int) + 1)) ∧ w' = w := by
  unfold maxLen at hl
  obtain ⟨V, hV⟩ : ∃ V : Int, (if totalF rows ≤ most then (totalF rows : Int) else (most : Int) + 1) = V := ⟨_, rfl⟩
  rw [hV]
  have HV := Lib.hid hV
  clear hV
  have Hr := Lib.hid h
  clear h
  have hw1 : wrap64 ((most : Int) + 1) = most + 1 := w64w _ (by omega) (by omega)
  by_cases hbig : most < rows.length
  · have HT := Lib.hid (show ¬ totalF rows ≤ most by unfold totalF; omega)
    have hv := HV.out
    rw [if_neg HT.out] at hv
    have HV := Lib.hid hv
    clear hv
    go_enter Try.func20, Try.ntmps20
    go_wp2_with fail
    go_ret
    exact ⟨by rw [← HV.out]; rfl, rfl⟩
  · go_enter Try.func20, Try.ntmps20
    go_wp2_with fail
    go_loopw [5, 6] (fun v5 v6 wx => ∃ k n : Nat, k ≤ rows.length ∧ v6 = .int .i64 (k : Int) ∧ v5 = .int .i64 (n : Int) ∧ n = rows.length + sumL (rows.take k) ∧ n ≤ most ∧ wx = w) (fun _ v6 _ => rows.length - (intOf v6).toNat)
    case atStart => exact ⟨0, rows.length, Nat.zero_le _, rfl, rfl, by simp [sumL], by omega, rfl⟩
    case round =>
      obtain ⟨k, n, hk, rfl, rfl, hn, hnm, rfl⟩ := hrel
      by_cases hlt : k < rows.length
      · obtain ⟨b, off, p, c, rfl, hbl, hc, h1, h2, -⟩ := Hr.out.row k hlt
        have HS := Lib.hid (sumL_snoc rows k hlt)
        have HL := Lib.hid (sumL_le rows (k + 1))
        have Hn := Lib.hid hn
        have Hnm := Lib.hid hnm
        clear hn
        have hrl : (rows.getD k []).length ≤ 9223372036854775807 := by unfold maxLen at h2; omega
        generalize rows.getD k [] = r at hc h1 HS hrl
        obtain ⟨D, hD⟩ : ∃ D : Int, D = (most : Int) - (n : Int) := ⟨_, rfl⟩
        have hw2 : wrap64 ((most : Int) - (n : Int)) = D := by rw [hD]; exact w64w _ (by omega) (by omega)
        by_cases hfit : r.length ≤ most - n
        · have hw3 : wrap64 ((n : Int) + (r.length : Int)) = n + r.length := w64w _ (by omega) (by omega)
          have hd : ¬ D < (r.length : Int) := by omega
          obtain ⟨E, hE⟩ : ∃ E : Nat, E = n + r.length := ⟨_, rfl⟩
          have hw4 : wrap64 ((n : Int) + (r.length : Int)) = (E : Int) := by rw [hw3, hE]; simp
          have HE := Lib.hid hE
          clear hw3 hw1 hD hE hnm
          have Hfit := Lib.hid hfit
          clear hfit hrl
          go_wp2_with fail
          have e9 : E = rows.length + sumL (List.take (k + 1) rows) := by have h1 := HS.out; have h2 := Hn.out; have h3 := HE.out; omega
          exact ⟨⟨k + 1, E, by omega, by go_num, by first | rfl | rw [hw4], e9, by have h3 := HE.out; have h4 := Hfit.out; have h5 := Hnm.out; omega, by first | rfl | trivial⟩, by simp [intOf]; omega⟩
        · have hd : D < (r.length : Int) := by omega
          have HT := Lib.hid (show ¬ totalF rows ≤ most by have := HS.out; have := HL.out; have := Hn.out; unfold totalF; unfold sumL at *; omega)
          clear hD hnm hfit hrl
          go_wp2_with fail
          go_ret
          have hv := HV.out
          rw [if_neg HT.out] at hv
          exact ⟨by rw [← hv]; rfl, rfl⟩
      · obtain rfl : k = rows.length := by omega
        rw [List.take_length] at hn
        have HT := Lib.hid (show n = totalF rows from hn)
        have Hnm := Lib.hid hnm
        clear hn hnm
        go_wp2_with fail
        go_ret
        have hv := HV.out
        rw [if_pos (by rw [← HT.out]; exact Hnm.out), ← HT.out] at hv
        exact ⟨by rw [← hv]; rfl, rfl⟩

end Go.Proofs.Ytipidgjdfmghnaa
