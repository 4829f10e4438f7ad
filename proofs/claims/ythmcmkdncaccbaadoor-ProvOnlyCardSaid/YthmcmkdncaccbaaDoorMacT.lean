/- Digests of pieces, in plain Lean. -/
import Derived.Test.YthmcmkdncaccbaaDoorShaL
set_option linter.unusedSimpArgs false
set_option linter.unusedVariables false
namespace Go.Proofs.YthmcmkdncaccbaaDoor
open Go.RowKit

theorem absN_comp (s : R8) (x : List UInt8) (j : Nat) : ∀ k, absN (absN s x j) (x.drop (64 * j)) k = absN s x (j + k)
  | 0 => rfl
  | k + 1 => by
    show blockF (absN (absN s x j) (x.drop (64 * j)) k) (((x.drop (64 * j)).drop (64 * k)).take 64) = blockF (absN s x (j + k)) ((x.drop (64 * (j + k))).take 64)
    rw [absN_comp s x j k, List.drop_drop, show 64 * j + 64 * k = 64 * (j + k) by omega]
theorem absN_app (s : R8) (l m : List UInt8) : ∀ k, 64 * k ≤ l.length → absN s (l ++ m) k = absN s l k
  | 0, _ => rfl
  | k + 1, h => by
    show blockF (absN s (l ++ m) k) (((l ++ m).drop (64 * k)).take 64) = blockF (absN s l k) ((l.drop (64 * k)).take 64)
    rw [absN_app s l m k (by omega), List.drop_append_of_le_length (by omega), List.take_append_of_le_length (by rw [List.length_drop]; omega)]
theorem putS_app (s : R8) (l m : List UInt8) : putS (putS s l) (putR l ++ m) = putS s (l ++ m) := by
  have hn : nb (l ++ m) = nb l + nb (putR l ++ m) := by
    unfold putR nb; rw [List.length_append, List.length_append, List.length_drop]; omega
  have hl : 64 * nb l ≤ l.length := by unfold nb; omega
  have h1 : putS s (l ++ m) = absN s (l ++ m) (nb (l ++ m)) := rfl
  rw [h1, hn, ← absN_comp, absN_app s l m _ hl, List.drop_append_of_le_length hl]
  rfl
theorem ofF_all (l : List UInt8) : ofF l = (putS iv (l ++ padF l.length)).bytes := by
  unfold ofF sumF; rw [putS_app]
end Go.Proofs.YthmcmkdncaccbaaDoor
