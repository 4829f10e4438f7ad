/- Rows of bytes and words in memory; bytes as strings. No program in sight. -/
import Derived.Test.YthmcmkdncaccbaaDoorWord
import Derived.Test.YthmcmkdncaccbaaDoorMem2
import Derived.Laws.BytesArg
set_option linter.unusedSimpArgs false
set_option linter.unusedVariables false
namespace Go.Proofs.YthmcmkdncaccbaaDoor
open Go.RowKit

abbrev W32s (l : List UInt32) : List Value := l.map fun x => Value.int .u32 (uv x)
abbrev B8s (l : List UInt8) : List Value := l.map fun x => Value.int .u8 (bv x)
/-- the bytes l lie at a -/
abbrev BytesAt (w : World) (a : Option Addr) (l : List UInt8) : Prop := At w a (B8s l)
theorem getD_B8 (l : List UInt8) (i : Nat) (h : i < l.length) : (B8s l).getD i undef = .int .u8 (bv (l.getD i 0)) := by
  simp [List.getD, h]
theorem bytes_cell {w : World} {a : Option Addr} {l : List UInt8} (h : BytesAt w a l) (hl : 0 < l.length) :
    ∃ b off, a = some ⟨b, off, none⟩ ∧ b < w.heap.size ∧ ∀ i, i < l.length → w.cell? ⟨b, off + i, none⟩ = some (.int .u8 (bv (l.getD i 0))) := by
  rcases h with h | ⟨b, off, rfl, hlt, hc⟩
  · simp at h; subst h; simp at hl
  · exact ⟨b, off, rfl, hlt, fun i hi => by rw [hc i (by simpa using hi), getD_B8 l i hi]⟩

theorem bytes_one (l : List UInt8) : ∀ v ∈ B8s l, v.oneCell' = true := by
  intro v hv
  obtain ⟨x, -, rfl⟩ := List.mem_map.1 hv
  rfl
theorem BytesAt.take {w : World} {a : Option Addr} {l : List UInt8} (h : BytesAt w a l) (k : Nat) : BytesAt w a (l.take k) := by
  have := At.take h k; rw [← List.map_take] at this; exact this
theorem BytesAt.adv {w : World} {a : Option Addr} {l : List UInt8} (h : BytesAt w a l) {cap k len : Nat} (hl : l.length = len) (hc : len ≤ cap) : BytesAt w (adv a cap k 1) (l.drop k) := by
  have := At.adv h (cap := cap) (l := k) (n := 1) (len := len) (by simpa using hl) hc
  rw [Nat.mul_one, ← List.map_drop] at this; exact this
theorem ofNat_bv (b : UInt8) : UInt8.ofNat (bv b).toNat = b := by
  unfold bv; rw [Int.toNat_natCast]; exact UInt8.ofNat_toNat
theorem run_str {P : Program} {w : World} {a : Option Addr} {l : List UInt8} (h : BytesAt w a l) (src dst e : TypeId) (hs : P.underlying src = some (.slice e)) (he : P.underlying e = some (.int .u8)) (hd : P.underlying dst = some .string) (len cap : Nat) (hl : len = l.length) :
    (convert src dst (.slice a len cap)).run P w = .ok (.string ⟨l.toArray⟩) w := by
  subst hl
  have e1 : strOfNums (l.map bv) = ⟨l.toArray⟩ := by
    unfold strOfNums
    rw [List.map_map]
    have : ((fun n : Int => UInt8.ofNat n.toNat) ∘ bv) = id := by funext b; simp [ofNat_bv]
    rw [this, List.map_id]
  rcases h with h | ⟨b, off, rfl, hlt, hc⟩
  · have hl : l = [] := by simpa using h
    subst hl
    cases a with
    | none => exact run_convert_bytes_nil w src e hs he _ _ dst hd
    | some x =>
      rw [run_convert_bytes_string w src dst e _ _ cap hs he hd, run_bytesToString w x _ cap [] (by simpa using run_loadCells_list (P := P) w x [] (by simp))]
      rfl
  · have := run_convert_bytes_arg (P := P) w src e hs he b off l.length cap (l.map bv) (by simp) (fun i hi => by rw [hc i (by simpa using hi)]; simp [List.getD, hi]) dst hd
    rw [this, e1]
end Go.Proofs.YthmcmkdncaccbaaDoor
