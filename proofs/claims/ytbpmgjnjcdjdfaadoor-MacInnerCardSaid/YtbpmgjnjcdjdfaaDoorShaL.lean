/- The document's Same of digests under way, Hex, Long, Block. -/
import Derived.Test.YtbpmgjnjcdjdfaaDoorShaK
set_option linter.unusedSimpArgs false
set_option linter.unusedVariables false
namespace Go.Proofs.YtbpmgjnjcdjdfaaDoor
open Go.RowKit

theorem eq8 (r : R8) (W : World) : (Op.equalIn 10000 44 (.agg r.cells.toArray) (.agg r.cells.toArray)).run Tryd.prog W = .ok true W := by
  have h1 : ∀ (x : Int) (w : World), (Op.equalIn 9999 43 (.int .u32 x) (.int .u32 x)).run Tryd.prog w = .ok true w := fun x w => by
    rw [run_equalIn_int w 9998 _ .u32 .u32 x x Tryd.underlying43]; simp
  have hp : ∀ (w : World) (i : Nat) (h : i < 8), (part 43 r.cells.toArray i).run Tryd.prog w = .ok (.int .u32 (uv (r.l.getD i 0))) w := fun w i h => by
    rw [part_u32 w r.cells.toArray i (by simpa using h)]
    have := cells_at r i h
    rw [← this]; simp [List.getD, Array.getD, h]
  show (Op.equalIn (9999 + 1) 44 _ _).run Tryd.prog W = _
  unfold Op.equalIn
  simp only [Sem.run_bind, run_underlying Tryd.underlying44, Result.andThen_ok, size_u32]
  have e0 := fun w => hp w 0 (by decide)
  have e1 := fun w => hp w 1 (by decide)
  have e2 := fun w => hp w 2 (by decide)
  have e3 := fun w => hp w 3 (by decide)
  have e4 := fun w => hp w 4 (by decide)
  have e5 := fun w => hp w 5 (by decide)
  have e6 := fun w => hp w 6 (by decide)
  have e7 := fun w => hp w 7 (by decide)
  generalize r.cells.toArray = A at *
  simp [Std.Legacy.Range.forIn_eq_forIn_range', Std.Legacy.Range.size, List.range', Sem.run_bind, e0, e1, e2, e3, e4, e5, e6, e7, h1]

def signF (b : UInt8) : UInt8 := if b < 10 then 48 + b else 87 + b
theorem bv_le {a b : UInt8} : a < b ↔ bv a < bv b := by unfold bv; rw [UInt8.lt_iff_toNat_lt]; omega
theorem add8 (a b : UInt8) : IntKind.u8.wrap (bv a + bv b) = bv (a + b) := by
  unfold bv; rw [IntKind.wrap_u8, UInt8.toNat_add]; omega
@[go_sem high] theorem quo8_16 (t : TypeId) (b : UInt8) : binOp .quo t (.int .u8 (bv b)) (.int .u8 16) = pure (.int .u8 (bv (b / 16))) := by
  show Op.intDiv .quo .u8 (bv b) 16 = _
  unfold Op.intDiv
  rw [if_neg (by decide)]
  show pure (Value.int .u8 (IntKind.u8.wrap ((bv b).tdiv 16))) = _
  have e : (bv b).tdiv 16 = ((b.toNat / 16 : Nat) : Int) := by unfold bv; rw [Int.tdiv_eq_ediv_of_nonneg (by omega)]; simp
  rw [e, wrap_nat8 _ (by have := b.toNat_lt; omega)]
  unfold bv; rw [UInt8.toNat_div]; rfl
@[go_sem high] theorem rem8_16 (t : TypeId) (b : UInt8) : binOp .rem t (.int .u8 (bv b)) (.int .u8 16) = pure (.int .u8 (bv (b % 16))) := by
  show Op.intDiv .rem .u8 (bv b) 16 = _
  unfold Op.intDiv
  rw [if_neg (by decide)]
  show pure (Value.int .u8 ((bv b).tmod 16)) = _
  have e : (bv b).tmod 16 = ((b.toNat % 16 : Nat) : Int) := by unfold bv; rw [Int.tmod_eq_emod_of_nonneg (by omega)]; simp
  rw [e]; unfold bv; rw [UInt8.toNat_mod]; rfl

set_option maxHeartbeats 400000 in
theorem sign_any (b : UInt8) (w : World) :
    Calls Tryd.prog 34 #[.int .u8 (bv b)] w fun e w' => e = .returned (.int .u8 (bv (signF b))) ∧ w = w' := by
  have h48 : IntKind.u8.wrap (48 + bv b) = bv (48 + b) := add8 48 b
  have h87 : IntKind.u8.wrap (87 + bv b) = bv (87 + b) := add8 87 b
  by_cases h : b < 10
  · have hs : signF b = 48 + b := if_pos h
    have hd : bv b < 10 := bv_le.1 h
    rw [hs]
    clear hs h
    go_enter Tryd.func34, Tryd.ntmps34
    go_wp2_with fail
    go_ret
    exact ⟨rfl, rfl⟩
  · have hs : signF b = 87 + b := if_neg h
    have hd : ¬ bv b < 10 := fun h' => h (bv_le.2 h')
    rw [hs]
    clear hs h
    go_enter Tryd.func34, Tryd.ntmps34
    go_wp2_with fail
    go_ret
    exact ⟨rfl, rfl⟩

def hexF : List UInt8 → List UInt8
  | [] => []
  | b :: l => signF (b / 16) :: signF (b % 16) :: hexF l
theorem hexF_append (l m : List UInt8) : hexF (l ++ m) = hexF l ++ hexF m := by
  induction l with
  | nil => rfl
  | cons b l ih => simp [hexF, ih]
theorem hexF_length (l : List UInt8) : (hexF l).length = 2 * l.length := by
  induction l with
  | nil => rfl
  | cons b l ih => simp [hexF, ih]; omega

def StrOut (w : World) (l : List UInt8) (e : Ending) (w' : World) : Prop := e = .returned (.string ⟨l.toArray⟩) ∧ Below w.heap.size w w'

set_option maxRecDepth 100000 in
set_option maxHeartbeats 1000000 in
theorem hex_any (a : Option Addr) (la ca : Nat) (l : List UInt8) (ha : la = l.length) (hle : la ≤ 2147483647) (w : World) (hl : BytesAt w a l) :
    Calls Tryd.prog 25 #[.slice a la ca] w (StrOut w (hexF l)) := by
  subst ha
  have Hl := Lib.hid hl
  clear hl
  go_enter Tryd.func25, Tryd.ntmps25
  go_wp2_with fail
  have hB1 : Buf w w 5 (.slice none 0 0) 0 (B8s (hexF (l.take 0))) := Buf.nil w _
  go_loopw [3, 4] (fun v i wx => ∃ k m : Nat, k ≤ l.length ∧ m = 2 * k ∧ i = .int .i64 k ∧ Buf w wx 5 v m (B8s (hexF (l.take k)))) (fun _ i _ => l.length - (intOf i).toNat)
  case atStart => exact ⟨0, 0, by omega, rfl, rfl, hB1⟩
  case round =>
    clear hB1
    obtain ⟨k, m, hk, hm, rfl, hB⟩ := hrel
    obtain ⟨a5, c5, rfl, -, -⟩ := hB.slice
    have HB := Lib.hid hB
    have hm2 : m ≤ 4294967294 := by omega
    have Hm := Lib.hid hm
    clear hB hm
    by_cases hlt : k < l.length
    · obtain ⟨b, off, rfl, hbw, hcs⟩ := bytes_cell Hl.out (by omega)
      have hcell : wr.cell? ⟨b, off + k, none⟩ = some (.int .u8 (bv (l.getD k 0))) := by rw [HB.out.bel.cell (p := ⟨b, off + k, none⟩) hbw]; exact hcs k hlt
      have Hc := Lib.hid (show ∀ w', Below w.heap.size w w' → w'.cell? ⟨b, off + k, none⟩ = some (.int .u8 (bv (l.getD k 0))) from fun w' h => by rw [h.cell (p := ⟨b, off + k, none⟩) hbw]; exact hcs k hlt)
      have Hst := Lib.hid (show hexF (l.take (k + 1)) = hexF (l.take k) ++ hexF [l.getD k 0] by rw [take_snoc l k hlt 0, hexF_append])
      clear hcs
      generalize l.getD k 0 = x at hcell Hst Hc
      go_wp2_with fail
      go_region_held3 (fun w' => w'.cell? ⟨b, off + k, none⟩ = some (.int .u8 (bv x)))
        (first
          | go_keep
          | (exact Hc.out _ (HB.out.alloc _).bel)
          | (exact Hc.out _ (HB.out.alloc _).drew.bel)
          | (exact Hc.out _ hB6.bel))
        (first
          | (refine step_buf (.tmp 11) (.tmp 24) 22 rfl rfl elemB rfl (HB.out.alloc _).drew (news := [.int .u8 (bv (signF (x / 16))), .int .u8 (bv (signF (x % 16)))]) rfl ((at_new wr _ _).mono (bd _)) rfl (by simp; exact ⟨rfl, rfl⟩) (by omega) (by decide) (m + 2) rfl (B8s (hexF (l.take (k + 1)))) (by rw [Hst.out]; simp [hexF]) ?_; intro a6 c6 w6 hB6)
          | (go_at_call 34; refine (sign_any _ _).mono ?_; rintro e w' ⟨rfl, rfl⟩))
      go_wp2_with fail
      go_roundw
      case rel => exact ⟨k + 1, m + 2, by omega, by have := Hm.out; omega, by go_num, hB6⟩
      case measure => simp [intOf]; omega
    · obtain rfl : k = l.length := by omega
      have h1 := run_str (l := hexF l) (by have := HB.out.at; rwa [List.take_length] at this) 22 9 5 Tryd.underlying22 Tryd.underlying5 Tryd.underlying9 m c5 (by rw [Hm.out, hexF_length])
      clear hlt hk
      go_wp2_with fail
      go_ret
      exact ⟨rfl, HB.out.bel⟩

def BoolOut (w : World) (b : Bool) (e : Ending) (w' : World) : Prop := e = .returned (.bool b) ∧ Below w.heap.size w w'
end Go.Proofs.YtbpmgjnjcdjdfaaDoor
