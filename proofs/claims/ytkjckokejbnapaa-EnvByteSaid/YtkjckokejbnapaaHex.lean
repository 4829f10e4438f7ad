/- The document's Hex. -/
import Derived.Test.YtkjckokejbnapaaBase
import Derived.Deep.DeepCutAuto
import Derived.Deep.RegionHeld3
set_option linter.unusedSimpArgs false
set_option linter.unusedVariables false
namespace Go.Proofs.Ytkjckokejbnapaa
open Go.RowKit

def signF (b : UInt8) : UInt8 := if b < 10 then 48 + b else 87 + b
theorem bv_le {a b : UInt8} : a < b ↔ bv a < bv b := by unfold bv; rw [UInt8.lt_iff_toNat_lt]; omega
theorem add8 (a b : UInt8) : IntKind.u8.wrap (bv a + bv b) = bv (a + b) := by
  unfold bv; rw [IntKind.wrap_u8, UInt8.toNat_add]; omega
@[go_sem high] theorem quo8_16 (t : TypeId) (b : UInt8) : binOp .quo t (.int .u8 (bv b)) (.int .u8 16) = pure (.int .u8 (bv (b / 16))) := by
  show Op.intDiv .quo .u8 (bv b) 16 = _
  unfold Op.intDiv
  rw [if_neg (by decide)]
  show pure (Value.int .u8 (IntKind.u8.wrap ((bv b).tdiv 16))) = _
  have e : (bv b).tdiv 16 = ((b.toNat / 16 : Nat) : Int) := by unfold bv; rw [Int.tdiv_eq_ediv_of_nonneg (by omega)]; simp
  rw [e, wrap_nat8 _ (by have := b.toNat_lt; omega)]
  unfold bv; rw [UInt8.toNat_div]; rfl
@[go_sem high] theorem rem8_16 (t : TypeId) (b : UInt8) : binOp .rem t (.int .u8 (bv b)) (.int .u8 16) = pure (.int .u8 (bv (b % 16))) := by
  show Op.intDiv .rem .u8 (bv b) 16 = _
  unfold Op.intDiv
  rw [if_neg (by decide)]
  show pure (Value.int .u8 ((bv b).tmod 16)) = _
  have e : (bv b).tmod 16 = ((b.toNat % 16 : Nat) : Int) := by unfold bv; rw [Int.tmod_eq_emod_of_nonneg (by omega)]; simp
  rw [e]; unfold bv; rw [UInt8.toNat_mod]; rfl

set_option maxHeartbeats 400000 in
theorem sign_any (b : UInt8) (w : World) :
    Calls Try.prog 34 #[.int .u8 (bv b)] w fun e w' => e = .returned (.int .u8 (bv (signF b))) ∧ w = w' := by
  have h48 : IntKind.u8.wrap (48 + bv b) = bv (48 + b) := add8 48 b
  have h87 : IntKind.u8.wrap (87 + bv b) = bv (87 + b) := add8 87 b
  by_cases h : b < 10
  · have hs : signF b = 48 + b := if_pos h
    have hd : bv b < 10 := bv_le.1 h
    rw [hs]
    clear hs h
    go_enter Try.func34, Try.ntmps34
    go_wp2_with fail
    go_ret
    exact ⟨rfl, rfl⟩
  · have hs : signF b = 87 + b := if_neg h
    have hd : ¬ bv b < 10 := fun h' => h (bv_le.2 h')
    rw [hs]
    clear hs h
    go_enter Try.func34, Try.ntmps34
    go_wp2_with fail
    go_ret
    exact ⟨rfl, rfl⟩

def hexF : List UInt8 → List UInt8
  | [] => []
  | b :: l => signF (b / 16) :: signF (b % 16) :: hexF l
theorem hexF_append (l m : List UInt8) : hexF (l ++ m) = hexF l ++ hexF m := by
  induction l with
  | nil => rfl
  | cons b l ih => simp [hexF, ih]
theorem hexF_length (l : List UInt8) : (hexF l).length = 2 * l.length := by
  induction l with
  | nil => rfl
  | cons b l ih => simp [hexF, ih]; omega

def StrOut (w : World) (l : List UInt8) (e : Ending) (w' : World) : Prop := e = .returned (.string ⟨l.toArray⟩) ∧ Below w.heap.size w w'

set_option maxRecDepth 100000 in
set_option maxHeartbeats 1000000 in
theorem hex_any (a : Option Addr) (la ca : Nat) (l : List UInt8) (ha : la = l.length) (hle : la ≤ 2147483647) (w : World) (hl : BytesAt w a l) :
    Calls Try.prog 23 #[.slice a la ca] w (StrOut w (hexF l)) := by
  subst ha
  have Hl := Lib.hid hl
  clear hl
  go_enter Try.func23, Try.ntmps23
  go_wp2_with fail
  have hB1 : Buf w w 5 (.slice none 0 0) 0 (B8s (hexF (l.take 0))) := Buf.nil w _
  go_loopw [3, 4] (fun v i wx => ∃ k m : Nat, k ≤ l.length ∧ m = 2 * k ∧ i = .int .i64 k ∧ Buf w wx 5 v m (B8s (hexF (l.take k)))) (fun _ i _ => l.length - (intOf i).toNat)
  case atStart => exact ⟨0, 0, by omega, rfl, rfl, hB1⟩
  case round =>
    clear hB1
    obtain ⟨k, m, hk, hm, rfl, hB⟩ := hrel
    obtain ⟨a5, c5, rfl, -, -⟩ := hB.slice
    have HB := Lib.hid hB
    have hm2 : m ≤ 4294967294 := by omega
    have Hm := Lib.hid hm
    clear hB hm
    by_cases hlt : k < l.length
    · obtain ⟨b, off, rfl, hbw, hcs⟩ := bytes_cell Hl.out (by omega)
      have hcell : wr.cell? ⟨b, off + k, none⟩ = some (.int .u8 (bv (l.getD k 0))) := by rw [HB.out.bel.cell (p := ⟨b, off + k, none⟩) hbw]; exact hcs k hlt
      have Hc := Lib.hid (show ∀ w', Below w.heap.size w w' → w'.cell? ⟨b, off + k, none⟩ = some (.int .u8 (bv (l.getD k 0))) from fun w' h => by rw [h.cell (p := ⟨b, off + k, none⟩) hbw]; exact hcs k hlt)
      have Hst := Lib.hid (show hexF (l.take (k + 1)) = hexF (l.take k) ++ hexF [l.getD k 0] by rw [take_snoc l k hlt 0, hexF_append])
      clear hcs
      generalize l.getD k 0 = x at hcell Hst Hc
      go_wp2_with fail
      go_region_held3 (fun w' => w'.cell? ⟨b, off + k, none⟩ = some (.int .u8 (bv x)))
        (first
          | go_keep
          | (exact Hc.out _ (HB.out.alloc _).bel)
          | (exact Hc.out _ (HB.out.alloc _).drew.bel)
          | (exact Hc.out _ hB6.bel))
        (first
          | (refine step_buf (.tmp 11) (.tmp 24) 23 rfl rfl elemB rfl (HB.out.alloc _).drew (news := [.int .u8 (bv (signF (x / 16))), .int .u8 (bv (signF (x % 16)))]) rfl ((at_new wr _ _).mono (bd _)) rfl (by simp; exact ⟨rfl, rfl⟩) (by omega) (by decide) (m + 2) rfl (B8s (hexF (l.take (k + 1)))) (by rw [Hst.out]; simp [hexF]) ?_; intro a6 c6 w6 hB6)
          | (go_at_call 34; refine (sign_any _ _).mono ?_; rintro e w' ⟨rfl, rfl⟩))
      go_wp2_with fail
      go_roundw
      case rel => exact ⟨k + 1, m + 2, by omega, by have := Hm.out; omega, by go_num, hB6⟩
      case measure => simp [intOf]; omega
    · obtain rfl : k = l.length := by omega
      have h1 := run_str (l := hexF l) (by have := HB.out.at; rwa [List.take_length] at this) 23 9 5 Try.underlying23 Try.underlying5 Try.underlying9 m c5 (by rw [Hm.out, hexF_length])
      clear hlt hk
      go_wp2_with fail
      go_ret
      exact ⟨rfl, HB.out.bel⟩

def BoolOut (w : World) (b : Bool) (e : Ending) (w' : World) : Prop := e = .returned (.bool b) ∧ Below w.heap.size w w'
end Go.Proofs.Ytkjckokejbnapaa
