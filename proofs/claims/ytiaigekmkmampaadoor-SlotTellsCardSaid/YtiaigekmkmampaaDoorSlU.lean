/- Rows of bytes as one; whether two are the same. -/
import Derived.Test.YtiaigekmkmampaaDoorEnvD
import Derived.Lib.SliceRun
import Derived.Lib.AppendZeros
import Derived.Lib.AppendZerosOnto
set_option linter.unusedSimpArgs false
set_option linter.unusedVariables false
namespace Go.Proofs.YtiaigekmkmampaaDoor
open Go.RowKit

/-- a slice that the call makes holds these bytes -/
def SlOut (w : World) (l : List UInt8) (e : Ending) (w' : World) : Prop := ∃ a c, e = .returned (.slice a l.length c) ∧ Buf w w' 5 (.slice a l.length c) l.length (B8s l)
theorem bequal_any (a b : Option Addr) (la ca lb cb : Nat) (l m : List UInt8) (w : World) (ha : la = l.length) (hb : lb = m.length) (hl : BytesAt w a l) (hm : BytesAt w b m) :
    Calls Tryd.prog 28 #[.slice a la ca, .slice b lb cb] w fun e w' => e = .returned (.bool (l == m)) ∧ w = w' := by
  have h1 := run_str hl 22 9 5 Tryd.underlying22 Tryd.underlying5 Tryd.underlying9 la ca ha
  have h2 := run_str hm 22 9 5 Tryd.underlying22 Tryd.underlying5 Tryd.underlying9 lb cb hb
  have h3 := Lib.hid (beq_str l m)
  clear hl hm ha hb
  go_enter Tryd.func28, Tryd.ntmps28
  go_wp2_with fail
  go_ret
  exact ⟨rfl, rfl⟩
theorem size_zeros (z : Array Value) (n : Nat) (hz : z.size = 1) : (Builtin.zeroCells z n).size = n := by
  simp [Builtin.zeroCells, hz]
theorem grown_buf (w : World) (n : Nat) (hn : n ≤ maxLen) (T : TypeId) : Buf w (w.drew.alloc (.cells (Builtin.zeroCells (Value.int .u8 0).cells n ++ Builtin.zeroCells (Value.int .u8 0).cells (grownCap w n 0 T - n)) T)) T (.slice (some ⟨w.heap.size, 0, none⟩) 0 (grownCap w n 0 T)) 0 [] := by
  have h1 := grownCap_ge w n 0 T
  have h2 := grownCap_le_maxLen w n 0 T hn
  have := Buf.made' w w.drew (bd w) T (Builtin.zeroCells (Value.int .u8 0).cells n ++ Builtin.zeroCells (Value.int .u8 0).cells (grownCap w n 0 T - n)).toList 0 (grownCap w n 0 T) (Nat.zero_le _) (by rw [Array.length_toList, Array.size_append, size_zeros _ _ rfl, size_zeros _ _ rfl]; omega) h2
  rw [Array.toArray_toList, List.take_zero] at this
  exact this

set_option maxHeartbeats 1000000 in
theorem grow_any (n : Nat) (w : World) (h : n ≤ 140737488355328) :
    Calls Tryd.prog 39 #[.slice none 0 0, .int .i64 (n : Int)] w fun e w' => ∃ a c, e = .returned (.slice a 0 c) ∧ Buf w w' 5 (.slice a 0 c) 0 [] := by
  by_cases h0 : n = 0
  · subst h0
    go_enter Tryd.func39, Tryd.ntmps39
    go_wp2_with fail
    go_ret
    exact ⟨none, 0, rfl, Buf.nil _ _⟩
  · have hd : ¬ ((n : Int) < 0) := by omega
    have hp : (0 : Int) < n := by omega
    have hw : wrap64 (n : Int) = n := by unfold wrap64; omega
    have hs1 : ∀ W, (Instr.sliceAt 22 (.slice none 0 0) none (some (.int .i64 0)) none).run Tryd.prog W = .ok (.slice none 0 0) W := fun W => run_head Tryd.underlying22 size_u8 W none 0 0 0 (Nat.le_refl _)
    have hs2 : ∀ W a l c, (Instr.sliceAt 22 (.slice a l c) none (some (.int .i64 0)) none).run Tryd.prog W = .ok (.slice a 0 c) W := fun W a l c => run_head Tryd.underlying22 size_u8 W a l c 0 (Nat.zero_le _)
    obtain ⟨i, hi, hz, hsz, hby⟩ := elemB.info
    have happ0 := (fun ty => Lib.run_append_nil_zeros w 22 3 ty 5 i (.int .u8 0) .i64 .i64 Tryd.underlying22 Tryd.underlying3 hi hz n (by omega) (by omega) (by omega) (by rw [hby]; omega))
    have happ := happ0
    rw [← hw] at happ
    have happ := Lib.hid happ
    clear happ0
    have HB := Lib.hid (grown_buf w n (by unfold maxLen; omega) 5)
    clear hi hz hsz hby h h0
    go_enter Tryd.func39, Tryd.ntmps39
    go_wp2_with (at_builtin; go_must (refine Lib.wpList_append_run _ rfl (.tmp 20) (.tmp 21) 22 3 rfl _ _ rfl rfl _ _ (happ.out _) ?_))
    go_ret
    exact ⟨_, _, rfl, HB.out⟩

set_option maxHeartbeats 2000000 in
theorem concat_any (g : Nat) (a a2 : Option Addr) (c c2 : Nat) (l m : List UInt8) (w : World) (hl : l.length ≤ 35184372088832) (hm : m.length ≤ 35184372088832) (hB : Blk w g [.slice a l.length c, .slice a2 m.length c2]) (h1 : BytesAt w a l) (h2 : BytesAt w a2 m) :
    Calls Tryd.prog 31 #[.slice (some ⟨g, 0, none⟩) 2 2] w (SlOut w (l ++ m)) := by
  have h0 := hB.cell 0 (by simp)
  have h0' := hB.cell 1 (by simp)
  have c0 : w.cell? ⟨g, 0, none⟩ = some (.slice a l.length c) := h0
  have c1 : w.cell? ⟨g, 1, none⟩ = some (.slice a2 m.length c2) := h0'
  have HB := Lib.hid hB
  have H1 := Lib.hid h1
  have H2 := Lib.hid h2
  clear hB h1 h2 h0 h0'
  have ew : wrap64 ((l.length : Int) + m.length) = l.length + m.length := by unfold wrap64; omega
  have ew0 : wrap64 (l.length : Int) = l.length := by unfold wrap64; omega
  have en : ¬ ((l.length : Int) < 0) := by omega
  have en2 : ¬ ((l.length : Int) + m.length < 0) := by omega
  have HL := Lib.hid hl
  have HM := Lib.hid hm
  go_enter Tryd.func31, Tryd.ntmps31
  go_wp2_with fail
  go_loopw [3, 11] (fun v3 v11 wx => wx = w ∧ ((v3 = .int .i64 0 ∧ v11 = .int .i64 0) ∨ (v3 = .int .i64 (l.length : Int) ∧ v11 = .int .i64 1) ∨ (v3 = .int .i64 ((l.length : Int) + m.length) ∧ v11 = .int .i64 2))) (fun _ v11 _ => 2 - (intOf v11).toNat)
  case atStart => exact ⟨rfl, .inl ⟨rfl, rfl⟩⟩
  case round =>
    obtain ⟨rfl, ⟨rfl, rfl⟩ | ⟨rfl, rfl⟩ | ⟨rfl, rfl⟩⟩ := hrel
    · go_wp2_with fail
      exact ⟨⟨(by first | rfl | trivial), .inr (.inl ⟨rfl, rfl⟩)⟩, by simp [intOf]⟩
    · go_wp2_with fail
      exact ⟨⟨(by first | rfl | trivial), .inr (.inr ⟨rfl, rfl⟩)⟩, by simp [intOf]⟩
    · have HG := Lib.hid (fun W => grow_any (l.length + m.length) W (by omega))
      have ec := Lib.hid (show ((l.length : Int) + m.length) = ((l.length + m.length : Nat) : Int) by simp)
      go_wp2_with fail
      rw [ec.out]
      refine (HG.out _).mono ?_; rintro e w1 ⟨a1, k1, rfl, hb1⟩
      have HF := Lib.hid hb1
      clear hb1 HG
      go_wp2_with fail
      go_loopw [6, 27] (fun v6 v27 wx => ∃ a' c' n xs, v6 = .slice a' n c' ∧ Buf wr wx 5 (.slice a' n c') n (B8s xs) ∧ ((v27 = .int .i64 0 ∧ [] = xs ∧ 0 = n) ∨ (v27 = .int .i64 1 ∧ l = xs ∧ l.length = n) ∨ (v27 = .int .i64 2 ∧ l ++ m = xs ∧ l.length + m.length = n))) (fun _ v27 _ => 2 - (intOf v27).toNat)
      case atStart => exact ⟨a1, k1, 0, [], rfl, HF.out, .inl ⟨rfl, rfl, rfl⟩⟩
      case round =>
        clear c0 c1
        obtain ⟨a', c', n, xs, rfl, hb, ⟨rfl, rfl, rfl⟩ | ⟨rfl, rfl, rfl⟩ | ⟨rfl, rfl, rfl⟩⟩ := hrel
        · have Hb := Lib.hid hb
          have hB2 := Hb.out.blk HB.out
          have c0 : wr.cell? ⟨g, 0, none⟩ = some (.slice a l.length c) := hB2.cell 0 (by simp)
          clear hb hB2
          go_wp2_with (at_builtin; go_must (refine wpList_buf (.tmp 31) (.tmp 32) 22 rfl rfl elemB rfl Hb.out (sp := a) (m := l.length) (news := B8s l) rfl (Hb.out.atOld H1.out) (by simp) (bytes_one l) (by have := HL.out; omega) (by decide) l.length (by omega) (B8s l) rfl ?_; intro a3 c3 w3 hB3))
          exact ⟨⟨a3, c3, l.length, l, rfl, hB3, .inr (.inl ⟨rfl, rfl, rfl⟩)⟩, by simp [intOf]⟩
        · have Hb := Lib.hid hb
          have hB2 := Hb.out.blk HB.out
          have c1 : wr.cell? ⟨g, 1, none⟩ = some (.slice a2 m.length c2) := hB2.cell 1 (by simp)
          clear hb hB2
          go_wp2_with (at_builtin; go_must (refine wpList_buf (.tmp 31) (.tmp 32) 22 rfl rfl elemB rfl Hb.out (sp := a2) (m := m.length) (news := B8s m) rfl (Hb.out.atOld H2.out) (by simp) (bytes_one m) (by have := HL.out; have := HM.out; omega) (by decide) (l.length + m.length) rfl (B8s (l ++ m)) (by simp) ?_; intro a3 c3 w3 hB3))
          exact ⟨⟨a3, c3, l.length + m.length, l ++ m, rfl, hB3, .inr (.inr ⟨rfl, rfl, rfl⟩)⟩, by simp [intOf]⟩
        · have Hb := Lib.hid hb
          clear hb
          go_wp2_with fail
          go_ret
          exact ⟨a', c', by rw [List.length_append]; rfl, by rw [List.length_append]; exact Hb.out⟩
end Go.Proofs.YtiaigekmkmampaaDoor
