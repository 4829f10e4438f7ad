/- Frames: which rows of rows are the same. -/
import Derived.Test.YtcccgjpmfbmplaaFrJ
set_option linter.unusedSimpArgs false
set_option linter.unusedVariables false
namespace Go.Proofs.Ytcccgjpmfbmplaa
open Go.RowKit

theorem bne_str (l m : List UInt8) : ((⟨l.toArray⟩ : ByteArray).toList != (⟨m.toArray⟩ : ByteArray).toList) = (l != m) := by
  rw [ByteArray.toList_mk, ByteArray.toList_mk]
set_option maxHeartbeats 1000000 in
theorem rows_any (a b : Option Addr) (ca cb : Nat) (l m : List (List UInt8)) (w : World) (hla : l.length ≤ maxLen) (hlb : m.length ≤ maxLen) (hl : RowsAt w a l) (hm : RowsAt w b m) :
    Calls Try.prog 24 #[.slice a l.length ca, .slice b m.length cb] w fun e w' => e = .returned (.bool (l == m)) ∧ Below w.heap.size w w' := by
  unfold maxLen at hla hlb
  by_cases hlen : l.length = m.length
  · have hneq : (((l.length : Nat) : Int) != ((m.length : Nat) : Int)) = false := by simp [hlen]
    have Hl := Lib.hid hl
    have Hm := Lib.hid hm
    have Hlen := Lib.hid hlen
    clear hl hm hlen
    go_enter Try.func24, Try.ntmps24
    go_wp2_with fail
    go_loopw [5] (fun v wx => ∃ k : Nat, k ≤ l.length ∧ v = .int .i64 (k : Int) ∧ l.take k = m.take k ∧ Below w.heap.size w wx) (fun v _ => l.length - (intOf v).toNat)
    case atStart => exact ⟨0, Nat.zero_le _, rfl, by simp, Below.refl _ _⟩
    case round =>
      obtain ⟨k, hk, rfl, ht, hb⟩ := hrel
      have Ht := Lib.hid ht
      have Hb := Lib.hid hb
      clear ht hb
      by_cases hlt : k < l.length
      · have hlt2 : k < m.length := by have := Hlen.out; omega
        obtain ⟨g1, o1, p1, q1, rfl, g1l, c1, -, -, b1⟩ := Hl.out.old Hb.out k hlt
        obtain ⟨g2, o2, p2, q2, rfl, g2l, c2, -, -, b2⟩ := Hm.out.old Hb.out k hlt2
        have T1 := Lib.hid (take_snoc l k hlt [])
        have T2 := Lib.hid (take_snoc m k hlt2 [])
        have B1 := b1.mono Hb.out
        have B2 := b2.mono Hb.out
        clear b1 b2
        generalize l.getD k [] = x at c1 T1 B1
        generalize m.getD k [] = y at c2 T2 B2
        have s1 := fun n => run_str (w := wr.drewN n) (B1.mono (btn (Below.refl _ _) n)) 23 9 5 Try.underlying23 Try.underlying5 Try.underlying9 x.length q1 rfl
        have s2 := fun n => run_str (w := wr.drewN n) (B2.mono (btn (Below.refl _ _) n)) 23 9 5 Try.underlying23 Try.underlying5 Try.underlying9 y.length q2 rfl
        have HE := Lib.hid (bne_str x y)
        clear B1 B2
        by_cases hxy : x = y
        · subst hxy
          go_wp2_with fail
          go_quiet (fail)
          go_wp2_with fail
          exact ⟨⟨k + 1, by omega, by go_num, by rw [T1.out, T2.out, Ht.out], btn Hb.out _⟩, by simp [intOf]; omega⟩
        · have hne : (x == y) = false := by rw [beq_eq_false_iff_ne]; exact hxy
          go_wp2_with fail
          go_quiet (fail)
          go_wp2_with fail
          go_ret
          refine ⟨?_, btn Hb.out _⟩
          have : (l == m) = false := by
            rw [beq_eq_false_iff_ne]
            rintro rfl
            have := T1.out.symm.trans T2.out
            exact hxy (by simpa using this)
          rw [this]; rfl
      · obtain rfl : k = l.length := by omega
        go_wp2_with fail
        go_ret
        refine ⟨?_, Hb.out⟩
        have : (l == m) = true := by
          have h1 := Ht.out
          rw [List.take_length, Hlen.out, List.take_length] at h1
          rw [h1]; exact beq_self_eq_true _
        rw [this]; rfl
  · have hneq : (((l.length : Nat) : Int) != ((m.length : Nat) : Int)) = true := by rw [bne_iff_ne]; omega
    have HE := Lib.hid (show (l == m) = false by
      rw [beq_eq_false_iff_ne]; rintro rfl; exact hlen rfl)
    clear hl hm hlen
    go_enter Try.func24, Try.ntmps24
    go_wp2_with fail
    go_ret
    exact ⟨by rw [HE.out]; rfl, Below.refl _ _⟩
end Go.Proofs.Ytcccgjpmfbmplaa
