/- Frames: rows that are the same, copied, packed. -/
import Derived.Test.YtcccgjpmfbmplaaFrC
import Derived.Lib.SliceRun
set_option linter.unusedSimpArgs false
set_option linter.unusedVariables false
namespace Go.Proofs.Ytcccgjpmfbmplaa
open Go.RowKit

set_option maxHeartbeats 1000000 in
theorem equal_any (a b : Option Addr) (ca cb : Nat) (l m : List UInt8) (w : World) (hla : l.length ≤ maxLen) (hlb : m.length ≤ maxLen) (hl : BytesAt w a l) (hm : BytesAt w b m) :
    Calls Try.prog 37 #[.slice a l.length ca, .slice b m.length cb] w fun e w' => e = .returned (.bool (l == m)) ∧ Below w.heap.size w w' := by
  unfold maxLen at hla hlb
  by_cases hlen : l.length = m.length
  · have hneq : (((l.length : Nat) : Int) != ((m.length : Nat) : Int)) = false := by simp [hlen]
    have Hl := Lib.hid hl
    have Hm := Lib.hid hm
    have Hlen := Lib.hid hlen
    clear hl hm hlen
    go_enter Try.func37, Try.ntmps37
    go_wp2_with fail
    go_loopw [13] (fun v wx => ∃ k : Nat, k ≤ l.length ∧ v = .int .i64 (k : Int) ∧ l.take k = m.take k ∧ Below w.heap.size w wx) (fun v _ => l.length - (intOf v).toNat)
    case atStart => exact ⟨0, Nat.zero_le _, rfl, by simp, Below.refl _ _⟩
    case round =>
      obtain ⟨k, hk, rfl, ht, hb⟩ := hrel
      have Ht := Lib.hid ht
      have Hb := Lib.hid hb
      clear ht hb
      by_cases hlt : k < l.length
      · have hlt2 : k < m.length := by have := Hlen.out; omega
        obtain ⟨g1, o1, rfl, g1l, k1⟩ := bytes_cell (Hl.out.mono Hb.out) (by omega)
        obtain ⟨g2, o2, rfl, g2l, k2⟩ := bytes_cell (Hm.out.mono Hb.out) (by omega)
        have c1 := k1 k hlt
        have c2 := k2 k hlt2
        have T1 := Lib.hid (take_snoc l k hlt 0)
        have T2 := Lib.hid (take_snoc m k hlt2 0)
        clear k1 k2
        generalize l.getD k 0 = x at c1 T1
        generalize m.getD k 0 = y at c2 T2
        by_cases hxy : x = y
        · subst hxy
          go_wp2_with fail
          go_quiet (fail)
          go_wp2_with fail
          exact ⟨⟨k + 1, by omega, by go_num, by rw [T1.out, T2.out, Ht.out], btn Hb.out _⟩, by simp [intOf]; omega⟩
        · have hne : (bv x != bv y) = true := by rw [bne_iff_ne]; exact fun h => hxy (bv_inj.1 h)
          go_wp2_with fail
          go_quiet (fail)
          go_wp2_with fail
          go_ret
          refine ⟨?_, btn Hb.out _⟩
          have : (l == m) = false := by
            rw [beq_eq_false_iff_ne]
            rintro rfl
            have := T1.out.symm.trans T2.out
            exact hxy (by simpa using this)
          rw [this]; rfl
      · obtain rfl : k = l.length := by omega
        go_wp2_with fail
        go_ret
        refine ⟨?_, Hb.out⟩
        have : (l == m) = true := by
          have h1 := Ht.out
          rw [List.take_length, Hlen.out, List.take_length] at h1
          rw [h1]; exact beq_self_eq_true _
        rw [this]; rfl
  · have hneq : (((l.length : Nat) : Int) != ((m.length : Nat) : Int)) = true := by rw [bne_iff_ne]; omega
    have HE := Lib.hid (show (l == m) = false by
      rw [beq_eq_false_iff_ne]; rintro rfl; exact hlen rfl)
    clear hl hm hlen
    go_enter Try.func37, Try.ntmps37
    go_wp2_with fail
    go_ret
    exact ⟨by rw [HE.out]; rfl, Below.refl _ _⟩

/-- a slice that the call makes holds these bytes -/
def SlOut (w : World) (l : List UInt8) (e : Ending) (w' : World) : Prop := ∃ a c, e = .returned (.slice a l.length c) ∧ Buf w w' 5 (.slice a l.length c) l.length (B8s l)
set_option maxHeartbeats 400000 in
theorem clone_any (a : Option Addr) (cap : Nat) (l : List UInt8) (w : World) (hc : l.length ≤ 140737488355328) (hl : BytesAt w a l) :
    Calls Try.prog 39 #[.slice a l.length cap] w (SlOut w l) := by
  have q22 : ∀ (w : World) (a : Option Addr) (n c n' c' : Nat), (binOp .eql 23 (.slice a n c) (.slice none n' c')).run Try.prog w = .ok (.bool a.isNone) w := fun w a n c n' c' => Lib.run_eql_slice_nil w _ _ a n c n' c' Try.underlying23
  rcases a with _ | ⟨b, o, s⟩
  · have h0 : l = [] := by
      rcases hl with h | ⟨b, off, h, -⟩
      · simpa using h
      · cases h
    subst h0
    go_enter Try.func39, Try.ntmps39
    go_wp2_with fail
    go_ret
    exact ⟨none, 0, rfl, Buf.nil _ _⟩
  · have Hl := Lib.hid (hl.mono (ba w (.cells #[] 5)))
    clear hl
    go_enter Try.func39, Try.ntmps39
    go_wp2_with (at_builtin; go_must (refine wpList_buf (.tmp 5) (.tmp 6) 23 rfl rfl elemB rfl (Buf.made w 5 [] 0 0 (by decide) rfl (by decide)) (sp := some ⟨b, o, s⟩) (m := l.length) (news := B8s l) rfl Hl.out (by simp) (bytes_one l) (by omega) (by decide) l.length (by omega) (B8s l) rfl ?_; intro a1 c1 w1 hB1))
    go_ret
    exact ⟨a1, c1, rfl, hB1⟩

set_option maxHeartbeats 1000000 in
theorem same_any (f g : Fv) (s t : Fd) (w : World) (h : FdAt w f s) (k : FdAt w g t) :
    Calls Try.prog 31 #[f.v, g.v] w fun e w' => e = .returned (.bool ((s.buf == t.buf) && ((s.skip == t.skip) && (s.bad == t.bad)))) ∧ Below w.heap.size w w' := by
  obtain ⟨a, len, cap, skip, bad⟩ := f
  obtain ⟨l, sk, bd⟩ := s
  obtain ⟨hl, hle, hc, hat, hs, hb⟩ := h
  obtain ⟨a2, len2, cap2, skip2, bad2⟩ := g
  obtain ⟨l2, sk2, bd2⟩ := t
  obtain ⟨hl2, hle2, hc2, hat2, hs2, hb2⟩ := k
  simp only at hl hle hc hat hs hb hl2 hle2 hc2 hat2 hs2 hb2
  subst hs hb hl hs2 hb2 hl2
  have HE := Lib.hid (fun (W : World) (h : Below w.heap.size w W) => equal_any a a2 cap cap2 l l2 W (Nat.le_trans hle hc) (Nat.le_trans hle2 hc2) (hat.mono h) (hat2.mono h))
  clear hat hat2
  rcases hq : (l == l2) with _ | _
  all_goals
    rw [hq] at HE
    rcases hq2 : (skip == skip2) with _ | _
    all_goals
      go_enter Try.func31, Try.ntmps31
      go_wp2_with fail
      generalize hW : World.alloc _ _ = W
      obtain ⟨B1, B2, hb⟩ := two_world (a := [.slice a l.length cap, .int .i64 skip, .int .i64 bad]) (b := [.slice a2 l2.length cap2, .int .i64 skip2, .int .i64 bad2]) hW
      clear hW
      generalize w.heap.size + 1 = n2 at B2 ⊢
      refine (HE.out _ hb).mono ?_; rintro e w2 ⟨rfl, hb2⟩
      obtain ⟨c0, c1, c2⟩ := cells3 (B1.up hb2)
      obtain ⟨d0, d1, d2⟩ := cells3 (B2.up hb2)
      have Hb := Lib.hid (bt hb hb2)
      clear B1 B2 hb hb2 HE
      go_wp2_with fail
      go_ret
      exact ⟨by simp [*], Hb.out⟩
set_option maxHeartbeats 1000000 in
theorem refSame_any (f g : Fv) (s t : Fd) (w : World) (h : FdAt w f s) (k : FdAt w g t) :
    Calls Try.prog 27 #[f.v, g.v] w fun e w' => e = .returned (.bool ((s.buf == t.buf) && ((s.skip == t.skip) && (s.bad == t.bad)))) ∧ Below w.heap.size w w' := by
  obtain ⟨a, len, cap, skip, bad⟩ := f
  obtain ⟨l, sk, bd⟩ := s
  obtain ⟨hl, hle, hc, hat, hs, hb⟩ := h
  obtain ⟨a2, len2, cap2, skip2, bad2⟩ := g
  obtain ⟨l2, sk2, bd2⟩ := t
  obtain ⟨hl2, hle2, hc2, hat2, hs2, hb2⟩ := k
  simp only at hl hle hc hat hs hb hl2 hle2 hc2 hat2 hs2 hb2
  subst hs hb hl hs2 hb2 hl2
  have HE := Lib.hid (fun (W : World) (h : Below w.heap.size w W) => same01_any a a2 l.length cap l2.length cap2 l l2 W rfl rfl (hat.mono h) (hat2.mono h))
  clear hat hat2
  rcases hq : (l == l2) with _ | _
  all_goals
    rw [hq] at HE
    rcases hq2 : (skip == skip2) with _ | _
    all_goals
      go_enter Try.func27, Try.ntmps27
      go_wp2_with fail
      generalize hW : World.alloc _ _ = W
      obtain ⟨B1, B2, hb⟩ := two_world (a := [.slice a l.length cap, .int .i64 skip, .int .i64 bad]) (b := [.slice a2 l2.length cap2, .int .i64 skip2, .int .i64 bad2]) hW
      clear hW
      generalize w.heap.size + 1 = n2 at B2 ⊢
      refine (HE.out _ hb).mono ?_; rintro e w2 ⟨rfl, rfl⟩
      obtain ⟨c0, c1, c2⟩ := cells3 B1
      obtain ⟨d0, d1, d2⟩ := cells3 B2
      have Hb := Lib.hid hb
      clear B1 B2 hb HE
      go_wp2_with fail
      go_ret
      exact ⟨by simp [*], Hb.out⟩
end Go.Proofs.Ytcccgjpmfbmplaa
