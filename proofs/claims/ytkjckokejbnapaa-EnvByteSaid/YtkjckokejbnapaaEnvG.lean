/- Envelopes: which are the same; rows copied. -/
import Derived.Test.YtkjckokejbnapaaEnvF
import Derived.Lib.SliceRun
import Derived.ChangeKeysEq
set_option linter.unusedSimpArgs false
set_option linter.unusedVariables false
namespace Go.Proofs.Ytkjckokejbnapaa
open Go.RowKit

/-- a slice that the call makes holds these bytes -/
def SlOut (w : World) (l : List UInt8) (e : Ending) (w' : World) : Prop := ∃ a c, e = .returned (.slice a l.length c) ∧ Buf w w' 5 (.slice a l.length c) l.length (B8s l)
set_option maxHeartbeats 400000 in
theorem clone_any (a : Option Addr) (cap : Nat) (l : List UInt8) (w : World) (hc : l.length ≤ 140737488355328) (hl : BytesAt w a l) :
    Calls Try.prog 32 #[.slice a l.length cap] w (SlOut w l) := by
  have q22 : ∀ (w : World) (a : Option Addr) (n c n' c' : Nat), (binOp .eql 23 (.slice a n c) (.slice none n' c')).run Try.prog w = .ok (.bool a.isNone) w := fun w a n c n' c' => Lib.run_eql_slice_nil w _ _ a n c n' c' Try.underlying23
  rcases a with _ | ⟨b, o, s⟩
  · have h0 : l = [] := by
      rcases hl with h | ⟨b, off, h, -⟩
      · simpa using h
      · cases h
    subst h0
    go_enter Try.func32, Try.ntmps32
    go_wp2_with fail
    go_ret
    exact ⟨none, 0, rfl, Buf.nil _ _⟩
  · have Hl := Lib.hid (hl.mono (ba w (.cells #[] 5)))
    clear hl
    go_enter Try.func32, Try.ntmps32
    go_wp2_with (at_builtin; go_must (refine wpList_buf (.tmp 5) (.tmp 6) 23 rfl rfl elemB rfl (Buf.made w 5 [] 0 0 (by decide) rfl (by decide)) (sp := some ⟨b, o, s⟩) (m := l.length) (news := B8s l) rfl Hl.out (by simp) (bytes_one l) (by omega) (by decide) l.length (by omega) (B8s l) rfl ?_; intro a1 c1 w1 hB1))
    go_ret
    exact ⟨a1, c1, rfl, hB1⟩


theorem bequal_any (a b : Option Addr) (la ca lb cb : Nat) (l m : List UInt8) (w : World) (ha : la = l.length) (hb : lb = m.length) (hl : BytesAt w a l) (hm : BytesAt w b m) :
    Calls Try.prog 29 #[.slice a la ca, .slice b lb cb] w fun e w' => e = .returned (.bool (l == m)) ∧ w = w' := by
  have h1 := run_str hl 23 9 5 Try.underlying23 Try.underlying5 Try.underlying9 la ca ha
  have h2 := run_str hm 23 9 5 Try.underlying23 Try.underlying5 Try.underlying9 lb cb hb
  have h3 := Lib.hid (beq_str l m)
  clear hl hm ha hb
  go_enter Try.func29, Try.ntmps29
  go_wp2_with fail
  go_ret
  exact ⟨rfl, rfl⟩

theorem eq_int (d : Nat) (a b : Int) (w : World) : (Op.equalIn (d + 1) 3 (.int .i64 a) (.int .i64 b)).run Try.prog w = .ok (decide (a = b)) w := by
  simp [Op.equalIn, run_underlying Try.underlying3]
  rw [Bool.eq_iff_iff]; simp
theorem part_0 (a b : Value) (w : World) : (part 3 #[a, b] (0 * 1)).run Try.prog w = .ok a w := by kernel_rfl
theorem part_1 (a b : Value) (w : World) : (part 3 #[a, b] (1 * 1)).run Try.prog w = .ok b w := by kernel_rfl
theorem part_1' (a b : Value) (w : World) : (part 3 #[a, b] 1).run Try.prog w = .ok b w := part_1 a b w
theorem eq_int' (a b : Int) (w : World) : (Op.equalIn 9999 3 (.int .i64 a) (.int .i64 b)).run Try.prog w = .ok (decide (a = b)) w := eq_int 9998 a b w
theorem eq_two (e0 e1 f0 f1 : Int) (w : World) : (Op.equalIn 10000 22 (.agg #[.int .i64 e0, .int .i64 e1]) (.agg #[.int .i64 f0, .int .i64 f1])).run Try.prog w = .ok (decide (e0 = f0) && decide (e1 = f1)) w := by
  obtain ⟨i, hi⟩ := Option.isSome_iff_exists.1 (show (Try.prog.info? 3).isSome = true by kernel_rfl)
  have h := run_equalIn_array w 9999 #[.int .i64 e0, .int .i64 e1] #[.int .i64 f0, .int .i64 f1] Try.underlying22 hi
  have hc : Try.prog.cellsOf 3 = 1 := by kernel_rfl
  have r2 : List.range 2 = [0, 1] := rfl
  rw [hc, r2] at h
  refine h.trans ?_
  have q := fun a b w => eq_int 9998 a b w
  simp only [Op.eqItems, Sem.run_bind, part_0, part_1, Result.andThen_ok, q]
  by_cases h0 : e0 = f0 <;> by_cases h1 : e1 = f1 <;> simp [h0, h1, eq_int', part_0, part_1']
def sameB (k d e0 e1 g s : Int) (bl tl : List UInt8) (k2 d2 f0 f1 g2 s2 : Int) (bl2 tl2 : List UInt8) : Bool :=
  decide (k = k2) && (decide (d = d2) && (decide (e0 = f0) && (decide (e1 = f1) && (decide (g = g2) && (decide (s = s2) && ((bl == bl2) && (tl == tl2)))))))

set_option maxRecDepth 100000 in
set_option maxHeartbeats 1000000 in
theorem envSame_any (k d e0 e1 g s : Int) (a1 t1 : Option Addr) (bc tc : Nat) (bl tl : List UInt8) (k2 d2 f0 f1 g2 s2 : Int) (a2 t2 : Option Addr) (bc2 tc2 : Nat) (bl2 tl2 : List UInt8) (w : World) (hb1 : BytesAt w a1 bl) (ht1 : BytesAt w t1 tl) (hb2 : BytesAt w a2 bl2) (ht2 : BytesAt w t2 tl2) :
    Calls Try.prog 18 #[envV k d e0 e1 g s (.slice a1 bl.length bc) (.slice t1 tl.length tc), envV k2 d2 f0 f1 g2 s2 (.slice a2 bl2.length bc2) (.slice t2 tl2.length tc2)] w fun e w' => e = .returned (.bool (sameB k d e0 e1 g s bl tl k2 d2 f0 f1 g2 s2 bl2 tl2)) ∧ Below w.heap.size w w' := by
  have HB := Lib.hid (fun (W : World) (h : Below w.heap.size w W) => bequal_any a1 a2 bl.length bc bl2.length bc2 bl bl2 W rfl rfl (hb1.mono h) (hb2.mono h))
  have HT := Lib.hid (fun (W : World) (h : Below w.heap.size w W) => bequal_any t1 t2 tl.length tc tl2.length tc2 tl tl2 W rfl rfl (ht1.mono h) (ht2.mono h))
  obtain ⟨V, hV⟩ : ∃ V, V = sameB k d e0 e1 g s bl tl k2 d2 f0 f1 g2 s2 bl2 tl2 := ⟨_, rfl⟩
  rw [← hV]
  have HV := Lib.hid hV
  clear hV hb1 ht1 hb2 ht2
  have h22 := fun W => eq_two e0 e1 f0 f1 W
  rcases hqb : (bl == bl2) with _ | _ <;> rcases hqt : (tl == tl2) with _ | _
  all_goals
    rw [hqb] at HB
    rw [hqt] at HT
    generalize bl.length = nb at HB ⊢
    generalize tl.length = nt at HT ⊢
    generalize bl2.length = nb2 at HB ⊢
    generalize tl2.length = nt2 at HT ⊢
    go_enter Try.func18, Try.ntmps18
    go_wp2_with (first
      | (go_at_call 29; (with_reducible refine Calls.mono (HB.out _ (bta (ba w _) _)) ?_); rintro e w2 ⟨rfl, rfl⟩)
      | (go_at_call 29; (with_reducible refine Calls.mono (HT.out _ (bta (ba w _) _)) ?_); rintro e w3 ⟨rfl, rfl⟩))
    all_goals
      go_ret
      exact ⟨by rw [HV.out]; first | (simp [sameB, *]; done) | (simp [sameB, *] <;> omega), bta (ba w _) _⟩

set_option maxRecDepth 100000 in
set_option maxHeartbeats 1000000 in
theorem refEnvSame_any (k d e0 e1 g s : Int) (a1 t1 : Option Addr) (bc tc : Nat) (bl tl : List UInt8) (k2 d2 f0 f1 g2 s2 : Int) (a2 t2 : Option Addr) (bc2 tc2 : Nat) (bl2 tl2 : List UInt8) (w : World) (hb1 : BytesAt w a1 bl) (ht1 : BytesAt w t1 tl) (hb2 : BytesAt w a2 bl2) (ht2 : BytesAt w t2 tl2) :
    Calls Try.prog 19 #[envV k d e0 e1 g s (.slice a1 bl.length bc) (.slice t1 tl.length tc), envV k2 d2 f0 f1 g2 s2 (.slice a2 bl2.length bc2) (.slice t2 tl2.length tc2)] w fun e w' => e = .returned (.bool (sameB k d e0 e1 g s bl tl k2 d2 f0 f1 g2 s2 bl2 tl2)) ∧ Below w.heap.size w w' := by
  have HB := Lib.hid (fun (W : World) (h : Below w.heap.size w W) => same01_any a1 a2 bl.length bc bl2.length bc2 bl bl2 W rfl rfl (hb1.mono h) (hb2.mono h))
  have HT := Lib.hid (fun (W : World) (h : Below w.heap.size w W) => same01_any t1 t2 tl.length tc tl2.length tc2 tl tl2 W rfl rfl (ht1.mono h) (ht2.mono h))
  obtain ⟨V, hV⟩ : ∃ V, V = sameB k d e0 e1 g s bl tl k2 d2 f0 f1 g2 s2 bl2 tl2 := ⟨_, rfl⟩
  rw [← hV]
  have HV := Lib.hid hV
  clear hV hb1 ht1 hb2 ht2
  rcases hqb : (bl == bl2) with _ | _ <;> rcases hqt : (tl == tl2) with _ | _
  all_goals
    rw [hqb] at HB
    rw [hqt] at HT
    generalize bl.length = nb at HB ⊢
    generalize tl.length = nt at HT ⊢
    generalize bl2.length = nb2 at HB ⊢
    generalize tl2.length = nt2 at HT ⊢
    go_enter Try.func19, Try.ntmps19
    go_wp2_with (first
      | (go_at_call 15; (with_reducible refine Calls.mono (HB.out _ (bta (ba w _) _)) ?_); rintro e w2 ⟨rfl, rfl⟩)
      | (go_at_call 15; (with_reducible refine Calls.mono (HT.out _ (bta (ba w _) _)) ?_); rintro e w3 ⟨rfl, rfl⟩))
    all_goals
      go_ret
      exact ⟨by rw [HV.out]; first | (simp [sameB, *]; done) | (simp [sameB, *] <;> omega), bta (ba w _) _⟩

end Go.Proofs.Ytkjckokejbnapaa
