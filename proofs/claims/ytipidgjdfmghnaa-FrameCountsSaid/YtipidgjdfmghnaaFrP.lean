/- The walk of the law FrameCounts. -/
import Derived.Test.YtipidgjdfmghnaaFrN
import Derived.BigQuiet
set_option linter.unusedSimpArgs false
set_option linter.unusedVariables false
namespace Go.Proofs.Ytipidgjdfmghnaa
open Go.RowKit

theorem packed_le (rows : List (List UInt8)) (k : Nat) : packedF (rows.take k) ≤ packedF rows := by
  have e : packedF rows = packedF (rows.take k) + packedF (rows.drop k) := by
    conv => lhs; rw [← List.take_append_drop k rows]
    simp only [packedF, List.map_append, List.sum_append]
  omega

theorem w64_of (x : Int) (h1 : -9223372036854775808 ≤ x) (h2 : x ≤ 9223372036854775807) : wrap64 x = x := by unfold wrap64; omega

set_option maxRecDepth 100000 in
set_option maxHeartbeats 1000000 in
theorem frameCounts_any (hsh : Shown08OK) (f : Fv) (s : Fd) (a : Option Addr) (cap : Nat) (l : List UInt8) (w : World) (hin : FdAt w f s) (hl : BytesAt w a l) (hwf : (Lit.int .i64 f.bad).wf = true) :
    Calls Try.prog 7 #[f.v, .slice a l.length cap] w (BoolOut w true) := by
  have Hsh := Lib.hid hsh
  have Hin := Lib.hid hin
  have Hl := Lib.hid hl
  have Hwf := Lib.hid hwf
  clear hsh hin hl hwf
  rcases hR : rightF s with _ | _
  all_goals
    have HR := Lib.hid hR
    clear hR
    go_enter Try.func7, Try.ntmps7
    go_wp2_with fail
    refine (Hsh.out _).mono ?_; rintro e w1 ⟨rfl, hb1⟩
    have H2 := Lib.hid ((BlkT.new w f.L 24).up hb1)
    have Hb := Lib.hid (bt (ba w _) hb1)
    obtain ⟨c0, c1, c2⟩ := cells3 H2.out.blk
    clear hb1
    go_wp2_with fail
    have hc := refRight_any f s w1 (Hin.out.mono Hb.out)
    rw [HR.out] at hc
    refine hc.mono ?_; rintro e w2 ⟨rfl, hb2⟩
    replace H2 := Lib.hid (H2.out.up hb2)
    replace Hb := Lib.hid (bt Hb.out hb2)
    clear c0 c1 c2 hb2 hc
    obtain ⟨c0, c1, c2⟩ := cells3 H2.out.blk
  · go_wp2_with fail
    go_ret
    exact ⟨rfl, Hb.out⟩
  · by_cases hlen : (2000 : Int) < l.length
    · go_wp2_with fail
      go_ret
      exact ⟨rfl, Hb.out⟩
    · have Hlen := Lib.hid (show l.length ≤ 1000000000 by omega)
      go_wp2_with fail
      refine (push_at Hin.out HR.out Hl.out Hlen.out w2 Hb.out).mono ?_; rintro e w3 ⟨f1, a1, k1, vs1, rfl, hF1, -, hO1, hR1, hb3⟩
      obtain ⟨fa, fl, fc, fs, fb⟩ := f1
      obtain ⟨e1, -, -, -, e2, e3⟩ := hF1
      simp only at e1 e2 e3
      have hbX := bt hb3 (ba w3 (.cells #[.slice fa fl fc, .int .i64 fs, .int .i64 fb] 24))
      have HR1 := Lib.hid ((FdAt.rows_len hO1 hR1).mono (ba w3 (.cells #[.slice fa fl fc, .int .i64 fs, .int .i64 fb] 24)))
      have Hn1 := Lib.hid (rows_bound hO1)
      have H3 := Lib.hid (BlkT.new w3 [.slice fa fl fc, .int .i64 fs, .int .i64 fb] 24)
      obtain ⟨k, m, p, r1, r2, r3, r4, r5, r6⟩ := run_counts l s (right_fits HR.out)
      have hin := Hin.out
      have g1 := hin.len
      have g2 := hin.skip
      have g3 := hin.bad
      have g4 := (right_bounds HR.out)
      have g5 := (right_bounds (run_stays HR.out l))
      have g6 := ((right_of_iff _).1 (run_stays HR.out l)).1
      rw [← e1, ← g1] at r3
      rw [← e2, ← g2] at r4
      rw [← e3, ← g3] at r1
      rw [← g1, ← g2] at g4
      rw [← e1, ← e2] at g5
      rw [← e2] at g6
      have g7 : 0 ≤ f.skip := by rw [g2]; exact ((right_of_iff _).1 HR.out).1
      generalize (runF s l).2 = rows at HR1 Hn1 r3 r6 ⊢
      have HQ := Lib.hid (fun (r : List UInt8) (hr : r ∈ rows) => r6 r hr)
      have hpl := fun k => packed_le rows k
      have HPk := Lib.hid (fun W (h : RowsAt W a1 rows) => packed_any a1 k1 rows W Hn1.out (fun k _ => Nat.le_trans (hpl k) (by omega)) h)
      generalize hP : packedF rows = P at r3 HPk
      have hbx : -9223372036854775808 ≤ f.bad ∧ f.bad ≤ 9223372036854775807 := by
        have := Hwf.out
        simp [Lit.wf, IntKind.min, IntKind.max, IntKind.bits, IntKind.signed] at this; omega
      have r7 : l.length ≤ 2000 := by omega
      have HN := Lib.hid (show fb = (if k = 0 then f.bad else wrap64 (f.bad + k)) ∧ k ≤ 2000 ∧ f.len + l.length = P + fl + (2 * k + p) ∧ (p : Int) = f.skip - fs + m ∧ (k = 0 → m = 0) ∧ f.skip ≤ 65535 ∧ f.len ≤ 1026 ∧ fs ≤ 65535 ∧ fl ≤ 1026 ∧ 0 ≤ fs ∧ 0 ≤ f.skip from ⟨r1, by omega, r3, r4, r5, g4.1, g4.2, g5.1, g5.2, g6, g7⟩)
      have Hbx := Lib.hid hbx
      clear hin g1 g3 r6 hpl hO1 hR1 hb3 e1 e2 e3 r1 r2 r3 r4 r5 g2 g4 g5 g6 g7 hP hbx r7
      replace H2 := Lib.hid (H2.out.up hbX)
      replace Hb := Lib.hid (bt Hb.out hbX)
      clear c0 c1 c2 hbX
      go_wp2_with fail
      generalize World.alloc w3 _ = W3 at H2 H3 Hb HR1 ⊢
      have hn1 : rows.length ≤ 9223372036854775807 := by have := Hn1.out; unfold maxLen at this; omega
      go_loopw [8] (fun v wx => ∃ k : Nat, k ≤ rows.length ∧ v = .int .i64 (k : Int) ∧ wx = W3) (fun v _ => rows.length - (intOf v).toNat)
      case atStart => exact ⟨0, Nat.zero_le _, rfl, rfl⟩
      case round =>
        obtain ⟨j, hj, rfl, rfl⟩ := hrel
        by_cases hlt : j < rows.length
        · obtain ⟨b, off, p1, q1, rfl, hbl, hcell, -, -, -⟩ := HR1.out.row j hlt
          have hr := HQ.out (rows.getD j []) (by simp [List.getD, hlt])
          generalize rows.getD j [] = r at hcell hr
          have hr1 : ¬ ((r.length : Int) < 1) := by omega
          have hr2 : ¬ ((1024 : Int) < r.length) := by omega
          have hr3 : decide ((r.length : Int) < 1) = false := by simpa using hr1
          have hr4 : decide ((1024 : Int) < (r.length : Int)) = false := by simpa using hr2
          clear hr hr1 hr2
          go_wp2_with fail
          exact ⟨⟨j + 1, by omega, by go_num, by first | rfl | trivial⟩, by simp [intOf]; omega⟩
        · obtain rfl : j = rows.length := by omega
          have HRn := Lib.hid (fun n => HR1.out.mono (btn (Below.refl _ _) n))
          obtain ⟨c0, c1, c2⟩ := cells3 H2.out.blk
          obtain ⟨d0, d1, d2⟩ := cells3 H3.out.blk
          clear hj hlt
          obtain ⟨n1, n2, n3, n4, n5, n6, n7, n8, n9, n10, n11⟩ := HN.out
          have N1 := Lib.hid n1
          have N5 := Lib.hid n5
          clear n1 n5 hn1 c0 c1 c2 d0 d1 d2
          have e1 : wrap64 ((f.len : Int) + (l.length : Int)) = (f.len : Int) + l.length := w64_of _ (by omega) (by omega)
          have e2 : wrap64 ((f.len : Int) + (l.length : Int) - (P : Int)) = (f.len : Int) + l.length - P := w64_of _ (by omega) (by omega)
          obtain ⟨L, hL⟩ : ∃ L : Int, L = (f.len : Int) + l.length - P - fl := ⟨_, rfl⟩
          have e3 : wrap64 ((f.len : Int) + (l.length : Int) - (P : Int) - (fl : Int)) = L := by rw [hL]; exact w64_of _ (by omega) (by omega)
          by_cases hk : k = 0
          · have n1 := N1.out
            rw [if_pos hk] at n1
            have n5' := N5.out hk
            have e4 : wrap64 (f.skip - fs) = f.skip - fs := w64_of _ (by omega) (by omega)
            have key : (L == f.skip - fs) = true := by rw [beq_iff_eq]; omega
            clear n2 n3 n4 n6 n7 n8 n9 n10 n11 n5' hk hlen N1 N5 hL
            subst n1
            obtain ⟨c0, c1, c2⟩ := cells3 H2.out.blk
            obtain ⟨d0, d1, d2⟩ := cells3 H3.out.blk
            go_wp2_with fail
            go_quiet ((go_at_call 21; exact Calls.quiet_of_same (HPk.out _ (HRn.out _))))
            go_wp2_with fail
            go_ret
            exact ⟨rfl, btn Hb.out _⟩
          · have n1 := N1.out
            rw [if_neg hk] at n1
            have hb := Hbx.out
            have hne : (fb == f.bad) = false := by rw [beq_eq_false_iff_ne, n1]; unfold wrap64; omega
            have e5 : wrap64 (fb - f.bad) = (k : Int) := by rw [n1]; unfold wrap64; omega
            clear n1 hb
            have e6 : wrap64 (L + fs) = L + fs := w64_of _ (by omega) (by omega)
            have e7 : wrap64 (2 * (k : Int)) = 2 * (k : Int) := w64_of _ (by omega) (by omega)
            have e8 : wrap64 (f.skip + 2 * (k : Int)) = f.skip + 2 * (k : Int) := w64_of _ (by omega) (by omega)
            have key1 : decide ((0 : Int) ≤ L) = true := by simp; omega
            have key2 : decide (f.skip + 2 * (k : Int) ≤ L + fs) = true := by simp; omega
            clear n2 n3 n4 n6 n7 n8 n9 n10 n11 hk hlen N1 N5 hL
            obtain ⟨c0, c1, c2⟩ := cells3 H2.out.blk
            obtain ⟨d0, d1, d2⟩ := cells3 H3.out.blk
            go_wp2_with fail
            go_quiet ((go_at_call 21; exact Calls.quiet_of_same (HPk.out _ (HRn.out _))))
            go_wp2_with fail
            go_ret
            exact ⟨rfl, btn Hb.out _⟩
end Go.Proofs.Ytipidgjdfmghnaa
