/- The walk of the law FramePushes. -/
import Derived.Test.YtipidgjdfmghnaaFrM
set_option linter.unusedSimpArgs false
set_option linter.unusedVariables false
namespace Go.Proofs.Ytipidgjdfmghnaa
open Go.RowKit

theorem FdAt.rows_len {B : Nat} {w : World} {a : Option Addr} {n c : Nat} {vs : List Value} {rows : List (List UInt8)} (hO : Own B w (.slice a n c) n vs) (hR : RowsK B w vs rows) : RowsAt w a rows := ⟨vs, hO.at, hR.of⟩
/-- both pushes, wherever the feed lies -/
theorem push_at {w : World} {f : Fv} {s : Fd} {a : Option Addr} {cap : Nat} {l : List UInt8} (h : FdAt w f s) (hr : rightF s = true) (hl : BytesAt w a l) (hlen : l.length ≤ 1000000000) (W : World) (hb : Below w.heap.size w W) :
    Calls Try.prog 17 #[f.v, .slice a l.length cap] W (PushOut W.heap.size W (runF s l)) :=
  push_any f s a cap l W W.heap.size (Nat.le_refl _) (h.mono hb) hr (hl.mono hb) hlen
theorem refPush_at {w : World} {f : Fv} {s : Fd} {a : Option Addr} {cap : Nat} {l : List UInt8} (h : FdAt w f s) (hr : rightF s = true) (hl : BytesAt w a l) (hlen : l.length ≤ 1000000000) (W : World) (hb : Below w.heap.size w W) :
    Calls Try.prog 18 #[f.v, .slice a l.length cap] W (PushOut W.heap.size W (runF s l)) :=
  refPush_any f s a cap l W W.heap.size (Nat.le_refl _) (AtP.of (h.mono hb).buf fun b hb => .inl hb) (h.mono hb) hr (hl.mono hb) hlen
theorem rows_bound {B : Nat} {w : World} {a : Option Addr} {n c : Nat} {vs : List Value} (h : Own B w (.slice a n c) n vs) : n ≤ maxLen := Nat.le_trans h.cap.2.1 h.cap.2.2

set_option maxRecDepth 100000 in
set_option maxHeartbeats 4000000 in
theorem framePushes_any (hsh : Shown08OK) (f : Fv) (s : Fd) (a : Option Addr) (cap : Nat) (l : List UInt8) (w : World) (hin : FdAt w f s) (hl : BytesAt w a l) :
    Calls Try.prog 4 #[f.v, .slice a l.length cap] w (BoolOut w true) := by
  have Hsh := Lib.hid hsh
  have Hin := Lib.hid hin
  have Hl := Lib.hid hl
  clear hsh hin hl
  rcases hR : rightF s with _ | _
  all_goals
    have HR := Lib.hid hR
    clear hR
    go_enter Try.func4, Try.ntmps4
    go_wp2_with fail
    refine (Hsh.out _).mono ?_; rintro e w1 ⟨rfl, hb1⟩
    have H2 := Lib.hid ((BlkT.new w f.L 24).up hb1)
    have Hb := Lib.hid (bt (ba w _) hb1)
    obtain ⟨c0, c1, c2⟩ := cells3 H2.out.blk
    clear hb1
    go_wp2_with fail
    have hc := refRight_any f s w1 (Hin.out.mono Hb.out)
    rw [HR.out] at hc
    refine hc.mono ?_; rintro e w2 ⟨rfl, hb2⟩
    replace H2 := Lib.hid (H2.out.up hb2)
    replace Hb := Lib.hid (bt Hb.out hb2)
    clear c0 c1 c2 hb2 hc
    obtain ⟨c0, c1, c2⟩ := cells3 H2.out.blk
  · go_wp2_with fail
    go_ret
    exact ⟨rfl, Hb.out⟩
  · by_cases hlen : (2000 : Int) < l.length
    · go_wp2_with fail
      go_ret
      exact ⟨rfl, Hb.out⟩
    · have Hlen := Lib.hid (show l.length ≤ 1000000000 by omega)
      go_wp2_with fail
      refine (push_at Hin.out HR.out Hl.out Hlen.out w2 Hb.out).mono ?_; rintro e w3 ⟨f1, a1, k1, vs1, rfl, hF1, -, hO1, hR1, hb3⟩
      obtain ⟨fa, fl, fc, fs, fb⟩ := f1
      have H3 := Lib.hid (BlkT.new w3 [.slice fa fl fc, .int .i64 fs, .int .i64 fb] 24)
      have hbX := bt hb3 (ba w3 (.cells #[.slice fa fl fc, .int .i64 fs, .int .i64 fb] 24))
      have HF1 := Lib.hid (hF1.mono (ba w3 (.cells #[.slice fa fl fc, .int .i64 fs, .int .i64 fb] 24)))
      have HR1 := Lib.hid ((FdAt.rows_len hO1 hR1).mono (ba w3 (.cells #[.slice fa fl fc, .int .i64 fs, .int .i64 fb] 24)))
      have Hn1 := Lib.hid (rows_bound hO1)
      replace H2 := Lib.hid (H2.out.up hbX)
      replace Hb := Lib.hid (bt Hb.out hbX)
      clear c0 c1 c2 hb3 hbX hF1 hO1 hR1
      obtain ⟨c0, c1, c2⟩ := cells3 H2.out.blk
      obtain ⟨d0, d1, d2⟩ := cells3 H3.out.blk
      go_wp2_with fail
      refine (refPush_at Hin.out HR.out Hl.out Hlen.out _ Hb.out).mono ?_; rintro e w4 ⟨f2, a2, k2, vs2, rfl, hF2, -, hO2, hR2, hb4⟩
      obtain ⟨ga, gl, gc, gs, gb⟩ := f2
      have H4 := Lib.hid (BlkT.new w4 [.slice ga gl gc, .int .i64 gs, .int .i64 gb] 24)
      have hbX := bt hb4 (ba w4 (.cells #[.slice ga gl gc, .int .i64 gs, .int .i64 gb] 24))
      have HF2 := Lib.hid (hF2.mono (ba w4 (.cells #[.slice ga gl gc, .int .i64 gs, .int .i64 gb] 24)))
      have HR2 := Lib.hid ((FdAt.rows_len hO2 hR2).mono (ba w4 (.cells #[.slice ga gl gc, .int .i64 gs, .int .i64 gb] 24)))
      replace H3 := Lib.hid (H3.out.up hbX)
      replace HF1 := Lib.hid (HF1.out.mono hbX)
      replace HR1 := Lib.hid (HR1.out.mono hbX)
      replace Hb := Lib.hid (bt Hb.out hbX)
      clear c0 c1 c2 d0 d1 d2 hb4 hbX hF2 hO2 hR2
      obtain ⟨d0, d1, d2⟩ := cells3 H3.out.blk
      obtain ⟨e0, e1, e2⟩ := cells3 H4.out.blk
      go_wp2_with fail
      have hc := refSame_any _ _ _ _ _ HF1.out HF2.out
      rw [beq_self_eq_true, beq_self_eq_true, beq_self_eq_true] at hc
      refine hc.mono ?_; rintro e w5 ⟨rfl, hb5⟩
      have HC := Lib.hid (rows_any a1 a2 k1 k2 _ _ w5 Hn1.out Hn1.out (HR1.out.mono hb5) (HR2.out.mono hb5))
      rw [beq_self_eq_true] at HC
      replace Hb := Lib.hid (bt Hb.out hb5)
      clear d0 d1 d2 e0 e1 e2 hc hb5
      go_wp2_with fail
      refine HC.out.mono ?_; rintro e w6 ⟨rfl, hb6⟩
      go_wp2_with fail
      go_ret
      exact ⟨rfl, bt Hb.out hb6⟩
end Go.Proofs.Ytipidgjdfmghnaa
