/- Frames: which feeds are right, of the program and of the document. -/
import Derived.Test.YtcccgjpmfbmplaaFrB
set_option linter.unusedSimpArgs false
set_option linter.unusedVariables false
namespace Go.Proofs.Ytcccgjpmfbmplaa
open Go.RowKit

/-- a feed's value -/
structure Fv where
  a : Option Addr
  len : Nat
  cap : Nat
  skip : Int
  bad : Int
abbrev Fv.L (f : Fv) : List Value := [.slice f.a f.len f.cap, .int .i64 f.skip, .int .i64 f.bad]
abbrev Fv.v (f : Fv) : Value := .agg #[.slice f.a f.len f.cap, .int .i64 f.skip, .int .i64 f.bad]
/-- the feed that a value is -/
structure FdAt (w : World) (f : Fv) (s : Fd) : Prop where
  len : f.len = s.buf.length
  le : f.len ≤ f.cap
  cap : f.cap ≤ maxLen
  buf : BytesAt w f.a s.buf
  skip : f.skip = s.skip
  bad : f.bad = s.bad
theorem FdAt.mono {w w' : World} {f : Fv} {s : Fd} (h : FdAt w f s) (hb : Below w.heap.size w w') : FdAt w' f s := ⟨h.len, h.le, h.cap, h.buf.mono hb, h.skip, h.bad⟩

/-- the same, with numbers at hand -/
theorem right_parts (l : List UInt8) (skip bad : Int) : rightF ⟨l, skip, bad⟩ =
    bif (decide (skip < 0) || decide (65535 < skip)) || (decide (0 < skip) && decide ((0 : Int) < l.length)) then false
    else bif decide ((l.length : Int) < 2) then true
    else decide ((1 : Int) ≤ toldL l) && decide ((toldL l : Int) ≤ 1024) && decide ((l.length : Int) < toldL l + 2) := by
  have e1 : decide ((0 : Int) < l.length) = decide (0 < l.length) := by congr 1; simp
  have e2 : decide ((l.length : Int) < 2) = decide (l.length < 2) := by rw [decide_eq_decide]; omega
  have e3 : decide ((1 : Int) ≤ toldL l) = decide (1 ≤ toldL l) := by rw [decide_eq_decide]; omega
  have e4 : decide ((toldL l : Int) ≤ 1024) = decide (toldL l ≤ 1024) := by rw [decide_eq_decide]; omega
  have e5 : decide ((l.length : Int) < toldL l + 2) = decide (l.length < toldL l + 2) := by rw [decide_eq_decide]; omega
  rw [e1, e2, e3, e4, e5]; rfl

set_option maxHeartbeats 1000000 in
theorem right_any (f : Fv) (s : Fd) (w : World) (h : FdAt w f s) :
    Calls Try.prog 30 #[f.v] w fun e w' => e = .returned (.bool (rightF s)) ∧ Below w.heap.size w w' := by
  obtain ⟨a, len, cap, skip, bad⟩ := f
  obtain ⟨l, sk, bd⟩ := s
  obtain ⟨hl, hle, hc, hat, hs, hb⟩ := h
  simp only at hl hle hc hat hs hb
  subst hs hb hl
  have Hat := Lib.hid hat
  have HR := Lib.hid (right_parts l skip bad)
  have hmul : IntKind.i64.wrap (2 + ((toldL l : Nat) : Int)) = toldL l + 2 := by have := told_lt l; rw [IntKind.wrap_i64]; omega
  have hmul2 : IntKind.i64.wrap (((toldL l : Nat) : Int) + 2) = toldL l + 2 := by have := told_lt l; rw [IntKind.wrap_i64]; omega
  have HT := Lib.hid (fun (h2 : 2 ≤ l.length) (W : World) (h : Below w.heap.size w W) => told_any a _ cap l W rfl h2 (hat.mono h))
  clear hat
  go_enter Try.func30, Try.ntmps30
  go_wp2_with (go_at_call 36; ((with_reducible refine Calls.mono (HT.out (by omega) _ (ba w _)) ?_); rintro e w2 ⟨rfl, hb2⟩; have HB := Lib.hid ((Blk.new w [.slice a l.length cap, .int .i64 skip, .int .i64 bad] 25).up hb2); obtain ⟨c0, c1, c2⟩ := cells3 HB.out; have Hb := Lib.hid (bt (ba w _) hb2); clear hb2 HB))
  all_goals
    go_ret
    refine ⟨?_, by first | exact ba w _ | exact Hb.out⟩
    rw [HR.out]
    show Ending.returned (Value.bool _) = Ending.returned (Value.bool _)
    refine congrArg (fun b => Ending.returned (Value.bool b)) ?_
    clear HR HT Hat
    generalize l.length = n at *
    generalize toldL l = t at *
    rw [Bool.eq_iff_iff]
    simp
    try omega

set_option maxHeartbeats 1000000 in
theorem refRight_any (f : Fv) (s : Fd) (w : World) (h : FdAt w f s) :
    Calls Try.prog 29 #[f.v] w fun e w' => e = .returned (.bool (rightF s)) ∧ Below w.heap.size w w' := by
  obtain ⟨a, len, cap, skip, bad⟩ := f
  obtain ⟨l, sk, bd⟩ := s
  obtain ⟨hl, hle, hc, hat, hs, hb⟩ := h
  simp only at hl hle hc hat hs hb
  subst hs hb hl
  have HR := Lib.hid (right_parts l skip bad)
  have hmul : IntKind.i64.wrap (2 + ((toldL l : Nat) : Int)) = toldL l + 2 := by have := told_lt l; rw [IntKind.wrap_i64]; omega
  have hmul2 : IntKind.i64.wrap (((toldL l : Nat) : Int) + 2) = toldL l + 2 := by have := told_lt l; rw [IntKind.wrap_i64]; omega
  by_cases h2 : 2 ≤ l.length
  · obtain ⟨b, off, rfl, hlt, c0, c1⟩ := bytes_two hat h2
    have Ht := Lib.hid (told_two l)
    have h0 : 0 < l.length := by omega
    have h1 : 1 < l.length := by omega
    have hbel := ba w (.cells #[.slice (some ⟨b, off, none⟩) l.length cap, .int .i64 skip, .int .i64 bad] 25)
    have k0 := (hbel.cell (p := ⟨b, off, none⟩) hlt).trans c0
    have k1 := (hbel.cell (p := ⟨b, off + 1, none⟩) hlt).trans c1
    obtain ⟨d0, d1, d2⟩ := cells3 (Blk.new w [.slice (some ⟨b, off, none⟩) l.length cap, .int .i64 skip, .int .i64 bad] 25)
    clear hat c0 c1
    generalize l.getD 0 0 = x0 at k0 Ht
    generalize l.getD 1 0 = x1 at k1 Ht
    go_enter Try.func29, Try.ntmps29
    go_wp2_with fail
    all_goals first
      | (go_ret
         refine ⟨?_, by first | exact ba w _ | exact btn hbel _⟩
         rw [HR.out]
         show Ending.returned (Value.bool _) = Ending.returned (Value.bool _)
         refine congrArg (fun b => Ending.returned (Value.bool b)) ?_
         clear HR
         generalize l.length = n at *
         generalize toldL l = t at *
         rw [Bool.eq_iff_iff]
         simp
         try omega)
      | (generalize World.alloc w _ = W at k0 k1 d0 d1 d2 hbel ⊢
         go_quiet (fail)
         rw [Ht.out]
         go_wp2_with fail
         all_goals
           go_ret
           refine ⟨?_, by first | exact ba w _ | exact btn hbel _⟩
           rw [HR.out]
           show Ending.returned (Value.bool _) = Ending.returned (Value.bool _)
           refine congrArg (fun b => Ending.returned (Value.bool b)) ?_
           clear HR
           generalize l.length = n at *
           generalize toldL l = t at *
           rw [Bool.eq_iff_iff]
           simp
           try omega)
  · go_enter Try.func29, Try.ntmps29
    go_wp2_with fail
    all_goals
      go_ret
      refine ⟨?_, by first | exact ba w _ | exact btn hbel _⟩
      rw [HR.out]
      show Ending.returned (Value.bool _) = Ending.returned (Value.bool _)
      refine congrArg (fun b => Ending.returned (Value.bool b)) ?_
      clear HR
      generalize l.length = n at *
      generalize toldL l = t at *
      rw [Bool.eq_iff_iff]
      simp
      try omega
end Go.Proofs.Ytcccgjpmfbmplaa
