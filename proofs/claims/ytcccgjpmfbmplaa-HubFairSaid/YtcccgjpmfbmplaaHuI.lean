/- What the laws of layer 09 share. -/
import Derived.Test.YtcccgjpmfbmplaaHuH
set_option linter.unusedSimpArgs false
set_option linter.unusedVariables false
namespace Go.Proofs.Ytcccgjpmfbmplaa
open Go.RowKit

theorem yieldsIf_blk {P : Program} {ops : Array Oper} {S : World → Prop} {op : Oper} {a : Act} (hw : Region.wanted op (yielded ops a.tmps) = true) (ty : TypeId) (x : Operand) (ho : op.op = .load ty x)
    (g : Nat) {cs : List Value} (hx : a.eval x = .pointer (some ⟨g, 0, none⟩)) {T : TypeId} (hS : ∀ w, S w → BlkT T w g cs) {d : TypeDesc}
    (hu : P.underlying ty = some d) (hd : (match d with | .struct _ | .array _ _ => true | _ => false) = true) (hi : (P.info? ty).map (·.size) = some cs.length) : YieldsIf P ops S op (.agg cs.toArray) a :=
  .inl ⟨hw, fun w hw' => by
    unfold execOp
    simp only [ho, hx, Instr.loadAt, Instr.sureAddr, Sem.run_bind, Sem.run_pure, Result.andThen_ok, run_loadVar_row w g T ty cs.toArray (0, 0) d (hS w hw') hu hd (by simpa using hi)]⟩
theorem hub_len {w : World} {h : Hv} {s : Nat → Fd} (hh : HbAt w h s) : ∀ i, i < 4 → (h.f i).len ≤ maxLen := fun i hi => Nat.le_trans (hh i hi).le (hh i hi).cap
theorem next_at {w : World} {h : Hv} {s : Nat → Fd} (hh : HbAt w h s) : HbAt w (pickF h).1 s := by
  unfold pickF
  split
  · exact hh
  · exact hh
theorem sameH_refl {h g : Hv} {s : Nat → Fd} (hu : h.u = g.u) (hl : h.l = g.l) (hn : h.nx = g.nx) : sameH h s g s = true := by
  unfold sameH; rw [hu, hl, hn]
  simp [c4, sameFd]
theorem right_nx {h : Hv} {s : Nat → Fd} (hr : rightH h s = true) : isC h.nx = true := by unfold rightH at hr; rw [Bool.and_eq_true] at hr; exact hr.2
theorem right_feed {h : Hv} {s : Nat → Fd} (hr : rightH h s = true) : ∀ i, i < 4 → rightF (s i) = true := fun i hi => by
  unfold rightH at hr; rw [Bool.and_eq_true] at hr
  have h1 : okC h s i = true := by
    rcases hq : okC h s i with _ | _
    · rw [c4_bad (p := okC h s) i hi hq] at hr; exact absurd hr.1 (by decide)
    · rfl
  unfold okC at h1; rw [Bool.and_eq_true] at h1; exact h1.1
theorem turned_at {w : World} {h : Hv} {s : Nat → Fd} (hh : HbAt w h s) (c : Int) (up : Bool) : HbAt w (turnedF h c up).1 (bif (turnedF h c up).2 == 0 then upd s c.toNat zeroD else s) := by
  unfold turnedF
  rcases isC c with _ | _
  · exact hh
  · rcases (h.u c.toNat == up) with _ | _
    · intro i hi
      show FdAt w (upd h.f c.toNat zeroF i) (upd s c.toNat zeroD i)
      unfold upd
      by_cases hc : i = c.toNat
      · rw [if_pos hc, if_pos hc]; exact zeroF_at w
      · rw [if_neg hc, if_neg hc]; exact hh i hi
    · exact hh
theorem raise_at {w : World} {h : Hv} {s : Nat → Fd} (hh : HbAt w h s) (c : Int) : HbAt w (raiseF h c).1 (bif (turnedF h c true).2 == 0 then upd s c.toNat zeroD else s) := by
  have := turned_at hh c true
  unfold raiseF
  rcases hq : ((turnedF h c true).2 == 0) with _ | _
  · rw [hq] at this; exact this
  · rw [hq] at this; exact this
/-- what comes of bytes on a connection -/
def pushS (h : Hv) (s : Nat → Fd) (c : Int) (l : List UInt8) : Nat → Fd := bif pushE h c == 0 then upd s c.toNat (runF (s c.toNat) l).1 else s
def pushR (h : Hv) (s : Nat → Fd) (c : Int) (l : List UInt8) : List (List UInt8) := bif pushE h c == 0 then (runF (s c.toNat) l).2 else []
def PushOutH (w : World) (h : Hv) (s2 : Nat → Fd) (rows : List (List UInt8)) (er : Int) (e : Ending) (w' : World) : Prop :=
  ∃ hp a k, e = .returned (.tuple #[hp.v, .slice a rows.length k, .int .i64 er]) ∧ (hp.u = h.u ∧ hp.l = h.l ∧ hp.nx = h.nx) ∧ HbAt w' hp s2 ∧ RowsAt w' a rows ∧ rows.length ≤ maxLen ∧ Below w.heap.size w w'
theorem push_out {w : World} {h : Hv} {s : Nat → Fd} {c : Int} {l : List UInt8} {f : Nat} (hh : HbAt w h s) {v : Value}
    (hy : pushE h c = 0 → Calls Try.prog f #[h.v, .int .i64 c, v] w (HubYes w h c.toNat (runF (s c.toNat) l))) (hn : pushE h c ≠ 0 → Calls Try.prog f #[h.v, .int .i64 c, v] w (HubNo w h (pushE h c))) :
    Calls Try.prog f #[h.v, .int .i64 c, v] w (PushOutH w h (pushS h s c l) (pushR h s c l) (pushE h c)) := by
  unfold pushS pushR
  by_cases he : pushE h c = 0
  · have hb : (pushE h c == 0) = true := by rw [he]; rfl
    rw [hb]
    refine (hy he).mono fun e w' ⟨f1, a, k, h1, h2, h3, h4, h5⟩ => ⟨h.setF c.toNat f1, a, k, by rw [he]; exact h1, ⟨rfl, rfl, rfl⟩, fun i hi => ?_, h3, h4, h5⟩
    show FdAt w' (upd h.f c.toNat f1 i) (upd s c.toNat (runF (s c.toNat) l).1 i)
    unfold upd
    by_cases hc : i = c.toNat
    · rw [if_pos hc, if_pos hc]; exact h2
    · rw [if_neg hc, if_neg hc]; exact (hh i hi).mono h5
  · have hb : (pushE h c == 0) = false := by rw [beq_eq_false_iff_ne]; exact he
    rw [hb]
    exact (hn he).mono fun e w' ⟨h1, h2⟩ => ⟨h, none, 0, h1, ⟨rfl, rfl, rfl⟩, hh.mono h2, RowsAt.nil _ _, Nat.zero_le _, h2⟩
theorem hubPush_out {h : Hv} {s : Nat → Fd} (c : Int) (a : Option Addr) (cap : Nat) (l : List UInt8) (w : World) (hh : HbAt w h s) (hr : ∀ i, i < 4 → rightF (s i) = true) (hl : BytesAt w a l) (hlen : l.length ≤ 1000000000) :
    Calls Try.prog 22 #[h.v, .int .i64 c, .slice a l.length cap] w (PushOutH w h (pushS h s c l) (pushR h s c l) (pushE h c)) :=
  push_out hh (fun he => hubPush_yes h s c a cap l w hh hr he hl hlen) (fun he => hubPush_no h c a cap l.length w he)
theorem refHubPush_out {h : Hv} {s : Nat → Fd} (c : Int) (a : Option Addr) (cap : Nat) (l : List UInt8) (w : World) (hh : HbAt w h s) (hr : ∀ i, i < 4 → rightF (s i) = true) (hl : BytesAt w a l) (hlen : l.length ≤ 1000000000) :
    Calls Try.prog 23 #[h.v, .int .i64 c, .slice a l.length cap] w (PushOutH w h (pushS h s c l) (pushR h s c l) (pushE h c)) :=
  push_out hh (fun he => refHubPush_yes h s c a cap l w hh hr he hl hlen) (fun he => refHubPush_no h c a cap l.length w he)
end Go.Proofs.Ytcccgjpmfbmplaa
