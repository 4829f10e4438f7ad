/- Bytes of the call's own; the document's digest. -/
import Derived.Test.YtiaigekmkmampaaDoorMacU
set_option linter.unusedSimpArgs false
set_option linter.unusedVariables false
namespace Go.Proofs.YtiaigekmkmampaaDoor
open Go.RowKit

set_option maxRecDepth 100000 in
set_option maxHeartbeats 1000000 in
theorem refOf_own (b : Option Addr) (cb : Nat) (m : List UInt8) (hsz : m.length ≤ 2147483647) (w : World) (hm : BytesAt w b m) :
    Calls Tryd.prog 23 #[.slice b m.length cb] w (OwnOut w (ofF m)) := by
  have Hm := Lib.hid hm
  clear hm
  go_enter Tryd.func23, Tryd.ntmps23
  go_wp2_with fail
  refine (refNew_any _).mono ?_; rintro e w1 ⟨rfl, hb1⟩
  go_wp2_with fail
  refine (refPut_new b m.length cb m rfl hsz _ (At.mono Hm.out hb1)).mono ?_; rintro e w2 ⟨a2, c2, rfl, hat2, hb2⟩
  have hb12 := bt hb1 hb2
  have hS := refSum_own (putS iv m) m.length a2 c2 (putR m) (by omega) (putR_length m) w2 hat2
  go_wp2_with fail
  refine hS.mono ?_; rintro e w3 ⟨a3, c3, rfl, hown3, hb3⟩
  go_wp2_with fail
  go_ret
  exact ⟨a3, c3, rfl, own_base hown3 hb12.size, bt hb12 hb3⟩

/-- bytes of the call's own, told apart from a world -/
structure OwnR (w0 w : World) (v : Value) (l : List UInt8) : Prop where
  own : w.ownsRow w0.heap.size 5 1 v l.length (B8s l)
  bel : Below w0.heap.size w0 w
theorem OwnR.buf {w0 w : World} {v : Value} {l : List UInt8} (h : OwnR w0 w v l) : Buf w0 w 5 v l.length (B8s l) := ⟨h.own, h.bel⟩
theorem OwnR.of {w0 w : World} {v : Value} {l : List UInt8} {n : Nat} (hn : n = l.length) (h : Buf w0 w 5 v n (B8s l)) : OwnR w0 w v l := by subst hn; exact ⟨h.own, h.bel⟩
theorem OwnR.at {w0 w : World} {a : Option Addr} {n c : Nat} {l : List UInt8} (h : OwnR w0 w (.slice a n c) l) : BytesAt w a l := by
  obtain ⟨_, _, h1, _, _⟩ := own_slice h.own
  cases h1; exact own_at h.own
theorem OwnR.slice {w0 w : World} {v : Value} {l : List UInt8} (h : OwnR w0 w v l) : ∃ a c, v = .slice a l.length c := by
  obtain ⟨a, c, h1, _, _⟩ := own_slice h.own; exact ⟨a, c, h1⟩
/-- an append onto bytes of the call's own -/
theorem wpList_ownR {ops : Array Oper} {rest : List Oper} {o : Oper} {a : Act} {w : World} {Q : Exit → Act → World → Prop} (s x : Operand) (hgd : o.guard = Option.none)
    (ho : o.op = .call { callee := .builtin .append, args := #[s, x], argTypes := #[22, 22] }) {w0 : World} {v : Value} {l : List UInt8} (hs : a.eval s = v) (hB : OwnR w0 w v l)
    {sp : Option Addr} {m c : Nat} (news : List UInt8) (hx : a.eval x = .slice sp m c) (hS : BytesAt w sp news) (hl : m = news.length) (h63 : l.length + m ≤ 140737488355328) (l2 : List UInt8) (hl2 : l2 = l ++ news)
    (h : ∀ a' cap' w', OwnR w0 w' (.slice a' l2.length cap') l2 → wpList Tryd.prog ops Q rest (a.put o.dst (.slice a' l2.length cap')) w') : wpList Tryd.prog ops Q (o :: rest) a w := by
  subst hl2; subst hl
  refine wpList_buf s x 22 hgd ho elemB hs hB.buf hx hS (by simp) (bytes_one news) (by omega) (by decide) (l ++ news).length (by simp) (B8s (l ++ news)) (by simp) fun a' cap' w' hb => h a' cap' w' (OwnR.of rfl hb)

/-- 32 bytes as a result -/
def Out32 (w : World) (D : List UInt8) (e : Ending) (w' : World) : Prop := ∃ b cb, e = .returned (.slice b 32 cb) ∧ (32 ≤ cb ∧ cb ≤ maxLen) ∧ BytesAt w' b D ∧ Below w.heap.size w w'
theorem out32 {w : World} {l D : List UInt8} (hl : l = D) (h32 : D.length = 32) {e : Ending} {w' : World} (h : OwnOut w l e w') : Out32 w D e w' := by
  subst hl
  obtain ⟨a, c, h1, h2, h3⟩ := h
  obtain ⟨_, _, h4, h5, h6⟩ := own_slice h2
  cases h4
  exact ⟨a, c, by rw [h1, h32], ⟨h32 ▸ h5, h6⟩, own_at h2, h3⟩
/-- two values that do not own one block -/
def Apart (u v : Value) : Prop := ∀ k, u.ownBlock = some k → v.ownBlock = some k → False
theorem Apart.symm {u v : Value} (h : Apart u v) : Apart v u := fun k h1 h2 => h k h2 h1
theorem OwnB.other {B n m : Nat} {w w' : World} {v u : Value} {xs ys : List Value} (h : OwnB B w u m ys) (hg : w.grownBy w' v.ownBlock) (hd : Apart u v) : OwnB B w' u m ys := by
  obtain ⟨⟨h1, h2⟩, h3⟩ := h
  refine ⟨⟨h1, ?_⟩, Nat.le_trans h3 hg.size⟩
  rcases h2 with h2 | ⟨g, cap, cur, hv, hgB, hh, r⟩
  · exact .inl h2
  · refine .inr ⟨g, cap, cur, hv, hgB, ?_, r⟩
    rw [hg.block g (Array.getElem?_eq_some_iff.1 hh).1 (fun hx => hd g (by rw [hv]; rfl) hx.symm)]
    exact hh
theorem Apart.grown {B m : Nat} {w : World} {u v v' : Value} {ys : List Value} (hd : Apart u v) (hu : OwnB B w u m ys) (hat : v'.ownBlock = v.ownBlock ∨ v'.ownBlock = some w.heap.size) : Apart u v' := fun k h1 h2 => by
  rcases hat with hat | hat
  · exact hd k h1 (hat ▸ h2)
  · rw [hat] at h2
    injection h2 with h2
    have := (hu.lt h1).2
    omega
theorem B8s_app (l m : List UInt8) : B8s (l ++ m) = B8s l ++ B8s m := by simp
theorem OwnB.nil (w : World) : OwnB w.heap.size w (.slice none 0 0) 0 [] := ⟨⟨rfl, .inl ⟨rfl, rfl⟩⟩, Nat.le_refl _⟩
end Go.Proofs.YtiaigekmkmampaaDoor
