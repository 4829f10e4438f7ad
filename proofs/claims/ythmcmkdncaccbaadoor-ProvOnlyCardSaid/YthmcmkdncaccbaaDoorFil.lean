/- A region that draws its order, walked over a frame that is a letter: the slots that it writes as a list beside the frame. No program in sight. -/
import Derived.WalkKit
import Derived.Lib.Hide
import Derived.OrdersHeld
import Derived.Deep.RegionHeld
import Derived.Laws.Tables
import Derived.Laws.Rows
import Derived.Deep.MidRow
import Derived.Great.BuildSlice
set_option linter.unusedSimpArgs false
set_option linter.unusedVariables false
namespace Go.Proofs.YthmcmkdncaccbaaDoor
open Go.RowKit

/-- the frame a, the slots ks holding vs -/
def fill (a : Act) : List Nat → List Value → Act
  | k :: ks, v :: vs => (fill a ks vs).put (some k) v
  | _, _ => a
def lookF : List Nat → List Value → Nat → Option Value
  | k :: ks, v :: vs, s => bif Nat.beq k s then some v else lookF ks vs s
  | _, _, _ => none
def updF : List Nat → List Value → Nat → Value → List Value
  | k :: ks, v :: vs, s, x => bif Nat.beq k s then x :: vs else v :: updF ks vs s x
  | _, vs, _, _ => vs
theorem fill_size (a : Act) : ∀ (ks : List Nat) (vs : List Value), (fill a ks vs).tmps.size = a.tmps.size
  | [], _ => by simp [fill]
  | _ :: _, [] => by simp [fill]
  | k :: ks, v :: vs => by simp [fill, Act.put, fill_size a ks vs]
theorem fill_get (a : Act) (s : Nat) : ∀ (ks : List Nat) (vs : List Value), (∀ k ∈ ks, k < a.tmps.size) → (fill a ks vs).tmps.getD s undef = (lookF ks vs s).getD (a.tmps.getD s undef)
  | [], _, _ => by simp [fill, lookF]
  | _ :: _, [], _ => by simp [fill, lookF]
  | k :: ks, v :: vs, h => by
    have ih := fill_get a s ks vs fun q hq => h q (List.mem_cons_of_mem _ hq)
    have hk : k < (fill a ks vs).tmps.size := by rw [fill_size]; exact h k List.mem_cons_self
    simp only [fill, lookF, Act.put]
    by_cases hks : k = s
    · subst hks
      rw [show Nat.beq k k = true from Nat.beq_refl k]
      simp [hk]
    · rw [show Nat.beq k s = false from by rw [Bool.eq_false_iff]; exact fun e => hks (Nat.eq_of_beq_eq_true e)]
      rw [cond_false, ← ih]
      simp [Array.getD_eq_getD_getElem?, Array.getElem?_setIfInBounds, hks]
theorem fill_put (a : Act) (s : Nat) (x : Value) : ∀ (ks : List Nat) (vs : List Value), vs.length = ks.length → s ∈ ks → (fill a ks vs).put (some s) x = fill a ks (updF ks vs s x)
  | [], _, _, h => by simp at h
  | _ :: _, [], hl, _ => by simp at hl
  | k :: ks, v :: vs, hl, h => by
    simp only [fill, updF]
    by_cases hks : k = s
    · subst hks
      rw [show Nat.beq k k = true from Nat.beq_refl k, cond_true]
      simp [fill, Act.put]
    · rw [show Nat.beq k s = false from by rw [Bool.eq_false_iff]; exact fun e => hks (Nat.eq_of_beq_eq_true e), cond_false]
      have h' : s ∈ ks := by
        rcases List.mem_cons.1 h with e | e
        · exact absurd e.symm hks
        · exact e
      have ih := fill_put a s x ks vs (by simpa using hl) h'
      simp only [fill]
      rw [← ih]
      simp only [Act.put]
      rw [Array.setIfInBounds_comm _ _ hks]
theorem fill_self (a : Act) : ∀ (ks : List Nat), a = fill a ks (ks.map fun k => a.tmps.getD k undef)
  | [] => rfl
  | k :: ks => by
    simp only [List.map_cons, fill]
    rw [← fill_self a ks]
    simp only [Act.put]
    rcases a with ⟨t, d⟩
    congr 1
    apply Array.ext_getElem?
    intro i
    rw [Array.getElem?_setIfInBounds]
    by_cases hik : k = i
    · subst hik
      rcases Nat.lt_or_ge k t.size with h | h
      · simp [h]
      · simp [Array.getElem?_eq_none h]; omega
    · simp [hik]
/-- what the frame tells of a slot -/
theorem fill_eval {a : Act} {ks : List Nat} {vs : List Value} {s : Nat} (hb : ∀ k ∈ ks, k < a.tmps.size) {v : Value} (h : (lookF ks vs s).getD (a.tmps.getD s undef) = v) : (fill a ks vs).eval (.tmp s) = v := (fill_get a s ks vs hb).trans h

theorem op_of {ops : Array Oper} {i : Nat} {x : Op} {d : Option Tmp} {g : Option (Nat × Bool)} (h : (ops[i]?).map (fun o => (o.op, o.dst, o.guard)) = some (x, d, g)) : ∃ o, ops[i]? = some o ∧ o.op = x ∧ o.dst = d ∧ o.guard = g := by
  cases h2 : ops[i]? with
  | none => rw [h2] at h; cases h
  | some o =>
    rw [h2] at h
    simp only [Option.map_some, Option.some.injEq, Prod.mk.injEq] at h
    exact ⟨o, rfl, h.1, h.2.1, h.2.2⟩
section
variable {P : Program} {ops : Array Oper} {Q : Exit → Act → World → Prop} {md : Region.Mode} {S : World → Prop}
/-- number i is taken first -/
theorem fill_take {i : Nat} {oi : Oper} {v : Value} {fuel s : Nat} {listed listed' : Array Bool} {a : Act} {ks : List Nat} {vs vs' : List Value} {w : World} (hi : ops[i]? = some oi)
    (hs : Region.noSelect ops = true) (hf : Region.free md ops listed i = true) (hr : (Region.ready md ops listed).contains i = true)
    (hQ : ∀ c a d v w, Q (.panic c) (a.put d v) w → Q (.panic c) a w) (hd : oi.dst = some s) (hy : YieldsIf P ops S oi v (fill a ks vs)) (hS : S w) (hl : vs.length = ks.length) (hks : s ∈ ks)
    (hu : updF ks vs s v = vs') (hli : listed.setIfInBounds i true = listed')
    (h : wpAnyH P md ops Q S fuel listed' (fill a ks vs') w) : wpAnyH P md ops Q S (fuel + 1) listed (fill a ks vs) w := by
  refine wpAnyH_take hi hs hf hr (fun c a w => hQ c a _ _ w) hy hS ?_
  rw [hd, fill_put a s v ks vs hl hks, hu, hli]
  exact h
/-- one of those that may come up -/
theorem fill_cons {fuel i : Nat} {listed : Array Bool} {a : Act} {w : World} {o : Oper} {rs : List Nat} (ho : ops[i]? = some o) (hg : o.guard = none)
    (h : Oper.wp P o a w (fun a' w' => S w' ∧ wpAnyH P md ops Q S fuel (listed.setIfInBounds i true) a' w') Q)
    (hs : AllReadyH P md ops Q S fuel listed a w rs) : AllReadyH P md ops Q S fuel listed a w (i :: rs) := fun j hj => by
  rcases List.mem_cons.1 hj with rfl | hj
  · refine wpOp_step ho fun K' hK => ?_
    rw [if_pos (by simp [Region.wanted, hg])]
    exact Oper.wp_mono (fun a w h => hK a w h) h
  · exact hs j hj
/-- behind an operation: the next state -/
theorem fill_next {i fuel s : Nat} {listed listed' : Array Bool} {a : Act} {ks : List Nat} {vs vs' : List Value} {w : World} {v : Value} {d : Option Nat} (hd : d = some s) (hl : vs.length = ks.length) (hks : s ∈ ks)
    (hu : updF ks vs s v = vs') (hli : listed.setIfInBounds i true = listed') (hS : S w) (h : wpAnyH P md ops Q S fuel listed' (fill a ks vs') w) :
    S w ∧ wpAnyH P md ops Q S fuel (listed.setIfInBounds i true) ((fill a ks vs).put d v) w := by
  rw [hd, fill_put a s v ks vs hl hks, hu, hli]
  exact ⟨hS, h⟩
theorem fill_next0 {i fuel : Nat} {listed listed' : Array Bool} {a : Act} {ks : List Nat} {vs : List Value} {w : World} {v : Value} {d : Option Nat} (hd : d = none) (hli : listed.setIfInBounds i true = listed') (hS : S w) (h : wpAnyH P md ops Q S fuel listed' (fill a ks vs) w) :
    S w ∧ wpAnyH P md ops Q S fuel (listed.setIfInBounds i true) ((fill a ks vs).put d v) w := by
  rw [hd, hli]
  exact ⟨hS, h⟩
/-- a slot's value handed on -/
theorem fill_move {o : Oper} {a : Act} {x : Operand} {v : Value} (hg : o.guard = none) (ho : o.op = .move x ∨ o.op = .assign x) (hx : a.eval x = v) : YieldsIf P ops S o v a := by
  refine .inl ⟨by simp [Region.wanted, hg], fun w _ => ?_⟩
  unfold execOp
  rcases ho with ho | ho <;> simp only [ho, hx] <;> rfl
theorem fill_extract {o : Oper} {a : Act} {x : Operand} {i : Nat} {l : Array Value} {v : Value} (hg : o.guard = none) (ho : o.op = .extract x i) (hx : a.eval x = .tuple l) (hv : l[i]? = some v) : YieldsIf P ops S o v a := by
  refine .inl ⟨by simp [Region.wanted, hg], fun w _ => ?_⟩
  unfold execOp
  simp only [ho, hx, Instr.extract, hv]
  rfl
/-- what runs to a value wherever S holds -/
theorem fill_run {o : Oper} {a : Act} {v : Value} (hg : o.guard = none) (h : ∀ w, S w → (execOp a.eval o).run P w = .ok (.value v) w) : YieldsIf P ops S o v a := .inl ⟨by simp [Region.wanted, hg], h⟩
theorem fill_load {o : Oper} {a : Act} (hg : o.guard = none) (ty : TypeId) (x : Operand) (ho : o.op = .load ty x)
    (g : Nat) {cs : List Value} (hx : a.eval x = .pointer (some ⟨g, 0, none⟩)) {T : TypeId} (hS : ∀ w, S w → w.heap[g]? = some (.cells cs.toArray T (0, 0))) {d : TypeDesc}
    (hu : P.underlying ty = some d) (hd : (match d with | .struct _ | .array _ _ => true | _ => false) = true) (hi : (P.info? ty).map (·.size) = some cs.length) : YieldsIf P ops S o (.agg cs.toArray) a :=
  fill_run hg fun w hw' => by
    unfold execOp
    simp only [ho, hx, Instr.loadAt, Instr.sureAddr, Sem.run_bind, Sem.run_pure, Result.andThen_ok, run_loadVar_row w g T ty cs.toArray (0, 0) d (hS w hw') hu hd (by simpa using hi)]
theorem fill_index {o : Oper} {a : Act} {t : TypeId} {x ix : Operand} {xv iv v : Value} (hg : o.guard = none) (ho : o.op = .indexAddr t x ix) (hx : a.eval x = xv) (hi : a.eval ix = iv) (hrun : ∀ w, (Instr.indexAt t xv iv).run P w = .ok v w) : YieldsIf P ops S o v a :=
  fill_run hg fun w _ => by
    unfold execOp
    simp only [ho, hx, hi, Sem.run_bind, hrun, Result.andThen_ok]
    rfl
theorem fill_loadM {o : Oper} {a : Act} (hg : o.guard = none) (ty : TypeId) (x : Operand) (ho : o.op = .load ty x)
    (b i : Nat) (cs : List Value) (hx : a.eval x = .pointer (some ⟨b, i, none⟩)) (hS : ∀ w, S w → w.rangeAt b i cs) {d : TypeDesc}
    (hu : P.underlying ty = some d) (hd : d.isRow = true) (hi : (P.info? ty).map (·.size) = some cs.length) : YieldsIf P ops S o (.agg cs.toArray) a :=
  fill_run hg fun w hw' => by
    unfold execOp
    simp only [ho, hx, run_loadAt_mid w b i ty cs d (hS w hw') hu hd hi, Sem.run_bind, Result.andThen_ok]
    rfl
end

/-- a call of a function of the program -/
theorem wp_calls {P : Program} {o : Oper} {a : Act} {w : World} {K : Act → World → Prop} {Q : Exit → Act → World → Prop} {f : FuncId} {args : Array Operand} {ats : Array TypeId} {vals : Array Value} {R : Ending → World → Prop}
    (ho : o.op = .call { callee := .value (.func f), args := args, argTypes := ats }) (hx : args.map a.eval = vals) (hrun : ∀ w, (callFunc f vals).run P w = .ok (.enter f vals) w) (hc : Calls P f vals w R)
    (h : ∀ e w', R e w' → ∃ v, e = .returned v ∧ K (a.put o.dst v) w') : o.wp P a w K Q := by
  unfold Oper.wp execOp
  have e0 : a.eval (.func f) = .func (.func f) #[] #[] := rfl
  simp only [ho, resolve, hx, e0, Deferred.ofValue, invoke, Sem.run_bind, Sem.run_pure, Result.andThen_ok, Array.empty_append, Array.append_empty, hrun]
  rw [Oper.upon_enter]
  refine hc.mono fun e w' hR => ?_
  obtain ⟨v, rfl, hk⟩ := h e w' hR
  exact hk
/-- a variable is made -/
theorem wp_allocF {P : Program} {o : Oper} {a : Act} {w : World} {K : Act → World → Prop} {Q : Exit → Act → World → Prop} (T : TypeId) (ho : o.op = .alloc T) {cs : Array Value} (hrun : ∀ w, (Instr.alloc T true (.tuple #[])).run P w = .ok (.pointer (some ⟨w.heap.size, 0, none⟩)) (w.alloc (.cells cs T)))
    (h : K (a.put o.dst (.pointer (some ⟨w.heap.size, 0, none⟩))) (w.alloc (.cells cs T))) : o.wp P a w K Q := by
  unfold Oper.wp execOp
  simp only [ho, Sem.run_bind, hrun, Result.andThen_ok]
  exact h
/-- a slice is built -/
theorem wp_buildF {P : Program} {o : Oper} {a : Act} {w : World} {K : Act → World → Prop} {Q : Exit → Act → World → Prop} (T e : TypeId) (n : Nat) (parts : Array (Nat × Operand)) (ho : o.op = .buildSlice T n parts) {ps : Array (Nat × Value)} (hp : (parts.map fun (i, x) => (i, a.eval x)) = ps) {cs : Array Value}
    (hrun : ∀ w, (Instr.buildSlice T n ps).run P w = .ok (.slice (some ⟨w.heap.size, 0, none⟩) n n) (w.alloc (.cells cs e)))
    (h : K (a.put o.dst (.slice (some ⟨w.heap.size, 0, none⟩) n n)) (w.alloc (.cells cs e))) : o.wp P a w K Q := by
  unfold Oper.wp execOp
  simp only [ho, Sem.run_bind, hp, hrun, Result.andThen_ok]
  exact h
/-- the n-th region of a code -/
def findRegion (n : Nat) : Code → Option Code
  | .region id ops b => if id = n then some (.region id ops b) else none
  | .seq a b => match findRegion n a with
    | some c => some c
    | none => findRegion n b
  | .block _ c => findRegion n c
  | .scope c => findRegion n c
  | .loop c => findRegion n c
  | .cond _ a b => match findRegion n a with
    | some c => some c
    | none => findRegion n b
  | _ => none
end Go.Proofs.YthmcmkdncaccbaaDoor
