/- Walk of phase.kind. -/
import Derived.Test.YtekidelgopciaaaProg
import Derived.WalkKit
import Derived.WalkSpells
import Derived.Lib.Hide
set_option linter.unusedSimpArgs false
set_option linter.unusedVariables false
namespace Go.Proofs.Ytekidelgopciaaa
open Go.RowKit

theorem heap_alloc_last (w : World) (o : Obj) : (w.alloc o).heap[w.heap.size]? = some o := by
  simp only [World.alloc, Array.getElem?_push, if_true]

theorem run_checkKey_int {P : Program} {K : TypeId} {q : IntKind} (hK : P.underlying K = some (.int q)) (w : World) (em : Bool) (k : Int) : Sem.run P (Instr.checkKey em 10000 K (.int q k)) w = .ok () w := by
  have h : ∀ n, Sem.run P (Instr.checkKey em (n + 1) K (.int q k)) w = .ok () w := fun n => by
    unfold Instr.checkKey
    simp [underlying, hK]
  exact h 9999

theorem run_findKey_int {P : Program} {K : TypeId} {q : IntKind} (hK : P.underlying K = some (.int q)) (w : World) (k : Int) (es : List MapEntry) (r : Option (Nat × Value)) (hn : Instr.findNow (.int q) (.int q k) es 0 = some r) : Sem.run P (Instr.findKey K (.int q k) es) w = .ok r w := by
  simp [Instr.findKey, underlying, go_sem, hK, hn]

theorem run_getObj_alloc {P : Program} (w : World) (es : Array MapEntry) (c : Nat) : Sem.run P (getObj w.heap.size) (w.alloc (.map es c)) = .ok (.map es c) (w.alloc (.map es c)) := by
  simp only [getObj, Sem.run, heap_alloc_last]

theorem run_setObj_alloc {P : Program} (w : World) (es : Array MapEntry) (c : Nat) (o : Obj) : Sem.run P (setObj w.heap.size o) (w.alloc (.map es c)) = .ok () (w.alloc o) := by
  simp only [setObj, Sem.run, heap_alloc_last]
  simp only [World.alloc]
  congr 2
  apply Array.ext_getElem?
  intro i
  simp only [Array.getElem?_setIfInBounds, Array.getElem?_push]
  split
  · rename_i h; subst h; simp
  · rename_i h; rw [if_neg (Ne.symm h), if_neg (Ne.symm h)]


/-- the entries hold integer keys, none of them k -/
def noKey (k : Int) : List MapEntry → Bool
  | [] => true
  | e :: l => (match e.key with | .int .i64 a => !(k == a) | _ => false) && noKey k l

theorem findNow_noKey (k : Int) : ∀ (l : List MapEntry) (i : Nat), noKey k l = true → Instr.findNow (.int .i64) (.int .i64 k) l i = some none
  | [], _, _ => rfl
  | e :: l, i, h => by
    unfold noKey at h
    rw [Bool.and_eq_true] at h
    obtain ⟨h1, h2⟩ := h
    unfold Instr.findNow
    split at h1
    · rename_i a ha
      rw [ha]
      have : (k == a) = false := by simpa using h1
      simp only [Instr.sameNow, this, if_true]
      exact findNow_noKey k l (i + 1) h2
    · cases h1

theorem run_mapUpdate_new {P : Program} {T K E : TypeId} (hT : P.underlying T = some (.map K E)) (hK : P.underlying K = some (.int .i64))
    (w : World) (es : Array MapEntry) (c : Nat) (k v : Int) (hn : noKey k es.toList = true) :
    Sem.run P (Instr.mapUpdate T (.map (some w.heap.size)) (.int .i64 k) (.int .i64 v)) (w.alloc (.map es c)) =
      .ok () (w.alloc (.map (es.push { key := .int .i64 k, val := .int .i64 v, born := c }) (c + 1))) := by
  simp [Instr.mapUpdate, underlying, run_checkKey_int hK, run_findKey_int hK _ _ _ _ (findNow_noKey _ _ _ hn), run_getObj_alloc, run_setObj_alloc, hT, go_sem]


theorem run_mapUpdate_first {P : Program} {T K E : TypeId} (hT : P.underlying T = some (.map K E)) (hK : P.underlying K = some (.int .i64))
    (w : World) (k v : Int) :
    Sem.run P (Instr.mapUpdate T (.map (some w.heap.size)) (.int .i64 k) (.int .i64 v)) (w.alloc (.map #[] 0)) =
      .ok () (w.alloc (.map #[{ key := .int .i64 k, val := .int .i64 v, born := 0 }] 1)) :=
  run_mapUpdate_new hT hK w #[] 0 k v rfl


def lookL (k : Int) : List (Int × Int) → Option Int
  | [] => none
  | (a, b) :: l => if k = a then some b else lookL k l

def entL : List (Int × Int) → Nat → List MapEntry
  | [], _ => []
  | (a, b) :: l, n => ⟨.int .i64 a, .int .i64 b, n⟩ :: entL l (n + 1)

theorem findNow_entL (k : Int) : ∀ (l : List (Int × Int)) (n i : Nat), ∃ r, Instr.findNow (.int .i64) (.int .i64 k) (entL l n) i = some r ∧ (r.map (·.2)) = (lookL k l).map (Value.int .i64)
  | [], _, _ => ⟨none, rfl, rfl⟩
  | (a, b) :: l, n, i => by
    unfold entL Instr.findNow lookL
    by_cases h : k = a
    · exact ⟨some (i, .int .i64 b), by simp [Instr.sameNow, h], by simp [h]⟩
    · have hb : (k == a) = false := by simpa using h
      simp only [Instr.sameNow, if_true, hb, if_neg h]
      exact findNow_entL k l (n + 1) (i + 1)

theorem run_lookup_entL {P : Program} {T K E : TypeId} (hT : P.underlying T = some (.map K E)) (hK : P.underlying K = some (.int .i64)) (hE : ∀ w, (zeroValue E).run P w = .ok (.int .i64 0) w)
    (w : World) (l : List (Int × Int)) (n c : Nat) (k : Int) :
    Sem.run P (Instr.lookup T (.map (some w.heap.size)) (.int .i64 k) true) (w.alloc (.map (entL l n).toArray c)) = .ok (.tuple #[.int .i64 ((lookL k l).getD 0), .bool (lookL k l).isSome]) (w.alloc (.map (entL l n).toArray c)) := by
  obtain ⟨r, h1, h2⟩ := findNow_entL k l n 0
  have hf := fun W => run_findKey_int (P := P) hK W k (entL l n) r h1
  cases r with
  | none =>
    have : lookL k l = none := by simpa using h2.symm
    simp [Instr.lookup, underlying, run_checkKey_int hK, hf, run_getObj_alloc, hT, hE, go_sem, this]
  | some r =>
    obtain ⟨i, v⟩ := r
    obtain ⟨x, hx, rfl⟩ : ∃ x, lookL k l = some x ∧ v = .int .i64 x := by
      cases hl : lookL k l with
      | none => rw [hl] at h2; cases h2
      | some x => rw [hl] at h2; exact ⟨x, rfl, by simpa using h2⟩
    simp [Instr.lookup, underlying, run_checkKey_int hK, hf, run_getObj_alloc, hT, go_sem, hx]

theorem run_lookup_nil {P : Program} {T K E : TypeId} (hT : P.underlying T = some (.map K E)) (hK : P.underlying K = some (.int .i64)) (hE : ∀ w, (zeroValue E).run P w = .ok (.int .i64 0) w)
    (w : World) (k : Int) :
    Sem.run P (Instr.lookup T (.map none) (.int .i64 k) true) w = .ok (.tuple #[.int .i64 0, .bool false]) w := by
  simp [Instr.lookup, underlying, run_checkKey_int hK, run_findKey_int hK _ _ _ _ (rfl : Instr.findNow (.int .i64) (.int .i64 k) [] 0 = some none), hT, hE, go_sem]

def rowsL (k : Int) : List (Int × Int) :=
  if k = 1 then [(1, 3), (4, 0), (9, 0)] else if k = 2 then [(3, 3), (4, 0)] else if k = 3 then [(4, 6), (5, 0), (6, 4), (7, 5), (9, 0)]
  else if k = 4 then [(4, 6), (5, 0), (8, 3), (9, 3)] else if k = 5 then [(5, 0), (9, 0)] else []

attribute [local go_sem] noKey
set_option maxHeartbeats 400000 in
theorem rows_some (k : Int) (h : 1 ≤ k ∧ k ≤ 5) (w : World) :
    Calls Try.prog 21 #[.int .i64 k] w fun e w' => e = .returned (.map (some w.heap.size)) ∧ w' = w.alloc (.map (entL (rowsL k) 0).toArray (rowsL k).length) := by
  have hmm := @run_makeMap Try.prog
  have hup := @run_mapUpdate_new Try.prog 34 3 3 Try.underlying34 Try.underlying3
  have hup1 := @run_mapUpdate_first Try.prog 34 3 3 Try.underlying34 Try.underlying3
  have : k = 1 ∨ k = 2 ∨ k = 3 ∨ k = 4 ∨ k = 5 := by omega
  rcases this with rfl | rfl | rfl | rfl | rfl
  all_goals
    clear h
    go_enter Try.func21, Try.ntmps21
    go_wp2
    go_ret
    exact ⟨rfl, rfl⟩

set_option maxHeartbeats 400000 in
theorem rows_none (k : Int) (h : ¬ (1 ≤ k ∧ k ≤ 5)) (w : World) :
    Calls Try.prog 21 #[.int .i64 k] w fun e w' => e = .returned (.map none) ∧ w = w' := by
  have h1 : (k == 1) = false := by simp; omega
  have h2 : (k == 2) = false := by simp; omega
  have h3 : (k == 3) = false := by simp; omega
  have h4 : (k == 4) = false := by simp; omega
  have h5 : (k == 5) = false := by simp; omega
  clear h
  go_enter Try.func21, Try.ntmps21
  go_wp2
  go_ret
  exact ⟨rfl, rfl⟩

def kindF (p : Int) : Int := if p = 0 then 0 else if p = 1 then 1 else if p = 2 then 2 else if p = 3 then 3 else if p = 4 then 4 else if p = 5 then 4 else if p = 6 then 5 else -1

set_option maxHeartbeats 400000 in
theorem kind_any (p : Int) (w : World) :
    Calls Try.prog 20 #[.int .i64 p] w fun e w' => e = .returned (.int .i64 (kindF p)) ∧ w = w' := by
  go_enter Try.func20, Try.ntmps20
  go_wp2
  all_goals
    go_ret
    simp_all [kindF]

def hit (k v : Int) : Bool := (lookL v (rowsL k)).isSome
def got (k v : Int) : Int := (lookL v (rowsL k)).getD 0
def nextG (k p v : Int) : Int × Bool :=
  if p = 8 ∧ v = 11 then (0, true) else if p = 8 ∧ v = 12 then (7, true) else if v = 10 ∧ (0 ≤ k ∨ p = 7) then (8, true)
  else if v = 0 ∧ 0 ≤ k then (1, true) else if v = 2 ∧ 0 ≤ k then (2, true)
  else if hit k v = true then (got k v, true) else (p, false)
def nextF (p v : Int) : Int × Bool := nextG (kindF p) p v
def rowsObj (k : Int) : Obj := .map (entL (rowsL k) 0).toArray (rowsL k).length
theorem rows_obj (k : Int) (h : 1 ≤ k ∧ k ≤ 5) (w : World) :
    Calls Try.prog 21 #[.int .i64 k] w fun e w' => e = .returned (.map (some w.heap.size)) ∧ w' = w.alloc (rowsObj k) := rows_some k h w
theorem hit_none (k v : Int) (h : ¬ (1 ≤ k ∧ k ≤ 5)) : hit k v = false := by
  unfold hit rowsL
  rw [if_neg (by omega), if_neg (by omega), if_neg (by omega), if_neg (by omega), if_neg (by omega)]; rfl

set_option maxHeartbeats 1000000 in
theorem next_core (p v k : Int) (hp : Hid (kindF p = k)) (w : World) :
    Calls Try.prog 10 #[.int .i64 p, .int .i64 v] w fun e w' => e = .returned (.tuple #[.int .i64 (nextG k p v).1, .bool (nextG k p v).2]) ∧ Below w.heap.size w w' := by
  have hz : ∀ w, (zeroValue 3).run Try.prog w = .ok (.int .i64 0) w := fun w => by kernel_rfl
  by_cases hk : 1 ≤ k ∧ k ≤ 5
  · have hlk : ∀ (w : World) (k v : Int), Sem.run Try.prog (Instr.lookup 34 (.map (some w.heap.size)) (.int .i64 v) true) (w.alloc (rowsObj k)) = .ok (.tuple #[.int .i64 (got k v), .bool (hit k v)]) (w.alloc (rowsObj k)) :=
      fun w k v => run_lookup_entL Try.underlying34 Try.underlying3 hz w (rowsL k) 0 (rowsL k).length v
    clear hz
    go_enter Try.func10, Try.ntmps10
    go_wp2_with fail
    refine (kind_any _ _).mono ?_; rintro e w' ⟨rfl, rfl⟩
    rw [hp.out]
    clear hp
    go_wp2_with fail
    all_goals try (refine (rows_obj _ hk _).mono ?_; rintro e w' ⟨rfl, rfl⟩; go_wp2_with fail)
    all_goals
      go_ret2
      exact ⟨by simp_all [nextG] <;> first | omega | (rw [if_neg (by omega)]; done) | (rw [if_neg (by omega)]; simp), by first | exact Below.refl _ _ | exact (Below.refl _ _).alloc (Nat.le_refl _) _⟩
  · have hln := @run_lookup_nil Try.prog 34 3 3 Try.underlying34 Try.underlying3 hz
    have hh := hit_none k v hk
    clear hz
    go_enter Try.func10, Try.ntmps10
    go_wp2_with fail
    refine (kind_any _ _).mono ?_; rintro e w' ⟨rfl, rfl⟩
    rw [hp.out]
    clear hp
    go_wp2_with fail
    all_goals try (refine (rows_none _ hk _).mono ?_; rintro e w' ⟨rfl, rfl⟩; go_wp2_with fail)
    all_goals
      go_ret2
      exact ⟨by simp_all [nextG] <;> first | omega | (rw [if_neg (by omega)]; done) | (rw [if_neg (by omega)]; simp), by first | exact Below.refl _ _ | exact (Below.refl _ _).alloc (Nat.le_refl _) _⟩
theorem next_any (p v : Int) (w : World) :
    Calls Try.prog 10 #[.int .i64 p, .int .i64 v] w fun e w' => e = .returned (.tuple #[.int .i64 (nextF p v).1, .bool (nextF p v).2]) ∧ Below w.heap.size w w' :=
  next_core p v _ rfl w
end Go.Proofs.Ytekidelgopciaaa
