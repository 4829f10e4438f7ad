/- append, make, string conversions on slices of the call's own. No program in sight. -/
import Derived.Test.YthmcmkdncaccbaaDoorMem
set_option linter.unusedSimpArgs false
set_option linter.unusedVariables false
namespace Go.Proofs.YthmcmkdncaccbaaDoor
open Go.RowKit

/-- what the table says of a slice type and its element -/
structure ElemT (P : Program) (t e : TypeId) (size bytes : Nat) (z : Value) : Prop where
  slice : P.underlying t = some (.slice e)
  info : ∃ i, P.info? e = some i ∧ i.zero = some z ∧ i.size = size ∧ i.bytes = bytes
  zs : z.cells.size = size
  pos : 0 < size

theorem ElemT.mk1 {P : Program} {t e : TypeId} {size bytes : Nat} {z : Value} (hs : P.underlying t = some (.slice e)) (hi : (P.info? e).map (fun i => (i.zero, i.size, i.bytes)) = some (some z, size, bytes)) (hz : z.cells.size = size) (hp : 0 < size) : ElemT P t e size bytes z := by
  obtain ⟨i, h1, h2, h3, h4⟩ := info_parts hi
  exact ⟨hs, ⟨i, h1, h2, h3, h4⟩, hz, hp⟩

theorem own_slice {w : World} {base : Nat} {e : TypeId} {size n : Nat} {v : Value} {xs : List Value} (h : w.ownsRow base e size v n xs) : ∃ a cap, v = .slice a n cap ∧ n ≤ cap ∧ cap ≤ maxLen := by
  rcases h.2 with ⟨rfl, rfl⟩ | ⟨g, cap, cur, rfl, _, _, h1, h2, _⟩
  · exact ⟨none, 0, rfl, Nat.le_refl _, Nat.zero_le _⟩
  · exact ⟨_, cap, rfl, h1, h2⟩

theorem own_at {w : World} {base : Nat} {e : TypeId} {size n cap : Nat} {a : Option Addr} {xs : List Value} (h : w.ownsRow base e size (.slice a n cap) n xs) : At w a xs := by
  rcases h.2 with ⟨hv, hn⟩ | ⟨g, cap', cur, hv, hb, hg, h1, h2, h3, h4⟩
  · subst hn; exact .inl (List.eq_nil_of_length_eq_zero (by simpa using h.1))
  · cases hv
    refine .inr ⟨g, 0, rfl, (Array.getElem?_eq_some_iff.1 hg).1, fun i hi => ?_⟩
    rw [Nat.zero_add]
    have hx : xs[i]? = some (xs[i]) := List.getElem?_eq_getElem hi
    have := h.cells (g := g) rfl i _ hx
    have hadd : (⟨g, 0, none⟩ : Addr).add i = ⟨g, i, none⟩ := by unfold Addr.add; split <;> simp_all
    rw [hadd] at this
    rw [this]; simp [List.getD, hi]

theorem run_app {P : Program} {t e : TypeId} {size bytes : Nat} {z : Value} (E : ElemT P t e size bytes z) {w : World} {base n : Nat} {v : Value} {xs : List Value} (hown : w.ownsRow base e size v n xs)
    {sp : Option Addr} {m : Nat} (c : Nat) {news : List Value} (hS : At w sp news) (hl : news.length = m * size) (h1 : ∀ u ∈ news, u.oneCell' = true) (h63 : n + m ≤ maxLen) (hbytes : (n + m) * bytes ≤ 140737488355328) (hbase : base ≤ w.heap.size) (ty : TypeId) :
    ∃ a' cap' w', (Builtin.append_ #[t, t] ty #[v, .slice sp m c]).run P w = .ok (.slice a' (n + m) cap') w' ∧ w'.ownsRow base e size (.slice a' (n + m) cap') (n + m) (xs ++ news) ∧ w.grownBy w' v.ownBlock := by
  obtain ⟨i, hi, hz, hsz, hby⟩ := E.info
  by_cases h0 : m = 0
  · subst h0
    have hn : news = [] := List.eq_nil_of_length_eq_zero (by simpa using hl)
    subst hn
    obtain ⟨a, cap, rfl, hnc, -⟩ := own_slice hown
    refine ⟨a, cap, w, ?_, by simpa using hown, ⟨rfl, rfl, rfl, Nat.le_refl _, fun _ _ _ => rfl⟩⟩
    have hf : ∀ x : Addr, (loadCells x 0).run P w = .ok #[] w := fun x => by simpa using run_loadCells_list (P := P) w x [] (by simp)
    cases a <;> cases sp <;> simp [Builtin.append_, run_underlying E.slice, sizeOf, typeInfo, hi, Builtin.lenOf, Builtin.firstCells, hnc, hf, storeCells]
  · rcases hS with rfl | ⟨b, off, rfl, hlt, hc⟩
    · have := Nat.mul_pos (by omega : 0 < m) E.pos; rw [← hl] at this; simp at this
    · obtain ⟨v', w', hr, ho, hg, -⟩ := run_append_own (P := P) w base t ty e i z size bytes E.slice hi hz hsz hby E.zs E.pos v n xs hown ⟨b, off, none⟩ m c news hl (fun j u hj => by
        have hjl : j < news.length := by
          rcases Nat.lt_or_ge j news.length with h | h
          · exact h
          · rw [List.getElem?_eq_none h] at hj; cases hj
        rw [WideShapes.add_plain, hc j hjl]; simp [List.getD, hj]) h1 h63 hbytes hbase
      obtain ⟨a', cap', rfl, -, -⟩ := own_slice ho
      exact ⟨a', cap', w', hr, ho, hg⟩

theorem wpList_app {P : Program} {ops : Array Oper} {rest : List Oper} {o : Oper} {a : Act} {w : World} {Q : Exit → Act → World → Prop} (s x : Operand) (t : TypeId) {e : TypeId} {size bytes : Nat} {z : Value} (hgd : o.guard = none)
    (ho : o.op = .call { callee := .builtin .append, args := #[s, x], argTypes := #[t, t] }) (E : ElemT P t e size bytes z) {base n : Nat} {v : Value} {xs : List Value} (hs : a.eval s = v) (hown : w.ownsRow base e size v n xs)
    {sp : Option Addr} {m c : Nat} {news : List Value} (hx : a.eval x = .slice sp m c) (hS : At w sp news) (hl : news.length = m * size) (h1 : ∀ u ∈ news, u.oneCell' = true) (h63 : n + m ≤ maxLen) (hbytes : (n + m) * bytes ≤ 140737488355328) (hbase : base ≤ w.heap.size)
    (h : ∀ a' cap' w', w'.ownsRow base e size (.slice a' (n + m) cap') (n + m) (xs ++ news) → w.grownBy w' v.ownBlock → wpList P ops Q rest (a.put o.dst (.slice a' (n + m) cap')) w') : wpList P ops Q (o :: rest) a w := by
  refine wpList_plain hgd fun K hK => ?_
  obtain ⟨a', cap', w', hr, h2, h3⟩ := run_app E hown c hS hl h1 h63 hbytes hbase o.type
  unfold Oper.wp execOp
  simp only [ho, resolve, List.map_toArray, List.map_cons, List.map_nil, hs, hx, invoke, builtin, Sem.run_bind, Sem.run_pure, Result.andThen_ok, hr]
  exact hK _ _ (h a' cap' w' h2 h3)

theorem below_own {B : Nat} {w0 w w' : World} {e : TypeId} {size n : Nat} {v : Value} {xs : List Value} {base : Nat} (h : Below B w0 w) (hown : w.ownsRow base e size v n xs) (hg : w.grownBy w' v.ownBlock) (hB : B ≤ w.heap.size) (hb : B ≤ base) : Below B w0 w' :=
  h.grown hg hB (fun k hk => Nat.le_trans hb (hown.lt k hk).1)

theorem run_mk {P : Program} {t e : TypeId} {bytes : Nat} {z : Value} (E : ElemT P t e 1 bytes z) (w : World) (k k' : IntKind) (n : Nat) (hb : bytes * n ≤ 281474976710656) (hm : n ≤ maxLen) (h1 : z.oneCell' = true) :
    (Instr.makeSlice t (.int k n) (.int k' n)).run P w = .ok (.slice (some ⟨w.heap.size, 0, none⟩) n n) (w.alloc (.cells (List.replicate n z).toArray e)) := by
  obtain ⟨i, hi, hz, hsz, hby⟩ := E.info
  unfold maxLen at hm
  have := run_make (P := P) w t e i z E.slice hi hz k k' n n (by omega) (by omega) (by rw [hby, ← Int.natCast_mul]; omega) (by omega)
  rw [this]
  simp only [Int.toNat_natCast, hsz, Nat.mul_one]
  congr 3
  have hc : z.cells = #[z] := by cases z <;> first | rfl | cases h1
  rw [hc]
  apply Array.ext
  · simp [madeCells]
  · intro j h1 h2
    simp [madeCells, Nat.mod_one]
end Go.Proofs.YthmcmkdncaccbaaDoor
