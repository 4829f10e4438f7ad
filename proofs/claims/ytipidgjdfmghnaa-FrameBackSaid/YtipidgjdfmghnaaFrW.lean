/- Frames: how long rows are; bytes that grow beside others. -/
import Derived.Test.YtipidgjdfmghnaaFrK
import Derived.Maps.AppendAt
set_option linter.unusedSimpArgs false
set_option linter.unusedVariables false
namespace Go.Proofs.Ytipidgjdfmghnaa
open Go.RowKit

theorem run_sep {P : Program} {t e : TypeId} {size bytes : Nat} {z : Value} (E : ElemT P t e size bytes z) {w : World} {base n : Nat} {v : Value} {xs : List Value} (hown : w.ownsRow base e size v n xs)
    {sp : Option Addr} {m : Nat} (c : Nat) {news : List Value} (hS : At w sp news) (hl : news.length = m * size) (h1 : ∀ u ∈ news, u.oneCell' = true) (h63 : n + m ≤ maxLen) (hbytes : (n + m) * bytes ≤ 140737488355328) (hbase : base ≤ w.heap.size) (ty : TypeId) :
    ∃ a' cap' w', (Builtin.append_ #[t, t] ty #[v, .slice sp m c]).run P w = .ok (.slice a' (n + m) cap') w' ∧ w'.ownsRow base e size (.slice a' (n + m) cap') (n + m) (xs ++ news) ∧ w.grownBy w' v.ownBlock ∧
      (Value.ownBlock (.slice a' (n + m) cap') = v.ownBlock ∨ Value.ownBlock (.slice a' (n + m) cap') = some w.heap.size) := by
  obtain ⟨i, hi, hz, hsz, hby⟩ := E.info
  by_cases h0 : m = 0
  · subst h0
    have hn : news = [] := List.eq_nil_of_length_eq_zero (by simpa using hl)
    subst hn
    obtain ⟨a, cap, rfl, hnc, -⟩ := own_slice hown
    refine ⟨a, cap, w, ?_, by simpa using hown, ⟨rfl, rfl, rfl, Nat.le_refl _, fun _ _ _ => rfl⟩, .inl (by cases a <;> rfl)⟩
    have hf : ∀ x : Addr, (loadCells x 0).run P w = .ok #[] w := fun x => by simpa using run_loadCells_list (P := P) w x [] (by simp)
    cases a <;> cases sp <;> simp [Builtin.append_, run_underlying E.slice, sizeOf, typeInfo, hi, Builtin.lenOf, Builtin.firstCells, hnc, hf, storeCells]
  · rcases hS with rfl | ⟨b, off, rfl, hlt, hc⟩
    · have := Nat.mul_pos (by omega : 0 < m) E.pos; rw [← hl] at this; simp at this
    · obtain ⟨v', w', hr, ho, hg, -, hat⟩ := run_append_own_at (P := P) w base t ty e i z size bytes E.slice hi hz hsz hby E.zs E.pos v n xs hown ⟨b, off, none⟩ m c news hl (fun j u hj => by
        have hjl : j < news.length := by
          rcases Nat.lt_or_ge j news.length with h | h
          · exact h
          · rw [List.getElem?_eq_none h] at hj; cases hj
        rw [WideShapes.add_plain, hc j hjl]; simp [List.getD, hj]) h1 h63 hbytes hbase
      obtain ⟨a', cap', rfl, -, -⟩ := own_slice ho
      exact ⟨a', cap', w', hr, ho, hg, hat⟩
/-- bytes of the call's own -/
structure OwnB (B : Nat) (w : World) (v : Value) (n : Nat) (xs : List Value) : Prop where
  own : w.ownsRow B 5 1 v n xs
  le : B ≤ w.heap.size
theorem OwnB.up {B : Nat} {w w' : World} {v : Value} {n : Nat} {xs : List Value} (h : OwnB B w v n xs) (hb : Below w.heap.size w w') : OwnB B w' v n xs := by
  obtain ⟨⟨h1, h2⟩, h3⟩ := h
  refine ⟨⟨h1, ?_⟩, Nat.le_trans h3 hb.size⟩
  rcases h2 with h2 | ⟨g, cap, cur, hv, hg, hh, r⟩
  · exact .inl h2
  · exact .inr ⟨g, cap, cur, hv, hg, by rw [hb.block g (Array.getElem?_eq_some_iff.1 hh).1]; exact hh, r⟩
theorem OwnB.safe {B C : Nat} {w w' : World} {v : Value} {n : Nat} {xs : List Value} (h : OwnB B w v n xs) (k : Safe C w w') : OwnB B w' v n xs := by
  obtain ⟨⟨h1, h2⟩, h3⟩ := h
  refine ⟨⟨h1, ?_⟩, Nat.le_trans h3 k.size⟩
  rcases h2 with h2 | ⟨g, cap, cur, hv, hg, hh, r⟩
  · exact .inl h2
  · exact .inr ⟨g, cap, cur, hv, hg, by rw [k.block g (Array.getElem?_eq_some_iff.1 hh).1 (.inr ⟨_, _, hh⟩)]; exact hh, r⟩
theorem OwnB.at {B : Nat} {w : World} {a : Option Addr} {n cap : Nat} {xs : List Value} (h : OwnB B w (.slice a n cap) n xs) : At w a xs := own_at h.own
theorem OwnB.lt {B : Nat} {w : World} {v : Value} {n : Nat} {xs : List Value} (h : OwnB B w v n xs) {k : Nat} (hk : v.ownBlock = some k) : B ≤ k ∧ k < w.heap.size := h.own.lt k hk
/-- what lies below B or in bytes, and not in v's own block -/
abbrev KeepS (v : Value) (B : Nat) (w : World) (a : Option Addr) (cs : List Value) : Prop := AtP (fun b => (b < B ∨ Ty5 w b) ∧ some b ≠ v.ownBlock) w a cs
theorem KeepS.safe {v : Value} {B : Nat} {w w' : World} {a : Option Addr} {cs : List Value} (h : KeepS v B w a cs) (k : Safe B w w') : KeepS v B w' a cs :=
  AtP.to h k.size fun b hb hp => by
    have e := k.block b hb hp.1
    refine ⟨e, ?_, hp.2⟩
    rcases hp.1 with hp | hp
    · exact .inl hp
    · obtain ⟨cur, fr, hp⟩ := hp; exact .inr ⟨cur, fr, by rw [e]; exact hp⟩
theorem KeepS.grown {v v' : Value} {B : Nat} {w w' : World} {a : Option Addr} {cs : List Value} (h : KeepS v B w a cs) (hg : w.grownBy w' v.ownBlock) (hat : v'.ownBlock = v.ownBlock ∨ v'.ownBlock = some w.heap.size) : KeepS v' B w' a cs :=
  AtP.to h hg.size fun b hb hp => by
    have e := hg.block b hb hp.2
    refine ⟨e, ?_, ?_⟩
    · rcases hp.1 with hp | hp
      · exact .inl hp
      · obtain ⟨cur, fr, hp⟩ := hp; exact .inr ⟨cur, fr, by rw [e]; exact hp⟩
    · rcases hat with hat | hat
      · rw [hat]; exact hp.2
      · rw [hat]; intro h; injection h with h; omega
theorem KeepS.of_fresh {v : Value} {B C lo n : Nat} {w w0 : World} {a : Option Addr} {cs xs : List Value} (h : FreshK lo w a cs) (ho : OwnB C w0 v n xs) (hlo : w0.heap.size ≤ lo) : KeepS v B w a cs :=
  AtP.to h (Nat.le_refl _) fun b hb hp => ⟨rfl, .inr hp.2, fun hv => by have := (ho.lt hv.symm).2; omega⟩
theorem KeepS.of_old {v : Value} {B C n : Nat} {w w0 : World} {a : Option Addr} {cs xs : List Value} (h : At w0 a cs) (hb : Below w0.heap.size w0 w) (ho : OwnB C w v n xs) (hB : w0.heap.size ≤ B) (hC : w0.heap.size ≤ C) : KeepS v B w a cs :=
  AtP.to (AtP.of (p := fun _ => True) h fun _ _ => trivial) hb.size fun b hlt _ => ⟨hb.block b hlt, .inl (by omega), fun hv => by have := (ho.lt hv.symm).1; omega⟩
theorem BlkT.grownB {T : TypeId} {B n b : Nat} {w w' : World} {v : Value} {xs cs : List Value} (h : BlkT T w b cs) (hT : T ≠ 5) (hown : OwnB B w v n xs) (hg : w.grownBy w' v.ownBlock) : BlkT T w' b cs := by
  unfold BlkT
  rw [hg.block b h.blk.lt fun hv => ?_]
  · exact h
  · rcases hown.own.2 with ⟨rfl, -⟩ | ⟨g, cap, cur, rfl, -, hg', -⟩
    · simp [Value.ownBlock] at hv
    · simp [Value.ownBlock] at hv
      subst hv
      rw [show w.heap[b]? = _ from h] at hg'
      injection hg' with hg'; injection hg' with _ k2 _; exact hT k2
theorem Own.grownB {B C n m : Nat} {w w' : World} {u v : Value} {xs ys : List Value} (h : Own B w u m ys) (hown : OwnB C w v n xs) (hg : w.grownBy w' v.ownBlock) : Own B w' u m ys := by
  refine ⟨h.own.kept hg ?_, Nat.le_trans h.le hg.size⟩
  rcases h.own.2 with ⟨rfl, -⟩ | ⟨g, cap, cur, rfl, -, hg1, -⟩
  · exact .inl rfl
  · right
    rcases hown.own.2 with ⟨rfl, -⟩ | ⟨g2, cap2, cur2, rfl, -, hg2, -⟩
    · simp [Value.ownBlock]
    · simp only [Value.ownBlock, ne_eq, Option.some.injEq]
      rintro rfl
      rw [hg1] at hg2
      injection hg2 with hg2; injection hg2 with _ k2 _
      exact absurd k2 (by decide)
/-- the rows, in memory that stays while v grows -/
def RowsS (v : Value) (B : Nat) (w : World) (vs : List Value) (rows : List (List UInt8)) : Prop := vs.length = rows.length ∧ ∀ i, i < rows.length → ∃ p c, vs.getD i undef = .slice p (rows.getD i []).length c ∧ (rows.getD i []).length ≤ c ∧ c ≤ maxLen ∧ KeepS v B w p (B8s (rows.getD i []))
theorem RowsS.map {v v' : Value} {B : Nat} {w w' : World} {vs : List Value} {rows : List (List UInt8)} (h : RowsS v B w vs rows) (f : ∀ p cs, KeepS v B w p cs → KeepS v' B w' p cs) : RowsS v' B w' vs rows := ⟨h.1, fun i hi => by
  obtain ⟨p, c, h1, h2, h3, h4⟩ := h.2 i hi
  exact ⟨p, c, h1, h2, h3, f _ _ h4⟩⟩
theorem RowsS.of {v : Value} {B : Nat} {w : World} {vs : List Value} {rows : List (List UInt8)} (h : RowsS v B w vs rows) : RowsOf w vs rows := ⟨h.1, fun i hi => by
  obtain ⟨p, c, h1, h2, h3, h4⟩ := h.2 i hi
  exact ⟨p, c, h1, h2, h3, AtP.at h4⟩⟩
theorem RowsF.sep {lo : Nat} {v : Value} {B : Nat} {w : World} {vs : List Value} {rows : List (List UInt8)} (h : RowsF lo w vs rows) (f : ∀ p cs, FreshK lo w p cs → KeepS v B w p cs) : RowsS v B w vs rows := ⟨h.1, fun i hi => by
  obtain ⟨p, c, h1, h2, h3, h4⟩ := h.2 i hi
  exact ⟨p, c, h1, h2, h3, f _ _ h4⟩⟩
theorem RowsS.nil (v : Value) (B : Nat) (w : World) : RowsS v B w [] [] := ⟨rfl, fun i hi => absurd hi (by simp)⟩
theorem RowsS.app {v : Value} {B : Nat} {w : World} {vs us : List Value} {r q : List (List UInt8)} (h : RowsS v B w vs r) (k : RowsS v B w us q) : RowsS v B w (vs ++ us) (r ++ q) := by
  refine ⟨by simp [h.1, k.1], fun i hi => ?_⟩
  by_cases hl : i < r.length
  · have e1 : (vs ++ us).getD i undef = vs.getD i undef := by simp [List.getD, List.getElem?_append_left (by rw [h.1]; exact hl : i < vs.length)]
    have e2 : (r ++ q).getD i [] = r.getD i [] := by simp [List.getD, List.getElem?_append_left hl]
    rw [e1, e2]; exact h.2 i hl
  · have e1 : (vs ++ us).getD i undef = us.getD (i - r.length) undef := by simp [List.getD, List.getElem?_append_right (by rw [h.1]; omega : vs.length ≤ i), h.1]
    have e2 : (r ++ q).getD i [] = q.getD (i - r.length) [] := by simp [List.getD, List.getElem?_append_right (by omega : r.length ≤ i)]
    rw [e1, e2]
    exact k.2 _ (by simp at hi; omega)
/-- an append onto the bytes -/
theorem wpList_ownB {ops : Array Oper} {rest : List Oper} {o : Oper} {a : Act} {w : World} {Q : Exit → Act → World → Prop} (s x : Operand) (hgd : o.guard = Option.none)
    (ho : o.op = .call { callee := .builtin .append, args := #[s, x], argTypes := #[22, 22] }) {B n : Nat} {v : Value} {xs : List Value} (hs : a.eval s = v) (hB : OwnB B w v n xs)
    {sp : Option Addr} {m c : Nat} {news : List Value} (hx : a.eval x = .slice sp m c) (hS : At w sp news) (hl : news.length = m) (h1 : ∀ u ∈ news, u.oneCell' = true) (h63 : n + m ≤ 1099511627776)
    (h : ∀ a' cap' w', OwnB B w' (.slice a' (n + m) cap') (n + m) (xs ++ news) → w.grownBy w' v.ownBlock → (Value.ownBlock (.slice a' (n + m) cap') = v.ownBlock ∨ Value.ownBlock (.slice a' (n + m) cap') = some w.heap.size) → wpList Try.prog ops Q rest (a.put o.dst (.slice a' (n + m) cap')) w') : wpList Try.prog ops Q (o :: rest) a w := by
  refine wpList_plain hgd fun K hK => ?_
  obtain ⟨a', cap', w', hr, ho', hg, hat⟩ := run_sep elemB hB.own (m := m) c hS (by omega) h1 (by unfold maxLen; omega) (by omega) hB.le o.type
  unfold Oper.wp execOp
  simp only [ho, resolve, List.map_toArray, List.map_cons, List.map_nil, hs, hx, invoke, builtin, Sem.run_bind, Sem.run_pure, Result.andThen_ok, hr]
  exact hK _ _ (h a' cap' w' ⟨ho', Nat.le_trans hB.le hg.size⟩ hg hat)
end Go.Proofs.Ytipidgjdfmghnaa
