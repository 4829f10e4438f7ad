/- Appends of bytes in a region that draws its order; whole blocks stored. -/
import Derived.Test.YthmcmkdncaccbaaDoorPrL
import Derived.Test.YthmcmkdncaccbaaDoorFil
set_option linter.unusedSimpArgs false
set_option linter.unusedVariables false
namespace Go.Proofs.YthmcmkdncaccbaaDoor
open Go.RowKit

theorem at_cells {w : World} {b : Addr} {cs : List Value} (h : At w (some b) cs) (h0 : cs ≠ []) : ∀ j u, cs[j]? = some u → w.cell? (b.add j) = some u := by
  rcases h with h | ⟨b', off, he, hlt, hc⟩
  · exact absurd h h0
  · cases he
    intro j u hj
    have hjl : j < cs.length := by
      rcases Nat.lt_or_ge j cs.length with h | h
      · exact h
      · rw [List.getElem?_eq_none h] at hj; cases hj
    rw [WideShapes.add_plain, hc j hjl]; simp [List.getD, hj]
theorem step_ownBG {ops : Array Oper} {o : Oper} {a : Act} {w : World} {K : Act → World → Prop} {Q : Exit → Act → World → Prop} {F : Prop} (s x : Operand) (hw : Region.wanted o (yielded ops a.tmps) = true)
    (ho : o.op = .call { callee := .builtin .append, args := #[s, x], argTypes := #[25, 25] }) {B n : Nat} {v : Value} {xs : List Value} (hs : a.eval s = v) (hB : OwnB B w v n xs)
    {sp : Option Addr} {m c : Nat} {news : List Value} (hx : a.eval x = .slice sp m c) (hS : At w sp news) (hl : news.length = m) (h1 : ∀ u ∈ news, u.oneCell' = true) (h63 : n + m ≤ 1099511627776) (N : Nat) (hN : n + m = N) (ys : List Value) (hys : ys = xs ++ news)
    (hK : ∀ a' cap' w', OwnB B w' (.slice a' N cap') N ys → w.grownBy w' v.ownBlock → (Value.ownBlock (.slice a' N cap') = v.ownBlock ∨ Value.ownBlock (.slice a' N cap') = some w.heap.size) → K (a.put o.dst (.slice a' N cap')) w') : if Region.wanted o (yielded ops a.tmps) = true then Oper.wp Tryd.prog o a w K Q else F := by
  subst hN; subst hys
  rw [if_pos hw]
  obtain ⟨a', cap', w', hr, ho', hg, hat⟩ := run_sep elemB hB.own (m := m) c hS (by omega) h1 (by unfold maxLen; omega) (by omega) hB.le o.type
  unfold Oper.wp execOp
  simp only [ho, resolve, List.map_toArray, List.map_cons, List.map_nil, hs, hx, invoke, builtin, Sem.run_bind, Sem.run_pure, Result.andThen_ok, hr]
  exact hK _ _ _ ⟨ho', Nat.le_trans hB.le hg.size⟩ hg hat
theorem step_grow0 {ops : Array Oper} {o : Oper} {a : Act} {w : World} {K : Act → World → Prop} {Q : Exit → Act → World → Prop} {F : Prop} (s x : Operand) (hw : Region.wanted o (yielded ops a.tmps) = true)
    (ho : o.op = .call { callee := .builtin .append, args := #[s, x], argTypes := #[25, 25] }) {g : Addr} (hs : a.eval s = .slice (some g) 0 0)
    {sp : Option Addr} {m c : Nat} (news : List UInt8) (hx : a.eval x = .slice sp m c) (hS : BytesAt w sp news) (hm : m = news.length) (h0 : 0 < m) (h63 : m ≤ 100000)
    (hK : ∀ a' cap' w', OwnB w.heap.size w' (.slice a' m cap') m (B8s news) → Below w.heap.size w w' → K (a.put o.dst (.slice a' m cap')) w') : if Region.wanted o (yielded ops a.tmps) = true then Oper.wp Tryd.prog o a w K Q else F := by
  rw [if_pos hw]
  obtain ⟨i, hi, hz, hsz, hby⟩ := elemB.info
  have n1 : B8s news ≠ [] := by
    intro e; have := congrArg List.length e; simp at this; subst this; simp at hm; omega
  have hp : ∃ b', sp = some b' := by
    rcases hS with h | ⟨b', off, he, -⟩
    · exact absurd h n1
    · exact ⟨_, he⟩
  obtain ⟨sp, rfl⟩ := hp
  obtain ⟨v', w', hr, hown, hgr⟩ := run_append_arg_grows (P := Tryd.prog) w 25 o.type 5 i (.int .u8 0) 1 1 Tryd.underlying25 hi hz hsz hby rfl (by decide) g 0 0 [] (by simp) (by simp) sp m c (B8s news) (by simp [hm]) (at_cells hS n1) (by omega) (by unfold maxLen; omega) (by omega)
  rw [Nat.zero_add, List.nil_append] at hown
  obtain ⟨a', cap', rfl, -, -⟩ := own_slice hown
  unfold Oper.wp execOp
  simp only [ho, resolve, List.map_toArray, List.map_cons, List.map_nil, hs, hx, invoke, builtin, Sem.run_bind, Sem.run_pure, Result.andThen_ok, hr]
  exact hK _ _ _ ⟨hown, hgr.size⟩ ((Below.refl _ _).grown hgr (Nat.le_refl _) (fun k e => by cases e))
theorem OwnB.low {B B' : Nat} {w : World} {v : Value} {n : Nat} {xs : List Value} (h : OwnB B w v n xs) (hb : B' ≤ B) : OwnB B' w v n xs := by
  obtain ⟨⟨h1, h2⟩, h3⟩ := h
  refine ⟨⟨h1, ?_⟩, Nat.le_trans hb h3⟩
  rcases h2 with h2 | ⟨g, cap, cur, hv, hg, r⟩
  · exact .inl h2
  · exact .inr ⟨g, cap, cur, hv, Nat.le_trans hb hg, r⟩
theorem step_app8 {ops : Array Oper} {o : Oper} {a : Act} {w w0 : World} {K : Act → World → Prop} {Q : Exit → Act → World → Prop} {F : Prop} (s x : Operand) (hw : Region.wanted o (yielded ops a.tmps) = true)
    (ho : o.op = .call { callee := .builtin .append, args := #[s, x], argTypes := #[25, 25] }) {n : Nat} {b : Option Addr} {cap : Nat} {xs : List Value} (hs : a.eval s = .slice b 16 cap) (hB : OwnB w0.heap.size w (.slice b 16 cap) 16 xs)
    {sp : Option Addr} {c : Nat} {y : UInt8} (hx : a.eval x = .slice sp 1 c) (hS : At w sp [.int .u8 (bv y)]) {l : List UInt8} (hl : B8s l = xs ++ [.int .u8 (bv y)]) (Hb : Below w0.heap.size w0 w)
    (hK : ∀ a' cap' w', BytesAt w' a' l → Below w0.heap.size w0 w' → (∀ T b cs, T ≠ 5 → BlkT T w b cs → BlkT T w' b cs) → K (a.put o.dst (.slice a' 17 cap')) w') : if Region.wanted o (yielded ops a.tmps) = true then Oper.wp Tryd.prog o a w K Q else F := by
  refine step_ownBG s x hw ho hs hB (news := [.int .u8 (bv y)]) (m := 1) hx hS rfl (by simp [Value.oneCell']) (by decide) 17 rfl (B8s l) hl ?_
  intro a' c' w' O' hg hat
  exact hK a' c' w' O'.at (below_own Hb hB.own hg hB.le (Nat.le_refl _)) fun T b cs hT h => h.grownB hT hB hg
theorem wp_grow0 {o : Oper} {a : Act} {w : World} {K : Act → World → Prop} {Q : Exit → Act → World → Prop} (s x : Operand)
    (ho : o.op = .call { callee := .builtin .append, args := #[s, x], argTypes := #[25, 25] }) {g : Addr} (hs : a.eval s = .slice (some g) 0 0)
    {sp : Option Addr} {m c : Nat} (news : List UInt8) (hx : a.eval x = .slice sp m c) (hS : BytesAt w sp news) (hm : m = news.length) (h0 : 0 < m) (h63 : m ≤ 100000)
    (hK : ∀ a' cap' w', OwnB w.heap.size w' (.slice a' m cap') m (B8s news) → Below w.heap.size w w' → K (a.put o.dst (.slice a' m cap')) w') : Oper.wp Tryd.prog o a w K Q := by
  have h := step_grow0 (ops := #[]) (F := True) (Q := Q) (K := K) (o := { o with guard := none }) s x rfl ho hs news hx hS hm h0 h63 hK
  rw [if_pos (show Region.wanted { o with guard := none } (yielded #[] a.tmps) = true from rfl)] at h
  exact h
theorem wp_app8 {o : Oper} {a : Act} {w w0 : World} {K : Act → World → Prop} {Q : Exit → Act → World → Prop} (s x : Operand)
    (ho : o.op = .call { callee := .builtin .append, args := #[s, x], argTypes := #[25, 25] }) {b : Option Addr} {cap : Nat} {xs : List Value} (hs : a.eval s = .slice b 16 cap) (hB : OwnB w0.heap.size w (.slice b 16 cap) 16 xs)
    {sp : Option Addr} {c : Nat} {y : UInt8} (hx : a.eval x = .slice sp 1 c) (hS : At w sp [.int .u8 (bv y)]) {l : List UInt8} (hl : B8s l = xs ++ [.int .u8 (bv y)]) (Hb : Below w0.heap.size w0 w)
    (hK : ∀ a' cap' w', BytesAt w' a' l → Below w0.heap.size w0 w' → (∀ T b cs, T ≠ 5 → BlkT T w b cs → BlkT T w' b cs) → K (a.put o.dst (.slice a' 17 cap')) w') : Oper.wp Tryd.prog o a w K Q := by
  have h := step_app8 (ops := #[]) (F := True) (Q := Q) (K := K) (n := 0) (o := { o with guard := none }) s x rfl ho hs hB hx hS hl Hb hK
  rw [if_pos (show Region.wanted { o with guard := none } (yielded #[] a.tmps) = true from rfl)] at h
  exact h
theorem wp_storeT {o : Oper} {a : Act} {w : World} {K : Act → World → Prop} {Q : Exit → Act → World → Prop} (ty : TypeId) (x y : Operand)
    (ho : o.op = .store ty x y) (g : Nat) {cs old : List Value} (hx : a.eval x = .pointer (some ⟨g, 0, none⟩)) (hy : a.eval y = .agg cs.toArray) {T : TypeId} (hb : BlkT T w g old) (hi : (Tryd.prog.info? ty).map (·.size) = some cs.length) (hl : old.length = cs.length) (h1 : cs.all (·.oneCell') = true)
    (hK : K (a.put o.dst undef) (w.setRow g cs.toArray)) : Oper.wp Tryd.prog o a w K Q := wp_store_row ty x y ho g cs.toArray hx hy T old.toArray hb (by simpa using hi) (by simpa using hl) (by simpa using h1) hK
end Go.Proofs.YthmcmkdncaccbaaDoor
