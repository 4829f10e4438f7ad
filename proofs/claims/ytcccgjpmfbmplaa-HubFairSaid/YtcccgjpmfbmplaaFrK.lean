/- What stays as it was while a call writes only blocks of its own that hold no bytes. -/
import Derived.Test.YtcccgjpmfbmplaaFrF
set_option linter.unusedSimpArgs false
set_option linter.unusedVariables false
namespace Go.Proofs.Ytcccgjpmfbmplaa
open Go.RowKit

/-- what lies at a, in a block of the kind p -/
def AtP (p : Nat → Prop) (w : World) (a : Option Addr) (cs : List Value) : Prop :=
  cs = [] ∨ ∃ b off, a = some ⟨b, off, none⟩ ∧ p b ∧ b < w.heap.size ∧ ∀ i, i < cs.length → w.cell? ⟨b, off + i, none⟩ = some (cs.getD i undef)
theorem AtP.at {p : Nat → Prop} {w : World} {a : Option Addr} {cs : List Value} (h : AtP p w a cs) : At w a cs := by
  rcases h with h | ⟨b, off, h1, h2, h3, h4⟩
  · exact .inl h
  · exact .inr ⟨b, off, h1, h3, h4⟩
theorem AtP.of {p : Nat → Prop} {w : World} {a : Option Addr} {cs : List Value} (h : At w a cs) (hp : ∀ b, b < w.heap.size → p b) : AtP p w a cs := by
  rcases h with h | ⟨b, off, h1, h3, h4⟩
  · exact .inl h
  · exact .inr ⟨b, off, h1, hp b h3, h3, h4⟩
theorem AtP.to {p q : Nat → Prop} {w w' : World} {a : Option Addr} {cs : List Value} (h : AtP p w a cs) (hs : w.heap.size ≤ w'.heap.size) (hk : ∀ b, b < w.heap.size → p b → w'.heap[b]? = w.heap[b]? ∧ q b) : AtP q w' a cs := by
  rcases h with h | ⟨b, off, h1, h2, h3, h4⟩
  · exact .inl h
  · refine .inr ⟨b, off, h1, (hk b h3 h2).2, Nat.lt_of_lt_of_le h3 hs, fun i hi => ?_⟩
    rw [← h4 i hi]
    exact World.cell?_of_block (hk b h3 h2).1
theorem AtP.take {p : Nat → Prop} {w : World} {a : Option Addr} {cs : List Value} (h : AtP p w a cs) (k : Nat) : AtP p w a (cs.take k) := by
  rcases h with rfl | ⟨b, off, rfl, hp, hlt, hc⟩
  · exact .inl (by simp)
  · refine .inr ⟨b, off, rfl, hp, hlt, fun i hi => ?_⟩
    have h1 : i < k ∧ i < cs.length := by simpa [List.length_take, Nat.lt_min] using hi
    rw [hc i h1.2]; simp [List.getD, List.getElem?_take, h1.1]
theorem AtP.adv {p : Nat → Prop} {w : World} {a : Option Addr} {cs : List Value} (h : AtP p w a cs) {cap l : Nat} (hc : cs.length ≤ cap) : AtP p w (adv a cap l 1) (cs.drop l) := by
  by_cases hd : cs.drop l = []
  · exact .inl hd
  · have hlt : l < cs.length := by
      rcases Nat.lt_or_ge l cs.length with h | h
      · exact h
      · exact (hd (List.drop_of_length_le h)).elim
    rcases h with rfl | ⟨b, off, rfl, hp, hb, hcell⟩
    · simp at hd
    · refine .inr ⟨b, off + l, ?_, hp, hb, fun i hi => ?_⟩
      · unfold Proofs.Ytcccgjpmfbmplaa.adv; rw [if_neg (by omega)]
        simp only [Option.map_some]
        by_cases h0 : l * 1 = 0
        · simp [Addr.add]
        · simp [Addr.add]
      · have h2 : l + i < cs.length := by simp at hi; omega
        have := hcell (l + i) h2
        rw [← Nat.add_assoc] at this
        rw [this]; simp [List.getD]
/-- a block of bytes -/
def Ty5 (w : World) (b : Nat) : Prop := ∃ cur fr, w.heap[b]? = some (.cells cur 5 fr)
/-- what lies below B, or in a block of bytes -/
abbrev KeepAt (B : Nat) (w : World) (a : Option Addr) (cs : List Value) : Prop := AtP (fun b => b < B ∨ Ty5 w b) w a cs
/-- all below B, and all blocks of bytes, are as they were -/
structure Safe (B : Nat) (w w' : World) : Prop where
  size : w.heap.size ≤ w'.heap.size
  block : ∀ b, b < w.heap.size → (b < B ∨ Ty5 w b) → w'.heap[b]? = w.heap[b]?
theorem KeepAt.safe {B : Nat} {w w' : World} {a : Option Addr} {cs : List Value} (h : KeepAt B w a cs) (k : Safe B w w') : KeepAt B w' a cs :=
  AtP.to h k.size fun b hb hp => by
    have e := k.block b hb hp
    refine ⟨e, ?_⟩
    rcases hp with hp | ⟨cur, fr, hp⟩
    · exact .inl hp
    · exact .inr ⟨cur, fr, by rw [e]; exact hp⟩
theorem Safe.below {B : Nat} {w w' : World} (h : Below w.heap.size w w') : Safe B w w' := ⟨h.size, fun b hb _ => h.block b hb⟩
theorem Safe.trans {B : Nat} {a b c : World} (h : Safe B a b) (k : Safe B b c) : Safe B a c := by
  refine ⟨Nat.le_trans h.size k.size, fun x hx hp => ?_⟩
  have e := h.block x hx hp
  rw [← e]
  refine k.block x (Nat.lt_of_lt_of_le hx h.size) ?_
  rcases hp with hp | ⟨cur, fr, hp⟩
  · exact .inl hp
  · exact .inr ⟨cur, fr, by rw [e]; exact hp⟩
/-- a block of values of type T -/
def BlkT (T : TypeId) (w : World) (b : Nat) (cs : List Value) : Prop := w.heap[b]? = some (.cells cs.toArray T (0, 0))
theorem BlkT.blk {T : TypeId} {w : World} {b : Nat} {cs : List Value} (h : BlkT T w b cs) : Blk w b cs := ⟨T, h⟩
theorem BlkT.up {T : TypeId} {w w' : World} {b : Nat} {cs : List Value} (h : BlkT T w b cs) (hb : Below w.heap.size w w') : BlkT T w' b cs := by
  unfold BlkT; rw [hb.block b h.blk.lt]; exact h
theorem BlkT.set {T : TypeId} {w : World} {b : Nat} {cs : List Value} (h : BlkT T w b cs) (i : Nat) (v : Value) : BlkT T (w.setCell ⟨b, i, none⟩ v) b (cs.set i v) := by
  have h' : w.heap[b]? = some (.cells cs.toArray T (0, 0)) := h
  simp [BlkT, World.setCell, Array.getElem?_modify, h']
theorem BlkT.other {T : TypeId} {w : World} {b g j : Nat} {cs : List Value} (h : BlkT T w b cs) (hb : b ≠ g) (v : Value) : BlkT T (w.setCell ⟨g, j, none⟩ v) b cs := by
  unfold BlkT; rw [Below.heap_setCell _ _ _ _ hb]; exact h
theorem BlkT.row {T : TypeId} {w : World} {b : Nat} {cs : List Value} (h : BlkT T w b cs) (ds : List Value) : BlkT T (w.setRow b ds.toArray) b ds := setRow_heap w b _ _ T _ h
theorem BlkT.rowOther {T : TypeId} {w : World} {b : Nat} {cs : List Value} (h : BlkT T w b cs) (g : Nat) (hb : b ≠ g) (ds : Array Value) : BlkT T (w.setRow g ds) b cs := by
  unfold BlkT; rw [setRow_other w g b ds hb]; exact h
theorem BlkT.new (w : World) (cs : List Value) (T : TypeId) : BlkT T (w.alloc (.cells cs.toArray T)) w.heap.size cs := by simp only [BlkT, World.alloc, Array.getElem?_push, if_true]
theorem not_ty {T : TypeId} {w : World} {b : Nat} {cs : List Value} (h : BlkT T w b cs) (hT : T ≠ 5) : ¬ Ty5 w b := by
  rintro ⟨cur, fr, k⟩
  rw [show w.heap[b]? = _ from h] at k
  injection k with k; injection k with k1 k2 k3; exact hT k2
theorem Safe.set {B : Nat} {w : World} {T : TypeId} {g j : Nat} {cs : List Value} (h : BlkT T w g cs) (hT : T ≠ 5) (hB : B ≤ g) (v : Value) : Safe B w (w.setCell ⟨g, j, none⟩ v) := by
  refine ⟨by simp, fun b hb hp => Below.heap_setCell _ _ _ _ ?_⟩
  rintro rfl
  rcases hp with hp | hp
  · omega
  · exact not_ty h hT hp
theorem Safe.row {B : Nat} {w : World} {T : TypeId} {g : Nat} {cs : List Value} (h : BlkT T w g cs) (hT : T ≠ 5) (hB : B ≤ g) (ds : Array Value) : Safe B w (w.setRow g ds) := by
  refine ⟨by simp, fun b hb hp => setRow_other w g b ds ?_⟩
  rintro rfl
  rcases hp with hp | hp
  · omega
  · exact not_ty h hT hp
theorem Safe.grown {B : Nat} {w w' : World} {e : TypeId} {size n base : Nat} {v : Value} {xs : List Value} (hown : w.ownsRow base e size v n xs) (hg : w.grownBy w' v.ownBlock) (he : e ≠ 5) (hB : B ≤ base) : Safe B w w' := by
  refine ⟨hg.size, fun b hb hp => hg.block b hb ?_⟩
  intro hv
  obtain ⟨h1, h2⟩ := hown.lt b hv.symm
  rcases hp with hp | ⟨cur, fr, hp⟩
  · omega
  · rcases hown.2 with ⟨rfl, -⟩ | ⟨g, cap, cur', rfl, -, hg', -⟩
    · simp [Value.ownBlock] at hv
    · simp [Value.ownBlock] at hv
      subst hv
      rw [hg'] at hp
      injection hp with hp; injection hp with _ k2 _; exact he k2
theorem Buf.keep {B : Nat} {wB w : World} {a : Option Addr} {n cap : Nat} {xs : List Value} (h : Buf wB w 5 (.slice a n cap) n xs) : KeepAt B w a xs := by
  obtain ⟨h1, h2⟩ := h.own
  rcases h2 with ⟨hv, hn⟩ | ⟨g, cap', cur, hv, hb, hg, h3, h4, h5, h6⟩
  · subst hn; exact .inl (List.eq_nil_of_length_eq_zero (by simpa using h1))
  · cases hv
    refine .inr ⟨g, 0, rfl, .inr ⟨_, _, hg⟩, (Array.getElem?_eq_some_iff.1 hg).1, fun i hi => ?_⟩
    rw [Nat.zero_add]
    have hx : xs[i]? = some (xs[i]) := List.getElem?_eq_getElem hi
    have := h.own.cells (g := g) rfl i _ hx
    have hadd : (⟨g, 0, none⟩ : Addr).add i = ⟨g, i, none⟩ := by unfold Addr.add; split <;> simp_all
    rw [hadd] at this
    rw [this]; simp [List.getD, hi]

/-- a slice of slices of the call's own, from block B on -/
structure Own (B : Nat) (w : World) (v : Value) (n : Nat) (xs : List Value) : Prop where
  own : w.ownsRow B 23 1 v n xs
  le : B ≤ w.heap.size
theorem Own.up {B : Nat} {w w' : World} {v : Value} {n : Nat} {xs : List Value} (h : Own B w v n xs) (hb : Below w.heap.size w w') : Own B w' v n xs := by
  obtain ⟨⟨h1, h2⟩, h3⟩ := h
  refine ⟨⟨h1, ?_⟩, Nat.le_trans h3 hb.size⟩
  rcases h2 with h2 | ⟨g, cap, cur, hv, hg, hh, r⟩
  · exact .inl h2
  · exact .inr ⟨g, cap, cur, hv, hg, by rw [hb.block g (Array.getElem?_eq_some_iff.1 hh).1]; exact hh, r⟩
theorem Own.set {B g j : Nat} {w : World} {v : Value} {n : Nat} {xs : List Value} (h : Own B w v n xs) (hg : g < B) (x : Value) : Own B (w.setCell ⟨g, j, none⟩ x) v n xs := by
  obtain ⟨⟨h1, h2⟩, h3⟩ := h
  refine ⟨⟨h1, ?_⟩, by simpa using h3⟩
  rcases h2 with h2 | ⟨g', cap, cur, hv, hg', hh, r⟩
  · exact .inl h2
  · exact .inr ⟨g', cap, cur, hv, hg', by rw [Below.heap_setCell _ _ _ _ (by simp only; omega)]; exact hh, r⟩
theorem Own.row {B g : Nat} {w : World} {v : Value} {n : Nat} {xs : List Value} (h : Own B w v n xs) (hg : g < B) (ds : Array Value) : Own B (w.setRow g ds) v n xs := by
  obtain ⟨⟨h1, h2⟩, h3⟩ := h
  refine ⟨⟨h1, ?_⟩, by simpa using h3⟩
  rcases h2 with h2 | ⟨g', cap, cur, hv, hg', hh, r⟩
  · exact .inl h2
  · exact .inr ⟨g', cap, cur, hv, hg', by rw [setRow_other w g g' ds (by omega)]; exact hh, r⟩
theorem Own.slice {B : Nat} {w : World} {v : Value} {n : Nat} {xs : List Value} (h : Own B w v n xs) : ∃ a cap, v = .slice a n cap ∧ n ≤ cap ∧ cap ≤ maxLen := own_slice h.own
theorem Own.at {B : Nat} {w : World} {a : Option Addr} {n cap : Nat} {xs : List Value} (h : Own B w (.slice a n cap) n xs) : At w a xs := own_at h.own
theorem Own.nil {B : Nat} {w : World} (h : B ≤ w.heap.size) : Own B w (.slice none 0 0) 0 [] := ⟨⟨rfl, .inl ⟨rfl, rfl⟩⟩, h⟩
theorem BlkT.grown {T : TypeId} {B n b : Nat} {w w' : World} {v : Value} {xs cs : List Value} (h : BlkT T w b cs) (hown : Own B w v n xs) (hg : w.grownBy w' v.ownBlock) (hb : b < B) : BlkT T w' b cs := by
  unfold BlkT
  rw [hg.block b h.blk.lt fun hv => by have := (hown.own.lt b hv.symm).1; omega]
  exact h
theorem elemR : ElemT Try.prog 42 23 1 24 (.slice none 0 0) := ElemT.mk1 Try.underlying42 (by kernel_rfl) rfl (by decide)
/-- an append onto it -/
theorem wpList_own {ops : Array Oper} {rest : List Oper} {o : Oper} {a : Act} {w : World} {Q : Exit → Act → World → Prop} (s x : Operand) (hgd : o.guard = Option.none)
    (ho : o.op = .call { callee := .builtin .append, args := #[s, x], argTypes := #[42, 42] }) {B n : Nat} {v : Value} {xs : List Value} (hs : a.eval s = v) (hB : Own B w v n xs)
    {sp : Option Addr} {m c : Nat} {news : List Value} (hx : a.eval x = .slice sp m c) (hS : At w sp news) (hl : news.length = m) (h1 : ∀ u ∈ news, u.oneCell' = true) (h63 : n + m ≤ 1099511627776)
    (k : Nat) (hk : n + m = k)
    (h : ∀ a' cap' w', Own B w' (.slice a' k cap') k (xs ++ news) → w.grownBy w' v.ownBlock → wpList Try.prog ops Q rest (a.put o.dst (.slice a' k cap')) w') : wpList Try.prog ops Q (o :: rest) a w := by
  subst hk
  refine wpList_plain hgd fun K hK => ?_
  obtain ⟨a', cap', w', hr, ho', hg⟩ := run_app elemR hB.own (m := m) c hS (by omega) h1 (by unfold maxLen; omega) (by omega) hB.le o.type
  unfold Oper.wp execOp
  simp only [ho, resolve, List.map_toArray, List.map_cons, List.map_nil, hs, hx, invoke, builtin, Sem.run_bind, Sem.run_pure, Result.andThen_ok, hr]
  exact hK _ _ (h a' cap' w' ⟨ho', Nat.le_trans hB.le hg.size⟩ hg)
/-- the values are slices of the rows, in memory that stays -/
def RowsK (B : Nat) (w : World) (vs : List Value) (rows : List (List UInt8)) : Prop := vs.length = rows.length ∧ ∀ i, i < rows.length → ∃ p c, vs.getD i undef = .slice p (rows.getD i []).length c ∧ (rows.getD i []).length ≤ c ∧ c ≤ maxLen ∧ KeepAt B w p (B8s (rows.getD i []))
theorem RowsK.safe {B : Nat} {w w' : World} {vs : List Value} {rows : List (List UInt8)} (h : RowsK B w vs rows) (k : Safe B w w') : RowsK B w' vs rows := ⟨h.1, fun i hi => by
  obtain ⟨p, c, h1, h2, h3, h4⟩ := h.2 i hi
  exact ⟨p, c, h1, h2, h3, h4.safe k⟩⟩
theorem RowsK.of {B : Nat} {w : World} {vs : List Value} {rows : List (List UInt8)} (h : RowsK B w vs rows) : RowsOf w vs rows := ⟨h.1, fun i hi => by
  obtain ⟨p, c, h1, h2, h3, h4⟩ := h.2 i hi
  exact ⟨p, c, h1, h2, h3, h4.at⟩⟩
theorem RowsK.nil (B : Nat) (w : World) : RowsK B w [] [] := ⟨rfl, fun i hi => absurd hi (by simp)⟩
theorem RowsK.snoc {B : Nat} {w : World} {vs : List Value} {rows : List (List UInt8)} (h : RowsK B w vs rows) {p : Option Addr} {r : List UInt8} {c : Nat} (h2 : r.length ≤ c) (h3 : c ≤ maxLen) (h4 : KeepAt B w p (B8s r)) : RowsK B w (vs ++ [.slice p r.length c]) (rows ++ [r]) := by
  refine ⟨by simp [h.1], fun i hi => ?_⟩
  by_cases hl : i < rows.length
  · have e1 : (vs ++ [Value.slice p r.length c]).getD i undef = vs.getD i undef := by simp [List.getD, List.getElem?_append_left (by rw [h.1]; exact hl : i < vs.length)]
    have e2 : (rows ++ [r]).getD i [] = rows.getD i [] := by simp [List.getD, List.getElem?_append_left hl]
    rw [e1, e2]; exact h.2 i hl
  · have hi' : i = rows.length := by simp at hi; omega
    subst hi'
    have e1 : (vs ++ [Value.slice p r.length c]).getD rows.length undef = .slice p r.length c := by rw [← h.1]; simp [List.getD]
    have e2 : (rows ++ [r]).getD rows.length [] = r := by simp [List.getD]
    rw [e1, e2]; exact ⟨p, c, rfl, h2, h3, h4⟩
/-- what lies in a block of bytes from lo on -/
abbrev FreshK (lo : Nat) (w : World) (a : Option Addr) (cs : List Value) : Prop := AtP (fun b => lo ≤ b ∧ Ty5 w b) w a cs
theorem FreshK.safe {lo C : Nat} {w w' : World} {a : Option Addr} {cs : List Value} (h : FreshK lo w a cs) (k : Safe C w w') : FreshK lo w' a cs :=
  AtP.to h k.size fun b hb hp => by
    have e := k.block b hb (.inr hp.2)
    obtain ⟨cur, fr, hp2⟩ := hp.2
    exact ⟨e, hp.1, cur, fr, by rw [e]; exact hp2⟩
theorem FreshK.keep {lo B : Nat} {w : World} {a : Option Addr} {cs : List Value} (h : FreshK lo w a cs) : KeepAt B w a cs := AtP.to h (Nat.le_refl _) fun b _ hp => ⟨rfl, .inr hp.2⟩
theorem FreshK.weak {lo lo' : Nat} {w : World} {a : Option Addr} {cs : List Value} (h : FreshK lo w a cs) (hl : lo' ≤ lo) : FreshK lo' w a cs := AtP.to h (Nat.le_refl _) fun b _ hp => ⟨rfl, Nat.le_trans hl hp.1, hp.2⟩
theorem Buf.fresh {wB w : World} {a : Option Addr} {n cap : Nat} {xs : List Value} (h : Buf wB w 5 (.slice a n cap) n xs) : FreshK wB.heap.size w a xs := by
  obtain ⟨h1, h2⟩ := h.own
  rcases h2 with ⟨hv, hn⟩ | ⟨g, cap', cur, hv, hb, hg, h3, h4, h5, h6⟩
  · subst hn; exact .inl (List.eq_nil_of_length_eq_zero (by simpa using h1))
  · cases hv
    refine .inr ⟨g, 0, rfl, ⟨hb, _, _, hg⟩, (Array.getElem?_eq_some_iff.1 hg).1, fun i hi => ?_⟩
    rw [Nat.zero_add]
    have hx : xs[i]? = some (xs[i]) := List.getElem?_eq_getElem hi
    have := h.own.cells (g := g) rfl i _ hx
    have hadd : (⟨g, 0, none⟩ : Addr).add i = ⟨g, i, none⟩ := by unfold Addr.add; split <;> simp_all
    rw [hadd] at this
    rw [this]; simp [List.getD, hi]
/-- the values are slices of the rows, in blocks of bytes from B on -/
def RowsF (B : Nat) (w : World) (vs : List Value) (rows : List (List UInt8)) : Prop := vs.length = rows.length ∧ ∀ i, i < rows.length → ∃ p c, vs.getD i undef = .slice p (rows.getD i []).length c ∧ (rows.getD i []).length ≤ c ∧ c ≤ maxLen ∧ FreshK B w p (B8s (rows.getD i []))
theorem RowsF.safe {B C : Nat} {w w' : World} {vs : List Value} {rows : List (List UInt8)} (h : RowsF B w vs rows) (k : Safe C w w') : RowsF B w' vs rows := ⟨h.1, fun i hi => by
  obtain ⟨p, c, h1, h2, h3, h4⟩ := h.2 i hi
  exact ⟨p, c, h1, h2, h3, h4.safe k⟩⟩
theorem RowsF.of {B : Nat} {w : World} {vs : List Value} {rows : List (List UInt8)} (h : RowsF B w vs rows) : RowsOf w vs rows := ⟨h.1, fun i hi => by
  obtain ⟨p, c, h1, h2, h3, h4⟩ := h.2 i hi
  exact ⟨p, c, h1, h2, h3, h4.at⟩⟩
theorem RowsF.nil (B : Nat) (w : World) : RowsF B w [] [] := ⟨rfl, fun i hi => absurd hi (by simp)⟩
theorem RowsF.snoc {B : Nat} {w : World} {vs : List Value} {rows : List (List UInt8)} (h : RowsF B w vs rows) {p : Option Addr} {r : List UInt8} {c : Nat} (h2 : r.length ≤ c) (h3 : c ≤ maxLen) (h4 : FreshK B w p (B8s r)) : RowsF B w (vs ++ [.slice p r.length c]) (rows ++ [r]) := by
  refine ⟨by simp [h.1], fun i hi => ?_⟩
  by_cases hl : i < rows.length
  · have e1 : (vs ++ [Value.slice p r.length c]).getD i undef = vs.getD i undef := by simp [List.getD, List.getElem?_append_left (by rw [h.1]; exact hl : i < vs.length)]
    have e2 : (rows ++ [r]).getD i [] = rows.getD i [] := by simp [List.getD, List.getElem?_append_left hl]
    rw [e1, e2]; exact h.2 i hl
  · have hi' : i = rows.length := by simp at hi; omega
    subst hi'
    have e1 : (vs ++ [Value.slice p r.length c]).getD rows.length undef = .slice p r.length c := by rw [← h.1]; simp [List.getD]
    have e2 : (rows ++ [r]).getD rows.length [] = r := by simp [List.getD]
    rw [e1, e2]; exact ⟨p, c, rfl, h2, h3, h4⟩
theorem RowsF.keep {lo B : Nat} {w : World} {vs : List Value} {rows : List (List UInt8)} (h : RowsF lo w vs rows) : RowsK B w vs rows := ⟨h.1, fun i hi => by
  obtain ⟨p, c, h1, h2, h3, h4⟩ := h.2 i hi
  exact ⟨p, c, h1, h2, h3, FreshK.keep h4⟩⟩
end Go.Proofs.Ytcccgjpmfbmplaa
