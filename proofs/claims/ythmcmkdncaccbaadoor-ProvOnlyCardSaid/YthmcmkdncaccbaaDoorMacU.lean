/- Bytes that grow beside others; how long rows are. -/
import Derived.Test.YthmcmkdncaccbaaDoorMacT
import Derived.Test.YthmcmkdncaccbaaDoorRows2
import Derived.Test.YthmcmkdncaccbaaDoorBlk2
import Derived.Maps.AppendAt
set_option linter.unusedSimpArgs false
set_option linter.unusedVariables false
namespace Go.Proofs.YthmcmkdncaccbaaDoor
open Go.RowKit

/-- what lies at a, in a block of the kind p -/
def AtP (p : Nat → Prop) (w : World) (a : Option Addr) (cs : List Value) : Prop :=
  cs = [] ∨ ∃ b off, a = some ⟨b, off, none⟩ ∧ p b ∧ b < w.heap.size ∧ ∀ i, i < cs.length → w.cell? ⟨b, off + i, none⟩ = some (cs.getD i undef)
theorem AtP.at {p : Nat → Prop} {w : World} {a : Option Addr} {cs : List Value} (h : AtP p w a cs) : At w a cs := by
  rcases h with h | ⟨b, off, h1, h2, h3, h4⟩
  · exact .inl h
  · exact .inr ⟨b, off, h1, h3, h4⟩
theorem AtP.of {p : Nat → Prop} {w : World} {a : Option Addr} {cs : List Value} (h : At w a cs) (hp : ∀ b, b < w.heap.size → p b) : AtP p w a cs := by
  rcases h with h | ⟨b, off, h1, h3, h4⟩
  · exact .inl h
  · exact .inr ⟨b, off, h1, hp b h3, h3, h4⟩
theorem AtP.to {p q : Nat → Prop} {w w' : World} {a : Option Addr} {cs : List Value} (h : AtP p w a cs) (hs : w.heap.size ≤ w'.heap.size) (hk : ∀ b, b < w.heap.size → p b → w'.heap[b]? = w.heap[b]? ∧ q b) : AtP q w' a cs := by
  rcases h with h | ⟨b, off, h1, h2, h3, h4⟩
  · exact .inl h
  · refine .inr ⟨b, off, h1, (hk b h3 h2).2, Nat.lt_of_lt_of_le h3 hs, fun i hi => ?_⟩
    rw [← h4 i hi]
    exact World.cell?_of_block (hk b h3 h2).1
theorem AtP.take {p : Nat → Prop} {w : World} {a : Option Addr} {cs : List Value} (h : AtP p w a cs) (k : Nat) : AtP p w a (cs.take k) := by
  rcases h with rfl | ⟨b, off, rfl, hp, hlt, hc⟩
  · exact .inl (by simp)
  · refine .inr ⟨b, off, rfl, hp, hlt, fun i hi => ?_⟩
    have h1 : i < k ∧ i < cs.length := by simpa [List.length_take, Nat.lt_min] using hi
    rw [hc i h1.2]; simp [List.getD, List.getElem?_take, h1.1]
theorem AtP.adv {p : Nat → Prop} {w : World} {a : Option Addr} {cs : List Value} (h : AtP p w a cs) {cap l : Nat} (hc : cs.length ≤ cap) : AtP p w (adv a cap l 1) (cs.drop l) := by
  by_cases hd : cs.drop l = []
  · exact .inl hd
  · have hlt : l < cs.length := by
      rcases Nat.lt_or_ge l cs.length with h | h
      · exact h
      · exact (hd (List.drop_of_length_le h)).elim
    rcases h with rfl | ⟨b, off, rfl, hp, hb, hcell⟩
    · simp at hd
    · refine .inr ⟨b, off + l, ?_, hp, hb, fun i hi => ?_⟩
      · unfold Proofs.YthmcmkdncaccbaaDoor.adv; rw [if_neg (by omega)]
        simp only [Option.map_some]
        by_cases h0 : l * 1 = 0
        · simp [Addr.add]
        · simp [Addr.add]
      · have h2 : l + i < cs.length := by simp at hi; omega
        have := hcell (l + i) h2
        rw [← Nat.add_assoc] at this
        rw [this]; simp [List.getD]
/-- a block of values of type T -/
def BlkT (T : TypeId) (w : World) (b : Nat) (cs : List Value) : Prop := w.heap[b]? = some (.cells cs.toArray T (0, 0))
theorem BlkT.blk {T : TypeId} {w : World} {b : Nat} {cs : List Value} (h : BlkT T w b cs) : Blk w b cs := ⟨T, h⟩
theorem BlkT.up {T : TypeId} {w w' : World} {b : Nat} {cs : List Value} (h : BlkT T w b cs) (hb : Below w.heap.size w w') : BlkT T w' b cs := by
  unfold BlkT; rw [hb.block b h.blk.lt]; exact h
theorem BlkT.set {T : TypeId} {w : World} {b : Nat} {cs : List Value} (h : BlkT T w b cs) (i : Nat) (v : Value) : BlkT T (w.setCell ⟨b, i, none⟩ v) b (cs.set i v) := by
  have h' : w.heap[b]? = some (.cells cs.toArray T (0, 0)) := h
  simp [BlkT, World.setCell, Array.getElem?_modify, h']
theorem BlkT.other {T : TypeId} {w : World} {b g j : Nat} {cs : List Value} (h : BlkT T w b cs) (hb : b ≠ g) (v : Value) : BlkT T (w.setCell ⟨g, j, none⟩ v) b cs := by
  unfold BlkT; rw [Below.heap_setCell _ _ _ _ hb]; exact h
theorem BlkT.row {T : TypeId} {w : World} {b : Nat} {cs : List Value} (h : BlkT T w b cs) (ds : List Value) : BlkT T (w.setRow b ds.toArray) b ds := setRow_heap w b _ _ T _ h
theorem BlkT.rowOther {T : TypeId} {w : World} {b : Nat} {cs : List Value} (h : BlkT T w b cs) (g : Nat) (hb : b ≠ g) (ds : Array Value) : BlkT T (w.setRow g ds) b cs := by
  unfold BlkT; rw [setRow_other w g b ds hb]; exact h
theorem BlkT.new (w : World) (cs : List Value) (T : TypeId) : BlkT T (w.alloc (.cells cs.toArray T)) w.heap.size cs := by simp only [BlkT, World.alloc, Array.getElem?_push, if_true]
theorem run_sep {P : Program} {t e : TypeId} {size bytes : Nat} {z : Value} (E : ElemT P t e size bytes z) {w : World} {base n : Nat} {v : Value} {xs : List Value} (hown : w.ownsRow base e size v n xs)
    {sp : Option Addr} {m : Nat} (c : Nat) {news : List Value} (hS : At w sp news) (hl : news.length = m * size) (h1 : ∀ u ∈ news, u.oneCell' = true) (h63 : n + m ≤ maxLen) (hbytes : (n + m) * bytes ≤ 140737488355328) (hbase : base ≤ w.heap.size) (ty : TypeId) :
    ∃ a' cap' w', (Builtin.append_ #[t, t] ty #[v, .slice sp m c]).run P w = .ok (.slice a' (n + m) cap') w' ∧ w'.ownsRow base e size (.slice a' (n + m) cap') (n + m) (xs ++ news) ∧ w.grownBy w' v.ownBlock ∧
      (Value.ownBlock (.slice a' (n + m) cap') = v.ownBlock ∨ Value.ownBlock (.slice a' (n + m) cap') = some w.heap.size) := by
  obtain ⟨i, hi, hz, hsz, hby⟩ := E.info
  by_cases h0 : m = 0
  · subst h0
    have hn : news = [] := List.eq_nil_of_length_eq_zero (by simpa using hl)
    subst hn
    obtain ⟨a, cap, rfl, hnc, -⟩ := own_slice hown
    refine ⟨a, cap, w, ?_, by simpa using hown, ⟨rfl, rfl, rfl, Nat.le_refl _, fun _ _ _ => rfl⟩, .inl (by cases a <;> rfl)⟩
    have hf : ∀ x : Addr, (loadCells x 0).run P w = .ok #[] w := fun x => by simpa using run_loadCells_list (P := P) w x [] (by simp)
    cases a <;> cases sp <;> simp [Builtin.append_, run_underlying E.slice, sizeOf, typeInfo, hi, Builtin.lenOf, Builtin.firstCells, hnc, hf, storeCells]
  · rcases hS with rfl | ⟨b, off, rfl, hlt, hc⟩
    · have := Nat.mul_pos (by omega : 0 < m) E.pos; rw [← hl] at this; simp at this
    · obtain ⟨v', w', hr, ho, hg, -, hat⟩ := run_append_own_at (P := P) w base t ty e i z size bytes E.slice hi hz hsz hby E.zs E.pos v n xs hown ⟨b, off, none⟩ m c news hl (fun j u hj => by
        have hjl : j < news.length := by
          rcases Nat.lt_or_ge j news.length with h | h
          · exact h
          · rw [List.getElem?_eq_none h] at hj; cases hj
        rw [WideShapes.add_plain, hc j hjl]; simp [List.getD, hj]) h1 h63 hbytes hbase
      obtain ⟨a', cap', rfl, -, -⟩ := own_slice ho
      exact ⟨a', cap', w', hr, ho, hg, hat⟩
/-- bytes of the call's own -/
structure OwnB (B : Nat) (w : World) (v : Value) (n : Nat) (xs : List Value) : Prop where
  own : w.ownsRow B 5 1 v n xs
  le : B ≤ w.heap.size
theorem OwnB.up {B : Nat} {w w' : World} {v : Value} {n : Nat} {xs : List Value} (h : OwnB B w v n xs) (hb : Below w.heap.size w w') : OwnB B w' v n xs := by
  obtain ⟨⟨h1, h2⟩, h3⟩ := h
  refine ⟨⟨h1, ?_⟩, Nat.le_trans h3 hb.size⟩
  rcases h2 with h2 | ⟨g, cap, cur, hv, hg, hh, r⟩
  · exact .inl h2
  · exact .inr ⟨g, cap, cur, hv, hg, by rw [hb.block g (Array.getElem?_eq_some_iff.1 hh).1]; exact hh, r⟩
theorem OwnB.at {B : Nat} {w : World} {a : Option Addr} {n cap : Nat} {xs : List Value} (h : OwnB B w (.slice a n cap) n xs) : At w a xs := own_at h.own
theorem OwnB.lt {B : Nat} {w : World} {v : Value} {n : Nat} {xs : List Value} (h : OwnB B w v n xs) {k : Nat} (hk : v.ownBlock = some k) : B ≤ k ∧ k < w.heap.size := h.own.lt k hk
/-- what lies neither in the block n8 nor in v's own -/
abbrev KeepN (v : Value) (n8 : Nat) (w : World) (a : Option Addr) (cs : List Value) : Prop := AtP (fun b => b ≠ n8 ∧ some b ≠ v.ownBlock) w a cs
theorem KeepN.up {v : Value} {n8 : Nat} {w w' : World} {a : Option Addr} {cs : List Value} (h : KeepN v n8 w a cs) (hb : Below w.heap.size w w') : KeepN v n8 w' a cs :=
  AtP.to h hb.size fun b hl hp => ⟨hb.block b hl, hp⟩
theorem KeepN.row {v : Value} {n8 : Nat} {w : World} {a : Option Addr} {cs : List Value} (h : KeepN v n8 w a cs) (ds : Array Value) : KeepN v n8 (w.setRow n8 ds) a cs :=
  AtP.to h (by simp) fun b hl hp => ⟨setRow_other w n8 b ds hp.1, hp⟩
theorem KeepN.grown {v v' : Value} {n8 : Nat} {w w' : World} {a : Option Addr} {cs : List Value} (h : KeepN v n8 w a cs) (hg : w.grownBy w' v.ownBlock) (hat : v'.ownBlock = v.ownBlock ∨ v'.ownBlock = some w.heap.size) : KeepN v' n8 w' a cs :=
  AtP.to h hg.size fun b hb hp => by
    refine ⟨hg.block b hb hp.2, hp.1, ?_⟩
    rcases hat with hat | hat
    · rw [hat]; exact hp.2
    · rw [hat]; intro h; injection h with h; omega
theorem KeepN.new {v : Value} {n8 B g n : Nat} {w0 w : World} {a : Option Addr} {xs cs : List Value} (ho : OwnB B w0 v n xs) (h8 : n8 < w0.heap.size) (hg : w0.heap.size ≤ g) (h : At w a cs) (hs : cs = [] ∨ ∃ off, a = some ⟨g, off, none⟩) : KeepN v n8 w a cs := by
  rcases hs with hs | ⟨off, rfl⟩
  · exact .inl hs
  · rcases h with h | ⟨b, o, h1, h2, h3⟩
    · exact .inl h
    · injection h1 with h1; injection h1 with h1 h4 _
      subst h1; subst h4
      exact .inr ⟨g, off, rfl, ⟨by omega, fun hv => by have := (ho.lt hv.symm).2; omega⟩, h2, h3⟩
theorem OwnB.row {T : TypeId} {B n8 : Nat} {w : World} {v : Value} {n : Nat} {xs cs : List Value} (h : OwnB B w v n xs) (hb : BlkT T w n8 cs) (hT : T ≠ 5) (ds : Array Value) : OwnB B (w.setRow n8 ds) v n xs := by
  obtain ⟨⟨h1, h2⟩, h3⟩ := h
  refine ⟨⟨h1, ?_⟩, by simpa using h3⟩
  rcases h2 with h2 | ⟨g', cap, cur, hv, hg', hh, r⟩
  · exact .inl h2
  · refine .inr ⟨g', cap, cur, hv, hg', ?_, r⟩
    rw [setRow_other w n8 g' ds ?_]
    · exact hh
    · rintro rfl
      rw [show w.heap[g']? = _ from hb] at hh
      injection hh with hh; injection hh with _ k2 _; exact hT k2
theorem BlkT.grownB {T : TypeId} {B n b : Nat} {w w' : World} {v : Value} {xs cs : List Value} (h : BlkT T w b cs) (hT : T ≠ 5) (hown : OwnB B w v n xs) (hg : w.grownBy w' v.ownBlock) : BlkT T w' b cs := by
  unfold BlkT
  rw [hg.block b h.blk.lt fun hv => ?_]
  · exact h
  · rcases hown.own.2 with ⟨rfl, -⟩ | ⟨g, cap, cur, rfl, -, hg', -⟩
    · simp [Value.ownBlock] at hv
    · simp [Value.ownBlock] at hv
      subst hv
      rw [show w.heap[b]? = _ from h] at hg'
      injection hg' with hg'; injection hg' with _ k2 _; exact hT k2
/-- an append onto the bytes -/
theorem wpList_ownB {ops : Array Oper} {rest : List Oper} {o : Oper} {a : Act} {w : World} {Q : Exit → Act → World → Prop} (s x : Operand) (hgd : o.guard = Option.none)
    (ho : o.op = .call { callee := .builtin .append, args := #[s, x], argTypes := #[25, 25] }) {B n : Nat} {v : Value} {xs : List Value} (hs : a.eval s = v) (hB : OwnB B w v n xs)
    {sp : Option Addr} {m c : Nat} {news : List Value} (hx : a.eval x = .slice sp m c) (hS : At w sp news) (hl : news.length = m) (h1 : ∀ u ∈ news, u.oneCell' = true) (h63 : n + m ≤ 1099511627776)
    (h : ∀ a' cap' w', OwnB B w' (.slice a' (n + m) cap') (n + m) (xs ++ news) → w.grownBy w' v.ownBlock → (Value.ownBlock (.slice a' (n + m) cap') = v.ownBlock ∨ Value.ownBlock (.slice a' (n + m) cap') = some w.heap.size) → wpList Tryd.prog ops Q rest (a.put o.dst (.slice a' (n + m) cap')) w') : wpList Tryd.prog ops Q (o :: rest) a w := by
  refine wpList_plain hgd fun K hK => ?_
  obtain ⟨a', cap', w', hr, ho', hg, hat⟩ := run_sep elemB hB.own (m := m) c hS (by omega) h1 (by unfold maxLen; omega) (by omega) hB.le o.type
  unfold Oper.wp execOp
  simp only [ho, resolve, List.map_toArray, List.map_cons, List.map_nil, hs, hx, invoke, builtin, Sem.run_bind, Sem.run_pure, Result.andThen_ok, hr]
  exact hK _ _ (h a' cap' w' ⟨ho', Nat.le_trans hB.le hg.size⟩ hg hat)
theorem wpList_ownB2 {ops : Array Oper} {rest : List Oper} {o : Oper} {a : Act} {w : World} {Q : Exit → Act → World → Prop} (s x : Operand) (hgd : o.guard = Option.none)
    (ho : o.op = .call { callee := .builtin .append, args := #[s, x], argTypes := #[25, 25] }) {B n : Nat} {v : Value} {xs : List Value} (hs : a.eval s = v) (hB : OwnB B w v n xs)
    {sp : Option Addr} {m c : Nat} {news : List Value} (hx : a.eval x = .slice sp m c) (hS : At w sp news) (hl : news.length = m) (h1 : ∀ u ∈ news, u.oneCell' = true) (h63 : n + m ≤ 1099511627776) (N : Nat) (hN : n + m = N) (ys : List Value) (hys : ys = xs ++ news)
    (h : ∀ a' cap' w', OwnB B w' (.slice a' N cap') N ys → w.grownBy w' v.ownBlock → (Value.ownBlock (.slice a' N cap') = v.ownBlock ∨ Value.ownBlock (.slice a' N cap') = some w.heap.size) → wpList Tryd.prog ops Q rest (a.put o.dst (.slice a' N cap')) w') : wpList Tryd.prog ops Q (o :: rest) a w := by
  subst hN; subst hys
  exact wpList_ownB s x hgd ho hs hB hx hS hl h1 h63 h
theorem flat_len (rows : List (List UInt8)) : rows.flatten.length = (rows.map List.length).sum := by simp [List.length_flatten]
/-- bytes put behind others -/
theorem put_on (s : R8) (n : Int) (a b : Option Addr) (ca cb : Nat) (A l m : List UInt8) (hA : l.length = A.length % 64) (hn : n = A.length) (hsz : A.length + m.length ≤ 100000) (w : World) (hl : BytesAt w a l) (hm : BytesAt w b m) (hk : KeysAt w) :
    Calls Tryd.prog 40 #[.agg (hashC s n a l.length ca).toArray, .slice b m.length cb] w fun e w' =>
      ∃ a' cap', e = .returned (.agg (hashC (putS s (l ++ m)) ((A.length + m.length : Nat) : Int) a' (putR (l ++ m)).length cap').toArray) ∧ BytesAt w' a' (putR (l ++ m)) ∧ Below w.heap.size w w' ∧ (putR (l ++ m) = [] ∨ ∃ off, a' = some ⟨w.heap.size + 1 + 1, off, none⟩) := by
  subst hn
  have := put_core2 s A.length a b ca cb l m (by omega) (by omega) (by omega) (by omega) w hl hm hk
  rwa [← Int.natCast_add] at this
theorem putR_app (l m : List UInt8) : putR (putR l ++ m) = putR (l ++ m) := by
  have hl : 64 * nb l ≤ l.length := by unfold nb; omega
  have hn : nb (l ++ m) = nb l + nb (putR l ++ m) := by
    unfold putR nb; rw [List.length_append, List.length_append, List.length_drop]; omega
  have h1 : putR (l ++ m) = (l ++ m).drop (64 * nb (l ++ m)) := rfl
  rw [h1, hn, show 64 * (nb l + nb (putR l ++ m)) = 64 * nb l + 64 * nb (putR l ++ m) by omega, ← List.drop_drop, List.drop_append_of_le_length hl]
  rfl
theorem flat_snoc (rows : List (List UInt8)) (k : Nat) (h : k < rows.length) : (rows.take (k + 1)).flatten = (rows.take k).flatten ++ rows.getD k [] := by
  rw [take_snoc rows k h []]; simp
theorem w64w (x : Int) (h1 : -9223372036854775808 ≤ x) (h2 : x ≤ 9223372036854775807) : wrap64 x = x := by unfold wrap64; omega
/-- how many bytes rows have, and how many there are -/
def totalF (rows : List (List UInt8)) : Nat := rows.length + (rows.map List.length).sum
def sumL (rows : List (List UInt8)) : Nat := (rows.map List.length).sum
theorem sumL_snoc (rows : List (List UInt8)) (k : Nat) (h : k < rows.length) : sumL (rows.take (k + 1)) = sumL (rows.take k) + (rows.getD k []).length := by
  rw [take_snoc rows k h []]; simp [sumL]
theorem sumL_le (rows : List (List UInt8)) (k : Nat) : sumL (rows.take k) ≤ sumL rows := by
  have e : sumL rows = sumL (rows.take k) + sumL (rows.drop k) := by
    conv => lhs; rw [← List.take_append_drop k rows]
    simp only [sumL, List.map_append, List.sum_append]
  omega
end Go.Proofs.YthmcmkdncaccbaaDoor
