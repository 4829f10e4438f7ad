/- Slices whose elements are single cells: what a walk is told of them. No program in sight. -/
import Derived.WalkKit
import Derived.WalkSpells
import Derived.Lib.Hide
import Derived.BigQuiet
import Derived.WideShapes
import Derived.Laws.CopyRow
import Derived.Laws.ResultCell
import Derived.Laws.IdiomCopy
import Derived.BigRegion
set_option linter.unusedSimpArgs false
set_option linter.unusedVariables false
namespace Go.Proofs.YthmcmkdncaccbaaDoor
open Go.RowKit

/-- The slice with address a holds the values cs, in world w. -/
def At (w : World) (a : Option Addr) (cs : List Value) : Prop :=
  cs = [] ∨ ∃ b off, a = some ⟨b, off, none⟩ ∧ b < w.heap.size ∧ ∀ i, i < cs.length → w.cell? ⟨b, off + i, none⟩ = some (cs.getD i undef)

theorem At.mono {w w' : World} {a : Option Addr} {cs : List Value} (h : At w a cs) (hb : Below w.heap.size w w') : At w' a cs := by
  rcases h with h | ⟨b, off, rfl, hlt, hc⟩
  · exact .inl h
  · exact .inr ⟨b, off, rfl, Nat.lt_of_lt_of_le hlt hb.size, fun i hi => by rw [hb.cell (p := ⟨b, off + i, none⟩) hlt]; exact hc i hi⟩

theorem At.take {w : World} {a : Option Addr} {cs : List Value} (h : At w a cs) (k : Nat) : At w a (cs.take k) := by
  rcases h with rfl | ⟨b, off, rfl, hlt, hc⟩
  · exact .inl (by simp)
  · refine .inr ⟨b, off, rfl, hlt, fun i hi => ?_⟩
    have h1 : i < k ∧ i < cs.length := by simpa [List.length_take, Nat.lt_min] using hi
    rw [hc i h1.2]; simp [List.getD, List.getElem?_take, h1.1]

/-- the integers l, of kind q -/
abbrev IntsAt (q : IntKind) (w : World) (a : Option Addr) (l : List Int) : Prop := At w a (l.map (Value.int q))

theorem getD_map_int (q : IntKind) (l : List Int) (i : Nat) (h : i < l.length) : (l.map (Value.int q)).getD i undef = .int q (l.getD i 0) := by
  simp [List.getD, h]

theorem IntsAt.cell {q : IntKind} {w : World} {a : Option Addr} {l : List Int} (h : IntsAt q w a l) (hl : 0 < l.length) :
    ∃ b off, a = some ⟨b, off, none⟩ ∧ b < w.heap.size ∧ ∀ i, i < l.length → w.cell? ⟨b, off + i, none⟩ = some (.int q (l.getD i 0)) := by
  rcases h with h | ⟨b, off, rfl, hlt, hc⟩
  · simp at h; subst h; simp at hl
  · exact ⟨b, off, rfl, hlt, fun i hi => by rw [hc i (by simpa using hi), getD_map_int q l i hi]⟩

theorem bcell {W w1 : World} (hb : Below W.heap.size W w1) : (∀ b o, b < W.heap.size → w1.cell? ⟨b, o, none⟩ = W.cell? ⟨b, o, none⟩) ∧ (∀ b o, b < W.heap.size → w1.frozen? ⟨b, o, none⟩ = W.frozen? ⟨b, o, none⟩) :=
  ⟨fun b o h => hb.cell (p := ⟨b, o, none⟩) h, fun b o h => hb.frozen (p := ⟨b, o, none⟩) h⟩

theorem take_snoc {α : Type} [Inhabited α] (l : List α) (k : Nat) (h : k < l.length) (d : α) : l.take (k + 1) = l.take k ++ [l.getD k d] := by
  rw [List.take_succ_eq_append_getElem h]; simp [List.getD, h]

theorem bt {a b c : World} (h : Below a.heap.size a b) (k : Below b.heap.size b c) : Below a.heap.size a c := h.trans (k.mono h.size)
theorem ba (w : World) (o : Obj) : Below w.heap.size w (w.alloc o) := (Below.refl _ _).alloc (Nat.le_refl _) _
theorem bd (w : World) : Below w.heap.size w w.drew := (Below.refl _ _).drew

/-- the address of s[l:], where an element takes n cells -/
def adv (a : Option Addr) (cap l n : Nat) : Option Addr := if cap = l then a else a.map (·.add (l * n))

theorem At.adv {w : World} {a : Option Addr} {cs : List Value} (h : At w a cs) {cap l n len : Nat} (hl : cs.length = len * n) (hc : len ≤ cap) : At w (adv a cap l n) (cs.drop (l * n)) := by
  by_cases hd : cs.drop (l * n) = []
  · exact .inl hd
  · have hlt : l * n < cs.length := by
      rcases Nat.lt_or_ge (l * n) cs.length with h | h
      · exact h
      · exact (hd (List.drop_of_length_le h)).elim
    rcases h with rfl | ⟨b, off, rfl, hb, hcell⟩
    · simp at hd
    · have hll : l < len := by rw [hl] at hlt; exact Nat.lt_of_mul_lt_mul_right hlt
      refine .inr ⟨b, off + l * n, ?_, hb, fun i hi => ?_⟩
      · unfold Proofs.YthmcmkdncaccbaaDoor.adv; rw [if_neg (by omega)]
        simp only [Option.map_some]
        by_cases h0 : l * n = 0
        · simp [Addr.add, h0]
        · simp [Addr.add, h0]
      · have h2 : l * n + i < cs.length := by simp at hi; omega
        have := hcell (l * n + i) h2
        rw [← Nat.add_assoc] at this
        rw [this]; simp [List.getD]

/-- block b of w is a row of the cells cs, none of them frozen -/
def Blk (w : World) (b : Nat) (cs : List Value) : Prop := ∃ T, w.heap[b]? = some (.cells cs.toArray T (0, 0))

theorem Blk.lt {w : World} {b : Nat} {cs : List Value} (h : Blk w b cs) : b < w.heap.size := by
  obtain ⟨T, h⟩ := h
  rcases Nat.lt_or_ge b w.heap.size with h' | h'
  · exact h'
  · rw [Array.getElem?_eq_none h'] at h; cases h
theorem Blk.cell {w : World} {b : Nat} {cs : List Value} (h : Blk w b cs) (i : Nat) (hi : i < cs.length) : w.cell? ⟨b, i, none⟩ = some (cs.getD i undef) := by
  obtain ⟨T, h⟩ := h
  simp [World.cell?, h, List.getD, hi]
theorem Blk.frozen {w : World} {b : Nat} {cs : List Value} (h : Blk w b cs) (i : Nat) : w.frozen? ⟨b, i, none⟩ = false := by
  obtain ⟨T, h⟩ := h
  simp [World.frozen?, h]
theorem Blk.set {w : World} {b : Nat} {cs : List Value} (h : Blk w b cs) (i : Nat) (v : Value) : Blk (w.setCell ⟨b, i, none⟩ v) b (cs.set i v) := by
  obtain ⟨T, h⟩ := h
  refine ⟨T, ?_⟩
  simp [World.setCell, Array.getElem?_modify, h]
theorem Blk.other {w : World} {b : Nat} {cs : List Value} (h : Blk w b cs) (a : Addr) (hb : b ≠ a.block) (v : Value) : Blk (w.setCell a v) b cs := by
  obtain ⟨T, h⟩ := h
  exact ⟨T, by rw [Below.heap_setCell _ _ _ _ hb]; exact h⟩
theorem Blk.alloc {w : World} {b : Nat} {cs : List Value} (h : Blk w b cs) (o : Obj) : Blk (w.alloc o) b cs := by
  have hl := h.lt
  obtain ⟨T, h⟩ := h
  exact ⟨T, by rw [Below.heap_alloc _ _ _ hl]; exact h⟩
theorem Blk.drew {w : World} {b : Nat} {cs : List Value} (h : Blk w b cs) : Blk w.drew b cs := h
theorem Blk.drewN {w : World} {b : Nat} {cs : List Value} (h : Blk w b cs) (n : Nat) : Blk (w.drewN n) b cs := h
theorem Blk.below {w w' : World} {b : Nat} {cs : List Value} (h : Blk w b cs) {B : Nat} (hb : Below B w w') (hlt : b < B) : Blk w' b cs := by
  obtain ⟨T, h⟩ := h
  exact ⟨T, by rw [hb.block b hlt]; exact h⟩
theorem Blk.new (w : World) (cs : List Value) (T : TypeId) : Blk (w.alloc (.cells cs.toArray T)) w.heap.size cs := ⟨T, by simp only [World.alloc, Array.getElem?_push, if_true]⟩
theorem Blk.at {w : World} {b : Nat} {cs : List Value} (h : Blk w b cs) : At w (some ⟨b, 0, none⟩) cs :=
  .inr ⟨b, 0, rfl, h.lt, fun i hi => by rw [Nat.zero_add]; exact h.cell i hi⟩

theorem Blk.row {w : World} {b : Nat} {cs : List Value} (h : Blk w b cs) (ds : List Value) : Blk (w.setRow b ds.toArray) b ds := by
  obtain ⟨T, h⟩ := h; exact ⟨T, setRow_heap w b _ _ T _ h⟩
theorem Blk.rowOther {w : World} {b : Nat} {cs : List Value} (h : Blk w b cs) (g : Nat) (hb : b ≠ g) (ds : Array Value) : Blk (w.setRow g ds) b cs := by
  obtain ⟨T, h⟩ := h; exact ⟨T, by rw [setRow_other w g b ds hb]; exact h⟩
theorem below_setRow {B : Nat} {a w : World} (h : Below B a w) {g : Nat} (hg : B ≤ g) (cs : Array Value) : Below B a (w.setRow g cs) :=
  h.trans ⟨rfl, rfl, rfl, by simp, fun k hk => setRow_other w g k cs (by omega)⟩

theorem wpList_load_blk {P : Program} {ops : Array Oper} {rest : List Oper} {o : Oper} {a : Act} {w : World} {Q : Exit → Act → World → Prop} (ty : TypeId) (x : Operand) (g : Nat) {cs : List Value} (hgd : o.guard = none) (ho : o.op = .load ty x)
    (hx : a.eval x = .pointer (some ⟨g, 0, none⟩)) (hb : Blk w g cs) {d : TypeDesc} (hu : P.underlying ty = some d) (hd : (match d with | .struct _ | .array _ _ => true | _ => false) = true) (hi : (P.info? ty).map (·.size) = some cs.length)
    (h : wpList P ops Q rest (a.put o.dst (.agg cs.toArray)) w) : wpList P ops Q (o :: rest) a w := by
  obtain ⟨T, hg⟩ := hb
  exact wpList_load_row hgd ty x ho g hx T cs.toArray _ d hg hu hd (by simpa using hi) h
theorem wpList_store_blk {P : Program} {ops : Array Oper} {rest : List Oper} {o : Oper} {a : Act} {w : World} {Q : Exit → Act → World → Prop} (ty : TypeId) (x y : Operand) (g : Nat) {cs old : List Value} (hgd : o.guard = none) (ho : o.op = .store ty x y)
    (hx : a.eval x = .pointer (some ⟨g, 0, none⟩)) (hy : a.eval y = .agg cs.toArray) (hb : Blk w g old) (hi : (P.info? ty).map (·.size) = some cs.length) (hl : old.length = cs.length) (h1 : cs.all (·.oneCell') = true)
    (h : wpList P ops Q rest (a.put o.dst undef) (w.setRow g cs.toArray)) : wpList P ops Q (o :: rest) a w := by
  obtain ⟨T, hg⟩ := hb
  exact wpList_store_row hgd ty x y ho g cs.toArray hx hy T old.toArray hg (by simpa using hi) (by simpa using hl) (by simpa using h1) h
theorem results_blk {P : Program} {fn : Func} {p : Tmp} {ty : TypeId} (h : fn.results = #[.cell p ty]) (tmps : Array Value) (w : World) (g : Nat) {cs : List Value} {d : TypeDesc}
    (hp : tmps.getD p undef = .pointer (some ⟨g, 0, none⟩)) (hb : Blk w g cs) (hu : P.underlying ty = some d) (hd : (match d with | .struct _ | .array _ _ => true | _ => false) = true) (hi : (P.info? ty).map (·.size) = some cs.length) :
    (results fn tmps).run P w = .ok (.agg cs.toArray) w := by
  obtain ⟨T, hg⟩ := hb
  exact results_cell_row h tmps w g T cs.toArray _ d hp hg hu hd (by simpa using hi)

theorem results_blk_tmp {P : Program} {fn : Func} {p u : Tmp} {ty : TypeId} (h : fn.results = #[.cell p ty, .tmp u]) (tmps : Array Value) (w : World) (g : Nat) {cs : List Value} {d : TypeDesc}
    (hp : tmps.getD p undef = .pointer (some ⟨g, 0, none⟩)) (v2 : Value) (hv : tmps.getD u undef = v2) (hb : Blk w g cs) (hu : P.underlying ty = some d) (hd : (match d with | .struct _ | .array _ _ => true | _ => false) = true) (hi : (P.info? ty).map (·.size) = some cs.length) :
    (results fn tmps).run P w = .ok (.tuple #[.agg cs.toArray, v2]) w := by
  obtain ⟨T, hg⟩ := hb
  rw [results_cell_tmp h, hp, hv]
  simp [asAddr, run_loadVar_row w g T ty cs.toArray _ d hg hu hd (by simpa using hi)]
/-- a copy into a block of one's own -/
theorem copy_into {P : Program} {w : World} {b : Nat} {cs scs : List Value} {sp : Option Addr} (hB : Blk w b cs) (hS : At w sp scs) {dT sT ty elem : TypeId} (hu : P.underlying dT = some (.slice elem)) (hs : (P.info? elem).map (·.size) = some 1)
    (dp : Option Addr) (o dLen dCap sLen sCap n : Nat) (hl : sLen = scs.length) (hn : n = Nat.min sLen dLen) (hd : 0 < n → dp = some ⟨b, o, none⟩) (hfit : o + n ≤ cs.length) (h1 : ∀ v ∈ scs, v.oneCell' = true) :
    ∃ w2, (Builtin.copy_ #[dT, sT] ty #[.slice dp dLen dCap, .slice sp sLen sCap]).run P w = .ok (goInt n) w2 ∧
      Blk w2 b (cs.take o ++ scs.take n ++ cs.drop (o + n)) ∧ (∀ b' ds, b' ≠ b → Blk w b' ds → Blk w2 b' ds) ∧ (∀ B w0, Below B w0 w → B ≤ b → Below B w0 w2) := by
  by_cases h0 : n = 0
  · subst h0
    refine ⟨w, run_copy_none w dT sT ty elem dp sp dLen dCap sLen sCap hu hs hn.symm, ?_, fun _ _ _ h => h, fun _ _ h _ => h⟩
    simpa using hB
  · rw [hd (by omega)]
    have hsl : n ≤ scs.length := by rw [hn, hl]; exact Nat.min_le_left _ _
    rcases hS with rfl | ⟨sb, so, rfl, hlt, hc⟩
    · simp at hsl; omega
    · obtain ⟨T, hg⟩ := hB
      have hlen : (scs.take n).length = n := by rw [List.length_take]; omega
      have hrun := run_copy_row (P := P) w dT sT ty elem b o dLen dCap ⟨sb, so, none⟩ sLen sCap cs.toArray T (scs.take n) hu hs hg (by rw [hlen, hn]) (fun j v hj => by
        have hjn : j < n := by
          rcases Nat.lt_or_ge j n with h | h
          · exact h
          · rw [List.getElem?_eq_none (by omega)] at hj; cases hj
        rw [WideShapes.add_plain, hc j (by omega)]
        rw [List.getElem?_take, if_pos hjn] at hj
        simp [List.getD, hj]) (by rw [hlen]; simpa using hfit) (fun v hv => h1 v (List.mem_of_mem_take hv))
      rw [hlen] at hrun
      refine ⟨_, hrun, ?_, fun b' ds hne h => h.rowOther b hne _, fun B w0 h hB => below_setRow h hB _⟩
      exact ⟨T, setRow_heap w b _ _ T _ hg⟩

theorem set_mid {α : Type} (l : List α) (z v : α) (n t : Nat) (hl : l.length = t) (hn : t < n) : (l ++ List.replicate (n - t) z).set t v = (l ++ [v]) ++ List.replicate (n - (t + 1)) z := by
  obtain ⟨m, hm⟩ : ∃ m, n - t = m + 1 := ⟨n - t - 1, by omega⟩
  rw [List.set_append_right _ _ (by omega), hl, Nat.sub_self, hm, List.replicate_succ, List.set_cons_zero, show n - (t + 1) = m by omega]
  simp

theorem run_adv_l {P : Program} {t e : TypeId} {n : Nat} (ht : P.underlying t = some (.slice e)) (hs : ∀ w, (sizeOf e).run P w = .ok n w) (w : World) (a : Option Addr) (len cap : Nat) (l : Int) (h0 : 0 ≤ l) (h1 : l ≤ len) :
    (Instr.sliceAt t (.slice a len cap) (some (.int .i64 l)) none none).run P w = .ok (.slice (adv a cap l.toNat n) (len - l.toNat) (cap - l.toNat)) w := by
  have he : P.elem t = e := by simp [Program.elem, ht]
  rw [run_sliceAt_slice _ _ _ _ _ _ (by rw [he]; exact ht), run_slice_l _ _ _ _ _ (by rw [he]; exact ht) _ _ h0 h1, he, hs]; rfl

theorem run_adv_h {P : Program} {t e : TypeId} {n : Nat} (ht : P.underlying t = some (.slice e)) (hs : ∀ w, (sizeOf e).run P w = .ok n w) (w : World) (a : Option Addr) (len cap : Nat) (h : Int) (h0 : 0 ≤ h) (h1 : h ≤ cap) :
    (Instr.sliceAt t (.slice a len cap) none (some (.int .i64 h)) none).run P w = .ok (.slice (adv a cap 0 n) (h.toNat - 0) (cap - 0)) w := by
  have he : P.elem t = e := by simp [Program.elem, ht]
  rw [run_sliceAt_slice _ _ _ _ _ _ (by rw [he]; exact ht), run_slice_h _ _ _ _ _ (by rw [he]; exact ht) _ _ h0 h1, he, hs]; rfl

theorem run_adv_lh {P : Program} {t e : TypeId} {n : Nat} (ht : P.underlying t = some (.slice e)) (hs : ∀ w, (sizeOf e).run P w = .ok n w) (w : World) (a : Option Addr) (len cap : Nat) (l h : Int) (h0 : 0 ≤ l) (h1 : l ≤ h) (h2 : h ≤ cap) :
    (Instr.sliceAt t (.slice a len cap) (some (.int .i64 l)) (some (.int .i64 h)) none).run P w = .ok (.slice (adv a cap l.toNat n) (h.toNat - l.toNat) (cap - l.toNat)) w := by
  have he : P.elem t = e := by simp [Program.elem, ht]
  rw [run_sliceAt_slice _ _ _ _ _ _ (by rw [he]; exact ht), run_slice_lh _ _ _ _ _ (by rw [he]; exact ht) _ _ _ _ h0 h1 h2, he, hs]; rfl

end Go.Proofs.YthmcmkdncaccbaaDoor
