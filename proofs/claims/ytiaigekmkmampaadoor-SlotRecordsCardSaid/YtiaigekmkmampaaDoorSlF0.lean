/- Stores: right ones, with letters. -/
import Derived.Test.YtiaigekmkmampaaDoorSlE
import Derived.BigQuiet
import Derived.Deep.DeepCutAuto
set_option linter.unusedSimpArgs false
set_option linter.unusedVariables false
namespace Go.Proofs.YtiaigekmkmampaaDoor
open Go.RowKit

abbrev stL (a : Option Addr) (c : Nat) (b : Option Addr) (d : Nat) : List Value := [.slice a 16 c, .slice b 16 d]
/-- what a right store's slots hold -/
structure StF (w : World) (a : Option Addr) (c : Nat) (b : Option Addr) (d : Nat) (l m : List UInt8) : Prop where
  hc : 16 ≤ c ∧ c ≤ maxLen
  hd : 16 ≤ d ∧ d ≤ maxLen
  ha : BytesAt w a l
  hb : BytesAt w b m
  la : l.length = 16
  lb : m.length = 16
theorem StF.up {w w' : World} {a b : Option Addr} {c d : Nat} {l m : List UInt8} (h : StF w a c b d l m) (hb : Below w.heap.size w w') : StF w' a c b d l m := ⟨h.hc, h.hd, h.ha.mono hb, h.hb.mono hb, h.la, h.lb⟩
theorem BytesAt.notIn {w : World} {b : Nat} {cs : List Value} {a : Option Addr} {l : List UInt8} (h : BytesAt w a l) (hb : Blk w b cs) (hcs : ∀ v ∈ cs, ∀ k n, v ≠ .int k n) (ds : Array Value) : BytesAt (w.setRow b ds) a l := by
  rcases h with h | ⟨b', off, rfl, hlt, hc⟩
  · exact .inl h
  by_cases h0 : l = []
  · subst h0; exact .inl rfl
  refine .inr ⟨b', off, rfl, by simpa using hlt, fun i hi => ?_⟩
  have hne : b' ≠ b := by
    rintro rfl
    have h1 := hc i hi
    obtain ⟨T, hg⟩ := hb
    rw [cell_of_row w b' (off + i) cs.toArray T (0, 0) hg] at h1
    have h2 := Array.mem_of_getElem? h1
    have hi' : i < l.length := by simpa using hi
    have h3 : (B8s l).getD i undef = .int .u8 (bv (l.getD i 0)) := by simp [List.getD, hi']
    rw [h3] at h2
    exact hcs _ (by simpa using h2) _ _ rfl
  have e : (w.setRow b ds).heap[b']? = w.heap[b']? := setRow_other w b b' ds hne
  rw [World.cell?_of_block (w := w) (w' := w.setRow b ds) (a := ⟨b', off + i, none⟩) e]
  exact hc i hi
theorem BytesAt.notSet {w : World} {b j : Nat} {cs : List Value} {a : Option Addr} {l : List UInt8} (h : BytesAt w a l) (hb : Blk w b cs) (hcs : ∀ v ∈ cs, ∀ k n, v ≠ .int k n) (x : Value) : BytesAt (w.setCell ⟨b, j, none⟩ x) a l := by
  rcases h with h | ⟨b', off, rfl, hlt, hc⟩
  · exact .inl h
  refine .inr ⟨b', off, rfl, by simpa using hlt, fun i hi => ?_⟩
  have hne : b' ≠ b := by
    rintro rfl
    have h1 := hc i hi
    obtain ⟨T, hg⟩ := hb
    rw [cell_of_row w b' (off + i) cs.toArray T (0, 0) hg] at h1
    have h2 := Array.mem_of_getElem? h1
    have hi' : i < l.length := by simpa using hi
    have h3 : (B8s l).getD i undef = .int .u8 (bv (l.getD i 0)) := by simp [List.getD, hi']
    rw [h3] at h2
    exact hcs _ (by simpa using h2) _ _ rfl
  have e : (w.setCell ⟨b, j, none⟩ x).heap[b']? = w.heap[b']? := Below.heap_setCell _ _ _ _ hne
  rw [World.cell?_of_block (w := w) (w' := w.setCell ⟨b, j, none⟩ x) (a := ⟨b', off + i, none⟩) e]
  exact hc i hi
theorem noInt2 (a o : Option Addr) (n c m d : Nat) : ∀ v ∈ ([.slice a n c, .slice o m d] : List Value), ∀ k n, v ≠ .int k n := by
  intro v hv k n; simp only [List.mem_cons, List.not_mem_nil, or_false] at hv
  rcases hv with rfl | rfl <;> intro h <;> cases h
theorem rset2 {T : TypeId} {w : World} {b : Nat} {a0 a1 v0 v1 : Value} (h : BlkT T w b [a0, a1]) : BlkT T ((w.setCell ⟨b, 0, none⟩ v0).setCell ⟨b, 1, none⟩ v1) b [v0, v1] := (h.set 0 v0).set 1 v1
theorem rset2_below {w0 w : World} {B b : Nat} {v0 v1 : Value} (h : Below B w0 w) (hb : B ≤ b) : Below B w0 ((w.setCell ⟨b, 0, none⟩ v0).setCell ⟨b, 1, none⟩ v1) := (h.setCell hb v0).setCell hb v1
theorem StF.row {w : World} {b : Nat} {a a2 o o2 : Option Addr} {c c2 d d2 : Nat} {l m : List UInt8} (h : StF w a c o d l m) (hb : BlkT 24 w b (stL a2 c2 o2 d2)) (ds : Array Value) : StF (w.setRow b ds) a c o d l m := by
  have hcs : ∀ v ∈ stL a2 c2 o2 d2, ∀ k n, v ≠ .int k n := by
    intro v hv k n; simp only [stL, List.mem_cons, List.not_mem_nil, or_false] at hv
    rcases hv with rfl | rfl <;> intro h <;> cases h
  exact ⟨h.hc, h.hd, h.ha.notIn hb.blk hcs ds, h.hb.notIn hb.blk hcs ds, h.la, h.lb⟩
theorem StF.set2 {w : World} {b : Nat} {a a2 o o2 a3 o3 : Option Addr} {c c2 d d2 c3 d3 n2 n3 m2 m3 : Nat} {l m : List UInt8} (h : StF w a c o d l m) (hb : BlkT 24 w b [.slice a2 n2 c2, .slice o2 m2 d2]) :
    StF ((w.setCell ⟨b, 0, none⟩ (.slice a3 n3 c3)).setCell ⟨b, 1, none⟩ (.slice o3 m3 d3)) a c o d l m :=
  ⟨h.hc, h.hd, (h.ha.notSet hb.blk (noInt2 _ _ _ _ _ _) _).notSet (cs := [.slice a3 n3 c3, .slice o2 m2 d2]) (hb.set 0 _).blk (noInt2 _ _ _ _ _ _) _, (h.hb.notSet hb.blk (noInt2 _ _ _ _ _ _) _).notSet (cs := [.slice a3 n3 c3, .slice o2 m2 d2]) (hb.set 0 _).blk (noInt2 _ _ _ _ _ _) _, h.la, h.lb⟩
theorem StF.st {w : World} {a b : Option Addr} {c d : Nat} {l m : List UInt8} (h : StF w a c b d l m) : StAt w (.agg #[.slice a 16 c, .slice b 16 d]) l m :=
  ⟨a, c, b, d, by rw [h.la, h.lb], by rw [h.la]; exact h.hc, by rw [h.lb]; exact h.hd, h.ha, h.hb⟩
theorem StF.of {w : World} {v : Value} {l m : List UInt8} (h : StAt w v l m) (hl : l.length = 16) (hm : m.length = 16) : ∃ a c b d, v = .agg #[.slice a 16 c, .slice b 16 d] ∧ StF w a c b d l m := by
  obtain ⟨a, c, b, d, h1, h2, h3, h4, h5⟩ := h
  exact ⟨a, c, b, d, by rw [h1, hl, hm], by rw [← hl]; exact h2, by rw [← hm]; exact h3, h4, h5, hl, hm⟩
theorem lay2_below (w : World) (Z L : List Value) (T : TypeId) : Below w.heap.size w ((w.alloc (.cells Z.toArray T)).setRow w.heap.size L.toArray) := below_setRow (ba w _) (Nat.le_refl _) _
theorem lay2_blk (w : World) (Z L : List Value) (T : TypeId) : BlkT T ((w.alloc (.cells Z.toArray T)).setRow w.heap.size L.toArray) w.heap.size L := (BlkT.new w Z T).row L
theorem wpList_load_blkS {P : Program} {ops : Array Oper} {rest : List Oper} {o : Oper} {a : Act} {w : World} {Q : Exit → Act → World → Prop} (ty : TypeId) (x : Operand) (g : Nat) {cs : List Value} (hw : Region.wanted o (yielded ops a.tmps) = true) (ho : o.op = .load ty x)
    (hx : a.eval x = .pointer (some ⟨g, 0, none⟩)) (hb : Blk w g cs) {d : TypeDesc} (hu : P.underlying ty = some d) (hd : (match d with | .struct _ | .array _ _ => true | _ => false) = true) (hi : (P.info? ty).map (·.size) = some cs.length)
    (h : wpList P ops Q rest (a.put o.dst (.agg cs.toArray)) w) : wpList P ops Q (o :: rest) a w := by
  obtain ⟨T, hg⟩ := hb
  exact BigFrame.wpList_want hw fun _ hK => wp_load_row ty x ho g hx T cs.toArray _ d hg hu hd (by simpa using hi) (hK _ _ h)
/-- a store behind an epoch, with letters -/
def TakeT (w : World) (L M : List UInt8) (N E : Int) (x : Ending) (w' : World) : Prop := ∃ a c b d, x = .returned (.tuple #[.agg #[.slice a 16 c, .slice b 16 d], .int .i64 N, .int .i64 E]) ∧ StF w' a c b d L M ∧ Below w.heap.size w w'
theorem take_st {w : World} {a b : Option Addr} {c d : Nat} {l m L M : List UInt8} {cut N E : Int} (h : StF w a c b d l m) (hk : KeysAt w) (h1 : takeA l m cut = L) (h2 : takeB l m cut = M) (h3 : (takeN l m cut : Int) = N) (h4 : (takeE l m cut : Int) = E) :
    Calls Tryd.prog 22 #[.agg #[.slice a 16 c, .slice b 16 d], .int .i64 cut] w (TakeT w L M N E) := by
  subst h1 h2 h3 h4
  refine (take_core l m h.la h.lb a b c d h.hc h.hd cut w h.ha h.hb hk).mono fun e w' ⟨v, p, q, r⟩ => ?_
  obtain ⟨k1, k2⟩ := take_lens l m cut h.la h.lb
  obtain ⟨a', c', b', d', rfl, q'⟩ := StF.of q k1 k2
  exact ⟨a', c', b', d', p, q', r⟩
theorem best_st {w : World} {a b : Option Addr} {c d : Nat} {l m : List UInt8} {N A : Int} {t : Bool} (h : StF w a c b d l m) (hk : KeysAt w) (h1 : (bestN l m : Int) = N) (h2 : (bestAt l m : Int) = A) (h3 : decide (0 < bestN l m) = t) :
    Calls Tryd.prog 20 #[.agg #[.slice a 16 c, .slice b 16 d]] w fun e w' => e = .returned (.tuple #[.int .i64 N, .int .i64 A, .bool t]) ∧ Below w.heap.size w w' := by
  subst h1 h2 h3
  exact best_any _ l m w h.st hk
/-- a store as a result, with letters -/
def StT (w : World) (l m : List UInt8) (e : Ending) (w' : World) : Prop := ∃ a c b d, e = .returned (.agg #[.slice a 16 c, .slice b 16 d]) ∧ StF w' a c b d l m ∧ Below w.heap.size w w'
theorem new_st (w : World) (hk : KeysAt w) : Calls Tryd.prog 16 #[] w (StT w (recF 1) zerosL) :=
  (stNew_any w hk).mono fun e w' ⟨v, p, q, r⟩ => by
    obtain ⟨a, c, b, d, rfl, q'⟩ := StF.of q (recF_len 1) rfl
    exact ⟨a, c, b, d, p, q', r⟩
end Go.Proofs.YtiaigekmkmampaaDoor
