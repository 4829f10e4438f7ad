/- How rows of rows, and feeds, that came in are told to the walks. -/
import Derived.Test.YtcccgjpmfbmplaaInB
import Derived.Test.YtcccgjpmfbmplaaRows2
import Derived.Test.YtcccgjpmfbmplaaBase
import Derived.Deep.Slices
import Derived.ChangeSame
import Derived.Deep.Fields
set_option linter.unusedSimpArgs false
set_option linter.unusedVariables false
namespace Go.Proofs.Ytcccgjpmfbmplaa
open Go.ChangeShapes Go.WideShapes Go.ChangeAt Go.RowKit

/-- what is told of rows of bytes that came in -/
def InRows (w : World) (a : Option Addr) (len cap : Nat) (rows : List (List UInt8)) : Prop := len = rows.length ∧ len ≤ cap ∧ cap ≤ maxLen ∧ RowsAt w a rows
theorem choose_rows (w : World) (len : Nat) (g : Nat → Value) (h : ∀ i, i < len → ∃ r, RowIs w (g i) r) : ∃ rows : List (List UInt8), rows.length = len ∧ RowsOf w ((List.range len).map g) rows := by
  induction len with
  | zero => exact ⟨[], rfl, .nil w⟩
  | succ n ih =>
    obtain ⟨rows, h1, h2⟩ := ih fun i hi => h i (by omega)
    obtain ⟨r, hr⟩ := h n (by omega)
    refine ⟨rows ++ [r], by simp [h1], ?_⟩
    rw [List.range_succ, List.map_append]
    exact h2.app (.one hr)
theorem rows_in {H : Type} {enc : TypeId × Value → H} {P : Program} {w : World} {t e f : TypeId} {a : Option Addr} {len cap : Nat} {d : DataW H} {ps : List MemPlace}
    (ht : P.underlying t = some (.slice e)) (he : P.underlying e = some (.slice f)) (hf : P.underlying f = some (.int .u8)) (hce : P.cellsOf e = 1) (hcf : P.cellsOf f = 1)
    (h : DataW.Trod enc P w 0 (fun _ => true) true t (.slice a len cap) d ps) : ∃ rows, InRows w a len cap rows := by
  obtain ⟨fuel, hfu⟩ := h
  rcases Go.Deep.open_slice ht hfu with ⟨h0, _⟩ | ⟨x, l, c, m, n, D, Pl, hcs, hb, hl, hm, hmm, hx, hi⟩
  · simp [Value.cells] at h0
    obtain ⟨rfl, rfl, rfl⟩ := h0
    exact ⟨[], rfl, Nat.le_refl _, Nat.zero_le _, .nil w _⟩
  · simp [Value.cells] at hcs
    obtain ⟨rfl, rfl, rfl⟩ := hcs
    have hcell : ∀ i, i < len → ∃ v r, w.cell? (x.add i) = some v ∧ RowIs w v r := fun i hil => by
      have him : i < m := by rw [hmm]; split <;> omega
      obtain ⟨cs', hc, ht'⟩ := hi i him
      rw [hce] at hc
      obtain ⟨_, hcl, hat⟩ := World.cells?_some hc
      have hl1 : cs'.length = 1 := hcl
      match cs', hl1 with
      | [v], _ =>
        have a0 := hat 0 (by decide)
        have hx0 : (x.add (i * 1)).add 0 = x.add i := by simp [Addr.add]
        rw [hx0] at a0
        have a0' : w.cell? (x.add i) = some v := a0
        obtain ⟨p, pl, pc, hv⟩ : ∃ p pl pc, v = .slice p pl pc := by
          rcases Go.Deep.open_slice he ht' with ⟨h4, _⟩ | ⟨a, len, cap, _, _, _, _, h4, _⟩
          · exact ⟨_, _, _, by simpa using h4⟩
          · exact ⟨_, _, _, by simpa using h4⟩
        subst hv
        obtain ⟨r, hr1, hr2, hr3, hr4⟩ := bytes_in (enc := enc) (w := w) (a := p) (len := pl) (cap := pc) he hf hcf ⟨_, ht'⟩
        exact ⟨_, r, a0', p, pc, by rw [hr1], by omega, hr3, hr4⟩
    by_cases hz : len = 0
    · subst hz; exact ⟨[], rfl, hl, hm, .nil w _⟩
    · have hxs : x.spot = none := by
        obtain ⟨v, r, h1, h2⟩ := hcell 0 (by omega)
        have hx0 : x.add 0 = x := by simp [Addr.add]
        rw [hx0] at h1
        exact (cell_block h1).1
      have hxb : x.block < w.heap.size := by
        obtain ⟨v, r, h1, h2⟩ := hcell 0 (by omega)
        have hx0 : x.add 0 = x := by simp [Addr.add]
        rw [hx0] at h1
        exact (cell_block h1).2
      obtain ⟨xb, xo, xs⟩ := x
      simp only at hxs hxb
      subst hxs
      obtain ⟨rows, h1, h2⟩ := choose_rows w len (fun i => (w.cell? ⟨xb, xo + i, none⟩).getD undef) (fun i hi => by
        obtain ⟨v, r, h1, h2⟩ := hcell i hi
        rw [WideShapes.add_plain] at h1
        exact ⟨r, by rw [h1]; exact h2⟩)
      refine ⟨rows, h1.symm, hl, hm, _, .inr ⟨xb, xo, rfl, hxb, fun i hi => ?_⟩, h2⟩
      have hi' : i < len := by simpa using hi
      obtain ⟨v, r, h3, h4⟩ := hcell i hi'
      rw [WideShapes.add_plain] at h3
      rw [h3]
      simp [List.getD, hi', h3]
section
variable {H : Type} {enc : TypeId × Value → H} {w : World}
theorem feed_of {fuel : Nat} {cs : List Value} {x : DataW H × List MemPlace} (h : DataW.trod enc Try.prog w 0 (fun _ => true) true fuel 25 cs = some x) :
    ∃ (a : Option Addr) (len cap : Nat) (skip bad : Int) (l : List UInt8), cs = [.slice a len cap, .int .i64 skip, .int .i64 bad] ∧ InBytes w a len cap l ∧ (Lit.int .i64 skip).wf = true ∧ (Lit.int .i64 bad).wf = true := by
  obtain ⟨xs, n, rfl, hx, hl, hxl, hg⟩ := DataW.trod_struct Try.underlying25 h
  have h0 := hg 0 _ rfl
  have h1 := hg 1 _ rfl
  have h2 := hg 2 _ rfl
  have hxl' : xs.length = 3 := hxl
  rw [List.getElem?_eq_getElem (by omega : 0 < xs.length)] at h0
  rw [List.getElem?_eq_getElem (by omega : 1 < xs.length)] at h1
  rw [List.getElem?_eq_getElem (by omega : 2 < xs.length)] at h2
  have e0 : Try.prog.cellsOf 3 = 1 := by kernel_rfl
  have e1 : Try.prog.cellsOf 23 = 1 := by kernel_rfl
  have e2 : Try.prog.cellsOf 25 = 3 := by kernel_rfl
  have hl' : cs.length = 3 := by rw [← e2]; exact hl
  have k0 : DataW.trod enc Try.prog w 0 (fun _ => true) true n 23 ((cs.drop 0).take (Try.prog.cellsOf 23)) = some xs[0] := h0
  have k1 : DataW.trod enc Try.prog w 0 (fun _ => true) true n 3 ((cs.drop 1).take (Try.prog.cellsOf 3)) = some xs[1] := h1
  have k2 : DataW.trod enc Try.prog w 0 (fun _ => true) true n 3 ((cs.drop 2).take (Try.prog.cellsOf 3)) = some xs[2] := h2
  rw [e1] at k0
  rw [e0] at k1 k2
  match cs, hl' with
  | [c0, c1, c2], _ =>
    obtain ⟨m1, q1, _, w1⟩ := DataW.trod_int Try.underlying3 (show DataW.trod enc Try.prog w 0 (fun _ => true) true n 3 [c1] = some xs[1] from k1)
    obtain ⟨m2, q2, _, w2⟩ := DataW.trod_int Try.underlying3 (show DataW.trod enc Try.prog w 0 (fun _ => true) true n 3 [c2] = some xs[2] from k2)
    have h3 : DataW.trod enc Try.prog w 0 (fun _ => true) true n 23 [c0] = some xs[0] := k0
    obtain ⟨a, len, cap, hc⟩ : ∃ a len cap, c0 = .slice a len cap := by
      rcases Go.Deep.open_slice Try.underlying23 h3 with ⟨h4, _⟩ | ⟨a, len, cap, _, _, _, _, h4, _⟩
      · exact ⟨_, _, _, by simpa using h4⟩
      · exact ⟨_, _, _, by simpa using h4⟩
    subst hc
    obtain ⟨l, hin⟩ := bytes_in (enc := enc) (w := w) (a := a) (len := len) (cap := cap) (d := xs[0].1) (ps := xs[0].2) Try.underlying23 Try.underlying5 (by kernel_rfl) ⟨n, h3⟩
    simp only [List.cons.injEq, and_true] at q1 q2
    exact ⟨a, len, cap, m1, m2, l, by rw [q1, q2], hin, w1, w2⟩
end
theorem feed_in {H : Type} {enc : TypeId × Value → H} {w : World} {r : Reach} {b0 : Nat} {v : Value} {d : DataW H} {p : List MemPlace}
    (hv : Value.okWide Try.prog w r b0 25 v) (h : DataW.Trod enc Try.prog w 0 (fun _ => true) true 25 v d p) :
    ∃ (a : Option Addr) (len cap : Nat) (skip bad : Int) (l : List UInt8), v = .agg #[.slice a len cap, .int .i64 skip, .int .i64 bad] ∧ InBytes w a len cap l ∧ (Lit.int .i64 skip).wf = true ∧ (Lit.int .i64 bad).wf = true := by
  obtain ⟨⟨cs⟩, rfl, hsz⟩ := okWide_struct Try.underlying25 hv
  obtain ⟨fuel, hf⟩ := h
  obtain ⟨a, len, cap, skip, bad, l, hR, hI⟩ := feed_of hf
  have hR' : cs = [.slice a len cap, .int .i64 skip, .int .i64 bad] := hR
  exact ⟨a, len, cap, skip, bad, l, by rw [hR'], hI⟩
end Go.Proofs.Ytcccgjpmfbmplaa
