/- How steps that came in are told to the walks. -/
import Derived.Test.YtelndpphbpandaaInR
import Derived.ChangeSame
import Derived.Deep.Fields
set_option linter.unusedSimpArgs false
set_option linter.unusedVariables false
namespace Go.Proofs.Ytelndpphbpandaa
open Go.ChangeShapes Go.WideShapes Go.ChangeAt Go.RowKit

/-- what is told of steps that came in -/
def InSteps (w : World) (a : Option Addr) (len : Nat) : Prop := ∀ i, i < len → ∃ (b off : Nat) (kind no : Int) (f : UInt8), a = some ⟨b, off, none⟩ ∧ b < w.heap.size ∧ 0 ≤ kind ∧ kind ≤ 255 ∧
  w.cell? ⟨b, off + i * 3, none⟩ = some (.int .u8 kind) ∧ w.cell? ⟨b, off + i * 3 + 1, none⟩ = some (.int .i64 no) ∧ w.cell? ⟨b, off + i * 3 + 2, none⟩ = some (.int .u8 (bv f))
theorem InSteps.mono {w w' : World} {a : Option Addr} {len : Nat} (h : InSteps w a len) (hb : Below w.heap.size w w') : InSteps w' a len := fun i hi => by
  obtain ⟨b, off, kind, no, f, ha, hl, h0, h1, c0, c1, c2⟩ := h i hi
  exact ⟨b, off, kind, no, f, ha, Nat.lt_of_lt_of_le hl hb.size, h0, h1, by rw [hb.cell (p := ⟨b, off + i * 3, none⟩) hl]; exact c0, by rw [hb.cell (p := ⟨b, off + i * 3 + 1, none⟩) hl]; exact c1, by rw [hb.cell (p := ⟨b, off + i * 3 + 2, none⟩) hl]; exact c2⟩

theorem steps_in {H : Type} {enc : TypeId × Value → H} {w : World} {a : Option Addr} {len cap : Nat} {d : DataW H} {ps : List MemPlace}
    (h : DataW.Trod enc Try.prog w 0 (fun _ => true) true 51 (.slice a len cap) d ps) : len ≤ cap ∧ cap ≤ maxLen ∧ InSteps w a len := by
  obtain ⟨fuel, hf⟩ := h
  have hC : Try.prog.cellsOf 56 = 3 := by kernel_rfl
  have e0 : Try.prog.cellsOf 3 = 1 := by kernel_rfl
  have e1 : Try.prog.cellsOf 5 = 1 := by kernel_rfl
  rcases Go.Deep.open_slice Try.underlying51 hf with ⟨h0, _⟩ | ⟨x, l, c, m, n, D, Pl, hcs, hb, hl, hm, hmm, hx, hi⟩
  · simp [Value.cells] at h0
    obtain ⟨rfl, rfl, rfl⟩ := h0
    exact ⟨Nat.le_refl _, Nat.zero_le _, fun i hi => absurd hi (by omega)⟩
  · simp [Value.cells] at hcs
    obtain ⟨rfl, rfl, rfl⟩ := hcs
    refine ⟨hl, hm, fun i hil => ?_⟩
    have him : i < m := by rw [hmm]; split <;> omega
    have hxs : x.spot = none := by
      obtain ⟨cs0, hc0, _⟩ := hi 0 (by omega)
      rw [hC] at hc0
      obtain ⟨_, hcl0, hat0⟩ := World.cells?_some hc0
      have a0 := hat0 0 (by decide)
      have hx0 : (x.add (0 * 3)).add 0 = x := by simp [Addr.add]
      rw [hx0] at a0
      have hl0 : cs0.length = 3 := hcl0
      match cs0, hl0 with
      | [u0, u1, u2], _ => exact (cell_block (v := u0) a0).1
    obtain ⟨cs', hc, ht'⟩ := hi i him
    rw [hC] at hc
    obtain ⟨ys, n', hn', hy, hlen, hyl, hg⟩ := DataW.trod_struct Try.underlying56 ht'
    obtain ⟨_, hcl, hat⟩ := World.cells?_some hc
    have h0 := hg 0 _ rfl
    have h1 := hg 1 _ rfl
    have h2 := hg 2 _ rfl
    have hyl' : ys.length = 3 := hyl
    rw [List.getElem?_eq_getElem (by omega : 0 < ys.length)] at h0
    rw [List.getElem?_eq_getElem (by omega : 1 < ys.length)] at h1
    rw [List.getElem?_eq_getElem (by omega : 2 < ys.length)] at h2
    have k0 : DataW.trod enc Try.prog w 0 (fun _ => true) true n' 5 ((cs'.drop 0).take (Try.prog.cellsOf 5)) = some ys[0] := h0
    have k1 : DataW.trod enc Try.prog w 0 (fun _ => true) true n' 3 ((cs'.drop 1).take (Try.prog.cellsOf 3)) = some ys[1] := h1
    have k2 : DataW.trod enc Try.prog w 0 (fun _ => true) true n' 5 ((cs'.drop 2).take (Try.prog.cellsOf 5)) = some ys[2] := h2
    rw [e1] at k0 k2
    rw [e0] at k1
    have hl3 : cs'.length = 3 := hcl
    match cs', hl3 with
    | [v0, v1, v2], _ =>
      obtain ⟨m0, q0, _, w0⟩ := DataW.trod_int Try.underlying5 k0
      obtain ⟨m1, q1, _, w1⟩ := DataW.trod_int Try.underlying3 k1
      obtain ⟨m2, q2, _, w2⟩ := DataW.trod_int Try.underlying5 k2
      obtain ⟨f, rfl⟩ := exists_bv w2
      simp at q0 q1 q2
      subst q0 q1 q2
      have a0 := hat 0 (by decide)
      have a1 := hat 1 (by decide)
      have a2 := hat 2 (by decide)
      have hx0 : (x.add (i * 3)).add 0 = x.add (i * 3) := by simp [Addr.add]
      rw [hx0] at a0
      have a0' : w.cell? (x.add (i * 3)) = some (.int .u8 m0) := a0
      obtain ⟨hs, hbl⟩ := cell_block a0'
      obtain ⟨xb, xo, xs⟩ := x
      simp only at hxs
      subst hxs
      have hw0 : 0 ≤ m0 ∧ m0 ≤ 255 := by
        simp [Lit.wf, IntKind.min, IntKind.max, IntKind.bits, IntKind.signed] at w0; omega
      rw [WideShapes.add_plain] at a0 a1 a2 hbl
      rw [WideShapes.add_plain] at a1 a2
      exact ⟨xb, xo, m0, m1, f, rfl, hbl, hw0.1, hw0.2, a0, a1, a2⟩
end Go.Proofs.Ytelndpphbpandaa
