/- Appends of rows; what stays when one block is written over. -/
import Derived.Test.YthmcmkdncaccbaaDoorApp
import Derived.Test.YthmcmkdncaccbaaDoorPrN
set_option linter.unusedSimpArgs false
set_option linter.unusedVariables false
namespace Go.Proofs.YthmcmkdncaccbaaDoor
open Go.RowKit

theorem elemR : ElemT Tryd.prog 40 25 1 24 (.slice none 0 0) := ElemT.mk1 Tryd.underlying40 (by kernel_rfl) rfl (by decide)
theorem owns_low {B B' : Nat} {e : TypeId} {w : World} {v : Value} {n : Nat} {xs : List Value} (h : w.ownsRow B e 1 v n xs) (hb : B' ≤ B) : w.ownsRow B' e 1 v n xs := by
  obtain ⟨h1, h2⟩ := h
  refine ⟨h1, ?_⟩
  rcases h2 with h2 | ⟨g, cap, cur, hv, hg, r⟩
  · exact .inl h2
  · exact .inr ⟨g, cap, cur, hv, Nat.le_trans hb hg, r⟩
theorem owns_up {B : Nat} {e : TypeId} {w w' : World} {v : Value} {n : Nat} {xs : List Value} (h : w.ownsRow B e 1 v n xs) (hb : Below w.heap.size w w') : w'.ownsRow B e 1 v n xs := by
  obtain ⟨h1, h2⟩ := h
  refine ⟨h1, ?_⟩
  rcases h2 with h2 | ⟨g, cap, cur, hv, hg, hh, r⟩
  · exact .inl h2
  · exact .inr ⟨g, cap, cur, hv, hg, by rw [hb.block g (Array.getElem?_eq_some_iff.1 hh).1]; exact hh, r⟩
/-- a slice of rows that may be appended to -/
structure AppOK (B : Nat) (w : World) (a : Option Addr) (n cap : Nat) (xs : List Value) : Prop where
  len : xs.length = n
  fresh : AtP (fun g => B ≤ g) w a xs
  some' : ∃ x, a = some x
  le : n ≤ cap
  full : cap = n ∨ w.ownsRow B 25 1 (.slice a n cap) n xs
theorem AppOK.up {B : Nat} {w w' : World} {a : Option Addr} {n cap : Nat} {xs : List Value} (h : AppOK B w a n cap xs) (hb : Below w.heap.size w w') : AppOK B w' a n cap xs :=
  ⟨h.len, h.fresh.up hb, h.some', h.le, h.full.imp id fun k => owns_up k hb⟩
/-- rows behind nothing -/
theorem wp_appR0 {o : Oper} {a : Act} {w : World} {K : Act → World → Prop} {Q : Exit → Act → World → Prop} (s x : Operand)
    (ho : o.op = .call { callee := .builtin .append, args := #[s, x], argTypes := #[40, 40] }) {g : Addr} (hs : a.eval s = .slice (some g) 0 0)
    {sp : Option Addr} {m c : Nat} {vs : List Value} (hx : a.eval x = .slice sp m c) (hS : At w sp vs) (hm : vs.length = m) (h1 : ∀ u ∈ vs, u.oneCell' = true) (h63 : m ≤ 100000) (B : Nat) (hB : B ≤ w.heap.size)
    (hK : ∀ a' cap' w', AppOK B w' a' m cap' vs → Below w.heap.size w w' → K (a.put o.dst (.slice a' m cap')) w') : Oper.wp Tryd.prog o a w K Q := by
  obtain ⟨i, hi, hz, hsz, hby⟩ := elemR.info
  unfold Oper.wp execOp
  by_cases h0 : m = 0
  · subst h0
    have hn : vs = [] := List.eq_nil_of_length_eq_zero hm
    subst hn
    have hf : ∀ x : Addr, (loadCells x 0).run Tryd.prog w = .ok #[] w := fun x => by simpa using run_loadCells_list (P := Tryd.prog) w x [] (by simp)
    have hr : (Builtin.append_ #[40, 40] o.type #[.slice (some g) 0 0, .slice sp 0 c]).run Tryd.prog w = .ok (.slice (some g) 0 0) w := by
      cases sp <;> simp [Builtin.append_, run_underlying elemR.slice, sizeOf, typeInfo, hi, Builtin.lenOf, Builtin.firstCells, hf, storeCells]
    simp only [ho, resolve, List.map_toArray, List.map_cons, List.map_nil, hs, hx, invoke, builtin, Sem.run_bind, Sem.run_pure, Result.andThen_ok, hr]
    exact hK _ _ _ ⟨rfl, .inl rfl, ⟨g, rfl⟩, Nat.le_refl _, .inl rfl⟩ (Below.refl _ _)
  · have n1 : vs ≠ [] := fun e => h0 (by rw [← hm, e]; rfl)
    have hp : ∃ b', sp = some b' := by
      rcases hS with h | ⟨b', off, he, -⟩
      · exact absurd h n1
      · exact ⟨_, he⟩
    obtain ⟨sp, rfl⟩ := hp
    obtain ⟨v', w', hr, hown, hgr⟩ := run_append_arg_grows (P := Tryd.prog) w 40 o.type 25 i (.slice none 0 0) 1 24 Tryd.underlying40 hi hz hsz hby rfl (by decide) g 0 0 [] (by simp) (by simp) sp m c vs (by rw [hm, Nat.mul_one]) (at_cells hS n1) (by omega) (by unfold maxLen; omega) (by omega)
    rw [Nat.zero_add, List.nil_append] at hown
    obtain ⟨a', cap', rfl, hc1, hc2⟩ := own_slice hown
    simp only [ho, resolve, List.map_toArray, List.map_cons, List.map_nil, hs, hx, invoke, builtin, Sem.run_bind, Sem.run_pure, Result.andThen_ok, hr]
    have hat := own_atP hown
    refine hK _ _ _ ⟨hm, ?_, ?_, hc1, .inr (owns_low hown hB)⟩ ((Below.refl _ _).grown hgr (Nat.le_refl _) (fun k e => by cases e))
    · exact hat.to (Nat.le_refl _) fun g' _ hp => ⟨rfl, Nat.le_trans hB hp⟩
    · rcases hat with h | ⟨b, off, h, -⟩
      · exact absurd h n1
      · exact ⟨_, h⟩
/-- a row more -/
theorem wp_appR1 {o : Oper} {a : Act} {w w0 : World} {K : Act → World → Prop} {Q : Exit → Act → World → Prop} (s x : Operand)
    (ho : o.op = .call { callee := .builtin .append, args := #[s, x], argTypes := #[40, 40] }) {b : Option Addr} {n cap : Nat} {xs : List Value} (hs : a.eval s = .slice b n cap) (hO : AppOK w0.heap.size w b n cap xs)
    {sp : Option Addr} {c : Nat} {v : Value} (hx : a.eval x = .slice sp 1 c) (hS : At w sp [v]) (h1 : v.oneCell' = true) (h63 : n ≤ 100000) (Hb : Below w0.heap.size w0 w)
    (hK : ∀ a' cap' w', AtP (fun g => w0.heap.size ≤ g) w' a' (xs ++ [v]) → (n + 1 ≤ cap' ∧ cap' ≤ maxLen) → Below w0.heap.size w0 w' → K (a.put o.dst (.slice a' (n + 1) cap')) w') : Oper.wp Tryd.prog o a w K Q := by
  obtain ⟨i, hi, hz, hsz, hby⟩ := elemR.info
  unfold Oper.wp execOp
  rcases hO.full with hc | hown0
  · obtain ⟨b, rfl⟩ := hO.some'
    have hp : ∃ b', sp = some b' := by
      rcases hS with h | ⟨b', off, he, -⟩
      · cases h
      · exact ⟨_, he⟩
    obtain ⟨sp, rfl⟩ := hp
    obtain ⟨v', w', hr, hown, hgr⟩ := run_append_arg_grows (P := Tryd.prog) w 40 o.type 25 i (.slice none 0 0) 1 24 Tryd.underlying40 hi hz hsz hby rfl (by decide) b n cap xs (by rw [hO.len, Nat.mul_one])
      (by
        by_cases h0 : xs = []
        · subst h0; simp
        · exact at_cells hO.fresh.at h0) sp 1 c [v] rfl (at_cells hS (by simp)) (by omega) (by unfold maxLen; omega) (by omega)
    obtain ⟨a', cap', rfl, hc1, hc2⟩ := own_slice hown
    simp only [ho, resolve, List.map_toArray, List.map_cons, List.map_nil, hs, hx, invoke, builtin, Sem.run_bind, Sem.run_pure, Result.andThen_ok, hr]
    exact hK _ _ _ ((own_atP hown).to (Nat.le_refl _) fun g' _ hp => ⟨rfl, Nat.le_trans Hb.size hp⟩) ⟨hc1, hc2⟩ (bt Hb ((Below.refl _ _).grown hgr (Nat.le_refl _) (fun k e => by cases e)))
  · obtain ⟨a', cap', w', hr, hown, hg, hat⟩ := run_sep elemR hown0 (m := 1) c hS rfl (by simpa using h1) (by unfold maxLen; omega) (by omega) Hb.size o.type
    obtain ⟨_, _, e0, hc1, hc2⟩ := own_slice hown
    cases e0
    simp only [ho, resolve, List.map_toArray, List.map_cons, List.map_nil, hs, hx, invoke, builtin, Sem.run_bind, Sem.run_pure, Result.andThen_ok, hr]
    exact hK _ _ _ (own_atP hown) ⟨hc1, hc2⟩ (below_own Hb hown0 hg Hb.size (Nat.le_refl _))
/-- all blocks of w0 but b are as they were -/
structure KeepB (b : Nat) (w0 w : World) : Prop where
  size : w0.heap.size ≤ w.heap.size
  blk : ∀ g, g < w0.heap.size → g ≠ b → w.heap[g]? = w0.heap[g]?
theorem KeepB.of {b : Nat} {w0 w : World} (h : Below w0.heap.size w0 w) : KeepB b w0 w := ⟨h.size, fun g hg _ => h.block g hg⟩
theorem KeepB.row {b : Nat} {w0 w : World} (h : Below w0.heap.size w0 w) (ds : Array Value) : KeepB b w0 (w.setRow b ds) := ⟨by simpa using h.size, fun g hg hn => by rw [setRow_other w b g ds hn]; exact h.block g hg⟩
theorem BytesAt.neP {w : World} {b : Nat} {cs : List Value} {a : Option Addr} {l : List UInt8} (h : BytesAt w a l) (hb : Blk w b cs) (hcs : ∀ v ∈ cs, ∀ k n, v ≠ .int k n) : AtP (fun g => g ≠ b) w a (B8s l) := by
  by_cases h0 : l = []
  · subst h0; exact .inl rfl
  rcases h with h | ⟨b', off, rfl, hlt, hc⟩
  · exact .inl h
  refine .inr ⟨b', off, rfl, ?_, hlt, hc⟩
  rintro rfl
  have hl : 0 < l.length := List.length_pos_iff.2 h0
  have h1 := hc 0 (by simpa using hl)
  obtain ⟨T, hg⟩ := hb
  rw [cell_of_row w b' (off + 0) cs.toArray T (0, 0) hg] at h1
  have h2 := Array.mem_of_getElem? h1
  have h3 : (B8s l).getD 0 undef = .int .u8 (bv (l.getD 0 0)) := by simp [List.getD, hl]
  rw [h3] at h2
  exact hcs _ (by simpa using h2) _ _ rfl
theorem BytesAt.keep {w w' : World} {b : Nat} {x y : Bool} {p : Option Addr} {n c : Nat} {a : Option Addr} {l : List UInt8} (h : BytesAt w a l) (hb : Blk w b [.bool x, .slice p n c, .bool y]) (k : KeepB b w w') : BytesAt w' a l :=
  (AtP.to (BytesAt.neP h hb prov_noint) (q := fun _ => True) k.size fun g hg hp => ⟨k.blk g hg hp, trivial⟩).at
theorem RowIs.keep {w w' : World} {b : Nat} {x y : Bool} {p : Option Addr} {n c : Nat} {v : Value} {r : List UInt8} (h : RowIs w v r) (hb : Blk w b [.bool x, .slice p n c, .bool y]) (k : KeepB b w w') : RowIs w' v r := by
  obtain ⟨q, d, h1, h2, h3, h4⟩ := h
  exact ⟨q, d, h1, h2, h3, BytesAt.keep h4 hb k⟩
theorem RowsOf.keep {w w' : World} {b : Nat} {x y : Bool} {p : Option Addr} {n c : Nat} {vs : List Value} {rows : List (List UInt8)} (h : RowsOf w vs rows) (hb : Blk w b [.bool x, .slice p n c, .bool y]) (k : KeepB b w w') : RowsOf w' vs rows :=
  ⟨h.1, fun i hi => (h.2 i hi).keep hb k⟩
theorem EntsAt.keep {w w' : World} {b : Nat} {x y : Bool} {a A : Option Addr} {n c : Nat} {es : List Ent} (h : EntsAt w A es) (hb : Blk w b [.bool x, .slice a n c, .bool y]) (k : KeepB b w w') : EntsAt w' A es := by
  by_cases h0 : es = []
  · subst h0; exact EntsAt.nil _ _
  obtain ⟨vs, h1, h2, h3⟩ := h
  refine ⟨vs, h1, ?_, fun i hi => ⟨(h3 i hi).1.keep hb k, (h3 i hi).2.keep hb k⟩⟩
  rcases h2 with h2 | ⟨g, off, rfl, hlt, hc⟩
  · exact .inl h2
  refine .inr ⟨g, off, rfl, Nat.lt_of_lt_of_le hlt k.size, fun i hi => ?_⟩
  have hne : g ≠ b := by
    rintro rfl
    have hl : 0 < es.length := List.length_pos_iff.2 h0
    obtain ⟨⟨p0, c0, e0, _⟩, ⟨p1, c1, e1, _⟩⟩ := h3 0 hl
    have k0 := hc 0 (by rw [h1]; omega)
    have k1 := hc 1 (by rw [h1]; omega)
    rw [show vs.getD 0 undef = _ from e0] at k0
    rw [show vs.getD 1 undef = _ from e1] at k1
    obtain ⟨T, hg⟩ := hb
    rw [cell_of_row w g (off + 0) _ T (0, 0) hg] at k0
    rw [cell_of_row w g (off + 1) _ T (0, 0) hg] at k1
    match off, k0, k1 with
    | 0, k0, _ => simp at k0
    | 1, _, k1 => simp at k1
    | 2, k0, _ => simp at k0
    | off + 3, k0, _ => simp at k0
  rw [World.cell?_of_block (w := w) (a := ⟨g, off + i, none⟩) (k.blk g hlt hne)]
  exact hc i hi
theorem PrF.keep {w w' : World} {b : Nat} {x y : Bool} {a A : Option Addr} {n c N C : Nat} {es : List Ent} (h : PrF w A N C es) (hb : Blk w b [.bool x, .slice a n c, .bool y]) (k : KeepB b w w') : PrF w' A N C es :=
  ⟨h.ents.keep hb k, h.hn, h.hc, h.hcm, h.few⟩
theorem buildR0 : ∀ w, (Instr.buildSlice 40 0 #[]).run Tryd.prog w = .ok (.slice (some ⟨w.heap.size, 0, none⟩) 0 0) (w.alloc (.cells #[] 25)) := fun w => by kernel_rfl
theorem buildR1 (a : Option Addr) (n c : Nat) : ∀ w, (Instr.buildSlice 40 1 #[(0, .slice a n c)]).run Tryd.prog w = .ok (.slice (some ⟨w.heap.size, 0, none⟩) 1 1) (w.alloc (.cells #[.slice a n c] 25)) := fun w => by kernel_rfl
theorem allocP04 : ∀ w, (Instr.alloc 24 true (.tuple #[])).run Tryd.prog w = .ok (.pointer (some ⟨w.heap.size, 0, none⟩)) (w.alloc (.cells zeroP.toArray 24)) := fun w => by kernel_rfl
end Go.Proofs.YthmcmkdncaccbaaDoor
