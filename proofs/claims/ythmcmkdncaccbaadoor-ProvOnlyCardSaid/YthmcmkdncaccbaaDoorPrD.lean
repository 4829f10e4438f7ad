/- Providers: clones, a pair put behind others. -/
import Derived.Test.YthmcmkdncaccbaaDoorPrC
import Derived.Test.YthmcmkdncaccbaaDoorMacU
import Derived.Lib.SliceRun
set_option linter.unusedSimpArgs false
set_option linter.unusedVariables false
namespace Go.Proofs.YthmcmkdncaccbaaDoor
open Go.RowKit

theorem run_full {P : Program} {t e : TypeId} {n : Nat} (ht : P.underlying t = some (.slice e)) (hs : ∀ w, (sizeOf e).run P w = .ok n w) (w : World) (a : Option Addr) (len cap : Nat) (hc : len ≤ cap) :
    (Instr.sliceAt t (.slice a len cap) Option.none (some (.int .i64 len)) (some (.int .i64 len))).run P w = .ok (.slice a len len) w := by
  have he : P.elem t = e := by simp [Program.elem, ht]
  rw [run_sliceAt_slice _ _ _ _ _ _ (by rw [he]; exact ht), run_slice_hm _ _ _ _ _ (by rw [he]; exact ht) _ _ _ _ (by omega) (Int.le_refl _) (by omega), he, hs]
  show Result.ok (Value.slice (adv a (len : Int).toNat 0 n) ((len : Int).toNat - 0) ((len : Int).toNat - 0)) w = _
  rw [adv_zero, Int.toNat_natCast]; rfl
theorem size_ent : ∀ w, (sizeOf 59).run Tryd.prog w = .ok 2 w := fun w => by
  obtain ⟨i, h1, h2⟩ := Option.map_eq_some_iff.1 (show (Tryd.prog.info? 59).map (·.size) = some 2 by kernel_rfl)
  simp [sizeOf, typeInfo, h1, h2]
theorem clip_any (a : Option Addr) (n c : Nat) (hc : n ≤ c) (w : World) : Calls Tryd.prog 24 #[.slice a n c] w fun e w' => e = .returned (.slice a n n) ∧ w = w' := by
  have hs := fun W => run_full Tryd.underlying22 size_ent W a n c hc
  go_enter Tryd.func24, Tryd.ntmps24
  go_wp2_with fail
  go_ret
  exact ⟨rfl, rfl⟩
theorem own_zero (W : World) : OwnR W (W.alloc (.cells #[] 5)) (.slice (some ⟨W.heap.size, 0, none⟩) 0 0) [] := OwnR.of rfl (Buf.made W 5 [] 0 0 (Nat.le_refl _) rfl (by decide))
theorem own_atP {w : World} {base : Nat} {e : TypeId} {size n cap : Nat} {a : Option Addr} {xs : List Value} (h : w.ownsRow base e size (.slice a n cap) n xs) : AtP (fun g => base ≤ g) w a xs := by
  rcases own_at h with h1 | ⟨b, off, rfl, hlt, hc⟩
  · exact .inl h1
  · exact .inr ⟨b, off, rfl, (h.lt b rfl).1, hlt, hc⟩
/-- a clone, as a result -/
def CloneOut (w : World) (l : List UInt8) (e : Ending) (w' : World) : Prop := ∃ a c, e = .returned (.slice a l.length c) ∧ l.length ≤ c ∧ c ≤ maxLen ∧ AtP (fun g => w.heap.size ≤ g) w' a (B8s l) ∧ Below w.heap.size w w'
set_option maxHeartbeats 400000 in
theorem bclone_any (a : Option Addr) (cap : Nat) (l : List UInt8) (w : World) (hc : l.length ≤ 100000) (hl : BytesAt w a l) :
    Calls Tryd.prog 25 #[.slice a l.length cap] w (CloneOut w l) := by
  have q22 : ∀ (w : World) (a : Option Addr) (n c n' c' : Nat), (binOp .eql 25 (.slice a n c) (.slice none n' c')).run Tryd.prog w = .ok (.bool a.isNone) w := fun w a n c n' c' => Lib.run_eql_slice_nil w _ _ a n c n' c' Tryd.underlying25
  rcases a with _ | ⟨b, o, s⟩
  · have h0 : l = [] := by
      rcases hl with h | ⟨b, off, h, -⟩
      · simpa using h
      · cases h
    subst h0
    go_enter Tryd.func25, Tryd.ntmps25
    go_wp2_with fail
    go_ret
    exact ⟨none, 0, rfl, Nat.le_refl _, by decide, .inl rfl, Below.refl _ _⟩
  · have Hl := Lib.hid (hl.mono (ba w (.cells #[] 5)))
    clear hl
    go_enter Tryd.func25, Tryd.ntmps25
    go_wp2_with (at_builtin; (refine wpList_ownR (.tmp 5) (.tmp 6) rfl rfl rfl (own_zero w) l rfl Hl.out rfl (by simp; omega) l rfl ?_; intro a1 c1 w1 h1; have H1 := Lib.hid h1; clear h1))
    go_ret
    have hcap := H1.out.buf.cap
    exact ⟨a1, c1, rfl, hcap.2.1, hcap.2.2, own_atP H1.out.own, H1.out.bel⟩
theorem elemE : ElemT Tryd.prog 22 59 2 48 (.agg #[.slice none 0 0, .slice none 0 0]) := ElemT.mk1 Tryd.underlying22 (by kernel_rfl) rfl (by decide)
/-- rows of pairs of the call's own -/
abbrev OwnE (B : Nat) (w : World) (v : Value) (n : Nat) (vs : List Value) : Prop := w.ownsRow B 59 2 v n vs
/-- a pair put behind a slice that is full -/
theorem wpList_full {ops : Array Oper} {rest : List Oper} {o : Oper} {a : Act} {w : World} {Q : Exit → Act → World → Prop} (s x : Operand) (hgd : o.guard = Option.none)
    (ho : o.op = .call { callee := .builtin .append, args := #[s, x], argTypes := #[22, 22] }) {sa : Option Addr} {n : Nat} {vs : List Value} (hs : a.eval s = .slice sa n n) (hS : At w sa vs) (hvl : vs.length = n * 2)
    {sp : Addr} {c : Nat} {v0 v1 : Value} (hx : a.eval x = .slice (some sp) 1 c) (hX : At w (some sp) [v0, v1]) (h1 : ∀ u ∈ [v0, v1], u.oneCell' = true) (hn : n ≤ 100000)
    (h : ∀ a' c' w', OwnE w.heap.size w' (.slice a' (n + 1) c') (n + 1) (vs ++ [v0, v1]) → Below w.heap.size w w' → wpList Tryd.prog ops Q rest (a.put o.dst (.slice a' (n + 1) c')) w') : wpList Tryd.prog ops Q (o :: rest) a w := by
  refine wpList_plain hgd fun K hK => ?_
  have key : ∃ a' c' w', (Builtin.append_ #[22, 22] o.type #[.slice sa n n, .slice (some sp) 1 c]).run Tryd.prog w = .ok (.slice a' (n + 1) c') w' ∧ OwnE w.heap.size w' (.slice a' (n + 1) c') (n + 1) (vs ++ [v0, v1]) ∧ w.grownBy w' none := by
    obtain ⟨i, hi, hz, hsz, hby⟩ := elemE.info
    rcases sa with _ | b
    · have h0 : vs = [] := by
        rcases hS with h | ⟨_, _, h, -⟩
        · exact h
        · cases h
      subst h0
      have hn0 : n = 0 := by simp at hvl; omega
      subst hn0
      obtain ⟨a', c', w', hr, hown, hg⟩ := run_app elemE (World.ownsRow_nil w w.heap.size 59 2) (m := 1) c hX rfl h1 (by decide) (by decide) (Nat.le_refl _) o.type
      exact ⟨a', c', w', by simpa using hr, by simpa using hown, hg⟩
    · have hcell : ∀ {d : Addr} {cs : List Value}, At w (some d) cs → ∀ j u, cs[j]? = some u → w.cell? (d.add j) = some u := by
        intro d cs hA j u hj
        have hjl : j < cs.length := by
          rcases Nat.lt_or_ge j cs.length with h | h
          · exact h
          · rw [List.getElem?_eq_none h] at hj; cases hj
        rcases hA with h | ⟨b', off, he, hlt, hc⟩
        · rw [h] at hjl; simp at hjl
        · cases he
          rw [WideShapes.add_plain, hc j hjl]; simp [List.getD, hj]
      obtain ⟨v', w', hr, hown, hg⟩ := run_append_arg_grows (P := Tryd.prog) w 22 o.type 59 i (.agg #[.slice none 0 0, .slice none 0 0]) 2 48 Tryd.underlying22 hi hz hsz hby rfl (by decide) b n n vs hvl (hcell hS) sp 1 c [v0, v1] rfl (hcell hX) (by omega) (by unfold maxLen; omega) (by omega)
      obtain ⟨a', c', rfl, -, -⟩ := own_slice hown
      exact ⟨a', c', w', hr, hown, hg⟩
  obtain ⟨a', c', w', hr, hown, hg⟩ := key
  unfold Oper.wp execOp
  simp only [ho, resolve, List.map_toArray, List.map_cons, List.map_nil, hs, hx, invoke, builtin, Sem.run_bind, Sem.run_pure, Result.andThen_ok, hr]
  exact hK _ _ (h a' c' w' hown ⟨hg.os, hg.tape, hg.output, hg.size, fun k hk => hg.block k hk (by simp)⟩)
/-- a row of bytes, in a block of the kind p -/
def RowP (p : Nat → Prop) (w : World) (v : Value) (r : List UInt8) : Prop := ∃ a c, v = .slice a r.length c ∧ r.length ≤ c ∧ c ≤ maxLen ∧ AtP p w a (B8s r)
/-- pairs, all in blocks of the kind p -/
def EntsP (p : Nat → Prop) (w : World) (a : Option Addr) (es : List Ent) : Prop :=
  ∃ vs : List Value, vs.length = es.length * 2 ∧ AtP p w a vs ∧ ∀ i, i < es.length → RowP p w (vs.getD (i * 2) undef) (es.getD i ([], [])).1 ∧ RowP p w (vs.getD (i * 2 + 1) undef) (es.getD i ([], [])).2
theorem RowP.row {p : Nat → Prop} {w : World} {v : Value} {r : List UInt8} (h : RowP p w v r) : RowIs w v r := by
  obtain ⟨a, c, h1, h2, h3, h4⟩ := h; exact ⟨a, c, h1, h2, h3, h4.at⟩
theorem RowP.of {p : Nat → Prop} {w : World} {v : Value} {r : List UInt8} (h : RowIs w v r) (hp : ∀ b, b < w.heap.size → p b) : RowP p w v r := by
  obtain ⟨a, c, h1, h2, h3, h4⟩ := h; exact ⟨a, c, h1, h2, h3, AtP.of h4 hp⟩
theorem RowP.to {p q : Nat → Prop} {w w' : World} {v : Value} {r : List UInt8} (h : RowP p w v r) (hs : w.heap.size ≤ w'.heap.size) (hk : ∀ b, b < w.heap.size → p b → w'.heap[b]? = w.heap[b]? ∧ q b) : RowP q w' v r := by
  obtain ⟨a, c, h1, h2, h3, h4⟩ := h; exact ⟨a, c, h1, h2, h3, h4.to hs hk⟩
theorem EntsP.ents {p : Nat → Prop} {w : World} {a : Option Addr} {es : List Ent} (h : EntsP p w a es) : EntsAt w a es := by
  obtain ⟨vs, h1, h2, h3⟩ := h; exact ⟨vs, h1, h2.at, fun i hi => ⟨(h3 i hi).1.row, (h3 i hi).2.row⟩⟩
theorem EntsP.of {p : Nat → Prop} {w : World} {a : Option Addr} {es : List Ent} (h : EntsAt w a es) (hp : ∀ b, b < w.heap.size → p b) : EntsP p w a es := by
  obtain ⟨vs, h1, h2, h3⟩ := h; exact ⟨vs, h1, AtP.of h2 hp, fun i hi => ⟨.of (h3 i hi).1 hp, .of (h3 i hi).2 hp⟩⟩
theorem EntsP.to {p q : Nat → Prop} {w w' : World} {a : Option Addr} {es : List Ent} (h : EntsP p w a es) (hs : w.heap.size ≤ w'.heap.size) (hk : ∀ b, b < w.heap.size → p b → w'.heap[b]? = w.heap[b]? ∧ q b) : EntsP q w' a es := by
  obtain ⟨vs, h1, h2, h3⟩ := h; exact ⟨vs, h1, h2.to hs hk, fun i hi => ⟨(h3 i hi).1.to hs hk, (h3 i hi).2.to hs hk⟩⟩
theorem EntsP.up {p : Nat → Prop} {w w' : World} {a : Option Addr} {es : List Ent} (h : EntsP p w a es) (hb : Below w.heap.size w w') : EntsP p w' a es := h.to hb.size fun b hl hp => ⟨hb.block b hl, hp⟩
theorem RowP.up {p : Nat → Prop} {w w' : World} {v : Value} {r : List UInt8} (h : RowP p w v r) (hb : Below w.heap.size w w') : RowP p w' v r := h.to hb.size fun b hl hp => ⟨hb.block b hl, hp⟩
theorem AtP.up {p : Nat → Prop} {w w' : World} {a : Option Addr} {cs : List Value} (h : AtP p w a cs) (hb : Below w.heap.size w w') : AtP p w' a cs := h.to hb.size fun b hl hp => ⟨hb.block b hl, hp⟩
theorem EntsP.snoc {p : Nat → Prop} {w' : World} {a' : Option Addr} {es : List Ent} {vs : List Value} {v0 v1 : Value} {k b : List UInt8} (hvl : vs.length = es.length * 2) (hr : ∀ i, i < es.length → RowP p w' (vs.getD (i * 2) undef) (es.getD i ([], [])).1 ∧ RowP p w' (vs.getD (i * 2 + 1) undef) (es.getD i ([], [])).2)
    (hA : AtP p w' a' (vs ++ [v0, v1])) (h0 : RowP p w' v0 k) (h1 : RowP p w' v1 b) : EntsP p w' a' (es ++ [(k, b)]) := by
  refine ⟨vs ++ [v0, v1], by simp [hvl]; omega, hA, fun i hi => ?_⟩
  have hi' : i < es.length + 1 := by simpa using hi
  rcases Nat.lt_or_ge i es.length with h | h
  · have e1 : (vs ++ [v0, v1]).getD (i * 2) undef = vs.getD (i * 2) undef := by rw [List.getD, List.getD, List.getElem?_append_left (by omega)]
    have e2 : (vs ++ [v0, v1]).getD (i * 2 + 1) undef = vs.getD (i * 2 + 1) undef := by rw [List.getD, List.getD, List.getElem?_append_left (by omega)]
    have e3 : (es ++ [(k, b)]).getD i ([], []) = es.getD i ([], []) := by rw [List.getD, List.getD, List.getElem?_append_left h]
    rw [e1, e2, e3]; exact hr i h
  · obtain rfl : i = es.length := by omega
    have e1 : (vs ++ [v0, v1]).getD (es.length * 2) undef = v0 := by rw [List.getD, List.getElem?_append_right (by omega), hvl, Nat.sub_self]; rfl
    have e2 : (vs ++ [v0, v1]).getD (es.length * 2 + 1) undef = v1 := by rw [List.getD, List.getElem?_append_right (by omega), hvl, show es.length * 2 + 1 - es.length * 2 = 1 by omega]; rfl
    have e3 : (es ++ [(k, b)]).getD es.length ([], []) = (k, b) := by rw [List.getD, List.getElem?_append_right (by omega), Nat.sub_self]; rfl
    rw [e1, e2, e3]; exact ⟨h0, h1⟩
end Go.Proofs.YthmcmkdncaccbaaDoor
