/- The walk of the document's Put. -/
import Derived.Test.YthmcmkdncaccbaaDoorShaF
import Derived.Deep.DeepMust
set_option linter.unusedSimpArgs false
set_option linter.unusedVariables false
namespace Go.Proofs.YthmcmkdncaccbaaDoor
open Go.RowKit

theorem own_mono {w w' : World} {base : Nat} {e : TypeId} {size n : Nat} {v : Value} {xs : List Value} (h : w.ownsRow base e size v n xs) (hb : Below w.heap.size w w') : w'.ownsRow base e size v n xs := by
  obtain ⟨h1, h2⟩ := h
  refine ⟨h1, ?_⟩
  rcases h2 with h2 | ⟨g, cap, cur, hv, hg, hh, r⟩
  · exact .inl h2
  · exact .inr ⟨g, cap, cur, hv, hg, by rw [hb.block g (Array.getElem?_eq_some_iff.1 hh).1]; exact hh, r⟩

set_option maxRecDepth 100000 in
set_option maxHeartbeats 2000000 in
theorem refPut_no (s : R8) (n : Int) (a b : Option Addr) (la ca lb cb : Nat) (h0 : 0 ≤ n) (hn : n ≤ 1125899906842624) (hb : 1125899906842624 - n < lb) (w : World) :
    Calls Tryd.prog 44 #[.agg (hashC s n a la ca).toArray, .slice b lb cb] w fun e w' => e = .returned (.agg (hashC s n a la ca).toArray) ∧ Below w.heap.size w w' := by
  obtain ⟨s0, s1, s2, s3, s4, s5, s6, s7⟩ := s
  go_enter Tryd.func44, Tryd.ntmps44
  go_wp2_with fail
  exact bodyPost_ret (v := .agg (hashC ⟨s0, s1, s2, s3, s4, s5, s6, s7⟩ n a la ca).toArray) (by simp [results, Tryd.results44, go_sem]) rfl ⟨rfl, (ba w _).trans ((ba _ _).mono (by simp))⟩

theorem below3 (w : World) (A B C : Obj) : Below w.heap.size w (((w.alloc A).alloc B).alloc C) :=
  ((ba w _).trans ((ba _ _).mono (by simp))).trans ((ba _ _).mono (by simp; omega))
theorem own3 (w : World) (A B : Obj) (e : TypeId) : (((w.alloc A).alloc B).alloc (.cells #[] e)).ownsRow (w.heap.size + 1 + 1) e 1 (.slice (some ⟨w.heap.size + 1 + 1, 0, none⟩) 0 0) 0 [] := by
  have := World.ownsRow_made (base := w.heap.size + 1 + 1) (e := e) (size := 1) ((w.alloc A).alloc B) #[] 0 (by simp) (by decide) (by simp)
  rw [World.size_alloc, World.size_alloc] at this
  exact this

theorem wpList_appk {P : Program} {ops : Array Oper} {rest : List Oper} {o : Oper} {a : Act} {w : World} {Q : Exit → Act → World → Prop} (s x : Operand) (t : TypeId) {e : TypeId} {size bytes : Nat} {z : Value} (hgd : o.guard = none)
    (ho : o.op = .call { callee := .builtin .append, args := #[s, x], argTypes := #[t, t] }) (E : ElemT P t e size bytes z) {base n : Nat} {v : Value} {xs : List Value} (hs : a.eval s = v) (hown : w.ownsRow base e size v n xs)
    {sp : Option Addr} {m c : Nat} {news : List Value} (k : Nat) (hk : n + m = k) (ys : List Value) (hys : xs ++ news = ys) (hx : a.eval x = .slice sp m c) (hS : At w sp news) (hl : news.length = m * size) (h1 : ∀ u ∈ news, u.oneCell' = true) (h63 : k ≤ maxLen) (hbytes : k * bytes ≤ 140737488355328) (hbase : base ≤ w.heap.size)
    (h : ∀ a' cap' w', w'.ownsRow base e size (.slice a' k cap') k ys → w.grownBy w' v.ownBlock → wpList P ops Q rest (a.put o.dst (.slice a' k cap')) w') : wpList P ops Q (o :: rest) a w := by
  subst hk hys
  exact wpList_app s x t hgd ho E hs hown hx hS hl h1 h63 hbytes hbase h

theorem Blk.grown {w w' : World} {b : Nat} {cs : List Value} (h : Blk w b cs) {base : Nat} {e : TypeId} {size n : Nat} {v : Value} {xs : List Value} (hg : w.grownBy w' v.ownBlock) (hown : w.ownsRow base e size v n xs) (hlt : b < base) : Blk w' b cs := by
  have hl := h.lt
  obtain ⟨T, hT⟩ := h
  exact ⟨T, by rw [hg.block b hl (by intro he; have := (hown.lt b he.symm).1; omega)]; exact hT⟩
theorem base_blks (w : World) (A B : List Value) (TA TB T : TypeId) : Blk (((w.alloc (.cells A.toArray TA)).alloc (.cells B.toArray TB)).alloc (.cells #[] T)) w.heap.size A ∧ Blk (((w.alloc (.cells A.toArray TA)).alloc (.cells B.toArray TB)).alloc (.cells #[] T)) (w.heap.size + 1) B := by
  have := Blk.new (w.alloc (.cells A.toArray TA)) B TB
  rw [World.size_alloc] at this
  exact ⟨((Blk.new w A TA).alloc _).alloc _, this.alloc _⟩
/-- cells that lie at a, in a block from B on -/
def AtHi (B : Nat) (w : World) (a : Option Addr) (xs : List Value) : Prop := xs = [] ∨ ∃ g off, a = some ⟨g, off, none⟩ ∧ B ≤ g ∧ g < w.heap.size ∧ ∀ i, i < xs.length → w.cell? ⟨g, off + i, none⟩ = some (xs.getD i undef)
theorem AtHi.at {B : Nat} {w : World} {a : Option Addr} {xs : List Value} (h : AtHi B w a xs) : At w a xs := by
  rcases h with h | ⟨g, off, h1, h2, h3, h4⟩
  · exact .inl h
  · exact .inr ⟨g, off, h1, h3, h4⟩
theorem AtHi.set {B b i : Nat} {w : World} {a : Option Addr} {xs : List Value} (h : AtHi B w a xs) (hb : b < B) (v : Value) : AtHi B (w.setCell ⟨b, i, none⟩ v) a xs := by
  rcases h with h | ⟨g, off, h1, h2, h3, h4⟩
  · exact .inl h
  · refine .inr ⟨g, off, h1, h2, by simpa using h3, fun j hj => ?_⟩
    rw [← h4 j hj]
    exact World.cell?_of_block (Below.heap_setCell _ _ _ _ (by show g ≠ b; omega))
theorem AtHi.row {B b : Nat} {w : World} {a : Option Addr} {xs : List Value} (h : AtHi B w a xs) (hb : b < B) (ds : Array Value) : AtHi B (w.setRow b ds) a xs := by
  rcases h with h | ⟨g, off, h1, h2, h3, h4⟩
  · exact .inl h
  · refine .inr ⟨g, off, h1, h2, by simpa using h3, fun j hj => ?_⟩
    rw [← h4 j hj]
    exact World.cell?_of_block (setRow_other w b g ds (by omega))
theorem AtHi.set8 {w : World} {B b : Nat} {a : Option Addr} {xs : List Value} {v0 v1 v2 v3 v4 v5 v6 v7 : Value} (h : AtHi B w a xs) (hb : b < B) :
    AtHi B ((((((((w.setCell ⟨b, 0, none⟩ v0).setCell ⟨b, 1, none⟩ v1).setCell ⟨b, 2, none⟩ v2).setCell ⟨b, 3, none⟩ v3).setCell ⟨b, 4, none⟩ v4).setCell ⟨b, 5, none⟩ v5).setCell ⟨b, 6, none⟩ v6).setCell ⟨b, 7, none⟩ v7) a xs :=
  (((((((h.set hb _).set hb _).set hb _).set hb _).set hb _).set hb _).set hb _).set hb _
theorem AtHi.below {B C : Nat} {w w' : World} {a : Option Addr} {xs : List Value} (h : AtHi B w a xs) (hb : Below C w w') (hC : w.heap.size ≤ C) : AtHi B w' a xs := by
  rcases h with h | ⟨g, off, h1, h2, h3, h4⟩
  · exact .inl h
  · refine .inr ⟨g, off, h1, h2, Nat.lt_of_lt_of_le h3 hb.size, fun j hj => ?_⟩
    rw [← h4 j hj]
    exact hb.cell (p := ⟨g, off + j, none⟩) (by show g < C; omega)
theorem own_hi {w : World} {base : Nat} {e : TypeId} {size n cap : Nat} {a : Option Addr} {xs : List Value} (h : w.ownsRow base e size (.slice a n cap) n xs) : AtHi base w a xs := by
  rcases own_at h with h1 | ⟨g, off, h1, h2, h3⟩
  · exact .inl h1
  · exact .inr ⟨g, off, h1, (h.lt g (by rw [h1]; rfl)).1, h2, h3⟩

/-- the call hands back a digest under way: words, count, and rest -/
def HashOut (w : World) (s : R8) (n : Int) (rest : List UInt8) (e : Ending) (w' : World) : Prop := ∃ a' cap', e = .returned (.agg (hashC s n a' rest.length cap').toArray) ∧ BytesAt w' a' rest ∧ Below w.heap.size w w'
set_option maxRecDepth 100000 in
set_option maxHeartbeats 2000000 in
theorem refPut_core (s : R8) (n : Int) (a b : Option Addr) (ca cb : Nat) (l m : List UInt8) (h0 : 0 ≤ n) (hn : n ≤ 1125899906842624) (hle : (m.length : Int) ≤ 1125899906842624 - n) (hsz : l.length + m.length ≤ 2147483647)
    (w : World) (hl : BytesAt w a l) (hm : BytesAt w b m) :
    Calls Tryd.prog 44 #[.agg (hashC s n a l.length ca).toArray, .slice b m.length cb] w (HashOut w (putS s (l ++ m)) (n + m.length) (putR (l ++ m))) := by
  have Hl := Lib.hid hl
  have Hm := Lib.hid hm
  clear hl hm
  obtain ⟨s0, s1, s2, s3, s4, s5, s6, s7⟩ := s
  go_enter Tryd.func44, Tryd.ntmps44
  go_wp2_with (first
    | (at_builtin; first
        | (refine wpList_appk (.tmp 15) (.tmp 17) 25 rfl rfl elemB (base := w.heap.size + 1 + 1) (n := 0) (xs := []) rfl (own3 w _ _ _) (sp := a) (m := l.length) (news := B8s l) l.length (Nat.zero_add _) (B8s l) (List.nil_append _) rfl (At.mono Hl.out (below3 w _ _ _)) (by simp) (bytes_one l) (by unfold maxLen; omega) (by omega) (by simp) ?_
           intro a1 c1 w1 ho1 hg1
           have hb1 : Below w.heap.size w w1 := below_own (below3 w _ _ _) (own3 w _ _ _) hg1 (by simp; omega) (by omega)
           have hz1 : w.heap.size + 1 + 1 ≤ w1.heap.size := by have := hg1.size; simp at this; omega
           have hB0 : Blk w1 w.heap.size (hashC ⟨s0, s1, s2, s3, s4, s5, s6, s7⟩ n a l.length ca) := Blk.grown (base_blks w (hashC ⟨s0, s1, s2, s3, s4, s5, s6, s7⟩ n a l.length ca) (hashC ⟨0, 0, 0, 0, 0, 0, 0, 0⟩ 0 none 0 0) _ _ _).1 hg1 (own3 w _ _ _) (by omega)
           have hB1 : Blk w1 (w.heap.size + 1) (hashC ⟨0, 0, 0, 0, 0, 0, 0, 0⟩ 0 none 0 0) := Blk.grown (base_blks w (hashC ⟨s0, s1, s2, s3, s4, s5, s6, s7⟩ n a l.length ca) (hashC ⟨0, 0, 0, 0, 0, 0, 0, 0⟩ 0 none 0 0) _ _ _).2 hg1 (own3 w _ _ _) (by omega)
           clear hg1)
        | (refine wpList_appk (.tmp 18) (.tmp 19) 25 rfl rfl elemB (base := w.heap.size + 1 + 1) (n := l.length) (xs := B8s l) rfl ho1 (sp := b) (m := m.length) (news := B8s m) (l.length + m.length) rfl (B8s (l ++ m)) (by simp) rfl (At.mono Hm.out hb1) (by simp) (bytes_one m) (by unfold maxLen; omega) (by omega) hz1 ?_
           intro a2 c2 w2 ho2 hg2
           have hb2 : Below w.heap.size w w2 := below_own hb1 ho1 hg2 (by omega) (by omega)
           have hz2 : w.heap.size + 1 + 1 ≤ w2.heap.size := Nat.le_trans hz1 hg2.size
           have hC0 := hB0.grown hg2 ho1 (by omega)
           have hC1 := hB1.grown hg2 ho1 (by omega)
           have hq2 := own_hi ho2
           have hcap2 : l.length + m.length ≤ c2 ∧ c2 ≤ maxLen := by
             obtain ⟨_, _, h, h2, h3⟩ := own_slice ho2
             cases h; exact ⟨h2, h3⟩
           clear hB0 hB1 hg2 ho1 ho2 hb1 hz1))
    | (go_at_call 49; go_must (refine (keys_any _).mono ?_; rintro e w3 ⟨rfl, rfl⟩))
    | fail)
  obtain ⟨q, hq⟩ : ∃ q, q = l ++ m := ⟨_, rfl⟩
  rw [← hq] at hq2
  have hlen : l.length + m.length = q.length := by rw [hq]; simp
  have Hq := Lib.hid hq
  clear hq
  rw [hlen] at hcap2 hsz ⊢
  have hK : Blk (w2.alloc (.cells (W32s shaK).toArray 71)) w2.heap.size (W32s shaK) := Blk.new _ _ _
  have hD0 := hC0.alloc (.cells (W32s shaK).toArray 71)
  have hD1 := hC1.alloc (.cells (W32s shaK).toArray 71)
  have hqq := hq2.below (ba w2 (.cells (W32s shaK).toArray 71)) (Nat.le_refl _)
  have hbb : Below w.heap.size w (w2.alloc (.cells (W32s shaK).toArray 71)) := hb2.trans ((ba _ _).mono hb2.size)
  obtain ⟨gk, hgk⟩ : ∃ gk, gk = w2.heap.size := ⟨_, rfl⟩
  rw [← hgk] at hK hz2 ⊢
  generalize w2.alloc _ = W3 at hK hD0 hD1 hqq hbb
  clear hC0 hC1 hq2 hb2 hlen hgk
  go_loopw [7] (fun v wr => ∃ k t : Nat, t = 64 * k ∧ 64 * k ≤ q.length ∧ v = .int .i64 (t : Int) ∧ Blk wr w.heap.size (hashC (absN ⟨s0, s1, s2, s3, s4, s5, s6, s7⟩ q k) n a l.length ca) ∧ Blk wr (w.heap.size + 1) (hashC ⟨0, 0, 0, 0, 0, 0, 0, 0⟩ 0 none 0 0) ∧ AtHi (w.heap.size + 1 + 1) wr a2 (B8s q) ∧ Blk wr gk (W32s shaK) ∧ Below w.heap.size w wr) (fun v _ => q.length - (match v with | .int _ i => i.toNat | _ => 0))
  case atStart => exact ⟨0, 0, rfl, by omega, rfl, hD0, hD1, hqq, hK, hbb⟩
  case round =>
    clear hD0 hD1 hqq hK hbb
    obtain ⟨k, t, ht, hk, rfl, hB0, hB1, hQ, hKk, hb⟩ := hrel
    by_cases h64 : 64 ≤ q.length - 64 * k
    · have Hnext := Lib.hid (show absN ⟨s0, s1, s2, s3, s4, s5, s6, s7⟩ q (k + 1) = blockF (absN ⟨s0, s1, s2, s3, s4, s5, s6, s7⟩ q k) ((q.drop (64 * k)).take 64) from rfl)
      obtain ⟨r, hr⟩ : ∃ r, r = absN ⟨s0, s1, s2, s3, s4, s5, s6, s7⟩ q k := ⟨_, rfl⟩
      rw [← hr] at hB0 Hnext
      clear hr
      obtain ⟨c0, c1, c2', c3, c4, c5, c6, c7, -, -⟩ := hash_cells hB0
      have Hcon := Lib.hid (step_any r a2 (some ⟨gk, 0, none⟩) t q.length c2 64 q wr rfl (by omega) (by omega) hQ.at hKk.at)
      have HB0 := Lib.hid hB0
      have HB1 := Lib.hid hB1
      have HC := Lib.hid hQ
      have HK := Lib.hid hKk
      have hbs := hb.size
      clear hB0 hB1 hQ hKk
      have hge : (64 : Int) ≤ ↑q.length - ↑t := by omega
      have Ht := Lib.hid ht
      clear ht hk h64
      go_wp2_with (first
        | (go_at_call 50; go_must (refine Calls.mono Hcon.out ?_; rintro e w' ⟨rfl, hb'⟩; obtain ⟨d0, d1, d2, d3, d4, d5, d6, d7, -, -⟩ := hash_cells (HB0.out.below hb' HB0.out.lt); have fz := (HB0.out.below hb' HB0.out.lt).frozen))
        | fail)
      exact ⟨⟨k + 1, t + 64, by have := Ht.out; omega, by have := Ht.out; omega, by simp, by rw [Hnext.out, ← Ht.out]; exact hash_set (HB0.out.below hb' HB0.out.lt), set8_other (HB1.out.below hb' HB1.out.lt) (by omega), (HC.out.below hb' (Nat.le_refl _)).set8 (by omega), set8_other (HK.out.below hb' HK.out.lt) (by omega), set8_below (hb.trans (hb'.mono hb.size)) (Nat.le_refl _)⟩, by simp; omega⟩
    · have hkn : k = nb q := by unfold nb; omega
      have Hput := Lib.hid (show absN ⟨s0, s1, s2, s3, s4, s5, s6, s7⟩ q k = putS ⟨s0, s1, s2, s3, s4, s5, s6, s7⟩ q by rw [hkn]; rfl)
      have Hrest := Lib.hid (show q.drop t = putR q by rw [ht, hkn]; rfl)
      have htl : t ≤ q.length := by omega
      have hge : ¬ (64 : Int) ≤ ↑q.length - ↑t := by omega
      clear hkn ht hk h64
      generalize absN ⟨s0, s1, s2, s3, s4, s5, s6, s7⟩ q k = r at hB0 Hput
      obtain ⟨-, -, -, -, -, -, -, -, c8, c9⟩ := hash_cells hB0
      have fz := hB0.frozen
      have hsl : ∀ W, (Instr.sliceAt 25 (.slice a2 q.length c2) (some (.int .i64 t)) none none).run Tryd.prog W = .ok (.slice (adv a2 c2 t 1) (q.length - t) (c2 - t)) W := fun W => by
        have := run_adv_l (P := Tryd.prog) Tryd.underlying25 size_u8 W a2 q.length c2 t (by omega) (by omega)
        rwa [Int.toNat_natCast] at this
      have HB0 : Hid (Blk ((wr.setCell ⟨w.heap.size, 8, none⟩ (.int .i64 (n + m.length))).setCell ⟨w.heap.size, 9, none⟩ (.slice (adv a2 c2 t 1) (q.length - t) (c2 - t))) w.heap.size (hashC r (n + m.length) (adv a2 c2 t 1) (q.length - t) (c2 - t))) := (hB0.set 8 _).set 9 _
      have HB1 : Hid (Blk ((wr.setCell ⟨w.heap.size, 8, none⟩ (.int .i64 (n + m.length))).setCell ⟨w.heap.size, 9, none⟩ (.slice (adv a2 c2 t 1) (q.length - t) (c2 - t))) (w.heap.size + 1) (hashC ⟨0, 0, 0, 0, 0, 0, 0, 0⟩ 0 none 0 0)) := (hB1.other _ (by simp) _).other _ (by simp) _
      have HI := Lib.hid (show (Tryd.prog.info? 74).map (·.size) = some 10 by kernel_rfl)
      have Hb := Lib.hid (show Below w.heap.size w ((wr.setCell ⟨w.heap.size, 8, none⟩ (.int .i64 (n + m.length))).setCell ⟨w.heap.size, 9, none⟩ (.slice (adv a2 c2 t 1) (q.length - t) (c2 - t))) from (hb.setCell (Nat.le_refl _) _).setCell (Nat.le_refl _) _)
      have Hat2 : Hid (BytesAt (((wr.setCell ⟨w.heap.size, 8, none⟩ (.int .i64 (n + m.length))).setCell ⟨w.heap.size, 9, none⟩ (.slice (adv a2 c2 t 1) (q.length - t) (c2 - t))).setRow (w.heap.size + 1) (hashC r (n + m.length) (adv a2 c2 t 1) (q.length - t) (c2 - t)).toArray) (adv a2 c2 t 1) (q.drop t)) := by
        have h := (((hQ.set (b := w.heap.size) (i := 8) (by omega) (.int .i64 (n + m.length))).set (b := w.heap.size) (i := 9) (by omega) (.slice (adv a2 c2 t 1) (q.length - t) (c2 - t))).row (b := w.heap.size + 1) (by omega) (hashC r (n + m.length) (adv a2 c2 t 1) (q.length - t) (c2 - t)).toArray).at
        exact BytesAt.adv h (len := q.length) rfl hcap2.1
      clear hB0 hB1 hQ hKk hb hcap2
      go_wp2_with (first
        | (refine wpList_load_blk 74 (.tmp 2) w.heap.size rfl rfl rfl HB0.out Tryd.underlying74 rfl HI.out ?_)
        | (refine wpList_store_blk 74 (.tmp 4) (.tmp 46) (w.heap.size + 1) rfl rfl rfl rfl HB1.out HI.out rfl rfl ?_))
      refine bodyPost_ret (v := .agg (hashC r (n + m.length) (adv a2 c2 t 1) (q.length - t) (c2 - t)).toArray) (results_blk rfl _ _ (w.heap.size + 1) rfl (HB1.out.row _) Tryd.underlying74 rfl HI.out) rfl ⟨adv a2 c2 t 1, c2 - t, ?_, ?_, below_setRow Hb.out (by omega) _⟩
      · rw [← Hq.out, ← Hput.out, ← Hrest.out, List.length_drop]
      · rw [← Hq.out, ← Hrest.out]; exact Hat2.out
theorem refPut_any (s : R8) (n : Int) (a b : Option Addr) (la ca lb cb : Nat) (l m : List UInt8) (h0 : 0 ≤ n) (hn : n ≤ 1125899906842624) (ha : la = l.length) (hb : lb = m.length) (hle : (lb : Int) ≤ 1125899906842624 - n) (hsz : la + lb ≤ 2147483647)
    (w : World) (hl : BytesAt w a l) (hm : BytesAt w b m) :
    Calls Tryd.prog 44 #[.agg (hashC s n a la ca).toArray, .slice b lb cb] w fun e w' =>
      ∃ a' cap', e = .returned (.agg (hashC (putS s (l ++ m)) (n + lb) a' (putR (l ++ m)).length cap').toArray) ∧ BytesAt w' a' (putR (l ++ m)) ∧ Below w.heap.size w w' := by
  subst ha; subst hb; exact refPut_core s n a b ca cb l m h0 hn hle hsz w hl hm
end Go.Proofs.YthmcmkdncaccbaaDoor
