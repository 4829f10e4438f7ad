/- Frames: the document's examples. -/
import Derived.Test.YtipidgjdfmghnaaFrM
import Derived.Lib.AppendZerosOnto
import Derived.Deep.DeepCutAuto
import Derived.Deep.RegionHeld3
import Derived.Deep.DeepCutAuto
import Derived.Deep.RegionHeld3
import Derived.Deep.DeepCutAuto
import Derived.Deep.RegionHeld3
import Derived.Deep.DeepCutAuto
import Derived.Deep.RegionHeld3
set_option linter.unusedSimpArgs false
set_option linter.unusedVariables false
namespace Go.Proofs.Ytipidgjdfmghnaa
open Go.RowKit

/-- append onto an empty slice that has an address but no room -/
theorem step_fresh {P : Program} {ops : Array Oper} {o : Oper} {a : Act} {w : World} {K : Act → World → Prop} {Q : Exit → Act → World → Prop} {F : Prop} (s x : Operand) (t : TypeId) {e : TypeId} {bytes : Nat} {z : Value} (hgd : o.guard = Option.none)
    (ho : o.op = .call { callee := .builtin .append, args := #[s, x], argTypes := #[t, t] }) (E : ElemT P t e 1 bytes z) {b : Addr} (hs : a.eval s = .slice (some b) 0 0)
    {sp : Option Addr} {m c : Nat} {news : List Value} (hx : a.eval x = .slice sp m c) (hS : At w sp news) (hl : news.length = m) (h0 : 0 < m) (hm : m * bytes ≤ 140737488355328) (hm2 : m ≤ 140737488355328)
    (hK : ∀ a' cap' w', Buf w w' e (.slice a' m cap') m news → K (a.put o.dst (.slice a' m cap')) w') :
    if Region.wanted o (yielded ops a.tmps) = true then Oper.wp P o a w K Q else F := by
  have hw : Region.wanted o (yielded ops a.tmps) = true := by simp [Region.wanted, hgd]
  rw [if_pos hw]
  obtain ⟨i, hi, hz, hsz, hby⟩ := E.info
  rcases hS with rfl | ⟨b2, off, rfl, hlt, hc⟩
  · simp at hl; omega
  · have hr := run_append_grow (P := P) w t o.type e i z E.slice hi hz b 0 0 [] (by simp) (by simp) ⟨b2, off, none⟩ m c news (by rw [hsz]; omega) (fun j v hj => by
      have hjl : j < news.length := by
        rcases Nat.lt_or_ge j news.length with h | h
        · exact h
        · rw [List.getElem?_eq_none h] at hj; cases hj
      rw [WideShapes.add_plain, hc j hjl, List.getD, hj]; rfl) (by omega) (by omega) (by rw [Nat.zero_add, nextslicecap_zero h0, hby]; omega)
    rw [Nat.zero_add] at hr
    have h1 := grownCap_ge w m 0 e
    have h2 := grownCap_le_maxLen w m 0 e (by unfold maxLen; omega)
    have hzs : z.cells.size = 1 := E.zs
    have hb := Buf.made' w w.drew (bd w) e (([] : List Value).toArray ++ news.toArray ++ Builtin.zeroCells z.cells (grownCap w m 0 e - m)).toList m (grownCap w m 0 e) h1 (by rw [Array.length_toList, Array.size_append, Array.size_append, size_zeroCells, hzs]; simp; omega) h2
    rw [Array.toArray_toList] at hb
    have ht : ((([] : List Value).toArray ++ news.toArray ++ Builtin.zeroCells z.cells (grownCap w m 0 e - m)).toList).take m = news := by
      subst hl; simp
    rw [ht] at hb
    unfold Oper.wp execOp
    simp only [ho, resolve, List.map_toArray, List.map_cons, List.map_nil, hs, hx, invoke, builtin, Sem.run_bind, Sem.run_pure, Result.andThen_ok, hr]
    exact hK _ _ _ hb
/-- append onto a buffer, and what other blocks hold -/
theorem step_grow {P : Program} {ops : Array Oper} {o : Oper} {a : Act} {w : World} {K : Act → World → Prop} {Q : Exit → Act → World → Prop} {F : Prop} (s x : Operand) (t : TypeId) {e : TypeId} {bytes : Nat} {z : Value} (hgd : o.guard = Option.none)
    (ho : o.op = .call { callee := .builtin .append, args := #[s, x], argTypes := #[t, t] }) (E : ElemT P t e 1 bytes z) {wB : World} {n : Nat} {v : Value} {xs : List Value} (hs : a.eval s = v) (hB : Buf wB w e v n xs)
    {sp : Option Addr} {m c : Nat} {news : List Value} (hx : a.eval x = .slice sp m c) (hS : At w sp news) (hl : news.length = m) (h1 : ∀ u ∈ news, u.oneCell' = true) (h63 : (n + m) * bytes ≤ 140737488355328) (hb : 0 < bytes)
    (k : Nat) (hk : n + m = k) (ys : List Value) (hys : xs ++ news = ys)
    (hK : ∀ a' cap' w', Buf wB w' e (.slice a' k cap') k ys → (∀ T cs b, T ≠ e → BlkT T w b cs → BlkT T w' b cs) → w.heap.size ≤ w'.heap.size → K (a.put o.dst (.slice a' k cap')) w') :
    if Region.wanted o (yielded ops a.tmps) = true then Oper.wp P o a w K Q else F := by
  subst hk hys
  have hw : Region.wanted o (yielded ops a.tmps) = true := by simp [Region.wanted, hgd]
  rw [if_pos hw]
  have hle : n + m ≤ (n + m) * bytes := Nat.le_mul_of_pos_right _ hb
  obtain ⟨a', cap', w', hr, ho', hg⟩ := run_app E hB.own c hS (by omega) h1 (by unfold maxLen; omega) h63 hB.size o.type
  unfold Oper.wp execOp
  simp only [ho, resolve, List.map_toArray, List.map_cons, List.map_nil, hs, hx, invoke, builtin, Sem.run_bind, Sem.run_pure, Result.andThen_ok, hr]
  refine hK _ _ _ ⟨ho', below_own hB.bel hB.own hg hB.size (Nat.le_refl _)⟩ (fun T cs b hT hbk => ?_) hg.size
  unfold BlkT
  rw [hg.block b hbk.blk.lt fun hv => ?_]
  · exact hbk
  · rcases hB.own.2 with ⟨rfl, -⟩ | ⟨g, cap, cur, rfl, -, hg', -⟩
    · simp [Value.ownBlock] at hv
    · simp [Value.ownBlock] at hv
      subst hv
      rw [show w.heap[b]? = _ from hbk] at hg'
      injection hg' with hg'; injection hg' with _ k2 _; exact hT k2
/-- append(s, make([]byte, n)...) onto a full slice of two -/
theorem zeros_on {w : World} {b : Nat} (k ty : Nat) (hk : 0 < k) (hk2 : k ≤ 1000000) (x y : UInt8) (h : At w (some ⟨b, 0, none⟩) (B8s [x, y])) : ∃ c w', (Builtin.append_ #[22, 3] ty #[.slice (some ⟨b, 0, none⟩) 2 2, .int .i64 (k : Int)]).run Try.prog w = .ok (.slice (some ⟨w.heap.size, 0, none⟩) (2 + k) c) w' ∧
    Buf w w' 5 (.slice (some ⟨w.heap.size, 0, none⟩) (2 + k) c) (2 + k) (B8s (x :: y :: List.replicate k 0)) := by
  obtain ⟨i, hi, hz, hsz, hby⟩ := elemB.info
  have h1 := grownCap_ge w (2 + k) 2 5
  have h2 := grownCap_le_maxLen w (2 + k) 2 5 (by unfold maxLen; omega)
  rcases h with h | ⟨b2, off, hb2, hlt, hc⟩
  · simp at h
  · cases hb2
    have hold : (Builtin.firstCells i.size 2 (.slice (some ⟨b, 0, none⟩) 2 2)).run Try.prog w.drew = .ok (B8s [x, y]).toArray w.drew :=
      run_firstCells_some w.drew i.size 2 ⟨b, 0, none⟩ 2 2 (B8s [x, y]) (by rw [hsz]; rfl) (fun j v hj => by
        have hjl : j < (B8s [x, y]).length := by
          rcases Nat.lt_or_ge j (B8s [x, y]).length with h | h
          · exact h
          · rw [List.getElem?_eq_none h] at hj; cases hj
        have := hc j hjl
        rw [List.getD, hj] at this
        rw [WideShapes.add_plain]; exact this)
    have hcap := nextslicecap_le (need := 2 + k) (old := 2) (by omega)
    have hr := Lib.run_append_grow_zeros w 22 3 ty 5 i (.int .u8 0) .i64 .i64 Try.underlying22 Try.underlying3 hi hz (some ⟨b, 0, none⟩) 2 2 (B8s [x, y]) hold k hk (by omega) (by omega) (by omega) (by rw [hby]; omega) (by rw [hby]; omega)
    refine ⟨_, _, hr, ?_⟩
    have hb := Buf.made' w w.drew (bd w) 5 ((B8s [x, y]).toArray ++ Builtin.zeroCells (Value.int .u8 0).cells k ++ Builtin.zeroCells (Value.int .u8 0).cells (grownCap w (2 + k) 2 5 - (2 + k))).toList (2 + k) (grownCap w (2 + k) 2 5) h1 (by rw [Array.length_toList, Array.size_append, Array.size_append, size_zeros _ _ rfl, size_zeros _ _ rfl]; simp; omega) h2
    rw [Array.toArray_toList] at hb
    have ht : (((B8s [x, y]).toArray ++ Builtin.zeroCells (Value.int .u8 0).cells k ++ Builtin.zeroCells (Value.int .u8 0).cells (grownCap w (2 + k) 2 5 - (2 + k))).toList).take (2 + k) = B8s (x :: y :: List.replicate k 0) := by
      have e1 : (Builtin.zeroCells (Value.int .u8 0).cells k).toList = List.replicate k (Value.int .u8 0) := by
        apply List.ext_getElem
        · rw [Array.length_toList, size_zeros _ _ rfl, List.length_replicate]
        · intro n h1 h2
          have hc1 : (Value.int IntKind.u8 0).cells = #[Value.int .u8 0] := rfl
          simp [Builtin.zeroCells, hc1, Nat.mod_one]
      rw [Array.toList_append, Array.toList_append, e1, List.take_append_of_le_length (by simp; omega), List.take_of_length_le (by simp; omega)]
      show B8s [x, y] ++ _ = B8s [x, y] ++ B8s (List.replicate k 0)
      have e2 : B8s (List.replicate k 0) = List.replicate k (Value.int .u8 0) := by
        show List.map _ _ = _
        rw [List.map_replicate]; rfl
      rw [e2]
    rw [ht] at hb
    exact hb
theorem rows_al {B C : Nat} {w : World} {a : Option Addr} {n c : Nat} {vs : List Value} {rows : List (List UInt8)} (hO : Own C w (.slice a n c) n vs) (hR : RowsK B w vs rows) (o : Obj) : RowsAt (w.alloc o) a rows :=
  ⟨vs, (hO.up (ba w o)).at, (hR.safe (Safe.below (ba w o))).of⟩
theorem rows_s3 {B C : Nat} {w : World} {a : Option Addr} {n c : Nat} {vs : List Value} {rows : List (List UInt8)} {T : TypeId} {b : Nat} {a0 a1 a2 v0 v1 v2 : Value} (hO : Own C w (.slice a n c) n vs) (hR : RowsK B w vs rows) (h : BlkT T w b [a0, a1, a2]) (hT : T ≠ 5) (hB : B ≤ b) (hC : b < C) : RowsAt (((w.setCell ⟨b, 0, none⟩ v0).setCell ⟨b, 1, none⟩ v1).setCell ⟨b, 2, none⟩ v2) a rows :=
  ⟨vs, (((hO.set hC _).set hC _).set hC _).at, (hR.safe (safe_rset3 h hT hB)).of⟩
theorem z_up {T : TypeId} {w w' : World} (hb : Below w.heap.size w w') {b : Nat} {cs : List Value} (h : BlkT T w b cs) : BlkT T w' b cs ∧ b < w.heap.size := ⟨h.up hb, h.blk.lt⟩
theorem cat12 : B8s [0, 2, 1, 2] ++ [.int .u8 0] = B8s [0, 2, 1, 2, 0] := rfl
theorem le_pre {W b c : World} (k : Below b.heap.size b c) (h : Below W.heap.size W b) : Below W.heap.size W b := h
theorem at_newk {w : World} {cs : List Value} {T : TypeId} {k : Nat} (hk : k = w.heap.size) : At (w.alloc (.cells cs.toArray T)) (some ⟨k, 0, none⟩) cs := by subst hk; exact at_new w cs T
theorem at_alloc {w : World} {a : Option Addr} {cs : List Value} {o : Obj} (h : At w a cs) : At (w.alloc o) a cs := h.mono (ba w o)
theorem at_drew {w : World} {a : Option Addr} {cs : List Value} (h : At w a cs) : At w.drew a cs := h.mono (bd w)
theorem at_up {w w' : World} (hb : Below w.heap.size w w') {a : Option Addr} {cs : List Value} (h : At w a cs) : At w' a cs := h.mono hb
theorem buf_alloc {wB w : World} {e : TypeId} {v : Value} {n : Nat} {xs : List Value} {o : Obj} (h : Buf wB w e v n xs) : Buf wB (w.alloc o) e v n xs := h.alloc o
theorem buf_drew {wB w : World} {e : TypeId} {v : Value} {n : Nat} {xs : List Value} (h : Buf wB w e v n xs) : Buf wB w.drew e v n xs := h.drew
theorem BlkT.al {T : TypeId} {w : World} {b : Nat} {cs : List Value} (h : BlkT T w b cs) (o : Obj) : BlkT T (w.alloc o) b cs := h.up (ba w o)
theorem BlkT.upR {T : TypeId} {w w' : World} (hb : Below w.heap.size w w') {b : Nat} {cs : List Value} (h : BlkT T w b cs) : BlkT T w' b cs := h.up hb
/-- what is behind the second push -/
def ShAt (w0 wx : World) (v5 v6 : Value) : Prop := ∃ (b5 : Nat) (g : Fv) (oa : Option Addr) (oc : Nat), v5 = .pointer (some ⟨b5, 0, none⟩) ∧ v6 = .slice oa 1 oc ∧ Blk wx b5 g.L ∧ FdAt wx g ⟨[0], 0, 1⟩ ∧ RowsAt wx oa [[1, 2]] ∧ Below w0.heap.size w0 wx
theorem ex_first (Z : List UInt8) (hZ : Z.length = 1025) : runF ⟨[], 0, 0⟩ (4 :: 1 :: Z) = (⟨[], 0, 1⟩, []) := by
  have e : toldL (4 :: 1 :: Z) = 1025 := rfl
  have h := R_bad 0 (4 :: 1 :: Z) (by simp) (by right; rw [e]; decide)
  rw [e] at h
  have h2 := R_over (((1025 : Nat) : Int) + 2) (more 0) (4 :: 1 :: Z) (by simp [hZ])
  have h3 : (((1025 : Nat) : Int) + 2) - ((4 :: 1 :: Z : List UInt8).length : Int) = 0 := by simp [hZ]
  rw [h3] at h2
  have h4 : more 0 = 1 := by decide
  show R 0 0 _ = _
  rw [h, h2, h4]
theorem ex_second : runF ⟨[], 0, 1⟩ [0, 2, 1, 2, 0] = (⟨[0], 0, 1⟩, [[1, 2]]) := by
  have h := R_whole 1 [0, 2, 1, 2, 0] (by decide) (by decide) (by decide)
  have e : toldL [0, 2, 1, 2, 0] = 2 := by decide
  rw [e] at h
  show R 0 1 _ = _
  rw [h]
  have h2 := R_short 0 1 [0] (by decide) (.inl rfl)
  show ((R 0 1 [0]).1, [1, 2] :: (R 0 1 [0]).2) = _
  rw [h2]

set_option maxRecDepth 100000 in
set_option maxHeartbeats 8000000 in
theorem shown08 : Shown08OK := by
  intro w
  have HI := Lib.hid feed_info
  go_enter Try.func9, Try.ntmps9
  go_wp2_with fail
  have hp := pack_any (some ⟨w.heap.size, 0, none⟩) 2 [1, 2] (w.alloc (.cells #[.int .u8 1, .int .u8 2] 5)) (by decide) (at_new w [.int .u8 1, .int .u8 2] 5)
  refine Calls.mono hp ?_
  rintro e w1 ⟨hb1, ⟨-, a1, c1, rfl, hc1, hc1', ha1⟩ | ⟨h, -⟩⟩
  case inr => exact absurd h (by decide)
  have Ha1 := Lib.hid ha1
  have Hb1 := Lib.hid (bt (ba w _) hb1)
  clear hp hb1 ha1 hc1 hc1'
  obtain ⟨c2, w2, hz, hB2⟩ := zeros_on (w := w1.alloc (.cells #[.int .u8 4, .int .u8 1] 5)) (b := w1.heap.size) 1025 22 (by decide) (by decide) 4 1 (at_new w1 [.int .u8 4, .int .u8 1] 5)
  obtain ⟨Z, hZ⟩ : ∃ Z : List UInt8, List.replicate 1025 0 = Z := ⟨_, rfl⟩
  have hZl : Z.length = 1025 := by rw [← hZ, List.length_replicate]
  rw [hZ] at hB2
  have hex := ex_first Z hZl
  have hlen : (4 :: 1 :: Z : List UInt8).length = 1027 := by simp [hZl]
  have HZ := Lib.hid hz
  have hP := (fun f (h : FdAt w2 f ⟨[], 0, 0⟩) => push_any f ⟨[], 0, 0⟩ (some ⟨(w1.alloc (.cells #[.int .u8 4, .int .u8 1] 5)).heap.size, 0, none⟩) c2 (4 :: 1 :: Z) w2 0 (Nat.zero_le _) h (by decide) hB2.at (by rw [hlen]; decide))
  rw [hex, hlen, size_alloc] at hP
  have HP := Lib.hid hP
  have Hb2 := Lib.hid (bt (bt Hb1.out (ba w1 _)) hB2.bel)
  have Ha2 := Lib.hid (Ha1.out.mono (bt (ba w1 _) hB2.bel))
  clear hz hB2 hP hex hlen hZl hZ Ha1 Hb1
  go_wp2_with (first
    | (at_builtin; go_must (refine Lib.wpList_append_run _ rfl (.tmp 14) (.const (.int .i64 1025)) 22 3 rfl _ _ rfl rfl _ _ HZ.out ?_))
    | fail)
  refine Calls.mono (HP.out ⟨none, 0, 0, 0, 0⟩ ⟨rfl, Nat.le_refl _, Nat.zero_le _, .inl rfl, rfl, rfl⟩) ?_
  rintro e w3 ⟨f1, oa, oc, vs, rfl, hF, -, -, -, hb3⟩
  obtain ⟨fa, fl, fc, fs, fb⟩ := f1
  obtain ⟨e1, -, hfc, -, e2, e3⟩ := hF
  simp only [List.length_nil] at e1 e2 e3
  subst e1 e2 e3
  have Hb3 := Lib.hid (bt Hb2.out hb3)
  have Ha3 := Lib.hid (Ha2.out.mono hb3)
  clear HP HZ Hb2 Ha2 hb3
  go_wp2_with fail
  have hT3 : BlkT 24 (w3.alloc (.cells #[.slice fa 0 fc, .int .i64 0, .int .i64 1] 24)) w3.heap.size [.slice fa 0 fc, .int .i64 0, .int .i64 1] := BlkT.new w3 _ _
  have hbW := bt Hb3.out (ba w3 (.cells #[.slice fa 0 fc, .int .i64 0, .int .i64 1] 24))
  have haW : BytesAt _ a1 [0, 2, 1, 2] := Ha3.out.mono (ba w3 (.cells #[.slice fa 0 fc, .int .i64 0, .int .i64 1] 24))
  generalize World.alloc w3 _ = W at hT3 hbW haW ⊢
  generalize w3.heap.size = n3 at hT3 ⊢
  have HT3 := Lib.hid hT3
  have HbW := Lib.hid hbW
  have HaW := Lib.hid haW
  have Hfc := Lib.hid hfc
  have hT5 : (24 : TypeId) ≠ 5 := by decide
  clear hT3 hbW haW Hb3 Ha3 hfc
  go_cut [5, 6] (fun v5 v6 wx => ShAt W wx v5 v6)
  case first =>
    have KS := Lib.hid (show ∀ w', Below W.heap.size W w' → (Below W.heap.size W w' ∧ w'.cell? ⟨n3, 0, none⟩ = some (.slice fa 0 fc) ∧ w'.cell? ⟨n3, 1, none⟩ = some (.int .i64 0) ∧ w'.cell? ⟨n3, 2, none⟩ = some (.int .i64 1)) from fun w' hb => by
      obtain ⟨c0, c1, c2⟩ := cells3 (HT3.out.up hb).blk
      exact ⟨hb, c0, c1, c2⟩)
    obtain ⟨hS0, k0, k1, k2⟩ := KS.out W (Below.refl _ _)
    have HPush := Lib.hid (show ∀ (W' : World) (a : Option Addr) (c : Nat), Below W.heap.size W W' → BytesAt W' a [0, 2, 1, 2, 0] → Calls Try.prog 17 #[Value.agg #[.slice fa 0 fc, .int .i64 0, .int .i64 1], .slice a 5 c] W' (PushOut W.heap.size W' (⟨[0], 0, 1⟩, [[1, 2]])) from fun W' a c hW' ha => by
      have := push_any ⟨fa, 0, fc, 0, 1⟩ ⟨[], 0, 1⟩ a c [0, 2, 1, 2, 0] W' W.heap.size hW'.size ⟨rfl, Nat.zero_le _, Hfc.out, .inl rfl, rfl, rfl⟩ (by decide) ha (by decide)
      rw [ex_second] at this
      exact this)
    have z1 : True := trivial
    have z2 : True := trivial
    go_region_held3 (fun w' => Below W.heap.size W w' ∧ w'.cell? ⟨n3, 0, none⟩ = some (.slice fa 0 fc) ∧ w'.cell? ⟨n3, 1, none⟩ = some (.int .i64 0) ∧ w'.cell? ⟨n3, 2, none⟩ = some (.int .i64 1))
      (first
        | (apply KS.out; (with_reducible (repeat (first | assumption | apply bta | apply btd | apply Below.refl))); done)
        | (apply KS.out; (with_reducible (apply rset3_below; rotate_left)); (first | apply Nat.le_refl | omega); (with_reducible (repeat (first | assumption | apply bta | apply btd | apply Below.refl))); done)
        | fail)
      (first
        | (go_at_call 17; go_split_ands; ((with_reducible refine Calls.mono (HPush.out _ _ _ (by assumption) (by with_reducible (repeat (first | exact hQ.at | apply at_alloc | apply at_drew)))) ?_); rintro e w5 ⟨g, ga, gc, gvs, rfl, hg, hgk, hgO, hgR, hb5⟩; have hRw := bt (le_pre hb5 (show Below W.heap.size W _ by assumption)) hb5; have sR := hRw.size; (try ((with_reducible have z3p := z_up hb5 z2); (try simp only [size_alloc] at z3p); have z3 := z3p.1; have lz3 := z3p.2; have fz3 := z3.blk.frozen; obtain ⟨x0, x1, x2⟩ := cells3 z3.blk)); (try ((with_reducible have z3p := z_up hb5 (BlkT.new _ F0 _)); (try simp only [size_alloc] at z3p); have z3 := z3p.1; have lz3 := z3p.2; have fz3 := z3.blk.frozen; obtain ⟨x0, x1, x2⟩ := cells3 z3.blk))))
        | (go_split_ands; refine step_fresh (.tmp 21) (.tmp 22) 22 rfl rfl elemB rfl (sp := a1) (m := 4) (news := B8s [0, 2, 1, 2]) rfl (HaW.out.mono (by assumption)) (by decide) (by decide) (by decide) (by decide) ?_; intro ap cp wp hP; have hPb := hP.bel; have hWP := le_pre hPb (show Below W.heap.size W _ by assumption); have hPw : Below W.heap.size W wp := bt hWP hPb; have sP := hPw.size; (try ((with_reducible have z1 := BlkT.upR hPb (BlkT.new _ F0 _)))); (try ((with_reducible have z1 := BlkT.upR hPb ((BlkT.new _ F0 _).al _)))); (try ((with_reducible have z1 := BlkT.upR hPb (((BlkT.new _ F0 _).al _).al _)))))
        | (go_split_ands; refine step_grow (.tmp 23) (.tmp 24) 22 rfl rfl elemB rfl (v := .slice ap 4 cp) (n := 4) (xs := B8s [0, 2, 1, 2]) (hP.later (by with_reducible (repeat (first | exact Below.refl _ _ | apply bta | apply btd)))) (m := 1) (news := [.int .u8 0]) rfl (by (repeat (first | ((with_reducible refine at_newk ?_); first | rfl | (simp; done)) | (with_reducible apply at_alloc) | (with_reducible apply at_drew) | (with_reducible apply at_up hPb)))) rfl (bytes_one [0]) (by decide) (by decide) 5 rfl (B8s [0, 2, 1, 2, 0]) cat12 ?_; intro aq cq wq hQ hQk sQ; have hQw : Below W.heap.size W wq := bt hWP hQ.bel; have sQ2 := hQw.size; (try ((with_reducible have z2 := hQk _ _ _ hT5 z1))); (try ((with_reducible have z2 := hQk _ _ _ hT5 (z1.al _)))); (try ((with_reducible have z2 := hQk _ _ _ hT5 (BlkT.new _ F0 _)))); (try ((with_reducible have z2 := hQk _ _ _ hT5 ((BlkT.new _ F0 _).al _))))))
    all_goals
      go_split_ands
      go_wp2_with fail
      go_meet
    all_goals refine ⟨_, g, ga, gc, rfl, rfl, ?_, ?_, ?_, by assumption⟩
    all_goals first
      | ((with_reducible show Blk (World.alloc _ _) _ _); exact Blk.new w5 g.L _)
      | ((with_reducible show Blk (World.setCell _ _ _) _ _); exact (rset3 z3).blk)
      | ((with_reducible show FdAt (World.alloc _ _) _ _); exact hg.mono (ba w5 _))
      | ((with_reducible show RowsAt (World.alloc _ _) _ _); exact rows_al hgO hgR _)
      | ((with_reducible show FdAt (World.setCell _ _ _) _ _); exact hg.keep (hgk.safe (safe_rset3 (B := W.heap.size) (v0 := .slice g.a g.len g.cap) (v1 := .int .i64 g.skip) (v2 := .int .i64 g.bad) z3 hT5 (by omega))))
      | ((with_reducible show RowsAt (World.setCell _ _ _) _ _); exact rows_s3 hgO hgR z3 hT5 (by omega) (by first | exact lz3 | (rw [size_alloc]; exact lz3) | (rw [size_alloc, size_alloc]; exact lz3)))
      | exact rows_s3 hgO hgR z3 hT5 (by omega) (by simp; omega)
  case rest =>
    obtain ⟨b5, g, oa, oc, rfl, rfl, h5, hg, hrows, hbc⟩ := hcut
    obtain ⟨ga, gl, gc, gs, gb⟩ := g
    obtain ⟨e1, hgc1, hgc2, hgat, e2, e3⟩ := hg
    simp only [List.length_singleton] at e1 e2 e3
    subst e1 e2 e3
    obtain ⟨rb, ro, rp, rc, rfl, hrb, hrc, -, -, hrat⟩ := hrows.row 0 (by decide)
    rw [Nat.add_zero] at hrc
    have hr2 : ([[1, 2]] : List (List UInt8)).getD 0 [] = [1, 2] := rfl
    rw [hr2] at hrc hrat
    have hl2 : ([1, 2] : List UInt8).length = 2 := rfl
    rw [hl2] at hrc
    have HC := Lib.hid (show ∀ w', Below wc.heap.size wc w' → w'.cell? ⟨rb, ro, none⟩ = some (.slice rp 2 rc) ∧ BytesAt w' rp [1, 2] from fun w' h => ⟨by rw [h.cell (p := ⟨rb, ro, none⟩) hrb]; exact hrc, hrat.mono h⟩)
    have HHex := Lib.hid (show ∀ w', Below wc.heap.size wc w' → Calls Try.prog 22 #[.slice a1 4 c1] w' (StrOut w' [48, 48, 48, 50, 48, 49, 48, 50]) from fun w' h => by
      have := hex_any a1 4 c1 [0, 2, 1, 2] rfl (by decide) w' ((HaW.out.mono hbc).mono h)
      rwa [show hexF [0, 2, 1, 2] = [48, 48, 48, 50, 48, 49, 48, 50] by decide] at this)
    have HSm := Lib.hid (show ∀ (w' : World) (k : Nat), BytesAt w' rp [1, 2] → At w' (some ⟨k, 0, none⟩) [.int .u8 1, .int .u8 2] → Calls Try.prog 12 #[.slice rp 2 rc, .slice (some ⟨k, 0, none⟩) 2 2] w' fun e w'' => e = .returned (.bool true) ∧ w' = w'' from fun w' k h1 h2 =>
      same01_any rp (some ⟨k, 0, none⟩) 2 rc 2 2 [1, 2] [1, 2] w' rfl rfl h1 h2)
    have HR1 := Lib.hid (show ∀ w', Below wc.heap.size wc w' → Calls Try.prog 13 #[Value.agg #[.slice ga 1 gc, .int .i64 0, .int .i64 1]] w' fun e w'' => e = .returned (.bool true) ∧ Below w'.heap.size w' w'' from fun w' h =>
      right_any ⟨ga, 1, gc, 0, 1⟩ ⟨[0], 0, 1⟩ w' ⟨rfl, hgc1, hgc2, hgat.mono h, rfl, rfl⟩)
    have HR2 := Lib.hid (show ∀ w', Calls Try.prog 13 #[Value.agg #[.slice none 0 0, .int .i64 (-1), .int .i64 0]] w' fun e w'' => e = .returned (.bool false) ∧ Below w'.heap.size w' w'' from fun w' =>
      right_any ⟨none, 0, 0, -1, 0⟩ ⟨[], -1, 0⟩ w' ⟨rfl, Nat.le_refl _, Nat.zero_le _, .inl rfl, rfl, rfl⟩)
    have HS1 := Lib.hid (show ∀ w', Below wc.heap.size wc w' → Calls Try.prog 15 #[Value.agg #[.slice ga 1 gc, .int .i64 0, .int .i64 1], Value.agg #[.slice ga 1 gc, .int .i64 0, .int .i64 1]] w' fun e w'' => e = .returned (.bool true) ∧ Below w'.heap.size w' w'' from fun w' h =>
      same_any ⟨ga, 1, gc, 0, 1⟩ ⟨ga, 1, gc, 0, 1⟩ ⟨[0], 0, 1⟩ ⟨[0], 0, 1⟩ w' ⟨rfl, hgc1, hgc2, hgat.mono h, rfl, rfl⟩ ⟨rfl, hgc1, hgc2, hgat.mono h, rfl, rfl⟩)
    have HS2 := Lib.hid (show ∀ w', Below wc.heap.size wc w' → Calls Try.prog 15 #[Value.agg #[.slice fa 0 fc, .int .i64 0, .int .i64 1], Value.agg #[.slice ga 1 gc, .int .i64 0, .int .i64 1]] w' fun e w'' => e = .returned (.bool false) ∧ Below w'.heap.size w' w'' from fun w' h =>
      same_any ⟨fa, 0, fc, 0, 1⟩ ⟨ga, 1, gc, 0, 1⟩ ⟨[], 0, 1⟩ ⟨[0], 0, 1⟩ w' ⟨rfl, Nat.zero_le _, Hfc.out, .inl rfl, rfl, rfl⟩ ⟨rfl, hgc1, hgc2, hgat.mono h, rfl, rfl⟩)
    have H3 := Lib.hid (HT3.out.up hbc)
    have H5 := Lib.hid h5
    have Hx := Lib.hid (Below.refl wc.heap.size wc)
    have HbW := Lib.hid (bt HbW.out hbc)
    obtain ⟨k0, k1, k2⟩ := cells3 H3.out.blk
    obtain ⟨x0, x1, x2⟩ := cells3 H5.out
    have y0 := (HC.out _ Hx.out).1
    clear h5 hrows hbc hgat hrat hrc hrb HT3 HaW hr2 hl2
    go_wp2_with (first
      | (go_at_call 22; go_must (((with_reducible refine Calls.mono (HHex.out _ Hx.out) ?_); rintro e v1 ⟨rfl, hv⟩; replace H3 := Lib.hid (H3.out.up hv); replace H5 := Lib.hid (H5.out.up hv); replace Hx := Lib.hid (bt Hx.out hv); clear k0 k1 k2 x0 x1 x2 y0; obtain ⟨k0, k1, k2⟩ := cells3 H3.out.blk; obtain ⟨x0, x1, x2⟩ := cells3 H5.out; have y0 := (HC.out _ Hx.out).1)))
      | (go_at_call 12; go_must (have hv := bt Hx.out (ba _ (.cells #[.int .u8 1, .int .u8 2] 5)); ((with_reducible refine Calls.mono (HSm.out _ _ (HC.out _ hv).2 (at_newk (by simp))) ?_); rintro e v2 ⟨rfl, rfl⟩; replace H3 := Lib.hid (H3.out.up (ba _ (.cells #[.int .u8 1, .int .u8 2] 5))); replace H5 := Lib.hid (H5.out.up (ba _ (.cells #[.int .u8 1, .int .u8 2] 5))); replace Hx := Lib.hid (bt Hx.out (ba _ (.cells #[.int .u8 1, .int .u8 2] 5))); clear k0 k1 k2 x0 x1 x2 y0; obtain ⟨k0, k1, k2⟩ := cells3 H3.out.blk; obtain ⟨x0, x1, x2⟩ := cells3 H5.out; have y0 := (HC.out _ Hx.out).1)))
      | (go_at_call 13; ((with_reducible refine Calls.mono (HR1.out _ Hx.out) ?_); rintro e v3 ⟨rfl, hv⟩; replace H3 := Lib.hid (H3.out.up hv); replace H5 := Lib.hid (H5.out.up hv); replace Hx := Lib.hid (bt Hx.out hv); clear k0 k1 k2 x0 x1 x2 y0; obtain ⟨k0, k1, k2⟩ := cells3 H3.out.blk; obtain ⟨x0, x1, x2⟩ := cells3 H5.out; have y0 := (HC.out _ Hx.out).1))
      | (go_at_call 13; ((with_reducible refine Calls.mono (HR2.out _) ?_); rintro e v4 ⟨rfl, hv⟩; replace H3 := Lib.hid (H3.out.up hv); replace H5 := Lib.hid (H5.out.up hv); replace Hx := Lib.hid (bt Hx.out hv); clear k0 k1 k2 x0 x1 x2 y0; obtain ⟨k0, k1, k2⟩ := cells3 H3.out.blk; obtain ⟨x0, x1, x2⟩ := cells3 H5.out; have y0 := (HC.out _ Hx.out).1))
      | (go_at_call 15; ((with_reducible refine Calls.mono (HS1.out _ Hx.out) ?_); rintro e v5 ⟨rfl, hv⟩; replace H3 := Lib.hid (H3.out.up hv); replace H5 := Lib.hid (H5.out.up hv); replace Hx := Lib.hid (bt Hx.out hv); clear k0 k1 k2 x0 x1 x2 y0; obtain ⟨k0, k1, k2⟩ := cells3 H3.out.blk; obtain ⟨x0, x1, x2⟩ := cells3 H5.out; have y0 := (HC.out _ Hx.out).1))
      | (go_at_call 15; ((with_reducible refine Calls.mono (HS2.out _ Hx.out) ?_); rintro e v6 ⟨rfl, hv⟩; replace H3 := Lib.hid (H3.out.up hv); replace H5 := Lib.hid (H5.out.up hv); replace Hx := Lib.hid (bt Hx.out hv); clear k0 k1 k2 x0 x1 x2 y0; obtain ⟨k0, k1, k2⟩ := cells3 H3.out.blk; obtain ⟨x0, x1, x2⟩ := cells3 H5.out; have y0 := (HC.out _ Hx.out).1)))
    go_ret
    exact ⟨rfl, bt HbW.out Hx.out⟩
end Go.Proofs.Ytipidgjdfmghnaa
