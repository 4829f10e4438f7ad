/- The walk of the law MacLimits. -/
import Derived.Test.YtbpmgjnjcdjdfaaDoorMacJ
import Derived.Lib.AppendZerosOnto
import Derived.Lib.SliceRun
set_option linter.unusedSimpArgs false
set_option linter.unusedVariables false
namespace Go.Proofs.YtbpmgjnjcdjdfaaDoor
open Go.RowKit

theorem size_zeros (z : Array Value) (n : Nat) (hz : z.size = 1) : (Builtin.zeroCells z n).size = n := by
  simp [Builtin.zeroCells, hz]
theorem Buf.madeD (w : World) (cs : List Value) (k cap : Nat) (hk : k ≤ cap) (hl : cs.length = cap) (hm : cap ≤ maxLen) :
    Buf w (w.drew.alloc (.cells cs.toArray 5)) 5 (.slice (some ⟨w.heap.size, 0, Option.none⟩) k cap) k (cs.take k) :=
  ⟨⟨by rw [List.length_take]; omega, .inr ⟨w.heap.size, cap, cs.toArray, rfl, Nat.le_refl _, by rw [← show w.drew.heap.size = w.heap.size from rfl]; simp only [World.alloc, Array.getElem?_push, if_true], hk, hm, by simp [hl], by simp⟩⟩, (bd w).trans ((ba w.drew _).mono (Nat.le_refl _))⟩
/-- append(s, make([]byte, n)...) onto a full slice of one -/
theorem zeros_on1 {w : World} {b : Nat} (k ty : Nat) (hk2 : k ≤ 1000000) (x : UInt8) (h : At w (some ⟨b, 0, none⟩) (B8s [x])) : ∃ a' c w', (Builtin.append_ #[22, 3] ty #[.slice (some ⟨b, 0, none⟩) 1 1, .int .i64 (k : Int)]).run Tryd.prog w = .ok (.slice a' (1 + k) c) w' ∧
    BytesAt w' a' (x :: List.replicate k 0) ∧ Below w.heap.size w w' := by
  obtain ⟨i, hi, hz, hsz, hby⟩ := elemB.info
  by_cases hk : k = 0
  · subst hk
    refine ⟨some ⟨b, 0, none⟩, 1, w, ?_, h, Below.refl _ _⟩
    have hw0 : IntKind.i64.wrap 0 = 0 := by rw [IntKind.wrap_i64]; rfl
    simp [Builtin.append_, run_underlying Tryd.underlying22, run_underlying Tryd.underlying3, sizeOf, typeInfo, hi, hsz, hby, hz, Builtin.lenOf, storeCells, Builtin.firstCells, asInt, asIntOf, hw0, zeroValue]
  · have h1 := grownCap_ge w (1 + k) 1 5
    have h2 := grownCap_le_maxLen w (1 + k) 1 5 (by unfold maxLen; omega)
    have h' := h
    rcases h with h | ⟨b2, off, hb2, hlt, hc⟩
    · simp at h
    · cases hb2
      have hold : (Builtin.firstCells i.size 1 (.slice (some ⟨b, 0, none⟩) 1 1)).run Tryd.prog w.drew = .ok (B8s [x]).toArray w.drew :=
        run_firstCells_some w.drew i.size 1 ⟨b, 0, none⟩ 1 1 (B8s [x]) (by rw [hsz]; rfl) (fun j v hj => by
          have hjl : j < (B8s [x]).length := by
            rcases Nat.lt_or_ge j (B8s [x]).length with h | h
            · exact h
            · rw [List.getElem?_eq_none h] at hj; cases hj
          have := hc j hjl
          rw [List.getD, hj] at this
          rw [WideShapes.add_plain]; exact this)
      have hcap := nextslicecap_le (need := 1 + k) (old := 1) (by omega)
      have hr := Lib.run_append_grow_zeros w 22 3 ty 5 i (.int .u8 0) .i64 .i64 Tryd.underlying22 Tryd.underlying3 hi hz (some ⟨b, 0, none⟩) 1 1 (B8s [x]) hold k (by omega) (by omega) (by omega) (by omega) (by rw [hby]; omega) (by rw [hby]; omega)
      have hb := Buf.madeD w ((B8s [x]).toArray ++ Builtin.zeroCells (Value.int .u8 0).cells k ++ Builtin.zeroCells (Value.int .u8 0).cells (grownCap w (1 + k) 1 5 - (1 + k))).toList (1 + k) (grownCap w (1 + k) 1 5) h1 (by rw [Array.length_toList, Array.size_append, Array.size_append, size_zeros _ _ rfl, size_zeros _ _ rfl]; simp; omega) h2
      rw [Array.toArray_toList] at hb
      have ht : (((B8s [x]).toArray ++ Builtin.zeroCells (Value.int .u8 0).cells k ++ Builtin.zeroCells (Value.int .u8 0).cells (grownCap w (1 + k) 1 5 - (1 + k))).toList).take (1 + k) = B8s (x :: List.replicate k 0) := by
        have e1 : (Builtin.zeroCells (Value.int .u8 0).cells k).toList = List.replicate k (Value.int .u8 0) := by
          apply List.ext_getElem
          · rw [Array.length_toList, size_zeros _ _ rfl, List.length_replicate]
          · intro n h1 h2
            have hc1 : (Value.int IntKind.u8 0).cells = #[Value.int .u8 0] := rfl
            simp [Builtin.zeroCells, hc1, Nat.mod_one]
        rw [Array.toList_append, Array.toList_append, e1, List.take_append_of_le_length (by simp; omega), List.take_of_length_le (by simp; omega)]
        show B8s [x] ++ _ = B8s [x] ++ B8s (List.replicate k 0)
        have e2 : B8s (List.replicate k 0) = List.replicate k (Value.int .u8 0) := by
          show List.map _ _ = _
          rw [List.map_replicate]; rfl
        rw [e2]
      rw [ht] at hb
      exact ⟨_, _, _, hr, hb.at, hb.bel⟩
theorem wpList_zerosG {ops : Array Oper} {rest : List Oper} {o : Oper} {a : Act} {w : World} {Q : Exit → Act → World → Prop} (s x : Operand) (hw : Region.wanted o (yielded ops a.tmps) = true)
    (ho : o.op = .call { callee := .builtin .append, args := #[s, x], argTypes := #[22, 3] }) {b : Nat} (k : Nat) (y : UInt8) (hs : a.eval s = .slice (some ⟨b, 0, none⟩) 1 1) (hx : a.eval x = .int .i64 (k : Int)) (hS : BytesAt w (some ⟨b, 0, none⟩) [y]) (hk : k ≤ 1000000)
    (h : ∀ a' c' w', BytesAt w' a' (y :: List.replicate k 0) → Below w.heap.size w w' → wpList Tryd.prog ops Q rest (a.put o.dst (.slice a' (1 + k) c')) w') : wpList Tryd.prog ops Q (o :: rest) a w := by
  refine BigFrame.wpList_want hw fun K hK => ?_
  obtain ⟨a', cap', w', hr, h2, h3⟩ := zeros_on1 (w := w) (b := b) k o.type hk y hS
  unfold Oper.wp execOp
  simp only [ho, resolve, List.map_toArray, List.map_cons, List.map_nil, hs, hx, invoke, builtin, Sem.run_bind, Sem.run_pure, Result.andThen_ok, hr]
  exact hK _ _ (h a' cap' w' h2 h3)
theorem elemR : ElemT Tryd.prog 27 22 1 24 (.slice none 0 0) := ElemT.mk1 Tryd.underlying27 (by kernel_rfl) rfl (by decide)
theorem told_zero (N : Nat) : ∀ M, toldF (List.replicate N 0) (List.replicate M []) = lowByte (N : Int) :: List.replicate (N + 2 * M) 0 := fun M => by
  have e : ((List.replicate M ([] : List UInt8)).map partB).flatten = List.replicate (2 * M) 0 := by
    induction M with
    | zero => rfl
    | succ M ih => rw [List.replicate_succ, List.map_cons, List.flatten_cons, ih, show 2 * (M + 1) = 2 * M + 1 + 1 by omega, List.replicate_succ, List.replicate_succ]; rfl
  unfold toldF toldN
  rw [List.take_of_length_le (Nat.le_refl _), e, List.length_replicate, List.replicate_append_replicate]
theorem rows_nil {w : World} {b M : Nat} (h : Blk w b (List.replicate M (.slice none 0 0))) : RowsAt w (some ⟨b, 0, none⟩) (List.replicate M []) := by
  refine ⟨_, h.at, by simp, fun i hi => ⟨none, 0, ?_, ?_, Nat.zero_le _, .inl ?_⟩⟩
  · have hi' : i < M := by simpa using hi
    simp [List.getD, hi']
  · have hi' : i < M := by simpa using hi
    simp [List.getD, hi']
  · have hi' : i < M := by simpa using hi
    simp [List.getD, hi']
theorem sum_nil (M : Nat) : sumL (List.replicate M ([] : List UInt8)) = 0 := by
  unfold sumL; simp

set_option maxRecDepth 100000 in
set_option maxHeartbeats 2000000 in
theorem macLimits_any (hsh : Shown03OK) (a : Option Addr) (ca : Nat) (key : List UInt8) (n m : Nat) (w : World) (hlm : key.length ≤ maxLen) (hn : n < 65536) (hm : m < 256) (ha : BytesAt w a key) (hk : KeysAt w) :
    Calls Tryd.prog 9 #[.slice a key.length ca, .int .u16 (n : Int), .int .u8 (m : Int)] w (BoolOut w true) := by
  have Hsh := Lib.hid hsh
  have Ha := Lib.hid ha
  have Hk := Lib.hid hk
  unfold maxLen at hlm
  clear hsh ha hk
  by_cases h1 : 100 < key.length
  · have hd : (100 : Int) < (key.length : Int) := by omega
    go_enter Tryd.func9, Tryd.ntmps9
    go_wp2_with fail
    refine (Hsh.out w Hk.out).mono ?_; rintro e w1 ⟨rfl, hb1⟩
    go_wp2_with fail
    go_ret
    exact ⟨rfl, hb1⟩
  · have hd : ¬ (100 : Int) < (key.length : Int) := by omega
    obtain ⟨N, hN⟩ : ∃ N, N = n % 300 := ⟨_, rfl⟩
    obtain ⟨M, hM⟩ : ∃ M, M = m % 20 := ⟨_, rfl⟩
    have hn1 : ((n : Int)).tmod 300 = ((N : Nat) : Int) := by rw [Int.tmod_eq_emod_of_nonneg (by omega), hN]; omega
    have hn2 : (n : Int) % 300 = ((N : Nat) : Int) := by omega
    have hm1 : ((m : Int)).tmod 20 = ((M : Nat) : Int) := by rw [Int.tmod_eq_emod_of_nonneg (by omega), hM]; omega
    have hm2 : (m : Int) % 20 = ((M : Nat) : Int) := by omega
    have hN3 : N < 300 := by omega
    have hM3 : M < 20 := by omega
    obtain ⟨Z, z, hZ, hz⟩ : ∃ Z z, Z = B8s z ∧ z = List.replicate N (0 : UInt8) := ⟨_, _, rfl, rfl⟩
    have hzl : z.length = N := by rw [hz]; simp
    have hmk : ∀ w, (Instr.makeSlice 22 (.int .i64 (N : Int)) (.int .i64 (N : Int))).run Tryd.prog w = .ok (.slice (some ⟨w.heap.size, 0, none⟩) N N) (w.alloc (.cells Z.toArray 5)) := fun w => by
      rw [hZ, hz, show B8s (List.replicate N (0 : UInt8)) = List.replicate N (Value.int .u8 0) by show List.map _ _ = _; rw [List.map_replicate]; rfl]
      exact run_mk elemB w .i64 .i64 N (by omega) (by unfold maxLen; omega) rfl
    obtain ⟨Y, hY⟩ : ∃ Y, Y = List.replicate M (Value.slice none 0 0) := ⟨_, rfl⟩
    have hmk2 : ∀ w, (Instr.makeSlice 27 (.int .i64 (M : Int)) (.int .i64 (M : Int))).run Tryd.prog w = .ok (.slice (some ⟨w.heap.size, 0, none⟩) M M) (w.alloc (.cells Y.toArray 22)) := fun w => by
      rw [hY]; exact run_mk elemR w .i64 .i64 M (by omega) (by unfold maxLen; omega) rfl
    have HAt := Lib.hid (show ∀ w' : World, BytesAt (w'.alloc (.cells Z.toArray 5)) (some ⟨w'.heap.size, 0, none⟩) z from fun w' => by rw [hZ]; exact at_new w' (B8s z) _)
    have hstr := fun W => run_str (HAt.out W) 22 9 5 Tryd.underlying22 Tryd.underlying5 Tryd.underlying9 N N hzl.symm
    obtain ⟨str, hst⟩ : ∃ str : ByteArray, str = ⟨z.toArray⟩ := ⟨_, rfl⟩
    rw [← hst] at hstr
    have hsl : str.data.toList = z := by rw [hst]
    have hss : str.size = N := by rw [← str_size, hsl, hzl]
    have HR := Lib.hid (show ∀ w' : World, RowsAt (w'.alloc (.cells Y.toArray 22)) (some ⟨w'.heap.size, 0, none⟩) (List.replicate M []) from fun w' => rows_nil (by rw [hY]; exact Blk.new w' _ _))
    have HT := Lib.hid (show toldF str.data.toList (List.replicate M []) = lowByte (N : Int) :: List.replicate (N + 2 * M) 0 by rw [hsl, hz]; exact told_zero N M)
    have Hss := Lib.hid hss
    have hsz0 : (str.size : Int) = ((N : Nat) : Int) := by rw [hss]
    have HN := Lib.hid hN
    have HM := Lib.hid hM
    have Hkl := Lib.hid (show key.length ≤ 100 by omega)
    have hw8 := wrap8 (N : Int)
    clear hZ hz hzl hY hst hsl hss hN hM h1
    go_enter Tryd.func9, Tryd.ntmps9
    go_wp2_with fail
    refine (Hsh.out w Hk.out).mono ?_; rintro e w1 ⟨rfl, hb1⟩
    have Hw := Lib.hid hb1
    clear hb1
    go_upto_region 6 with (fail)
    have hssz : str.size = N := Hss.out
    by_cases h255 : 255 < N
    · have hd1 : (255 : Int) < ((N : Nat) : Int) := by omega
      have HD := Lib.hid (fun W => macDerive_bad a key.length ca str (some ⟨w1.heap.size + 1, 0, none⟩) M M (.inl (by omega)) (by omega) (by unfold maxLen; omega) W)
      go_wp2_with fail
      refine (HD.out _).mono ?_; rintro e w2 ⟨rfl, hb2⟩
      have Hw2 := Lib.hid (bt (bta (bta Hw.out _) _) hb2)
      clear hb2 hmk hmk2 hstr
      go_wp2_with fail
      go_ret
      exact ⟨rfl, Hw2.out⟩
    · have hd1 : ¬ (255 : Int) < ((N : Nat) : Int) := by omega
      by_cases h16 : 16 < M
      · have hd2 : (16 : Int) < ((M : Nat) : Int) := by omega
        have HD := Lib.hid (fun W => macDerive_bad a key.length ca str (some ⟨w1.heap.size + 1, 0, none⟩) M M (.inr (by omega)) (by omega) (by unfold maxLen; omega) W)
        go_wp2_with fail
        refine (HD.out _).mono ?_; rintro e w2 ⟨rfl, hb2⟩
        have Hw2 := Lib.hid (bt (bta (bta Hw.out _) _) hb2)
        clear hb2 hmk hmk2 hstr
        go_wp2_with fail
        go_ret
        exact ⟨rfl, Hw2.out⟩
      · have hd2 : ¬ (16 : Int) < ((M : Nat) : Int) := by omega
        have HD := Lib.hid (fun W => macDerive_ok a ca key str (some ⟨w1.heap.size + 1, 0, none⟩) M (List.replicate M []) (by have := Hkl.out; omega) (by omega) (by simp; omega) (by rw [sum_nil]; omega) W)
        rw [HT.out, List.length_replicate] at HD
        obtain ⟨T, hT⟩ : ∃ T, T = lowByte (N : Int) :: List.replicate (N + 2 * M) 0 := ⟨_, rfl⟩
        rw [← hT] at HD
        have hTl : T.length = 1 + (N + 2 * M) := by rw [hT]; simp; omega
        have HRt := Lib.hid (fun (b : Option Addr) (c : Nat) W => refTag_any a b ca c key T (by have := Hkl.out; omega) (by omega) W)
        rw [hTl] at HRt
        have HTe := Lib.hid hT
        have HDl := Lib.hid (tagF_len key T)
        have hr2 := HR.out (w1.alloc (.cells Z.toArray 5))
        rw [size_alloc] at hr2
        have Hr2 := Lib.hid hr2
        generalize tagF key T = D at HD HRt HDl
        generalize hlb : lowByte (N : Int) = lb at hw8 hT
        have Hlb := Lib.hid hlb
        clear hT hTl hr2 hlb
        go_wp2_with fail
        refine (HD.out _ (Ha.out.mono (bta (bta Hw.out _) _)) Hr2.out (Hk.out.mono (bta (bta Hw.out _) _))).mono ?_; rintro e w2 ⟨a2, c2, rfl, hat2, hb2⟩
        have H2 := Lib.hid hat2
        have Hw2 := Lib.hid (bt (bta (bta Hw.out _) _) hb2)
        clear hb2 hat2 hmk hmk2 hstr
        go_wp2_with (at_builtin; go_must (refine wpList_zerosG (.tmp 65) (.tmp 71) (by first | rfl | simp [Region.wanted, yielded]) rfl (N + 2 * M) lb rfl (by simp; rfl) (at_new w2 (B8s [lb]) _) (by omega) ?_; intro a3 c3 w3 hat3 hb3; have H3 := Lib.hid hat3; have Hw3 := Lib.hid (bt (bta Hw2.out _) hb3); have H2 := Lib.hid (H2.out.mono (bt (ba w2 _) hb3)); clear hat3 hb3))
        have h3 : BytesAt w3 a3 T := by rw [HTe.out, Hlb.out]; exact H3.out
        refine (HRt.out a3 c3 w3 (Ha.out.mono Hw3.out) h3).mono ?_; rintro e w4 ⟨a4, c4, rfl, -, hat4, hb4⟩
        have H4 := Lib.hid hat4
        have H2 := Lib.hid (At.mono H2.out hb4)
        have Hw4 := Lib.hid (bt Hw3.out hb4)
        clear h3 hat4 hb4
        go_wp2_with fail
        refine (same_yes a2 a4 32 c2 c4 D HDl.out.symm w4 H2.out H4.out).mono ?_; rintro e w5 ⟨rfl, rfl⟩
        go_wp2_with fail
        go_ret
        exact ⟨rfl, Hw4.out⟩
theorem macLimits_in (hsh : Shown03OK) (w : World) (hk : KeysAt w) (a : Option Addr) (la ca : Nat) (l : List UInt8) (h : InBytes w a la ca l) (n : Int) (hn : (Lit.int .u16 n).wf = true) (m : Int) (hm : (Lit.int .u8 m).wf = true) :
    Calls Tryd.prog 9 #[.slice a la ca, .int .u16 n, .int .u8 m] w (BoolOut w true) := by
  obtain ⟨rfl, h3, h4, h5⟩ := h
  simp [Lit.wf, IntKind.min, IntKind.max, IntKind.bits, IntKind.signed] at hn hm
  obtain ⟨k, rfl⟩ : ∃ k : Nat, n = k := ⟨n.toNat, by omega⟩
  obtain ⟨j, rfl⟩ : ∃ j : Nat, m = j := ⟨m.toNat, by omega⟩
  exact macLimits_any hsh a ca l k j w (Nat.le_trans h3 h4) (by omega) (by omega) h5 hk
end Go.Proofs.YtbpmgjnjcdjdfaaDoor
