/- The walk of the law MacSame. -/
import Derived.Test.YtbpmgjnjcdjdfaaDoorMacG
import Derived.Deep.DeepCutAuto
set_option linter.unusedSimpArgs false
set_option linter.unusedVariables false
namespace Go.Proofs.YtbpmgjnjcdjdfaaDoor
open Go.RowKit

theorem own_set {w0 w : World} {a : Option Addr} {n c : Nat} {l : List UInt8} (h : OwnR w0 w (.slice a n c) l) (I : Nat) (hI : I < l.length) :
    ∃ g, a = some ⟨g, 0, none⟩ ∧ w0.heap.size ≤ g ∧ w.cell? ⟨g, I, none⟩ = some (.int .u8 (bv (l.getD I 0))) ∧ w.frozen? ⟨g, I, none⟩ = false ∧ ∀ y, BytesAt (w.setCell ⟨g, I, none⟩ (.int .u8 (bv y))) (some ⟨g, 0, none⟩) (l.set I y) := by
  rcases h.own.2 with ⟨h1, h2⟩ | ⟨g, cap, cur, hv, hg, hh, h3, h4, h5, h6⟩
  · have h0 : l = [] := by simpa using h2
    rw [h0] at hI; simp at hI
  · cases hv
    have hB : Blk w g cur.toList := ⟨_, by rw [hh]⟩
    have h6' : cur.toList.take l.length = B8s l := by simpa using h6
    have hlen : l.length ≤ cur.toList.length := by
      have := congrArg List.length h6'
      simp only [List.length_take, List.length_map] at this; omega
    have hget : ∀ i, i < l.length → cur.toList.getD i undef = .int .u8 (bv (l.getD i 0)) := fun i hi => by
      rw [← getD_B8 l i hi, ← h6']
      simp [List.getD, List.getElem?_take, hi]
    refine ⟨g, rfl, hg, by rw [hB.cell I (by omega), hget I hI], hB.frozen I, fun y => ?_⟩
    have hB2 := hB.set I (.int .u8 (bv y))
    refine .inr ⟨g, 0, rfl, hB2.lt, fun i hi => ?_⟩
    have hi' : i < l.length := by simpa using hi
    rw [Nat.zero_add, hB2.cell i (by simp; simp at hlen; omega), getD_B8 _ i (by simpa using hi')]
    by_cases hiI : i = I
    · subst hiI
      have e1 : (cur.toList.set i (Value.int .u8 (bv y))).getD i undef = .int .u8 (bv y) := by
        rw [List.getD, List.getElem?_set_self (by omega)]; rfl
      have e2 : (l.set i y).getD i 0 = y := by rw [List.getD, List.getElem?_set_self hi']; rfl
      rw [e1, e2]
    · have h7 := hget i hi'
      have e1 : (cur.toList.set I (Value.int .u8 (bv y))).getD i undef = cur.toList.getD i undef := by
        rw [List.getD, List.getD, List.getElem?_set_ne (Ne.symm hiI)]
      have e2 : (l.set I y).getD i 0 = l.getD i 0 := by rw [List.getD, List.getD, List.getElem?_set_ne (Ne.symm hiI)]
      rw [e1, e2, h7]
/-- an append onto bytes of the call's own, behind a guard -/
theorem wpList_ownRG {ops : Array Oper} {rest : List Oper} {o : Oper} {a : Act} {w : World} {Q : Exit → Act → World → Prop} (s x : Operand) (hw : Region.wanted o (yielded ops a.tmps) = true)
    (ho : o.op = .call { callee := .builtin .append, args := #[s, x], argTypes := #[22, 22] }) {w0 : World} {v : Value} {l : List UInt8} (hs : a.eval s = v) (hB : OwnR w0 w v l)
    {sp : Option Addr} {m c : Nat} (news : List UInt8) (hx : a.eval x = .slice sp m c) (hS : BytesAt w sp news) (hl : m = news.length) (h63 : l.length + m ≤ 140737488355328) (l2 : List UInt8) (hl2 : l2 = l ++ news)
    (h : ∀ a' cap' w', OwnR w0 w' (.slice a' l2.length cap') l2 → wpList Tryd.prog ops Q rest (a.put o.dst (.slice a' l2.length cap')) w') : wpList Tryd.prog ops Q (o :: rest) a w := by
  subst hl2; subst hl
  refine BigFrame.wpList_want hw fun K hK => ?_
  obtain ⟨a', cap', w', hr, h2⟩ := run_buf elemB hB.buf (m := news.length) c hS (by simp) (bytes_one news) (by omega) (by decide) o.type
  unfold Oper.wp execOp
  simp only [ho, resolve, List.map_toArray, List.map_cons, List.map_nil, hs, hx, invoke, builtin, Sem.run_bind, Sem.run_pure, Result.andThen_ok, hr]
  have hh := h a' cap' w' (OwnR.of rfl (by simpa using h2))
  rw [show (l ++ news).length = l.length + news.length by simp] at hh
  exact hK _ _ hh
theorem xor_self8 (x y : UInt8) : (x = x ^^^ y) ↔ y = 0 := by
  constructor
  · intro h
    have h1 : x ^^^ x = x ^^^ (x ^^^ y) := by rw [← h]
    rw [UInt8.xor_self, ← UInt8.xor_assoc, UInt8.xor_self, UInt8.zero_xor] at h1
    exact h1.symm
  · rintro rfl; simp
theorem set_same (l : List UInt8) (I : Nat) (hI : I < l.length) (y : UInt8) : (l == l.set I (l.getD I 0 ^^^ y)) = (bv y == 0) ∧ (l.set I (l.getD I 0 ^^^ y) == l) = (bv y == 0) := by
  have key : l = l.set I (l.getD I 0 ^^^ y) ↔ bv y = 0 := by
    constructor
    · intro h
      have h1 := congrArg (fun k => k.getD I 0) h
      simp only [List.getD, List.getElem?_set_self hI, Option.getD_some] at h1
      have h2 := (xor_self8 _ y).1 h1
      rw [h2]; rfl
    · intro h
      have h2 : y = 0 := bv_inj.1 (by rw [h]; rfl)
      subst h2
      simp [List.getD, hI]
  constructor
  · rw [Bool.eq_iff_iff, beq_iff_eq, beq_iff_eq]; exact key
  · rw [Bool.eq_iff_iff, beq_iff_eq, beq_iff_eq]; exact ⟨fun h => key.1 h.symm, fun h => (key.2 h).symm⟩
theorem longer_ne (l : List UInt8) (y : UInt8) : (l == l ++ [y]) = false ∧ (l ++ [y] == l) = false := by
  constructor <;> (refine beq_eq_false_iff_ne.2 fun h => ?_) <;> (have := congrArg List.length h; simp at this)

set_option maxRecDepth 100000 in
set_option maxHeartbeats 2000000 in
theorem macSameL_any (hsh : Shown03OK) (a : Option Addr) (ca : Nat) (l : List UInt8) (at_ : Nat) (y : UInt8) (w : World) (hlm : l.length ≤ maxLen) (hat : at_ < 65536) (ha : BytesAt w a l) (hk : KeysAt w) :
    Calls Tryd.prog 8 #[.slice a l.length ca, .int .u16 (at_ : Int), .int .u8 (bv y)] w (BoolOut w true) := by
  have Hsh := Lib.hid hsh
  have Ha := Lib.hid ha
  have Hk := Lib.hid hk
  have Hlm := Lib.hid hlm
  unfold maxLen at hlm
  clear hsh ha hk
  by_cases h1 : 300 < l.length
  · have hd : (300 : Int) < (l.length : Int) := by omega
    go_enter Tryd.func8, Tryd.ntmps8
    go_wp2_with fail
    refine (Hsh.out w Hk.out).mono ?_; rintro e w1 ⟨rfl, hb1⟩
    go_wp2_with fail
    go_ret
    exact ⟨rfl, hb1⟩
  · have hd : ¬ (300 : Int) < (l.length : Int) := by omega
    obtain ⟨M, hM⟩ : ∃ M, M = l ++ [y] := ⟨_, rfl⟩
    have hMl : M.length = l.length + 1 := by rw [hM]; simp
    have HM := Lib.hid hM
    have HMl := Lib.hid hMl
    have HS1 := Lib.hid (fun (o : Option Addr) (oc : Nat) W => macSame_any a o ca oc l M Hlm.out (by unfold maxLen; omega) W)
    rw [show (l == M) = false by rw [hM]; exact (longer_ne l y).1] at HS1
    have HS2 := Lib.hid (fun (o : Option Addr) (oc : Nat) W => macSame_any o a oc ca M l (by unfold maxLen; omega) Hlm.out W)
    rw [show (M == l) = false by rw [hM]; exact (longer_ne l y).2] at HS2
    have HS3 := Lib.hid (fun (o : Option Addr) (oc : Nat) W => macSame_any a o ca oc l l Hlm.out Hlm.out W)
    rw [beq_self_eq_true] at HS3
    have HO0 := Lib.hid (fun W : World => (show OwnR W (W.alloc (.cells #[] 5)) (.slice (some ⟨W.heap.size, 0, none⟩) 0 0) [] from OwnR.of rfl (Buf.made W 5 [] 0 0 (Nat.le_refl _) rfl (by decide))))
    clear hM hMl h1
    go_enter Tryd.func8, Tryd.ntmps8
    go_wp2_with fail
    refine (Hsh.out w Hk.out).mono ?_; rintro e w1 ⟨rfl, hb1⟩
    have Hw := Lib.hid hb1
    clear hb1
    go_wp2_with (first
      | (at_builtin; (refine wpList_ownR (.tmp 16) (.tmp 17) rfl rfl rfl (HO0.out w1) l rfl (Ha.out.mono (bta Hw.out _)) rfl (by simp; omega) l rfl ?_; intro a2 c2 w2 h2; have H2 := Lib.hid h2; clear h2))
      | (at_builtin; (refine wpList_ownR (.tmp 18) (.tmp 20) rfl rfl rfl (OwnR.of rfl (H2.out.buf.alloc _)) [y] rfl (at_new w2 (B8s [y]) _) rfl (by omega) M HM.out ?_; intro a3 c3 w3 h3; have H3 := Lib.hid h3; clear h3)))
    have Hw3 := Lib.hid (bt Hw.out H3.out.bel)
    refine (HS1.out a3 c3 w3 (Ha.out.mono Hw3.out) H3.out.at).mono ?_; rintro e w4 ⟨rfl, hb4⟩
    have Hw4 := Lib.hid (bt Hw3.out hb4)
    have H4 := Lib.hid (H3.out.at.mono hb4)
    clear hb4
    go_wp2_with fail
    refine (HS2.out a3 c3 w4 H4.out (Ha.out.mono Hw4.out)).mono ?_; rintro e w5 ⟨rfl, hb5⟩
    have Hw5 := Lib.hid (bt Hw4.out hb5)
    clear hb5
    go_wp2_with (at_builtin; (refine wpList_ownRG (.tmp 32) (.tmp 33) (by first | rfl | simp [Region.wanted, yielded]) rfl rfl (HO0.out w5) l rfl (Ha.out.mono (bta Hw5.out _)) rfl (by simp; omega) l rfl ?_; intro a6 c6 w6 h6; have H6 := Lib.hid h6; clear h6))
    have Hw6 := Lib.hid (bt Hw5.out H6.out.bel)
    refine (HS3.out a6 c6 w6 (Ha.out.mono Hw6.out) H6.out.at).mono ?_; rintro e w7 ⟨rfl, hb7⟩
    have Hw7 := Lib.hid (bt Hw6.out hb7)
    clear hb7
    by_cases h0 : l.length = 0
    · have hl0 : l = [] := List.eq_nil_of_length_eq_zero h0
      subst hl0
      have HS4 := Lib.hid (macSame_any none a 0 ca [] [] (Nat.zero_le _) (Nat.zero_le _) w7 (.inl rfl) (.inl rfl))
      rw [beq_self_eq_true] at HS4
      go_wp2_with fail
      refine HS4.out.mono ?_; rintro e w8 ⟨rfl, hb8⟩
      go_wp2_with fail
      go_ret
      exact ⟨rfl, bt Hw7.out hb8⟩
    · have hd0 : ((l.length : Int) == 0) = false := by simpa using h0
      obtain ⟨I, hI⟩ : ∃ I, I = at_ % l.length := ⟨_, rfl⟩
      have hIl : I < l.length := by rw [hI]; exact Nat.mod_lt _ (by omega)
      have hm : (at_ : Int) % (l.length : Int) = ((I : Nat) : Int) := by rw [hI]; exact (Int.natCast_emod _ _).symm
      have hm2 : ((at_ : Int)).tmod (l.length : Int) = ((I : Nat) : Int) := by rw [Int.tmod_eq_emod_of_nonneg (by omega), hm]
      have hz : ¬ (l.length : Int) = 0 := by omega
      obtain ⟨x, hx⟩ : ∃ x, x = l.getD I 0 := ⟨_, rfl⟩
      have Hx := Lib.hid hx
      obtain ⟨L2, hL2⟩ : ∃ L2, L2 = l.set I (x ^^^ y) := ⟨_, rfl⟩
      have hL2l : L2.length = l.length := by rw [hL2]; simp
      have HL2 := Lib.hid hL2
      obtain ⟨z, hzz⟩ : ∃ z, z = (bv y == 0) := ⟨_, rfl⟩
      have HS5 := Lib.hid (fun (o : Option Addr) (oc : Nat) W => macSame_any a o ca oc l L2 Hlm.out (by rw [hL2l]; exact Hlm.out) W)
      rw [show (l == L2) = z by rw [hL2, hzz, hx]; exact (set_same l I hIl y).1, hL2l] at HS5
      have HS6 := Lib.hid (fun (o : Option Addr) (oc : Nat) W => macSame_any o a oc ca L2 l (by rw [hL2l]; exact Hlm.out) Hlm.out W)
      rw [show (L2 == l) = z by rw [hL2, hzz, hx]; exact (set_same l I hIl y).2, hL2l] at HS6
      have HI := Lib.hid hI
      have hzy : (bv y == 0) = z := hzz.symm
      have hzz2 : (z == z) = true := by cases z <;> rfl
      clear hI hL2 hL2l h0 hzz hx
      go_wp2_with (at_builtin; (refine wpList_ownR (.tmp 46) (.tmp 47) rfl rfl rfl (HO0.out w7) l rfl (Ha.out.mono (bta Hw7.out _)) rfl (by simp; omega) l rfl ?_; intro a8 c8 w8 h8; obtain ⟨g, rfl, hg, hc, hf, hset⟩ := own_set h8 I hIl; (rw [← Hx.out] at hc); have Hset := Lib.hid (hset (x ^^^ y)); have Hg := Lib.hid hg; have H8 := Lib.hid h8; clear h8 hset hg))
      have hb9 : Below w.heap.size w (w8.setCell ⟨g, I, none⟩ (.int .u8 (bv (x ^^^ y)))) := (bt Hw7.out H8.out.bel).setCell (Nat.le_trans Hw7.out.size Hg.out) _
      have h9 : BytesAt (w8.setCell ⟨g, I, none⟩ (.int .u8 (bv (x ^^^ y)))) (some ⟨g, 0, none⟩) L2 := by rw [HL2.out]; exact Hset.out
      refine (HS5.out _ c8 _ (Ha.out.mono hb9) h9).mono ?_; rintro e w10 ⟨rfl, hb10⟩
      have Hw10 := Lib.hid (bt hb9 hb10)
      have H10 := Lib.hid (At.mono h9 hb10)
      clear hb9 h9 hb10 hc hf
      go_wp2_with fail
      refine (HS6.out _ c8 _ H10.out (Ha.out.mono Hw10.out)).mono ?_; rintro e w11 ⟨rfl, hb11⟩
      go_wp2_with fail
      go_ret
      exact ⟨rfl, bt Hw10.out hb11⟩
theorem macSameL_in (hsh : Shown03OK) (w : World) (hk : KeysAt w) (a : Option Addr) (la ca : Nat) (l : List UInt8) (h : InBytes w a la ca l) (n : Int) (hn : (Lit.int .u16 n).wf = true) (m : Int) (hm : (Lit.int .u8 m).wf = true) :
    Calls Tryd.prog 8 #[.slice a la ca, .int .u16 n, .int .u8 m] w (BoolOut w true) := by
  obtain ⟨rfl, h3, h4, h5⟩ := h
  obtain ⟨y, rfl⟩ := exists_bv hm
  simp [Lit.wf, IntKind.min, IntKind.max, IntKind.bits, IntKind.signed] at hn
  obtain ⟨k, rfl⟩ : ∃ k : Nat, n = k := ⟨n.toNat, by omega⟩
  exact macSameL_any hsh a ca l k y w (Nat.le_trans h3 h4) (by omega) h5 hk
end Go.Proofs.YtbpmgjnjcdjdfaaDoor
