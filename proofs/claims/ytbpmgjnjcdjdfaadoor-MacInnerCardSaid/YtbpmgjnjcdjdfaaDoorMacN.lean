/- The walk of the law MacInner. -/
import Derived.Test.YtbpmgjnjcdjdfaaDoorMacG
import Derived.Deep.DeepCutAuto
import Derived.Deep.RegionLaw
import Derived.Deep.RegionHeld3
import Derived.Deep.DrawnRows
set_option linter.unusedSimpArgs false
set_option linter.unusedVariables false
namespace Go.Proofs.YtbpmgjnjcdjdfaaDoor
open Go.RowKit

theorem step_ownBG {ops : Array Oper} {o : Oper} {a : Act} {w : World} {K : Act → World → Prop} {Q : Exit → Act → World → Prop} {F : Prop} (s x : Operand) (hw : Region.wanted o (yielded ops a.tmps) = true)
    (ho : o.op = .call { callee := .builtin .append, args := #[s, x], argTypes := #[22, 22] }) {B n : Nat} {v : Value} {xs : List Value} (hs : a.eval s = v) (hB : OwnB B w v n xs)
    {sp : Option Addr} {m c : Nat} {news : List Value} (hx : a.eval x = .slice sp m c) (hS : At w sp news) (hl : news.length = m) (h1 : ∀ u ∈ news, u.oneCell' = true) (h63 : n + m ≤ 1099511627776) (N : Nat) (hN : n + m = N) (ys : List Value) (hys : ys = xs ++ news)
    (hK : ∀ a' cap' w', OwnB B w' (.slice a' N cap') N ys → w.grownBy w' v.ownBlock → (Value.ownBlock (.slice a' N cap') = v.ownBlock ∨ Value.ownBlock (.slice a' N cap') = some w.heap.size) → K (a.put o.dst (.slice a' N cap')) w') : if Region.wanted o (yielded ops a.tmps) = true then Oper.wp Tryd.prog o a w K Q else F := by
  subst hN; subst hys
  rw [if_pos hw]
  obtain ⟨a', cap', w', hr, ho', hg, hat⟩ := run_sep elemB hB.own (m := m) c hS (by omega) h1 (by unfold maxLen; omega) (by omega) hB.le o.type
  unfold Oper.wp execOp
  simp only [ho, resolve, List.map_toArray, List.map_cons, List.map_nil, hs, hx, invoke, builtin, Sem.run_bind, Sem.run_pure, Result.andThen_ok, hr]
  exact hK _ _ _ ⟨ho', Nat.le_trans hB.le hg.size⟩ hg hat
/-- a block of bytes is a slice of one's own -/
theorem own_blk {B b : Nat} {w : World} {l : List UInt8} (h : BlkT 5 w b (B8s l)) (hB : B ≤ b) (hm : l.length ≤ maxLen) : OwnB B w (.slice (some ⟨b, 0, none⟩) l.length l.length) l.length (B8s l) := by
  have hlt := h.blk.lt
  exact ⟨⟨by simp, .inr ⟨b, l.length, (B8s l).toArray, rfl, hB, h, Nat.le_refl _, hm, by simp, by rw [Nat.mul_one, List.take_of_length_le (by simp)]⟩⟩, by omega⟩
/-- 32 bytes of the call's own -/
def Own32 (w : World) (D : List UInt8) (e : Ending) (w' : World) : Prop := ∃ b cb, e = .returned (.slice b 32 cb) ∧ OwnB w.heap.size w' (.slice b 32 cb) 32 (B8s D) ∧ Below w.heap.size w w'
theorem own32 {w : World} {l D : List UInt8} (hl : l = D) (h32 : D.length = 32) {e : Ending} {w' : World} (h : OwnOut w l e w') : Own32 w D e w' := by
  subst hl
  obtain ⟨a, c, h1, h2, h3⟩ := h
  rw [h32] at h1 h2
  exact ⟨a, c, h1, ⟨h2, h3.size⟩, h3⟩
theorem OwnB.low {B C n : Nat} {w : World} {v : Value} {xs : List Value} (h : OwnB C w v n xs) (hB : B ≤ C) : OwnB B w v n xs := ⟨own_base h.own hB, Nat.le_trans hB h.le⟩
theorem apart_new {C n b : Nat} {w : World} {v : Value} {xs : List Value} {l c : Nat} (h : OwnB C w v n xs) (hb : b < C) : Apart v (.slice (some ⟨b, 0, none⟩) l c) := fun k h1 h2 => by
  have := (h.lt h1).1
  simp [Value.ownBlock] at h2
  omega
/-- both turned keys under way -/
def TwoAt (W wx : World) (K : List UInt8) (i : Nat) : Prop :=
  BlkT 5 wx W.heap.size (turnC K 54 i) ∧ BlkT 5 wx (W.heap.size + 1) (turnC K 92 i) ∧ Below W.heap.size W wx

attribute [local go_sem ↓] Go.wp_at_zero Go.wp_at_succ

set_option maxRecDepth 100000 in
set_option maxHeartbeats 1000000 in
theorem macInner_any (hsh : Shown03OK) (a b : Option Addr) (ca cb : Nat) (key m : List UInt8) (w : World) (hkm : key.length ≤ maxLen) (hmm : m.length ≤ maxLen) (ha : BytesAt w a key) (hb : BytesAt w b m) (hk : KeysAt w) :
    Calls Tryd.prog 6 #[.slice a key.length ca, .slice b m.length cb] w (BoolOut w true) := by
  have Hsh := Lib.hid hsh
  have Ha := Lib.hid ha
  have Hb := Lib.hid hb
  have Hk := Lib.hid hk
  unfold maxLen at hkm hmm
  clear hsh ha hb hk
  go_enter Tryd.func6, Tryd.ntmps6
  go_wp2_with fail
  refine (Hsh.out w Hk.out).mono ?_; rintro e w1 ⟨rfl, hb1⟩
  have Hw := Lib.hid hb1
  clear hb1
  go_upto_region 2 with (fail)
  go_cut [20] (fun v20 wx => ∃ gb, v20 = .bool gb ∧ (gb = false → key.length ≤ 200 ∧ m.length ≤ 300) ∧ w1 = wx)
  case first =>
    by_cases h1 : 200 < key.length
    · have hd : (200 : Int) < (key.length : Int) := by omega
      go_wp2_with fail
      go_meet
      exact ⟨true, rfl, (fun h => by cases h), rfl⟩
    · have hd : ¬ (200 : Int) < (key.length : Int) := by omega
      by_cases h2 : 300 < m.length
      · have hd2 : (300 : Int) < (m.length : Int) := by omega
        go_wp2_with fail
        go_meet
        exact ⟨true, by first | rfl | (rw [decide_eq_true hd2]), (fun h => by cases h), rfl⟩
      · have hd2 : ¬ (300 : Int) < (m.length : Int) := by omega
        have HX := Lib.hid (show key.length ≤ 200 ∧ m.length ≤ 300 from ⟨by omega, by omega⟩)
        have Hd2 := Lib.hid (show decide ((300 : Int) < (m.length : Int)) = false from decide_eq_false hd2)
        go_wp2_with fail
        go_meet
        exact ⟨false, by first | rfl | rw [Hd2.out], fun _ => HX.out, rfl⟩
  case rest =>
    obtain ⟨gb, rfl, hgb, rfl⟩ := hcut
    rcases gb with _ | _
    · obtain ⟨h1, h2⟩ := hgb rfl
      have HBk := Lib.hid (fun W => macBlock_any a ca key (by omega) W)
      have HKl := Lib.hid (blockK_len key)
      have HTd := Lib.hid (show tagF key m = ofF (xorK (blockK key) 92 ++ ofF (xorK (blockK key) 54 ++ m)) from rfl)
      have HTg := Lib.hid (fun W => macTag_own a b ca cb key m (by omega) (by omega) W)
      have HTl := Lib.hid (tagF_len key m)
      have HKv := Lib.hid (fun W => macKcv_any a ca key (by omega) W)
      obtain ⟨z, hz⟩ : ∃ z, z = List.replicate 8 (0 : UInt8) := ⟨_, rfl⟩
      have hzl : z.length = 8 := by rw [hz]; rfl
      have HKe := Lib.hid (show kcvF key = (tagF key z).take 3 by rw [hz]; rfl)
      have HNl := Lib.hid (tagF_len key z)
      have HNn := Lib.hid (fun (b' : Option Addr) W => macTag_own a b' ca 8 key z (by omega) (by rw [hzl]; decide) W)
      rw [hzl] at HNn
      obtain ⟨Z8, hZ8⟩ : ∃ Z8, Z8 = B8s z := ⟨_, rfl⟩
      have hmk8 : ∀ w, (Instr.makeSlice 22 (.int .i64 8) (.int .i64 8)).run Tryd.prog w = .ok (.slice (some ⟨w.heap.size, 0, none⟩) 8 8) (w.alloc (.cells Z8.toArray 5)) := fun w => by
        rw [hZ8, hz]; exact run_mk elemB w .i64 .i64 8 (by decide) (by decide) rfl
      have HA8 := Lib.hid (show ∀ w' : World, BytesAt (w'.alloc (.cells Z8.toArray 5)) (some ⟨w'.heap.size, 0, none⟩) z from fun w' => by rw [hZ8]; exact at_new w' (B8s z) _)
      obtain ⟨Z, hZ⟩ : ∃ Z, Z = zs64 := ⟨_, rfl⟩
      have hmk := mk64
      rw [← hZ] at hmk
      generalize blockK key = K at HBk HKl HTd
      have HZ5 := Lib.hid (show Z = turnC K 54 0 by rw [hZ, turnC_zero])
      have HZ9 := Lib.hid (show Z = turnC K 92 0 by rw [hZ, turnC_zero])
      have Hh2 := Lib.hid h2
      clear hgb hz hzl hZ8 hZ h1 h2
      go_wp2_with fail
      refine (HBk.out _ (Ha.out.mono Hw.out) (Hk.out.mono Hw.out)).mono ?_; rintro e w2 ⟨rfl, hB2, hb2⟩
      have HKb := Lib.hid (Blk.at hB2)
      have Hw2 := Lib.hid (bt Hw.out hb2)
      generalize (some ⟨w1.heap.size, 0, none⟩ : Option Addr) = b2 at HKb ⊢
      clear hB2 hb2 HBk
      go_upto_region 9 with (fail)
      generalize hW : World.alloc (World.alloc w2 _) _ = W
      have hT : TwoAt w2 W K 0 := by
        rw [← hW]
        refine ⟨?_, ?_, bta (ba w2 _) _⟩
        · rw [← HZ5.out]; exact (BlkT.new w2 Z _).up (ba _ _)
        · rw [← HZ9.out]; have := BlkT.new (w2.alloc (.cells Z.toArray 5)) Z 5; rwa [size_alloc] at this
      clear hW hmk HZ5 HZ9
      go_wp2_with fail
      go_loopw [9] (fun v9 wx => ∃ i : Nat, i ≤ 64 ∧ v9 = .int .i64 (i : Int) ∧ TwoAt w2 wx K i) (fun v9 _ => 64 - (intOf v9).toNat)
      case atStart => exact ⟨0, Nat.zero_le _, rfl, hT⟩
      case round =>
        clear hT
        obtain ⟨i, hi, rfl, hX, hY, hb⟩ := hrel
        have HX := Lib.hid hX
        have HY := Lib.hid hY
        have Hbw := Lib.hid hb
        clear hX hY hb
        by_cases hlt : i < 64
        · obtain ⟨kb, ko, rfl, hkb, hkc⟩ := bytes_cell HKb.out (by rw [HKl.out]; decide)
          have hne1 : kb ≠ w2.heap.size := by omega
          have c0 : wr.cell? ⟨kb, ko + i, none⟩ = some (.int .u8 (bv (K.getD i 0))) := by rw [Hbw.out.cell (p := ⟨kb, ko + i, none⟩) hkb]; exact hkc i (by rw [HKl.out]; exact hlt)
          have H5 := Lib.hid (turnC_set K 54 i HKl.out hlt)
          have H9 := Lib.hid (turnC_set K 92 i HKl.out hlt)
          have x0 := HX.out.blk.cell i (by rw [turnC_len K 54 i HKl.out hi]; exact hlt)
          have y0 := HY.out.blk.cell i (by rw [turnC_len K 92 i HKl.out hi]; exact hlt)
          have fx := HX.out.blk.frozen
          have fy := HY.out.blk.frozen
          clear hkc
          generalize K.getD i 0 = x at c0 H5 H9
          go_wp2_with fail
          refine ⟨⟨i + 1, by omega, by go_num, ?_, ?_, (Hbw.out.setCell (Nat.le_refl _) _).setCell (by simp) _⟩, by simp [intOf]; omega⟩
          · rw [← H5.out]; exact (HX.out.set i _).other (by omega) _
          · rw [← H9.out]; exact (HY.out.other (by omega) _).set i _
        · obtain rfl : i = 64 := by omega
          rw [turnC_end K 54 HKl.out] at HX
          rw [turnC_end K 92 HKl.out] at HY
          have HXl := Lib.hid (show (xorK K 54).length = 64 by rw [xorK_len, HKl.out])
          have HYl := Lib.hid (show (xorK K 92).length = 64 by rw [xorK_len, HKl.out])
          generalize xorK K 54 = X at HX HXl HTd
          generalize xorK K 92 = Y at HY HYl HTd
          have hOX := own_blk HX.out (Nat.le_refl w2.heap.size) (by rw [HXl.out]; decide)
          have hOY := own_blk HY.out (by omega : w2.heap.size ≤ w2.heap.size + 1) (by rw [HYl.out]; decide)
          rw [HXl.out] at hOX
          rw [HYl.out] at hOY
          have HOX := Lib.hid hOX
          have HOY := Lib.hid hOY
          have Hap := Lib.hid (show Apart (.slice (some ⟨w2.heap.size + 1, 0, none⟩) 64 64) (.slice (some ⟨w2.heap.size, 0, none⟩) 64 64) from fun k h1 h2 => by
            simp [Value.ownBlock] at h1 h2; omega)
          obtain ⟨XM, hXM⟩ : ∃ XM, XM = X ++ m := ⟨_, rfl⟩
          have hXl : XM.length = 64 + m.length := by rw [hXM, List.length_append, HXl.out]
          rw [← hXM] at HTd
          have HXM := Lib.hid (show B8s XM = B8s X ++ B8s m by rw [hXM, B8s_app])
          have HXMl := Lib.hid hXl
          have HDl := Lib.hid (ofF_length XM)
          have HOf1 := Lib.hid (fun (a' : Option Addr) (c' : Nat) W' => refOf_own a' c' XM (by have := Hh2.out; omega) W')
          generalize ofF XM = D at HTd HOf1 HDl
          obtain ⟨YD, hYD⟩ : ∃ YD, YD = Y ++ D := ⟨_, rfl⟩
          have hYl : YD.length = 96 := by rw [hYD, List.length_append, HYl.out, HDl.out]
          rw [← hYD] at HTd
          have HYD := Lib.hid (show B8s YD = B8s Y ++ B8s D by rw [hYD, B8s_app])
          have HYDl := Lib.hid hYl
          have HOf2 := Lib.hid (fun (a' : Option Addr) (c' : Nat) W' => refOf_own a' c' YD (by omega) W')
          have HTe := Lib.hid HTd.out
          generalize tagF key m = T at HTg HTl HTd HTe
          have Hh3 := Lib.hid (show m.length ≤ 300 from Hh2.out)
          clear hOX hOY hXM hXl hYD hYl hlt hi
          go_wp2_with (at_builtin; (refine wpList_ownB2 (.tmp 49) (.tmp 50) rfl rfl rfl HOX.out (news := B8s m) (m := m.length) rfl (Hb.out.mono (bt Hw2.out Hbw.out)) (by simp) (bytes_one _) (by have := Hh3.out; omega) XM.length HXMl.out.symm (B8s XM) HXM.out ?_; intro a3 c3 w3 h3 hg3 hat3; have H3 := Lib.hid h3; have HOY3 := Lib.hid (HOY.out.other (n := 64) (xs := []) hg3 Hap.out); have Hb3 := Lib.hid (below_own Hbw.out HOX.out.own hg3 HOX.out.le (Nat.le_refl _)); clear h3 hg3 hat3))
          refine (HOf1.out a3 c3 w3 H3.out.at).mono ?_; rintro e w4 ⟨a4, c4, rfl, hown4, hb4⟩
          have HD4 := Lib.hid (show BytesAt w4 a4 D from own_at hown4)
          have HOY4 := Lib.hid (HOY3.out.up hb4)
          have Hb4 := Lib.hid (bt Hb3.out hb4)
          rw [HDl.out]
          clear hown4 hb4
          go_wp2_with fail
          refine ((HNn.out _ _ (Ha.out.mono (bta (bt Hw2.out Hb4.out) _)) (HA8.out w4) (Hk.out.mono (bta (bt Hw2.out Hb4.out) _))).mono fun _ _ h => own32 rfl HNl.out h).mono ?_; rintro e w5 ⟨a5, c5, rfl, hN5, hb5⟩
          have hnb : w2.heap.size + 1 < w4.heap.size := (HOY4.out.lt (k := w2.heap.size + 1) rfl).2
          have HapN := Lib.hid (apart_new (b := w2.heap.size + 1) (l := 64) (c := 64) hN5 (by rw [size_alloc]; omega))
          have hc5 : 32 ≤ c5 ∧ c5 ≤ maxLen := by obtain ⟨_, _, h4, h5, h6⟩ := own_slice hN5.own; cases h4; exact ⟨h5, h6⟩
          have HD5 := Lib.hid (HD4.out.mono (bt (ba w4 _) hb5))
          have HOY5 := Lib.hid ((HOY4.out.up (ba w4 _)).up hb5)
          have Hb5 := Lib.hid (bt (bta Hb4.out _) hb5)
          have HN5 := Lib.hid hN5
          have Hc5 := Lib.hid hc5
          clear hN5 hb5 hc5 hmk8 hnb
          go_upto_region 16 with (fail)
          have HwW := Lib.hid (bt Hw2.out Hb5.out)
          have HTg := Lib.hid (show ∀ W', Below w.heap.size w W' → Calls Tryd.prog 14 #[.slice a key.length ca, .slice b m.length cb] W' (Own32 W' T) from fun W' h => (HTg.out W' (Ha.out.mono h) (Hb.out.mono h) (Hk.out.mono h)).mono fun _ _ h => own32 rfl HTl.out h)
          have HOf2 := Lib.hid (show ∀ (a' : Option Addr) (c' : Nat) W', BytesAt W' a' YD → Calls Tryd.prog 22 #[.slice a' YD.length c'] W' (Own32 W' T) from fun a' c' W' h => (HOf2.out a' c' W' h).mono fun _ _ h => own32 HTe.out.symm HTl.out h)
          have hdl := HDl.out
          have hydl : 64 + 32 = YD.length := by rw [HYDl.out]
          have hlt5 : w2.heap.size + 1 < w5.heap.size := by have := (HOY5.out.lt (k := w2.heap.size + 1) rfl).2; exact this
          have hsl := fun W => run_head Tryd.underlying22 size_u8 W a5 32 c5 3 (by have := Hc5.out.1; omega)
          have hsl3 : ∀ W, (Instr.sliceAt 22 (.slice a5 32 c5) none (some (.int .i64 3)) none).run Tryd.prog W = .ok (.slice a5 3 c5) W := hsl
          have hbd := btd HwW.out
          have Hlt5 := Lib.hid hlt5
          have hb5d : Below w5.heap.size w5 w5.drew := bd w5
          have hN0 := HN5.out
          have hapN := HapN.out
          clear hsl hlt5
          go_cut [4] (fun v4 wx => v4 = .bool true ∧ Below w.heap.size w wx)
          case first =>
            go_region_held3 (fun w' => True) (trivial) (first
              | (refine step_ownBG (.tmp 61) (.tmp 62) (by first | rfl | simp [Region.wanted, yielded]) rfl rfl hO6 (news := B8s D) (m := 32) rfl hD6 (by rw [List.length_map, hdl]) (bytes_one _) (by omega) YD.length hydl (B8s YD) HYD.out ?_; intro a7 c7 w7 h7 hg7 hat7; have h6 := h6.other (n := 64) (xs := []) hg7 hap6; have hN := hN.other (n := 64) (xs := []) hg7 hapN; have hb7 := below_own hb6 hO6.own hg7 hb6.size hle6)
              | (refine step_ownBG (.tmp 61) (.tmp 62) (by first | rfl | simp [Region.wanted, yielded]) rfl rfl (HOY5.out.up hb5d) (news := B8s D) (m := 32) rfl (HD5.out.mono hb5d) (by rw [List.length_map, hdl]) (bytes_one _) (by omega) YD.length hydl (B8s YD) HYD.out ?_; intro a7 c7 w7 h7 hg7 hat7; have hN := (hN0.up hb5d).other (n := 64) (xs := []) hg7 hapN; have hb7 := below_own hbd (HOY5.out.up hb5d).own hg7 hbd.size Hw2.out.size)
              | (go_at_call 14; (with_reducible refine Calls.mono (HTg.out w7 hb7) ?_); rintro e w6 ⟨a6, c6, rfl, h6, hb6'⟩; have h7 := h7.up hb6'; have hN := hN.up hb6'; have hb6 := bt hb7 hb6'; have hg6 := hb6)
              | (go_at_call 14; (with_reducible refine Calls.mono (HTg.out _ hbd) ?_); rintro e w6 ⟨a6, c6, rfl, h6, hb6'⟩; have hap6 := apart_new (l := 64) (c := 64) h6 Hlt5.out; have hO6 := (HOY5.out.up hb5d).up hb6'; have hD6 := (HD5.out.mono hb5d).mono hb6'; have hN := (hN0.up hb5d).up hb6'; have hb6 := bt hbd hb6'; have hle6 := Hw2.out.size)
              | (go_at_call 22; (with_reducible refine Calls.mono (HOf2.out a7 c7 _ (OwnB.at h7)) ?_); rintro e w8 ⟨a8, c8, rfl, h8, hb8'⟩; have h6 := h6.up hb8'; have hN := hN.up hb8'; have hb8 : Below w.heap.size w w8 := (by first | exact bt hg6 hb8' | exact bt hb7 hb8'))
              | (go_at_call 11; (with_reducible refine Calls.mono (same_yes a6 a8 32 c6 c8 T HTl.out.symm _ (OwnB.at h6) (OwnB.at h8)) ?_); rintro e w9 ⟨rfl, rfl⟩)
              | (go_at_call 16; (with_reducible refine Calls.mono (HKv.out _ (Ha.out.mono hb8) (Hk.out.mono hb8)) ?_); rintro e w10 ⟨a10, c10, rfl, -, hat10, hb10'⟩; have hb10 := bt hb8 hb10'; have hn10 : BytesAt w10 a5 (kcvF key) := (by rw [HKe.out]; exact BytesAt.take (OwnB.at (hN.up hb10')) 3))
              | (go_at_call 11; (with_reducible refine Calls.mono (same_yes a10 a5 3 c10 c5 (kcvF key) (kcvF_len key).symm _ hat10 (by first | exact hn10)) ?_); rintro e w11 ⟨rfl, rfl⟩))
            all_goals
              go_split_ands
              go_wp2_with fail
              go_meet
              exact ⟨rfl, bt hb10 (Below.refl _ _)⟩
          case rest =>
            obtain ⟨rfl, hbc⟩ := hcut
            go_wp2_with fail
            go_ret
            exact ⟨rfl, hbc⟩
    · clear hgb
      go_wp2_with fail
      go_ret
      exact ⟨rfl, Hw.out⟩
theorem macInner_in (hsh : Shown03OK) (w : World) (hk : KeysAt w) (a : Option Addr) (la ca : Nat) (l : List UInt8) (h : InBytes w a la ca l) (b : Option Addr) (lb cb : Nat) (m : List UInt8) (h2 : InBytes w b lb cb m) :
    Calls Tryd.prog 6 #[.slice a la ca, .slice b lb cb] w (BoolOut w true) := by
  obtain ⟨rfl, h3, h4, h5⟩ := h
  obtain ⟨rfl, h6, h7, h8⟩ := h2
  exact macInner_any hsh a b ca cb l m w (Nat.le_trans h3 h4) (Nat.le_trans h6 h7) h5 h8 hk
end Go.Proofs.YtbpmgjnjcdjdfaaDoor
