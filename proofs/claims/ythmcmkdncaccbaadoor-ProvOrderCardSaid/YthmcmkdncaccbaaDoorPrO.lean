/- The walk of the law ProvOrder. -/
import Derived.Test.YthmcmkdncaccbaaDoorPrN
import Derived.Deep.RegionHeld3
set_option linter.unusedSimpArgs false
set_option linter.unusedVariables false
namespace Go.Proofs.YthmcmkdncaccbaaDoor
open Go.RowKit

theorem hadF_nil (k b : List UInt8) : hadF [] k b = false := rfl
theorem tagEs_nil (k b : List UInt8) : tagEs [] k b = [(k, b)] := rfl
theorem hadF_one (p : Ent) (k b : List UInt8) : hadF [p] k b = ((k == p.1) && (b == p.2)) := by simp [hadF, isF]
/-- two pairs that were tagged -/
def twoE (p q : Ent) : List Ent := tagEs [p] q.1 q.2
theorem twoE_had (p q : Ent) (k b : List UInt8) : hadF (twoE p q) k b = (((k == p.1) && (b == p.2)) || ((k == q.1) && (b == q.2))) := by
  unfold twoE tagEs
  rw [hadF_one]
  rcases h : ((q.1 == p.1) && (q.2 == p.2)) with _ | _
  · simp [hadF, isF]
  · rw [Bool.and_eq_true, beq_iff_eq, beq_iff_eq] at h
    simp [hadF, isF, h.1, h.2]
theorem twoE_len (p q : Ent) : (twoE p q).length = (twoE q p).length := by
  unfold twoE tagEs
  rw [hadF_one, hadF_one, show (p.1 == q.1) = (q.1 == p.1) from BEq.comm, show (p.2 == q.2) = (q.2 == p.2) from BEq.comm]
  rcases ((q.1 == p.1) && (q.2 == p.2)) with _ | _ <;> rfl
theorem twoE_le (p q : Ent) : (twoE p q).length ≤ 2 := by
  unfold twoE tagEs
  rcases hadF [p] q.1 q.2 with _ | _ <;> simp
theorem BlkT.neT {T U : TypeId} {w : World} {b g : Nat} {cs ds : List Value} (h : BlkT T w b cs) (k : BlkT U w g ds) (hT : T ≠ U) : b ≠ g := by
  rintro rfl
  unfold BlkT at h k
  rw [h] at k
  injection k with k
  injection k with _ k
  exact hT k
theorem same16 (x y : List UInt8) (t1 : Option Addr) (d1 : Nat) (t2 : Option Addr) (d2 : Nat) (W : World) (h : BytesAt W t1 (rightT x y)) (h2 : BytesAt W t2 (rightT x y)) :
    Calls Tryd.prog 16 #[.slice t1 16 d1, .slice t2 16 d2] W fun e w' => e = .returned (.bool true) ∧ W = w' :=
  (same01_any t1 t2 16 d1 16 d2 (rightT x y) (rightT x y) W (rightT_len x y).symm (rightT_len x y).symm h h2).mono fun e w' ⟨p, q⟩ => ⟨by rw [p, beq_self_eq_true], q⟩

set_option maxRecDepth 100000 in
set_option maxHeartbeats 16000000 in
theorem provOrder_any (x0 x1 x2 x3 : Option Addr) (e0 e1 e2 e3 : Nat) (l0 l1 l2 l3 : List UInt8) (ka : Option Addr) (kc : Nat) (k : List UInt8) (b_ : Option Addr) (bc : Nat) (b : List UInt8) (w : World)
    (h0 : BytesAt w x0 l0) (h1 : BytesAt w x1 l1) (h2 : BytesAt w x2 l2) (h3 : BytesAt w x3 l3) (hka : BytesAt w ka k) (hba : BytesAt w b_ b) (hk : KeysAt w) :
    Calls Tryd.prog 8 #[.agg #[.slice x0 l0.length e0, .slice x1 l1.length e1, .slice x2 l2.length e2, .slice x3 l3.length e3, .slice ka k.length kc, .slice b_ b.length bc]] w (BoolOut w true) := by
  have HI := Lib.hid prov_size
  have HM := Lib.hid (show 100 ≤ maxLen by decide)
  have Hsh := Lib.hid (fun W (h : Below w.heap.size w W) => shown04 W (hk.mono h))
  have KN := Lib.hid (fun W => new04_any true W)
  obtain ⟨N, hN⟩ : ∃ N, (twoE (l0, l1) (l2, l3)).length = N := ⟨_, rfl⟩
  have hN2 : (twoE (l2, l3) (l0, l1)).length = N := (twoE_len _ _).trans hN
  have hN9 : N ≤ 900 := by rw [← hN]; exact Nat.le_trans (twoE_le _ _) (by decide)
  have K1 := Lib.hid (fun W (h : Below w.heap.size w W) (q0 : l0.length ≤ 60) (q1 : l1.length ≤ 60) => tag_st (m := 1) (i := true) (f := false) (kc := e0) (bc := e1) (PrF.zero W) (hk.mono h) (h0.mono h) (h1.mono h) q0 (by omega) (tagEs_nil l0 l1) rfl (by show 1 ≤ 900; decide) rfl)
  have K2 := Lib.hid (fun a1 c1 W (h : Below w.heap.size w W) (hp : PrF W a1 1 c1 [(l0, l1)]) (q0 : l2.length ≤ 60) (q1 : l3.length ≤ 60) => tag_st (i := true) (f := false) (kc := e2) (bc := e3) hp (hk.mono h) (h2.mono h) (h3.mono h) q0 (by omega) (show tagEs [(l0, l1)] l2 l3 = twoE (l0, l1) (l2, l3) from rfl) hN hN9 rfl)
  have K3 := Lib.hid (fun W (h : Below w.heap.size w W) (q0 : l2.length ≤ 60) (q1 : l3.length ≤ 60) => tag_st (m := 1) (i := true) (f := false) (kc := e2) (bc := e3) (PrF.zero W) (hk.mono h) (h2.mono h) (h3.mono h) q0 (by omega) (tagEs_nil l2 l3) rfl (by show 1 ≤ 900; decide) rfl)
  have K4 := Lib.hid (fun a1 c1 W (h : Below w.heap.size w W) (hp : PrF W a1 1 c1 [(l2, l3)]) (q0 : l0.length ≤ 60) (q1 : l1.length ≤ 60) => tag_st (i := true) (f := false) (kc := e0) (bc := e1) hp (hk.mono h) (h0.mono h) (h1.mono h) q0 (by omega) (show tagEs [(l2, l3)] l0 l1 = twoE (l2, l3) (l0, l1) from rfl) hN2 hN9 rfl)
  obtain ⟨z, hz⟩ : ∃ z, hadF (twoE (l0, l1) (l2, l3)) k b = z := ⟨_, rfl⟩
  have hz2 : hadF (twoE (l2, l3) (l0, l1)) k b = z := by rw [← hz, twoE_had, twoE_had, Bool.or_comm]
  have KH := Lib.hid (fun a1 c1 W (h : Below w.heap.size w W) (h0 : PrF W a1 N c1 (twoE (l0, l1) (l2, l3))) (hkl : k.length ≤ 60) (hbl : b.length ≤ 60) => had_st (i := true) (f := false) (kc := kc) (bc := bc) h0 (by have := HM.out; omega) (by have := HM.out; omega) (hka.mono h) (hba.mono h) hz)
  have KJ := Lib.hid (fun a1 c1 W (h : Below w.heap.size w W) (h0 : PrF W a1 N c1 (twoE (l2, l3) (l0, l1))) (hkl : k.length ≤ 60) (hbl : b.length ≤ 60) => had_st (i := true) (f := false) (kc := kc) (bc := bc) h0 (by have := HM.out; omega) (by have := HM.out; omega) (hka.mono h) (hba.mono h) hz2)
  rw [twoE_had] at hz
  have E0 := Lib.hid (fun W (h : Below w.heap.size w W) => same01_any x0 ka l0.length e0 k.length kc l0 k W rfl rfl (h0.mono h) (hka.mono h))
  have E1 := Lib.hid (fun W (h : Below w.heap.size w W) => same01_any x1 b_ l1.length e1 b.length bc l1 b W rfl rfl (h1.mono h) (hba.mono h))
  have E2 := Lib.hid (fun W (h : Below w.heap.size w W) => same01_any x2 ka l2.length e2 k.length kc l2 k W rfl rfl (h2.mono h) (hka.mono h))
  have E3 := Lib.hid (fun W (h : Below w.heap.size w W) => same01_any x3 b_ l3.length e3 b.length bc l3 b W rfl rfl (h3.mono h) (hba.mono h))
  have KR := Lib.hid (fun t1 d1 t2 d2 W (p : BytesAt W t1 (rightT l0 l1)) (q : BytesAt W t2 (rightT l0 l1)) => same16 l0 l1 t1 d1 t2 d2 W p q)
  have KS := Lib.hid (fun t1 d1 t2 d2 W (p : BytesAt W t1 (rightT l2 l3)) (q : BytesAt W t2 (rightT l2 l3)) => same16 l2 l3 t1 d1 t2 d2 W p q)
  rw [show (k == l0) = (l0 == k) from BEq.comm, show (b == l1) = (l1 == b) from BEq.comm, show (k == l2) = (l2 == k) from BEq.comm, show (b == l3) = (l3 == b) from BEq.comm] at hz
  have Hz := Lib.hid hz
  clear hz hz2 hN hN2 hN9
  generalize (l0 == k) = f0 at *
  generalize (l1 == b) = f1 at *
  generalize (l2 == k) = f2 at *
  generalize (l3 == b) = f3 at *
  generalize hP : [(l0, l1)] = P at *
  generalize hQ : [(l2, l3)] = Q at *
  generalize rightT l0 l1 = R at *
  generalize rightT l2 l3 = S at *
  generalize twoE (l0, l1) (l2, l3) = PQ at *
  generalize twoE (l2, l3) (l0, l1) = QP at *
  have X0 := Lib.hid h0
  have X1 := Lib.hid h1
  have X2 := Lib.hid h2
  have X3 := Lib.hid h3
  have XK := Lib.hid hka
  have XB := Lib.hid hba
  clear h0 h1 h2 h3 hka hba hk hP hQ
  generalize hm0 : l0.length = m0 at *
  generalize hm1 : l1.length = m1 at *
  generalize hm2 : l2.length = m2 at *
  generalize hm3 : l3.length = m3 at *
  generalize hkl : k.length = kl at *
  generalize hbl : b.length = bl at *
  have Hm := Lib.hid (show l0.length = m0 ∧ l1.length = m1 ∧ l2.length = m2 ∧ l3.length = m3 ∧ k.length = kl ∧ b.length = bl from ⟨hm0, hm1, hm2, hm3, hkl, hbl⟩)
  clear hm0 hm1 hm2 hm3 hkl hbl
  go_enter Tryd.func8, Tryd.ntmps8
  go_upto_region 5 with (fail)
  generalize hW : World.alloc (World.alloc (World.alloc w _) _) _ = W
  have B3 := Lib.hid (show BlkT 54 W (w.heap.size + 1) [.slice x0 m0 e0, .slice x1 m1 e1] by
    rw [← hW, ← size_alloc w (.cells #[.slice x0 m0 e0, .slice x1 m1 e1, .slice x2 m2 e2, .slice x3 m3 e3, .slice ka kl kc, .slice b_ bl bc] 56)]
    exact (BlkT.new _ [.slice x0 m0 e0, .slice x1 m1 e1] 54).up (ba _ _))
  have B4 := Lib.hid (show BlkT 54 W (w.heap.size + 1 + 1) [.slice x2 m2 e2, .slice x3 m3 e3] by
    rw [← hW, ← size_alloc w (.cells #[.slice x0 m0 e0, .slice x1 m1 e1, .slice x2 m2 e2, .slice x3 m3 e3, .slice ka kl kc, .slice b_ bl bc] 56), ← size_alloc _ (.cells #[.slice x0 m0 e0, .slice x1 m1 e1] 54)]
    exact BlkT.new _ [.slice x2 m2 e2, .slice x3 m3 e3] 54)
  have G := Lib.hid (show Below w.heap.size w W by rw [← hW]; exact bta (bta (ba w _) _) _)
  clear hW
  generalize w.heap.size + 1 + 1 = b4 at B4 ⊢
  generalize w.heap.size + 1 = b3 at B3 ⊢
  go_wp2_with fail
  refine (Hsh.out _ G.out).mono ?_; rintro e y1 ⟨rfl, hb⟩
  replace B3 := Lib.hid (B3.out.up hb)
  replace B4 := Lib.hid (B4.out.up hb)
  replace G := Lib.hid (bt G.out hb)
  clear hb
  obtain ⟨g0, g1⟩ := ent_cells2 B3.out.blk
  obtain ⟨g2, g3⟩ := ent_cells2 B4.out.blk
  by_cases hm0 : (60 : Int) < (m0 : Int)
  · go_wp2_with fail
    go_ret
    exact ⟨rfl, G.out⟩
  by_cases hm1 : (60 : Int) < (m1 : Int)
  · go_wp2_with fail
    go_ret
    exact ⟨rfl, G.out⟩
  by_cases hm2 : (60 : Int) < (m2 : Int)
  · go_wp2_with fail
    go_ret
    exact ⟨rfl, G.out⟩
  by_cases hm3 : (60 : Int) < (m3 : Int)
  · go_wp2_with fail
    go_ret
    exact ⟨rfl, G.out⟩
  by_cases hkl : (60 : Int) < (kl : Int)
  · go_wp2_with fail
    go_ret
    exact ⟨rfl, G.out⟩
  by_cases hbl : (60 : Int) < (bl : Int)
  · go_wp2_with fail
    go_ret
    exact ⟨rfl, G.out⟩
  have Lm := Lib.hid (show m0 ≤ 60 ∧ m1 ≤ 60 ∧ m2 ≤ 60 ∧ m3 ≤ 60 ∧ kl ≤ 60 ∧ bl ≤ 60 by omega)
  go_upto_region 8 with (fail)
  clear hm0 hm1 hm2 hm3 hkl hbl Hsh
  have GW := Lib.hid G.out
  have K7 := Lib.hid (show ∀ w', Below y1.heap.size y1 w' → (Below y1.heap.size y1 w' ∧ w'.cell? ⟨b3, 0, none⟩ = some (.slice x0 m0 e0) ∧ w'.cell? ⟨b3, 1, none⟩ = some (.slice x1 m1 e1)) from fun w' hb => ⟨hb, ent_cells2 (B3.out.up hb).blk⟩)
  have K8 := Lib.hid (fun W (h : Below y1.heap.size y1 W) => K1.out W (bt G.out h) Lm.out.1 Lm.out.2.1)
  go_cut [9, 8] (fun v9 v8 wx => ∃ (b8 : Nat) (a1 : Option Addr) (c1 : Nat) (t1 : Option Addr) (d1 : Nat), v9 = .slice t1 16 d1 ∧ v8 = .pointer (some ⟨b8, 0, none⟩) ∧ BlkT 24 wx b8 (prL true a1 1 c1 false) ∧ y1.heap.size ≤ b8 ∧ PrF wx a1 1 c1 P ∧ BytesAt wx t1 R ∧ Below y1.heap.size y1 wx)
  case first =>
    obtain ⟨-, f0, f1⟩ := K7.out y1 (Below.refl _ _)
    have hS0 := Below.refl y1.heap.size y1
    go_region_held3 (fun w' => Below y1.heap.size y1 w' ∧ w'.cell? ⟨b3, 0, none⟩ = some (.slice x0 m0 e0) ∧ w'.cell? ⟨b3, 1, none⟩ = some (.slice x1 m1 e1))
      (first
        | (apply K7.out; (with_reducible ((try apply bta); (try (apply rset3_below; rotate_left; first | apply Nat.le_refl | exact hz5)); (try apply bta); (try apply bt3 hb6); (try apply bta); (try apply bt3 hb5); (try apply bta); (first | apply Below.refl | (apply btd; (try apply bta); apply Below.refl)))))
        | fail)
      (first
        | (go_at_call 20; go_split_ands; ((with_reducible refine Calls.mono (KN.out _) ?_); rintro e w5 ⟨rfl, hb5⟩; (try (with_reducible have z5 := BlkT.up (BlkT.new y1 zeroP _) hb5)); (try (with_reducible have z5 := BlkT.up (BlkT.up (BlkT.new _ zeroP _) (bd _)) hb5)); (try (have hz5 : y1.heap.size ≤ w5.heap.size := hb5.size))))
        | (go_at_call 11; go_split_ands; ((with_reducible refine Calls.mono (K8.out _ (by assumption)) ?_); rintro e w6 ⟨a6, c6, t6, d6, rfl, hS6, -, hT6, hb6⟩; (try (have z6 := z5.up hb6; have fz1 := z6.blk.frozen; have lz1 := z6.blk.lt; obtain ⟨x0', x1', x2'⟩ := cells3P z6.blk)); (try ((with_reducible have z6 := BlkT.up (BlkT.new _ zeroP _) hb6); have fz1 := z6.blk.frozen; have lz1 := z6.blk.lt; obtain ⟨x0', x1', x2'⟩ := cells3P z6.blk)); skip)))
    all_goals
      go_split_ands
      go_wp2_with fail
      go_meet
      first
        | exact ⟨w6.heap.size, a6, c6, t6, d6, rfl, rfl, BlkT.new w6 (prL true a6 1 c6 false) _, Nat.le_trans hz5 hb6.size, hS6.up (ba w6 _), hT6.mono (ba w6 _), by assumption⟩
        | exact ⟨w5.heap.size, a6, c6, t6, d6, rfl, rfl, rset3 z6, hz5, hS6.set3 z6, bytes_set3 hT6 z6, by assumption⟩
        | exact ⟨y1.heap.size, a6, c6, t6, d6, rfl, rfl, rset3 z6, Nat.le_refl _, hS6.set3 z6, bytes_set3 hT6 z6, by assumption⟩
  case rest =>
    obtain ⟨b8, a1, c1, t1, d1, rfl, rfl, hB, hLo, hS, hT, hbc⟩ := hcut
    have B8 := Lib.hid hB
    have Lo8 := Lib.hid hLo
    have S1 := Lib.hid hS
    have T1 := Lib.hid hT
    have GC := Lib.hid hbc
    clear K7 K8 hB hLo hS hT
    replace B3 := Lib.hid (B3.out.up hbc)
    replace B4 := Lib.hid (B4.out.up hbc)
    replace G := Lib.hid (bt G.out hbc)
    clear hbc
    have Low8 := Lib.hid (Nat.le_trans GW.out.size Lo8.out)
    clear Lo8 GW
    go_upto_region 9 with (fail)
    go_cut [10] (fun v10 wx => ∃ (a2 : Option Addr) (c2 : Nat) (t2 : Option Addr) (d2 : Nat), v10 = .slice t2 16 d2 ∧ BlkT 24 wx b8 (prL true a2 N c2 false) ∧ PrF wx a2 N c2 PQ ∧ BytesAt wx t2 S ∧ BlkT 54 wx b3 [.slice x0 m0 e0, .slice x1 m1 e1] ∧ BlkT 54 wx b4 [.slice x2 m2 e2, .slice x3 m3 e3] ∧ BytesAt wx t1 R ∧ Below w.heap.size w wx)
    case first =>
      obtain ⟨q0, q1⟩ := ent_cells2 B4.out.blk
      go_wp2_with (first
              | (refine wpList_load_blk 24 (.tmp 8) b8 (cs := (prL true a1 1 c1 false)) rfl rfl rfl B8.out.blk Tryd.underlying24 rfl HI.out ?_)
              | (refine wpList_load_blkP 24 (.tmp 8) b8 (cs := (prL true a1 1 c1 false)) (by first | rfl | simp [Region.wanted, yielded]) rfl rfl B8.out.blk Tryd.underlying24 rfl HI.out ?_))
      refine (K2.out a1 c1 _ G.out S1.out Lm.out.2.2.1 Lm.out.2.2.2.1).mono ?_; rintro e wn ⟨a2, c2, t2, d2, rfl, hS, -, hT, hb⟩
      have C := Lib.hid (B8.out.up hb)
      go_wp2_with (refine wpList_store_blk 24 (.tmp 8) (.tmp 75) b8 (old := (prL true a1 1 c1 false)) (cs := (prL true a2 N c2 false)) rfl rfl rfl rfl C.out.blk HI.out rfl rfl ?_)
      go_meet
      exact ⟨a2, c2, t2, d2, rfl, C.out.row (prL true a2 N c2 false), hS.rowP C.out.blk _, BytesAt.notIn hT C.out.blk prov_noint _, (B3.out.up hb).rowOther _ ((B3.out.up hb).neT C.out (by decide)) _, (B4.out.up hb).rowOther _ ((B4.out.up hb).neT C.out (by decide)) _, BytesAt.notIn (T1.out.mono hb) C.out.blk prov_noint _, below_setRow (bt G.out hb) Low8.out _⟩
    case rest =>
      obtain ⟨a2, c2, t2, d2, rfl, hB8, hS2, hT2, hB3, hB4, hT1, hG⟩ := hcut
      replace B8 := Lib.hid hB8
      have S2 := Lib.hid hS2
      have T2 := Lib.hid hT2
      replace B3 := Lib.hid hB3
      replace B4 := Lib.hid hB4
      replace T1 := Lib.hid hT1
      replace G := Lib.hid hG
      clear hB8 hS2 hT2 hB3 hB4 hT1 hG
      clear K1 K2
      go_upto_region 10 with (fail)
      have LB8 := Lib.hid B8.out.blk.lt
      have GW := Lib.hid G.out
      have K7 := Lib.hid (show ∀ w', Below wc.heap.size wc w' → (Below wc.heap.size wc w' ∧ w'.cell? ⟨b4, 0, none⟩ = some (.slice x2 m2 e2) ∧ w'.cell? ⟨b4, 1, none⟩ = some (.slice x3 m3 e3)) from fun w' hb => ⟨hb, ent_cells2 (B4.out.up hb).blk⟩)
      have K8 := Lib.hid (fun W (h : Below wc.heap.size wc W) => K3.out W (bt G.out h) Lm.out.2.2.1 Lm.out.2.2.2.1)
      go_cut [12, 11] (fun v12 v11 wx => ∃ (b11 : Nat) (a3 : Option Addr) (c3 : Nat) (t3 : Option Addr) (d3 : Nat), v12 = .slice t3 16 d3 ∧ v11 = .pointer (some ⟨b11, 0, none⟩) ∧ BlkT 24 wx b11 (prL true a3 1 c3 false) ∧ wc.heap.size ≤ b11 ∧ PrF wx a3 1 c3 Q ∧ BytesAt wx t3 S ∧ Below wc.heap.size wc wx)
      case first =>
        obtain ⟨-, f0, f1⟩ := K7.out wc (Below.refl _ _)
        have hS0 := Below.refl wc.heap.size wc
        go_region_held3 (fun w' => Below wc.heap.size wc w' ∧ w'.cell? ⟨b4, 0, none⟩ = some (.slice x2 m2 e2) ∧ w'.cell? ⟨b4, 1, none⟩ = some (.slice x3 m3 e3))
          (first
            | (apply K7.out; (with_reducible ((try apply bta); (try (apply rset3_below; rotate_left; first | apply Nat.le_refl | exact hz5)); (try apply bta); (try apply bt3 hb6); (try apply bta); (try apply bt3 hb5); (try apply bta); (first | apply Below.refl | (apply btd; (try apply bta); apply Below.refl)))))
            | fail)
          (first
            | (go_at_call 20; go_split_ands; ((with_reducible refine Calls.mono (KN.out _) ?_); rintro e w5 ⟨rfl, hb5⟩; (try (with_reducible have z5 := BlkT.up (BlkT.new wc zeroP _) hb5)); (try (with_reducible have z5 := BlkT.up (BlkT.up (BlkT.new _ zeroP _) (bd _)) hb5)); (try (have hz5 : wc.heap.size ≤ w5.heap.size := hb5.size))))
            | (go_at_call 11; go_split_ands; ((with_reducible refine Calls.mono (K8.out _ (by assumption)) ?_); rintro e w6 ⟨a6, c6, t6, d6, rfl, hS6, -, hT6, hb6⟩; (try (have z6 := z5.up hb6; have fz1 := z6.blk.frozen; have lz1 := z6.blk.lt; obtain ⟨x0', x1', x2'⟩ := cells3P z6.blk)); (try ((with_reducible have z6 := BlkT.up (BlkT.new _ zeroP _) hb6); have fz1 := z6.blk.frozen; have lz1 := z6.blk.lt; obtain ⟨x0', x1', x2'⟩ := cells3P z6.blk)); skip)))
        all_goals
          go_split_ands
          go_wp2_with fail
          go_meet
          first
            | exact ⟨w6.heap.size, a6, c6, t6, d6, rfl, rfl, BlkT.new w6 (prL true a6 1 c6 false) _, Nat.le_trans hz5 hb6.size, hS6.up (ba w6 _), hT6.mono (ba w6 _), by assumption⟩
            | exact ⟨w5.heap.size, a6, c6, t6, d6, rfl, rfl, rset3 z6, hz5, hS6.set3 z6, bytes_set3 hT6 z6, by assumption⟩
            | exact ⟨wc.heap.size, a6, c6, t6, d6, rfl, rfl, rset3 z6, Nat.le_refl _, hS6.set3 z6, bytes_set3 hT6 z6, by assumption⟩
      case rest =>
        obtain ⟨b11, a3, c3, t3, d3, rfl, rfl, hB, hLo, hS, hT, hbc⟩ := hcut
        have B11 := Lib.hid hB
        have Lo11 := Lib.hid hLo
        have S3 := Lib.hid hS
        have T3 := Lib.hid hT
        have GC := Lib.hid hbc
        clear K7 K8 hB hLo hS hT
        replace B3 := Lib.hid (B3.out.up hbc)
        replace B4 := Lib.hid (B4.out.up hbc)
        replace B8 := Lib.hid (B8.out.up hbc)
        replace T1 := Lib.hid (T1.out.mono hbc)
        replace G := Lib.hid (bt G.out hbc)
        replace S2 := Lib.hid (S2.out.up hbc)
        replace T2 := Lib.hid (T2.out.mono hbc)
        clear hbc
        have Ne8 := Lib.hid (Nat.ne_of_lt (Nat.lt_of_lt_of_le LB8.out Lo11.out))
        have Low11 := Lib.hid (Nat.le_trans GW.out.size Lo11.out)
        clear Lo11 LB8 GW
        go_upto_region 11 with (fail)
        go_cut [13] (fun v13 wx => ∃ (a4 : Option Addr) (c4 : Nat) (t4 : Option Addr) (d4 : Nat), v13 = .slice t4 16 d4 ∧ BlkT 24 wx b11 (prL true a4 N c4 false) ∧ PrF wx a4 N c4 QP ∧ BytesAt wx t4 R ∧ BlkT 54 wx b3 [.slice x0 m0 e0, .slice x1 m1 e1] ∧ BlkT 54 wx b4 [.slice x2 m2 e2, .slice x3 m3 e3] ∧ BlkT 24 wx b8 (prL true a2 N c2 false) ∧ BytesAt wx t1 R ∧ PrF wx a2 N c2 PQ ∧ BytesAt wx t2 S ∧ BytesAt wx t3 S ∧ Below w.heap.size w wx)
        case first =>
          obtain ⟨q0, q1⟩ := ent_cells2 B3.out.blk
          go_wp2_with (first
                      | (refine wpList_load_blk 24 (.tmp 11) b11 (cs := (prL true a3 1 c3 false)) rfl rfl rfl B11.out.blk Tryd.underlying24 rfl HI.out ?_)
                      | (refine wpList_load_blkP 24 (.tmp 11) b11 (cs := (prL true a3 1 c3 false)) (by first | rfl | simp [Region.wanted, yielded]) rfl rfl B11.out.blk Tryd.underlying24 rfl HI.out ?_))
          refine (K4.out a3 c3 _ G.out S3.out Lm.out.1 Lm.out.2.1).mono ?_; rintro e wn ⟨a4, c4, t4, d4, rfl, hS, -, hT, hb⟩
          have C := Lib.hid (B11.out.up hb)
          go_wp2_with (refine wpList_store_blk 24 (.tmp 11) (.tmp 93) b11 (old := (prL true a3 1 c3 false)) (cs := (prL true a4 N c4 false)) rfl rfl rfl rfl C.out.blk HI.out rfl rfl ?_)
          go_meet
          exact ⟨a4, c4, t4, d4, rfl, C.out.row (prL true a4 N c4 false), hS.rowP C.out.blk _, BytesAt.notIn hT C.out.blk prov_noint _, (B3.out.up hb).rowOther _ ((B3.out.up hb).neT C.out (by decide)) _, (B4.out.up hb).rowOther _ ((B4.out.up hb).neT C.out (by decide)) _, (B8.out.up hb).rowOther _ (Ne8.out) _, BytesAt.notIn (T1.out.mono hb) C.out.blk prov_noint _, (S2.out.up hb).rowP C.out.blk _, BytesAt.notIn (T2.out.mono hb) C.out.blk prov_noint _, BytesAt.notIn (T3.out.mono hb) C.out.blk prov_noint _, below_setRow (bt G.out hb) Low11.out _⟩
        case rest =>
          obtain ⟨a4, c4, t4, d4, rfl, hB11, hS4, hT4, hB3, hB4, hB8, hT1, hS2, hT2, hT3, hG⟩ := hcut
          replace B11 := Lib.hid hB11
          have S4 := Lib.hid hS4
          have T4 := Lib.hid hT4
          replace B3 := Lib.hid hB3
          replace B4 := Lib.hid hB4
          replace B8 := Lib.hid hB8
          replace T1 := Lib.hid hT1
          replace S2 := Lib.hid hS2
          replace T2 := Lib.hid hT2
          replace T3 := Lib.hid hT3
          replace G := Lib.hid hG
          clear hB11 hS4 hT4 hB3 hB4 hB8 hT1 hS2 hT2 hT3 hG
          clear K3 K4
          go_upto_region 12 with (fail)
          go_wp2_with (first
                        | (refine wpList_load_blk 24 (.tmp 8) b8 (cs := (prL true a2 N c2 false)) rfl rfl rfl B8.out.blk Tryd.underlying24 rfl HI.out ?_)
                        | (refine wpList_load_blkP 24 (.tmp 8) b8 (cs := (prL true a2 N c2 false)) (by first | rfl | simp [Region.wanted, yielded]) rfl rfl B8.out.blk Tryd.underlying24 rfl HI.out ?_))
          refine (KH.out a2 c2 _ G.out S2.out Lm.out.2.2.2.2.1 Lm.out.2.2.2.2.2).mono ?_; rintro e y2 ⟨rfl, hb⟩
          replace B3 := Lib.hid (B3.out.up hb)
          replace B4 := Lib.hid (B4.out.up hb)
          replace B8 := Lib.hid (B8.out.up hb)
          replace B11 := Lib.hid (B11.out.up hb)
          replace T1 := Lib.hid (T1.out.mono hb)
          replace S2 := Lib.hid (S2.out.up hb)
          replace T2 := Lib.hid (T2.out.mono hb)
          replace T3 := Lib.hid (T3.out.mono hb)
          replace G := Lib.hid (bt G.out hb)
          replace S4 := Lib.hid (S4.out.up hb)
          replace T4 := Lib.hid (T4.out.mono hb)
          clear hb
          go_upto_region 13 with (fail)
          obtain ⟨g0, g1⟩ := ent_cells2 B3.out.blk
          go_cut [15] (fun v15 wx => v15 = .bool (f0 && f1) ∧ y2 = wx)
          case first =>
            rcases f0 with _ | _
            · go_wp2_with fail
              refine (E0.out _ G.out).mono ?_; rintro e z ⟨rfl, rfl⟩
              go_wp2_with fail
              go_meet
              exact ⟨rfl, rfl⟩
            · go_wp2_with fail
              refine (E0.out _ G.out).mono ?_; rintro e z ⟨rfl, rfl⟩
              go_wp2_with fail
              refine (E1.out _ G.out).mono ?_; rintro e z ⟨rfl, rfl⟩
              go_wp2_with fail
              go_meet
              exact ⟨rfl, rfl⟩
          case rest =>
            obtain ⟨rfl, rfl⟩ := hcut
            clear g0 g1 E0 E1
            go_upto_region 14 with (fail)
            obtain ⟨g0, g1⟩ := ent_cells2 B4.out.blk
            go_cut [16] (fun v16 wx => v16 = .bool (f2 && f3) ∧ y2 = wx)
            case first =>
              rcases f2 with _ | _
              · go_wp2_with fail
                refine (E2.out _ G.out).mono ?_; rintro e z ⟨rfl, rfl⟩
                go_wp2_with fail
                go_meet
                exact ⟨rfl, rfl⟩
              · go_wp2_with fail
                refine (E2.out _ G.out).mono ?_; rintro e z ⟨rfl, rfl⟩
                go_wp2_with fail
                refine (E3.out _ G.out).mono ?_; rintro e z ⟨rfl, rfl⟩
                go_wp2_with fail
                go_meet
                exact ⟨rfl, rfl⟩
            case rest =>
              obtain ⟨rfl, rfl⟩ := hcut
              clear g0 g1 E2 E3
              generalize (f0 && f1) = o1 at *
              generalize (f2 && f3) = o2 at *
              go_upto_region 15 with (fail)
              clear KH KN
              rcases o1 with _ | _ <;> rcases o2 with _ | _
              all_goals
                have hz : z = _ := Hz.out.symm
                simp only [Bool.or_self, Bool.false_or, Bool.true_or, Bool.or_true, Bool.or_false] at hz
                subst hz
                go_wp2_with fail
                refine (KR.out t1 d1 t4 d4 _ T1.out T4.out).mono ?_; rintro e z ⟨rfl, rfl⟩
                go_wp2_with fail
                refine (KS.out t2 d2 t3 d3 _ T2.out T3.out).mono ?_; rintro e z ⟨rfl, rfl⟩
                go_wp2_with (first
                                    | (refine wpList_load_blk 24 (.tmp 11) b11 (cs := (prL true a4 N c4 false)) rfl rfl rfl B11.out.blk Tryd.underlying24 rfl HI.out ?_)
                                    | (refine wpList_load_blkP 24 (.tmp 11) b11 (cs := (prL true a4 N c4 false)) (by first | rfl | simp [Region.wanted, yielded]) rfl rfl B11.out.blk Tryd.underlying24 rfl HI.out ?_))
                refine (KJ.out a4 c4 _ G.out S4.out Lm.out.2.2.2.2.1 Lm.out.2.2.2.2.2).mono ?_; rintro e y3 ⟨rfl, hb⟩
                replace B3 := Lib.hid (B3.out.up hb)
                replace B4 := Lib.hid (B4.out.up hb)
                replace B8 := Lib.hid (B8.out.up hb)
                replace B11 := Lib.hid (B11.out.up hb)
                replace T1 := Lib.hid (T1.out.mono hb)
                replace S2 := Lib.hid (S2.out.up hb)
                replace T2 := Lib.hid (T2.out.mono hb)
                replace T3 := Lib.hid (T3.out.mono hb)
                replace G := Lib.hid (bt G.out hb)
                replace S4 := Lib.hid (S4.out.up hb)
                replace T4 := Lib.hid (T4.out.mono hb)
                clear hb
                obtain ⟨g0, g1, g2⟩ := cells3P B8.out.blk
                obtain ⟨g4, g5, g6⟩ := cells3P B11.out.blk
                go_wp2_with fail
                go_ret
                exact ⟨by simp, G.out⟩
theorem provOrder_in (hsh : Shown04OK) (w : World) (hk : KeysAt w) (a0 : Option Addr) (n0 c0 : Nat) (l0 : List UInt8) (a1 : Option Addr) (n1 c1 : Nat) (l1 : List UInt8) (a2 : Option Addr) (n2 c2 : Nat) (l2 : List UInt8) (a3 : Option Addr) (n3 c3 : Nat) (l3 : List UInt8) (a4 : Option Addr) (n4 c4 : Nat) (l4 : List UInt8) (a5 : Option Addr) (n5 c5 : Nat) (l5 : List UInt8)
    (h0 : InBytes w a0 n0 c0 l0) (h1 : InBytes w a1 n1 c1 l1) (h2 : InBytes w a2 n2 c2 l2) (h3 : InBytes w a3 n3 c3 l3) (h4 : InBytes w a4 n4 c4 l4) (h5 : InBytes w a5 n5 c5 l5) :
    Calls Tryd.prog 8 #[.agg #[.slice a0 n0 c0, .slice a1 n1 c1, .slice a2 n2 c2, .slice a3 n3 c3, .slice a4 n4 c4, .slice a5 n5 c5]] w (BoolOut w true) := by
  obtain ⟨rfl, -, -, q0⟩ := h0
  obtain ⟨rfl, -, -, q1⟩ := h1
  obtain ⟨rfl, -, -, q2⟩ := h2
  obtain ⟨rfl, -, -, q3⟩ := h3
  obtain ⟨rfl, -, -, q4⟩ := h4
  obtain ⟨rfl, -, -, q5⟩ := h5
  exact provOrder_any a0 a1 a2 a3 c0 c1 c2 c3 l0 l1 l2 l3 a4 c4 l4 a5 c5 l5 w q0 q1 q2 q3 q4 q5 hk
end Go.Proofs.YthmcmkdncaccbaaDoor
