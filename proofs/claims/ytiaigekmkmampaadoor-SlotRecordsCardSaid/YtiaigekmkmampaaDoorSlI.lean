/- The walk of the law SlotRecords. -/
import Derived.Test.YtiaigekmkmampaaDoorSlF
import Derived.Test.YtiaigekmkmampaaDoorInX
import Derived.Test.YtiaigekmkmampaaDoorSet
import Derived.BigQuiet
import Derived.Deep.DeepCutAuto
set_option linter.unusedSimpArgs false
set_option linter.unusedVariables false
namespace Go.Proofs.YtiaigekmkmampaaDoor
open Go.RowKit

def recOK (n : Int) : Bool := decide (1 ≤ n) && decide (n ≤ 4611686018427387904)
theorem recOK_iff {n : Int} : recOK n = true ↔ 1 ≤ n ∧ n ≤ 4611686018427387904 := by unfold recOK; simp
/-- a record, or nothing -/
def recX (n : Int) : List UInt8 := bif recOK n then recF n.toNat else []
def recE (n : Int) : Int := bif recOK n then 0 else 1
def RecA (w : World) (X : List UInt8) (E : Int) (e : Ending) (w' : World) : Prop := ∃ a c, e = .returned (.tuple #[.slice a X.length c, .int .i64 E]) ∧ BytesAt w' a X ∧ X.length ≤ c ∧ c ≤ maxLen ∧ Below w.heap.size w w'
theorem rec_any (n : Int) (w : World) (hk : KeysAt w) : Calls Tryd.prog 9 #[.int .i64 n] w (RecA w (recX n) (recE n)) := by
  unfold recX recE
  rcases h : recOK n with _ | _
  · have hb : n < 1 ∨ 4611686018427387904 < n := by
      have := mt recOK_iff.2 (by rw [h]; decide); omega
    exact (rec_bad n hb w).mono fun e w' ⟨p, q⟩ => ⟨none, 0, p, .inl rfl, Nat.le_refl _, by decide, q ▸ Below.refl _ _⟩
  · obtain ⟨h1, h2⟩ := recOK_iff.1 h
    obtain ⟨k, rfl⟩ := Int.eq_ofNat_of_zero_le (by omega : 0 ≤ n)
    refine (rec_ok k (by omega) (by unfold lastN; omega) w hk).mono fun e w' ⟨a, c, p, q⟩ => ?_
    have hc := q.buf.cap
    rw [recF_len] at hc
    exact ⟨a, c, by rw [p]; show _ = Ending.returned (.tuple #[.slice a (recF k).length c, .int .i64 0]); rw [recF_len], q.at, by show (recF k).length ≤ c; rw [recF_len]; exact hc.2.1, hc.2.2, q.bel⟩
theorem refRec_any (n : Int) (w : World) : Calls Tryd.prog 10 #[.int .i64 n] w (RecA w (recX n) (recE n)) := by
  unfold recX recE
  rcases h : recOK n with _ | _
  · have hb : n < 1 ∨ 4611686018427387904 < n := by
      have := mt recOK_iff.2 (by rw [h]; decide); omega
    exact (refRec_bad n hb w).mono fun e w' ⟨p, q⟩ => ⟨none, 0, p, .inl rfl, Nat.le_refl _, by decide, q ▸ Below.refl _ _⟩
  · obtain ⟨h1, h2⟩ := recOK_iff.1 h
    obtain ⟨k, rfl⟩ := Int.eq_ofNat_of_zero_le (by omega : 0 ≤ n)
    refine (refRec_ok k (by omega) (by unfold lastN; omega) w).mono fun e w' ⟨a, c, p, q⟩ => ?_
    have hc := q.buf.cap
    rw [recF_len] at hc
    exact ⟨a, c, by rw [p]; show _ = Ending.returned (.tuple #[.slice a (recF k).length c, .int .i64 0]); rw [recF_len], q.at, by show (recF k).length ≤ c; rw [recF_len]; exact hc.2.1, hc.2.2, q.bel⟩
theorem recX_ok {n : Int} (h : recOK n = true) : recX n = recF n.toNat ∧ recE n = 0 ∧ (recX n).length = 16 := by
  unfold recX recE; rw [h]; exact ⟨rfl, rfl, recF_len _⟩
theorem recX_no {n : Int} (h : recOK n = false) : recX n = [] ∧ recE n = 1 := by unfold recX recE; rw [h]; exact ⟨rfl, rfl⟩
theorem rec_same {m n : Int} (hm : recOK m = true) (hn : recOK n = true) : (recX m == recX n) = (m == n) := by
  obtain ⟨h1, h2⟩ := recOK_iff.1 hm
  obtain ⟨h3, h4⟩ := recOK_iff.1 hn
  rw [(recX_ok hm).1, (recX_ok hn).1]
  by_cases h : m = n
  · subst h; simp
  · rw [show (m == n) = false by rw [beq_eq_false_iff_ne]; exact h, beq_eq_false_iff_ne]
    intro e
    have := recF_inj (m := m.toNat) (n := n.toNat) (by unfold lastN; omega) (by unfold lastN; omega) e
    omega
theorem bv_zero {x : UInt8} (h : x ≠ 0) : (bv x == 0) = false := by
  rw [beq_eq_false_iff_ne]
  intro e; exact h (bv_inj.1 e)

set_option maxRecDepth 100000 in
set_option maxHeartbeats 8000000 in
theorem records_a (m n : Int) (at_ : Nat) (by_ : UInt8) (hat : at_ < 256) (w : World) (hk : KeysAt w) (h : m < 1 ∨ 4611686018427387904 < m) :
    Calls Tryd.prog 5 #[.agg #[.int .i64 m, .int .i64 n, .int .u8 at_, .int .u8 (bv by_)]] w (BoolOut w true) := by
  have Hsh := Lib.hid (fun W (h : Below w.heap.size w W) => shown13 W (hk.mono h))
  have Hk := Lib.hid (fun W (h : Below w.heap.size w W) => hk.mono h)
  have K1 := Lib.hid (fun W => rec_bad m h W)
  have K2 := Lib.hid (fun W (h : Below w.heap.size w W) => rec_any n W (hk.mono h))
  unfold RecA at K2
  generalize recX n = X2 at K2
  generalize recE n = E2 at K2
  clear hk
  by_cases h1 : 1 ≤ m
  · have h2 : decide (m ≤ 4611686018427387904) = false := decide_eq_false (by omega)
    clear h
    go_enter Tryd.func5, Tryd.ntmps5
    go_upto_region 1 with (fail)
    generalize hW : World.alloc w _ = W
    have G := Lib.hid (show Below w.heap.size w W by rw [← hW]; exact ba w _)
    have hB : Blk W w.heap.size [.int .i64 m, .int .i64 n, .int .u8 at_, .int .u8 (bv by_)] := by rw [← hW]; exact Blk.new w [.int .i64 m, .int .i64 n, .int .u8 at_, .int .u8 (bv by_)] _
    have y0 : W.cell? ⟨w.heap.size, 0, none⟩ = some (.int .i64 m) := hB.cell 0 (by simp)
    have y1 : W.cell? ⟨w.heap.size, 1, none⟩ = some (.int .i64 n) := hB.cell 1 (by simp)
    have y2 : W.cell? ⟨w.heap.size, 2, none⟩ = some (.int .u8 at_) := hB.cell 2 (by simp)
    have y3 : W.cell? ⟨w.heap.size, 3, none⟩ = some (.int .u8 (bv by_)) := hB.cell 3 (by simp)
    clear hW hB
    go_wp2_with fail
    refine (Hsh.out _ G.out).mono ?_; rintro e w1 ⟨rfl, hb⟩
    replace G := Lib.hid (bt G.out hb)
    clear hb y0 y1 y2 y3
    go_wp2_with fail
    refine (K1.out _).mono ?_; rintro e w2 ⟨rfl, rfl⟩
    go_wp2_with fail
    refine (K2.out _ G.out).mono ?_; rintro e w3 ⟨a3, c3, rfl, -, -, -, hb⟩
    replace G := Lib.hid (bt G.out hb)
    clear hb
    go_wp2_with fail
    go_ret
    exact ⟨rfl, G.out⟩
  · have h2 : decide (1 ≤ m) = false := decide_eq_false h1
    clear h h1
    go_enter Tryd.func5, Tryd.ntmps5
    go_upto_region 1 with (fail)
    generalize hW : World.alloc w _ = W
    have G := Lib.hid (show Below w.heap.size w W by rw [← hW]; exact ba w _)
    have hB : Blk W w.heap.size [.int .i64 m, .int .i64 n, .int .u8 at_, .int .u8 (bv by_)] := by rw [← hW]; exact Blk.new w [.int .i64 m, .int .i64 n, .int .u8 at_, .int .u8 (bv by_)] _
    have y0 : W.cell? ⟨w.heap.size, 0, none⟩ = some (.int .i64 m) := hB.cell 0 (by simp)
    have y1 : W.cell? ⟨w.heap.size, 1, none⟩ = some (.int .i64 n) := hB.cell 1 (by simp)
    have y2 : W.cell? ⟨w.heap.size, 2, none⟩ = some (.int .u8 at_) := hB.cell 2 (by simp)
    have y3 : W.cell? ⟨w.heap.size, 3, none⟩ = some (.int .u8 (bv by_)) := hB.cell 3 (by simp)
    clear hW hB
    go_wp2_with fail
    refine (Hsh.out _ G.out).mono ?_; rintro e w1 ⟨rfl, hb⟩
    replace G := Lib.hid (bt G.out hb)
    clear hb y0 y1 y2 y3
    go_wp2_with fail
    refine (K1.out _).mono ?_; rintro e w2 ⟨rfl, rfl⟩
    go_wp2_with fail
    refine (K2.out _ G.out).mono ?_; rintro e w3 ⟨a3, c3, rfl, -, -, -, hb⟩
    replace G := Lib.hid (bt G.out hb)
    clear hb
    go_wp2_with fail
    go_ret
    exact ⟨rfl, G.out⟩
set_option maxRecDepth 100000 in
set_option maxHeartbeats 8000000 in
theorem records_b (m n : Int) (at_ : Nat) (by_ : UInt8) (hat : at_ < 256) (w : World) (hk : KeysAt w) (M : Nat) (hM : m = (M : Int)) (hM1 : 1 ≤ M) (hM2 : M ≤ lastN) (h : n < 1 ∨ 4611686018427387904 < n) :
    Calls Tryd.prog 5 #[.agg #[.int .i64 m, .int .i64 n, .int .u8 at_, .int .u8 (bv by_)]] w (BoolOut w true) := by
  have Hsh := Lib.hid (fun W (h : Below w.heap.size w W) => shown13 W (hk.mono h))
  have Hk := Lib.hid (fun W (h : Below w.heap.size w W) => hk.mono h)
  have K1 := Lib.hid (fun W (h : Below w.heap.size w W) => (show Calls Tryd.prog 9 #[.int .i64 m] W (RecOut W M) from by rw [hM]; exact rec_ok M hM1 hM2 W (hk.mono h)))
  have h1 : 1 ≤ m := by omega
  have h2 : m ≤ 4611686018427387904 := by unfold lastN at hM2; omega
  have K2 := Lib.hid (fun W => rec_bad n h W)
  obtain ⟨R, hR⟩ : ∃ R, R = recF M := ⟨_, rfl⟩
  have HRl := Lib.hid (show R.length = 16 by rw [hR, recF_len])
  unfold RecOut at K1
  rw [← hR] at K1
  clear hk hR h hM
  go_enter Tryd.func5, Tryd.ntmps5
  go_upto_region 1 with (fail)
  generalize hW : World.alloc w _ = W
  have G := Lib.hid (show Below w.heap.size w W by rw [← hW]; exact ba w _)
  have hB : Blk W w.heap.size [.int .i64 m, .int .i64 n, .int .u8 at_, .int .u8 (bv by_)] := by rw [← hW]; exact Blk.new w [.int .i64 m, .int .i64 n, .int .u8 at_, .int .u8 (bv by_)] _
  have y0 : W.cell? ⟨w.heap.size, 0, none⟩ = some (.int .i64 m) := hB.cell 0 (by simp)
  have y1 : W.cell? ⟨w.heap.size, 1, none⟩ = some (.int .i64 n) := hB.cell 1 (by simp)
  have y2 : W.cell? ⟨w.heap.size, 2, none⟩ = some (.int .u8 at_) := hB.cell 2 (by simp)
  have y3 : W.cell? ⟨w.heap.size, 3, none⟩ = some (.int .u8 (bv by_)) := hB.cell 3 (by simp)
  clear hW hB
  go_wp2_with fail
  refine (Hsh.out _ G.out).mono ?_; rintro e w1 ⟨rfl, hb⟩
  replace G := Lib.hid (bt G.out hb)
  clear hb y0 y1 y2 y3
  go_wp2_with fail
  refine (K1.out _ G.out).mono ?_; rintro e w2 ⟨a2, c2, rfl, ho2⟩
  have A2 := Lib.hid ho2.at
  have hc2 := Lib.hid (show 16 ≤ c2 ∧ c2 ≤ maxLen by have h := ho2.buf.cap; rw [HRl.out] at h; exact h.2)
  replace G := Lib.hid (bt G.out ho2.bel)
  clear ho2
  go_wp2_with fail
  refine (K2.out _).mono ?_; rintro e w3 ⟨rfl, rfl⟩
  go_wp2_with fail
  go_ret
  exact ⟨rfl, G.out⟩
set_option maxRecDepth 100000 in
set_option maxHeartbeats 8000000 in
theorem records_c (m n : Int) (at_ : Nat) (by_ : UInt8) (hat : at_ < 256) (w : World) (hk : KeysAt w) (M N : Nat) (hM : m = (M : Int)) (hM1 : 1 ≤ M) (hM2 : M ≤ lastN) (hN : n = (N : Int)) (hN1 : 1 ≤ N) (hN2 : N ≤ lastN) (h : by_ = 0) :
    Calls Tryd.prog 5 #[.agg #[.int .i64 m, .int .i64 n, .int .u8 at_, .int .u8 (bv by_)]] w (BoolOut w true) := by
  have Hsh := Lib.hid (fun W (h : Below w.heap.size w W) => shown13 W (hk.mono h))
  have Hk := Lib.hid (fun W (h : Below w.heap.size w W) => hk.mono h)
  have K1 := Lib.hid (fun W (h : Below w.heap.size w W) => (show Calls Tryd.prog 9 #[.int .i64 m] W (RecOut W M) from by rw [hM]; exact rec_ok M hM1 hM2 W (hk.mono h)))
  have h1 : 1 ≤ m := by omega
  have h2 : m ≤ 4611686018427387904 := by unfold lastN at hM2; omega
  have K2 := Lib.hid (fun W (h : Below w.heap.size w W) => (show Calls Tryd.prog 9 #[.int .i64 n] W (RecOut W N) from by rw [hN]; exact rec_ok N hN1 hN2 W (hk.mono h)))
  obtain ⟨R, hR⟩ : ∃ R, R = recF M := ⟨_, rfl⟩
  have HRl := Lib.hid (show R.length = 16 by rw [hR, recF_len])
  obtain ⟨R2, hR2⟩ : ∃ R, R = recF N := ⟨_, rfl⟩
  have HR2l := Lib.hid (show R2.length = 16 by rw [hR2, recF_len])
  unfold RecOut at K1 K2
  rw [← hR] at K1
  rw [← hR2] at K2
  have hz : (bv by_ == 0) = true := by rw [h]; rfl
  clear hk hR hR2 h hM hN
  go_enter Tryd.func5, Tryd.ntmps5
  go_upto_region 1 with (fail)
  generalize hW : World.alloc w _ = W
  have G := Lib.hid (show Below w.heap.size w W by rw [← hW]; exact ba w _)
  have hB : Blk W w.heap.size [.int .i64 m, .int .i64 n, .int .u8 at_, .int .u8 (bv by_)] := by rw [← hW]; exact Blk.new w [.int .i64 m, .int .i64 n, .int .u8 at_, .int .u8 (bv by_)] _
  have y0 : W.cell? ⟨w.heap.size, 0, none⟩ = some (.int .i64 m) := hB.cell 0 (by simp)
  have y1 : W.cell? ⟨w.heap.size, 1, none⟩ = some (.int .i64 n) := hB.cell 1 (by simp)
  have y2 : W.cell? ⟨w.heap.size, 2, none⟩ = some (.int .u8 at_) := hB.cell 2 (by simp)
  have y3 : W.cell? ⟨w.heap.size, 3, none⟩ = some (.int .u8 (bv by_)) := hB.cell 3 (by simp)
  clear hW hB
  go_wp2_with fail
  refine (Hsh.out _ G.out).mono ?_; rintro e w1 ⟨rfl, hb⟩
  replace G := Lib.hid (bt G.out hb)
  clear hb y0 y1 y2 y3
  go_wp2_with fail
  refine (K1.out _ G.out).mono ?_; rintro e w2 ⟨a2, c2, rfl, ho2⟩
  have A2 := Lib.hid ho2.at
  have hc2 := Lib.hid (show 16 ≤ c2 ∧ c2 ≤ maxLen by have h := ho2.buf.cap; rw [HRl.out] at h; exact h.2)
  replace G := Lib.hid (bt G.out ho2.bel)
  clear ho2
  go_wp2_with fail
  refine (K2.out _ G.out).mono ?_; rintro e w3 ⟨a3, c3, rfl, ho3⟩
  replace A2 := Lib.hid (A2.out.mono ho3.bel)
  have A3 := Lib.hid ho3.at
  replace G := Lib.hid (bt G.out ho3.bel)
  clear ho3
  go_wp2_with fail
  go_ret
  exact ⟨rfl, G.out⟩
set_option maxRecDepth 100000 in
set_option maxHeartbeats 8000000 in
theorem records_d (m n : Int) (at_ : Nat) (by_ : UInt8) (hat : at_ < 256) (w : World) (hk : KeysAt w) (M N : Nat) (hM : m = (M : Int)) (hM1 : 1 ≤ M) (hM2 : M ≤ lastN) (hN : n = (N : Int)) (hN1 : 1 ≤ N) (hN2 : N ≤ lastN) (h : by_ ≠ 0) :
    Calls Tryd.prog 5 #[.agg #[.int .i64 m, .int .i64 n, .int .u8 at_, .int .u8 (bv by_)]] w (BoolOut w true) := by
  have Hsh := Lib.hid (fun W (h : Below w.heap.size w W) => shown13 W (hk.mono h))
  have Hk := Lib.hid (fun W (h : Below w.heap.size w W) => hk.mono h)
  have K1 := Lib.hid (fun W (h : Below w.heap.size w W) => (show Calls Tryd.prog 9 #[.int .i64 m] W (RecOut W M) from by rw [hM]; exact rec_ok M hM1 hM2 W (hk.mono h)))
  have h1 : 1 ≤ m := by omega
  have h2 : m ≤ 4611686018427387904 := by unfold lastN at hM2; omega
  have K2 := Lib.hid (fun W (h : Below w.heap.size w W) => (show Calls Tryd.prog 9 #[.int .i64 n] W (RecOut W N) from by rw [hN]; exact rec_ok N hN1 hN2 W (hk.mono h)))
  obtain ⟨R, hR⟩ : ∃ R, R = recF M := ⟨_, rfl⟩
  have HRl := Lib.hid (show R.length = 16 by rw [hR, recF_len])
  obtain ⟨R2, hR2⟩ : ∃ R, R = recF N := ⟨_, rfl⟩
  have HR2l := Lib.hid (show R2.length = 16 by rw [hR2, recF_len])
  unfold RecOut at K1 K2
  rw [← hR] at K1
  rw [← hR2] at K2
  have hz : (bv by_ == 0) = false := bv_zero h
  obtain ⟨q, hq⟩ : ∃ q, q = (m == n) := ⟨_, rfl⟩
  have KS := Lib.hid (fun (a b : Option Addr) (c d : Nat) W (h1 : BytesAt W a R) (h2 : BytesAt W b R2) => (show Calls Tryd.prog 14 #[.slice a 16 c, .slice b 16 d] W (fun e w' => e = .returned (.bool q) ∧ W = w') from by
    have h3 := same01_any a b 16 c 16 d R R2 W HRl.out.symm HR2l.out.symm h1 h2
    have h4 : (R == R2) = q := by
      have h5 := rec_same (m := m) (n := n) (recOK_iff.2 ⟨by omega, by unfold lastN at hM2; omega⟩) (recOK_iff.2 ⟨by omega, by unfold lastN at hN2; omega⟩)
      rw [hq, ← h5, hR, hR2, (recX_ok (recOK_iff.2 ⟨by omega, by unfold lastN at hM2; omega⟩)).1, (recX_ok (recOK_iff.2 ⟨by omega, by unfold lastN at hN2; omega⟩)).1, hM, hN, Int.toNat_natCast, Int.toNat_natCast]
    rwa [h4] at h3))
  have hqq : (q == q) = true := by cases q <;> rfl
  have hmn : (m == n) = q := hq.symm
  have KG := Lib.hid (fun (a : Option Addr) (c : Nat) W (hb : Below w.heap.size w W) (hc : 16 ≤ c) (hcm : c ≤ maxLen) (h : BytesAt W a R) => (show Calls Tryd.prog 11 #[.slice a 16 c] W (fun e w' => e = .returned (.tuple #[.int .i64 m, .bool true]) ∧ Below W.heap.size W w') from by
    have h2 := good_any a c R (by rw [HRl.out]; exact hc) hcm W h (hk.mono hb)
    rw [HRl.out] at h2
    have hg : goodF R = M := by rw [hR]; exact goodF_rec hM1 hM2
    refine h2.mono fun e w' ⟨p, r⟩ => ⟨?_, r⟩
    rw [p, hg, decide_eq_true (show 0 < M from hM1), hM]))
  obtain ⟨I, hI⟩ : ∃ I, I = at_ % 16 := ⟨_, rfl⟩
  have hI16 : I < 16 := by omega
  have hm16 : ((at_ : Int)).tmod 16 = (I : Int) := by rw [Int.tmod_eq_emod_of_nonneg (by omega), hI]; exact (Int.natCast_emod _ _).symm
  have hwa : IntKind.i64.wrap (at_ : Int) = (at_ : Int) := by rw [IntKind.wrap_i64]; omega
  obtain ⟨x, hx⟩ : ∃ x, x = R.getD I 0 := ⟨_, rfl⟩
  have Hx := Lib.hid hx
  obtain ⟨C, hC⟩ : ∃ C, C = R.set I (x ^^^ by_) := ⟨_, rfl⟩
  have HCl := Lib.hid (show C.length = 16 by rw [hC, List.length_set, HRl.out])
  have HC := Lib.hid hC
  obtain ⟨s1, s2⟩ := spoilt_record M I by_ hM1 hM2 hI16 h C (by rw [hC, hx, hR])
  obtain ⟨gC, hgC⟩ : ∃ g, g = goodF C := ⟨_, rfl⟩
  obtain ⟨yes, hyes⟩ : ∃ y, y = decide (0 < goodF C) := ⟨_, rfl⟩
  have KC := Lib.hid (fun (a : Option Addr) (c : Nat) W (hb : Below w.heap.size w W) (hc : 16 ≤ c) (hcm : c ≤ maxLen) (h : BytesAt W a C) => (show Calls Tryd.prog 11 #[.slice a 16 c] W (fun e w' => e = .returned (.tuple #[.int .i64 gC, .bool yes]) ∧ Below W.heap.size W w') from by
    have h2 := good_any a c C (by rw [HCl.out]; exact hc) hcm W h (hk.mono hb)
    rw [HCl.out] at h2
    rw [hgC, hyes]; exact h2))
  obtain ⟨T, hT⟩ : ∃ T, T = yettB ++ C.take 8 := ⟨_, rfl⟩
  have hTl : T.length = 12 := by rw [hT, List.length_append, List.length_take, HCl.out]; rfl
  obtain ⟨D, hD⟩ : ∃ D, D = ofF T := ⟨_, rfl⟩
  have HO := Lib.hid (refOf_ok T D hTl hD)
  have HDl := Lib.hid (show D.length = 32 by rw [hD, ofF_length])
  have HT := Lib.hid hT
  have Hy1 := Lib.hid (show 8 ≤ I → yes = false from fun h8 => by rw [hyes, s1 h8]; rfl)
  have Hy2 := Lib.hid (show yes = true → D.take 8 = C.drop 8 from fun hy => by
    rw [hyes] at hy; rw [← s2 (of_decide_eq_true hy), hD, hT]; rfl)
  have HO0 := Lib.hid (own_none)
  have hi0 : (0 : Int) ≤ (I : Int) := by omega
  have hi1 : (I : Int) < 16 := by omega
  clear hk hR hR2 h hM hN hq hI hx hC s1 s2 hgC hyes hT hTl hD hM2 hN1 hN2
  go_enter Tryd.func5, Tryd.ntmps5
  go_upto_region 1 with (fail)
  generalize hW : World.alloc w _ = W
  have G := Lib.hid (show Below w.heap.size w W by rw [← hW]; exact ba w _)
  have hB : Blk W w.heap.size [.int .i64 m, .int .i64 n, .int .u8 at_, .int .u8 (bv by_)] := by rw [← hW]; exact Blk.new w [.int .i64 m, .int .i64 n, .int .u8 at_, .int .u8 (bv by_)] _
  have y0 : W.cell? ⟨w.heap.size, 0, none⟩ = some (.int .i64 m) := hB.cell 0 (by simp)
  have y1 : W.cell? ⟨w.heap.size, 1, none⟩ = some (.int .i64 n) := hB.cell 1 (by simp)
  have y2 : W.cell? ⟨w.heap.size, 2, none⟩ = some (.int .u8 at_) := hB.cell 2 (by simp)
  have y3 : W.cell? ⟨w.heap.size, 3, none⟩ = some (.int .u8 (bv by_)) := hB.cell 3 (by simp)
  clear hW hB
  go_wp2_with fail
  refine (Hsh.out _ G.out).mono ?_; rintro e w1 ⟨rfl, hb⟩
  replace G := Lib.hid (bt G.out hb)
  clear hb y0 y1 y2 y3
  go_wp2_with fail
  refine (K1.out _ G.out).mono ?_; rintro e w2 ⟨a2, c2, rfl, ho2⟩
  have A2 := Lib.hid ho2.at
  have hc2 := Lib.hid (show 16 ≤ c2 ∧ c2 ≤ maxLen by have h := ho2.buf.cap; rw [HRl.out] at h; exact h.2)
  replace G := Lib.hid (bt G.out ho2.bel)
  clear ho2
  go_wp2_with fail
  refine (K2.out _ G.out).mono ?_; rintro e w3 ⟨a3, c3, rfl, ho3⟩
  replace A2 := Lib.hid (A2.out.mono ho3.bel)
  have A3 := Lib.hid ho3.at
  replace G := Lib.hid (bt G.out ho3.bel)
  clear ho3
  go_wp2_with fail
  refine (KG.out a2 c2 _ G.out hc2.out.1 hc2.out.2 A2.out).mono ?_; rintro e w4 ⟨rfl, hb⟩
  replace A2 := Lib.hid (A2.out.mono hb)
  replace A3 := Lib.hid (A3.out.mono hb)
  replace G := Lib.hid (bt G.out hb)
  clear hb KG K1 K2 Hsh
  go_wp2_with (at_builtin; (refine wpList_ownR (.tmp 90) (.tmp 91) rfl rfl rfl (HO0.out w4) R rfl (A2.out.mono (ba w4 _)) HRl.out.symm (by decide) R rfl ?_; intro a5 c5 w5 h5; obtain ⟨g, rfl, hg, hc, hf, hset⟩ := ownSet h5 I (by rw [HRl.out]; exact hI16); (rw [← Hx.out] at hc); have Hset := Lib.hid (hset (x ^^^ by_)); have Hg := Lib.hid hg; have Hcap := Lib.hid h5.buf.cap; have H5b := Lib.hid (h5.bel); have hRl16 := HRl.out; (try rw [hRl16]); clear h5 hset hg hRl16))
  have Hcp := Lib.hid (show 16 ≤ c5 ∧ c5 ≤ maxLen by have h := Hcap.out; rw [HRl.out] at h; exact h.2)
  have hbs : Below w.heap.size w (w5.setCell ⟨g, I, none⟩ (.int .u8 (bv (x ^^^ by_)))) := (bt G.out H5b.out).setCell (Nat.le_trans G.out.size Hg.out) _
  have hb4 : Below w4.heap.size w4 (w5.setCell ⟨g, I, none⟩ (.int .u8 (bv (x ^^^ by_)))) := H5b.out.setCell Hg.out _
  have A5 := Lib.hid (show BytesAt (w5.setCell ⟨g, I, none⟩ (.int .u8 (bv (x ^^^ by_)))) (some ⟨g, 0, none⟩) C by rw [HC.out]; exact Hset.out)
  replace A2 := Lib.hid (A2.out.mono hb4)
  replace A3 := Lib.hid (A3.out.mono hb4)
  replace G := Lib.hid hbs
  clear hbs hb4 Hset Hg H5b hc hf Hcap
  generalize w5.setCell ⟨g, I, none⟩ (.int .u8 (bv (x ^^^ by_))) = w6 at A5 A2 A3 G ⊢
  refine (KC.out (some ⟨g, 0, none⟩) c5 _ G.out Hcp.out.1 Hcp.out.2 A5.out).mono ?_; rintro e w7 ⟨rfl, hb⟩
  replace A2 := Lib.hid (A2.out.mono hb)
  replace A3 := Lib.hid (A3.out.mono hb)
  replace A5 := Lib.hid (A5.out.mono hb)
  replace G := Lib.hid (bt G.out hb)
  clear hb KC
  have hcv := run_yett w7
  have hs0 : ∀ W, (Instr.sliceAt 22 (.slice (some ⟨g, 0, none⟩) 16 c5) none (some (.int .i64 8)) none).run Tryd.prog W = .ok (.slice (some ⟨g, 0, none⟩) 8 c5) W := fun W => run_head Tryd.underlying22 size_u8 W (some ⟨g, 0, none⟩) 16 c5 8 (by have := Hcp.out; omega)
  have hs1 : ∀ W, (Instr.sliceAt 22 (.slice (some ⟨g, 0, none⟩) 16 c5) (some (.int .i64 8)) none none).run Tryd.prog W = .ok (.slice (adv (some ⟨g, 0, none⟩) c5 8 1) 8 (c5 - 8)) W := fun W => run_tail Tryd.underlying22 size_u8 W (some ⟨g, 0, none⟩) 16 c5 8 (by decide)
  go_wp2_with (at_builtin; (refine wpList_grown (.tmp 111) (.tmp 113) rfl rfl yettB rfl rfl (at_yett w7) (by decide) (C.take 8) rfl ((BytesAt.take A5.out 8).mono (ba w7 _)) (by rw [List.length_take, HCl.out]; rfl) (by decide) (by decide) (by decide) T HT.out ?_; intro a8 c8 w8 h8; have H8 := Lib.hid h8; clear h8))
  have hb8 : Below w7.heap.size w7 w8 := bt (ba w7 _) H8.out.bel
  replace A2 := Lib.hid (A2.out.mono hb8)
  replace A3 := Lib.hid (A3.out.mono hb8)
  replace A5 := Lib.hid (A5.out.mono hb8)
  replace G := Lib.hid (bt G.out hb8)
  refine (HO.out a8 c8 w8 H8.out.at).mono ?_; rintro e w9 ⟨a9, c9, rfl, ⟨hc9, hm9⟩, hat9, hb9⟩
  replace A2 := Lib.hid (A2.out.mono hb9)
  replace A3 := Lib.hid (A3.out.mono hb9)
  replace A5 := Lib.hid (A5.out.mono hb9)
  replace G := Lib.hid (bt G.out hb9)
  have A9 := Lib.hid hat9
  have hs2 : ∀ W, (Instr.sliceAt 22 (.slice a9 32 c9) none (some (.int .i64 8)) none).run Tryd.prog W = .ok (.slice a9 8 c9) W := fun W => run_head Tryd.underlying22 size_u8 W a9 32 c9 8 (by omega)
  clear hb8 hb9 hat9 hcv hs0 H8 hc9 hm9
  have KD := Lib.hid (fun (hy : yes = true) W (h : Below w9.heap.size w9 W) => (show Calls Tryd.prog 14 #[.slice a9 8 c9, .slice (adv (some ⟨g, 0, none⟩) c5 8 1) 8 (c5 - 8)] W (fun e w' => e = .returned (.bool true) ∧ W = w') from by
    have h3 := same01_any a9 (adv (some ⟨g, 0, none⟩) c5 8 1) 8 c9 8 (c5 - 8) (D.take 8) (C.drop 8) W (by rw [List.length_take, HDl.out]; rfl) (by rw [List.length_drop, HCl.out]) ((BytesAt.take A9.out 8).mono h) ((BytesAt.adv A5.out HCl.out Hcp.out.1).mono h)
    rwa [Hy2.out hy, beq_self_eq_true] at h3))
  go_wp2_with fail
  go_cut [131] (fun v wx => v = .bool false ∧ Below w9.heap.size w9 wx)
  case first =>
    by_cases h8 : 8 ≤ I
    · have hy := Hy1.out h8
      have hd : (8 : Int) ≤ (I : Int) := by omega
      subst hy
      clear h8 Hy1 Hy2 KD
      go_quiet (fail)
      go_wp2_with fail
      go_meet
      exact ⟨rfl, btn (Below.refl _ _) _⟩
    · have hd : decide ((8 : Int) ≤ (I : Int)) = false := decide_eq_false (by omega)
      rcases yes with _ | _
      · clear h8 Hy1 Hy2 KD
        go_quiet (fail)
        go_wp2_with fail
        go_meet
        exact ⟨rfl, btn (Below.refl _ _) _⟩
      · have KE := Lib.hid (KD.out (by first | rfl | trivial))
        clear h8 Hy1 Hy2 KD
        go_quiet ((go_at_call 14; exact Calls.quiet_of_same ((KE.out _ (btn (Below.refl _ _) _)).mono fun e w' ⟨p, q⟩ => ⟨p, q.symm⟩)))
        go_wp2_with fail
        go_meet
        exact ⟨rfl, btn (Below.refl _ _) _⟩
  case rest =>
    obtain ⟨rfl, hbc⟩ := hcut
    replace A2 := Lib.hid (A2.out.mono hbc)
    replace A3 := Lib.hid (A3.out.mono hbc)
    replace G := Lib.hid (bt G.out hbc)
    clear hbc
    go_wp2_with fail
    refine (KS.out a2 a3 c2 c3 _ A2.out A3.out).mono ?_; rintro e w10 ⟨rfl, rfl⟩
    go_wp2_with fail
    go_ret
    exact ⟨rfl, G.out⟩
theorem slotRecords_in (hsh : Shown13OK) (w : World) (hk : KeysAt w) (m n at_ by_ : Int) (hm : (Lit.int .i64 m).wf = true) (hn : (Lit.int .i64 n).wf = true) (ha : (Lit.int .u8 at_).wf = true) (hb : (Lit.int .u8 by_).wf = true) :
    Calls Tryd.prog 5 #[.agg #[.int .i64 m, .int .i64 n, .int .u8 at_, .int .u8 by_]] w (BoolOut w true) := by
  obtain ⟨y, rfl⟩ := exists_bv hb
  simp [Lit.wf, IntKind.min, IntKind.max, IntKind.bits, IntKind.signed] at ha
  obtain ⟨k, rfl⟩ : ∃ k : Nat, at_ = k := ⟨at_.toNat, by omega⟩
  by_cases h1 : m < 1 ∨ 4611686018427387904 < m
  · exact records_a m n k y (by omega) w hk h1
  by_cases h2 : n < 1 ∨ 4611686018427387904 < n
  · exact records_b m n k y (by omega) w hk m.toNat (by omega) (by omega) (by unfold lastN; omega) h2
  by_cases h3 : y = 0
  · exact records_c m n k y (by omega) w hk m.toNat n.toNat (by omega) (by omega) (by unfold lastN; omega) (by omega) (by omega) (by unfold lastN; omega) h3
  · exact records_d m n k y (by omega) w hk m.toNat n.toNat (by omega) (by omega) (by unfold lastN; omega) (by omega) (by omega) (by unfold lastN; omega) h3
end Go.Proofs.YtiaigekmkmampaaDoor
