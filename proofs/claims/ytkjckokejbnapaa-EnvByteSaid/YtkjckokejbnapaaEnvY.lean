/- Envelopes: read, of the document. -/
import Derived.Test.YtkjckokejbnapaaEnvX
import Derived.Deep.RegionHeld3
set_option linter.unusedSimpArgs false
set_option linter.unusedVariables false
namespace Go.Proofs.Ytkjckokejbnapaa
open Go.RowKit

def tkF (l : List UInt8) (at_ z : Nat) : Int := if badT l at_ z then -1 else (numF l at_ z : Int)
set_option maxHeartbeats 400000 in
theorem tk_any (a : Option Addr) (c : Nat) (l : List UInt8) (at_ z : Nat) (ai zi : Int) (hai : ai = (at_ : Int)) (hzi : zi = (z : Int)) (hz : 1 ≤ z) (hz8 : z ≤ 8) (hat : at_ + z ≤ l.length) (hc : l.length ≤ c) (hc63 : c ≤ maxLen) (w : World) (h : BytesAt w a l) :
    Calls Try.prog 33 #[.slice a l.length c, .int .i64 ai, .int .i64 zi] w fun e w' => e = .returned (.int .i64 (tkF l at_ z)) ∧ w' = w := by
  subst hai; subst hzi
  have HT := Lib.hid (refTakeBig_any a c l at_ z hz hz8 hat hc hc63 w h)
  obtain ⟨V, hV⟩ : ∃ V, V = tkF l at_ z := ⟨_, rfl⟩
  rw [← hV]
  have HV := Lib.hid hV
  clear hV
  by_cases hb : badT l at_ z
  · have HT2 := Lib.hid (show Calls Try.prog 38 #[.slice a l.length c, .int .i64 at_, .int .i64 z] w (fun e w' => e = .returned (.tuple #[.int .i64 0, .int .i64 0, .int .i64 2]) ∧ w = w') from HT.out.mono fun e w' h => by
      have h' := h.1; rw [if_pos (show z = 8 ∧ 127 < (l.getD at_ 0).toNat from hb)] at h'; exact ⟨h', h.2⟩)
    have HV2 := Lib.hid (show V = -1 by rw [HV.out]; exact if_pos hb)
    clear HT HV hb h hz hz8 hat
    go_enter Try.func33, Try.ntmps33
    go_wp2_with fail
    refine HT2.out.mono ?_; rintro e w1 ⟨rfl, rfl⟩
    go_wp2_with fail
    go_ret
    exact ⟨by rw [HV2.out]; rfl, rfl⟩
  · have HT2 := Lib.hid (show Calls Try.prog 38 #[.slice a l.length c, .int .i64 at_, .int .i64 z] w (fun e w' => e = .returned (.tuple #[.int .i64 (numF l at_ z), .int .i64 ((at_ + z : Nat) : Int), .int .i64 0]) ∧ w = w') from HT.out.mono fun e w' h => by
      have h' := h.1; rw [if_neg (show ¬ (z = 8 ∧ 127 < (l.getD at_ 0).toNat) from hb)] at h'; exact ⟨h', h.2⟩)
    have HV2 := Lib.hid (show V = (numF l at_ z : Int) by rw [HV.out]; exact if_neg hb)
    clear HT HV hb h hz hz8 hat
    go_enter Try.func33, Try.ntmps33
    go_wp2_with fail
    refine HT2.out.mono ?_; rintro e w1 ⟨rfl, rfl⟩
    go_wp2_with fail
    go_ret
    exact ⟨by rw [HV2.out]; rfl, rfl⟩
theorem tk_right (l : List UInt8) (n m : Nat) : rightB (tkF l 0 1) (tkF l 1 1) (tkF l 2 8) (tkF l 10 8) (tkF l 18 4) (tkF l 22 8) n m = true ↔ goodR l ∧ rightB (numF l 0 1) (numF l 1 1) (numF l 2 8) (numF l 10 8) (numF l 18 4) (numF l 22 8) n m = true := by
  have e1 : tkF l 0 1 = (numF l 0 1 : Int) := if_neg (not_bad (by decide))
  have e2 : tkF l 1 1 = (numF l 1 1 : Int) := if_neg (not_bad (by decide))
  have e5 : tkF l 18 4 = (numF l 18 4 : Int) := if_neg (not_bad (by decide))
  constructor
  · intro h
    have hp := h
    unfold rightB at hp
    rw [Bool.and_eq_true] at hp
    obtain ⟨K, D, E0, E1, G, S, k1, k2, k3, k4, k5, k6, hM⟩ := parts_nat hp.1
    have key : ∀ at_ (N : Nat), tkF l at_ 8 = (N : Int) → ¬ badT l at_ 8 := fun at_ N h hb => by
      have : tkF l at_ 8 = -1 := if_pos hb
      omega
    have g3 := key _ _ k3
    have g4 := key _ _ k4
    have g6 := key _ _ k6
    refine ⟨⟨g3, g4, g6⟩, ?_⟩
    rw [e1, e2, e5, show tkF l 2 8 = (numF l 2 8 : Int) from if_neg g3, show tkF l 10 8 = (numF l 10 8 : Int) from if_neg g4, show tkF l 22 8 = (numF l 22 8 : Int) from if_neg g6] at h
    exact h
  · rintro ⟨⟨g3, g4, g6⟩, h⟩
    rw [e1, e2, e5, show tkF l 2 8 = (numF l 2 8 : Int) from if_neg g3, show tkF l 10 8 = (numF l 10 8 : Int) from if_neg g4, show tkF l 22 8 = (numF l 22 8 : Int) from if_neg g6]
    exact h

set_option maxRecDepth 100000 in
set_option maxHeartbeats 1000000 in
theorem refRead_short (a : Option Addr) (c : Nat) (l : List UInt8) (h : l.length < 47) (w : World) :
    Calls Try.prog 21 #[.slice a l.length c] w (NoEnv w 3) := by
  have hd : (l.length : Int) < 47 := by omega
  go_enter Try.func21, Try.ntmps21
  go_wp2_with fail
  refine bodyPost_ret (results_blk_tmp rfl _ _ w.heap.size (cs := zeroE) rfl _ rfl ?hb Try.underlying25 rfl env_size) rfl ?_
  case hb => exact Blk.new w zeroE 25
  exact ⟨rfl, ba w _⟩

set_option maxRecDepth 100000 in
set_option maxHeartbeats 1000000 in
theorem refRead_long (a : Option Addr) (c : Nat) (l : List UInt8) (h : 946 < l.length) (hm : l.length ≤ maxLen) (w : World) :
    Calls Try.prog 21 #[.slice a l.length c] w (NoEnv w 4) := by
  unfold maxLen at hm
  have hd : ¬ (l.length : Int) < 47 := by omega
  have hd2 : (946 : Int) < (l.length : Int) := by omega
  go_enter Try.func21, Try.ntmps21
  go_wp2_with fail
  refine bodyPost_ret (results_blk_tmp rfl _ _ w.heap.size (cs := zeroE) rfl _ rfl ?hb Try.underlying25 rfl env_size) rfl ?_
  case hb => exact Blk.new w zeroE 25
  exact ⟨rfl, ba w _⟩

theorem two_rd (w : World) (L M : List Value) : BlkT 25 ((w.alloc (.cells L.toArray 25)).alloc (.cells M.toArray 25)).drew w.heap.size L ∧ BlkT 25 ((w.alloc (.cells L.toArray 25)).alloc (.cells M.toArray 25)).drew (w.heap.size + 1) M ∧ Below w.heap.size w ((w.alloc (.cells L.toArray 25)).alloc (.cells M.toArray 25)).drew := by
  have k1 := BlkT.new (w.alloc (.cells L.toArray 25)) M 25
  rw [size_alloc] at k1
  exact ⟨((BlkT.new w L _).up (ba _ _)).up (bd _), k1.up (bd _), btd (bta (ba w _) _)⟩
theorem bd3 (w : World) (o : Obj) : Below w.heap.size w (w.alloc o).drew := bt (ba w o) (bd _)
theorem bd4 (w : World) (o p : Obj) : Below w.heap.size w ((w.alloc o).alloc p).drew := bt (bta (ba w o) _) (bd _)
set_option maxRecDepth 100000 in
set_option maxHeartbeats 2000000 in
theorem refRead_mid (a : Option Addr) (c : Nat) (l : List UInt8) (h1 : 47 ≤ l.length) (h2 : l.length ≤ 946) (hc : l.length ≤ c) (hcm : c ≤ maxLen) (w : World) (hl : BytesAt w a l) :
    Calls Try.prog 21 #[.slice a l.length c] w fun e w' => (readGood l → EnvOut w (numF l 0 1) (numF l 1 1) (numF l 2 8) (numF l 10 8) (numF l 18 4) (numF l 22 8) (bodyR l) (tagR l) e w') ∧ (¬ readGood l → NoEnv w 2 e w') := by
  have Hl := Lib.hid hl
  have Hc := Lib.hid (And.intro hc hcm)
  have i1 : ¬ (l.length : Int) < 47 := by omega
  have i2 : ¬ (946 : Int) < (l.length : Int) := by omega
  obtain ⟨P, hP⟩ : ∃ P, P = l.length - 16 := ⟨_, rfl⟩
  have hPi : (l.length : Int) - 16 = (P : Int) := by omega
  have hPw : IntKind.i64.wrap ((l.length : Int) - 16) = (P : Int) := by rw [hPi]; exact IntWalk.i64_in _ (by omega)
  have hs1 := fun W => run_adv_lh Try.underlying23 size_u8 W a l.length c 30 (P : Int) (by omega) (by omega) (by omega)
  have hs2 := fun W => run_adv_l Try.underlying23 size_u8 W a l.length c (P : Int) (by omega) (by omega)
  rw [show (P : Int).toNat - (30 : Int).toNat = (bodyR l).length by rw [bodyR_len]; omega, show (30 : Int).toNat = 30 from rfl] at hs1
  rw [show (P : Int).toNat = P from rfl, show l.length - P = (tagR l).length by rw [tagR_len l (by omega)]; omega] at hs2
  have HB1 := Lib.hid (show BytesAt w (adv a c 30 1) (bodyR l) from (BytesAt.adv (cap := c) (k := 30) Hl.out rfl Hc.out.1).take (l.length - 46))
  have HB2 := Lib.hid (show BytesAt w (adv a c P 1) (tagR l) from by have := BytesAt.adv (cap := c) (k := P) Hl.out rfl Hc.out.1; rwa [hP] at this ⊢)
  have hbl := bodyR_len l
  have htl := tagR_len l (by omega)
  have Hc1 := Lib.hid (show (bodyR l).length ≤ c - 30 ∧ c - 30 ≤ maxLen by omega)
  have Hc2 := Lib.hid (show (tagR l).length ≤ c - P ∧ c - P ≤ maxLen by omega)
  generalize adv a c 30 1 = x1 at hs1 HB1
  generalize adv a c P 1 = x2 at hs2 HB2
  generalize c - 30 = y1 at hs1 Hc1
  generalize c - P = y2 at hs2 Hc2
  have HR := Lib.hid (tk_right l (bodyR l).length (tagR l).length)
  have HRt := Lib.hid (fun W => refRight_any (tkF l 0 1) (tkF l 1 1) (tkF l 2 8) (tkF l 10 8) (tkF l 18 4) (tkF l 22 8) x1 x2 (bodyR l).length y1 (tagR l).length y2 (by omega) (by omega) W)
  have HI := Lib.hid env_size
  obtain ⟨t0, e0⟩ : ∃ t, t = tkF l 0 1 := ⟨_, rfl⟩
  obtain ⟨t1, e1⟩ : ∃ t, t = tkF l 1 1 := ⟨_, rfl⟩
  obtain ⟨t2, e2⟩ : ∃ t, t = tkF l 2 8 := ⟨_, rfl⟩
  obtain ⟨t3, e3⟩ : ∃ t, t = tkF l 10 8 := ⟨_, rfl⟩
  obtain ⟨t4, e4⟩ : ∃ t, t = tkF l 18 4 := ⟨_, rfl⟩
  obtain ⟨t5, e5⟩ : ∃ t, t = tkF l 22 8 := ⟨_, rfl⟩
  have T0 := Lib.hid (fun (W : World) (hb : Below w.heap.size w W) => (tk_any a c l 0 1 0 1 rfl rfl (by decide) (by decide) (by omega) Hc.out.1 Hc.out.2 W (hl.mono hb)))
  have T1 := Lib.hid (fun (W : World) (hb : Below w.heap.size w W) => (tk_any a c l 1 1 1 1 rfl rfl (by decide) (by decide) (by omega) Hc.out.1 Hc.out.2 W (hl.mono hb)))
  have T2 := Lib.hid (fun (W : World) (hb : Below w.heap.size w W) => (tk_any a c l 2 8 2 8 rfl rfl (by decide) (by decide) (by omega) Hc.out.1 Hc.out.2 W (hl.mono hb)))
  have T3 := Lib.hid (fun (W : World) (hb : Below w.heap.size w W) => (tk_any a c l 10 8 10 8 rfl rfl (by decide) (by decide) (by omega) Hc.out.1 Hc.out.2 W (hl.mono hb)))
  have T4 := Lib.hid (fun (W : World) (hb : Below w.heap.size w W) => (tk_any a c l 18 4 18 4 rfl rfl (by decide) (by decide) (by omega) Hc.out.1 Hc.out.2 W (hl.mono hb)))
  have T5 := Lib.hid (fun (W : World) (hb : Below w.heap.size w W) => (tk_any a c l 22 8 22 8 rfl rfl (by decide) (by decide) (by omega) Hc.out.1 Hc.out.2 W (hl.mono hb)))
  rw [← e0] at T0 HR HRt
  rw [← e1] at T1 HR HRt
  rw [← e2] at T2 HR HRt
  rw [← e3] at T3 HR HRt
  rw [← e4] at T4 HR HRt
  rw [← e5] at T5 HR HRt
  have Hlen := Lib.hid (And.intro hbl htl)
  have Het := Lib.hid (show goodR l → t0 = (numF l 0 1 : Int) ∧ t1 = (numF l 1 1 : Int) ∧ t2 = (numF l 2 8 : Int) ∧ t3 = (numF l 10 8 : Int) ∧ t4 = (numF l 18 4 : Int) ∧ t5 = (numF l 22 8 : Int) from fun g => ⟨by rw [e0]; exact if_neg (not_bad (by decide)), by rw [e1]; exact if_neg (not_bad (by decide)), by rw [e2]; exact if_neg g.1, by rw [e3]; exact if_neg g.2.1, by rw [e4]; exact if_neg (not_bad (by decide)), by rw [e5]; exact if_neg g.2.2⟩)
  clear hl hc hcm hP hPi hbl htl e0 e1 e2 e3 e4 e5
  go_enter Try.func21, Try.ntmps21
  go_upto_region 6 with (fail)
  go_cut [5] (fun v5 wx => v5 = .pointer (some ⟨w.heap.size + 1, 0, none⟩) ∧ BlkT 25 wx w.heap.size zeroE ∧ BlkT 25 wx (w.heap.size + 1) (envL t0 t1 t2 t3 t4 t5 (.slice x1 (bodyR l).length y1) (.slice x2 (tagR l).length y2)) ∧ Below w.heap.size w wx)
  case first =>
    go_region_held3 (fun w' => True) (trivial) (first
      | (go_at_call 33; (with_reducible refine Calls.mono (T0.out _ (by first | exact bd3 _ _ | exact bd4 _ _ _)) ?_); rintro e w1 ⟨rfl, rfl⟩)
      | (go_at_call 33; (with_reducible refine Calls.mono (T1.out _ (by first | exact bd3 _ _ | exact bd4 _ _ _)) ?_); rintro e w1 ⟨rfl, rfl⟩)
      | (go_at_call 33; (with_reducible refine Calls.mono (T2.out _ (by first | exact bd3 _ _ | exact bd4 _ _ _)) ?_); rintro e w1 ⟨rfl, rfl⟩)
      | (go_at_call 33; (with_reducible refine Calls.mono (T3.out _ (by first | exact bd3 _ _ | exact bd4 _ _ _)) ?_); rintro e w1 ⟨rfl, rfl⟩)
      | (go_at_call 33; (with_reducible refine Calls.mono (T4.out _ (by first | exact bd3 _ _ | exact bd4 _ _ _)) ?_); rintro e w1 ⟨rfl, rfl⟩)
      | (go_at_call 33; (with_reducible refine Calls.mono (T5.out _ (by first | exact bd3 _ _ | exact bd4 _ _ _)) ?_); rintro e w1 ⟨rfl, rfl⟩))
    all_goals
      go_wp2_with fail
      go_meet
      exact ⟨rfl, (two_rd w _ _).1, (two_rd w _ _).2.1, (two_rd w _ _).2.2⟩
  case rest =>
    obtain ⟨rfl, hR, hE, hb⟩ := hcut
    generalize w.heap.size + 1 = be at hE ⊢
    have R0 := Lib.hid hR
    have E0 := Lib.hid hE
    have B0 := Lib.hid hb
    clear hR hE hb hs1 hs2 hPw T0 T1 T2 T3 T4 T5 i1 i2
    go_wp2_with (first | (refine wpList_load_blk 25 (.tmp 5) be (cs := envL t0 t1 t2 t3 t4 t5 (.slice x1 (bodyR l).length y1) (.slice x2 (tagR l).length y2)) rfl rfl rfl ?hb Try.underlying25 rfl HI.out ?_; (case hb => exact E0.out.blk)))
    refine (HRt.out _).mono ?_; rintro e w10 ⟨rfl, hb10⟩
    have R1 := Lib.hid (R0.out.up hb10)
    have E1 := Lib.hid (E0.out.up hb10)
    have B1 := Lib.hid (bt B0.out hb10)
    have Hrb : w.heap.size ≤ w.heap.size := Nat.le_refl _
    clear hb10 R0 E0 B0 HRt
    rcases hrt : rightB t0 t1 t2 t3 t4 t5 (bodyR l).length (tagR l).length with _ | _
    · have Hno := Lib.hid (show ¬ readGood l from fun h => by
        have e := HR.out.2 ⟨h.1, by have := h.2; rwa [← Hlen.out.1, ← Hlen.out.2] at this⟩
        rw [hrt] at e; exact Bool.noConfusion e)
      clear HR
      go_wp2_with (first | (refine wpList_store_blk 25 (.tmp 2) (.tmp 42) w.heap.size (old := zeroE) (cs := zeroE) rfl rfl rfl rfl ?hb HI.out rfl rfl ?_; (case hb => exact R1.out.blk)))
      refine bodyPost_ret (results_blk_tmp rfl _ _ w.heap.size (cs := zeroE) rfl _ rfl ?hb Try.underlying25 rfl env_size) rfl ?_
      case hb => exact (R1.out.row zeroE).blk
      exact ⟨fun h => (Hno.out h).elim, fun _ => ⟨rfl, below_setRow B1.out Hrb _⟩⟩
    · have Hyes := Lib.hid (HR.out.1 hrt)
      clear HR
      go_wp2_with (first
        | (refine wpList_load_blk 25 (.tmp 5) be (cs := envL t0 t1 t2 t3 t4 t5 (.slice x1 (bodyR l).length y1) (.slice x2 (tagR l).length y2)) rfl rfl rfl ?hb Try.underlying25 rfl HI.out ?_; (case hb => exact E1.out.blk))
        | (refine wpList_store_blk 25 (.tmp 2) (.tmp 43) w.heap.size (old := zeroE) (cs := envL t0 t1 t2 t3 t4 t5 (.slice x1 (bodyR l).length y1) (.slice x2 (tagR l).length y2)) rfl rfl rfl rfl ?hb HI.out rfl rfl ?_; (case hb => exact R1.out.blk)))
      refine bodyPost_ret (results_blk_tmp rfl _ _ w.heap.size (cs := envL t0 t1 t2 t3 t4 t5 (.slice x1 (bodyR l).length y1) (.slice x2 (tagR l).length y2)) rfl _ rfl ?hb Try.underlying25 rfl env_size) rfl ?_
      case hb => exact (R1.out.row _).blk
      have hg := Hyes.out
      refine ⟨fun _ => ⟨x1, y1, x2, y2, ?_, Hc1.out.1, Hc1.out.2, Hc2.out.1, Hc2.out.2, HB1.out.mono (below_setRow B1.out Hrb _), HB2.out.mono (below_setRow B1.out Hrb _), below_setRow B1.out Hrb _⟩, fun h => (h ⟨hg.1, by have e := hg.2; rwa [Hlen.out.1, Hlen.out.2] at e⟩).elim⟩
      have g := hg.1
      obtain ⟨q0, q1, q2, q3, q4, q5⟩ := Het.out g
      rw [← q0, ← q1, ← q2, ← q3, ← q4, ← q5]; rfl
end Go.Proofs.Ytkjckokejbnapaa
