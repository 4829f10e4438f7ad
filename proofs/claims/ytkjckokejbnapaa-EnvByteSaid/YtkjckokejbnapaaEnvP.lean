/- Envelopes: read, of the program: the walk. -/
import Derived.Test.YtkjckokejbnapaaEnvO
set_option linter.unusedSimpArgs false
set_option linter.unusedVariables false
namespace Go.Proofs.Ytkjckokejbnapaa
open Go.RowKit

def bodyR (l : List UInt8) : List UInt8 := (l.drop 30).take (l.length - 46)
def tagR (l : List UInt8) : List UInt8 := l.drop (l.length - 16)
theorem bodyR_len (l : List UInt8) : (bodyR l).length = l.length - 46 := by unfold bodyR; rw [List.length_take, List.length_drop]; omega
theorem tagR_len (l : List UInt8) (h : 16 ≤ l.length) : (tagR l).length = 16 := by unfold tagR; rw [List.length_drop]; omega
/-- an envelope that was read -/
def EnvOut (w : World) (k d e0 e1 g s : Int) (bl tl : List UInt8) (e : Ending) (w' : World) : Prop :=
  ∃ a1 c1 a2 c2, e = .returned (.tuple #[envV k d e0 e1 g s (.slice a1 bl.length c1) (.slice a2 tl.length c2), .int .i64 0]) ∧ bl.length ≤ c1 ∧ c1 ≤ maxLen ∧ tl.length ≤ c2 ∧ c2 ≤ maxLen ∧ BytesAt w' a1 bl ∧ BytesAt w' a2 tl ∧ Below w.heap.size w w'
def readGood (l : List UInt8) : Prop := goodR l ∧ rightB (numF l 0 1) (numF l 1 1) (numF l 2 8) (numF l 10 8) (numF l 18 4) (numF l 22 8) (l.length - 46) 16 = true

set_option maxRecDepth 100000 in
set_option maxHeartbeats 2000000 in
theorem read_mid (a : Option Addr) (c : Nat) (l : List UInt8) (h1 : 47 ≤ l.length) (h2 : l.length ≤ 946) (hc : l.length ≤ c) (hcm : c ≤ maxLen) (w : World) (hl : BytesAt w a l) :
    Calls Try.prog 20 #[.slice a l.length c] w fun e w' => (readGood l → EnvOut w (numF l 0 1) (numF l 1 1) (numF l 2 8) (numF l 10 8) (numF l 18 4) (numF l 22 8) (bodyR l) (tagR l) e w') ∧ (¬ readGood l → NoEnv w 2 e w') := by
  have Hl := Lib.hid hl
  have Hc := Lib.hid (And.intro hc hcm)
  have i1 : ¬ (l.length : Int) < 47 := by omega
  have i2 : ¬ (946 : Int) < (l.length : Int) := by omega
  clear hl hc hcm
  go_enter Try.func20, Try.ntmps20
  go_upto_region 8 with (fail)
  generalize hW : World.alloc (World.alloc (World.alloc (World.alloc (World.alloc w _) _) _) _) _ = W
  have hR0 : ReadAt w (w.heap.size + 1) (w.heap.size + 1 + 1) (w.heap.size + 1 + 1 + 1) (w.heap.size + 1 + 1 + 1 + 1) a l c W ⟨0, true, zeroE⟩ := by
    rw [← hW]
    have s1 := size_alloc w (.cells #[.slice a l.length c] 23)
    have k0 := BlkT.new w [.slice a l.length c] 23
    have k1 := BlkT.new (w.alloc (.cells #[.slice a l.length c] 23)) zeroE 25
    rw [s1] at k1
    have s2 := size_alloc (w.alloc (.cells #[.slice a l.length c] 23)) (.cells zeroE.toArray 25)
    rw [s1] at s2
    have k2 := BlkT.new ((w.alloc (.cells #[.slice a l.length c] 23)).alloc (.cells zeroE.toArray 25)) [.int .i64 0] 3
    rw [s2] at k2
    have s3 := size_alloc ((w.alloc (.cells #[.slice a l.length c] 23)).alloc (.cells zeroE.toArray 25)) (.cells [.int .i64 0].toArray 3)
    rw [s2] at s3
    have k3 := BlkT.new (((w.alloc (.cells #[.slice a l.length c] 23)).alloc (.cells zeroE.toArray 25)).alloc (.cells [.int .i64 0].toArray 3)) [.bool true] 4
    rw [s3] at k3
    have s4 := size_alloc (((w.alloc (.cells #[.slice a l.length c] 23)).alloc (.cells zeroE.toArray 25)).alloc (.cells [.int .i64 0].toArray 3)) (.cells [.bool true].toArray 4)
    rw [s3] at s4
    have k4 := BlkT.new ((((w.alloc (.cells #[.slice a l.length c] 23)).alloc (.cells zeroE.toArray 25)).alloc (.cells [.int .i64 0].toArray 3)).alloc (.cells [.bool true].toArray 4)) zeroE 25
    rw [s4] at k4
    exact ⟨⟨(k2.up (ba _ _)).up (ba _ _), k3.up (ba _ _), k4, bta (bta (bta (bta (ba w _) _) _) _) _⟩, (((k0.up (ba _ _)).up (ba _ _)).up (ba _ _)).up (ba _ _), ((k1.up (ba _ _)).up (ba _ _)).up (ba _ _)⟩
  clear hW
  have hr : RB w (w.heap.size + 1) (w.heap.size + 1 + 1) (w.heap.size + 1 + 1 + 1) (w.heap.size + 1 + 1 + 1 + 1) := ⟨rfl, rfl, rfl, rfl⟩
  generalize w.heap.size + 1 + 1 + 1 + 1 = be at hr hR0 ⊢
  generalize w.heap.size + 1 + 1 + 1 = bo at hr hR0 ⊢
  generalize w.heap.size + 1 + 1 = bc at hr hR0 ⊢
  generalize w.heap.size + 1 = rb at hr hR0 ⊢
  have Hr := Lib.hid hr
  clear hr
  obtain ⟨T1, hT1⟩ : ∃ T1, T1 = truns l 1 ⟨0, true, zeroE⟩ [0, 1] := ⟨_, rfl⟩
  have L1 : T1.L.length = 8 := by rw [hT1, truns_len]; rfl
  have A1 : T1.at_ ≤ 2 := by rw [hT1]; exact truns_at l 1 ⟨0, true, zeroE⟩ [0, 1]
  have H1 := Lib.hid (take_step 1 1 rfl (by decide) (by decide) [0, 1] (by decide) 2 rfl (by decide) 2 a c l Hc.out.1 Hc.out.2 ⟨0, true, zeroE⟩ rfl (by show 0 + 1 * 2 ≤ _; omega) w W rb bc bo be Hr.out Hl.out hR0 #[ptrV be 0, ptrV be 1] rfl)
  rw [← hT1] at H1
  go_wp2_with fail
  refine H1.out.mono ?_; rintro e w2 ⟨rfl, R2⟩
  obtain ⟨T2, hT2⟩ : ∃ T2, T2 = truns l 8 T1 [2, 3] := ⟨_, rfl⟩
  have L2 : T2.L.length = 8 := by rw [hT2, truns_len, L1]
  have A2 : T2.at_ ≤ 18 := by rw [hT2]; have := truns_at l 8 T1 [2, 3]; simp at this; omega
  have H2 := Lib.hid (take_step 8 8 rfl (by decide) (by decide) [2, 3] (by decide) 2 rfl (by decide) 2 a c l Hc.out.1 Hc.out.2 T1 L1 (by simp; omega) w w2 rb bc bo be Hr.out Hl.out R2 #[ptrV be 2, ptrV be 3] rfl)
  rw [← hT2] at H2
  clear H1 hR0 R2
  go_wp2_with fail
  refine H2.out.mono ?_; rintro e w3 ⟨rfl, R3⟩
  obtain ⟨T3, hT3⟩ : ∃ T3, T3 = truns l 4 T2 [4] := ⟨_, rfl⟩
  have L3 : T3.L.length = 8 := by rw [hT3, truns_len, L2]
  have A3 : T3.at_ ≤ 22 := by rw [hT3]; have := truns_at l 4 T2 [4]; simp at this; omega
  have H3 := Lib.hid (take_step 4 4 rfl (by decide) (by decide) [4] (by decide) 1 rfl (by decide) 1 a c l Hc.out.1 Hc.out.2 T2 L2 (by simp; omega) w w3 rb bc bo be Hr.out Hl.out R3 #[ptrV be 4] rfl)
  rw [← hT3] at H3
  clear H2 R3
  go_wp2_with fail
  refine H3.out.mono ?_; rintro e w4 ⟨rfl, R4⟩
  have H4 := Lib.hid (take_step 8 8 rfl (by decide) (by decide) [5] (by decide) 1 rfl (by decide) 1 a c l Hc.out.1 Hc.out.2 T3 L3 (by simp; omega) w w4 rb bc bo be Hr.out Hl.out R4 #[ptrV be 5] rfl)
  rw [show truns l 8 T3 [5] = takenR l by rw [hT3, hT2, hT1]; rfl] at H4
  clear H3 R4
  go_wp2_with fail
  refine H4.out.mono ?_; rintro e w5 ⟨rfl, R5⟩
  have hTL := takenR_len l
  have HTg := Lib.hid (@takenR_good l)
  have HTb := Lib.hid (@takenR_bad l)
  generalize takenR l = T at R5 hTL HTg HTb
  obtain ⟨at_, ok, L⟩ := T
  obtain ⟨⟨hA, hO, hE, hb⟩, hB, hR⟩ := R5
  simp only at hA hO hE hTL HTg HTb
  obtain ⟨P, hP⟩ : ∃ P, P = l.length - 16 := ⟨_, rfl⟩
  have hPi : (l.length : Int) - 16 = (P : Int) := by omega
  have hs1 := fun W => run_adv_lh Try.underlying23 size_u8 W a l.length c 30 (P : Int) (by omega) (by omega) (by have := Hc.out.1; omega)
  have hs2 := fun W => run_adv_l Try.underlying23 size_u8 W a l.length c (P : Int) (by omega) (by omega)
  rw [show (P : Int).toNat - (30 : Int).toNat = (bodyR l).length by rw [bodyR_len]; omega, show (30 : Int).toNat = 30 from rfl] at hs1
  rw [show (P : Int).toNat = P from rfl, show l.length - P = (tagR l).length by rw [tagR_len l (by omega)]; omega] at hs2
  have HB1 := Lib.hid (show BytesAt w (adv a c 30 1) (bodyR l) from (BytesAt.adv (cap := c) (k := 30) Hl.out rfl Hc.out.1).take (l.length - 46))
  have HB2 := Lib.hid (show BytesAt w (adv a c P 1) (tagR l) from by have := BytesAt.adv (cap := c) (k := P) Hl.out rfl Hc.out.1; rwa [hP] at this ⊢)
  have hbl := bodyR_len l
  have htl := tagR_len l (by omega)
  have HBl := Lib.hid hbl
  have HTl := Lib.hid htl
  generalize adv a c 30 1 = x1 at hs1 HB1
  generalize adv a c P 1 = x2 at hs2 HB2
  generalize c - 30 = y1 at hs1
  generalize c - P = y2 at hs2
  have HC1 := Lib.hid (fun (W : World) (h : Below w.heap.size w W) => clone_any x1 y1 (bodyR l) W (by omega) (HB1.out.mono h))
  have HC2 := Lib.hid (fun (W : World) (h : Below w.heap.size w W) => clone_any x2 y2 (tagR l) W (by omega) (HB2.out.mono h))
  have Hb5 := Lib.hid hb
  have HE5 := Lib.hid hE
  have HO5 := Lib.hid hO
  have HBb5 := Lib.hid hB
  have HR5 := Lib.hid hR
  have q0 : w5.cell? ⟨w.heap.size, 0, none⟩ = some (.slice a l.length c) := hB.blk.cell 0 (by simp)
  have hgood := Lib.hid hTL
  clear hbl htl hb hE hO hB hR hA H4 A1 A2 A3 L1 L2 L3 hT1 hT2 hT3 HB1 HB2 hP hTL
  go_wp2_with fail
  refine (HC1.out _ Hb5.out).mono ?_; rintro e w6 ⟨a6, c6, rfl, B6⟩
  have hc6 := B6.cap
  have E6 := HE5.out.up B6.bel
  have hbe := HE5.out.blk.lt
  have b6 := bt Hb5.out B6.bel
  have O6 : OwnB w5.heap.size w6 (.slice a6 (bodyR l).length c6) (bodyR l).length (B8s (bodyR l)) := ⟨B6.own, B6.bel.size⟩
  have r6 := HR5.out.up B6.bel
  have o6 := HO5.out.up B6.bel
  have p6 := HBb5.out.up B6.bel
  have k6 := E6.blk.cell 6 (by rw [hgood.out]; decide)
  have f6 := E6.blk.frozen
  have n1 : w.heap.size ≠ be := by have := Hr.out.e; omega
  have n2 : rb ≠ be := by have := Hr.out.e; have := Hr.out.r; omega
  have n3 : bo ≠ be := by have := Hr.out.e; have := Hr.out.o; omega
  have n4 : w.heap.size ≤ be := by have := Hr.out.e; omega
  go_upto_region 14 with (fail)
  generalize hW7 : World.setCell w6 _ _ = W7
  have E7 : BlkT 25 W7 be (L.set 6 (.slice a6 (bodyR l).length c6)) := by rw [← hW7]; exact E6.set 6 _
  have p7 : BlkT 23 W7 w.heap.size [.slice a l.length c] := by rw [← hW7]; exact p6.other n1 _
  have r7 : BlkT 25 W7 rb zeroE := by rw [← hW7]; exact r6.other n2 _
  have o7 : BlkT 4 W7 bo [.bool ok] := by rw [← hW7]; exact o6.other n3 _
  have O7 : OwnB w5.heap.size W7 (.slice a6 (bodyR l).length c6) (bodyR l).length (B8s (bodyR l)) := by rw [← hW7]; exact O6.cellset E6 (by decide) _
  have b7 : Below w.heap.size w W7 := by rw [← hW7]; exact b6.setCell n4 _
  clear hW7 E6 p6 r6 o6 O6 b6 k6 f6 q0 B6 HC1
  have q7 : W7.cell? ⟨w.heap.size, 0, none⟩ = some (.slice a l.length c) := p7.blk.cell 0 (by simp)
  go_wp2_with fail
  refine (HC2.out _ b7).mono ?_; rintro e w8 ⟨a8, c8, rfl, Bt⟩
  have hc8 := Bt.cap
  have E8 := E7.up Bt.bel
  have hbe8 := E7.blk.lt
  have b8 := bt b7 Bt.bel
  have T8 : OwnB W7.heap.size w8 (.slice a8 (tagR l).length c8) (tagR l).length (B8s (tagR l)) := ⟨Bt.own, Bt.bel.size⟩
  have O8 := O7.up Bt.bel
  have r8 := r7.up Bt.bel
  have o8 := o7.up Bt.bel
  have k8 := E8.blk.cell 7 (by rw [List.length_set, hgood.out]; decide)
  have f8 := E8.blk.frozen
  clear E7 p7 r7 o7 O7 b7 q7 Bt HC2
  go_upto_region 15 with (fail)
  generalize hW9 : World.setCell w8 _ _ = W9
  have E9 : BlkT 25 W9 be ((L.set 6 (.slice a6 (bodyR l).length c6)).set 7 (.slice a8 (tagR l).length c8)) := by rw [← hW9]; exact E8.set 7 _
  have r9 := Lib.hid (show BlkT 25 W9 rb zeroE by rw [← hW9]; exact r8.other n2 _)
  have o9 : BlkT 4 W9 bo [.bool ok] := by rw [← hW9]; exact o8.other n3 _
  have O9 := Lib.hid (show OwnB w5.heap.size W9 (.slice a6 (bodyR l).length c6) (bodyR l).length (B8s (bodyR l)) by rw [← hW9]; exact O8.cellset E8 (by decide) _)
  have T9 := Lib.hid (show OwnB W7.heap.size W9 (.slice a8 (tagR l).length c8) (tagR l).length (B8s (tagR l)) by rw [← hW9]; exact T8.cellset E8 (by decide) _)
  have b9 := Lib.hid (show Below w.heap.size w W9 by rw [← hW9]; exact b8.setCell n4 _)
  clear hW9 E8 r8 o8 O8 T8 b8 k8 f8
  have HIr := Lib.hid env_size
  have hrb : w.heap.size ≤ rb := by have := Hr.out.r; omega
  by_cases hg : goodR l
  · have hT := HTg.out hg
    rw [TS.mk.injEq] at hT
    obtain ⟨-, rfl, rfl⟩ := hT
    have E9' : BlkT 25 W9 be (envL (numF l 0 1) (numF l 1 1) (numF l 2 8) (numF l 10 8) (numF l 18 4) (numF l 22 8) (.slice a6 (bodyR l).length c6) (.slice a8 (tagR l).length c8)) := E9
    have oc : W9.cell? ⟨bo, 0, none⟩ = some (.bool true) := o9.blk.cell 0 (by simp)
    clear E9 o9 HTg HTb
    obtain ⟨c0, c1, c2, c3, c4, c5, cc6, cc7⟩ := env_cells E9'.blk
    have HRt := Lib.hid (fun W => right_any (numF l 0 1) (numF l 1 1) (numF l 2 8) (numF l 10 8) (numF l 18 4) (numF l 22 8) a6 a8 (bodyR l).length c6 (tagR l).length c8 (by omega) (by omega) W)
    rcases hrt : rightB (numF l 0 1) (numF l 1 1) (numF l 2 8) (numF l 10 8) (numF l 18 4) (numF l 22 8) (bodyR l).length (tagR l).length with _ | _
    · rw [hrt] at HRt
      go_wp2_with fail
      refine (HRt.out _).mono ?_; rintro e w10 ⟨rfl, hb10⟩
      have r10 := Lib.hid (r9.out.up hb10)
      have b10 := Lib.hid (bt b9.out hb10)
      clear hb10
      go_wp2_with (first | (refine wpList_store_blk 25 (.tmp 2) (.tmp 60) rb (old := zeroE) (cs := zeroE) rfl rfl rfl rfl ?hb HIr.out rfl rfl ?_; (case hb => exact r10.out.blk)))
      refine bodyPost_ret (results_blk_tmp rfl _ _ rb (cs := zeroE) rfl _ rfl ?hb Try.underlying25 rfl env_size) rfl ?_
      case hb => exact (r10.out.row zeroE).blk
      refine ⟨fun h => ?_, fun _ => ⟨rfl, below_setRow b10.out hrb _⟩⟩
      have e := hrt
      rw [HBl.out, HTl.out, h.2] at e
      exact Bool.noConfusion e
    · rw [hrt] at HRt
      go_wp2_with fail
      refine (HRt.out _).mono ?_; rintro e w10 ⟨rfl, hb10⟩
      have r10 := Lib.hid (r9.out.up hb10)
      have b10 := Lib.hid (bt b9.out hb10)
      have E10 := Lib.hid (E9'.up hb10)
      have O10 := Lib.hid (O9.out.up hb10)
      have T10 := Lib.hid (T9.out.up hb10)
      clear hb10 c0 c1 c2 c3 c4 c5 cc6 cc7 E9'
      go_wp2_with (first
        | (refine wpList_load_blk 25 (.tmp 7) be (cs := envL (numF l 0 1) (numF l 1 1) (numF l 2 8) (numF l 10 8) (numF l 18 4) (numF l 22 8) (.slice a6 (bodyR l).length c6) (.slice a8 (tagR l).length c8)) rfl rfl rfl ?hb Try.underlying25 rfl HIr.out ?_; (case hb => exact E10.out.blk))
        | (refine wpList_store_blk 25 (.tmp 2) (.tmp 61) rb (old := zeroE) (cs := envL (numF l 0 1) (numF l 1 1) (numF l 2 8) (numF l 10 8) (numF l 18 4) (numF l 22 8) (.slice a6 (bodyR l).length c6) (.slice a8 (tagR l).length c8)) rfl rfl rfl rfl ?hb HIr.out rfl rfl ?_; (case hb => exact r10.out.blk)))
      refine bodyPost_ret (results_blk_tmp rfl _ _ rb (cs := envL (numF l 0 1) (numF l 1 1) (numF l 2 8) (numF l 10 8) (numF l 18 4) (numF l 22 8) (.slice a6 (bodyR l).length c6) (.slice a8 (tagR l).length c8)) rfl _ rfl ?hb Try.underlying25 rfl env_size) rfl ?_
      case hb => exact (r10.out.row _).blk
      exact ⟨fun _ => ⟨a6, c6, a8, c8, rfl, hc6.2.1, hc6.2.2, hc8.2.1, hc8.2.2, (O10.out.row r10.out (by decide) _).at, (T10.out.row r10.out (by decide) _).at, below_setRow b10.out hrb _⟩, fun h => (h ⟨hg, by have e := hrt; rwa [HBl.out, HTl.out] at e⟩).elim⟩
  · have hok : ok = false := HTb.out hg
    subst hok
    have oc : W9.cell? ⟨bo, 0, none⟩ = some (.bool false) := o9.blk.cell 0 (by simp)
    clear E9 o9 HTg HTb
    go_wp2_with (first | (refine wpList_store_blk 25 (.tmp 2) (.tmp 60) rb (old := zeroE) (cs := zeroE) rfl rfl rfl rfl ?hb HIr.out rfl rfl ?_; (case hb => exact r9.out.blk)))
    refine bodyPost_ret (results_blk_tmp rfl _ _ rb (cs := zeroE) rfl _ rfl ?hb Try.underlying25 rfl env_size) rfl ?_
    case hb => exact (r9.out.row zeroE).blk
    exact ⟨fun h => (hg h.1).elim, fun _ => ⟨rfl, below_setRow b9.out hrb _⟩⟩
end Go.Proofs.Ytkjckokejbnapaa
