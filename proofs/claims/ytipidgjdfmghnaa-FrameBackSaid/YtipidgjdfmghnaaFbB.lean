/- The walk of the law FrameBack. -/
import Derived.Test.YtipidgjdfmghnaaFbA
import Derived.Test.YtipidgjdfmghnaaFrY
import Derived.Deep.DeepCutAuto
import Derived.Deep.RegionHeld3
set_option linter.unusedSimpArgs false
set_option linter.unusedVariables false
namespace Go.Proofs.Ytipidgjdfmghnaa
open Go.RowKit

/-- the loop's state behind so many rows -/
def PbAt (w wx : World) (rows : List (List UInt8)) (v6 v7 v8 : Value) : Prop :=
  ∃ (k : Nat) (aa : Option Addr) (ac : Nat) (oa : Option Addr) (oc : Nat) (vs : List Value), k ≤ rows.length ∧ v8 = .int .i64 (k : Int) ∧ v6 = .slice aa (allR (rows.take k)).length ac ∧ v7 = .slice oa (goodR (rows.take k)).length oc ∧
    OwnB w.heap.size wx v6 (allR (rows.take k)).length (B8s (allR (rows.take k))) ∧ Own w.heap.size wx v7 (goodR (rows.take k)).length vs ∧ RowsOf w vs (goodR (rows.take k)) ∧ Below w.heap.size w wx
theorem PbAt.mk' {w wx : World} {rows : List (List UInt8)} {aa oa : Option Addr} {ac oc n m : Nat} {vs : List Value} {A : List UInt8} {G : List (List UInt8)} (k : Nat) (hk : k ≤ rows.length) (hG : goodR (rows.take k) = G) (hA : allR (rows.take k) = A) (hn : n = A.length) (hm : m = G.length)
    (h1 : OwnB w.heap.size wx (.slice aa n ac) n (B8s A)) (h2 : Own w.heap.size wx (.slice oa m oc) m vs) (h3 : RowsOf w vs G) (h4 : Below w.heap.size w wx) : PbAt w wx rows (.slice aa n ac) (.slice oa m oc) (.int .i64 (k : Int)) := by
  subst hG hA hn hm
  exact ⟨k, aa, ac, oa, oc, vs, hk, rfl, rfl, rfl, h1, h2, h3, h4⟩
theorem capB {B n cap : Nat} {w : World} {a : Option Addr} {xs : List Value} (h : OwnB B w (.slice a n cap) n xs) : n ≤ cap := by
  rcases h.own.2 with ⟨hv, h0⟩ | ⟨g, cap2, cur, hv, -, -, h1, -⟩
  · omega
  · cases hv; exact h1
theorem tmod_nat (c n : Nat) (hc : c ≤ 65535) : ∃ K : Nat, (wrap64 (c : Int)).tmod ((n : Int) + 1) = (K : Int) ∧ K ≤ n := by
  refine ⟨c % (n + 1), ?_, by have := Nat.mod_lt c (show 0 < n + 1 by omega); omega⟩
  rw [w64Y _ (by omega) (by omega)]
  exact (Int.ofNat_tmod c (n + 1)).symm
theorem wrapI (n : Int) : IntKind.i64.wrap n = wrap64 n := by unfold wrap64; exact IntKind.wrap_i64 n
theorem one_slice (p : Option Addr) (n c : Nat) : ∀ u ∈ [Value.slice p n c], u.oneCell' = true := by simp [Value.oneCell']
theorem below_cell {w0 w1 w2 : World} {p : Addr} {v : Value} (h : Below w0.heap.size w0 w2) (hb : Below w0.heap.size w0 w1) (hp : p.block < w0.heap.size) (hc : w1.cell? p = some v) : w2.cell? p = some v := (h.cell hp).trans ((hb.cell hp).symm.trans hc)

set_option maxRecDepth 100000 in
set_option maxHeartbeats 8000000 in
theorem frameBack_any (hsh : Shown08OK) (a : Option Addr) (cap : Nat) (rows : List (List UInt8)) (c : Nat) (w : World) (hr : RowsAt w a rows) (hrl : rows.length ≤ maxLen) (hc9 : c ≤ 65535) :
    Calls Try.prog 6 #[.slice a rows.length cap, .int .u16 (c : Int)] w (BoolOut w true) := by
  have Hsh := Lib.hid hsh
  have Hr := Lib.hid hr
  have Hrl := Lib.hid hrl
  have Hc9 := Lib.hid hc9
  have HI := Lib.hid feed_info
  clear hsh hr hrl hc9
  go_enter Try.func6, Try.ntmps6
  go_wp2_with fail
  refine (Hsh.out _).mono ?_; rintro e w1 ⟨rfl, hb1⟩
  have Hb := Lib.hid hb1
  clear hb1
  go_wp2_with fail
  have hc := long_any a cap rows 4000 w1 (by decide) Hrl.out (Hr.out.mono Hb.out)
  by_cases ht : totalF rows ≤ 4000
  · rw [if_pos ht] at hc
    have Hc := Lib.hid hc
    have Ht := Lib.hid ht
    have hd : ¬ (4000 : Int) < ((totalF rows : Nat) : Int) := by omega
    clear hc ht
    refine Hc.out.mono ?_; rintro e w3 ⟨rfl, rfl⟩
    go_wp2_with fail
    have hbB := ba (w3.alloc (.cells #[] 5)) (.cells #[] 22)
    have hsz := size_alloc w3 (.cells #[] 5)
    have hA : OwnB w.heap.size (w3.alloc (.cells #[] 5)) (.slice (some ⟨w3.heap.size, 0, none⟩) 0 0) 0 [] :=
      ⟨⟨rfl, .inr ⟨w3.heap.size, 0, #[], rfl, Hb.out.size, by simp only [World.alloc, Array.getElem?_push, if_true], Nat.le_refl _, Nat.zero_le _, rfl, rfl⟩⟩, by rw [size_alloc]; have := Hb.out.size; omega⟩
    have hO : Own w.heap.size ((w3.alloc (.cells #[] 5)).alloc (.cells #[] 22)) (.slice (some ⟨w3.heap.size + 1, 0, none⟩) 0 0) 0 [] :=
      own_new hsz.symm (by rw [hsz]; have := Hb.out.size; omega)
    have hA2 := hA.up hbB
    have hb4 := bt Hb.out (bt (ba w3 (.cells #[] 5)) hbB)
    have HS := Lib.hid (show PbAt w ((w3.alloc (.cells #[] 5)).alloc (.cells #[] 22)) rows (.slice (some ⟨w3.heap.size, 0, none⟩) 0 0) (.slice (some ⟨w3.heap.size + 1, 0, none⟩) 0 0) (.int .i64 0) from
      ⟨0, _, 0, _, 0, [], Nat.zero_le _, rfl, rfl, rfl, hA2, hO, .nil w, hb4⟩)
    clear hbB hsz hA hO hA2 hb4 hd Hc
    go_loopw [6, 7, 8] (fun v6 v7 v8 wx => PbAt w wx rows v6 v7 v8) (fun _ _ v8 _ => rows.length - (intOf v8).toNat)
    case atStart => exact HS.out
    case round =>
      clear HS Hb
      obtain ⟨k, aa, ac, oa, oc, vs, hk, rfl, rfl, rfl, hA, hO, hS, hb⟩ := hrel
      have Hsum := Lib.hid (show (allR (rows.take k)).length ≤ 8000 by have h1 := allR_take rows k; have h3 := Ht.out; omega)
      have Hgood := Lib.hid (show (goodR (rows.take k)).length ≤ 4000 by have h1 := goodR_take rows k; have h3 := Ht.out; omega)
      by_cases hlt : k < rows.length
      · obtain ⟨g, o, rp, rc, rfl, hgl, ck, hr1, hr2, hr3⟩ := Hr.out.old hb k hlt
        have HY := Lib.hid (back_yes rows k hlt)
        have HN := Lib.hid (back_no rows k hlt)
        have Hsum2 := Lib.hid (show (rows.getD k []).length ≤ 4000 by have h1 := sumL_le rows (k + 1); have h2 := sumL_snoc rows k hlt; have h3 := Ht.out; unfold totalF at h3; unfold sumL at *; omega)
        have Hrow := Lib.hid (show RowIs w (.slice rp (rows.getD k []).length rc) (rows.getD k []) from ⟨rp, rc, rfl, hr1, hr2, hr3⟩)
        generalize rows.getD k [] = r at ck hr1 hr3 HY HN Hsum2 Hrow
        generalize goodR (rows.take k) = G at hO hS HY HN Hgood ⊢
        generalize allR (rows.take k) = A at hA HY HN Hsum ⊢
        obtain ⟨G2, hG2⟩ : ∃ G2, goodR (rows.take (k + 1)) = G2 := ⟨_, rfl⟩
        obtain ⟨A2, hA2⟩ : ∃ A2, allR (rows.take (k + 1)) = A2 := ⟨_, rfl⟩
        rw [hG2, hA2] at HY HN
        have HG2 := Lib.hid hG2
        have HA2 := Lib.hid hA2
        clear hG2 hA2
        have HA := Lib.hid hA
        have HO := Lib.hid hO
        have HS := Lib.hid hS
        have Hb := Lib.hid hb
        have Hr3 := Lib.hid (And.intro hr3 hgl)
        have Hmeas := Lib.hid (measY rows.length k hlt)
        have Hlt := Lib.hid (show k + 1 ≤ rows.length from hlt)
        have hw : wrap64 ((k : Int) + 1) = ((k + 1 : Nat) : Int) := by have := Hrl.out; unfold maxLen at this; rw [show ((k : Int) + 1) = ((k + 1 : Nat) : Int) by omega]; exact w64Y _ (by omega) (by omega)
        have Hw := Lib.hid hw
        clear hA hO hS hb hr3 hr2 hr1 hw
        rcases hp : packs r with _ | _
        · have hN := HN.out hp
          obtain ⟨rfl, rfl⟩ := hN
          have hlen : r.length = 0 ∨ (1 ≤ r.length ∧ 1024 < r.length) := by
            have hp2 := hp
            simp only [packs, Bool.and_eq_false_iff, decide_eq_false_iff_not] at hp2
            omega
          have hpc := pack_any rp rc r wr (by have := Hsum2.out; unfold maxLen; omega) (Hr3.out.1.mono Hb.out)
          have Hpc := Lib.hid hpc
          have Hp := Lib.hid hp
          clear HY HN hpc hp
          rcases hlen with hlen | ⟨hlen1, hlen2⟩
          · have d1 : ¬ 0 < r.length := by omega
            clear hlen
            go_wp2_with fail
            refine Hpc.out.mono ?_
            rintro e w2 ⟨hb2, ⟨hp, -⟩ | ⟨-, rfl⟩⟩
            · exact absurd (Hp.out.symm.trans hp) (by decide)
            have Hb2 := Lib.hid (bt Hb.out hb2)
            have ck2 := below_cell Hb2.out Hb.out hgl ck
            have HAd := Lib.hid (HA.out.up hb2)
            have HOd := Lib.hid (HO.out.up hb2)
            clear ck hb2
            go_wp2_with fail
            rw [Hw.out]
            exact ⟨PbAt.mk' (k + 1) Hlt.out HG2.out HA2.out rfl rfl HAd.out HOd.out HS.out Hb2.out, Hmeas.out⟩
          · have d1 : 0 < r.length := by omega
            have d2 : ¬ (r.length : Int) ≤ 1024 := by omega
            clear hlen1 hlen2
            go_wp2_with fail
            refine Hpc.out.mono ?_
            rintro e w2 ⟨hb2, ⟨hp, -⟩ | ⟨-, rfl⟩⟩
            · exact absurd (Hp.out.symm.trans hp) (by decide)
            have Hb2 := Lib.hid (bt Hb.out hb2)
            have ck2 := below_cell Hb2.out Hb.out hgl ck
            have HAd := Lib.hid (HA.out.up hb2)
            have HOd := Lib.hid (HO.out.up hb2)
            clear ck hb2
            go_wp2_with fail
            rw [Hw.out]
            exact ⟨PbAt.mk' (k + 1) Hlt.out HG2.out HA2.out rfl rfl HAd.out HOd.out HS.out Hb2.out, Hmeas.out⟩
        · have hY := HY.out hp
          obtain ⟨rfl, rfl⟩ := hY
          have hpc := pack_any rp rc r wr (by have := Hsum2.out; unfold maxLen; omega) (Hr3.out.1.mono Hb.out)
          have Hpc := Lib.hid hpc
          have Hp := Lib.hid hp
          have hlen : 1 ≤ r.length ∧ r.length ≤ 1024 := by simpa [packs] using hp
          have d1 : 0 < r.length := by omega
          have d2 : (r.length : Int) ≤ 1024 := by omega
          have d3 : wrap64 ((r.length : Int) + 2) = (r.length : Int) + 2 := by unfold wrap64; omega
          have Hl := Lib.hid (show A.length + (r.length + 2) ≤ 1099511627776 ∧ G.length + 1 ≤ 1099511627776 by have h1 := Hsum.out; have h2 := Hgood.out; omega)
          clear HY HN hpc hp hlen
          go_wp2_with fail
          refine Hpc.out.mono ?_
          rintro e w2 ⟨hb2, ⟨-, a1, k1, rfl, -, -, ha1⟩ | ⟨hp, -⟩⟩
          case inr => exact absurd (Hp.out.symm.trans hp) (by decide)
          have Hb2 := Lib.hid (bt Hb.out hb2)
          have ck2 := below_cell Hb2.out Hb.out hgl ck
          have HAd := Lib.hid (HA.out.up hb2)
          have HOd := Lib.hid (HO.out.up hb2)
          have Ha1 := Lib.hid ha1
          clear ck hb2 ha1
          go_wp2_with (first
            | (at_builtin; (refine wpList_ownB (.tmp 71) (.tmp 72) rfl rfl rfl HAd.out (news := B8s (packL r)) (m := r.length + 2) rfl Ha1.out (by simp [packL_len]) (bytes_one _) Hl.out.1 ?_; intro aa2 ac2 wf hA3 hg3 hat3; have HOf := Lib.hid (HOd.out.grownB HAd.out hg3); have Hbf := Lib.hid (below_own Hb2.out HAd.out.own hg3 HAd.out.le (Nat.le_refl _)); have ckf := below_cell Hbf.out Hb2.out Hr3.out.2 ck2; have HA3 := Lib.hid hA3; clear hA3 hg3 hat3 ck2))
            | (at_builtin; go_must (refine wpList_own (.tmp 74) (.tmp 79) rfl rfl rfl (HOf.out.up (ba _ _)) (news := [.slice rp r.length rc]) rfl (at_new wf _ _) rfl (one_slice _ _ _) Hl.out.2 (G.length + 1) rfl ?_; intro oa2 oc2 wg hO3 hg4)))
          have HAg := (HA3.out.up (ba _ _)).safe (Safe.grown (B := w.heap.size) (HOf.out.up (ba _ _)).own hg4 (by decide) (Nat.le_refl _))
          have Hbg := below_own (bt Hbf.out (ba _ _)) (HOf.out.up (ba _ _)).own hg4 (HOf.out.up (ba _ _)).le (Nat.le_refl _)
          have HSg := HS.out.app (.one Hrow.out)
          rw [Hw.out]
          rw [← List.map_append] at HAg
          exact ⟨PbAt.mk' (k + 1) Hlt.out HG2.out HA2.out (by rw [List.length_append, packL_len]) (by simp) HAg hO3 HSg Hbg, Hmeas.out⟩
      · obtain rfl : k = rows.length := by omega
        rw [List.take_length] at hA hO hS Hsum Hgood ⊢
        have hrun := all_run rows
        generalize allR rows = A at hA Hsum hrun ⊢
        generalize goodR rows = G at hO hS Hgood hrun ⊢
        have Hsplit := Lib.hid (back_split A G Hsum.out hrun)
        have HA := Lib.hid hA.at
        have HAc := Lib.hid (show A.length ≤ ac from capB hA)
        have HO := Lib.hid hO
        have HS := Lib.hid hS
        have Hb := Lib.hid hb
        have hw : wrap64 ((A.length : Int) + 1) = (A.length : Int) + 1 := by have := Hsum.out; unfold wrap64; omega
        clear hA hO hS hb hrun
        obtain ⟨K, hK, hKle⟩ := tmod_nat c A.length Hc9.out
        have hK0 : (0 : Int) ≤ (K : Int) := by omega
        have hKc : (K : Int) ≤ (ac : Int) := by have := HAc.out; omega
        obtain ⟨s1, s2, s3⟩ := Hsplit.out K hKle
        have hA2 : BytesAt wr (adv aa ac K 1) (A.drop K) := BytesAt.adv HA.out rfl HAc.out
        have hA1 : BytesAt wr aa (A.take K) := BytesAt.take HA.out K
        have e1 : (A.take K).length = K := by rw [List.length_take]; omega
        have e2 : (A.drop K).length = A.length - K := List.length_drop
        have hsl1 : ∀ W, (Instr.sliceAt 22 (.slice aa A.length ac) none (some (.int .i64 K)) none).run Try.prog W = .ok (.slice aa K ac) W := fun W => run_head Try.underlying22 size_u8 W aa A.length ac K (by omega)
        have hsl2 : ∀ W, (Instr.sliceAt 22 (.slice aa A.length ac) (some (.int .i64 K)) none none).run Try.prog W = .ok (.slice (adv aa ac K 1) (A.length - K) (ac - K)) W := fun W => run_tail Try.underlying22 size_u8 W aa A.length ac K hKle
        have Hlens := Lib.hid (show K ≤ 8000 ∧ A.length - K ≤ 8000 by have := Hsum.out; omega)
        generalize A.length - K = K2 at e2 hsl2 Hlens
        generalize ac - K = c2 at hsl2
        generalize adv aa ac K 1 = a2 at hA2 hsl2
        generalize A.take K = A1 at s1 s2 s3 hA1 e1
        generalize A.drop K = A2 at s1 s2 s3 hA2 e2
        have hp1 := push_any ⟨none, 0, 0, 0, 0⟩ ⟨[], 0, 0⟩ aa ac A1 wr wr.heap.size (Nat.le_refl _) ⟨rfl, Nat.le_refl _, Nat.zero_le _, .inl rfl, rfl, rfl⟩ (by decide) hA1 (by have := Hlens.out; omega)
        have hr1 := run_stays (s := ⟨[], 0, 0⟩) (by decide) A1
        obtain ⟨T1, hT1⟩ : ∃ T1, runF ⟨[], 0, 0⟩ A1 = T1 := ⟨_, rfl⟩
        have s1' : (runF T1.1 A2).1 = ⟨[], 0, 0⟩ := by rw [← hT1]; exact s1
        have s2' : T1.2 ++ (runF T1.1 A2).2 = G := by rw [← hT1]; exact s2
        have s3' : T1.1.buf.length + packedF T1.2 = K := by rw [← hT1]; exact s3
        rw [hT1, e1] at hp1
        rw [hT1] at hr1
        obtain ⟨T2, hT2⟩ : ∃ T2, runF T1.1 A2 = T2 := ⟨_, rfl⟩
        rw [hT2] at s1' s2'
        have Hp1 := Lib.hid hp1
        have Hr1 := Lib.hid hr1
        have Hs1 := Lib.hid s1'
        have Hs2 := Lib.hid s2'
        have Hs3 := Lib.hid s3'
        have HT2 := Lib.hid hT2
        have HA2 := Lib.hid hA2
        have He2 := Lib.hid e2
        have HKle := Lib.hid hKle
        clear s1 s2 s3 hA1 e1 hp1 hr1 s1' s2' s3' hT1 hT2 hA2 e2 hKle HA Hsplit
        go_wp2_with fail
        refine Hp1.out.mono ?_; rintro e w4 ⟨f1, l1, lc1, vs1, rfl, hF1, -, hO1, hR1, hb4⟩
        obtain ⟨fa, fl, fc, fs, fb⟩ := f1
        have h12 := BlkT.new w4 [.slice fa fl fc, .int .i64 fs, .int .i64 fb] 24
        have hb3 := ba w4 (.cells #[.slice fa fl fc, .int .i64 fs, .int .i64 fb] 24)
        have hbX := bt hb4 hb3
        have H12 := Lib.hid (show BlkT 24 (w4.alloc (.cells #[.slice fa fl fc, .int .i64 fs, .int .i64 fb] 24)) w4.heap.size [.slice fa fl fc, .int .i64 fs, .int .i64 fb] from h12)
        have HF1 := Lib.hid (hF1.mono hb3)
        have HO1 := Lib.hid (hO1.at.mono hb3)
        have HR1 := Lib.hid (hR1.of.mono hb3)
        have Hn1 := Lib.hid (rows_bound hO1)
        have HOw := Lib.hid (HO.out.at.mono hbX)
        have HA3 := Lib.hid (HA2.out.mono hbX)
        have Hbw := Lib.hid (bt Hb.out hbX)
        obtain ⟨c0, c1, c2'⟩ := cells3 H12.out.blk
        clear hF1 hO1 hR1 hb3 hb4 hbX h12 hsl1 Hp1 HA2 HO Hb
        go_wp2_with fail
        generalize hn8 : w4.heap.size = n8 at c0 c1 c2' H12 ⊢
        generalize (w4.alloc (.cells #[.slice fa fl fc, .int .i64 fs, .int .i64 fb] 24)) = wr2 at c0 c1 c2' H12 HF1 HO1 HR1 HOw HA3 Hbw ⊢
        have Hpush := Lib.hid (show ∀ W', Below wr2.heap.size wr2 W' → Calls Try.prog 17 #[(Fv.mk fa fl fc fs fb).v, .slice a2 K2 c2] W' (PushOutF W' T2) from fun W' h => by
          have hpp := push_fresh ⟨fa, fl, fc, fs, fb⟩ T1.1 a2 c2 A2 W' W'.heap.size (Nat.le_refl _) (HF1.out.mono h) Hr1.out (HA3.out.mono h) (by rw [He2.out]; have := Hlens.out; omega)
          rw [He2.out, HT2.out] at hpp
          exact hpp)
        clear HT2 He2 HA3 Hr1
        go_cut [14, 15] (fun v14 v15 wx => PcAt wr2 wx T2 v14 v15)
        case first =>
          have KS := Lib.hid (show ∀ w', Below wr2.heap.size wr2 w' → (Below wr2.heap.size wr2 w' ∧ w'.cell? ⟨n8, 0, none⟩ = some (.slice fa fl fc) ∧ w'.cell? ⟨n8, 1, none⟩ = some (.int .i64 fs) ∧ w'.cell? ⟨n8, 2, none⟩ = some (.int .i64 fb)) from fun w' hb => by
            obtain ⟨c0, c1, c2⟩ := cells3 (H12.out.up hb).blk
            exact ⟨hb, c0, c1, c2⟩)
          obtain ⟨hS0, q0, q1, q2⟩ := KS.out wr2 (Below.refl _ _)
          clear c0 c1 c2'
          go_region_held3 (fun w' => Below wr2.heap.size wr2 w' ∧ w'.cell? ⟨n8, 0, none⟩ = some (.slice fa fl fc) ∧ w'.cell? ⟨n8, 1, none⟩ = some (.int .i64 fs) ∧ w'.cell? ⟨n8, 2, none⟩ = some (.int .i64 fb))
            (first
              | (apply KS.out; (with_reducible ((try apply bta); (try (apply rset3_below; rotate_left; first | apply Nat.le_refl)); (try apply bta); (try apply bt3 hb5); (try apply bta); (first | apply Below.refl | (apply btd; (try apply bta); apply Below.refl)))))
              | fail)
            ((go_at_call 17; go_split_ands; ((with_reducible refine Calls.mono (Hpush.out _ (by assumption)) ?_); rintro e w5 ⟨y, ya, yc, vs5, rfl, hY, hYk, hYO, hYR, hb5⟩; (try ((with_reducible have z1 := BlkT.up (BlkT.new _ F0 _) hb5); have fz1 := z1.blk.frozen; have lz1 := z1.blk.lt; obtain ⟨x0, x1, x2⟩ := cells3 z1.blk)); (try ((with_reducible have z1 := BlkT.up (BlkT.new _ F0 _).drew hb5); have fz1 := z1.blk.frozen; have lz1 := z1.blk.lt; obtain ⟨x0, x1, x2⟩ := cells3 z1.blk)))))
          all_goals
            go_split_ands
            go_wp2_with fail
            go_meet
          · exact ⟨w5.heap.size, y, ya, yc, vs5, rfl, rfl, BlkT.new w5 y.L _, hY.mono (ba w5 _), FreshK.safe hYk (Safe.below (B := 0) (ba w5 _)), hYO.up (ba w5 _), RowsF.safe hYR (Safe.below (B := 0) (ba w5 _)), by assumption⟩
          · have zz : BlkT 24 w5 wr2.heap.size F0 := z1
            have sf : Safe 0 w5 _ := safe_rset3 (v0 := .slice y.a y.len y.cap) (v1 := .int .i64 y.skip) (v2 := .int .i64 y.bad) zz (by decide) (Nat.zero_le _)
            have hlw : wr2.heap.size < (wr2.alloc (.cells F0.toArray 24)).heap.size := by rw [size_alloc]; omega
            exact ⟨wr2.heap.size, y, ya, yc, vs5, rfl, rfl, rset3 zz, hY.fresh (FreshK.safe hYk sf), FreshK.weak (FreshK.safe hYk sf) (Nat.le_of_lt hlw), (((hYO.set hlw _).set hlw _).set hlw _).weak (Nat.le_of_lt hlw), RowsF.weak (RowsF.safe hYR sf) (Nat.le_of_lt hlw), by assumption⟩
        case rest =>
          obtain ⟨b10, y, ca, cc, vs5, rfl, rfl, h10, hY, hYk, hYO, hYR, hbc⟩ := hcut
          have hHY := hY
          rw [Hs1.out] at hHY
          have HY := Lib.hid hHY
          have H10 := Lib.hid h10
          have HO5 := Lib.hid hYO.at
          have HR5 := Lib.hid hYR.of
          have HO1c := Lib.hid (HO1.out.mono hbc)
          have HR1c := Lib.hid (HR1.out.mono hbc)
          have HOwc := Lib.hid (HOw.out.mono hbc)
          have H12c := Lib.hid (H12.out.up hbc)
          have Hbc := Lib.hid (bt Hbw.out hbc)
          have HSc := Lib.hid (HS.out.mono Hbc.out)
          have Hle := Lib.hid (show T1.2.length + T2.2.length = G.length ∧ 0 + T1.2.length ≤ 1099511627776 ∧ T1.2.length + T2.2.length ≤ 1099511627776 by
            have h1 := congrArg List.length Hs2.out
            rw [List.length_append] at h1
            have h2 := Hgood.out
            omega)
          have hfl := HF1.out.len
          have hpk : ∀ j, j ≤ T1.2.length → packedF (T1.2.take j) ≤ 4611686018427387904 := fun j hj => by
            have e : packedF T1.2 = packedF (T1.2.take j) + packedF (T1.2.drop j) := by
              conv => lhs; rw [← List.take_append_drop j T1.2]
              simp only [packedF, List.map_append, List.sum_append]
            have h1 := Hs3.out; have h2 := Hlens.out; omega
          have HPk := Lib.hid (show ∀ W', Below wc.heap.size wc W' → Calls Try.prog 21 #[.slice l1 T1.2.length lc1] W' (fun e w' => e = .returned (.int .i64 ((packedF T1.2 : Nat) : Int)) ∧ Below wc.heap.size wc w') from fun W' h =>
            (packed_any l1 lc1 T1.2 W' Hn1.out hpk ⟨vs1, HO1c.out.mono h, HR1c.out.mono h⟩).mono fun e w' hh => ⟨hh.1, hh.2 ▸ h⟩)
          have HSm := Lib.hid (show ∀ W', Below wc.heap.size wc W' → Calls Try.prog 16 #[y.v, (Fv.mk none 0 0 0 0).v] W' (fun e w' => e = .returned (.bool true) ∧ Below wc.heap.size wc w') from fun W' h => by
            have hs := refSame_any y ⟨none, 0, 0, 0, 0⟩ ⟨[], 0, 0⟩ ⟨[], 0, 0⟩ W' (HY.out.mono h) ⟨rfl, Nat.le_refl _, Nat.zero_le _, .inl rfl, rfl, rfl⟩
            rw [beq_self_eq_true, beq_self_eq_true] at hs
            exact hs.mono fun e w' hh => ⟨hh.1, bt h hh.2⟩)
          have hw3 : wrap64 ((fl : Int) + ((packedF T1.2 : Nat) : Int)) = (K : Int) := by
            have h1 := Hs3.out
            have h2 := Hlens.out
            rw [show (fl : Int) = ((T1.1.buf.length : Nat) : Int) by rw [← hfl], w64Y _ (by omega) (by omega)]
            omega
          have Hw3 := Lib.hid hw3
          obtain ⟨PK, hPK⟩ : ∃ PK, packedF T1.2 = PK := ⟨_, rfl⟩
          rw [hPK] at HPk Hw3
          have hw4 := Hw3.out
          have KS := Lib.hid (show ∀ w', Below wc.heap.size wc w' → (Below wc.heap.size wc w' ∧ w'.cell? ⟨n8, 0, none⟩ = some (.slice fa fl fc) ∧ w'.cell? ⟨b10, 0, none⟩ = some (.slice y.a y.len y.cap) ∧ w'.cell? ⟨b10, 1, none⟩ = some (.int .i64 y.skip) ∧ w'.cell? ⟨b10, 2, none⟩ = some (.int .i64 y.bad)) from fun w' hb => by
            obtain ⟨c0, c1, c2⟩ := cells3 (H12c.out.up hb).blk
            obtain ⟨d0, d1, d2⟩ := cells3 (H10.out.up hb).blk
            exact ⟨hb, c0, d0, d1, d2⟩)
          obtain ⟨hS0, q0, q1, q2, q3⟩ := KS.out wc (Below.refl _ _)
          clear hHY hY hYk hYO hYR h10 hbc hpk hw3 hPK hfl c0 c1 c2' Hpush HF1 HO1 HR1 HOw H12 HS Hbw Hs1 Hs3 hsl2 hK hK0 hKc hw
          go_wp2_with fail
          go_region_held3 (fun w' => Below wc.heap.size wc w' ∧ w'.cell? ⟨n8, 0, none⟩ = some (.slice fa fl fc) ∧ w'.cell? ⟨b10, 0, none⟩ = some (.slice y.a y.len y.cap) ∧ w'.cell? ⟨b10, 1, none⟩ = some (.int .i64 y.skip) ∧ w'.cell? ⟨b10, 2, none⟩ = some (.int .i64 y.bad))
            (first
              | (apply KS.out; first | assumption | (with_reducible ((try apply bta); (first | apply Below.refl | (apply btd; (try apply bta); apply Below.refl))))))
            (first
              | (refine step_own (by rfl) (.tmp 107) (.tmp 108) (by rfl) (by rfl) hO6 (news := vs5) (by rfl) (HO5.out.mono hb6) HR5.out.1 HR5.out.cells Hle.out.2.2 G.length Hle.out.1 ?_; intro aa7 c7 w7 hO7 hg7; have hb7 := below_own hb6 hO6.own hg7 hO6.le (Nat.le_refl _); have hR7 := (HR1c.out.app HR5.out).mono hb7; rw [Hs2.out] at hR7; have hC7 := rows_any aa7 oa c7 oc G G w7 (rows_bound hO7) (rows_bound hO7) ⟨_, hO7.at, hR7⟩ ⟨vs, HOwc.out.mono hb7, HSc.out.mono hb7⟩; rw [beq_self_eq_true] at hC7; have HC7 := Lib.hid hC7)
              | (refine step_own (by rfl) (.tmp 105) (.tmp 106) (by rfl) (by rfl) (own_new (w := wc.drew) rfl (Nat.le_refl _)) (news := vs1) (by rfl) (HO1c.out.mono (bt (bd wc) (ba _ _))) HR1c.out.1 HR1c.out.cells Hle.out.2.1 T1.2.length (Nat.zero_add _) ?_; intro aa6 c6 w6 hO6 hg6; have hb6 : Below wc.heap.size wc w6 := below_own (bt (bd wc) (ba _ _)) (own_new (w := wc.drew) rfl (Nat.le_refl _)).own hg6 (own_new (w := wc.drew) rfl (Nat.le_refl _)).le (Nat.le_refl _))
              | (go_at_call 19; (refine Calls.mono HC7.out ?_); rintro e w8 ⟨rfl, hb8⟩; have hb8' := bt hb7 hb8)
              | (go_at_call 16; go_split_ands; (refine Calls.mono (HSm.out _ (by assumption)) ?_); rintro e w9 ⟨rfl, hb9⟩)
              | (go_at_call 21; go_split_ands; (refine Calls.mono (HPk.out _ (by assumption)) ?_); rintro e w10 ⟨rfl, hb10⟩))
          all_goals
            go_split_ands
            go_wp2_with fail
            go_ret
            have hq : (IntKind.i64.wrap ((fl : Int) + (PK : Int)) == (K : Int)) = true := by rw [wrapI, hw4]; exact beq_self_eq_true _
            exact ⟨congrArg (fun b => Ending.returned (.bool b)) hq, bt Hbc.out (by assumption)⟩
  · rw [if_neg ht] at hc
    have Hc := Lib.hid hc
    clear hc ht
    refine Hc.out.mono ?_; rintro e w3 ⟨rfl, rfl⟩
    go_wp2_with fail
    go_ret
    exact ⟨rfl, Hb.out⟩
end Go.Proofs.Ytipidgjdfmghnaa
