/- The walk of the law ShaPieces. -/
import Derived.Test.YtmcbhffkaaaijaaDoorShaU
import Derived.Test.YtmcbhffkaaaijaaDoorShaM
import Derived.Test.YtmcbhffkaaaijaaDoorInG
import Derived.Deep.DeepCutAuto
import Derived.Deep.RegionHeld3
set_option linter.unusedSimpArgs false
set_option linter.unusedVariables false
namespace Go.Proofs.YtmcbhffkaaaijaaDoor
open Go.RowKit

/-- all but one block is as it was -/
structure Only (n8 : Nat) (w w' : World) : Prop where
  size : w'.heap.size = w.heap.size
  block : ∀ b, b ≠ n8 → w'.heap[b]? = w.heap[b]?
theorem Only.refl (n8 : Nat) (w : World) : Only n8 w w := ⟨rfl, fun _ _ => rfl⟩
theorem Only.set {n8 : Nat} {w w' : World} (h : Only n8 w w') (i : Nat) (v : Value) : Only n8 w (w'.setCell ⟨n8, i, none⟩ v) := ⟨by simpa using h.size, fun b hb => by rw [Below.heap_setCell _ _ _ _ hb]; exact h.block b hb⟩
theorem Only.row (n8 : Nat) (w : World) (ds : Array Value) : Only n8 w (w.setRow n8 ds) := ⟨by simp, fun b hb => setRow_other w n8 b ds hb⟩
theorem only10 (w : World) (b : Nat) (v0 v1 v2 v3 v4 v5 v6 v7 v8 v9 : Value) : Only b w ((((((((((w.setCell ⟨b, 0, none⟩ v0).setCell ⟨b, 1, none⟩ v1).setCell ⟨b, 2, none⟩ v2).setCell ⟨b, 3, none⟩ v3).setCell ⟨b, 4, none⟩ v4).setCell ⟨b, 5, none⟩ v5).setCell ⟨b, 6, none⟩ v6).setCell ⟨b, 7, none⟩ v7).setCell ⟨b, 8, none⟩ v8).setCell ⟨b, 9, none⟩ v9) :=
  ((((((((((Only.refl b w).set _ _).set _ _).set _ _).set _ _).set _ _).set _ _).set _ _).set _ _).set _ _).set _ _
theorem KeepN.only {v : Value} {n8 : Nat} {w w' : World} {a : Option Addr} {cs : List Value} (h : KeepN v n8 w a cs) (k : Only n8 w w') : KeepN v n8 w' a cs :=
  AtP.to h (Nat.le_of_eq k.size.symm) fun b hl hp => ⟨k.block b hp.1, hp⟩
theorem OwnB.only {T : TypeId} {B n8 : Nat} {w w' : World} {v : Value} {n : Nat} {xs cs : List Value} (h : OwnB B w v n xs) (hb : BlkT T w n8 cs) (hT : T ≠ 5) (k : Only n8 w w') : OwnB B w' v n xs := by
  obtain ⟨⟨h1, h2⟩, h3⟩ := h
  refine ⟨⟨h1, ?_⟩, by rw [k.size]; exact h3⟩
  rcases h2 with h2 | ⟨g', cap, cur, hv, hg', hh, r⟩
  · exact .inl h2
  · refine .inr ⟨g', cap, cur, hv, hg', ?_, r⟩
    rw [k.block g' ?_]
    · exact hh
    · rintro rfl
      rw [show w.heap[g']? = _ from hb] at hh
      injection hh with hh; injection hh with _ k2 _; exact hT k2
theorem hashT_set10 {w : World} {b : Nat} {r r' : R8} {n n' : Int} {a a' : Option Addr} {len len' cap cap' : Nat} (h : BlkT 36 w b (hashC r n a len cap)) :
    BlkT 36 ((((((((((w.setCell ⟨b, 0, none⟩ (.int .u32 (uv r'.a))).setCell ⟨b, 1, none⟩ (.int .u32 (uv r'.b))).setCell ⟨b, 2, none⟩ (.int .u32 (uv r'.c))).setCell ⟨b, 3, none⟩ (.int .u32 (uv r'.d))).setCell ⟨b, 4, none⟩ (.int .u32 (uv r'.e))).setCell ⟨b, 5, none⟩ (.int .u32 (uv r'.f))).setCell ⟨b, 6, none⟩ (.int .u32 (uv r'.g))).setCell ⟨b, 7, none⟩ (.int .u32 (uv r'.h))).setCell ⟨b, 8, none⟩ (.int .i64 n')).setCell ⟨b, 9, none⟩ (.slice a' len' cap')) b (hashC r' n' a' len' cap') :=
  (((((((((h.set 0 _).set 1 _).set 2 _).set 3 _).set 4 _).set 5 _).set 6 _).set 7 _).set 8 _).set 9 _
theorem rem64 (N : Nat) (h : N ≤ 100000) : ((N : Int)).tmod 64 = ((N % 64 : Nat) : Int) := by rw [Int.tmod_eq_emod_of_nonneg (by omega)]; rfl
theorem sub64 (N : Nat) (h : N ≤ 100000) : wrap64 ((N : Int) - ((N % 64 : Nat) : Int)) = ((64 * (N / 64) : Nat) : Int) := by unfold wrap64; omega
theorem sub64I (N : Nat) (h : N ≤ 100000) : IntKind.i64.wrap ((N : Int) - ((N % 64 : Nat) : Int)) = ((64 * (N / 64) : Nat) : Int) := by rw [IntKind.wrap_i64]; omega
theorem d64_le (N : Nat) : 64 * (N / 64) ≤ N := by omega
theorem m64 (N : Nat) : N % 64 = N - 64 * (N / 64) := by omega
theorem le2000 {N : Nat} (h : N ≤ 2000) : N ≤ 100000 := by omega
theorem w64Y (x : Int) (h1 : -9223372036854775808 ≤ x) (h2 : x ≤ 9223372036854775807) : wrap64 x = x := by unfold wrap64; omega
theorem measY (n k : Nat) (h : k < n) : n - (intOf (.int .i64 ((k + 1 : Nat) : Int))).toNat < n - (intOf (.int .i64 (k : Int))).toNat := by simp only [intOf]; omega
theorem nextY (k n : Nat) (hk : k < n) (h : n ≤ maxLen) : wrap64 ((k : Int) + 1) = ((k + 1 : Nat) : Int) := by unfold maxLen at h; rw [show ((k : Int) + 1) = ((k + 1 : Nat) : Int) by omega]; exact w64Y _ (by omega) (by omega)
theorem rightN (N : Nat) (q : List UInt8) (h : N ≤ 100000) (hq : q.length = N % 64) : rightH (N : Int) q.length = true := by
  simp only [rightH, Bool.and_eq_true, decide_eq_true_eq, beq_iff_eq]; rw [hq]; exact ⟨by omega, by omega, by omega⟩
/-- 32 bytes as a result -/
def Out32 (w : World) (D : List UInt8) (e : Ending) (w' : World) : Prop := ∃ b cb, e = .returned (.slice b 32 cb) ∧ BytesAt w' b D ∧ Below w.heap.size w w'
theorem out32 {w : World} {l D : List UInt8} (hl : l = D) (h32 : D.length = 32) {e : Ending} {w' : World} (h : BytesOut w l e w') : Out32 w D e w' := by
  subst hl
  obtain ⟨a, c, h1, h2, h3⟩ := h
  exact ⟨a, c, by rw [h1, h32], h2, h3⟩
theorem sumP (A : List UInt8) (hA : A.length ≤ 1000) (a' : Option Addr) (c' : Nat) (W' : World) (h1 : BytesAt W' a' (putR A)) (h2 : KeysAt W') :
    Calls Tryd.prog 25 #[.agg (hashC (putS iv A) (A.length : Int) a' (putR A).length c').toArray] W' (Out32 W' (ofF A)) :=
  (sum_any (putS iv A) A.length a' _ c' (putR A) (by omega) (by omega) rfl (by rw [putR_length]; omega) W' h1 h2).mono fun _ _ h => out32 (by unfold ofF; rw [Int.toNat_natCast]) (ofF_length A) h
theorem ofP (A : List UInt8) (aa : Option Addr) (ac : Nat) (hA : A.length ≤ 1000) (W' : World) (h1 : BytesAt W' aa A) (h2 : KeysAt W') :
    Calls Tryd.prog 12 #[.slice aa A.length ac] W' (Out32 W' (ofF A)) :=
  (of_any aa A.length ac A rfl (by omega) W' h1 h2).mono fun _ _ h => out32 rfl (ofF_length A) h
theorem putP (A : List UInt8) (aa : Option Addr) (ac : Nat) (hA : A.length ≤ 1000) (W' : World) (h1 : BytesAt W' aa A) (h2 : KeysAt W') :
    Calls Tryd.prog 23 #[.agg (hashC iv 0 none 0 0).toArray, .slice aa A.length ac] W' (HashOut W' (putS iv A) A.length (putR A)) :=
  put_new aa A.length ac A rfl (by omega) W' h1 h2
/-- the loop's state behind so many pieces -/
def PsAt (w wx : World) (n4 : Nat) (rows : List (List UInt8)) (v5 v6 : Value) : Prop :=
  ∃ (k : Nat) (aa : Option Addr) (ac : Nat) (ra : Option Addr) (rc : Nat), k ≤ rows.length ∧ v6 = .int .i64 (k : Int) ∧ v5 = .slice aa (rows.take k).flatten.length ac ∧
    OwnB w.heap.size wx v5 (rows.take k).flatten.length (B8s (rows.take k).flatten) ∧ BlkT 36 wx n4 (hashC (putS iv (rows.take k).flatten) ((rows.take k).flatten.length : Int) ra (putR (rows.take k).flatten).length rc) ∧
    KeepN v5 n4 wx ra (B8s (putR (rows.take k).flatten)) ∧ w.heap.size ≤ n4 ∧ n4 < wx.heap.size ∧ Below w.heap.size w wx
/-- what is behind the put of a piece -/
def PbAt (w wx : World) (n4 : Nat) (v5 : Value) (A : List UInt8) (R : R8) (N : Nat) (q : List UInt8) : Prop :=
  ∃ (ra : Option Addr) (rc : Nat), OwnB w.heap.size wx v5 A.length (B8s A) ∧ BlkT 36 wx n4 (hashC R (N : Int) ra q.length rc) ∧ KeepN v5 n4 wx ra (B8s q) ∧ Below w.heap.size w wx

set_option maxRecDepth 100000 in
set_option maxHeartbeats 8000000 in
theorem shaPieces_any (hsh : ShownOK) (a : Option Addr) (cap : Nat) (rows : List (List UInt8)) (w : World) (hr : RowsAt w a rows) (hrl : rows.length ≤ maxLen) (hk : KeysAt w) :
    Calls Tryd.prog 6 #[.slice a rows.length cap] w (BoolOut w true) := by
  have Hsh := Lib.hid hsh
  have Hr := Lib.hid hr
  have Hrl := Lib.hid hrl
  have Hk := Lib.hid hk
  have HI := Lib.hid (show (Tryd.prog.info? 36).map (·.size) = some 10 by kernel_rfl)
  clear hsh hr hrl hk
  go_enter Tryd.func6, Tryd.ntmps6
  go_wp2_with fail
  refine (Hsh.out _ Hk.out).mono ?_; rintro e w1 ⟨rfl, hb1⟩
  go_wp2_with fail
  have hc := long_any a cap rows 1000 w1 (by decide) Hrl.out (Hr.out.mono hb1)
  have Hb1 := Lib.hid hb1
  clear hb1
  by_cases ht : totalF rows ≤ 1000
  · rw [if_pos ht] at hc
    have Hc := Lib.hid hc
    have Ht := Lib.hid ht
    have hd : ¬ (1000 : Int) < ((totalF rows : Nat) : Int) := by omega
    clear hc ht
    refine Hc.out.mono ?_; rintro e w2 ⟨rfl, rfl⟩
    go_wp2_with fail
    refine (new_any _).mono ?_; rintro e w3 ⟨rfl, hb3⟩
    have Hb3 := Lib.hid (bt Hb1.out hb3)
    clear hb3 hd
    go_wp2_with fail
    have h4 := (BlkT.new w3 (hashC iv 0 none 0 0) 36).up (ba _ (.cells #[] 5))
    have hb4 := bta (bta Hb3.out (.cells (hashC iv 0 none 0 0).toArray 36)) (.cells #[] 5)
    have hA : OwnB w.heap.size ((w3.alloc (.cells (hashC iv 0 none 0 0).toArray 36)).alloc (.cells #[] 5)) (.slice (some ⟨w3.heap.size + 1, 0, none⟩) 0 0) 0 [] :=
      ⟨⟨rfl, .inr ⟨w3.heap.size + 1, 0, #[], rfl, by have := Hb3.out.size; omega, by have := BlkT.new (w3.alloc (.cells (hashC iv 0 none 0 0).toArray 36)) [] 5; rw [size_alloc] at this; exact this, Nat.le_refl _, Nat.zero_le _, rfl, rfl⟩⟩, hb4.size⟩
    have HS := Lib.hid (show PsAt w ((w3.alloc (.cells (hashC iv 0 none 0 0).toArray 36)).alloc (.cells #[] 5)) w3.heap.size rows (.slice (some ⟨w3.heap.size + 1, 0, none⟩) 0 0) (.int .i64 0) from
      ⟨0, _, 0, none, 0, Nat.zero_le _, rfl, rfl, hA, (by rw [List.take_zero, List.flatten_nil, show putS iv [] = iv from rfl, show putR [] = [] from rfl]; exact h4), .inl (by rw [List.take_zero, List.flatten_nil]; rfl), Hb3.out.size, by rw [size_alloc, size_alloc]; omega, hb4⟩)
    clear h4 hb4 hA Hb1 Hc Hb3
    generalize w3.heap.size = n4 at HS ⊢
    go_loopw [5, 6] (fun v5 v6 wx => PsAt w wx n4 rows v5 v6) (fun _ v6 _ => rows.length - (intOf v6).toNat)
    case atStart => exact HS.out
    case round =>
      clear HS
      obtain ⟨k, aa, ac, ra, rc, hk, rfl, rfl, hA, h4, hq, hn1, hn2, hb⟩ := hrel
      have Hsum := Lib.hid (show (rows.take k).flatten.length ≤ 1000 by have h1 := sumL_le rows k; have h2 := flat_len (rows.take k); have h3 := Ht.out; unfold totalF at h3; unfold sumL at *; omega)
      by_cases hlt : k < rows.length
      · obtain ⟨g, o, rp, pc, rfl, hgl, ck, hr1, hr2, hr3⟩ := Hr.out.old hb k hlt
        have HN := Lib.hid (flat_snoc rows k hlt)
        have Hsum2 := Lib.hid (show (rows.getD k []).length ≤ 1000 by have h1 := sumL_le rows (k + 1); have h2 := sumL_snoc rows k hlt; have h3 := Ht.out; unfold totalF at h3; unfold sumL at *; omega)
        generalize rows.getD k [] = r at ck hr1 hr3 HN Hsum2
        generalize hAe : (rows.take k).flatten = A at hA h4 hq HN Hsum
        have HR := Lib.hid (putS_app iv A r)
        have HQ := Lib.hid (putR_app A r)
        have Hql := Lib.hid (putR_length (A ++ r))
        have Hqa := Lib.hid (putR_length A)
        generalize putS iv A = R at h4 HR
        generalize putR A = q at h4 hq HR HQ Hqa
        have Hput := Lib.hid (show ∀ W', Below wr.heap.size wr W' → Calls Tryd.prog 23 #[.agg #[.int .u32 (uv R.a), .int .u32 (uv R.b), .int .u32 (uv R.c), .int .u32 (uv R.d), .int .u32 (uv R.e), .int .u32 (uv R.f), .int .u32 (uv R.g), .int .u32 (uv R.h), .int .i64 (A.length : Int), .slice ra q.length rc], .slice rp r.length pc] W' (fun e w' =>
            ∃ a' cap', e = .returned (.agg #[.int .u32 (uv (putS iv (A ++ r)).a), .int .u32 (uv (putS iv (A ++ r)).b), .int .u32 (uv (putS iv (A ++ r)).c), .int .u32 (uv (putS iv (A ++ r)).d), .int .u32 (uv (putS iv (A ++ r)).e), .int .u32 (uv (putS iv (A ++ r)).f), .int .u32 (uv (putS iv (A ++ r)).g), .int .u32 (uv (putS iv (A ++ r)).h), .int .i64 ((A.length + r.length : Nat) : Int), .slice a' (putR (A ++ r)).length cap']) ∧ BytesAt w' a' (putR (A ++ r)) ∧ Below W'.heap.size W' w' ∧ (putR (A ++ r) = [] ∨ ∃ off, a' = some ⟨W'.heap.size + 1 + 1, off, none⟩)) from fun W' h => by
          have := put_on R A.length ra rp rc pc A q r Hqa.out rfl (by have := Hsum.out; have := Hsum2.out; omega) W' (hq.at.mono h) ((hr3.mono hb).mono h) (Hk.out.mono (bt hb h))
          rw [HR.out, HQ.out] at this
          exact this)
        obtain ⟨N, hNe⟩ : ∃ N, A.length + r.length = N := ⟨_, rfl⟩
        rw [hNe] at Hput
        have HNe := Lib.hid hNe
        have HNl := Lib.hid (show N ≤ 2000 by have := Hsum.out; have := Hsum2.out; omega)
        have Hq2 := Lib.hid (show (putR (A ++ r)).length = N % 64 by rw [Hql.out, List.length_append, hNe])
        have Htl := Lib.hid (show putR (A ++ r) = (A ++ r).drop (64 * (N / 64)) by unfold putR nb; rw [List.length_append, hNe])
        generalize hR2 : putS iv (A ++ r) = R2 at Hput
        generalize hQ2 : putR (A ++ r) = q2 at Hput Hq2 Htl
        have HR2 := Lib.hid hR2
        have HQ2 := Lib.hid hQ2
        clear hR2 hQ2
        have HA := Lib.hid hA
        have H4 := Lib.hid h4
        have Hb := Lib.hid hb
        have Hr3 := Lib.hid (And.intro hr3 hgl)
        have Hn := Lib.hid (And.intro hn1 hn2)
        clear hA h4 hq hb hr1 hr2 hr3 hAe hNe hn1 hn2 HR HQ Hql Hqa
        obtain ⟨c0, c1, c2, c3, c4, c5, c6, c7, c8, c9⟩ := hash_cells H4.out.blk
        go_wp2_with fail
        go_cut [26] (fun _ wx => PbAt w wx n4 (.slice aa A.length ac) A R2 N q2)
        case first =>
          go_region_with ((go_at_call 23; (refine Calls.mono (Hput.out _ (by repeat (first | (with_reducible exact Below.refl _ _) | (with_reducible refine bt ?_ (bd _))))) ?_); rintro e w5 ⟨a5, cp5, rfl, hat5, hb5, hs5⟩; (have hb6 : Below wr.heap.size wr w5 := by first | exact hb5 | exact bt (bd _) hb5 | exact bt (bt (bd _) (bd _)) hb5); (have z1 := H4.out.up hb6); have fz1 := z1.blk.frozen; have lz1 := z1.blk.lt; obtain ⟨c0, c1, c2, c3, c4, c5, c6, c7, c8, c9⟩ := hash_cells z1.blk))
          all_goals
            go_wp2_with fail
            go_meet
            have ko := only10 w5 n4 (.int .u32 (uv R2.a)) (.int .u32 (uv R2.b)) (.int .u32 (uv R2.c)) (.int .u32 (uv R2.d)) (.int .u32 (uv R2.e)) (.int .u32 (uv R2.f)) (.int .u32 (uv R2.g)) (.int .u32 (uv R2.h)) (.int .i64 (N : Int)) (.slice a5 q2.length cp5)
            have hz : BlkT 36 w5 n4 (hashC R (A.length : Int) ra q.length rc) := H4.out.up hb6
            have p1 := (HA.out.up hb6).only hz (by decide) ko
            have p2 := hashT_set10 (r' := R2) (n' := (N : Int)) (a' := a5) (len' := q2.length) (cap' := cp5) hz
            have hs6 : B8s q2 = [] ∨ ∃ off, a5 = some ⟨wr.heap.size + 1 + 1, off, none⟩ := hs5.imp (fun h => by rw [h]; rfl) (fun ⟨off, h⟩ => ⟨off, h⟩)
            have p3 := (KeepN.new (g := wr.heap.size + 1 + 1) HA.out Hn.out.2 (by omega) hat5 hs6).only ko
            have p4 := set10_below (v0 := .int .u32 (uv R2.a)) (v1 := .int .u32 (uv R2.b)) (v2 := .int .u32 (uv R2.c)) (v3 := .int .u32 (uv R2.d)) (v4 := .int .u32 (uv R2.e)) (v5 := .int .u32 (uv R2.f)) (v6 := .int .u32 (uv R2.g)) (v7 := .int .u32 (uv R2.h)) (v8 := .int .i64 (N : Int)) (v9 := .slice a5 q2.length cp5) (bt Hb.out hb6) Hn.out.1
            exact ⟨a5, cp5, p1, p2, p3, p4⟩
        case rest =>
          obtain ⟨rb, rc2, hA, h4, hq, hb⟩ := hcut
          have ckw := (hb.cell (p := ⟨g, o + k, none⟩) hgl).trans ((Hb.out.cell (p := ⟨g, o + k, none⟩) hgl).symm.trans ck)
          have HAe := Lib.hid hA
          have H4e := Lib.hid h4
          have Hqe := Lib.hid hq
          have Hbe := Lib.hid hb
          clear hA h4 hq hb ck c0 c1 c2 c3 c4 c5 c6 c7 c8 c9 Hput HA H4 Hb
          go_wp2_with (first
            | (at_builtin; (refine wpList_ownB2 (.tmp 27) (.tmp 31) rfl rfl rfl HAe.out (news := B8s r) (m := r.length) rfl (Hr3.out.1.mono Hbe.out) (by simp) (bytes_one r) (by have h1 := Hsum.out; have h2 := Hsum2.out; omega) N HNe.out (B8s (A ++ r)) (by simp) ?_; intro aa2 ac2 wf hA3 hg3 hat3; have Hqf := Lib.hid (KeepN.grown Hqe.out hg3 hat3); have H4f := Lib.hid (H4e.out.grownB (by decide) HAe.out hg3); have Hbf := Lib.hid (below_own Hbe.out HAe.out.own hg3 HAe.out.le (Nat.le_refl _)); have Hsz := Lib.hid hg3.size; have HA3 := Lib.hid hA3; clear hA3 hg3 hat3 ckw)))
          go_cut [56] (fun v56 wx => v56 = .bool false ∧ Below wf.heap.size wf wx)
          case first =>
            obtain ⟨M, hM⟩ : ∃ M, M = N % 64 := ⟨_, rfl⟩
            obtain ⟨D, hD⟩ : ∃ D, D = 64 * (N / 64) := ⟨_, rfl⟩
            have hN := HNl.out
            have hac : N ≤ ac2 ∧ ac2 ≤ maxLen := by obtain ⟨a, cap, he, h1, h2⟩ := own_slice HA3.out.own; cases he; exact ⟨h1, h2⟩
            have Hsl := Lib.hid (fun W => run_tail Tryd.underlying22 size_u8 W aa2 N ac2 D (by rw [hD]; exact d64_le N))
            have HRt := Lib.hid (show ∀ W', Calls Tryd.prog 21 #[.agg #[.int .u32 (uv R2.a), .int .u32 (uv R2.b), .int .u32 (uv R2.c), .int .u32 (uv R2.d), .int .u32 (uv R2.e), .int .u32 (uv R2.f), .int .u32 (uv R2.g), .int .u32 (uv R2.h), .int .i64 (N : Int), .slice rb q2.length rc2]] W' fun e w' => e = .returned (.bool true) ∧ Below W'.heap.size W' w' from fun W' => by
              have := refRight_any R2 N rb q2.length rc2 W'
              rwa [rightN N q2 (le2000 hN) Hq2.out] at this)
            have HSm := Lib.hid (show ∀ W', Below wf.heap.size wf W' → Calls Tryd.prog 11 #[.slice rb q2.length rc2, .slice (adv aa2 ac2 D 1) (N - D) (ac2 - D)] W' fun e w' => e = .returned (.bool true) ∧ W' = w' from fun W' h => by
              have hl : (A ++ r).length = N := by rw [List.length_append, HNe.out]
              have h2 : BytesAt W' (adv aa2 ac2 D 1) q2 := by
                have := BytesAt.adv (k := D) (HA3.out.at.mono h) hl hac.1
                rwa [hD, ← Htl.out, ← hD] at this
              have := same01_any rb (adv aa2 ac2 D 1) q2.length rc2 (N - D) (ac2 - D) q2 q2 W' rfl (by rw [Hq2.out, hD]; exact (m64 N).symm) (Hqf.out.at.mono h) h2
              rwa [beq_self_eq_true] at this)
            have KS := Lib.hid (show ∀ w', Below wf.heap.size wf w' → (Below wf.heap.size wf w' ∧ w'.cell? ⟨n4, 0, none⟩ = some (.int .u32 (uv R2.a)) ∧ w'.cell? ⟨n4, 1, none⟩ = some (.int .u32 (uv R2.b)) ∧ w'.cell? ⟨n4, 2, none⟩ = some (.int .u32 (uv R2.c)) ∧ w'.cell? ⟨n4, 3, none⟩ = some (.int .u32 (uv R2.d)) ∧ w'.cell? ⟨n4, 4, none⟩ = some (.int .u32 (uv R2.e)) ∧ w'.cell? ⟨n4, 5, none⟩ = some (.int .u32 (uv R2.f)) ∧ w'.cell? ⟨n4, 6, none⟩ = some (.int .u32 (uv R2.g)) ∧ w'.cell? ⟨n4, 7, none⟩ = some (.int .u32 (uv R2.h)) ∧ w'.cell? ⟨n4, 8, none⟩ = some (.int .i64 (N : Int)) ∧ w'.cell? ⟨n4, 9, none⟩ = some (.slice rb q2.length rc2)) from fun w' hb => by
              obtain ⟨c0, c1, c2, c3, c4, c5, c6, c7, c8, c9⟩ := hash_cells (H4f.out.blk.up hb)
              exact ⟨hb, c0, c1, c2, c3, c4, c5, c6, c7, c8, c9⟩)
            have hr : ((N : Nat) : Int).tmod 64 = ((M : Nat) : Int) := by rw [hM]; exact rem64 N (le2000 hN)
            have hs : IntKind.i64.wrap (((N : Nat) : Int) - ((M : Nat) : Int)) = ((D : Nat) : Int) := by rw [hM, hD]; exact sub64I N (le2000 hN)
            have hsl := Hsl.out
            obtain ⟨hS0, c0, c1, c2, c3, c4, c5, c6, c7, c8, c9⟩ := KS.out wf (Below.refl _ _)
            clear hM hD hac Hsl
            go_region_held3 (fun w' => Below wf.heap.size wf w' ∧ w'.cell? ⟨n4, 0, none⟩ = some (.int .u32 (uv R2.a)) ∧ w'.cell? ⟨n4, 1, none⟩ = some (.int .u32 (uv R2.b)) ∧ w'.cell? ⟨n4, 2, none⟩ = some (.int .u32 (uv R2.c)) ∧ w'.cell? ⟨n4, 3, none⟩ = some (.int .u32 (uv R2.d)) ∧ w'.cell? ⟨n4, 4, none⟩ = some (.int .u32 (uv R2.e)) ∧ w'.cell? ⟨n4, 5, none⟩ = some (.int .u32 (uv R2.f)) ∧ w'.cell? ⟨n4, 6, none⟩ = some (.int .u32 (uv R2.g)) ∧ w'.cell? ⟨n4, 7, none⟩ = some (.int .u32 (uv R2.h)) ∧ w'.cell? ⟨n4, 8, none⟩ = some (.int .i64 (N : Int)) ∧ w'.cell? ⟨n4, 9, none⟩ = some (.slice rb q2.length rc2))
              (first
                | (apply KS.out; (with_reducible (first | assumption | (apply bt3 hb8; first | assumption | apply Below.refl | (apply btd; apply Below.refl)) | apply Below.refl | (apply btd; apply Below.refl))))
                | fail)
              (first
                | (go_at_call 21; go_split_ands; ((with_reducible refine Calls.mono (HRt.out _) ?_); rintro e w8 ⟨rfl, hb8⟩))
                | (go_at_call 11; go_split_ands; ((with_reducible refine Calls.mono (HSm.out _ (by assumption)) ?_); rintro e w9 ⟨rfl, rfl⟩)))
            go_split_ands
            go_wp2_with fail
            go_meet
            exact ⟨rfl, by assumption⟩
          case rest =>
            obtain ⟨rfl, hbc⟩ := hcut
            have hl : (A ++ r).length = N := by rw [List.length_append, HNe.out]
            have hE : PsAt w wc n4 rows (.slice aa2 N ac2) (.int .i64 ((k + 1 : Nat) : Int)) := by
              refine ⟨k + 1, aa2, ac2, rb, rc2, by omega, rfl, ?_, ?_, ?_, ?_, Hn.out.1, ?_, bt Hbf.out hbc⟩
              · rw [HN.out, hl]
              · rw [HN.out, hl]; exact HA3.out.up hbc
              · rw [HN.out, hl, HR2.out, HQ2.out]; exact H4f.out.up hbc
              · rw [HN.out, HQ2.out]; exact Hqf.out.up hbc
              · exact Nat.lt_of_lt_of_le H4f.out.blk.lt hbc.size
            have HE := Lib.hid hE
            clear hE hl hbc
            go_wp2_with fail
            rw [nextY k rows.length hlt Hrl.out]
            exact ⟨HE.out, measY _ _ hlt⟩
      · obtain rfl : k = rows.length := by omega
        rw [List.take_length] at hA h4 hq Hsum
        try rw [List.take_length]
        generalize rows.flatten = A at hA h4 hq Hsum ⊢
        have HSum := Lib.hid (sumP A (by have := Hsum.out; omega))
        have HOf := Lib.hid (ofP A aa ac (by have := Hsum.out; omega))
        have HPut := Lib.hid (putP A aa ac (by have := Hsum.out; omega))
        have Hl32 := Lib.hid (ofF_length A)
        generalize ofF A = D at HSum HOf Hl32
        generalize putS iv A = R at h4 HSum HPut
        generalize putR A = q at h4 hq HSum HPut
        have HA := Lib.hid hA
        have H4 := Lib.hid h4
        have Hq := Lib.hid hq
        have Hb := Lib.hid hb
        clear hA h4 hq hb hn1 hn2 hlt hk
        go_wp2_with fail
        refine (new_any _).mono ?_; rintro e w5 ⟨rfl, hb5⟩
        have Hb5 := Lib.hid hb5
        clear hb5
        go_wp2_with fail
        refine (HPut.out _ (HA.out.at.mono Hb5.out) (Hk.out.mono (bt Hb.out Hb5.out))).mono ?_; rintro e w6 ⟨a6, cp6, rfl, hat6, hb6⟩
        have Hb6 := Lib.hid (bt Hb5.out hb6)
        have Hat6 := Lib.hid hat6
        clear hb6 hat6
        go_upto_region 14 with (fail)
        generalize hW : World.alloc w6 _ = W
        have h7 : Blk W w6.heap.size (hashC R (A.length : Int) a6 q.length cp6) := by rw [← hW]; exact Blk.new w6 (hashC R (A.length : Int) a6 q.length cp6) 36
        have hbW : Below wr.heap.size wr W := by rw [← hW]; exact bt Hb6.out (ba w6 _)
        have hat7 : BytesAt W a6 q := by rw [← hW]; exact Hat6.out.mono (ba w6 _)
        have h4W := H4.out.blk.up hbW
        obtain ⟨c0, c1, c2, c3, c4, c5, c6, c7, c8, c9⟩ := hash_cells h4W
        obtain ⟨d0, d1, d2, d3, d4, d5, d6, d7, d8, d9⟩ := hash_cells h7
        clear hW h7 h4W
        have HbW := Lib.hid hbW
        have Hat7 := Lib.hid hat7
        clear hbW hat7
        go_wp2_with fail
        refine (same02_yes R (A.length : Int) ra a6 q.length rc q.length cp6 q W rfl rfl (Hq.out.at.mono HbW.out) Hat7.out).mono ?_; rintro e w8 ⟨rfl, hb8⟩
        have Hb8 := Lib.hid (bt HbW.out hb8)
        clear c0 c1 c2 c3 c4 c5 c6 c7 c8 c9 d0 d1 d2 d3 d4 d5 d6 d7 d8 d9 hb8
        obtain ⟨c0, c1, c2, c3, c4, c5, c6, c7, c8, c9⟩ := hash_cells (H4.out.blk.up Hb8.out)
        go_wp2_with fail
        refine (HSum.out ra rc w8 (Hq.out.at.mono Hb8.out) (Hk.out.mono (bt Hb.out Hb8.out))).mono ?_; rintro e w9 ⟨b9, cb9, rfl, hat9, hb9⟩
        have Hb9 := Lib.hid (bt Hb8.out hb9)
        have Hat9 := Lib.hid hat9
        clear hb9 hat9 c0 c1 c2 c3 c4 c5 c6 c7 c8 c9
        go_wp2_with fail
        refine (HOf.out w9 (HA.out.at.mono Hb9.out) (Hk.out.mono (bt Hb.out Hb9.out))).mono ?_; rintro e w10 ⟨b10, cb10, rfl, hat10, hb10⟩
        have Hb10 := Lib.hid (bt Hb9.out hb10)
        have Hat9 := Lib.hid (Hat9.out.mono hb10)
        have Hat10 := Lib.hid hat10
        clear hb10 hat10
        have Hsm := Lib.hid (same01_any b9 b10 32 cb9 32 cb10 D D w10 Hl32.out.symm Hl32.out.symm Hat9.out Hat10.out)
        rw [beq_self_eq_true] at Hsm
        go_wp2_with fail
        refine Hsm.out.mono ?_; rintro e w11 ⟨rfl, rfl⟩
        go_wp2_with fail
        refine (HOf.out w10 (HA.out.at.mono Hb10.out) (Hk.out.mono (bt Hb.out Hb10.out))).mono ?_; rintro e w12 ⟨b12, cb12, rfl, hat12, hb12⟩
        go_wp2_with fail
        go_ret
        exact ⟨rfl, bt (bt Hb.out Hb10.out) hb12⟩
  · rw [if_neg ht] at hc
    have Hc := Lib.hid hc
    clear hc ht
    refine Hc.out.mono ?_; rintro e w2 ⟨rfl, rfl⟩
    go_wp2_with fail
    go_ret
    exact ⟨rfl, Hb1.out⟩
theorem shaPieces_in (hsh : ShownOK) (w : World) (hk : KeysAt w) (a : Option Addr) (len cap : Nat) (rows : List (List UInt8)) (h : InRows w a len cap rows) :
    Calls Tryd.prog 6 #[.slice a len cap] w (BoolOut w true) := by
  obtain ⟨rfl, h1, h2, h3⟩ := h
  exact shaPieces_any hsh a cap rows w h3 (Nat.le_trans h1 h2) hk
end Go.Proofs.YtmcbhffkaaaijaaDoor
