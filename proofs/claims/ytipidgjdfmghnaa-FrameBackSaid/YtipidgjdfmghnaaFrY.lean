/- The walk of the law FramePieces. -/
import Derived.Test.YtipidgjdfmghnaaFrN
import Derived.Test.YtipidgjdfmghnaaFrW
import Derived.Test.YtipidgjdfmghnaaFrX
import Derived.Deep.DeepCutAuto
import Derived.Deep.RegionHeld3
set_option linter.unusedSimpArgs false
set_option linter.unusedVariables false
namespace Go.Proofs.Ytipidgjdfmghnaa
open Go.RowKit

theorem BlkT.grownT {T e : TypeId} {base size n b : Nat} {w w' : World} {v : Value} {xs cs : List Value} (h : BlkT T w b cs) (hT : T ≠ e) (hown : w.ownsRow base e size v n xs) (hg : w.grownBy w' v.ownBlock) : BlkT T w' b cs := by
  unfold BlkT
  rw [hg.block b h.blk.lt fun hv => ?_]
  · exact h
  · rcases hown.2 with ⟨rfl, -⟩ | ⟨g, cap, cur, rfl, -, hg', -⟩
    · simp [Value.ownBlock] at hv
    · simp [Value.ownBlock] at hv
      subst hv
      rw [show w.heap[b]? = _ from h] at hg'
      injection hg' with hg'; injection hg' with _ k2 _; exact hT k2
theorem Own.rowT {T : TypeId} {B g : Nat} {w : World} {v : Value} {n : Nat} {xs cs : List Value} (h : Own B w v n xs) (hb : BlkT T w g cs) (hT : T ≠ 22) (ds : Array Value) : Own B (w.setRow g ds) v n xs := by
  obtain ⟨⟨h1, h2⟩, h3⟩ := h
  refine ⟨⟨h1, ?_⟩, by simpa using h3⟩
  rcases h2 with h2 | ⟨g', cap, cur, hv, hg', hh, r⟩
  · exact .inl h2
  · refine .inr ⟨g', cap, cur, hv, hg', ?_, r⟩
    rw [setRow_other w g g' ds ?_]
    · exact hh
    · rintro rfl
      rw [show w.heap[g']? = _ from hb] at hh
      injection hh with hh; injection hh with _ k2 _; exact hT k2
theorem flat_snoc (rows : List (List UInt8)) (k : Nat) (h : k < rows.length) : (rows.take (k + 1)).flatten = (rows.take k).flatten ++ rows.getD k [] := by
  rw [take_snoc rows k h []]; simp
theorem flat_len (rows : List (List UInt8)) : rows.flatten.length = sumL rows := by simp [sumL, List.length_flatten]
theorem run_flat (s : Fd) (A r : List UInt8) : (runF s (A ++ r)).1 = (runF (runF s A).1 r).1 ∧ (runF s (A ++ r)).2 = (runF s A).2 ++ (runF (runF s A).1 r).2 := by
  rw [runF_append]; exact ⟨rfl, rfl⟩
/-- what is behind the push of a piece -/
def PcAt (w0 wx : World) (T : Fd × List (List UInt8)) (v10 v11 : Value) : Prop := ∃ (b10 : Nat) (y : Fv) (ca : Option Addr) (cc : Nat) (vs : List Value), v10 = .pointer (some ⟨b10, 0, none⟩) ∧ v11 = .slice ca T.2.length cc ∧ BlkT 24 wx b10 y.L ∧ FdAt wx y T.1 ∧ FreshK w0.heap.size wx y.a (B8s T.1.buf) ∧
  Own w0.heap.size wx (.slice ca T.2.length cc) T.2.length vs ∧ RowsF w0.heap.size wx vs T.2 ∧ Below w0.heap.size w0 wx
theorem FdAt.fresh {lo : Nat} {w w' : World} {f : Fv} {s : Fd} (h : FdAt w f s) (k : FreshK lo w' f.a (B8s s.buf)) : FdAt w' f s := ⟨h.len, h.le, h.cap, AtP.at k, h.skip, h.bad⟩
theorem FdAt.sep {v : Value} {B : Nat} {w w' : World} {f : Fv} {s : Fd} (h : FdAt w f s) (k : KeepS v B w' f.a (B8s s.buf)) : FdAt w' f s := ⟨h.len, h.le, h.cap, AtP.at k, h.skip, h.bad⟩
theorem FreshK.weak' {lo lo' : Nat} {w : World} {a : Option Addr} {cs : List Value} (h : FreshK lo w a cs) (hl : lo' ≤ lo) : FreshK lo' w a cs := FreshK.weak h hl
theorem RowsF.weak {lo lo' : Nat} {w : World} {vs : List Value} {rows : List (List UInt8)} (h : RowsF lo w vs rows) (hl : lo' ≤ lo) : RowsF lo' w vs rows := ⟨h.1, fun i hi => by
  obtain ⟨p, c, h1, h2, h3, h4⟩ := h.2 i hi
  exact ⟨p, c, h1, h2, h3, FreshK.weak h4 hl⟩⟩

theorem w64Y (x : Int) (h1 : -9223372036854775808 ≤ x) (h2 : x ≤ 9223372036854775807) : wrap64 x = x := by unfold wrap64; omega
theorem measY (n k : Nat) (h : k < n) : n - (intOf (.int .i64 ((k + 1 : Nat) : Int))).toNat < n - (intOf (.int .i64 (k : Int))).toNat := by simp only [intOf]; omega
/-- the loop's state behind so many pieces -/
def PiAt (w wx : World) (n8 : Nat) (f : Fv) (s : Fd) (rows : List (List UInt8)) (v6 v7 v9 : Value) : Prop :=
  ∃ (k : Nat) (aa : Option Addr) (ac : Nat) (oa : Option Addr) (oc : Nat) (vs : List Value) (x : Fv), k ≤ rows.length ∧ v9 = .int .i64 (k : Int) ∧ v6 = .slice aa (rows.take k).flatten.length ac ∧ v7 = .slice oa (runF s (rows.take k).flatten).2.length oc ∧
    OwnB w.heap.size wx v6 (rows.take k).flatten.length (B8s (rows.take k).flatten) ∧ Own w.heap.size wx v7 (runF s (rows.take k).flatten).2.length vs ∧ RowsS v6 w.heap.size wx vs (runF s (rows.take k).flatten).2 ∧
    BlkT 24 wx n8 x.L ∧ BlkT 24 wx w.heap.size f.L ∧ FdAt wx x (runF s (rows.take k).flatten).1 ∧ KeepS v6 w.heap.size wx x.a (B8s (runF s (rows.take k).flatten).1.buf) ∧ Below w.heap.size w wx

set_option maxRecDepth 100000 in
set_option maxHeartbeats 8000000 in
theorem framePieces_any (hsh : Shown08OK) (f : Fv) (s : Fd) (a : Option Addr) (cap : Nat) (rows : List (List UInt8)) (w : World) (hin : FdAt w f s) (hr : RowsAt w a rows) (hrl : rows.length ≤ maxLen) :
    Calls Try.prog 5 #[f.v, .slice a rows.length cap] w (BoolOut w true) := by
  have Hsh := Lib.hid hsh
  have Hin := Lib.hid hin
  have Hr := Lib.hid hr
  have Hrl := Lib.hid hrl
  have HI := Lib.hid feed_info
  clear hsh hin hr hrl
  rcases hR : rightF s with _ | _
  all_goals
    have HR := Lib.hid hR
    clear hR
    go_enter Try.func5, Try.ntmps5
    go_wp2_with fail
    refine (Hsh.out _).mono ?_; rintro e w1 ⟨rfl, hb1⟩
    have H2 := Lib.hid ((BlkT.new w f.L 24).up hb1)
    have Hb := Lib.hid (bt (ba w _) hb1)
    obtain ⟨c0, c1, c2⟩ := cells3 H2.out.blk
    clear hb1
    go_wp2_with fail
    have hc := refRight_any f s w1 (Hin.out.mono Hb.out)
    rw [HR.out] at hc
    refine hc.mono ?_; rintro e w2 ⟨rfl, hb2⟩
    replace H2 := Lib.hid (H2.out.up hb2)
    replace Hb := Lib.hid (bt Hb.out hb2)
    clear c0 c1 c2 hb2 hc
    obtain ⟨c0, c1, c2⟩ := cells3 H2.out.blk
  · go_wp2_with fail
    go_ret
    exact ⟨rfl, Hb.out⟩
  · go_wp2_with fail
    have hc := long_any a cap rows 2000 w2 (by decide) Hrl.out (Hr.out.mono Hb.out)
    by_cases ht : totalF rows ≤ 2000
    · rw [if_pos ht] at hc
      have Hc := Lib.hid hc
      have Ht := Lib.hid ht
      have hd : ¬ (2000 : Int) < ((totalF rows : Nat) : Int) := by omega
      clear hc ht
      refine Hc.out.mono ?_; rintro e w3 ⟨rfl, rfl⟩
      have hbA := bta (ba w3 (.cells #[] 5)) (.cells #[] 22)
      have H2A := Lib.hid (H2.out.up hbA)
      clear c0 c1 c2
      obtain ⟨c0, c1, c2⟩ := cells3 H2A.out.blk
      go_wp2_with fail
      have hbB := ba ((w3.alloc (.cells #[] 5)).alloc (.cells #[] 22)) (.cells f.L.toArray 24)
      have hsz := size_alloc (w3.alloc (.cells #[] 5)) (.cells #[] 22)
      have h8 : BlkT 24 (((w3.alloc (.cells #[] 5)).alloc (.cells #[] 22)).alloc (.cells f.L.toArray 24)) (w3.heap.size + 1 + 1) f.L := by
        have := BlkT.new ((w3.alloc (.cells #[] 5)).alloc (.cells #[] 22)) f.L 24
        rw [hsz, size_alloc] at this; exact this
      have hA : OwnB w.heap.size (w3.alloc (.cells #[] 5)) (.slice (some ⟨w3.heap.size, 0, none⟩) 0 0) 0 [] :=
        ⟨⟨rfl, .inr ⟨w3.heap.size, 0, #[], rfl, Hb.out.size, by simp only [World.alloc, Array.getElem?_push, if_true], Nat.le_refl _, Nat.zero_le _, rfl, rfl⟩⟩, by rw [size_alloc]; have := Hb.out.size; omega⟩
      have hO : Own w.heap.size ((w3.alloc (.cells #[] 5)).alloc (.cells #[] 22)) (.slice (some ⟨w3.heap.size + 1, 0, none⟩) 0 0) 0 [] :=
        ⟨⟨rfl, .inr ⟨w3.heap.size + 1, 0, #[], rfl, by have := Hb.out.size; omega, (by have := BlkT.new (w3.alloc (.cells #[] 5)) [] 22; rw [size_alloc] at this; exact this), Nat.le_refl _, Nat.zero_le _, rfl, rfl⟩⟩, by rw [size_alloc, size_alloc]; have := Hb.out.size; omega⟩
      have hA2 := (hA.up (ba _ (.cells #[] 22))).up hbB
      have hO2 := hO.up hbB
      have hb4 := bt Hb.out (bt hbA hbB)
      have h24 := H2A.out.up hbB
      have HS := Lib.hid (show PiAt w (((w3.alloc (.cells #[] 5)).alloc (.cells #[] 22)).alloc (.cells f.L.toArray 24)) (w3.heap.size + 1 + 1) f s rows (.slice (some ⟨w3.heap.size, 0, none⟩) 0 0) (.slice (some ⟨w3.heap.size + 1, 0, none⟩) 0 0) (.int .i64 0) from
        ⟨0, _, 0, _, 0, [], f, Nat.zero_le _, rfl, rfl, rfl, hA2, hO2, RowsS.nil _ _ _, h8, h24, Hin.out.mono hb4, KeepS.of_old Hin.out.buf hb4 hA2 (Nat.le_refl _) (Nat.le_refl _), hb4⟩)
      have Hn8 := Lib.hid (show w.heap.size < w3.heap.size + 1 + 1 by have := Hb.out.size; omega)
      clear hbA hbB hsz h8 hA hO hA2 hO2 hb4 h24 c0 c1 c2 hd H2 H2A Hc
      generalize w3.heap.size + 1 + 1 = n8 at HS Hn8 ⊢
      go_loopw [6, 7, 9] (fun v6 v7 v9 wx => PiAt w wx n8 f s rows v6 v7 v9) (fun _ _ v9 _ => rows.length - (intOf v9).toNat)
      case atStart => exact HS.out
      case round =>
        clear HS Hb
        obtain ⟨k, aa, ac, oa, oc, vs, x, hk, rfl, rfl, rfl, hA, hO, hS, h8, h2, hX, hXk, hb⟩ := hrel
        have Hsum := Lib.hid (show (rows.take k).flatten.length ≤ 2000 by have h1 := sumL_le rows k; have h2 := flat_len (rows.take k); have h3 := Ht.out; unfold totalF at h3; unfold sumL at *; omega)
        have Hrt := Lib.hid (run_stays HR.out (rows.take k).flatten)
        have Hrows := Lib.hid (rows_le s (rows.take k).flatten)
        by_cases hlt : k < rows.length
        · obtain ⟨g, o, rp, rc, rfl, hgl, ck, hr1, hr2, hr3⟩ := Hr.out.old hb k hlt
          have HN1 := Lib.hid (flat_snoc rows k hlt)
          have Hsum2 := Lib.hid (show (rows.getD k []).length ≤ 2000 by have h1 := sumL_le rows (k + 1); have h2 := sumL_snoc rows k hlt; have h3 := Ht.out; unfold totalF at h3; unfold sumL at *; omega)
          generalize rows.getD k [] = r at ck hr1 hr3 HN1 Hsum2
          have HN2 := Lib.hid (run_flat s (rows.take k).flatten r)
          have Hry := Lib.hid (run_stays Hrt.out r)
          have Hrl2 := Lib.hid (rows_le (runF s (rows.take k).flatten).1 r)
          have Hpush := Lib.hid (show ∀ W', Below wr.heap.size wr W' → Calls Try.prog 17 #[x.v, .slice rp r.length rc] W' (PushOutF W' (runF (runF s (rows.take k).flatten).1 r)) from fun W' h =>
            push_fresh x _ rp rc r W' W'.heap.size (Nat.le_refl _) (hX.mono h) Hrt.out ((hr3.mono hb).mono h) (by have := Hsum2.out; omega))
          rw [← HN1.out] at HN2
          generalize (rows.take k).flatten = A at hA hO hS hX hXk HN1 HN2 Hsum Hrows Hrt Hry Hrl2 Hpush
          generalize runF s A = TA at hO hS hX hXk HN2 Hrows Hrt Hry Hrl2 Hpush
          generalize runF TA.1 r = T2 at HN2 Hry Hrl2 Hpush
          have HA := Lib.hid hA
          have HO := Lib.hid hO
          have HS := Lib.hid hS
          have H8 := Lib.hid h8
          have H2 := Lib.hid h2
          have Hb := Lib.hid hb
          have Hr3 := Lib.hid (And.intro hr3 hgl)
          clear hA hO hS h8 h2 hX hXk hb hr1 hr2 hr3
          obtain ⟨c0, c1, c2⟩ := cells3 H8.out.blk
          go_wp2_with fail
          go_cut [10, 11] (fun v10 v11 wx => PcAt wr wx T2 v10 v11)
          case first =>
            have KS := Lib.hid (show ∀ w', Below wr.heap.size wr w' → (Below wr.heap.size wr w' ∧ w'.cell? ⟨n8, 0, none⟩ = some (.slice x.a x.len x.cap) ∧ w'.cell? ⟨n8, 1, none⟩ = some (.int .i64 x.skip) ∧ w'.cell? ⟨n8, 2, none⟩ = some (.int .i64 x.bad) ∧ w'.cell? ⟨g, o + k, none⟩ = some (.slice rp r.length rc)) from fun w' hb => by
              obtain ⟨c0, c1, c2⟩ := cells3 (H8.out.up hb).blk
              exact ⟨hb, c0, c1, c2, by rw [hb.cell (p := ⟨g, o + k, none⟩) (Nat.lt_of_lt_of_le hgl Hb.out.size)]; exact ck⟩)
            obtain ⟨hS0, q0, q1, q2, q3⟩ := KS.out wr (Below.refl _ _)
            clear ck c0 c1 c2
            go_region_held3 (fun w' => Below wr.heap.size wr w' ∧ w'.cell? ⟨n8, 0, none⟩ = some (.slice x.a x.len x.cap) ∧ w'.cell? ⟨n8, 1, none⟩ = some (.int .i64 x.skip) ∧ w'.cell? ⟨n8, 2, none⟩ = some (.int .i64 x.bad) ∧ w'.cell? ⟨g, o + k, none⟩ = some (.slice rp r.length rc))
              (first
                | (apply KS.out; (with_reducible ((try apply bta); (try (apply rset3_below; rotate_left; first | apply Nat.le_refl)); (try apply bta); (try apply bt3 hb5); (try apply bta); (first | apply Below.refl | (apply btd; (try apply bta); apply Below.refl)))))
                | fail)
              ((go_at_call 17; go_split_ands; ((with_reducible refine Calls.mono (Hpush.out _ (by assumption)) ?_); rintro e w5 ⟨y, ya, yc, vs5, rfl, hY, hYk, hYO, hYR, hb5⟩; (try ((with_reducible have z1 := BlkT.up (BlkT.new _ F0 _) hb5); have fz1 := z1.blk.frozen; have lz1 := z1.blk.lt; obtain ⟨x0, x1, x2⟩ := cells3 z1.blk)); (try ((with_reducible have z1 := BlkT.up (BlkT.new _ F0 _).drew hb5); have fz1 := z1.blk.frozen; have lz1 := z1.blk.lt; obtain ⟨x0, x1, x2⟩ := cells3 z1.blk)))))
            all_goals
              go_split_ands
              go_wp2_with fail
              go_meet
            · exact ⟨w5.heap.size, y, ya, yc, vs5, rfl, rfl, BlkT.new w5 y.L _, hY.mono (ba w5 _), FreshK.safe hYk (Safe.below (B := 0) (ba w5 _)), hYO.up (ba w5 _), RowsF.safe hYR (Safe.below (B := 0) (ba w5 _)), by assumption⟩
            · have zz : BlkT 24 w5 wr.heap.size F0 := z1
              have sf : Safe 0 w5 _ := safe_rset3 (v0 := .slice y.a y.len y.cap) (v1 := .int .i64 y.skip) (v2 := .int .i64 y.bad) zz (by decide) (Nat.zero_le _)
              have hlw : wr.heap.size < (wr.alloc (.cells F0.toArray 24)).heap.size := by rw [size_alloc]; omega
              exact ⟨wr.heap.size, y, ya, yc, vs5, rfl, rfl, rset3 zz, hY.fresh (FreshK.safe hYk sf), FreshK.weak (FreshK.safe hYk sf) (Nat.le_of_lt hlw), (((hYO.set hlw _).set hlw _).set hlw _).weak (Nat.le_of_lt hlw), RowsF.weak (RowsF.safe hYR sf) (Nat.le_of_lt hlw), by assumption⟩
          case rest =>
            obtain ⟨b10, y, ca, cc, vs5, rfl, rfl, h10, hY, hYk, hYO, hYR, hbc⟩ := hcut
            have Hckw := Lib.hid ((Hb.out.cell (p := ⟨g, o + k, none⟩) hgl).symm.trans ck)
            obtain ⟨e0, e1, e2⟩ := cells3 h10.blk
            clear ck c0 c1 c2 Hpush
            go_wp2_with fail
            have hc := refRight_any y T2.1 wc hY
            rw [Hry.out] at hc
            refine hc.mono ?_; rintro e wd ⟨rfl, hbd⟩
            have hbd2 := bt hbc hbd
            have HOd := Lib.hid (HO.out.up hbd2)
            have HAd := Lib.hid (HA.out.up hbd2)
            have HSd := Lib.hid (HS.out.map fun p cs h => KeepS.safe h (Safe.below hbd2))
            have H8d := Lib.hid (H8.out.up hbd2)
            have H2d := Lib.hid (H2.out.up hbd2)
            have H10d := Lib.hid (h10.up hbd)
            have Hbd := Lib.hid (bt Hb.out hbd2)
            have HYd := Lib.hid (hY.mono hbd)
            have HYkd := Lib.hid (FreshK.safe hYk (Safe.below (B := 0) hbd))
            have HYOd := Lib.hid (hYO.up hbd)
            have HYRd := Lib.hid (RowsF.safe hYR (Safe.below (B := 0) hbd))
            clear h10 hY hYk hYO hYR hbc hbd hbd2 hc e0 e1 e2
            have hl1 : TA.2.length + T2.2.length ≤ 1099511627776 := by have h1 := Hrows.out; have h2 := Hrl2.out; have h3 := Hsum.out; have h4 := Hsum2.out; omega
            have hl2 : A.length + r.length ≤ 1099511627776 := by have h3 := Hsum.out; have h4 := Hsum2.out; omega
            have Hl := Lib.hid (And.intro hl1 hl2)
            clear hl1 hl2
            go_wp2_with (first
              | (at_builtin; (refine wpList_ownB (.tmp 48) (.tmp 52) rfl rfl rfl HAe.out (news := B8s r) (m := r.length) rfl (Hr3.out.1.mono Hbe.out) (by simp) (bytes_one r) Hl.out.2 ?_; intro aa2 ac2 wf hA3 hg3 hat3; have HSf := Lib.hid (HSe.out.map fun p cs h => KeepS.grown h hg3 hat3); have HYkf := Lib.hid (KeepS.grown (KeepS.of_fresh (B := w.heap.size) HYke.out HA.out (Nat.le_refl _)) hg3 hat3); have HYRf := Lib.hid ((RowsF.sep HYRe.out fun p cs h => KeepS.of_fresh (B := w.heap.size) h HA.out (Nat.le_refl _)).map fun p cs h => KeepS.grown h hg3 hat3); have H8f := Lib.hid (H8e.out.grownT (by decide) HAe.out.own hg3); have H2f := Lib.hid (H2e.out.grownT (by decide) HAe.out.own hg3); have H10f := Lib.hid (H10e.out.grownT (by decide) HAe.out.own hg3); have HOf := Lib.hid (HO2.out.grownB HAe.out hg3); have Hbf := Lib.hid (below_own Hbe.out HAe.out.own hg3 HAe.out.le (Nat.le_refl _)); have HA3 := Lib.hid hA3; clear hA3 hg3 hat3 cke))
              | (at_builtin; go_must (refine wpList_own (.tmp 45) (.tmp 46) rfl rfl rfl HOd.out (news := vs5) rfl HYOd.out.at HYRd.out.1 (HYRd.out.of).cells Hl.out.1 (TA.2.length + T2.2.length) rfl ?_; intro oa2 oc2 we hO2 hg2; have sfe := Safe.grown (B := w.heap.size) HOd.out.own hg2 (by decide) (Nat.le_refl _); have HAe := Lib.hid (HAd.out.safe sfe); have HSe := Lib.hid (HSd.out.map fun p cs h => KeepS.safe h sfe); have H8e := Lib.hid (H8d.out.grownT (by decide) HOd.out.own hg2); have H2e := Lib.hid (H2d.out.grownT (by decide) HOd.out.own hg2); have H10e := Lib.hid (H10d.out.grownT (by decide) HOd.out.own hg2); have HYke := Lib.hid (FreshK.safe HYkd.out sfe); have HYRe := Lib.hid (RowsF.safe HYRd.out sfe); have Hbe := Lib.hid (below_own Hbd.out HOd.out.own hg2 HOd.out.le (Nat.le_refl _)); have cke := (Hbe.out.cell (p := ⟨g, o + k, none⟩) Hr3.out.2).trans Hckw.out; have HO2 := Lib.hid hO2; clear hO2 hg2 sfe))
              | ((with_reducible show wpList _ _ _ _ _ _); refine wpList_load_blk 24 (.tmp 10) b10 (cs := y.L) rfl rfl rfl ?hb Try.underlying24 rfl HI.out ?_; (case hb => exact H10f.out.blk))
              | ((with_reducible show wpList _ _ _ _ _ _); refine wpList_store_blk 24 (.tmp 8) (.tmp 54) n8 (old := x.L) (cs := y.L) rfl rfl rfl rfl ?hb HI.out rfl rfl ?_; (case hb => exact H8f.out.blk)))
            have sfg := Safe.row (B := w.heap.size) H8f.out (by decide) (Nat.le_of_lt Hn8.out) y.L.toArray
            have f1 := HA3.out.safe sfg
            have f2 := HOf.out.rowT H8f.out (by decide) y.L.toArray
            have f3 := (HSf.out.app HYRf.out).map fun p cs h => KeepS.safe h sfg
            have f4 := H8f.out.row y.L
            have f5 := H2f.out.rowOther n8 (by have := Hn8.out; omega) y.L.toArray
            have f6 := KeepS.safe HYkf.out sfg
            have f7 := below_setRow Hbf.out (Nat.le_of_lt Hn8.out) y.L.toArray
            rw [← List.map_append] at f1
            rw [← HN2.out.1] at f6
            rw [← HN2.out.2] at f3
            have hYd := HYd.out
            rw [← HN2.out.1] at hYd
            have g1 : A.length + r.length = (rows.take (k + 1)).flatten.length := by rw [HN1.out, List.length_append]
            have g2 : TA.2.length + T2.2.length = (runF s (rows.take (k + 1)).flatten).2.length := by rw [HN2.out.2, List.length_append]
            rw [← HN1.out, g1] at f1
            rw [g2] at f2
            rw [g1] at f3 f6
            have hw : wrap64 ((k : Int) + 1) = ((k + 1 : Nat) : Int) := by have := Hrl.out; unfold maxLen at this; rw [show ((k : Int) + 1) = ((k + 1 : Nat) : Int) by omega]; exact w64Y _ (by omega) (by omega)
            rw [hw]
            refine ⟨⟨k + 1, aa2, ac2, oa2, oc2, vs ++ vs5, y, hlt, rfl, by rw [g1], by rw [g2], by rw [g1]; exact f1, by rw [g2]; exact f2, by rw [g1]; exact f3, f4, f5, hYd.sep f6, by rw [g1]; exact f6, f7⟩, measY rows.length k hlt⟩
        · obtain rfl : k = rows.length := by omega
          rw [List.take_length] at hA hO hS hX hXk Hsum ⊢
          generalize rows.flatten = A at hA hO hS hX hXk Hsum ⊢
          have HA := Lib.hid hA.at
          have Hn2 := Lib.hid (rows_bound hO)
          have HR2 := Lib.hid (show RowsAt wr oa (runF s A).2 from ⟨vs, hO.at, hS.of⟩)
          have H8 := Lib.hid h8
          have HX := Lib.hid hX
          have Hb := Lib.hid hb
          obtain ⟨c0, c1, c2⟩ := cells3 h2.blk
          obtain ⟨d0, d1, d2⟩ := cells3 h8.blk
          clear hA hO hS h8 hX hXk hb h2 Hrt Hrows
          go_wp2_with fail
          refine (push_any f s aa ac A wr wr.heap.size (Nat.le_refl _) (Hin.out.mono Hb.out) HR.out HA.out (by have := Hsum.out; omega)).mono ?_; rintro e w3 ⟨f1, a1, k1, vs1, rfl, hF1, -, hO1, hR1, hb3⟩
          obtain ⟨fa, fl, fc, fs, fb⟩ := f1
          have H3 := Lib.hid (BlkT.new w3 [.slice fa fl fc, .int .i64 fs, .int .i64 fb] 24)
          have hbX := bt hb3 (ba w3 (.cells #[.slice fa fl fc, .int .i64 fs, .int .i64 fb] 24))
          have HF1 := Lib.hid (hF1.mono (ba w3 (.cells #[.slice fa fl fc, .int .i64 fs, .int .i64 fb] 24)))
          have HR1 := Lib.hid ((FdAt.rows_len hO1 hR1).mono (ba w3 (.cells #[.slice fa fl fc, .int .i64 fs, .int .i64 fb] 24)))
          have Hn1 := Lib.hid (rows_bound hO1)
          replace H8 := Lib.hid (H8.out.up hbX)
          replace HX := Lib.hid (HX.out.mono hbX)
          replace HR2 := Lib.hid (HR2.out.mono hbX)
          replace Hb := Lib.hid (bt Hb.out hbX)
          clear c0 c1 c2 d0 d1 d2 hb3 hbX hF1 hO1 hR1
          obtain ⟨d0, d1, d2⟩ := cells3 H8.out.blk
          obtain ⟨e0, e1, e2⟩ := cells3 H3.out.blk
          go_wp2_with fail
          have hc := refSame_any _ _ _ _ _ HX.out HF1.out
          rw [beq_self_eq_true, beq_self_eq_true, beq_self_eq_true] at hc
          refine hc.mono ?_; rintro e w5 ⟨rfl, hb5⟩
          have HC := Lib.hid (rows_any oa a1 oc k1 _ _ w5 Hn2.out Hn1.out (HR2.out.mono hb5) (HR1.out.mono hb5))
          rw [beq_self_eq_true] at HC
          replace Hb := Lib.hid (bt Hb.out hb5)
          clear d0 d1 d2 e0 e1 e2 hc hb5
          go_wp2_with fail
          refine HC.out.mono ?_; rintro e w6 ⟨rfl, hb6⟩
          go_wp2_with fail
          go_ret
          exact ⟨rfl, bt Hb.out hb6⟩
    · rw [if_neg ht] at hc
      have Hc := Lib.hid hc
      clear hc ht
      refine Hc.out.mono ?_; rintro e w3 ⟨rfl, rfl⟩
      go_wp2_with fail
      go_ret
      exact ⟨rfl, Hb.out⟩
end Go.Proofs.Ytipidgjdfmghnaa
