/- Frames: the walk of the program's Push. -/
import Derived.Test.YtcccgjpmfbmplaaFrH
import Derived.WalkMore
set_option linter.unusedSimpArgs false
set_option linter.unusedVariables false
namespace Go.Proofs.Ytcccgjpmfbmplaa
open Go.RowKit

/-- what a push answers, and where it lies -/
def PushOutF (w : World) (T : Fd × List (List UInt8)) (e : Ending) (w' : World) : Prop :=
  ∃ (f : Fv) (a : Option Addr) (c : Nat) (vs : List Value), e = .returned (.tuple #[f.v, .slice a T.2.length c]) ∧ FdAt w' f T.1 ∧ FreshK w.heap.size w' f.a (B8s T.1.buf) ∧ Own w.heap.size w' (.slice a T.2.length c) T.2.length vs ∧ RowsF w.heap.size w' vs T.2 ∧ Below w.heap.size w w'
def slLen : Value → Nat
  | .slice _ n _ => n
  | _ => 0
/-- what is to be passed over, as the feed's block tells it -/
def skipAt (w : World) (b : Nat) : Int := match w.cell? ⟨b, 1, none⟩ with
  | some (.int _ k) => k
  | _ => 0
theorem skipAt_of {T : TypeId} {w : World} {b : Nat} {v0 v2 : Value} {k : Int} (h : BlkT T w b [v0, .int .i64 k, v2]) : skipAt w b = k := by
  unfold skipAt; rw [(cells3 h.blk).2.1]
/-- how much is left -/
def leftOf (b : Nat) (v : Value) (w : World) : Nat := 2 * slLen v + (if skipAt w b = 0 then 1 else 0)
/-- the loop's state: the bytes that are left, the frames so far -/
def PushAt (B : Nat) (w wx : World) (f : Fv) (T : Fd × List (List UInt8)) (total : Nat) (v6 v7 : Value) : Prop :=
  ∃ (A : List UInt8) (aa : Option Addr) (ac : Nat) (rows : List (List UInt8)) (oa : Option Addr) (oc : Nat) (vs : List Value) (q : Nat) (bd : Int), v6 = .slice aa A.length ac ∧ v7 = .slice oa rows.length oc ∧
    A.length ≤ ac ∧ ac ≤ maxLen ∧ FreshK w.heap.size wx aa (B8s A) ∧ Own (w.heap.size + 2) wx v7 rows.length vs ∧ RowsF w.heap.size wx vs rows ∧
    BlkT 25 wx w.heap.size [.slice f.a f.len f.cap, .int .i64 (q : Int), .int .i64 bd] ∧ BlkT 25 wx (w.heap.size + 1) F0 ∧
    T.1 = (R q bd A).1 ∧ T.2 = rows ++ (R q bd A).2 ∧ rows.length + A.length ≤ total ∧ q ≤ 70000 ∧ Below w.heap.size w wx
/-- what closes the walk behind the loop -/
theorem push_fin {B : Nat} {w Wt : World} (hB : B ≤ w.heap.size) {T : Fd × List (List UInt8)} {rows : List (List UInt8)} {At : List UInt8} {sk bd : Int} {oa : Option Addr} {oc : Nat} {vs : List Value} {v0 : Value} {tmps : Array Value}
    (hO : Own (w.heap.size + 2) Wt (.slice oa rows.length oc) rows.length vs) (hR : RowsF w.heap.size Wt vs rows) (hb : Below w.heap.size w Wt) (h1 : T.1 = ⟨At, sk, bd⟩) (h2 : T.2 = rows)
    (ht4 : tmps.getD 4 undef = .pointer (some ⟨w.heap.size + 1, 0, none⟩)) (ht5 : tmps.getD 5 undef = .slice oa rows.length oc)
    (a9 : Option Addr) (c9 : Nat) (w9 : World) (hB9 : Buf Wt w9 5 (.slice a9 At.length c9) At.length (B8s At))
    (H9 : BlkT 25 w9 w.heap.size [v0, .int .i64 sk, .int .i64 bd]) (H91 : BlkT 25 w9 (w.heap.size + 1) F0)
    (hS : Safe B w9 ((w9.setCell ⟨w.heap.size, 0, none⟩ (.slice a9 At.length c9)).setRow (w.heap.size + 1) [.slice a9 At.length c9, .int .i64 sk, .int .i64 bd].toArray)) :
    bodyPost Try.prog Try.f34 (PushOutF w T) Exit.ret { tmps := tmps, defers := [] } ((w9.setCell ⟨w.heap.size, 0, none⟩ (.slice a9 At.length c9)).setRow (w.heap.size + 1) [.slice a9 At.length c9, .int .i64 sk, .int .i64 bd].toArray) := by
  have hb9 := hB9.bel
  have hrow := ((H91.other (g := w.heap.size) (j := 0) (by omega) (.slice a9 At.length c9)).blk).row [.slice a9 At.length c9, .int .i64 sk, .int .i64 bd]
  refine bodyPost_ret (feed_back (f := ⟨a9, At.length, c9, sk, bd⟩) Try.results34 ht4 ht5 hrow) rfl ?_
  have hO2 := ((hO.up hb9).set (g := w.heap.size) (j := 0) (by omega) (.slice a9 At.length c9)).row (g := w.heap.size + 1) (by omega) [.slice a9 At.length c9, .int .i64 sk, .int .i64 bd].toArray
  obtain ⟨-, k1, k2⟩ := hB9.cap
  have hk := (FreshK.weak hB9.fresh hb.size).safe hS
  refine ⟨_, oa, oc, vs, by rw [h2], ?_, ?_, ?_, ?_, below_setRow (below_setC (bt hb hb9) (Nat.le_refl _) _) (by omega) _⟩
  · rw [h1]; exact ⟨rfl, k1, k2, hk.at, rfl, rfl⟩
  · rw [h1]; exact hk
  · rw [h2]; exact hO2.weak (by omega)
  · rw [h2]; exact (hR.safe (Safe.below (B := B) hb9)).safe hS
/-- what closes a round behind a frame that is none -/
theorem push_go {B : Nat} {w wr w2 : World} (hB : B ≤ w.heap.size) {f : Fv} {TT : Fd × List (List UInt8)} {total q N : Nat} {A A1 : List UInt8} {aa a2 : Option Addr} {ac c2 : Nat} {rows : List (List UInt8)} {oa : Option Addr} {oc : Nat} {vs : List Value} {bd : Int}
    (K0 : BlkT 25 w2 w.heap.size [.slice f.a f.len f.cap, .int .i64 0, .int .i64 bd]) (K1 : BlkT 25 w2 (w.heap.size + 1) F0) (HO : Own (w.heap.size + 2) w2 (.slice oa rows.length oc) rows.length vs) (HR : RowsF w.heap.size w2 vs rows) (HA : FreshK w.heap.size w2 a2 (B8s A1)) (Hb : Below w.heap.size w w2)
    (hc : A1.length ≤ c2 ∧ c2 ≤ maxLen) (hT : TT.1 = (R ((2 + N : Nat) : Int) (more bd) A1).1 ∧ TT.2 = rows ++ (R ((2 + N : Nat) : Int) (more bd) A1).2) (htot : rows.length + A.length ≤ total) (hal : A1.length + q = A.length) (hN : N ≤ 65535) (hm : skipAt wr w.heap.size = (q : Int)) :
    PushAt B w ((w2.setCell ⟨w.heap.size, 2, none⟩ (.int .i64 (more bd))).setCell ⟨w.heap.size, 1, none⟩ (.int .i64 (2 + (N : Int)))) f TT total (.slice a2 A1.length c2) (.slice oa rows.length oc) ∧
    leftOf w.heap.size (.slice a2 A1.length c2) ((w2.setCell ⟨w.heap.size, 2, none⟩ (.int .i64 (more bd))).setCell ⟨w.heap.size, 1, none⟩ (.int .i64 (2 + (N : Int)))) < leftOf w.heap.size (.slice aa A.length ac) wr := by
  have e : (2 + (N : Int)) = ((2 + N : Nat) : Int) := by simp
  rw [e]
  have k0 : BlkT 25 ((w2.setCell ⟨w.heap.size, 2, none⟩ (.int .i64 (more bd))).setCell ⟨w.heap.size, 1, none⟩ (.int .i64 ((2 + N : Nat) : Int))) w.heap.size [.slice f.a f.len f.cap, .int .i64 ((2 + N : Nat) : Int), .int .i64 (more bd)] := (K0.set 2 _).set 1 _
  have sf : Safe B w2 ((w2.setCell ⟨w.heap.size, 2, none⟩ (.int .i64 (more bd))).setCell ⟨w.heap.size, 1, none⟩ (.int .i64 ((2 + N : Nat) : Int))) := (Safe.set K0 (by decide) hB _).trans (Safe.set (K0.set 2 _) (by decide) hB _)
  refine ⟨⟨A1, a2, c2, rows, oa, oc, vs, 2 + N, more bd, rfl, rfl, hc.1, hc.2, HA.safe sf, (HO.set (by omega) _).set (by omega) _, HR.safe sf, k0, (K1.other (by omega) _).other (by omega) _, hT.1, hT.2, by omega, by omega, below_setC (below_setC Hb (Nat.le_refl _) _) (Nat.le_refl _) _⟩, ?_⟩
  unfold leftOf slLen
  rw [skipAt_of k0, hm, if_neg (by omega)]
  simp only
  split <;> omega
theorem run_adv_lhm {P : Program} {t e : TypeId} {n : Nat} (ht : P.underlying t = some (.slice e)) (hs : ∀ w, (sizeOf e).run P w = .ok n w) (w : World) (a : Option Addr) (len cap : Nat) (l h : Int) (h0 : 0 ≤ l) (h1 : l ≤ h) (h2 : h ≤ cap) :
    (Instr.sliceAt t (.slice a len cap) (some (.int .i64 l)) (some (.int .i64 h)) (some (.int .i64 h))).run P w = .ok (.slice (adv a h.toNat l.toNat n) (h.toNat - l.toNat) (h.toNat - l.toNat)) w := by
  have he : P.elem t = e := by simp [Program.elem, ht]
  rw [run_sliceAt_slice _ _ _ _ _ _ (by rw [he]; exact ht), run_slice_lhm _ _ _ _ _ (by rw [he]; exact ht) _ _ _ _ _ _ h0 h1 (Int.le_refl _) h2, he, hs]; rfl
/-- what closes a round behind a frame -/
theorem push_got {B : Nat} {w wr w2 w3 : World} (hB : B ≤ w.heap.size) {f : Fv} {TT : Fd × List (List UInt8)} {total q N : Nat} {A A1 : List UInt8} {aa a2 a3 : Option Addr} {ac c2 c3 : Nat} {rows : List (List UInt8)} {oa : Option Addr} {oc : Nat} {vs : List Value} {bd : Int} {o : Obj}
    (K0 : BlkT 25 w2 w.heap.size [.slice f.a f.len f.cap, .int .i64 0, .int .i64 bd]) (K1 : BlkT 25 w2 (w.heap.size + 1) F0) (HO : Own (w.heap.size + 2) w2 (.slice oa rows.length oc) rows.length vs) (HR : RowsF w.heap.size w2 vs rows) (HA : FreshK w.heap.size w2 a2 (B8s A1)) (Hb : Below w.heap.size w w2)
    (hc : A1.length ≤ c2 ∧ c2 ≤ maxLen) (hT : TT.1 = (R 0 bd A1).1 ∧ TT.2 = rows ++ (R 0 bd A1).2) (htot : rows.length + A.length ≤ total) (hal : A1.length + q = A.length) (hN : toldL A1 = N) (h1 : 1 ≤ N) (h2 : N ≤ 1024) (hfit : N + 2 ≤ A1.length) (hm : skipAt wr w.heap.size = (q : Int))
    (hO2 : Own (w.heap.size + 2) w3 (.slice a3 (rows.length + 1) c3) (rows.length + 1) (vs ++ [.slice (adv a2 (N + 2) 2 1) N N])) (hg2 : (w2.alloc o).grownBy w3 (Value.slice oa rows.length oc).ownBlock) :
    PushAt B w w3 f TT total (.slice (adv a2 c2 (N + 2) 1) (A1.length - (N + 2)) (c2 - (N + 2))) (.slice a3 (rows.length + 1) c3) ∧
    leftOf w.heap.size (.slice (adv a2 c2 (N + 2) 1) (A1.length - (N + 2)) (c2 - (N + 2))) w3 < leftOf w.heap.size (.slice aa A.length ac) wr := by
  have hO3 := HO.up (ba w2 o)
  have sf : Safe B w2 w3 := (Safe.below (ba w2 o)).trans (Safe.grown hO3.own hg2 (by decide) (by omega))
  have hb3 := below_own (bt Hb (ba w2 o)) hO3.own hg2 (by have := hO3.le; omega) (by omega)
  have k0 := (K0.up (ba w2 o)).grown hO3 hg2 (by omega)
  have k1 := (K1.up (ba w2 o)).grown hO3 hg2 (by omega)
  have hr : ((A1.drop 2).take N).length = N := by rw [List.length_take, List.length_drop]; omega
  have hk : FreshK w.heap.size w3 (adv a2 (N + 2) 2 1) (B8s ((A1.drop 2).take N)) := by
    have hA3 := HA.safe sf
    have hA4 := AtP.take hA3 (N + 2)
    have := AtP.adv (cap := N + 2) (l := 2) hA4 (by simp; omega)
    rw [← List.map_take, ← List.map_drop, List.drop_take] at this
    exact this
  have hk2 : FreshK w.heap.size w3 (adv a2 c2 (N + 2) 1) (B8s (A1.drop (N + 2))) := by
    have hA3 := HA.safe sf
    have := AtP.adv (cap := c2) (l := N + 2) hA3 (by simpa using hc.1)
    rw [← List.map_drop] at this
    exact this
  have hw := R_whole bd A1 (by omega) (by omega) (by omega)
  rw [hN] at hw
  rw [hw] at hT
  have hdl : A1.length - (N + 2) = (A1.drop (N + 2)).length := List.length_drop.symm
  have hrows := (HR.safe sf).snoc (p := adv a2 (N + 2) 2 1) (r := (A1.drop 2).take N) (c := N) (by omega) (by have := hc; omega) hk
  rw [hr] at hrows
  refine ⟨⟨A1.drop (N + 2), adv a2 c2 (N + 2) 1, c2 - (N + 2), rows ++ [(A1.drop 2).take N], a3, c3, vs ++ [.slice (adv a2 (N + 2) 2 1) N N], 0, bd, by rw [hdl], by simp, by rw [← hdl]; omega, by have := hc; omega, hk2, by simpa using hO2, hrows, k0, k1, hT.1, by rw [hT.2]; simp, by rw [← hdl]; simp; omega, by omega, hb3⟩, ?_⟩
  unfold leftOf slLen
  rw [skipAt_of k0, hm]
  simp only
  split <;> split <;> omega

set_option maxRecDepth 100000 in
set_option maxHeartbeats 8000000 in
theorem push_fresh (f : Fv) (s : Fd) (a : Option Addr) (cap : Nat) (l : List UInt8) (w : World) (B : Nat) (hB : B ≤ w.heap.size) (h : FdAt w f s) (hr : rightF s = true) (hl : BytesAt w a l) (hlen : l.length ≤ 1000000000) :
    Calls Try.prog 34 #[f.v, .slice a l.length cap] w (PushOutF w (runF s l)) := by
  rw [run_right hr l]
  obtain ⟨hsk, hbl⟩ := right_bounds hr
  obtain ⟨hs0, -⟩ := (right_of_iff s).1 hr
  obtain ⟨fa, flen, fcap, fskip, fbad⟩ := f
  obtain ⟨sb, sk, bd⟩ := s
  obtain ⟨e1, e2, e3, hat, e4, e5⟩ := h
  simp only at e1 e2 e3 hat e4 e5 hsk hbl hs0 ⊢
  subst e4 e5 e1
  obtain ⟨q, rfl⟩ := Int.eq_ofNat_of_zero_le hs0
  clear hr hs0
  have HI := Lib.hid feed_info
  have Hl := Lib.hid hl
  have Hat := Lib.hid hat
  have Hbl := Lib.hid (And.intro hbl hlen)
  clear hl hat hbl hlen
  go_enter Try.func34, Try.ntmps34
  go_wp2_with fail
  generalize hW : World.alloc (World.alloc w _) _ = W
  have h0 : BlkT 25 W w.heap.size [.slice fa sb.length fcap, .int .i64 (q : Int), .int .i64 fbad] := by
    rw [← hW]; exact (BlkT.new w [.slice fa sb.length fcap, .int .i64 (q : Int), .int .i64 fbad] 25).up (ba _ _)
  have h1 : BlkT 25 W (w.heap.size + 1) F0 := by
    rw [← hW, ← size_alloc w (.cells [.slice fa sb.length fcap, .int .i64 (q : Int), .int .i64 fbad].toArray 25)]; exact BlkT.new _ F0 25
  have hb : Below w.heap.size w W := by rw [← hW]; exact bta (ba w _) _
  have hsz : w.heap.size + 1 + 1 = W.heap.size := by rw [← hW, size_alloc, size_alloc]
  clear hW
  obtain ⟨d0, d1, d2⟩ := cells3 h0.blk
  go_step3
  go_wp2_with fail
  have HC := Lib.hid (concat_any W.heap.size fa a fcap cap sb l (W.alloc (.cells #[.slice fa sb.length fcap, .slice a l.length cap] 23)) (by have := Hbl.out; omega) (by have := Hbl.out; omega) (Blk.new W [.slice fa sb.length fcap, .slice a l.length cap] 23) (Hat.out.mono (bta hb _)) (Hl.out.mono (bta hb _)))
  refine Calls.mono HC.out ?_; rintro e w1 ⟨a1, c1, rfl, hB1⟩
  have hb1 := hB1.bel
  have H0 := Lib.hid ((h0.up (ba W _)).up hb1)
  have H1 := Lib.hid ((h1.up (ba W _)).up hb1)
  have Hb := Lib.hid (bt (bta hb _) hb1)
  have HB1 := Lib.hid hB1
  have HF1 := Lib.hid (FreshK.weak (lo' := w.heap.size) hB1.fresh (by rw [size_alloc]; omega))
  have Hsz := Lib.hid (show w.heap.size + 2 ≤ w1.heap.size by have := hb1.size; rw [size_alloc] at this; omega)
  clear h0 h1 hb hsz hB1 hb1 HC d0 d1 d2
  go_wp2_with fail
  go_step3
  go_wp2_with fail
  go_loopw [6, 7] (fun v6 v7 wx => PushAt B w wx ⟨fa, sb.length, fcap, (q : Int), fbad⟩ (R q fbad (sb ++ l)) (sb.length + l.length) v6 v7) (fun v6 v7 wx => leftOf w.heap.size v6 wx)
  case atStart =>
    obtain ⟨-, g1, g2⟩ := HB1.out.cap
    exact ⟨sb ++ l, a1, c1, [], none, 0, [], q, fbad, by rw [List.length_append], rfl, g1, g2, HF1.out, Own.nil Hsz.out, RowsF.nil _ _, H0.out, H1.out, rfl, rfl, by simp, by omega, Hb.out⟩
  case round =>
    clear H0 H1 Hb HB1 Hsz
    generalize hTT : R q fbad (sb ++ l) = TT at hrel
    have HTT := Lib.hid hTT
    clear hTT
    obtain ⟨A, aa, ac, rows, oa, oc, vs, q, bd, rfl, rfl, hAl, hAc, hA, hO, hR, h0, h1, hT1, hT2, hrow, hq, hb⟩ := hrel
    obtain ⟨d0, d1, d2⟩ := cells3 h0.blk
    have fz := h0.blk.frozen
    have Htot := Lib.hid (And.intro hrow Hbl.out)
    have Hmes := Lib.hid (skipAt_of h0)
    clear hrow
    by_cases hql : A.length < q
    · have hsl : ∀ W, (Instr.sliceAt 23 (.slice aa A.length ac) (some (.int .i64 (A.length : Int))) none none).run Try.prog W = .ok (.slice (adv aa ac A.length 1) 0 (ac - A.length)) W := fun W => by
        have := run_tail Try.underlying23 size_u8 W aa A.length ac A.length (Nat.le_refl _)
        rwa [Nat.sub_self] at this
      obtain ⟨W1, hW1⟩ : ∃ W1, wr.setCell ⟨w.heap.size, 1, none⟩ (.int .i64 ((q : Int) - (A.length : Int))) = W1 := ⟨_, rfl⟩
      have HW1 := Lib.hid hW1
      have sf : Safe B wr W1 := by rw [← hW1]; exact Safe.set h0 (by decide) hB _
      have k0 : BlkT 25 W1 w.heap.size [.slice fa sb.length fcap, .int .i64 ((q : Int) - (A.length : Int)), .int .i64 bd] := by rw [← hW1]; exact h0.set 1 _
      have k1 : BlkT 25 W1 (w.heap.size + 1) F0 := by rw [← hW1]; exact h1.other (by omega) _
      have K0 := Lib.hid k0
      have K1 := Lib.hid k1
      have HO := Lib.hid (show Own (w.heap.size + 2) W1 _ _ _ by rw [← hW1]; exact hO.set (g := w.heap.size) (j := 1) (by omega) (.int .i64 ((q : Int) - (A.length : Int))))
      have HR := Lib.hid (hR.safe sf)
      have Hb := Lib.hid (show Below w.heap.size w W1 by rw [← hW1]; exact below_setC hb (Nat.le_refl _) _)
      have hRv : R q bd A = (⟨[], (q : Int) - (A.length : Int), bd⟩, []) := R_over q bd A (by omega)
      rw [hRv] at hT1 hT2
      have HT := Lib.hid (And.intro hT1 hT2)
      have HCl := Lib.hid (clone_any (adv aa ac A.length 1) (ac - A.length) [] W1 (by simp) (.inl rfl))
      clear hW1 sf k0 k1 hO hR hb h0 h1 hA hT1 hT2 hRv
      go_wp2_with (first
        | (go_at_call 39; go_must (rw [HW1.out]; ((with_reducible refine Calls.mono (HCl.out) ?_); rintro e w9 ⟨a9, c9, rfl, hB9⟩; have hb9 := hB9.bel; have H9 := Lib.hid (K0.out.up hb9); have H91 := Lib.hid (K1.out.up hb9); obtain ⟨d0, d1, d2⟩ := cells3 H9.out.blk; have fz := H9.out.blk.frozen; have HB9 := Lib.hid hB9; have Hb9 := Lib.hid hb9; clear hB9 hb9)))
        | (refine wpList_load_blk 25 (.tmp 2) w.heap.size (cs := [.slice a9 ([] : List UInt8).length c9, .int .i64 ((q : Int) - (A.length : Int)), .int .i64 bd]) rfl rfl rfl ?hb Try.underlying25 rfl HI.out ?_; (case hb => exact (H9.out.set 0 _).blk))
        | (refine wpList_store_blk 25 (.tmp 4) (.tmp 80) (w.heap.size + 1) (old := F0) (cs := [.slice a9 ([] : List UInt8).length c9, .int .i64 ((q : Int) - (A.length : Int)), .int .i64 bd]) rfl rfl rfl rfl ?hb HI.out rfl rfl ?_; (case hb => exact (H91.out.other (by omega) _).blk)))
      have HS := Lib.hid ((Safe.set (B := B) (j := 0) H9.out (by decide) hB (.slice a9 ([] : List UInt8).length c9)).trans (Safe.row (B := B) (H91.out.other (g := w.heap.size) (j := 0) (by omega) (.slice a9 ([] : List UInt8).length c9)) (by decide) (by omega) [.slice a9 ([] : List UInt8).length c9, .int .i64 ((q : Int) - (A.length : Int)), .int .i64 bd].toArray))
      try rw [Exit.noGoto_ret]
      rw [← HTT.out] at HT
      exact push_fin hB HO.out HR.out Hb.out HT.out.1 (by rw [HT.out.2, List.append_nil]) rfl rfl a9 c9 w9 HB9.out H9.out H91.out HS.out
    · have hsl : ∀ W, (Instr.sliceAt 23 (.slice aa A.length ac) (some (.int .i64 (q : Int))) none none).run Try.prog W = .ok (.slice (adv aa ac q 1) (A.length - q) (ac - q)) W := fun W => run_tail Try.underlying23 size_u8 W aa A.length ac q (by omega)
      have hk1 := AtP.adv (cap := ac) (l := q) hA (by simpa using hAl)
      rw [← List.map_drop] at hk1
      have hRv : R q bd A = R 0 bd (A.drop q) := by
        have := R_skip q bd A q (Int.le_refl _) (by omega)
        rwa [Int.sub_self] at this
      have hdl : A.length - q = (A.drop q).length := List.length_drop.symm
      have Hal := Lib.hid (show (A.drop q).length + q = A.length by rw [← hdl]; omega)
      have hle1 : (A.drop q).length ≤ ac - q := by rw [← hdl]; omega
      have hcap1 : ac - q ≤ maxLen := by omega
      rw [hdl] at hsl
      rw [hRv] at hT1 hT2
      clear hRv hdl
      generalize A.drop q = A1 at hsl hk1 Hal hle1 hT1 hT2
      generalize adv aa ac q 1 = a2 at hsl hk1
      generalize ac - q = c2 at hsl hle1 hcap1
      have Hc := Lib.hid (And.intro hle1 hcap1)
      obtain ⟨W1, hW1⟩ : ∃ W1, wr.setCell ⟨w.heap.size, 1, none⟩ (.int .i64 0) = W1 := ⟨_, rfl⟩
      have HW1 := Lib.hid hW1
      have sf : Safe B wr W1 := by rw [← hW1]; exact Safe.set h0 (by decide) hB _
      have k0 : BlkT 25 W1 w.heap.size [.slice fa sb.length fcap, .int .i64 0, .int .i64 bd] := by rw [← hW1]; exact h0.set 1 _
      have k1 : BlkT 25 W1 (w.heap.size + 1) F0 := by rw [← hW1]; exact h1.other (by omega) _
      have K0 := Lib.hid k0
      have K1 := Lib.hid k1
      have HO := Lib.hid (show Own (w.heap.size + 2) W1 _ _ _ by rw [← hW1]; exact hO.set (g := w.heap.size) (j := 1) (by omega) (.int .i64 0))
      have HR := Lib.hid (hR.safe sf)
      have HA := Lib.hid ((show FreshK w.heap.size wr a2 (B8s A1) from hk1).safe sf)
      have Hb := Lib.hid (show Below w.heap.size w W1 by rw [← hW1]; exact below_setC hb (Nat.le_refl _) _)
      have HT := Lib.hid (And.intro hT1 hT2)
      clear hW1 sf k0 k1 hO hR hb h0 h1 hA hk1 hT1 hT2 hle1 hcap1
      have hd1 := Lib.hid d1
      clear d1
      have d1 := hd1.out
      by_cases hl2 : A1.length < 2
      · have HT := Lib.hid (show TT.1 = ⟨A1, 0, bd⟩ ∧ TT.2 = rows by
          have := HT.out
          rw [R_short 0 bd A1 hl2 (.inl rfl)] at this
          exact ⟨this.1, by rw [this.2, List.append_nil]⟩)
        have HCl := Lib.hid (clone_any a2 c2 A1 W1 (by omega) HA.out.at)
        go_wp2_with (first
          | (go_at_call 39; go_must (rw [HW1.out]; ((with_reducible refine Calls.mono (HCl.out) ?_); rintro e w9 ⟨a9, c9, rfl, hB9⟩; have hb9 := hB9.bel; have H9 := Lib.hid (K0.out.up hb9); have H91 := Lib.hid (K1.out.up hb9); obtain ⟨d0, d1, d2⟩ := cells3 H9.out.blk; have fz := H9.out.blk.frozen; have HB9 := Lib.hid hB9; have Hb9 := Lib.hid hb9; clear hB9 hb9)))
          | (refine wpList_load_blk 25 (.tmp 2) w.heap.size (cs := [.slice a9 A1.length c9, .int .i64 0, .int .i64 bd]) rfl rfl rfl ?hb Try.underlying25 rfl HI.out ?_; (case hb => exact (H9.out.set 0 _).blk))
          | (refine wpList_store_blk 25 (.tmp 4) (.tmp 80) (w.heap.size + 1) (old := F0) (cs := [.slice a9 A1.length c9, .int .i64 0, .int .i64 bd]) rfl rfl rfl rfl ?hb HI.out rfl rfl ?_; (case hb => exact (H91.out.other (by omega) _).blk)))
        have HS := Lib.hid ((Safe.set (B := B) (j := 0) H9.out (by decide) hB (.slice a9 A1.length c9)).trans (Safe.row (B := B) (H91.out.other (g := w.heap.size) (j := 0) (by omega) (.slice a9 A1.length c9)) (by decide) (by omega) [.slice a9 A1.length c9, .int .i64 0, .int .i64 bd].toArray))
        try rw [Exit.noGoto_ret]
        rw [← HTT.out] at HT
        exact push_fin hB HO.out HR.out Hb.out HT.out.1 HT.out.2 rfl rfl a9 c9 w9 HB9.out H9.out H91.out HS.out
      · have HTd := Lib.hid (told_any a2 A1.length c2 A1 W1 rfl (by omega) HA.out.at)
        have hN := told_lt A1
        have hNe := Lib.hid (rfl : toldL A1 = toldL A1)
        generalize hNN : toldL A1 = N at HTd hN
        have HN := Lib.hid hNN
        clear hNN hNe
        by_cases hz : N = 0 ∨ 1024 < N
        · have hgt : 2 + (N : Int) = ((2 + N : Nat) : Int) := by simp
          have Hgt := Lib.hid hgt
          clear hgt
          have hR2 : R 0 bd A1 = R ((2 + N : Nat) : Int) (more bd) A1 := by
            rw [R_bad bd A1 (by omega) (by rw [HN.out]; exact hz), HN.out]
            have : ((N : Int) + 2) = ((2 + N : Nat) : Int) := by omega
            rw [this]
          have HT := Lib.hid (show TT.1 = (R ((2 + N : Nat) : Int) (more bd) A1).1 ∧ TT.2 = rows ++ (R ((2 + N : Nat) : Int) (more bd) A1).2 by rw [← hR2]; exact HT.out)
          clear hR2
          have hm : wrap64 (bd + 1) = more bd := more_eq bd
          by_cases hfit : 2 + N ≤ A1.length
          · have Hz := Lib.hid hz
            rcases hz with hz | hz
            all_goals
              first
                | (have g0 : ((N : Int) == 0) = false := by (rw [beq_eq_false_iff_ne]; omega)
                   have g1 : decide ((1024 : Int) < N) = true := by (simp; omega))
                | (have g0 : ((N : Int) == 0) = true := by (rw [beq_iff_eq]; omega))
              clear hz
              go_wp2_with (go_at_call 36; go_must (rw [HW1.out]; ((with_reducible refine Calls.mono HTd.out ?_); rintro e w2 ⟨rfl, hb2⟩; have K0 := Lib.hid (K0.out.up hb2); have K1 := Lib.hid (K1.out.up hb2); have HO := Lib.hid (HO.out.up hb2); have HR := Lib.hid (HR.out.safe (Safe.below (B := B) hb2)); have HA := Lib.hid (HA.out.safe (Safe.below (B := B) hb2)); have Hb := Lib.hid (bt Hb.out hb2); obtain ⟨d0, d1, d2⟩ := cells3 K0.out.blk; have fz := K0.out.blk.frozen; clear hb2)))
              exact push_go hB (f := ⟨fa, sb.length, fcap, (_ : Int), fbad⟩) K0.out K1.out HO.out HR.out HA.out Hb.out Hc.out HT.out Htot.out.1 Hal.out hN Hmes.out
          · have hRv : R ((2 + N : Nat) : Int) (more bd) A1 = (⟨[], 2 + (N : Int) - (A1.length : Int), more bd⟩, []) := by
              rw [← Hgt.out]; exact R_over _ _ A1 (by omega)
            have HT := Lib.hid (show TT.1 = ⟨[], 2 + (N : Int) - (A1.length : Int), more bd⟩ ∧ TT.2 = rows by
              have := HT.out
              rw [hRv] at this
              exact ⟨this.1, by rw [this.2, List.append_nil]⟩)
            have HCl := Lib.hid (fun W => clone_any none 0 [] W (by simp) (.inl rfl))
            clear hRv
            rcases hz with hz | hz
            all_goals
              first
                | (have g0 : ((N : Int) == 0) = false := by (rw [beq_eq_false_iff_ne]; omega)
                   have g1 : decide ((1024 : Int) < N) = true := by (simp; omega))
                | (have g0 : ((N : Int) == 0) = true := by (rw [beq_iff_eq]; omega))
              clear hz
              go_wp2_with (first
                | (go_at_call 36; go_must (rw [HW1.out]; ((with_reducible refine Calls.mono HTd.out ?_); rintro e w2 ⟨rfl, hb2⟩; have K0 := Lib.hid (K0.out.up hb2); have K1 := Lib.hid (K1.out.up hb2); have HO := Lib.hid (HO.out.up hb2); have HR := Lib.hid (HR.out.safe (Safe.below (B := B) hb2)); have HA := Lib.hid (HA.out.safe (Safe.below (B := B) hb2)); have Hb := Lib.hid (bt Hb.out hb2); obtain ⟨d0, d1, d2⟩ := cells3 K0.out.blk; have fz := K0.out.blk.frozen; clear hb2)))
                | (go_at_call 39; go_must (((with_reducible refine Calls.mono (HCl.out _) ?_); rintro e w9 ⟨a9, c9, rfl, hB9⟩; have hb9 := hB9.bel; have H9 := Lib.hid ((((K0.out.set 2 (.int .i64 (more bd))).set 1 (.int .i64 (2 + (N : Int)))).set 1 (.int .i64 (2 + (N : Int) - (A1.length : Int)))).up hb9); have H91 := Lib.hid ((((K1.out.other (g := w.heap.size) (j := 2) (by omega) (.int .i64 (more bd))).other (g := w.heap.size) (j := 1) (by omega) (.int .i64 (2 + (N : Int)))).other (g := w.heap.size) (j := 1) (by omega) (.int .i64 (2 + (N : Int) - (A1.length : Int)))).up hb9); obtain ⟨d0, d1, d2⟩ := cells3 H9.out.blk; have fz := H9.out.blk.frozen; have HB9 := Lib.hid hB9; have Hb9 := Lib.hid hb9; clear hB9 hb9)))
                | (refine wpList_load_blk 25 (.tmp 2) w.heap.size (cs := [.slice a9 ([] : List UInt8).length c9, .int .i64 (2 + (N : Int) - (A1.length : Int)), .int .i64 (more bd)]) rfl rfl rfl ?hb Try.underlying25 rfl HI.out ?_; (case hb => exact (H9.out.set 0 _).blk))
                | (refine wpList_store_blk 25 (.tmp 4) (.tmp 80) (w.heap.size + 1) (old := F0) (cs := [.slice a9 ([] : List UInt8).length c9, .int .i64 (2 + (N : Int) - (A1.length : Int)), .int .i64 (more bd)]) rfl rfl rfl rfl ?hb HI.out rfl rfl ?_; (case hb => exact (H91.out.other (by omega) _).blk)))
              have HS := Lib.hid ((Safe.set (B := B) (j := 0) H9.out (by decide) hB (.slice a9 ([] : List UInt8).length c9)).trans (Safe.row (B := B) (H91.out.other (g := w.heap.size) (j := 0) (by omega) (.slice a9 ([] : List UInt8).length c9)) (by decide) (by omega) [.slice a9 ([] : List UInt8).length c9, .int .i64 (2 + (N : Int) - (A1.length : Int)), .int .i64 (more bd)].toArray))
              try rw [Exit.noGoto_ret]
              rw [← HTT.out] at HT
              exact push_fin hB (((HO.out.set (g := w.heap.size) (j := 2) (by omega) (.int .i64 (more bd))).set (g := w.heap.size) (j := 1) (by omega) (.int .i64 (2 + (N : Int)))).set (g := w.heap.size) (j := 1) (by omega) (.int .i64 (2 + (N : Int) - (A1.length : Int)))) (HR.out.safe (((Safe.set (B := B) (j := 2) K0.out (by decide) hB (.int .i64 (more bd))).trans (Safe.set (j := 1) (K0.out.set 2 (.int .i64 (more bd))) (by decide) hB (.int .i64 (2 + (N : Int))))).trans (Safe.set (j := 1) ((K0.out.set 2 (.int .i64 (more bd))).set 1 (.int .i64 (2 + (N : Int)))) (by decide) hB (.int .i64 (2 + (N : Int) - (A1.length : Int)))))) (below_setC (below_setC (below_setC Hb.out (g := w.heap.size) (j := 2) (Nat.le_refl _) (.int .i64 (more bd))) (g := w.heap.size) (j := 1) (Nat.le_refl _) (.int .i64 (2 + (N : Int)))) (g := w.heap.size) (j := 1) (Nat.le_refl _) (.int .i64 (2 + (N : Int) - (A1.length : Int)))) HT.out.1 HT.out.2 rfl rfl a9 c9 w9 HB9.out H9.out H91.out HS.out
        · have g0 : ((N : Int) == 0) = false := by rw [beq_eq_false_iff_ne]; omega
          have g1 : decide ((1024 : Int) < N) = false := by simp; omega
          by_cases hfit : N + 2 ≤ A1.length
          · have hs3 : ∀ W, (Instr.sliceAt 23 (.slice a2 A1.length c2) (some (.int .i64 2)) (some (.int .i64 (2 + (N : Int)))) (some (.int .i64 (2 + (N : Int))))).run Try.prog W = .ok (.slice (adv a2 (N + 2) 2 1) N N) W := fun W => by
              have := run_adv_lhm Try.underlying23 size_u8 W a2 A1.length c2 2 (2 + (N : Int)) (by omega) (by omega) (by have := Hc.out; omega)
              have e1 : (2 + (N : Int)).toNat = N + 2 := by omega
              have e2 : N + 2 - (2 : Int).toNat = N := by omega
              rw [e1, e2] at this
              exact this
            have hs4 : ∀ W, (Instr.sliceAt 23 (.slice a2 A1.length c2) (some (.int .i64 (2 + (N : Int)))) none none).run Try.prog W = .ok (.slice (adv a2 c2 (N + 2) 1) (A1.length - (N + 2)) (c2 - (N + 2))) W := fun W => by
              have := run_adv_l Try.underlying23 size_u8 W a2 A1.length c2 (2 + (N : Int)) (by omega) (by omega)
              have e1 : (2 + (N : Int)).toNat = N + 2 := by omega
              rw [e1] at this
              exact this
            have hlr : rows.length ≤ 2000000000 := by have := Htot.out; omega
            go_wp2_with (first
              | (go_at_call 36; go_must (rw [HW1.out]; ((with_reducible refine Calls.mono HTd.out ?_); rintro e w2 ⟨rfl, hb2⟩; have K0 := Lib.hid (K0.out.up hb2); have K1 := Lib.hid (K1.out.up hb2); have HO := Lib.hid (HO.out.up hb2); have HR := Lib.hid (HR.out.safe (Safe.below (B := B) hb2)); have HA := Lib.hid (HA.out.safe (Safe.below (B := B) hb2)); have Hb := Lib.hid (bt Hb.out hb2); obtain ⟨d0, d1, d2⟩ := cells3 K0.out.blk; have fz := K0.out.blk.frozen; clear hb2)))
              | (at_builtin; go_must (refine wpList_own (.tmp 64) (.tmp 71) rfl rfl rfl (HO.out.up (ba _ _)) (news := [.slice (adv a2 (N + 2) 2 1) N N]) rfl (at_new _ _ _) rfl (by intro u hu; rw [List.mem_singleton] at hu; subst hu; rfl) (by omega) (rows.length + 1) rfl ?_; intro a3 c3 w3 hO2 hg2)))
            exact push_got hB (f := ⟨fa, sb.length, fcap, (_ : Int), fbad⟩) K0.out K1.out HO.out HR.out HA.out Hb.out Hc.out HT.out Htot.out.1 Hal.out HN.out (by omega) (by omega) hfit Hmes.out hO2 hg2
          · have HT := Lib.hid (show TT.1 = ⟨A1, 0, bd⟩ ∧ TT.2 = rows by
              have := HT.out
              rw [R_wait bd A1 (by have := HN.out; omega) (by have := HN.out; omega) (by have := HN.out; omega)] at this
              exact ⟨this.1, by rw [this.2, List.append_nil]⟩)
            go_wp2_with (first
              | (go_at_call 36; go_must (rw [HW1.out]; ((with_reducible refine Calls.mono HTd.out ?_); rintro e w2 ⟨rfl, hb2⟩; have K0 := Lib.hid (K0.out.up hb2); have K1 := Lib.hid (K1.out.up hb2); have HO := Lib.hid (HO.out.up hb2); have HR := Lib.hid (HR.out.safe (Safe.below (B := B) hb2)); have HA := Lib.hid (HA.out.safe (Safe.below (B := B) hb2)); have Hb := Lib.hid (bt Hb.out hb2); obtain ⟨d0, d1, d2⟩ := cells3 K0.out.blk; have fz := K0.out.blk.frozen; clear hb2)))
              | (go_at_call 39; go_must (((with_reducible refine Calls.mono (clone_any a2 c2 A1 _ (by have := Htot.out; have := Hal.out; omega) HA.out.at) ?_); rintro e w9 ⟨a9, c9, rfl, hB9⟩; have hb9 := hB9.bel; have H9 := Lib.hid (K0.out.up hb9); have H91 := Lib.hid (K1.out.up hb9); obtain ⟨d0, d1, d2⟩ := cells3 H9.out.blk; have fz := H9.out.blk.frozen; have HB9 := Lib.hid hB9; have Hb9 := Lib.hid hb9; clear hB9 hb9)))
              | (refine wpList_load_blk 25 (.tmp 2) w.heap.size (cs := [.slice a9 A1.length c9, .int .i64 0, .int .i64 bd]) rfl rfl rfl ?hb Try.underlying25 rfl HI.out ?_; (case hb => exact (H9.out.set 0 _).blk))
              | (refine wpList_store_blk 25 (.tmp 4) (.tmp 80) (w.heap.size + 1) (old := F0) (cs := [.slice a9 A1.length c9, .int .i64 0, .int .i64 bd]) rfl rfl rfl rfl ?hb HI.out rfl rfl ?_; (case hb => exact (H91.out.other (by omega) _).blk)))
            have HS := Lib.hid ((Safe.set (B := B) (j := 0) H9.out (by decide) hB (.slice a9 A1.length c9)).trans (Safe.row (B := B) (H91.out.other (g := w.heap.size) (j := 0) (by omega) (.slice a9 A1.length c9)) (by decide) (by omega) [.slice a9 A1.length c9, .int .i64 0, .int .i64 bd].toArray))
            try rw [Exit.noGoto_ret]
            rw [← HTT.out] at HT
            exact push_fin hB HO.out HR.out Hb.out HT.out.1 HT.out.2 rfl rfl a9 c9 w9 HB9.out H9.out H91.out HS.out
theorem push_any (f : Fv) (s : Fd) (a : Option Addr) (cap : Nat) (l : List UInt8) (w : World) (B : Nat) (hB : B ≤ w.heap.size) (h : FdAt w f s) (hr : rightF s = true) (hl : BytesAt w a l) (hlen : l.length ≤ 1000000000) :
    Calls Try.prog 34 #[f.v, .slice a l.length cap] w (PushOut B w (runF s l)) :=
  (push_fresh f s a cap l w B hB h hr hl hlen).mono fun e w' ⟨f1, a1, c1, vs, h1, h2, h3, h4, h5, h6⟩ => ⟨f1, a1, c1, vs, h1, h2, FreshK.keep h3, h4, h5.keep, h6⟩
end Go.Proofs.Ytcccgjpmfbmplaa
