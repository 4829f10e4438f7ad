/- Frames: a stream's bytes one by one, as the document takes them. -/
import Derived.Test.YtcccgjpmfbmplaaFrG
import Derived.Deep.DeepCutAuto
import Derived.Deep.RegionHeld3
set_option linter.unusedSimpArgs false
set_option linter.unusedVariables false
namespace Go.Proofs.Ytcccgjpmfbmplaa
open Go.RowKit

/-- what a push answers -/
def PushOut (B : Nat) (w : World) (T : Fd × List (List UInt8)) (e : Ending) (w' : World) : Prop :=
  ∃ (f : Fv) (a : Option Addr) (c : Nat) (vs : List Value), e = .returned (.tuple #[f.v, .slice a T.2.length c]) ∧ FdAt w' f T.1 ∧ KeepAt B w' f.a (B8s T.1.buf) ∧ Own w.heap.size w' (.slice a T.2.length c) T.2.length vs ∧ RowsK B w' vs T.2 ∧ Below w.heap.size w w'
theorem Own.weak {B B' : Nat} {w : World} {v : Value} {n : Nat} {xs : List Value} (h : Own B w v n xs) (hb : B' ≤ B) : Own B' w v n xs := by
  obtain ⟨⟨h1, h2⟩, h3⟩ := h
  refine ⟨⟨h1, ?_⟩, Nat.le_trans hb h3⟩
  rcases h2 with h2 | ⟨g, cap, cur, hv, hg, r⟩
  · exact .inl h2
  · exact .inr ⟨g, cap, cur, hv, Nat.le_trans hb hg, r⟩
theorem Own.cap {B : Nat} {w : World} {a : Option Addr} {n m cap : Nat} {xs : List Value} (h : Own B w (.slice a m cap) n xs) : m = n ∧ n ≤ cap ∧ cap ≤ maxLen := by
  obtain ⟨_, _, h, h1, h2⟩ := own_slice h.own
  cases h; exact ⟨rfl, h1, h2⟩
theorem rset3_below {w0 w : World} {B b : Nat} {v0 v1 v2 : Value} (h : Below B w0 w) (hb : B ≤ b) : Below B w0 (((w.setCell ⟨b, 0, none⟩ v0).setCell ⟨b, 1, none⟩ v1).setCell ⟨b, 2, none⟩ v2) :=
  below_setC (below_setC (below_setC h hb _) hb _) hb _
theorem rset3 {T : TypeId} {w : World} {b : Nat} {a0 a1 a2 v0 v1 v2 : Value} (h : BlkT T w b [a0, a1, a2]) : BlkT T (((w.setCell ⟨b, 0, none⟩ v0).setCell ⟨b, 1, none⟩ v1).setCell ⟨b, 2, none⟩ v2) b [v0, v1, v2] := ((h.set 0 v0).set 1 v1).set 2 v2
theorem safe_rset3 {T : TypeId} {w : World} {B b : Nat} {a0 a1 a2 v0 v1 v2 : Value} (h : BlkT T w b [a0, a1, a2]) (hT : T ≠ 5) (hB : B ≤ b) : Safe B w (((w.setCell ⟨b, 0, none⟩ v0).setCell ⟨b, 1, none⟩ v1).setCell ⟨b, 2, none⟩ v2) :=
  ((Safe.set h hT hB v0).trans (Safe.set (h.set 0 v0) hT hB v1)).trans (Safe.set ((h.set 0 v0).set 1 v1) hT hB v2)
theorem FdAt.keep {B : Nat} {w w' : World} {f : Fv} {s : Fd} (h : FdAt w f s) (k : KeepAt B w' f.a (B8s s.buf)) : FdAt w' f s := ⟨h.len, h.le, h.cap, k.at, h.skip, h.bad⟩
/-- what is behind the call for one byte -/
def OneAt (B : Nat) (w0 wx : World) (s : Fd) (x : UInt8) (v8 v9 : Value) : Prop :=
  ∃ (b8 : Nat) (X : Fv) (a : Option Addr) (c : Nat), v8 = .pointer (some ⟨b8, 0, none⟩) ∧ v9 = .slice a (oneF s x).2.length c ∧ (oneF s x).2.length ≤ c ∧ c ≤ maxLen ∧ Blk wx b8 X.L ∧ FdAt wx X (oneF s x).1 ∧ KeepAt B wx X.a (B8s (oneF s x).1.buf) ∧ KeepAt B wx a (B8s (oneF s x).2) ∧ Below w0.heap.size w0 wx
theorem got_len (s : Fd) (a : List UInt8) (c : UInt8) : (runF s (a ++ [c])).1 = (oneF (runF s a).1 c).1 ∧ (runF s (a ++ [c])).2 = (runF s a).2 ++ got (oneF (runF s a).1 c).2 := by
  rw [runF_snoc]; exact ⟨rfl, rfl⟩
theorem rows_le (s : Fd) (a : List UInt8) : (runF s a).2.length ≤ a.length := by
  induction a generalizing s with
  | nil => simp [runF]
  | cons c t ih =>
    have := ih (oneF s c).1
    have h2 : (got (oneF s c).2).length ≤ 1 := by unfold got; split <;> simp
    simp only [runF, List.length_append, List.length_cons]; omega
theorem right_bounds {s : Fd} (h : rightF s = true) : s.skip ≤ 65535 ∧ s.buf.length ≤ 1026 := by
  obtain ⟨h1, h2, h3, h4⟩ := (right_of_iff s).1 h
  refine ⟨h2, ?_⟩
  by_cases h5 : 2 ≤ s.buf.length
  · have := h4 h5; omega
  · omega

theorem at_new_row (W : World) (g : Nat) (ds : Array Value) (xs : List Value) (T : TypeId) : At ((W.setRow g ds).alloc (.cells xs.toArray T)) (some ⟨W.heap.size, 0, none⟩) xs := by
  have := at_new (W.setRow g ds) xs T
  simpa using this
theorem BlkT.drew {T : TypeId} {w : World} {b : Nat} {cs : List Value} (h : BlkT T w b cs) : BlkT T w.drew b cs := h

set_option maxRecDepth 100000 in
set_option maxHeartbeats 4000000 in
theorem refPush_any (f : Fv) (s : Fd) (a : Option Addr) (cap : Nat) (l : List UInt8) (w : World) (B : Nat) (hB : B ≤ w.heap.size) (hkeep : KeepAt B w f.a (B8s s.buf)) (h : FdAt w f s) (hr : rightF s = true) (hl : BytesAt w a l) (hlen : l.length ≤ 1000000000) :
    Calls Try.prog 26 #[f.v, .slice a l.length cap] w (PushOut B w (runF s l)) := by
  have HI := Lib.hid feed_info
  have Hl := Lib.hid hl
  have Hr := Lib.hid hr
  have Hf := Lib.hid h
  have HK := Lib.hid hkeep
  clear h hr hl hkeep
  go_enter Try.func26, Try.ntmps26
  go_wp2_with fail
  generalize hW : World.alloc _ _ = W
  have h0 : BlkT 25 W w.heap.size f.L := by
    rw [← hW]; exact (BlkT.new w f.L 25).up (ba _ _)
  have h1 : BlkT 25 W (w.heap.size + 1) F0 := by
    rw [← hW, ← size_alloc w (.cells f.L.toArray 25)]; exact BlkT.new _ F0 25
  have hb : Below w.heap.size w W := by rw [← hW]; exact bta (ba w _) _
  have hsz : W.heap.size = w.heap.size + 2 := by rw [← hW, size_alloc, size_alloc]
  clear hW
  go_loopw [6, 7] (fun v6 v7 wx => ∃ (k : Nat) (F : Fv) (oa : Option Addr) (oc : Nat) (vs : List Value), k ≤ l.length ∧ v7 = .int .i64 (k : Int) ∧ v6 = .slice oa (runF s (l.take k)).2.length oc ∧
      Own (w.heap.size + 2) wx v6 (runF s (l.take k)).2.length vs ∧ RowsK B wx vs (runF s (l.take k)).2 ∧ BlkT 25 wx w.heap.size F.L ∧ BlkT 25 wx (w.heap.size + 1) F0 ∧
      FdAt wx F (runF s (l.take k)).1 ∧ KeepAt B wx F.a (B8s (runF s (l.take k)).1.buf) ∧ Below w.heap.size w wx) (fun _ v7 _ => l.length - (intOf v7).toNat)
  case atStart =>
    exact ⟨0, f, none, 0, [], Nat.zero_le _, rfl, rfl, Own.nil (by omega), RowsK.nil _ _, h0, h1, Hf.out.mono hb, HK.out.safe (Safe.below hb), hb⟩
  case round =>
    clear h0 h1 hb hsz
    obtain ⟨k, F, oa, oc, vs, hk, rfl, rfl, hO, hR, h0, h1, hF, hFk, hb⟩ := hrel
    by_cases hlt : k < l.length
    · obtain ⟨g, o, rfl, hgl, kc⟩ := bytes_cell (Hl.out.mono hb) (by omega)
      have ck := kc k hlt
      clear kc
      have HT := Lib.hid (take_snoc l k hlt 0)
      have HN := Lib.hid (got_len s (l.take k) (l.getD k 0))
      rw [← HT.out] at HN
      have Hrt := Lib.hid (run_stays Hr.out (l.take k))
      have Hle := Lib.hid (rows_le s (l.take k))
      clear HT
      generalize l.getD k 0 = x at ck HN
      generalize runF s (l.take k) = TR at hO hR hF hFk HN Hrt Hle ⊢
      obtain ⟨T, rows⟩ := TR
      simp only at hO hR hF hFk
      have Hsz := Lib.hid hb.size
      have HD := Lib.hid (show ∀ W', Below wr.heap.size wr W' → Calls Try.prog 35 #[F.v, .int .u8 (bv x)] W' (OneOut B W' T x) from fun W' h => one_any B F T x W' (hF.mono h) (hFk.safe (Safe.below h)) (by have := (right_bounds Hrt.out).1; simp only at this; omega) (by have := (right_bounds Hrt.out).2; simp only at this; omega))
      have H0 := Lib.hid h0
      have H1 := Lib.hid h1
      have HO := Lib.hid hO
      have HR := Lib.hid hR
      have Hb := Lib.hid hb
      clear h0 h1 hO hR hF hFk hb
      go_wp2_with fail
      go_cut [8, 9] (fun v8 v9 wx => OneAt B wr wx T x v8 v9)
      case first =>
        have KS := Lib.hid (show ∀ w', Below wr.heap.size wr w' → (Below wr.heap.size wr w' ∧ w'.cell? ⟨w.heap.size, 0, none⟩ = some (.slice F.a F.len F.cap) ∧ w'.cell? ⟨w.heap.size, 1, none⟩ = some (.int .i64 F.skip) ∧ w'.cell? ⟨w.heap.size, 2, none⟩ = some (.int .i64 F.bad) ∧ w'.cell? ⟨g, o + k, none⟩ = some (.int .u8 (bv x))) from fun w' hb => by
          obtain ⟨c0, c1, c2⟩ := cells3 (H0.out.up hb).blk
          exact ⟨hb, c0, c1, c2, by rw [hb.cell (p := ⟨g, o + k, none⟩) hgl]; exact ck⟩)
        obtain ⟨hS0, c0, c1, c2, c3⟩ := KS.out wr (Below.refl _ _)
        clear ck
        go_region_held3 (fun w' => Below wr.heap.size wr w' ∧ w'.cell? ⟨w.heap.size, 0, none⟩ = some (.slice F.a F.len F.cap) ∧ w'.cell? ⟨w.heap.size, 1, none⟩ = some (.int .i64 F.skip) ∧ w'.cell? ⟨w.heap.size, 2, none⟩ = some (.int .i64 F.bad) ∧ w'.cell? ⟨g, o + k, none⟩ = some (.int .u8 (bv x)))
          (first
            | (apply KS.out; (with_reducible ((try apply bta); (try (apply rset3_below; rotate_left; first | apply Nat.le_refl)); (try apply bta); (try apply bt3 hb5); (try apply bta); (first | apply Below.refl | (apply btd; (try apply bta); apply Below.refl)))))
            | fail)
          ((go_at_call 35; go_split_ands; ((with_reducible refine Calls.mono (HD.out _ (by assumption)) ?_); rintro e w5 ⟨X, xa, xc, rfl, hx1, hx2, hX, -, hb5, hXk, hxk⟩; (try ((with_reducible have z1 := BlkT.up (BlkT.new _ F0 _) hb5); have fz1 := z1.blk.frozen; have lz1 := z1.blk.lt; obtain ⟨x0, x1, x2⟩ := cells3 z1.blk)); (try ((with_reducible have z1 := BlkT.up (BlkT.new _ F0 _).drew hb5); have fz1 := z1.blk.frozen; have lz1 := z1.blk.lt; obtain ⟨x0, x1, x2⟩ := cells3 z1.blk)))))
        all_goals
          go_split_ands
          go_wp2_with fail
          go_meet
        · exact ⟨w5.heap.size, X, xa, xc, rfl, rfl, hx1, hx2, Blk.new w5 X.L _, hX.mono (ba w5 _), hXk.safe (Safe.below (ba w5 _)), hxk.safe (Safe.below (ba w5 _)), by assumption⟩
        · have zz : BlkT 25 w5 wr.heap.size F0 := z1
          have sf : Safe B w5 _ := safe_rset3 (v0 := .slice X.a X.len X.cap) (v1 := .int .i64 X.skip) (v2 := .int .i64 X.bad) zz (by decide) (Nat.le_trans hB Hsz.out)
          exact ⟨wr.heap.size, X, xa, xc, rfl, rfl, hx1, hx2, (rset3 zz).blk, hX.keep (hXk.safe sf), hXk.safe sf, hxk.safe sf, by assumption⟩
      case rest =>
        obtain ⟨b8, X, xa, xc, rfl, rfl, hx1, hx2, h8, hX, hXk, hxk, hbc⟩ := hcut
        have H8 := Lib.hid h8
        have H0 := Lib.hid (H0.out.up hbc)
        have H1 := Lib.hid (H1.out.up hbc)
        have HO := Lib.hid (HO.out.up hbc)
        have HR := Lib.hid (HR.out.safe (Safe.below hbc))
        have Hb := Lib.hid (bt Hb.out hbc)
        have hsf := Safe.row (B := B) H0.out (by decide) hB X.L.toArray
        have HX := Lib.hid (hX.keep (hXk.safe hsf))
        have HXk := Lib.hid (hXk.safe hsf)
        have Hxk := Lib.hid (hxk.safe hsf)
        have HR := Lib.hid (HR.out.safe hsf)
        have HO := Lib.hid (HO.out.row (g := w.heap.size) (by omega) X.L.toArray)
        have H02 := Lib.hid (H0.out.row X.L)
        have H1 := Lib.hid (H1.out.rowOther w.heap.size (by omega) X.L.toArray)
        have Hb := Lib.hid (below_setRow Hb.out (Nat.le_refl _) X.L.toArray)
        have Hx := Lib.hid (And.intro hx1 hx2)
        clear h8 hX hXk hxk hbc hsf hx1 hx2 HD ck
        by_cases hem : (oneF T x).2 = []
        · have Hem := Lib.hid hem
          rw [hem]
          clear hem
          go_wp2_with (first
            | (refine wpList_load_blk 25 (.tmp 8) b8 (cs := X.L) rfl rfl rfl ?hb Try.underlying25 rfl HI.out ?_; (case hb => exact H8.out))
            | (refine wpList_store_blk 25 (.tmp 2) (.tmp 25) w.heap.size (old := F.L) (cs := X.L) rfl rfl rfl rfl ?hb HI.out rfl rfl ?_; (case hb => exact H0.out.blk)))
          have e1 := HN.out.1
          have e2 : (runF s (l.take (k + 1))).2 = rows := by rw [HN.out.2, Hem.out]; simp [got]
          exact ⟨⟨k + 1, X, oa, oc, vs, by omega, by go_num, by rw [e2], by rw [e2]; exact HO.out, by rw [e2]; exact HR.out, H02.out, H1.out, by rw [e1]; exact HX.out, by rw [e1]; exact HXk.out, Hb.out⟩, by simp [intOf]; omega⟩
        · have hd : 0 < (oneF T x).2.length := List.length_pos_iff.2 hem
          have Hem := Lib.hid hem
          clear hem
          have hlr : rows.length ≤ k := by have := Hle.out; simp only [List.length_take] at this; omega
          go_wp2_with (first
            | (refine wpList_load_blk 25 (.tmp 8) b8 (cs := X.L) rfl rfl rfl ?hb Try.underlying25 rfl HI.out ?_; (case hb => exact H8.out))
            | (refine wpList_store_blk 25 (.tmp 2) (.tmp 25) w.heap.size (old := F.L) (cs := X.L) rfl rfl rfl rfl ?hb HI.out rfl rfl ?_; (case hb => exact H0.out.blk))
            | (at_builtin; go_must (refine wpList_own (.tmp 29) (.tmp 31) rfl rfl rfl (HO.out.up (ba _ _)) (news := [.slice xa (oneF T x).2.length xc]) rfl (at_new_row _ _ _ _ _) rfl (by intro u hu; rw [List.mem_singleton] at hu; subst hu; rfl) (by omega) (rows.length + 1) rfl ?_; intro a2 c2 w2 hO2 hg2)))
          have e1 := HN.out.1
          have e2 : (runF s (l.take (k + 1))).2 = rows ++ [(oneF T x).2] := by rw [HN.out.2]; simp [got, Hem.out]
          have hO3 := HO.out.up (ba _ (.cells #[.slice xa (oneF T x).2.length xc] 23))
          have hsf2 := (Safe.below (B := B) (ba (wc.setRow w.heap.size X.L.toArray) (.cells #[.slice xa (oneF T x).2.length xc] 23))).trans (Safe.grown hO3.own hg2 (by decide) (by omega))
          have hb2 := below_own (bt Hb.out (ba _ _)) hO3.own hg2 (by have := hO3.le; omega) (by omega)
          exact ⟨⟨k + 1, X, a2, c2, vs ++ [.slice xa (oneF T x).2.length xc], by omega, by go_num, by rw [e2]; simp, by rw [e2]; simpa using hO2, by rw [e2]; exact (HR.out.safe hsf2).snoc Hx.out.1 Hx.out.2 (Hxk.out.safe hsf2), (H02.out.up (ba _ _)).grown hO3 hg2 (by omega), (H1.out.up (ba _ _)).grown hO3 hg2 (by omega), by rw [e1]; exact HX.out.keep (HXk.out.safe hsf2), by rw [e1]; exact HXk.out.safe hsf2, hb2⟩, by simp [intOf]; omega⟩
    · obtain rfl : k = l.length := by omega
      rw [List.take_length] at hO hR hF hFk ⊢
      have H0 := Lib.hid h0
      have H1 := Lib.hid h1
      have HO := Lib.hid hO
      have HR := Lib.hid hR
      have HF := Lib.hid hF
      have HFk := Lib.hid hFk
      have Hb := Lib.hid hb
      clear h0 h1 hO hR hF hFk hb
      go_wp2_with (first
        | (refine wpList_load_blk 25 (.tmp 2) w.heap.size (cs := F.L) rfl rfl rfl ?hb Try.underlying25 rfl HI.out ?_; (case hb => exact H0.out.blk))
        | (refine wpList_store_blk 25 (.tmp 4) (.tmp 33) (w.heap.size + 1) (old := F0) (cs := F.L) rfl rfl rfl rfl ?hb HI.out rfl rfl ?_; (case hb => exact H1.out.blk)))
      have hsf := Safe.row (B := B) H1.out (by decide) (by omega) F.L.toArray
      have hO2 := HO.out.row (g := w.heap.size + 1) (by omega) F.L.toArray
      refine bodyPost_ret (feed_back (f := F) rfl rfl rfl (H1.out.blk.row _)) rfl ?_
      exact ⟨F, oa, oc, vs, rfl, HF.out.keep (HFk.out.safe hsf), HFk.out.safe hsf, hO2.weak (by omega), HR.out.safe hsf, below_setRow Hb.out (by omega) _⟩
end Go.Proofs.Ytcccgjpmfbmplaa
