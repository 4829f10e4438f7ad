/- Frames: one byte of a stream, as the document takes it. -/
import Derived.Test.YtcccgjpmfbmplaaFrK
set_option linter.unusedSimpArgs false
set_option linter.unusedVariables false
namespace Go.Proofs.Ytcccgjpmfbmplaa
open Go.RowKit

/-- what lies at a, in a block of bytes from lo on -/
def AtB (lo : Nat) (w : World) (a : Option Addr) (cs : List Value) : Prop := AtP (fun b => lo ≤ b ∧ Ty5 w b) w a cs
theorem AtB.at {lo : Nat} {w : World} {a : Option Addr} {cs : List Value} (h : AtB lo w a cs) : At w a cs := AtP.at h
theorem AtB.keep {lo B : Nat} {w : World} {a : Option Addr} {cs : List Value} (h : AtB lo w a cs) : KeepAt B w a cs := AtP.to h (Nat.le_refl _) fun b hb hp => ⟨rfl, .inr hp.2⟩
theorem ty_of {w w' : World} {b : Nat} (h : Ty5 w b) (e : w'.heap[b]? = w.heap[b]?) : Ty5 w' b := by
  obtain ⟨cur, fr, k⟩ := h; exact ⟨cur, fr, by rw [e]; exact k⟩
theorem AtB.mono {lo : Nat} {w w' : World} {a : Option Addr} {cs : List Value} (h : AtB lo w a cs) (hb : Below w.heap.size w w') : AtB lo w' a cs :=
  AtP.to h hb.size fun b hlt hp => ⟨hb.block b hlt, hp.1, ty_of hp.2 (hb.block b hlt)⟩
theorem AtB.set {lo g j : Nat} {w : World} {a : Option Addr} {cs : List Value} (h : AtB lo w a cs) (hg : g < lo) (v : Value) : AtB lo (w.setCell ⟨g, j, none⟩ v) a cs :=
  AtP.to h (by simp) fun b hlt hp => by
    have e : (w.setCell ⟨g, j, none⟩ v).heap[b]? = w.heap[b]? := Below.heap_setCell _ _ _ _ (by have := hp.1; simp only; omega)
    exact ⟨e, hp.1, ty_of hp.2 e⟩
theorem AtB.row {lo g : Nat} {w : World} {a : Option Addr} {cs : List Value} (h : AtB lo w a cs) (hg : g < lo) (ds : Array Value) : AtB lo (w.setRow g ds) a cs :=
  AtP.to h (by simp) fun b hlt hp => by
    have e : (w.setRow g ds).heap[b]? = w.heap[b]? := setRow_other w g b ds (by have := hp.1; omega)
    exact ⟨e, hp.1, ty_of hp.2 e⟩
theorem Buf.atB {wB w : World} {a : Option Addr} {n cap : Nat} {xs : List Value} (h : Buf wB w 5 (.slice a n cap) n xs) : AtB wB.heap.size w a xs := by
  obtain ⟨h1, h2⟩ := h.own
  rcases h2 with ⟨hv, hn⟩ | ⟨g, cap', cur, hv, hb, hg, h3, h4, h5, h6⟩
  · subst hn; exact .inl (List.eq_nil_of_length_eq_zero (by simpa using h1))
  · cases hv
    refine .inr ⟨g, 0, rfl, ⟨hb, _, _, hg⟩, (Array.getElem?_eq_some_iff.1 hg).1, fun i hi => ?_⟩
    rw [Nat.zero_add]
    have hx : xs[i]? = some (xs[i]) := List.getElem?_eq_getElem hi
    have := h.own.cells (g := g) rfl i _ hx
    have hadd : (⟨g, 0, none⟩ : Addr).add i = ⟨g, i, none⟩ := by unfold Addr.add; split <;> simp_all
    rw [hadd] at this
    rw [this]; simp [List.getD, hi]

theorem below_setC {B : Nat} {a w : World} (h : Below B a w) {g j : Nat} (hg : B ≤ g) (v : Value) : Below B a (w.setCell ⟨g, j, none⟩ v) := h.setCell hg v
theorem feed_info : (Try.prog.info? 25).map (·.size) = some 3 := by kernel_rfl
abbrev F0 : List Value := [.slice none 0 0, .int .i64 0, .int .i64 0]
theorem feed_back {W : World} {b : Nat} {f : Fv} {v : Value} {fn : Func} {tmps : Array Value} {p u : Tmp} (h : fn.results = #[.cell p 25, .tmp u]) (hp : tmps.getD p undef = .pointer (some ⟨b, 0, none⟩)) (hu : tmps.getD u undef = v) (hB : Blk W b f.L) :
    (results fn tmps).run Try.prog W = .ok (.tuple #[f.v, v]) W :=
  results_blk_tmp h tmps W b hp v hu hB Try.underlying25 rfl feed_info
/-- what one byte answers -/
def OneOut (B : Nat) (w : World) (s : Fd) (x : UInt8) (e : Ending) (w' : World) : Prop :=
  ∃ (f : Fv) (a : Option Addr) (c : Nat), e = .returned (.tuple #[f.v, .slice a (oneF s x).2.length c]) ∧ (oneF s x).2.length ≤ c ∧ c ≤ maxLen ∧ FdAt w' f (oneF s x).1 ∧ BytesAt w' a (oneF s x).2 ∧ Below w.heap.size w w' ∧ KeepAt B w' f.a (B8s (oneF s x).1.buf) ∧ KeepAt B w' a (B8s (oneF s x).2)
theorem more_eq (n : Int) : wrap64 (n + 1) = more n := by
  unfold more wrap64; rw [IntKind.wrap_i64]

set_option maxHeartbeats 2000000 in
theorem one_any (B : Nat) (f : Fv) (s : Fd) (x : UInt8) (w : World) (h : FdAt w f s) (hkeep : KeepAt B w f.a (B8s s.buf)) (hsk : s.skip ≤ 9223372036854775807) (hlen : s.buf.length ≤ 35184372088832) :
    Calls Try.prog 35 #[f.v, .int .u8 (bv x)] w (OneOut B w s x) := by
  obtain ⟨a, len, cap, skip, bad⟩ := f
  obtain ⟨l, sk, bd⟩ := s
  obtain ⟨hl, hle, hc, hat, hs, hb⟩ := h
  simp only at hl hle hc hat hs hb hsk hlen hkeep
  have HK := Lib.hid hkeep
  clear hkeep
  subst hs hb hl
  have HI := Lib.hid feed_info
  have Hat := Lib.hid hat
  have Hcap := Lib.hid (And.intro hle hc)
  have Hlen := Lib.hid hlen
  clear hat hle hc hlen
  by_cases h0 : 0 < skip
  · have hd0 : decide ((0 : Int) < skip) = true := by simpa using h0
    have hsub : wrap64 (skip - 1) = skip - 1 := by unfold wrap64; omega
    have HF := Lib.hid (show oneF ⟨l, skip, bad⟩ x = (⟨l, skip - 1, bad⟩, []) by unfold oneF; rw [if_pos h0])
    clear h0 hsk
    go_enter Try.func35, Try.ntmps35
    go_wp2_with (first
      | (refine wpList_load_blk 25 (.tmp 2) w.heap.size (cs := [.slice a l.length cap, .int .i64 (skip - 1), .int .i64 bad]) rfl rfl rfl ?hb Try.underlying25 rfl HI.out ?_; (case hb => exact (((Blk.new w [.slice a l.length cap, .int .i64 skip, .int .i64 bad] 25).alloc _).set 1 _)))
      | (refine wpList_store_blk 25 (.tmp 4) (.tmp 14) (w.heap.size + 1) (old := F0) (cs := [.slice a l.length cap, .int .i64 (skip - 1), .int .i64 bad]) rfl rfl rfl rfl ?hb HI.out rfl rfl ?_; (case hb => exact ((blk_at (size_alloc w _).symm F0 25).other _ (by simp) _))))
    refine bodyPost_ret (feed_back (f := ⟨a, l.length, cap, skip - 1, bad⟩) rfl rfl rfl (blk_at (size_alloc w _).symm _ 25)) rfl ?_
    have hbel := bt (ba w (.cells #[.slice a l.length cap, .int .i64 (skip - 1), .int .i64 bad] 25)) (ba _ (.cells #[.slice a l.length cap, .int .i64 (skip - 1), .int .i64 bad] 25))
    refine ⟨_, none, 0, by rw [HF.out]; rfl, by rw [HF.out]; exact Nat.le_refl _, Nat.zero_le _, ?_, by rw [HF.out]; exact .inl rfl, hbel, by rw [HF.out]; exact HK.out.safe (Safe.below hbel), by rw [HF.out]; exact .inl rfl⟩
    rw [HF.out]
    exact ⟨rfl, Hcap.out.1, Hcap.out.2, Hat.out.mono hbel, rfl, rfl⟩
  · have hd0 : decide ((0 : Int) < skip) = false := by simpa using h0
    obtain ⟨W, hW⟩ : ∃ W, (w.alloc (.cells #[.slice a l.length cap, .int .i64 skip, .int .i64 bad] 25)).alloc (.cells #[.slice none 0 0, .int .i64 0, .int .i64 0] 25) = W := ⟨_, rfl⟩
    obtain ⟨hB0, hB1, hb⟩ := two_world (a := [.slice a l.length cap, .int .i64 skip, .int .i64 bad]) (b := F0) hW
    have HW := Lib.hid hW
    have HM := Lib.hid (show Buf W (W.alloc (.cells #[] 5)) 5 (.slice (some ⟨w.heap.size + 1 + 1, 0, none⟩) 0 0) 0 [] by
      have e : W.heap.size = w.heap.size + 1 + 1 := by rw [← hW, size_alloc, size_alloc]
      have := Buf.made W 5 [] 0 0 (by decide) rfl (by decide)
      rw [e] at this; exact this)
    have Hn := Lib.hid (show w.heap.size < w.heap.size + 1 ∧ w.heap.size + 1 < W.heap.size from ⟨by omega, hB1.lt⟩)
    have Hb := Lib.hid hb
    have B0 := Lib.hid hB0
    have B1 := Lib.hid hB1
    clear hb hB0 hB1 hW
    have Hat2 := Lib.hid (Hat.out.mono Hb.out)
    rcases hlt : decide (((l.length : Int) + 1) < 2) with _ | _
    · have h1 : ¬ l.length + 1 < 2 := by have := of_decide_eq_false hlt; omega
      go_enter Try.func35, Try.ntmps35
      go_wp2_with (first
        | (at_builtin; rw [HW.out]; go_must (refine wpList_buf (.tmp 15) (.tmp 17) 23 rfl rfl elemB rfl HM.out (sp := a) (m := l.length) (news := B8s l) rfl (Hat2.out.mono (ba W _)) (by simp) (bytes_one l) (by have := Hlen.out; omega) (by decide) l.length (by omega) (B8s l) rfl ?_; intro a1 c1 w1 hB1))
        | (at_builtin; go_must (refine wpList_buf (.tmp 18) (.tmp 20) 23 rfl rfl elemB rfl (hB1.alloc _) (news := [.int .u8 (bv x)]) rfl (at_new w1 _ _) rfl (bytes_one [x]) (by have := Hlen.out; omega) (by decide) (l.length + 1) rfl (B8s (l ++ [x])) (by simp) ?_; intro a2 c2 w2 hB2; have B02 := Lib.hid (hB2.blk B0.out); have B12 := Lib.hid (hB2.blk B1.out); obtain ⟨d0, d1, d2⟩ := cells3 B02.out; have fz := B02.out.frozen; have HB2 := Lib.hid hB2; clear hB2)))
      have C0 := B02.out.set 0 (.slice a2 (l.length + 1) c2)
      have C1 := B12.out.other ⟨w.heap.size, 0, none⟩ (by have := Hn.out; simp only; omega) (.slice a2 (l.length + 1) c2)
      have hat := HB2.out.atB.set (g := w.heap.size) (j := 0) (by have := Hn.out; omega) (.slice a2 (l.length + 1) c2)
      have hbel := below_setC (bt Hb.out HB2.out.bel) (g := w.heap.size) (j := 0) (Nat.le_refl _) (.slice a2 (l.length + 1) c2)
      have hsz : W.heap.size ≤ (w2.setCell ⟨w.heap.size, 0, none⟩ (.slice a2 (l.length + 1) c2)).heap.size := by have := HB2.out.size; simpa using this
      obtain ⟨-, g1, g2⟩ := HB2.out.cap
      clear HB2 B02 B12 d0 d1 d2 fz hB1
      generalize World.setCell w2 _ _ = W2 at C0 C1 hat hbel hsz ⊢
      have C0' : Blk W2 w.heap.size [.slice a2 (l.length + 1) c2, .int .i64 skip, .int .i64 bad] := C0
      clear C0
      obtain ⟨b, off, rfl, hbl, k0, k1⟩ := bytes_two hat.at (by simp; omega)
      have Ht := Lib.hid (told_two (l ++ [x]))
      have Hgat := Lib.hid hat
      have Hg := Lib.hid (And.intro g1 g2)
      have Hbel := Lib.hid hbel
      have Hsz := Lib.hid hsz
      have C1 := Lib.hid C1
      obtain ⟨d0, d1, d2⟩ := cells3 C0'
      have C0 := Lib.hid C0'
      clear C0' hat hbel g1 g2 hsz
      generalize (l ++ [x]).getD 0 0 = x0 at k0 Ht
      generalize (l ++ [x]).getD 1 0 = x1 at k1 Ht
      have hi0 : 0 < l.length + 1 := by omega
      have hi1 : 1 < l.length + 1 := by omega
      go_quiet (fail)
      rw [Ht.out]
      clear Ht k0 k1
      have c0 := Lib.hid (C0.out.drewN nq)
      have c1 := Lib.hid (C1.out.drewN nq)
      have hga := Lib.hid (Hgat.out.mono (btn (Below.refl _ _) nq))
      have hbl := Lib.hid (btn Hbel.out nq)
      have hsz := Lib.hid (show W.heap.size ≤ (W2.drewN nq).heap.size from Hsz.out)
      clear C0 C1 Hgat Hbel Hsz d0 d1 d2
      generalize W2.drewN nq = W3 at c0 c1 hga hbl hsz ⊢
      obtain ⟨d0, d1, d2⟩ := cells3 c0.out
      obtain ⟨e0, e1, e2⟩ := cells3 c1.out
      have fz0 := c0.out.frozen
      have fz1 := c1.out.frozen
      have hnl := told_lt (l ++ [x])
      have hone : oneF ⟨l, skip, bad⟩ x = (if toldL (l ++ [x]) = 0 ∨ 1024 < toldL (l ++ [x]) then (⟨[], toldL (l ++ [x]), more bad⟩, []) else if l.length + 1 < toldL (l ++ [x]) + 2 then (⟨l ++ [x], skip, bad⟩, []) else (⟨[], 0, bad⟩, (l ++ [x]).drop 2)) := by
        unfold oneF
        rw [if_neg (by simp only; omega), if_neg h1]
      generalize toldL (l ++ [x]) = n at hone hnl ⊢
      have hm : wrap64 (bad + 1) = more bad := more_eq bad
      have hn2 : wrap64 ((n : Int) + 2) = n + 2 := by unfold wrap64; omega
      by_cases hz : n = 0 ∨ 1024 < n
      · rw [if_pos hz] at hone
        have HF := Lib.hid hone
        clear hone
        rcases hz with hz | hz
        all_goals
          first
            | (subst hz; have g0 : (((0 : Nat) : Int) == 0) = true := rfl)
            | (have g0 : ((n : Int) == 0) = false := by (rw [beq_eq_false_iff_ne]; omega)
               have g1 : decide ((1024 : Int) < n) = true := by simp; omega)
          go_wp2_with (first
            | (refine wpList_store_blk 25 (.tmp 4) (.tmp 50) (w.heap.size + 1) (old := F0) (cs := [.slice none 0 0, .int .i64 (((_ : Nat)) : Int), .int .i64 (more bad)]) rfl rfl rfl rfl ?hb HI.out rfl rfl ?_; (case hb => exact c1.out)))
          refine bodyPost_ret (feed_back (f := ⟨none, 0, 0, ((_ : Nat) : Int), more bad⟩) rfl rfl rfl (c1.out.row _)) rfl ?_
          refine ⟨_, none, 0, by rw [HF.out]; rfl, by rw [HF.out]; exact Nat.le_refl _, Nat.zero_le _, ?_, by rw [HF.out]; exact .inl rfl, below_setRow hbl.out (Nat.le_of_lt Hn.out.1) _, by rw [HF.out]; exact .inl rfl, by rw [HF.out]; exact .inl rfl⟩
          rw [HF.out]
          exact ⟨rfl, Nat.le_refl _, Nat.zero_le _, .inl rfl, rfl, rfl⟩
      · rw [if_neg hz] at hone
        have g0 : ((n : Int) == 0) = false := by rw [beq_eq_false_iff_ne]; omega
        have g1 : decide ((1024 : Int) < n) = false := by simp; omega
        by_cases hs : l.length + 1 < n + 2
        · rw [if_pos hs] at hone
          have HF := Lib.hid hone
          have hsd : decide (((l.length : Int) + 1) < n + 2) = true := by simp; omega
          clear hone
          go_wp2_with (first
            | (refine wpList_load_blk 25 (.tmp 2) w.heap.size (cs := [.slice (some ⟨b, off, none⟩) (l.length + 1) c2, .int .i64 skip, .int .i64 bad]) rfl rfl rfl ?hb Try.underlying25 rfl HI.out ?_; (case hb => exact c0.out))
            | (refine wpList_store_blk 25 (.tmp 4) (.tmp 57) (w.heap.size + 1) (old := F0) (cs := [.slice (some ⟨b, off, none⟩) (l.length + 1) c2, .int .i64 skip, .int .i64 bad]) rfl rfl rfl rfl ?hb HI.out rfl rfl ?_; (case hb => exact c1.out)))
          refine bodyPost_ret (feed_back (f := ⟨some ⟨b, off, none⟩, l.length + 1, c2, skip, bad⟩) rfl rfl rfl (c1.out.row _)) rfl ?_
          refine ⟨_, none, 0, by rw [HF.out]; rfl, by rw [HF.out]; exact Nat.le_refl _, Nat.zero_le _, ?_, by rw [HF.out]; exact .inl rfl, below_setRow hbl.out (Nat.le_of_lt Hn.out.1) _, by rw [HF.out]; exact (hga.out.row (g := w.heap.size + 1) Hn.out.2 _).keep, by rw [HF.out]; exact .inl rfl⟩
          rw [HF.out]
          exact ⟨by simp, Hg.out.1, Hg.out.2, (hga.out.row (g := w.heap.size + 1) Hn.out.2 _).at, rfl, rfl⟩
        · rw [if_neg hs] at hone
          have HF := Lib.hid hone
          have hsd : decide (((l.length : Int) + 1) < n + 2) = false := by simp; omega
          have hsl : ∀ W, (Instr.sliceAt 23 (.slice (some ⟨b, off, none⟩) (l.length + 1) c2) (some (.int .i64 2)) none none).run Try.prog W = .ok (.slice (adv (some ⟨b, off, none⟩) c2 2 1) (l.length + 1 - 2) (c2 - 2)) W := fun W => run_tail Try.underlying23 size_u8 W (some ⟨b, off, none⟩) (l.length + 1) c2 2 (by omega)
          clear hone
          go_wp2_with fail
          go_region
          all_goals
            go_wp2_with fail
            have h5 := (((hga.out.set (g := w.heap.size + 1) (j := 0) Hn.out.2 (.slice none 0 0)).set (g := w.heap.size + 1) (j := 1) Hn.out.2 (.int .i64 0)).set (g := w.heap.size + 1) (j := 2) Hn.out.2 (.int .i64 bad))
            have h5d := (h5.mono (bd _)).keep (B := B)
            have h7 := AtP.adv (cap := c2) (l := 2) h5d (by simpa using Hg.out.1)
            rw [← List.map_drop] at h7
            have h6 := h7.at
            have hbb := Below.drew (below_setC (below_setC (below_setC hbl.out (g := w.heap.size + 1) (j := 0) (Nat.le_of_lt Hn.out.1) (.slice none 0 0)) (g := w.heap.size + 1) (j := 1) (Nat.le_of_lt Hn.out.1) (.int .i64 0)) (g := w.heap.size + 1) (j := 2) (Nat.le_of_lt Hn.out.1) (.int .i64 bad))
            have hlen : ((l ++ [x]).drop 2).length = l.length - 1 := by simp
            refine bodyPost_ret (feed_back (f := ⟨none, 0, 0, 0, bad⟩) rfl rfl rfl (((c1.out.set 0 _).set 1 _).set 2 _).drew) rfl ?_
            refine ⟨_, adv (some ⟨b, off, none⟩) c2 2 1, c2 - 2, by rw [HF.out]; simp only [hlen]; rfl, by (rw [HF.out]; simp only [hlen]; have := Hg.out; omega), by (have := Hg.out; unfold maxLen at *; omega), ?_, by rw [HF.out]; exact h6, hbb, by rw [HF.out]; exact .inl rfl, by rw [HF.out]; exact h7⟩
            rw [HF.out]
            exact ⟨rfl, Nat.le_refl _, Nat.zero_le _, .inl rfl, rfl, rfl⟩
    · have hl2 := Lib.hid (show l = [] by have := of_decide_eq_true hlt; exact List.eq_nil_of_length_eq_zero (by omega))
      have HF := Lib.hid (show oneF ⟨l, skip, bad⟩ x = (⟨l ++ [x], skip, bad⟩, []) by unfold oneF; rw [if_neg h0, if_pos (by have := of_decide_eq_true hlt; simp only; omega)])
      go_enter Try.func35, Try.ntmps35
      go_wp2_with (first
        | (at_builtin; rw [HW.out]; go_must (refine wpList_buf (.tmp 15) (.tmp 17) 23 rfl rfl elemB rfl HM.out (sp := a) (m := l.length) (news := B8s l) rfl (Hat2.out.mono (ba W _)) (by simp) (bytes_one l) (by have := Hlen.out; omega) (by decide) l.length (by omega) (B8s l) rfl ?_; intro a1 c1 w1 hB1))
        | (at_builtin; go_must (refine wpList_buf (.tmp 18) (.tmp 20) 23 rfl rfl elemB rfl (hB1.alloc _) (news := [.int .u8 (bv x)]) rfl (at_new w1 _ _) rfl (bytes_one [x]) (by have := Hlen.out; omega) (by decide) (l.length + 1) rfl (B8s (l ++ [x])) (by simp) ?_; intro a2 c2 w2 hB2; have B02 := Lib.hid (hB2.blk B0.out); have B12 := Lib.hid (hB2.blk B1.out); obtain ⟨d0, d1, d2⟩ := cells3 B02.out; have fz := B02.out.frozen; have HB2 := Lib.hid hB2; clear hB2))
        | (refine wpList_load_blk 25 (.tmp 2) w.heap.size (cs := [.slice a2 (l.length + 1) c2, .int .i64 skip, .int .i64 bad]) rfl rfl rfl ?hb Try.underlying25 rfl HI.out ?_; (case hb => exact (B02.out.set 0 _)))
        | (refine wpList_store_blk 25 (.tmp 4) (.tmp 27) (w.heap.size + 1) (old := F0) (cs := [.slice a2 (l.length + 1) c2, .int .i64 skip, .int .i64 bad]) rfl rfl rfl rfl ?hb HI.out rfl rfl ?_; (case hb => exact (B12.out.other _ (by have := Hn.out; simp only; omega) _))))
      have hr := (B12.out.other ⟨w.heap.size, 0, none⟩ (by have := Hn.out; simp only; omega) (.slice a2 (l.length + 1) c2)).row [.slice a2 (l.length + 1) c2, .int .i64 skip, .int .i64 bad]
      have hat := (HB2.out.atB.set (g := w.heap.size) (j := 0) (by have := Hn.out; omega) (.slice a2 (l.length + 1) c2)).row (g := w.heap.size + 1) Hn.out.2 [.slice a2 (l.length + 1) c2, .int .i64 skip, .int .i64 bad].toArray
      have hbel := below_setRow (below_setC (bt Hb.out HB2.out.bel) (g := w.heap.size) (j := 0) (Nat.le_refl _) (.slice a2 (l.length + 1) c2)) (g := w.heap.size + 1) (Nat.le_of_lt Hn.out.1) [.slice a2 (l.length + 1) c2, .int .i64 skip, .int .i64 bad].toArray
      obtain ⟨-, g1, g2⟩ := HB2.out.cap
      refine bodyPost_ret (feed_back (f := ⟨a2, l.length + 1, c2, skip, bad⟩) rfl rfl rfl hr) rfl ?_
      refine ⟨_, none, 0, by rw [HF.out]; rfl, by rw [HF.out]; exact Nat.le_refl _, Nat.zero_le _, ?_, by rw [HF.out]; exact .inl rfl, hbel, by rw [HF.out]; exact hat.keep, by rw [HF.out]; exact .inl rfl⟩
      rw [HF.out]
      exact ⟨by simp, g1, g2, hat.at, rfl, rfl⟩
end Go.Proofs.Ytcccgjpmfbmplaa
