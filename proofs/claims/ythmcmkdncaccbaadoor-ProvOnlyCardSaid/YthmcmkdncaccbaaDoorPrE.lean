/- Providers: the program's Tag. -/
import Derived.Test.YthmcmkdncaccbaaDoorPrD
import Derived.Deep.DeepCutAuto
set_option linter.unusedSimpArgs false
set_option linter.unusedVariables false
namespace Go.Proofs.YthmcmkdncaccbaaDoor
open Go.RowKit

/-- the pairs behind a tag -/
def tagEs (es : List Ent) (k b : List UInt8) : List Ent := bif hadF es k b then es else es ++ [(k, b)]
/-- a provider and a tag, as a result -/
def TagP (w : World) (i f : Bool) (es : List Ent) (T : List UInt8) (e : Ending) (w' : World) : Prop := ∃ a c ta tc, e = .returned (.tuple #[.agg #[.bool i, .slice a es.length c, .bool f], .slice ta 16 tc]) ∧ es.length ≤ c ∧ c ≤ maxLen ∧ EntsAt w' a es ∧ (16 ≤ tc ∧ tc ≤ maxLen) ∧ BytesAt w' ta T ∧ Below w.heap.size w w'
abbrev zeroP : List Value := [.bool false, .slice none 0 0, .bool false]
theorem prov_size : (Tryd.prog.info? 24).map (·.size) = some 3 := by kernel_rfl
theorem cells3P {w : World} {b : Nat} {v0 v1 v2 : Value} (h : Blk w b [v0, v1, v2]) : w.cell? ⟨b, 0, none⟩ = some v0 ∧ w.cell? ⟨b, 1, none⟩ = some v1 ∧ w.cell? ⟨b, 2, none⟩ = some v2 :=
  ⟨h.cell 0 (by simp), h.cell 1 (by simp), h.cell 2 (by simp)⟩
theorem rset3 {T : TypeId} {w : World} {b : Nat} {a0 a1 a2 v0 v1 v2 : Value} (h : BlkT T w b [a0, a1, a2]) : BlkT T (((w.setCell ⟨b, 0, none⟩ v0).setCell ⟨b, 1, none⟩ v1).setCell ⟨b, 2, none⟩ v2) b [v0, v1, v2] := ((h.set 0 v0).set 1 v1).set 2 v2
theorem rset3_below {w0 w : World} {B b : Nat} {v0 v1 v2 : Value} (h : Below B w0 w) (hb : B ≤ b) : Below B w0 (((w.setCell ⟨b, 0, none⟩ v0).setCell ⟨b, 1, none⟩ v1).setCell ⟨b, 2, none⟩ v2) := ((h.setCell hb v0).setCell hb v1).setCell hb v2
theorem rset3_heap {w : World} {b g : Nat} {v0 v1 v2 : Value} (h : g ≠ b) : (((w.setCell ⟨b, 0, none⟩ v0).setCell ⟨b, 1, none⟩ v1).setCell ⟨b, 2, none⟩ v2).heap[g]? = w.heap[g]? := by
  rw [Below.heap_setCell _ _ _ _ h, Below.heap_setCell _ _ _ _ h, Below.heap_setCell _ _ _ _ h]
theorem rset3_size {w : World} {b : Nat} {v0 v1 v2 : Value} : (((w.setCell ⟨b, 0, none⟩ v0).setCell ⟨b, 1, none⟩ v1).setCell ⟨b, 2, none⟩ v2).heap.size = w.heap.size := by simp

/-- bytes lie on where a block is written that holds none -/
theorem BytesAt.offP {w : World} {B : Nat} {T : TypeId} {cs : List Value} {a : Option Addr} {l : List UInt8} {v0 v1 v2 : Value} (h : BytesAt w a l) (hb : BlkT T w B cs) (hcs : ∀ v ∈ cs, ∀ k n, v ≠ .int k n) :
    BytesAt (((w.setCell ⟨B, 0, none⟩ v0).setCell ⟨B, 1, none⟩ v1).setCell ⟨B, 2, none⟩ v2) a l := by
  rcases h with h | ⟨b', off, rfl, hlt, hc⟩
  · exact .inl h
  refine .inr ⟨b', off, rfl, by rw [rset3_size]; exact hlt, fun i hi => ?_⟩
  have hne : b' ≠ B := by
    rintro rfl
    have h1 := hc i hi
    rw [cell_of_row w b' (off + i) cs.toArray T (0, 0) hb] at h1
    have h2 := Array.mem_of_getElem? h1
    have hi' : i < l.length := by simpa using hi
    have h3 : (B8s l).getD i undef = .int .u8 (bv (l.getD i 0)) := by simp [List.getD, hi']
    rw [h3] at h2
    exact hcs _ (by simpa using h2) _ _ rfl
  rw [World.cell?_of_block (w := w) (a := ⟨b', off + i, none⟩) (rset3_heap hne)]
  exact hc i hi
theorem noIntP (i f : Bool) (a : Option Addr) (n c : Nat) : ∀ v ∈ ([.bool i, .slice a n c, .bool f] : List Value), ∀ k n, v ≠ .int k n := by
  intro v hv k n; simp only [List.mem_cons, List.not_mem_nil, or_false] at hv
  rcases hv with rfl | rfl | rfl <;> intro h <;> cases h

set_option maxRecDepth 100000 in
set_option maxHeartbeats 4000000 in
theorem tag_any (i f : Bool) (a ka ba_ : Option Addr) (c kc bc : Nat) (es : List Ent) (k b : List UInt8) (w : World) (hes : es.length ≤ 1000) (hc : es.length ≤ c) (hcm : c ≤ maxLen) (hE : EntsAt w a es) (hk : k.length ≤ 100000) (hb : b.length ≤ 90000) (hka : BytesAt w ka k) (hba : BytesAt w ba_ b) (hks : KeysAt w) :
    Calls Tryd.prog 11 #[.agg #[.bool i, .slice a es.length c, .bool f], .slice ka k.length kc, .slice ba_ b.length bc] w (TagP w i f (tagEs es k b) (rightT k b)) := by
  have HI := Lib.hid prov_size
  have H1 := Lib.hid (fun (W : World) (h : Below w.heap.size w W) => had_any i f a ka ba_ c kc bc es k b W (by omega) (hE.mono h) (by unfold maxLen; omega) (by unfold maxLen; omega) (hka.mono h) (hba.mono h))
  have H2 := Lib.hid (fun (W : World) => clip_any a es.length c hc W)
  have H3 := Lib.hid (fun (W : World) (h : Below w.heap.size w W) => bclone_any ka kc k W hk (hka.mono h))
  have H4 := Lib.hid (fun (W : World) (h : Below w.heap.size w W) => bclone_any ba_ bc b W (by omega) (hba.mono h))
  have H5 := Lib.hid (fun (W : World) (h : Below w.heap.size w W) => right_any04 ka ba_ kc bc k b hk hb W (hka.mono h) (hba.mono h) (hks.mono h))
  have HE := Lib.hid hE
  have Hc := Lib.hid (And.intro hc hcm)
  have Hes := Lib.hid hes
  obtain ⟨ys, hys⟩ : ∃ ys, ys = tagEs es k b := ⟨_, rfl⟩
  have Hy := Lib.hid (show ys = bif hadF es k b then es else es ++ [(k, b)] from hys)
  rw [← hys]
  generalize rightT k b = T at H5 ⊢
  generalize hadF es k b = R at H1 Hy
  unfold TagOut at H5
  unfold CloneOut at H3 H4
  clear hys hc hcm hE hka hba hks hes hk hb
  go_enter Tryd.func11, Tryd.ntmps11
  go_upto_region 1 with (fail)
  generalize hW : World.alloc (World.alloc w _) _ = W
  have B3 := Lib.hid (show BlkT 24 W w.heap.size [.bool i, .slice a es.length c, .bool f] by rw [← hW]; exact (BlkT.new w [.bool i, .slice a es.length c, .bool f] _).up (ba _ _))
  have B6 := Lib.hid (show BlkT 24 W (w.heap.size + 1) zeroP by rw [← hW, ← size_alloc w (.cells #[.bool i, .slice a es.length c, .bool f] 24)]; exact BlkT.new _ zeroP _)
  have G := Lib.hid (show Below w.heap.size w W by rw [← hW]; exact bta (ba w _) _)
  clear hW
  obtain ⟨b3, hb3⟩ : ∃ b3, b3 = w.heap.size := ⟨_, rfl⟩
  have Hb3 := Lib.hid hb3
  have hne : b3 ≠ b3 + 1 := by omega
  rw [← hb3] at B3 B6
  simp only [← hb3]
  obtain ⟨b6, hb6⟩ : ∃ b6, b6 = b3 + 1 := ⟨_, rfl⟩
  have Hb6 := Lib.hid hb6
  rw [← hb6] at B6 hne
  simp only [← hb6]
  clear hb3 hb6
  go_wp2_with (refine wpList_load_blk 24 (.tmp 3) b3 (cs := [.bool i, .slice a es.length c, .bool f]) rfl rfl rfl B3.out.blk Tryd.underlying24 rfl HI.out ?_)
  refine (H1.out _ G.out).mono ?_; rintro e w1 ⟨rfl, hbb⟩
  replace B3 := Lib.hid (B3.out.up hbb)
  replace B6 := Lib.hid (B6.out.up hbb)
  replace G := Lib.hid (bt G.out hbb)
  clear hbb H1
  rcases R with _ | _
  · have B6L := Lib.hid B6.out.blk.lt
    obtain ⟨y0, y1, y2⟩ := cells3P B3.out.blk
    go_wp2_with fail
    refine (H2.out _).mono ?_; rintro e w2 ⟨rfl, rfl⟩
    go_wp2_with fail
    refine (H3.out _ G.out).mono ?_; rintro e w3 ⟨a3, c3, rfl, l3, m3, hA3, hb3'⟩
    replace B3 := Lib.hid (B3.out.up hb3')
    replace B6 := Lib.hid (B6.out.up hb3')
    have hsz3 : b6 < w1.heap.size := B6L.out
    replace G := Lib.hid (bt G.out hb3')
    go_wp2_with fail
    refine (H4.out _ G.out).mono ?_; rintro e w4 ⟨a4, c4, rfl, l4, m4, hA4, hb4'⟩
    have hsz4 := hb3'.size
    replace B3 := Lib.hid (B3.out.up hb4')
    replace B6 := Lib.hid (B6.out.up hb4')
    replace G := Lib.hid (bt G.out hb4')
    have P3 := Lib.hid (show AtP (fun g => g ≠ b6 ∧ g ≠ b3) w4 a3 (B8s k) from hA3.to (q := fun g => g ≠ b6 ∧ g ≠ b3) hb4'.size fun g hl hp => ⟨hb4'.block g hl, by have := Hb3.out; have := Hb6.out; exact ⟨by omega, by omega⟩⟩)
    have P4 := Lib.hid (show AtP (fun g => g ≠ b6 ∧ g ≠ b3) w4 a4 (B8s b) from hA4.to (q := fun g => g ≠ b6 ∧ g ≠ b3) (Nat.le_refl _) fun g hl hp => ⟨rfl, by have := Hb3.out; have := Hb6.out; exact ⟨by omega, by omega⟩⟩)
    have L3 := Lib.hid (And.intro l3 (And.intro m3 (And.intro l4 m4)))
    obtain ⟨vs, hvl, hvs, hrows⟩ := HE.out
    have HV := Lib.hid hvs
    have HVl := Lib.hid hvl
    have HR := Lib.hid hrows
    clear hA3 hA4 hb3' hb4' l3 m3 l4 m4 hvl hvs hrows y0 y1 y2
    have hxx : ∀ u ∈ [Value.slice a3 k.length c3, Value.slice a4 b.length c4], u.oneCell' = true := by
      intro u hu; simp only [List.mem_cons, List.not_mem_nil, or_false] at hu; rcases hu with rfl | rfl <;> rfl
    obtain ⟨z0, z1, z2⟩ := cells3P B3.out.blk
    have zf := B3.out.blk.frozen
    go_wp2_with (at_builtin; (refine wpList_full (.tmp 15) (.tmp 21) rfl rfl rfl (HV.out.mono (bt G.out (ba w4 (.cells #[.slice a3 k.length c3, .slice a4 b.length c4] 59)))) HVl.out rfl (at_new w4 [.slice a3 k.length c3, .slice a4 b.length c4] _) hxx (by have := Hes.out; omega) ?_; intro a2 c2 w5 hown5 hb5; have H9 := Lib.hid hown5; have Hb5 := Lib.hid (bt (ba w4 (.cells #[.slice a3 k.length c3, .slice a4 b.length c4] 59)) hb5); have q3 := B3.out.up Hb5.out; obtain ⟨z0, z1, z2⟩ := cells3P q3.blk; have zf := q3.blk.frozen; clear hown5 hb5))
    have hyl : ys.length = es.length + 1 := by rw [Hy.out]; show (es ++ [(k, b)]).length = _; rw [List.length_append]; rfl
    have hcap9 := own_slice H9.out
    have hlt3 : b3 < w4.heap.size := B3.out.blk.lt
    have hlt6 : b6 < w4.heap.size := B6.out.blk.lt
    have g3 := Lib.hid (show BlkT 24 (w5.setCell ⟨b3, 1, none⟩ (.slice a2 (es.length + 1) c2)) b3 [.bool i, .slice a2 ys.length c2, .bool f] by rw [hyl]; exact q3.set 1 _)
    have g6 := Lib.hid (show BlkT 24 (w5.setCell ⟨b3, 1, none⟩ (.slice a2 (es.length + 1) c2)) b6 zeroP from (B6.out.up Hb5.out).other (fun h => hne h.symm) _)
    have gG := Lib.hid (show Below w.heap.size w (w5.setCell ⟨b3, 1, none⟩ (.slice a2 (es.length + 1) c2)) from (bt G.out Hb5.out).setCell (by rw [Hb3.out]; exact Nat.le_refl _) _)
    have hsz9 : w5.heap.size ≤ (w5.setCell ⟨b3, 1, none⟩ (.slice a2 (es.length + 1) c2)).heap.size := by simp
    have hk9 : ∀ g, g ≠ b3 → (w5.setCell ⟨b3, 1, none⟩ (.slice a2 (es.length + 1) c2)).heap[g]? = w5.heap[g]? := fun g h => Below.heap_setCell _ _ _ _ h
    have gE := Lib.hid (show EntsP (fun g => g ≠ b6) (w5.setCell ⟨b3, 1, none⟩ (.slice a2 (es.length + 1) c2)) a2 ys by
      rw [Hy.out]
      refine EntsP.snoc HVl.out (fun t ht => ?_) ((own_atP H9.out).to hsz9 fun g hl hp => ⟨hk9 g (by rw [size_alloc] at hp; omega), by rw [size_alloc] at hp; omega⟩) ?_ ?_
      · obtain ⟨r1, r2⟩ := HR.out t ht
        have hz := Hb3.out
        have hz6 := Hb6.out
        exact ⟨(RowP.of (p := fun g => g ≠ b6) r1 (fun g hg => by omega)).to gG.out.size fun g hl hp => ⟨gG.out.block g hl, hp⟩, (RowP.of (p := fun g => g ≠ b6) r2 (fun g hg => by omega)).to gG.out.size fun g hl hp => ⟨gG.out.block g hl, hp⟩⟩
      · exact ⟨a3, c3, rfl, L3.out.1, L3.out.2.1, (P3.out.up Hb5.out).to hsz9 fun g hl hp => ⟨hk9 g hp.2, hp.1⟩⟩
      · exact ⟨a4, c4, rfl, L3.out.2.2.1, L3.out.2.2.2, (P4.out.up Hb5.out).to hsz9 fun g hl hp => ⟨hk9 g hp.2, hp.1⟩⟩)
    obtain ⟨_, _, he9, hc9, hm9⟩ := hcap9
    cases he9
    have Hc2 := Lib.hid (show ys.length ≤ c2 ∧ c2 ≤ maxLen by rw [hyl]; exact ⟨hc9, hm9⟩)
    replace B3 := g3
    replace B6 := g6
    replace G := gG
    have EP := gE
    clear g3 g6 gG gE z0 z1 z2 zf q3 hk9 hsz9 H9 Hb5 P3 P4 HV HVl HR hc9 hm9 hlt3 hlt6 hyl hxx L3 hsz3 hsz4 B6L
    generalize w5.setCell ⟨b3, 1, none⟩ (.slice a2 (es.length + 1) c2) = w9 at B3 B6 G EP ⊢
    obtain ⟨y0, y1, y2⟩ := cells3P B3.out.blk
    go_region_with
      ((go_at_call 26; (with_reducible refine Calls.mono (H5.out _ (bt G.out (bd _))) ?_); rintro e w6 ⟨ta, tc, rfl, htc, hta, hb6'⟩; have Htc := Lib.hid htc; clear htc; have q3 := B3.out.up (bt (bd _) hb6'); have q6 := B6.out.up (bt (bd _) hb6'); obtain ⟨k0, k1, k2⟩ := cells3P q3.blk; obtain ⟨j0, j1, j2⟩ := cells3P q6.blk; have kf := q6.blk.frozen))
    all_goals
      go_split_ands
      go_wp2_with fail
      have hbb := bt (bd _) hb6'
      have gG := Lib.hid (bt G.out hbb)
      have gE := Lib.hid (EP.out.up hbb)
      refine bodyPost_ret (results_blk_tmp rfl _ _ b6 (cs := [.bool i, .slice a2 ys.length c2, .bool f]) rfl _ rfl (rset3 q6).blk Tryd.underlying24 rfl HI.out) rfl ?_
      refine ⟨a2, c2, ta, tc, rfl, Hc2.out.1, Hc2.out.2, (EntsP.to (q := fun _ => True) gE.out (Nat.le_of_eq rset3_size.symm) fun g hl hp => ⟨rset3_heap hp, trivial⟩).ents, Htc.out, ?_, rset3_below gG.out (by have := Hb3.out; have := Hb6.out; omega)⟩
      exact hta.offP (B := b6) q6 (noIntP _ _ _ _ _) 
  · have hyy : ys = es := Hy.out
    have Hc2 := Lib.hid (show ys.length ≤ c ∧ c ≤ maxLen by rw [hyy]; exact Hc.out)
    have EP := Lib.hid (show EntsP (fun g => g ≠ b6) w1 a ys by rw [hyy]; exact EntsP.of (p := fun g => g ≠ b6) HE.out (fun g hg => by have := Hb3.out; have := Hb6.out; omega) |>.up G.out)
    replace B3 := Lib.hid (show BlkT 24 w1 b3 [.bool i, .slice a ys.length c, .bool f] by rw [hyy]; exact B3.out)
    clear hyy
    go_wp2_with fail
    obtain ⟨y0, y1, y2⟩ := cells3P B3.out.blk
    go_region_with
      ((go_at_call 26; (with_reducible refine Calls.mono (H5.out _ (bt G.out (bd _))) ?_); rintro e w6 ⟨ta, tc, rfl, htc, hta, hb6'⟩; have Htc := Lib.hid htc; clear htc; have q3 := B3.out.up (bt (bd _) hb6'); have q6 := B6.out.up (bt (bd _) hb6'); obtain ⟨k0, k1, k2⟩ := cells3P q3.blk; obtain ⟨j0, j1, j2⟩ := cells3P q6.blk; have kf := q6.blk.frozen))
    all_goals
      go_split_ands
      go_wp2_with fail
      have hbb := bt (bd _) hb6'
      have gG := Lib.hid (bt G.out hbb)
      have gE := Lib.hid (EP.out.up hbb)
      refine bodyPost_ret (results_blk_tmp rfl _ _ b6 (cs := [.bool i, .slice a ys.length c, .bool f]) rfl _ rfl (rset3 q6).blk Tryd.underlying24 rfl HI.out) rfl ?_
      refine ⟨a, c, ta, tc, rfl, Hc2.out.1, Hc2.out.2, (EntsP.to (q := fun _ => True) gE.out (Nat.le_of_eq rset3_size.symm) fun g hl hp => ⟨rset3_heap hp, trivial⟩).ents, Htc.out, ?_, rset3_below gG.out (by have := Hb3.out; have := Hb6.out; omega)⟩
      exact hta.offP (B := b6) q6 (noIntP _ _ _ _ _) 
end Go.Proofs.YthmcmkdncaccbaaDoor
