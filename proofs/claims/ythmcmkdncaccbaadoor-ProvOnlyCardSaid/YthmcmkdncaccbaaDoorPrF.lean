/- Providers: the document's Tag. -/
import Derived.Test.YthmcmkdncaccbaaDoorPrE
set_option linter.unusedSimpArgs false
set_option linter.unusedVariables false
namespace Go.Proofs.YthmcmkdncaccbaaDoor
open Go.RowKit

/-- rows of pairs put behind those of the call's own -/
theorem wpList_ownE {ops : Array Oper} {rest : List Oper} {o : Oper} {a : Act} {w : World} {Q : Exit → Act → World → Prop} (s x : Operand) (hgd : o.guard = Option.none)
    (ho : o.op = .call { callee := .builtin .append, args := #[s, x], argTypes := #[22, 22] }) {B n : Nat} {v : Value} {vs : List Value} (hs : a.eval s = v) (hB : OwnE B w v n vs) (hle : B ≤ w.heap.size)
    {sp : Option Addr} {m c : Nat} {news : List Value} (hx : a.eval x = .slice sp m c) (hS : At w sp news) (hl : news.length = m * 2) (h1 : ∀ u ∈ news, u.oneCell' = true) (h63 : n + m ≤ 100000) (k : Nat) (hk : n + m = k) (ws : List Value) (hws : vs ++ news = ws)
    (h : ∀ a' cap' w', OwnE B w' (.slice a' k cap') k ws → Below B w w' ∨ w.grownBy w' v.ownBlock → w.grownBy w' v.ownBlock → wpList Tryd.prog ops Q rest (a.put o.dst (.slice a' k cap')) w') : wpList Tryd.prog ops Q (o :: rest) a w := by
  subst hk hws
  exact wpList_app s x 22 hgd ho elemE hs hB hx hS hl h1 (by unfold maxLen; omega) (by omega) hle fun a' cap' w' hown hg => h a' cap' w' hown (.inr hg) hg
theorem ents_one {w : World} {vs : List Value} {es : List Ent} (hl : vs.length = es.length * 2) (h : ∀ i, i < es.length → RowIs w (vs.getD (i * 2) undef) (es.getD i ([], [])).1 ∧ RowIs w (vs.getD (i * 2 + 1) undef) (es.getD i ([], [])).2) : ∀ u ∈ vs, u.oneCell' = true := by
  intro u hu
  obtain ⟨j, hj, rfl⟩ := List.mem_iff_getElem.1 hu
  have hd : vs.getD j undef = vs[j] := by simp [List.getD, hj]
  obtain ⟨⟨p0, c0, e0, -⟩, ⟨p1, c1, e1, -⟩⟩ := h (j / 2) (by omega)
  rcases (show j = j / 2 * 2 ∨ j = j / 2 * 2 + 1 by omega) with h2 | h2
  · rw [← h2, hd] at e0; rw [e0]; rfl
  · rw [← h2, hd] at e1; rw [e1]; rfl
theorem ownE_zero (W : World) : OwnE W.heap.size (W.alloc (.cells #[] 59)) (.slice (some ⟨W.heap.size, 0, none⟩) 0 0) 0 [] :=
  ⟨rfl, .inr ⟨W.heap.size, 0, #[], rfl, Nat.le_refl _, by simp only [World.alloc, Array.getElem?_push, if_true], Nat.le_refl _, Nat.zero_le _, rfl, rfl⟩⟩

set_option maxRecDepth 100000 in
set_option maxHeartbeats 4000000 in
theorem refTag_any04 (i f : Bool) (a ka ba_ : Option Addr) (c kc bc : Nat) (es : List Ent) (k b : List UInt8) (w : World) (hes : es.length ≤ 1000) (hc : es.length ≤ c) (hcm : c ≤ maxLen) (hE : EntsAt w a es) (hk : k.length ≤ 100000) (hb : b.length ≤ 90000) (hka : BytesAt w ka k) (hba : BytesAt w ba_ b) (hkc : k.length ≤ kc ∧ kc ≤ maxLen) (hbc : b.length ≤ bc ∧ bc ≤ maxLen) :
    Calls Tryd.prog 12 #[.agg #[.bool i, .slice a es.length c, .bool f], .slice ka k.length kc, .slice ba_ b.length bc] w (TagP w i f (tagEs es k b) (rightT k b)) := by
  have HI := Lib.hid prov_size
  have H1 := Lib.hid (fun (W : World) (h : Below w.heap.size w W) => refHad_any i f a ka ba_ c kc bc es k b W (by omega) (hE.mono h) (hka.mono h) (hba.mono h))
  have K3 := Lib.hid hka
  have K4 := Lib.hid hba
  have L3 := Lib.hid (And.intro hkc hbc)
  have H5 := Lib.hid (fun (W : World) (h : Below w.heap.size w W) => refRight_any04 ka ba_ kc bc k b hk hb W (hka.mono h) (hba.mono h))
  have HE := Lib.hid hE
  have Hc := Lib.hid (And.intro hc hcm)
  have Hes := Lib.hid hes
  obtain ⟨ys, hys⟩ : ∃ ys, ys = tagEs es k b := ⟨_, rfl⟩
  have Hy := Lib.hid (show ys = bif hadF es k b then es else es ++ [(k, b)] from hys)
  rw [← hys]
  generalize rightT k b = T at H5 ⊢
  generalize hadF es k b = R at H1 Hy
  unfold TagOut at H5
  clear hys hc hcm hE hka hba hes hkc hbc hk hb
  go_enter Tryd.func12, Tryd.ntmps12
  go_upto_region 1 with (fail)
  generalize hW : World.alloc (World.alloc w _) _ = W
  have B3 := Lib.hid (show BlkT 24 W w.heap.size [.bool i, .slice a es.length c, .bool f] by rw [← hW]; exact (BlkT.new w [.bool i, .slice a es.length c, .bool f] _).up (ba _ _))
  have B6 := Lib.hid (show BlkT 24 W (w.heap.size + 1) zeroP by rw [← hW, ← size_alloc w (.cells #[.bool i, .slice a es.length c, .bool f] 24)]; exact BlkT.new _ zeroP _)
  have G := Lib.hid (show Below w.heap.size w W by rw [← hW]; exact bta (ba w _) _)
  clear hW
  obtain ⟨b3, hb3⟩ : ∃ b3, b3 = w.heap.size := ⟨_, rfl⟩
  have Hb3 := Lib.hid hb3
  have hne : b3 ≠ b3 + 1 := by omega
  rw [← hb3] at B3 B6
  simp only [← hb3]
  obtain ⟨b6, hb6⟩ : ∃ b6, b6 = b3 + 1 := ⟨_, rfl⟩
  have Hb6 := Lib.hid hb6
  rw [← hb6] at B6 hne
  simp only [← hb6]
  clear hb3 hb6
  go_wp2_with (refine wpList_load_blk 24 (.tmp 3) b3 (cs := [.bool i, .slice a es.length c, .bool f]) rfl rfl rfl B3.out.blk Tryd.underlying24 rfl HI.out ?_)
  refine (H1.out _ G.out).mono ?_; rintro e w1 ⟨rfl, hbb⟩
  replace B3 := Lib.hid (B3.out.up hbb)
  replace B6 := Lib.hid (B6.out.up hbb)
  replace G := Lib.hid (bt G.out hbb)
  clear hbb H1
  rcases R with _ | _
  · obtain ⟨y0, y1, y2⟩ := cells3P B3.out.blk
    have zf := B3.out.blk.frozen
    obtain ⟨vs, hvl, hvs, hrows⟩ := HE.out
    have HV := Lib.hid hvs
    have HVl := Lib.hid hvl
    have HR := Lib.hid hrows
    have H1c := Lib.hid (ents_one hvl hrows)
    clear hvl hvs hrows
    have hlt3 : b3 < w1.heap.size := B3.out.blk.lt
    have hlt6 : b6 < w1.heap.size := B6.out.blk.lt
    have hxx : ∀ u ∈ [Value.slice ka k.length kc, Value.slice ba_ b.length bc], u.oneCell' = true := by
      intro u hu; simp only [List.mem_cons, List.not_mem_nil, or_false] at hu; rcases hu with rfl | rfl <;> rfl
    have A1 := Lib.hid (show Below w1.heap.size w1 (w1.alloc (.cells #[] 59)) from ba w1 _)
    have C1 := Lib.hid (show (w1.alloc (.cells #[] 59)).cell? ⟨b3, 1, none⟩ = some (.slice a es.length c) from (A1.out.cell (p := ⟨b3, 1, none⟩) hlt3).trans y1)
    have hc1 := C1.out
    go_wp2_with (first
      | (at_builtin; (refine wpList_ownE (.tmp 15) (.tmp 17) rfl rfl rfl (ownE_zero w1) A1.out.size rfl (HV.out.mono (bt G.out A1.out)) HVl.out H1c.out (by have := Hes.out; omega) es.length (by omega) vs rfl ?_; intro a5 c5 w5 hown5 _ hg5; have O5 := Lib.hid hown5; have Hb5 := Lib.hid (below_own A1.out (ownE_zero w1) hg5 A1.out.size (Nat.le_refl _)); clear hown5 hg5))
      | (at_builtin; (refine wpList_ownE (.tmp 18) (.tmp 22) rfl rfl rfl (O5.out.alloc _) (by have := Hb5.out.size; simp; omega) rfl (at_new w5 [.slice ka k.length kc, .slice ba_ b.length bc] _) rfl hxx (by have := Hes.out; omega) (es.length + 1) rfl (vs ++ [.slice ka k.length kc, .slice ba_ b.length bc]) rfl ?_; intro a2 c2 w6 hown6 _ hg6; have O6 := Lib.hid hown6; have Hb6b := Lib.hid (below_own (bta Hb5.out _) (O5.out.alloc _) hg6 (by have := Hb5.out.size; simp; omega) (Nat.le_refl _)); have q3 := B3.out.up Hb6b.out; obtain ⟨z0, z1, z2⟩ := cells3P q3.blk; have zg := q3.blk.frozen; clear hown6 hg6)))
    have hyl : ys.length = es.length + 1 := by rw [Hy.out]; show (es ++ [(k, b)]).length = _; rw [List.length_append]; rfl
    have hcap9 := own_slice O6.out
    have g3 := Lib.hid (show BlkT 24 (w6.setCell ⟨b3, 1, none⟩ (.slice a2 (es.length + 1) c2)) b3 [.bool i, .slice a2 ys.length c2, .bool f] by rw [hyl]; exact q3.set 1 _)
    have g6 := Lib.hid (show BlkT 24 (w6.setCell ⟨b3, 1, none⟩ (.slice a2 (es.length + 1) c2)) b6 zeroP from (B6.out.up Hb6b.out).other (fun h => hne h.symm) _)
    have gG := Lib.hid (show Below w.heap.size w (w6.setCell ⟨b3, 1, none⟩ (.slice a2 (es.length + 1) c2)) from (bt G.out Hb6b.out).setCell (by rw [Hb3.out]; exact Nat.le_refl _) _)
    have hsz9 : w6.heap.size ≤ (w6.setCell ⟨b3, 1, none⟩ (.slice a2 (es.length + 1) c2)).heap.size := by simp
    have hk9 : ∀ g, g ≠ b3 → (w6.setCell ⟨b3, 1, none⟩ (.slice a2 (es.length + 1) c2)).heap[g]? = w6.heap[g]? := fun g h => Below.heap_setCell _ _ _ _ h
    have gE := Lib.hid (show EntsP (fun g => g ≠ b6) (w6.setCell ⟨b3, 1, none⟩ (.slice a2 (es.length + 1) c2)) a2 ys by
      rw [Hy.out]
      have hz := Hb3.out
      have hz6 := Hb6.out
      refine EntsP.snoc HVl.out (fun t ht => ?_) ((own_atP O6.out).to hsz9 fun g hl hp => ⟨hk9 g (by omega), by omega⟩) ?_ ?_
      · obtain ⟨r1, r2⟩ := HR.out t ht
        exact ⟨(RowP.of (p := fun g => g ≠ b6) r1 (fun g hg => by omega)).to gG.out.size fun g hl hp => ⟨gG.out.block g hl, hp⟩, (RowP.of (p := fun g => g ≠ b6) r2 (fun g hg => by omega)).to gG.out.size fun g hl hp => ⟨gG.out.block g hl, hp⟩⟩
      · exact (RowP.of (p := fun g => g ≠ b6) (show RowIs w _ k from ⟨ka, kc, rfl, L3.out.1.1, L3.out.1.2, K3.out⟩) (fun g hg => by omega)).to gG.out.size fun g hl hp => ⟨gG.out.block g hl, hp⟩
      · exact (RowP.of (p := fun g => g ≠ b6) (show RowIs w _ b from ⟨ba_, bc, rfl, L3.out.2.1, L3.out.2.2, K4.out⟩) (fun g hg => by omega)).to gG.out.size fun g hl hp => ⟨gG.out.block g hl, hp⟩)
    obtain ⟨_, _, he9, hc9, hm9⟩ := hcap9
    cases he9
    have Hc2 := Lib.hid (show ys.length ≤ c2 ∧ c2 ≤ maxLen by rw [hyl]; exact ⟨hc9, hm9⟩)
    replace B3 := g3
    replace B6 := g6
    replace G := gG
    have EP := gE
    clear g3 g6 gG gE z0 z1 z2 zf zg q3 hk9 hsz9 O6 O5 Hb5 Hb6b HV HVl HR H1c hc9 hm9 hlt3 hlt6 hyl hxx L3 y0 y1 y2 hc1 C1 A1
    generalize w6.setCell ⟨b3, 1, none⟩ (.slice a2 (es.length + 1) c2) = w9 at B3 B6 G EP ⊢
    obtain ⟨y0, y1, y2⟩ := cells3P B3.out.blk
    go_region_with
      ((go_at_call 27; (with_reducible refine Calls.mono (H5.out _ (bt G.out (bd _))) ?_); rintro e w6 ⟨ta, tc, rfl, htc, hta, hb6'⟩; have Htc := Lib.hid htc; clear htc; have q3 := B3.out.up (bt (bd _) hb6'); have q6 := B6.out.up (bt (bd _) hb6'); obtain ⟨k0, k1, k2⟩ := cells3P q3.blk; obtain ⟨j0, j1, j2⟩ := cells3P q6.blk; have kf := q6.blk.frozen))
    all_goals
      go_split_ands
      go_wp2_with fail
      have hbb := bt (bd _) hb6'
      have gG := Lib.hid (bt G.out hbb)
      have gE := Lib.hid (EP.out.up hbb)
      refine bodyPost_ret (results_blk_tmp rfl _ _ b6 (cs := [.bool i, .slice a2 ys.length c2, .bool f]) rfl _ rfl (rset3 q6).blk Tryd.underlying24 rfl HI.out) rfl ?_
      refine ⟨a2, c2, ta, tc, rfl, Hc2.out.1, Hc2.out.2, (EntsP.to (q := fun _ => True) gE.out (Nat.le_of_eq rset3_size.symm) fun g hl hp => ⟨rset3_heap hp, trivial⟩).ents, Htc.out, ?_, rset3_below gG.out (by have := Hb3.out; have := Hb6.out; omega)⟩
      exact hta.offP (B := b6) q6 (noIntP _ _ _ _ _) 
  · have hyy : ys = es := Hy.out
    have Hc2 := Lib.hid (show ys.length ≤ c ∧ c ≤ maxLen by rw [hyy]; exact Hc.out)
    have EP := Lib.hid (show EntsP (fun g => g ≠ b6) w1 a ys by rw [hyy]; exact EntsP.of (p := fun g => g ≠ b6) HE.out (fun g hg => by have := Hb3.out; have := Hb6.out; omega) |>.up G.out)
    replace B3 := Lib.hid (show BlkT 24 w1 b3 [.bool i, .slice a ys.length c, .bool f] by rw [hyy]; exact B3.out)
    clear hyy
    go_wp2_with fail
    obtain ⟨y0, y1, y2⟩ := cells3P B3.out.blk
    go_region_with
      ((go_at_call 27; (with_reducible refine Calls.mono (H5.out _ (bt G.out (bd _))) ?_); rintro e w6 ⟨ta, tc, rfl, htc, hta, hb6'⟩; have Htc := Lib.hid htc; clear htc; have q3 := B3.out.up (bt (bd _) hb6'); have q6 := B6.out.up (bt (bd _) hb6'); obtain ⟨k0, k1, k2⟩ := cells3P q3.blk; obtain ⟨j0, j1, j2⟩ := cells3P q6.blk; have kf := q6.blk.frozen))
    all_goals
      go_split_ands
      go_wp2_with fail
      have hbb := bt (bd _) hb6'
      have gG := Lib.hid (bt G.out hbb)
      have gE := Lib.hid (EP.out.up hbb)
      refine bodyPost_ret (results_blk_tmp rfl _ _ b6 (cs := [.bool i, .slice a ys.length c, .bool f]) rfl _ rfl (rset3 q6).blk Tryd.underlying24 rfl HI.out) rfl ?_
      refine ⟨a, c, ta, tc, rfl, Hc2.out.1, Hc2.out.2, (EntsP.to (q := fun _ => True) gE.out (Nat.le_of_eq rset3_size.symm) fun g hl hp => ⟨rset3_heap hp, trivial⟩).ents, Htc.out, ?_, rset3_below gG.out (by have := Hb3.out; have := Hb6.out; omega)⟩
      exact hta.offP (B := b6) q6 (noIntP _ _ _ _ _) 
end Go.Proofs.YthmcmkdncaccbaaDoor
