/- Records: the program's and the document's. -/
import Derived.Test.YtiaigekmkmampaaDoorSlA
import Derived.Deep.RegionHeld3
import Derived.ArgAppend
import Derived.Lib.SlBytesConst
set_option linter.unusedSimpArgs false
set_option linter.unusedVariables false
namespace Go.Proofs.YtiaigekmkmampaaDoor
open Go.RowKit

theorem OwnR.later {w0 w w' : World} {v : Value} {l : List UInt8} (h : OwnR w0 w v l) (hb : Below w.heap.size w w') : OwnR w0 w' v l := OwnR.of rfl (h.buf.later hb)
theorem own_blk {w0 w : World} {b n : Nat} {l : List UInt8} (hn : l.length = n) (h : BlkT 5 w b (B8s l)) (hb : w0.heap.size ≤ b) (hbel : Below w0.heap.size w0 w) (hl : n ≤ maxLen) : OwnR w0 w (.slice (some ⟨b, 0, none⟩) n n) l := by
  subst hn
  exact ⟨⟨by simp, .inr ⟨b, l.length, (B8s l).toArray, rfl, hb, h, Nat.le_refl _, hl, by simp, by rw [Nat.mul_one]; exact List.take_of_length_le (by simp)⟩⟩, hbel⟩
set_option maxRecDepth 100000 in
set_option maxHeartbeats 1000000 in
theorem of_own (b : Option Addr) (cb : Nat) (m : List UInt8) (hsz : m.length ≤ 2147483647) (w : World) (hm : BytesAt w b m) (hk : KeysAt w) :
    Calls Tryd.prog 25 #[.slice b m.length cb] w (OwnOut w (ofF m)) := by
  have Hm := Lib.hid hm
  have Hk := Lib.hid hk
  clear hm hk
  go_enter Tryd.func25, Tryd.ntmps25
  go_wp2_with fail
  refine (new_any _).mono ?_; rintro e w1 ⟨rfl, hb1⟩
  go_wp2_with fail
  refine (put_new b m.length cb m rfl hsz _ (At.mono Hm.out hb1) (KeysAt.mono Hk.out hb1)).mono ?_; rintro e w2 ⟨a2, c2, rfl, hat2, hb2⟩
  have hb12 := bt hb1 hb2
  have hS := sum_own (putS iv m) m.length a2 c2 (putR m) (by omega) (putR_length m) w2 hat2 (KeysAt.mono Hk.out hb12)
  go_wp2_with fail
  refine hS.mono ?_; rintro e w3 ⟨a3, c3, rfl, hown3, hb3⟩
  go_wp2_with fail
  go_ret
  exact ⟨a3, c3, rfl, own_base hown3 hb12.size, bt hb12 hb3⟩
/-- the digest of twelve bytes, as a result -/
theorem of_ok (T D : List UInt8) (hT : T.length = 12) (hD : D = ofF T) (b : Option Addr) (c : Nat) (w : World) (h : BytesAt w b T) (hk : KeysAt w) :
    Calls Tryd.prog 25 #[.slice b T.length c] w (Out32 w D) := by
  subst hD; exact (of_own b c T (by rw [hT]; decide) w h hk).mono fun _ _ h => out32 rfl (ofF_length T) h
theorem refOf_ok (T D : List UInt8) (hT : T.length = 12) (hD : D = ofF T) (b : Option Addr) (c : Nat) (w : World) (h : BytesAt w b T) :
    Calls Tryd.prog 23 #[.slice b T.length c] w (Out32 w D) := by
  subst hD; exact (refOf_own b c T (by rw [hT]; decide) w h).mono fun _ _ h => out32 rfl (ofF_length T) h
theorem at_cells {w : World} {b : Addr} {cs : List Value} (h : At w (some b) cs) (h0 : cs ≠ []) : ∀ j u, cs[j]? = some u → w.cell? (b.add j) = some u := by
  rcases h with h | ⟨b', off, he, hlt, hc⟩
  · exact absurd h h0
  · cases he
    intro j u hj
    have hjl : j < cs.length := by
      rcases Nat.lt_or_ge j cs.length with h | h
      · exact h
      · rw [List.getElem?_eq_none h] at hj; cases hj
    rw [WideShapes.add_plain, hc j hjl]; simp [List.getD, hj]
theorem b8_ne {l : List UInt8} (h : 0 < l.length) : B8s l ≠ [] := fun e => by
  have h2 : l = [] := by simpa using e
  rw [h2] at h; simp at h
/-- an append onto bytes that have no room -/
theorem wpList_grown {ops : Array Oper} {rest : List Oper} {o : Oper} {a : Act} {w : World} {Q : Exit → Act → World → Prop} (s x : Operand) (hgd : o.guard = Option.none)
    (ho : o.op = .call { callee := .builtin .append, args := #[s, x], argTypes := #[22, 22] }) {b sp : Option Addr} {n cap : Nat} (l : List UInt8) (hs : a.eval s = .slice b n cap) (hn : l.length = n) (hS0 : BytesAt w b l) (hl0 : 0 < n)
    {m c : Nat} (news : List UInt8) (hx : a.eval x = .slice sp m c) (hS : BytesAt w sp news) (hl : m = news.length) (hm0 : 0 < m) (hg : cap < n + m) (h63 : n + m ≤ 100000) (l2 : List UInt8) (hl2 : l2 = l ++ news)
    (h : ∀ a' cap' w', OwnR w w' (.slice a' l2.length cap') l2 → wpList Tryd.prog ops Q rest (a.put o.dst (.slice a' l2.length cap')) w') : wpList Tryd.prog ops Q (o :: rest) a w := by
  subst hl2; subst hl; subst hn
  refine wpList_plain hgd fun K hK => ?_
  obtain ⟨i, hi, hz, hsz, hby⟩ := elemB.info
  have n0 := b8_ne hl0
  have n1 := b8_ne hm0
  have hb : ∃ b', b = some b' := by
    rcases hS0 with h | ⟨b', off, he, -⟩
    · exact absurd h n0
    · exact ⟨_, he⟩
  have hp : ∃ b', sp = some b' := by
    rcases hS with h | ⟨b', off, he, -⟩
    · exact absurd h n1
    · exact ⟨_, he⟩
  obtain ⟨b, rfl⟩ := hb
  obtain ⟨sp, rfl⟩ := hp
  obtain ⟨v', w', hr, hown, hgr⟩ := run_append_arg_grows (P := Tryd.prog) w 22 o.type 5 i (.int .u8 0) 1 1 Tryd.underlying22 hi hz hsz hby rfl (by decide) b l.length cap (B8s l) (by simp) (at_cells hS0 n0) sp news.length c (B8s news) (by simp) (at_cells hS n1) hg (by unfold maxLen; omega) (by omega)
  obtain ⟨a', cap', rfl, -, -⟩ := own_slice hown
  unfold Oper.wp execOp
  simp only [ho, resolve, List.map_toArray, List.map_cons, List.map_nil, hs, hx, invoke, builtin, Sem.run_bind, Sem.run_pure, Result.andThen_ok, hr]
  have hlen : (l ++ news).length = l.length + news.length := List.length_append
  have hO : OwnR w w' (.slice a' (l ++ news).length cap') (l ++ news) := ⟨by rw [hlen, B8s_app]; exact hown, ⟨hgr.os, hgr.tape, hgr.output, hgr.size, fun k hk => hgr.block k hk (by simp)⟩⟩
  rw [← hlen]
  exact hK _ _ (h a' cap' w' hO)
abbrev yettV : Array Value := #[.int .u8 121, .int .u8 101, .int .u8 116, .int .u8 116]
theorem run_yett (W : World) : (convert 22 22 (.slice (some ⟨W.heap.size, 0, none⟩) 4 4)).run Tryd.prog (W.alloc (.cells yettV 5)) = .ok (.slice (some ⟨W.heap.size, 0, none⟩) 4 4) (W.alloc (.cells yettV 5 (4, 5))) :=
  Lib.run_convert_bytes_const W 22 5 yettV 4 4 Tryd.underlying22 Tryd.underlying5
theorem at_yett (W : World) : BytesAt (W.alloc (.cells yettV 5 (4, 5))) (some ⟨W.heap.size, 0, none⟩) yettB := by
  refine .inr ⟨W.heap.size, 0, rfl, by simp, fun i hi => ?_⟩
  have hi4 : i < 4 := hi
  rw [World.cell?_alloc_mark]
  rcases (show i = 0 ∨ i = 1 ∨ i = 2 ∨ i = 3 by omega) with rfl | rfl | rfl | rfl <;> rfl
theorem own_none (W : World) : OwnR W (W.alloc (.cells #[] 5)) (.slice (some ⟨W.heap.size, 0, none⟩) 0 0) [] := OwnR.of rfl (Buf.made W 5 [] 0 0 (Nat.le_refl _) rfl (by decide))

/-- a record as a result -/
def RecOut (w : World) (n : Nat) (e : Ending) (w' : World) : Prop := ∃ a c, e = .returned (.tuple #[.slice a 16 c, .int .i64 0]) ∧ OwnR w w' (.slice a 16 c) (recF n)

set_option maxRecDepth 100000 in
set_option maxHeartbeats 1000000 in
theorem rec_ok (n : Nat) (h1 : 1 ≤ n) (h2 : n ≤ lastN) (w : World) (hk : KeysAt w) :
    Calls Tryd.prog 9 #[.int .i64 n] w (RecOut w n) := by
  have HB := Lib.hid (fun W => (show Calls Tryd.prog 24 #[.int .i64 n, .int .i64 8] W (BigOut W n 8) from big_any n 8 (by omega) (by omega) (Nat.lt_of_le_of_lt h2 last_lt) (by unfold lastN at h2; omega) W))
  have Hk := Lib.hid hk
  unfold lastN at h2
  have d1 : ¬ (n : Int) < 1 := by omega
  have d2 : ¬ (4611686018427387904 : Int) < (n : Int) := by omega
  obtain ⟨R, hR⟩ : ∃ R, R = recF n := ⟨_, rfl⟩
  have hRl : R.length = 16 := by rw [hR, recF_len]
  obtain ⟨T, hT⟩ : ∃ T, T = yettB ++ bigF n 8 := ⟨_, rfl⟩
  have hTl : T.length = 12 := by rw [hT, List.length_append, bigF_len]; rfl
  obtain ⟨D, hD⟩ : ∃ D, D = ofF T := ⟨_, rfl⟩
  have HRe := Lib.hid (show R = bigF n 8 ++ D.take 8 by rw [hR, hD, hT]; rfl)
  have HO := Lib.hid (of_ok T D hTl hD)
  have HDl := Lib.hid (show D.length = 32 by rw [hD, ofF_length])
  have HBl := Lib.hid (bigF_len n 8)
  unfold BigOut at HB
  unfold RecOut
  rw [← hR]
  generalize bigF n 8 = B at HB hT HRe HBl
  have HT := Lib.hid hT
  have HRl := Lib.hid hRl
  clear hk hT hD hR hRl hTl h1 h2
  go_enter Tryd.func9, Tryd.ntmps9
  go_wp2_with fail
  refine (HB.out _).mono ?_; rintro e w1 ⟨rfl, hB1, hb1⟩
  have H1 := Lib.hid (own_blk HBl.out hB1 (Nat.le_refl _) hb1 (by decide))
  clear hB1 HB
  have Hb1 := Lib.hid hb1
  clear hb1
  have hcv := run_yett w1
  go_wp2_with (at_builtin; (refine wpList_grown (.tmp 19) (.tmp 20) rfl rfl yettB rfl rfl (at_yett w1) (by decide) B rfl (H1.out.at.mono (ba w1 _)) HBl.out.symm (by decide) (by decide) (by decide) T HT.out ?_; intro a2 c2 w2 h2; have H2 := Lib.hid h2; clear h2))
  have H1' := Lib.hid (H1.out.later ((ba w1 _).trans (H2.out.bel.mono (ba w1 _).size)))
  have Hb2 := Lib.hid (bt (bt Hb1.out (ba w1 _)) H2.out.bel)
  refine (HO.out a2 c2 w2 H2.out.at (Hk.out.mono Hb2.out)).mono ?_; rintro e w3 ⟨a3, c3, rfl, ⟨hc3, hm3⟩, hat3, hb3⟩
  have H3 := Lib.hid (H1'.out.later hb3)
  have hs : ∀ W, (Instr.sliceAt 22 (.slice a3 32 c3) none (some (.int .i64 8)) none).run Tryd.prog W = .ok (.slice a3 8 c3) W := fun W => run_head Tryd.underlying22 size_u8 W a3 32 c3 8 (by omega)
  have Hat := Lib.hid (BytesAt.take hat3 8)
  clear hat3 hb3 hc3 hm3 H1 H1' H2
  go_wp2_with (at_builtin; (refine wpList_ownR (.tmp 17) (.tmp 23) rfl rfl rfl H3.out (D.take 8) rfl Hat.out (by rw [List.length_take, HDl.out]; rfl) (by rw [HBl.out]; decide) R HRe.out ?_; intro a4 c4 w4 h4; have H4 := Lib.hid h4; clear h4))
  go_ret2
  exact ⟨a4, c4, by rw [HRl.out]; rfl, by rw [← HRl.out]; exact H4.out⟩
theorem rec_bad (n : Int) (h : n < 1 ∨ 4611686018427387904 < n) (w : World) :
    Calls Tryd.prog 9 #[.int .i64 n] w fun e w' => e = .returned (.tuple #[.slice none 0 0, .int .i64 1]) ∧ w = w' := by
  by_cases h1 : n < 1
  · go_enter Tryd.func9, Tryd.ntmps9
    go_wp2_with fail
    go_ret2
    exact ⟨rfl, rfl⟩
  · have h2 : 4611686018427387904 < n := by omega
    go_enter Tryd.func9, Tryd.ntmps9
    go_wp2_with fail
    go_ret2
    exact ⟨rfl, rfl⟩
theorem refRec_bad (n : Int) (h : n < 1 ∨ 4611686018427387904 < n) (w : World) :
    Calls Tryd.prog 10 #[.int .i64 n] w fun e w' => e = .returned (.tuple #[.slice none 0 0, .int .i64 1]) ∧ w = w' := by
  by_cases h1 : n < 1
  · go_enter Tryd.func10, Tryd.ntmps10
    go_wp2_with fail
    go_ret2
    exact ⟨rfl, rfl⟩
  · have h2 : 4611686018427387904 < n := by omega
    go_enter Tryd.func10, Tryd.ntmps10
    go_wp2_with fail
    go_ret2
    exact ⟨rfl, rfl⟩

set_option maxRecDepth 100000 in
set_option maxHeartbeats 1000000 in
theorem refRec_ok (n : Nat) (h1 : 1 ≤ n) (h2 : n ≤ lastN) (w : World) :
    Calls Tryd.prog 10 #[.int .i64 n] w (RecOut w n) := by
  have HB := Lib.hid (fun W => (show Calls Tryd.prog 26 #[.int .i64 n, .int .i64 8] W (BigOut W n 8) from refBig_any n 8 (by omega) (by omega) (Nat.lt_of_le_of_lt h2 last_lt) (by unfold lastN at h2; omega) W))
  unfold lastN at h2
  have d1 : ¬ (n : Int) < 1 := by omega
  have d2 : ¬ (4611686018427387904 : Int) < (n : Int) := by omega
  obtain ⟨R, hR⟩ : ∃ R, R = recF n := ⟨_, rfl⟩
  have hRl : R.length = 16 := by rw [hR, recF_len]
  obtain ⟨T, hT⟩ : ∃ T, T = yettB ++ bigF n 8 := ⟨_, rfl⟩
  have hTl : T.length = 12 := by rw [hT, List.length_append, bigF_len]; rfl
  obtain ⟨D, hD⟩ : ∃ D, D = ofF T := ⟨_, rfl⟩
  have HRe := Lib.hid (show R = bigF n 8 ++ D.take 8 by rw [hR, hD, hT]; rfl)
  have HO := Lib.hid (refOf_ok T D hTl hD)
  have HDl := Lib.hid (show D.length = 32 by rw [hD, ofF_length])
  have HBl := Lib.hid (bigF_len n 8)
  unfold BigOut at HB
  unfold RecOut
  rw [← hR]
  generalize bigF n 8 = B at HB hT HRe HBl
  have HT := Lib.hid hT
  have HRl := Lib.hid hRl
  clear hT hD hR hRl hTl h1 h2
  go_enter Tryd.func10, Tryd.ntmps10
  go_wp2_with fail
  refine (HB.out _).mono ?_; rintro e w1 ⟨rfl, hB1, hb1⟩
  have H1 := Lib.hid (own_blk HBl.out hB1 (Nat.le_refl _) hb1 (by decide)).at
  clear hB1 HB
  have Hb1 := Lib.hid hb1
  clear hb1
  have hcv := run_yett w1
  go_wp2_with (at_builtin; (refine wpList_grown (.tmp 19) (.tmp 20) rfl rfl yettB rfl rfl (at_yett w1) (by decide) B rfl (H1.out.mono (ba w1 _)) HBl.out.symm (by decide) (by decide) (by decide) T HT.out ?_; intro a2 c2 w2 h2; have H2 := Lib.hid h2; clear h2))
  have H1' := Lib.hid (H1.out.mono ((ba w1 _).trans (H2.out.bel.mono (ba w1 _).size)))
  have Hb2 := Lib.hid (bt (bt Hb1.out (ba w1 _)) H2.out.bel)
  refine (HO.out a2 c2 w2 H2.out.at).mono ?_; rintro e w3 ⟨a3, c3, rfl, ⟨hc3, hm3⟩, hat3, hb3⟩
  have H3 := Lib.hid (H1'.out.mono hb3)
  have Hb3 := Lib.hid (bt Hb2.out hb3)
  have hs : ∀ W, (Instr.sliceAt 22 (.slice a3 32 c3) none (some (.int .i64 8)) none).run Tryd.prog W = .ok (.slice a3 8 c3) W := fun W => run_head Tryd.underlying22 size_u8 W a3 32 c3 8 (by omega)
  have Hat := Lib.hid (BytesAt.take hat3 8)
  clear hat3 hb3 hc3 hm3 H1 H1' H2
  go_wp2_with fail
  have HRB := Lib.hid (show B8s B ++ B8s (D.take 8) = B8s R by rw [HRe.out, B8s_app])
  go_region_held3 (fun w' => True) (trivial) (first
    | (refine step_buf (.tmp 23) (.tmp 24) 22 rfl rfl elemB rfl (Buf.made' w3 _ (bd w3) 5 [] 0 0 (Nat.le_refl _) rfl (by decide)) (news := B8s B) (m := 8) rfl (H3.out.mono (bta (bd w3) _)) (by rw [List.length_map, HBl.out]) (bytes_one _) (by decide) (by decide) 8 rfl (B8s B) rfl ?_; intro a5 c5 w5 h5)
    | (refine step_buf (.tmp 25) (.tmp 27) 22 rfl rfl elemB rfl h5 (news := B8s (D.take 8)) (m := 8) rfl (Hat.out.mono h5.bel) (by rw [List.length_map, List.length_take, HDl.out]; rfl) (bytes_one _) (by decide) (by decide) 16 rfl (B8s R) HRB.out ?_; intro a6 c6 w6 h6))
  all_goals
    go_split_ands
    go_wp2_with fail
    go_ret2
    exact ⟨a6, c6, rfl, OwnR.of HRl.out.symm ⟨own_base h6.own Hb3.out.size, bt Hb3.out h6.bel⟩⟩
end Go.Proofs.YtiaigekmkmampaaDoor
