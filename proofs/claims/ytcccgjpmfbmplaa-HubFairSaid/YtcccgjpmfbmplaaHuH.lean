/- Hubs: the document's example. -/
import Derived.Test.YtcccgjpmfbmplaaHuG
import Derived.Test.YtcccgjpmfbmplaaFrL
set_option linter.unusedSimpArgs false
set_option linter.unusedVariables false
namespace Go.Proofs.Ytcccgjpmfbmplaa
open Go.RowKit

abbrev zeroL : List Value := [.bool false, .bool false, .bool false, .bool false, .slice none 0 0, .int .i64 0, .int .i64 0, .slice none 0 0, .int .i64 0, .int .i64 0, .slice none 0 0, .int .i64 0, .int .i64 0, .slice none 0 0, .int .i64 0, .int .i64 0, .int .i64 0, .int .i64 0, .int .i64 0, .int .i64 0, .int .i64 0]
theorem wpList_load_blkG {P : Program} {ops : Array Oper} {rest : List Oper} {o : Oper} {a : Act} {w : World} {Q : Exit → Act → World → Prop} (ty : TypeId) (x : Operand) (g : Nat) {cs : List Value} (hw : Region.wanted o (yielded ops a.tmps) = true) (ho : o.op = .load ty x)
    (hx : a.eval x = .pointer (some ⟨g, 0, none⟩)) (hb : Blk w g cs) {d : TypeDesc} (hu : P.underlying ty = some d) (hd : (match d with | .struct _ | .array _ _ => true | _ => false) = true) (hi : (P.info? ty).map (·.size) = some cs.length)
    (h : wpList P ops Q rest (a.put o.dst (.agg cs.toArray)) w) : wpList P ops Q (o :: rest) a w := by
  obtain ⟨T, hg⟩ := hb
  exact BigFrame.wpList_want hw fun _ hK => wp_load_row ty x ho g hx T cs.toArray _ d hg hu hd (by simpa using hi) (hK _ _ h)
theorem lay_below (w : World) (Z L : List Value) (T : TypeId) : Below w.heap.size w ((w.alloc (.cells Z.toArray T)).setRow w.heap.size L.toArray) := below_setRow (ba w _) (Nat.le_refl _) _
theorem lay_blk (w : World) (Z L : List Value) (T : TypeId) : BlkT T ((w.alloc (.cells Z.toArray T)).setRow w.heap.size L.toArray) w.heap.size L := (BlkT.new w Z T).row L
def ex1 : Hv := (zeroH.turn 0 true).live 0
def ex2 : Hv := (ex1.turn 2 true).live 2
def ex3 : Hv := ex2.next 0
def ex4 : Hv := ex3.next 2
def ex5 : Hv := ex4.next 0
def ex6 : Hv := ex5.turn 0 false
def ex7 : Hv := ⟨fun _ => false, fun _ => zeroF, fun _ => 0, 4⟩
theorem ex_1 : raiseF zeroH 0 = (ex1, 0) := rfl
theorem ex_2 : raiseF ex1 2 = (ex2, 0) := rfl
theorem ex_3 : pickF ex2 = (ex3, 0, 0) := rfl
theorem ex_4 : pickF ex3 = (ex4, 2, 0) := rfl
theorem ex_5 : pickF ex4 = (ex5, 0, 0) := rfl
theorem ex_6 : cutF ex5 0 = (ex6, 0) := rfl
theorem ex_7 : pickF zeroH = (zeroH, 0, 11) := rfl
theorem ex_run : runF zeroD [0, 1, 7] = (zeroD, [[7]]) := by kernel_rfl
def noFd : Nat → Fd := fun _ => zeroD
theorem ex_at (h : Hv) (w : World) (hf : ∀ i, i < 4 → h.f i = zeroF) : HbAt w h noFd := fun i hi => by rw [hf i hi]; exact zeroF_at w
theorem ex_f {h : Hv} (h0 : h.f 0 = zeroF) (h1 : h.f 1 = zeroF) (h2 : h.f 2 = zeroF) (h3 : h.f 3 = zeroF) : ∀ i, i < 4 → h.f i = zeroF := fun i hi => by
  rcases (show i = 0 ∨ i = 1 ∨ i = 2 ∨ i = 3 by omega) with rfl | rfl | rfl | rfl <;> assumption
theorem ex_f1 : ∀ i, i < 4 → ex1.f i = zeroF := ex_f rfl rfl rfl rfl
theorem ex_f5 : ∀ i, i < 4 → ex5.f i = zeroF := ex_f rfl rfl rfl rfl
theorem ex_f7 : ∀ i, i < 4 → ex7.f i = zeroF := ex_f rfl rfl rfl rfl
theorem ex_n6 : anyH ex6 = true := by kernel_rfl
theorem ex_n0 : anyH zeroH = false := by kernel_rfl
theorem ex_t5 : rightH ex5 noFd = true := by kernel_rfl
theorem ex_t7 : rightH ex7 noFd = false := by kernel_rfl
theorem ex_s1 : sameH ex1 noFd ex1 noFd = true := by kernel_rfl
theorem ex_s2 : sameH ex1 noFd ex5 noFd = false := by kernel_rfl
theorem ex_p5 : pushE ex5 2 = 0 := by kernel_rfl
theorem ex_r0 : ∀ i, i < 4 → rightF (noFd i) = true := fun _ _ => (by kernel_rfl : rightF zeroD = true)
theorem ex_v0 : zeroH.v = (.agg #[.bool false, .bool false, .bool false, .bool false, .slice none 0 0, .int .i64 0, .int .i64 0, .slice none 0 0, .int .i64 0, .int .i64 0, .slice none 0 0, .int .i64 0, .int .i64 0, .slice none 0 0, .int .i64 0, .int .i64 0, .int .i64 0, .int .i64 0, .int .i64 0, .int .i64 0, .int .i64 0] : Value) := rfl
theorem ex_v7 : ex7.v = (.agg #[.bool false, .bool false, .bool false, .bool false, .slice none 0 0, .int .i64 0, .int .i64 0, .slice none 0 0, .int .i64 0, .int .i64 0, .slice none 0 0, .int .i64 0, .int .i64 0, .slice none 0 0, .int .i64 0, .int .i64 0, .int .i64 0, .int .i64 0, .int .i64 0, .int .i64 0, .int .i64 4] : Value) := rfl
theorem xR1 (W : World) : Calls Try.prog 18 #[(.agg #[.bool false, .bool false, .bool false, .bool false, .slice none 0 0, .int .i64 0, .int .i64 0, .slice none 0 0, .int .i64 0, .int .i64 0, .slice none 0 0, .int .i64 0, .int .i64 0, .slice none 0 0, .int .i64 0, .int .i64 0, .int .i64 0, .int .i64 0, .int .i64 0, .int .i64 0, .int .i64 0] : Value), .int .i64 0] W (HubOut W (ex1, 0)) := by have h := raise_any zeroH 0 W; rw [ex_1, ex_v0] at h; exact h
theorem xR2 (W : World) : Calls Try.prog 18 #[ex1.v, .int .i64 2] W (HubOut W (ex2, 0)) := by have h := raise_any ex1 2 W; rw [ex_2] at h; exact h
theorem xP1 (W : World) : Calls Try.prog 14 #[ex2.v] W (Hub3 W (ex3, 0, 0)) := by have h := pick_any ex2 (by kernel_rfl) W; rw [ex_3] at h; exact h
theorem xP2 (W : World) : Calls Try.prog 14 #[ex3.v] W (Hub3 W (ex4, 2, 0)) := by have h := pick_any ex3 (by kernel_rfl) W; rw [ex_4] at h; exact h
theorem xP3 (W : World) : Calls Try.prog 14 #[ex4.v] W (Hub3 W (ex5, 0, 0)) := by have h := pick_any ex4 (by kernel_rfl) W; rw [ex_5] at h; exact h
theorem xP0 (W : World) : Calls Try.prog 14 #[(.agg #[.bool false, .bool false, .bool false, .bool false, .slice none 0 0, .int .i64 0, .int .i64 0, .slice none 0 0, .int .i64 0, .int .i64 0, .slice none 0 0, .int .i64 0, .int .i64 0, .slice none 0 0, .int .i64 0, .int .i64 0, .int .i64 0, .int .i64 0, .int .i64 0, .int .i64 0, .int .i64 0] : Value)] W (Hub3 W (zeroH, 0, 11)) := by have h := pick_any zeroH (by kernel_rfl) W; rw [ex_7, ex_v0] at h; exact h
theorem xC1 (W : World) : Calls Try.prog 20 #[ex5.v, .int .i64 0] W (HubOut W (ex6, 0)) := by have h := cut_any ex5 0 W; rw [ex_6] at h; exact h
theorem xU1 (W : World) (b : Option Addr) (hb : BytesAt W b [0, 1, 7]) : Calls Try.prog 22 #[ex5.v, .int .i64 2, .slice b 3 3] W (HubYes W ex5 2 (zeroD, [[7]])) := by
  have h := hubPush_yes ex5 noFd 2 b 3 [0, 1, 7] W (ex_at ex5 W ex_f5) ex_r0 ex_p5 hb (by decide)
  have e : runF (noFd (Int.toNat 2)) [0, 1, 7] = (zeroD, [[7]]) := ex_run
  rw [e] at h; exact h
theorem xN6 (W : World) : Calls Try.prog 16 #[ex6.v] W (BoolOut W true) := by have h := hubAny_any ex6 W; rw [ex_n6] at h; exact h
theorem xN0 (W : World) : Calls Try.prog 16 #[(.agg #[.bool false, .bool false, .bool false, .bool false, .slice none 0 0, .int .i64 0, .int .i64 0, .slice none 0 0, .int .i64 0, .int .i64 0, .slice none 0 0, .int .i64 0, .int .i64 0, .slice none 0 0, .int .i64 0, .int .i64 0, .int .i64 0, .int .i64 0, .int .i64 0, .int .i64 0, .int .i64 0] : Value)] W (BoolOut W false) := by have h := hubAny_any zeroH W; rw [ex_n0, ex_v0] at h; exact h
theorem xT5 (W : World) : Calls Try.prog 11 #[ex5.v] W (BoolOut W true) := by have h := hubRight_any ex5 noFd W (ex_at ex5 W ex_f5); rw [ex_t5] at h; exact h
theorem xT7 (W : World) : Calls Try.prog 11 #[(.agg #[.bool false, .bool false, .bool false, .bool false, .slice none 0 0, .int .i64 0, .int .i64 0, .slice none 0 0, .int .i64 0, .int .i64 0, .slice none 0 0, .int .i64 0, .int .i64 0, .slice none 0 0, .int .i64 0, .int .i64 0, .int .i64 0, .int .i64 0, .int .i64 0, .int .i64 0, .int .i64 4] : Value)] W (BoolOut W false) := by have h := hubRight_any ex7 noFd W (ex_at ex7 W ex_f7); rw [ex_t7, ex_v7] at h; exact h
theorem xS1 (W : World) : Calls Try.prog 12 #[ex1.v, ex1.v] W (BoolOut W true) := by have h := hubSame_any ex1 ex1 noFd noFd W (ex_at ex1 W ex_f1) (ex_at ex1 W ex_f1); rw [ex_s1] at h; exact h
theorem xS2 (W : World) : Calls Try.prog 12 #[ex1.v, ex5.v] W (BoolOut W false) := by have h := hubSame_any ex1 ex5 noFd noFd W (ex_at ex1 W ex_f1) (ex_at ex5 W ex_f5); rw [ex_s2] at h; exact h
def Shown09OK : Prop := ∀ w, Calls Try.prog 8 #[] w (BoolOut w true)
set_option maxRecDepth 100000 in
set_option maxHeartbeats 4000000 in
theorem shown09 : Shown09OK := by
  intro w
  have HI := Lib.hid hub_size
  have R1 := Lib.hid xR1
  have R2 := Lib.hid xR2
  have P1 := Lib.hid xP1
  have P2 := Lib.hid xP2
  have P3 := Lib.hid xP3
  have P0 := Lib.hid xP0
  have C1 := Lib.hid xC1
  have U1 := Lib.hid xU1
  have N6 := Lib.hid xN6
  have N0 := Lib.hid xN0
  have T5 := Lib.hid xT5
  have T7 := Lib.hid xT7
  have S1 := Lib.hid xS1
  have S2 := Lib.hid xS2
  generalize ex1 = h1 at *
  generalize ex2 = h2 at *
  generalize ex3 = h3 at *
  generalize ex4 = h4 at *
  generalize ex5 = h5 at *
  generalize ex6 = h6 at *
  generalize zeroH = h0 at *
  go_enter Try.func8, Try.ntmps8
  have G := Lib.hid (Below.refl w.heap.size w)
  go_upto_region 1 with (fail)
  go_cut [2, 1] (fun v2 v1 wx => ∃ b1 : Nat, v2 = .int .i64 0 ∧ v1 = .pointer (some ⟨b1, 0, none⟩) ∧ BlkT 29 wx b1 h1.L ∧ Below w.heap.size w wx)
  case first =>
    go_wp2_with fail
    refine (R1.out _).mono ?_; rintro e wn ⟨rfl, hb⟩
    go_wp2_with (refine wpList_store_blk 29 (.tmp 1) (.tmp 22) _ (old := zeroL) (cs := h1.L) rfl rfl rfl rfl (Blk.new _ _ _) HI.out rfl rfl ?_)
    go_meet
    exact ⟨_, rfl, rfl, lay_blk _ _ _ _, (bt G.out (bt hb (lay_below _ _ _ _)))⟩
  case rest =>
    obtain ⟨b1, rfl, rfl, hB1, hG⟩ := hcut
    have B1 := Lib.hid hB1
    replace G := Lib.hid hG
    clear hB1 hG
    go_upto_region 2 with (fail)
    go_cut [4, 3] (fun v4 v3 wx => ∃ b3 : Nat, v4 = .int .i64 0 ∧ v3 = .pointer (some ⟨b3, 0, none⟩) ∧ BlkT 29 wx b3 h2.L ∧ w.heap.size ≤ b3 ∧ BlkT 29 wx b1 h1.L ∧ Below w.heap.size w wx ∧ b1 ≠ b3)
    case first =>
      go_wp2_with (first
              | (refine wpList_load_blk 29 (.tmp 1) b1 (cs := h1.L) rfl rfl rfl B1.out.blk Try.underlying29 rfl HI.out ?_)
              | (refine wpList_load_blkG 29 (.tmp 1) b1 (cs := h1.L) (by first | rfl | simp [Region.wanted, yielded]) rfl rfl B1.out.blk Try.underlying29 rfl HI.out ?_))
      refine (R2.out _).mono ?_; rintro e wn ⟨rfl, hb⟩
      go_wp2_with (refine wpList_store_blk 29 (.tmp 3) (.tmp 27) _ (old := zeroL) (cs := h2.L) rfl rfl rfl rfl (Blk.new _ _ _) HI.out rfl rfl ?_)
      go_meet
      exact ⟨_, rfl, rfl, lay_blk _ _ _ _, Nat.le_trans G.out.size hb.size, (B1.out.up (bt hb (lay_below _ _ _ _))), (bt G.out (bt hb (lay_below _ _ _ _))), (show _ ≠ _ from Nat.ne_of_lt (B1.out.up hb).blk.lt)⟩
    case rest =>
      obtain ⟨b3, rfl, rfl, hB3, hLow3, hB1, hG, hN31⟩ := hcut
      have B3 := Lib.hid hB3
      have Low3 := Lib.hid hLow3
      replace B1 := Lib.hid hB1
      replace G := Lib.hid hG
      have N31 := Lib.hid hN31
      clear hB3 hLow3 hB1 hG hN31
      go_upto_region 3 with (fail)
      go_cut [5] (fun v5 wx => v5 = .int .i64 0 ∧ BlkT 29 wx b3 h3.L ∧ BlkT 29 wx b1 h1.L ∧ Below w.heap.size w wx)
      case first =>
        go_wp2_with (first
                  | (refine wpList_load_blk 29 (.tmp 3) b3 (cs := h2.L) rfl rfl rfl B3.out.blk Try.underlying29 rfl HI.out ?_)
                  | (refine wpList_load_blkG 29 (.tmp 3) b3 (cs := h2.L) (by first | rfl | simp [Region.wanted, yielded]) rfl rfl B3.out.blk Try.underlying29 rfl HI.out ?_))
        refine (P1.out _).mono ?_; rintro e wn ⟨rfl, hb⟩
        have C := Lib.hid (B3.out.up hb)
        go_wp2_with (refine wpList_store_blk 29 (.tmp 3) (.tmp 32) b3 (old := h2.L) (cs := h3.L) rfl rfl rfl rfl C.out.blk HI.out rfl rfl ?_)
        go_meet
        exact ⟨rfl, C.out.row h3.L, ((B1.out.up hb)).rowOther _ N31.out _, below_setRow (bt G.out hb) Low3.out _⟩
      case rest =>
        obtain ⟨rfl, hB3, hB1, hG⟩ := hcut
        replace B3 := Lib.hid hB3
        replace B1 := Lib.hid hB1
        replace G := Lib.hid hG
        clear hB3 hB1 hG
        go_upto_region 4 with (fail)
        go_cut [7] (fun v7 wx => v7 = .int .i64 2 ∧ BlkT 29 wx b3 h4.L ∧ BlkT 29 wx b1 h1.L ∧ Below w.heap.size w wx)
        case first =>
          go_wp2_with (first
                      | (refine wpList_load_blk 29 (.tmp 3) b3 (cs := h3.L) rfl rfl rfl B3.out.blk Try.underlying29 rfl HI.out ?_)
                      | (refine wpList_load_blkG 29 (.tmp 3) b3 (cs := h3.L) (by first | rfl | simp [Region.wanted, yielded]) rfl rfl B3.out.blk Try.underlying29 rfl HI.out ?_))
          refine (P2.out _).mono ?_; rintro e wn ⟨rfl, hb⟩
          have C := Lib.hid (B3.out.up hb)
          go_wp2_with (refine wpList_store_blk 29 (.tmp 3) (.tmp 38) b3 (old := h3.L) (cs := h4.L) rfl rfl rfl rfl C.out.blk HI.out rfl rfl ?_)
          go_meet
          exact ⟨rfl, C.out.row h4.L, ((B1.out.up hb)).rowOther _ N31.out _, below_setRow (bt G.out hb) Low3.out _⟩
        case rest =>
          obtain ⟨rfl, hB3, hB1, hG⟩ := hcut
          replace B3 := Lib.hid hB3
          replace B1 := Lib.hid hB1
          replace G := Lib.hid hG
          clear hB3 hB1 hG
          go_upto_region 5 with (fail)
          go_cut [9, 10] (fun v9 v10 wx => v9 = .int .i64 0 ∧ v10 = .int .i64 0 ∧ BlkT 29 wx b3 h5.L ∧ BlkT 29 wx b1 h1.L ∧ Below w.heap.size w wx)
          case first =>
            go_wp2_with (first
                          | (refine wpList_load_blk 29 (.tmp 3) b3 (cs := h4.L) rfl rfl rfl B3.out.blk Try.underlying29 rfl HI.out ?_)
                          | (refine wpList_load_blkG 29 (.tmp 3) b3 (cs := h4.L) (by first | rfl | simp [Region.wanted, yielded]) rfl rfl B3.out.blk Try.underlying29 rfl HI.out ?_))
            refine (P3.out _).mono ?_; rintro e wn ⟨rfl, hb⟩
            have C := Lib.hid (B3.out.up hb)
            go_wp2_with (refine wpList_store_blk 29 (.tmp 3) (.tmp 44) b3 (old := h4.L) (cs := h5.L) rfl rfl rfl rfl C.out.blk HI.out rfl rfl ?_)
            go_meet
            exact ⟨rfl, rfl, C.out.row h5.L, ((B1.out.up hb)).rowOther _ N31.out _, below_setRow (bt G.out hb) Low3.out _⟩
          case rest =>
            obtain ⟨rfl, rfl, hB3, hB1, hG⟩ := hcut
            replace B3 := Lib.hid hB3
            replace B1 := Lib.hid hB1
            replace G := Lib.hid hG
            clear hB3 hB1 hG
            go_upto_region 6 with (fail)
            go_cut [12, 13, 11] (fun v12 v13 v11 wx => ∃ ff : Fv, ∃ fa : Option Addr, ∃ fk : Nat, ∃ b11 : Nat, v12 = .slice fa 1 fk ∧ v13 = .int .i64 0 ∧ v11 = .pointer (some ⟨b11, 0, none⟩) ∧ BlkT 29 wx b11 (h5.setF 2 ff).L ∧ BlkT 29 wx b1 h1.L ∧ BlkT 29 wx b3 h5.L ∧ Below w.heap.size w wx ∧ RowsAt wx fa [[7]])
            case first =>
              go_wp2_with (first
                              | (refine wpList_load_blk 29 (.tmp 3) b3 (cs := h5.L) rfl rfl rfl B3.out.blk Try.underlying29 rfl HI.out ?_)
                              | (refine wpList_load_blkG 29 (.tmp 3) b3 (cs := h5.L) (by first | rfl | simp [Region.wanted, yielded]) rfl rfl B3.out.blk Try.underlying29 rfl HI.out ?_))
              refine (U1.out _ _ (at_new _ (B8s [0, 1, 7]) _)).mono ?_; rintro e wn ⟨ff, fa, fk, rfl, hFd, hRw, -, hbp⟩
              have hb := bt (ba _ _) hbp
              go_wp2_with (refine wpList_store_blk 29 (.tmp 11) (.tmp 51) _ (old := zeroL) (cs := (h5.setF 2 ff).L) rfl rfl rfl rfl (Blk.new _ _ _) HI.out rfl rfl ?_)
              go_meet
              exact ⟨ff, fa, fk, _, rfl, rfl, rfl, lay_blk _ _ _ _, (B1.out.up (bt hb (lay_below _ _ _ _))), (B3.out.up (bt hb (lay_below _ _ _ _))), (bt G.out (bt hb (lay_below _ _ _ _))), (hRw).mono (lay_below _ _ _ _)⟩
            case rest =>
              obtain ⟨ff, fa, fk, b11, rfl, rfl, rfl, hB11, hB1, hB3, hG, hRW⟩ := hcut
              have B11 := Lib.hid hB11
              replace B1 := Lib.hid hB1
              replace B3 := Lib.hid hB3
              replace G := Lib.hid hG
              have RW := Lib.hid hRW
              clear hB11 hB1 hB3 hG hRW
              go_upto_region 7 with (fail)
              go_cut [15, 14] (fun v15 v14 wx => ∃ b14 : Nat, v15 = .int .i64 0 ∧ v14 = .pointer (some ⟨b14, 0, none⟩) ∧ BlkT 29 wx b14 h6.L ∧ BlkT 29 wx b1 h1.L ∧ BlkT 29 wx b3 h5.L ∧ BlkT 29 wx b11 (h5.setF 2 ff).L ∧ Below w.heap.size w wx ∧ RowsAt wx fa [[7]])
              case first =>
                go_wp2_with (first
                                  | (refine wpList_load_blk 29 (.tmp 3) b3 (cs := h5.L) rfl rfl rfl B3.out.blk Try.underlying29 rfl HI.out ?_)
                                  | (refine wpList_load_blkG 29 (.tmp 3) b3 (cs := h5.L) (by first | rfl | simp [Region.wanted, yielded]) rfl rfl B3.out.blk Try.underlying29 rfl HI.out ?_))
                refine (C1.out _).mono ?_; rintro e wn ⟨rfl, hb⟩
                go_wp2_with (refine wpList_store_blk 29 (.tmp 14) (.tmp 57) _ (old := zeroL) (cs := h6.L) rfl rfl rfl rfl (Blk.new _ _ _) HI.out rfl rfl ?_)
                go_meet
                exact ⟨_, rfl, rfl, lay_blk _ _ _ _, (B1.out.up (bt hb (lay_below _ _ _ _))), (B3.out.up (bt hb (lay_below _ _ _ _))), (B11.out.up (bt hb (lay_below _ _ _ _))), (bt G.out (bt hb (lay_below _ _ _ _))), (RW.out.mono (bt hb (lay_below _ _ _ _)))⟩
              case rest =>
                obtain ⟨b14, rfl, rfl, hB14, hB1, hB3, hB11, hG, hRW⟩ := hcut
                have B14 := Lib.hid hB14
                replace B1 := Lib.hid hB1
                replace B3 := Lib.hid hB3
                replace B11 := Lib.hid hB11
                replace G := Lib.hid hG
                replace RW := Lib.hid hRW
                clear hB14 hB1 hB3 hB11 hG hRW
                go_upto_region 8 with (fail)
                go_cut [18, 16] (fun v18 v16 wx => ∃ b16 : Nat, v18 = .int .i64 11 ∧ v16 = .pointer (some ⟨b16, 0, none⟩) ∧ BlkT 29 wx b16 h0.L ∧ BlkT 29 wx b1 h1.L ∧ BlkT 29 wx b3 h5.L ∧ BlkT 29 wx b11 (h5.setF 2 ff).L ∧ BlkT 29 wx b14 h6.L ∧ Below w.heap.size w wx ∧ RowsAt wx fa [[7]])
                case first =>
                  go_wp2_with fail
                  refine (P0.out _).mono ?_; rintro e wn ⟨rfl, hb⟩
                  go_wp2_with (refine wpList_store_blk 29 (.tmp 16) (.tmp 62) _ (old := zeroL) (cs := h0.L) rfl rfl rfl rfl (Blk.new _ _ _) HI.out rfl rfl ?_)
                  go_meet
                  exact ⟨_, rfl, rfl, lay_blk _ _ _ _, (B1.out.up (bt hb (lay_below _ _ _ _))), (B3.out.up (bt hb (lay_below _ _ _ _))), (B11.out.up (bt hb (lay_below _ _ _ _))), (B14.out.up (bt hb (lay_below _ _ _ _))), (bt G.out (bt hb (lay_below _ _ _ _))), (RW.out.mono (bt hb (lay_below _ _ _ _)))⟩
                case rest =>
                  obtain ⟨b16, rfl, rfl, hB16, hB1, hB3, hB11, hB14, hG, hRW⟩ := hcut
                  have B16 := Lib.hid hB16
                  replace B1 := Lib.hid hB1
                  replace B3 := Lib.hid hB3
                  replace B11 := Lib.hid hB11
                  replace B14 := Lib.hid hB14
                  replace G := Lib.hid hG
                  replace RW := Lib.hid hRW
                  clear hB16 hB1 hB3 hB11 hB14 hG hRW
                  obtain ⟨bq, oq, pq, cq, rfl, hbq, hcq, -, -, hBq⟩ := RowsAt.row RW.out 0 (by decide)
                  have HBq := Lib.hid (show BytesAt _ pq [7] from hBq)
                  have hcq' : World.cell? _ ⟨bq, oq, none⟩ = some (.slice pq 1 cq) := hcq
                  clear hcq hBq RW
                  go_wp2_with fail
                  refine (same01_any pq _ 1 cq 1 1 [7] [7] _ rfl rfl (HBq.out.mono (ba _ _)) (at_new _ (B8s [7]) _)).mono ?_; rintro e w2 ⟨rfl, rfl⟩
                  replace B1 := Lib.hid (B1.out.up (ba _ (.cells (B8s [7]).toArray 5)))
                  replace B3 := Lib.hid (B3.out.up (ba _ (.cells (B8s [7]).toArray 5)))
                  replace B14 := Lib.hid (B14.out.up (ba _ (.cells (B8s [7]).toArray 5)))
                  replace G := Lib.hid (bt G.out (ba _ (.cells (B8s [7]).toArray 5)))
                  go_wp2_with (first
                                        | (refine wpList_load_blk 29 (.tmp 14) b14 (cs := h6.L) rfl rfl rfl B14.out.blk Try.underlying29 rfl HI.out ?_)
                                        | (refine wpList_load_blkG 29 (.tmp 14) b14 (cs := h6.L) (by first | rfl | simp [Region.wanted, yielded]) rfl rfl B14.out.blk Try.underlying29 rfl HI.out ?_))
                  refine (N6.out _).mono ?_; rintro e y1 ⟨rfl, hb⟩
                  replace B1 := Lib.hid (B1.out.up hb)
                  replace B3 := Lib.hid (B3.out.up hb)
                  replace B14 := Lib.hid (B14.out.up hb)
                  replace G := Lib.hid (bt G.out hb)
                  clear hb
                  go_wp2_with fail
                  refine (N0.out _).mono ?_; rintro e y2 ⟨rfl, hb⟩
                  replace B1 := Lib.hid (B1.out.up hb)
                  replace B3 := Lib.hid (B3.out.up hb)
                  replace G := Lib.hid (bt G.out hb)
                  clear hb
                  go_wp2_with (first
                                        | (refine wpList_load_blk 29 (.tmp 3) b3 (cs := h5.L) rfl rfl rfl B3.out.blk Try.underlying29 rfl HI.out ?_)
                                        | (refine wpList_load_blkG 29 (.tmp 3) b3 (cs := h5.L) (by first | rfl | simp [Region.wanted, yielded]) rfl rfl B3.out.blk Try.underlying29 rfl HI.out ?_))
                  refine (T5.out _).mono ?_; rintro e y3 ⟨rfl, hb⟩
                  replace B1 := Lib.hid (B1.out.up hb)
                  replace B3 := Lib.hid (B3.out.up hb)
                  replace G := Lib.hid (bt G.out hb)
                  clear hb
                  go_wp2_with fail
                  refine (T7.out _).mono ?_; rintro e y4 ⟨rfl, hb⟩
                  replace B1 := Lib.hid (B1.out.up hb)
                  replace B3 := Lib.hid (B3.out.up hb)
                  replace G := Lib.hid (bt G.out hb)
                  clear hb
                  go_wp2_with (first
                                        | (refine wpList_load_blk 29 (.tmp 1) b1 (cs := h1.L) rfl rfl rfl B1.out.blk Try.underlying29 rfl HI.out ?_)
                                        | (refine wpList_load_blkG 29 (.tmp 1) b1 (cs := h1.L) (by first | rfl | simp [Region.wanted, yielded]) rfl rfl B1.out.blk Try.underlying29 rfl HI.out ?_))
                  refine (S1.out _).mono ?_; rintro e y5 ⟨rfl, hb⟩
                  replace B1 := Lib.hid (B1.out.up hb)
                  replace B3 := Lib.hid (B3.out.up hb)
                  replace G := Lib.hid (bt G.out hb)
                  clear hb
                  go_wp2_with (first
                                        | (refine wpList_load_blk 29 (.tmp 1) b1 (cs := h1.L) rfl rfl rfl B1.out.blk Try.underlying29 rfl HI.out ?_)
                                        | (refine wpList_load_blk 29 (.tmp 3) b3 (cs := h5.L) rfl rfl rfl B3.out.blk Try.underlying29 rfl HI.out ?_)
                                        | (refine wpList_load_blkG 29 (.tmp 1) b1 (cs := h1.L) (by first | rfl | simp [Region.wanted, yielded]) rfl rfl B1.out.blk Try.underlying29 rfl HI.out ?_)
                                        | (refine wpList_load_blkG 29 (.tmp 3) b3 (cs := h5.L) (by first | rfl | simp [Region.wanted, yielded]) rfl rfl B3.out.blk Try.underlying29 rfl HI.out ?_))
                  refine (S2.out _).mono ?_; rintro e y6 ⟨rfl, hb⟩
                  replace B1 := Lib.hid (B1.out.up hb)
                  replace B3 := Lib.hid (B3.out.up hb)
                  replace G := Lib.hid (bt G.out hb)
                  clear hb
                  go_wp2_with fail
                  go_ret
                  exact ⟨rfl, G.out⟩
end Go.Proofs.Ytcccgjpmfbmplaa
