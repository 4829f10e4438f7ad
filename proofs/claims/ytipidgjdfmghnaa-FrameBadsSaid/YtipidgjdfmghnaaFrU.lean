/- The walk of the law FrameBads. -/
import Derived.Test.YtipidgjdfmghnaaFrT
set_option linter.unusedSimpArgs false
set_option linter.unusedVariables false
namespace Go.Proofs.Ytipidgjdfmghnaa
open Go.RowKit

set_option maxRecDepth 100000 in
set_option maxHeartbeats 2000000 in
theorem frameBads_main (hsh : Shown08OK) (N : Nat) (x : UInt8) (a : Option Addr) (cap : Nat) (b : List UInt8) (w : World) (hN : N = 0 ∨ 1024 < N) (hN2 : N ≤ 3000) (hb1 : 1 ≤ b.length) (hb2 : b.length ≤ 300) (hl : BytesAt w a b) :
    Calls Try.prog 8 #[.int .u16 (N : Int), .int .u8 (bv x), .slice a b.length cap] w (BoolOut w true) := by
  have Hsh := Lib.hid hsh
  have Hl := Lib.hid hl
  have HN := Lib.hid (And.intro hN hN2)
  have d1 : decide ((b.length : Int) < 1) = false := by simp; omega
  have d2 : decide ((300 : Int) < (b.length : Int)) = false := by simp; omega
  have d5 : decide ((3000 : Int) < (N : Int)) = false := by simp; omega
  have HP := Lib.hid (show packs b = true by simp [packs]; omega)
  have Hbl := Lib.hid (And.intro hb1 hb2)
  clear hsh hl hb1 hb2
  rcases hN with hN | hN
  all_goals
    first
      | (have d4 : decide ((N : Int) ≤ 1024) = false := by (simp; omega)
         have d3 : decide ((1 : Int) ≤ (N : Int)) = true := by (simp; omega))
      | (have d3 : decide ((1 : Int) ≤ (N : Int)) = false := by (simp; omega))
    clear hN hN2
    have hn3 := HN.out.2
    go_enter Try.func8, Try.ntmps8
    go_wp2_with fail
    refine (Hsh.out _).mono ?_; rintro e w1 ⟨rfl, hbb⟩
    go_wp2_with fail
    refine (pack_any a cap b w1 (by have := Hbl.out; unfold maxLen; omega) (Hl.out.mono hbb)).mono ?_
    rintro e w2 ⟨hb2, ⟨-, a1, k1, rfl, -, -, ha1⟩ | ⟨hp, -⟩⟩
    case inr => exact absurd (HP.out.symm.trans hp) (by decide)
    have Hb := Lib.hid (bt hbb hb2)
    have Ha1 := Lib.hid ha1
    clear hbb hb2 ha1
    go_wp2_with fail
    have hq1 : (N : Int) / 256 = bv (UInt8.ofNat (N / 256)) := by
      have := HN.out.2
      unfold bv; rw [UInt8.toNat_ofNat']
      omega
    have hq2 : (N : Int) % 256 = bv (UInt8.ofNat N) := by
      unfold bv; rw [UInt8.toNat_ofNat']; omega
    have hB0 := Buf.made w2 5 [.int .u8 ((N : Int) / 256), .int .u8 ((N : Int) % 256)] 2 2 (Nat.le_refl _) rfl (by decide)
    have e0 : List.take 2 [Value.int .u8 ((N : Int) / 256), .int .u8 ((N : Int) % 256)] = B8s (UInt8.ofNat (N / 256) :: UInt8.ofNat N :: List.replicate 0 x) := by rw [hq1, hq2]; rfl
    rw [e0] at hB0
    clear e0 hq1 hq2
    go_loopw [10, 11] (fun v10 v11 wx => ∃ (j : Nat) (aa : Option Addr) (ac : Nat), j ≤ N ∧ v11 = .int .i64 (j : Int) ∧ v10 = .slice aa (j + 2) ac ∧ Buf w2 wx 5 v10 (j + 2) (B8s (UInt8.ofNat (N / 256) :: UInt8.ofNat N :: List.replicate j x))) (fun _ v11 _ => N - (intOf v11).toNat)
    case atStart => exact ⟨0, _, 2, Nat.zero_le _, rfl, rfl, hB0⟩
    case round =>
      clear hB0
      obtain ⟨j, aa, ac, hj, rfl, rfl, hB⟩ := hrel
      have HB := Lib.hid hB
      clear hB
      by_cases hlt : j < N
      · go_wp2_with (at_builtin; go_must (refine wpList_buf (.tmp 56) (.tmp 58) 22 rfl rfl elemB rfl (HB.out.alloc _) (news := [.int .u8 (bv x)]) rfl (at_new wr _ _) rfl (bytes_one [x]) (by omega) (by decide) (j + 1 + 2) (by omega) (B8s (UInt8.ofNat (N / 256) :: UInt8.ofNat N :: List.replicate (j + 1) x)) (by rw [List.replicate_succ']; simp) ?_; intro a5 c5 w5 hB5))
        go_roundw
        case rel => exact ⟨j + 1, a5, c5, by omega, by go_num, by first | rfl | (congr 1 <;> omega), hB5⟩
        case measure => simp [intOf]; omega
      · obtain rfl : j = N := by omega
        obtain ⟨hrun1, hrun2⟩ := bads_run j HN.out.1 (by omega) (List.replicate j x) b List.length_replicate HP.out
        have hlen2 : ((UInt8.ofNat (j / 256) :: UInt8.ofNat j :: List.replicate j x) ++ packL b).length = j + 2 + (b.length + 2) := by simp [packL_len]; omega
        have hp1 := fun (a' : Option Addr) (c' : Nat) (W : World) (h : BytesAt W a' ((UInt8.ofNat (j / 256) :: UInt8.ofNat j :: List.replicate j x) ++ packL b)) => push_any ⟨none, 0, 0, 0, 0⟩ ⟨[], 0, 0⟩ a' c' _ W W.heap.size (Nat.le_refl _) ⟨rfl, Nat.le_refl _, Nat.zero_le _, .inl rfl, rfl, rfl⟩ (by decide) h (by rw [hlen2]; have := Hbl.out; omega)
        rw [hlen2, hrun1] at hp1
        have HP1 := Lib.hid hp1
        have hp2 := fun (W : World) (h : BytesAt W aa [UInt8.ofNat (j / 256), UInt8.ofNat j]) => push_any ⟨none, 0, 0, 0, 0⟩ ⟨[], 0, 0⟩ aa ac [UInt8.ofNat (j / 256), UInt8.ofNat j] W W.heap.size (Nat.le_refl _) ⟨rfl, Nat.le_refl _, Nat.zero_le _, .inl rfl, rfl, rfl⟩ (by decide) h (by simp)
        rw [hrun2] at hp2
        have HP2 := Lib.hid hp2
        obtain ⟨-, hc2, -⟩ := HB.out.cap
        have hsl : ∀ W, (Instr.sliceAt 22 (.slice aa (j + 2) ac) none (some (.int .i64 2)) none).run Try.prog W = .ok (.slice aa 2 ac) W := fun W => run_head Try.underlying22 size_u8 W aa (j + 2) ac 2 (by omega)
        have Hblw := Lib.hid (bt Hb.out HB.out.bel)
        clear hp1 hp2 hrun1 hrun2 hlen2 hj hlt
        go_wp2_with (at_builtin; go_must (refine wpList_keep (.tmp 62) (.tmp 63) 22 rfl rfl elemB rfl HB.out (sp := a1) (m := b.length + 2) (news := B8s (packL b)) rfl (Ha1.out.mono HB.out.bel) (by simp [packL_len]) (by omega) (bytes_one _) (by have := Hbl.out; omega) (by decide) (j + 2 + (b.length + 2)) rfl (B8s ((UInt8.ofNat (j / 256) :: UInt8.ofNat j :: List.replicate j x) ++ packL b)) (by exact (List.map_append).symm) ?_; intro a6 c6 w6 hB6 hold))
        have Hb6 := Lib.hid (bt Hb.out hB6.bel)
        have Hold := Lib.hid hold
        refine (HP1.out a6 c6 w6 hB6.at).mono ?_; rintro e w7 ⟨f1, l1, lc1, vs1, rfl, hF1, -, hO1, hR1, hb7⟩
        obtain ⟨fa, fl, fc, fs, fb⟩ := f1
        obtain ⟨e1, -, -, -, e2, e3⟩ := hF1
        simp only [List.length_nil] at e1 e2 e3
        subst e1 e2 e3
        have H3 := Lib.hid (BlkT.new w7 [.slice fa 0 fc, .int .i64 0, .int .i64 1] 24)
        have hbX := bt hb7 (ba w7 (.cells #[.slice fa 0 fc, .int .i64 0, .int .i64 1] 24))
        have HR1 := Lib.hid ((FdAt.rows_len hO1 hR1).mono (ba w7 (.cells #[.slice fa 0 fc, .int .i64 0, .int .i64 1] 24)))
        replace Hb6 := Lib.hid (bt Hb6.out hbX)
        have hold2 : BytesAt _ aa [UInt8.ofNat (j / 256), UInt8.ofNat j] := (At.take Hold.out 2).mono hbX
        have Hold2 := Lib.hid hold2
        clear hb7 hbX hO1 hR1 hold hold2 hB6 Hold HB
        go_wp2_with fail
        refine (HP2.out _ Hold2.out).mono ?_; rintro e w8 ⟨f2, l2, lc2, vs2, rfl, hF2, -, hO2, hR2, hb8⟩
        obtain ⟨ga, gl, gc, gs, gb⟩ := f2
        obtain ⟨e1, -, -, -, e2, e3⟩ := hF2
        simp only [List.length_nil] at e1 e2 e3
        subst e1 e2 e3
        have H4 := Lib.hid (BlkT.new w8 [.slice ga 0 gc, .int .i64 (j : Int), .int .i64 1] 24)
        have hbX := bt hb8 (ba w8 (.cells #[.slice ga 0 gc, .int .i64 (j : Int), .int .i64 1] 24))
        replace H3 := Lib.hid (H3.out.up hbX)
        replace HR1 := Lib.hid (HR1.out.mono hbX)
        replace Hb6 := Lib.hid (bt Hb6.out hbX)
        obtain ⟨rb, ro, rp, rc, rfl, hrb, hrc, -, -, hrat⟩ := HR1.out.row 0 (by simp)
        rw [Nat.add_zero] at hrc
        have hr2 : ([b] : List (List UInt8)).getD 0 [] = b := rfl
        rw [hr2] at hrc hrat
        have Hrat := Lib.hid hrat
        clear hb8 hbX hO2 hR2 hrat hrb hr2
        obtain ⟨c0, c1, c2⟩ := cells3 H3.out.blk
        obtain ⟨d0, d1, d2⟩ := cells3 H4.out.blk
        have HSm := Lib.hid (same01_any rp a b.length rc b.length cap b b _ rfl rfl Hrat.out (Hl.out.mono Hb6.out))
        rw [beq_self_eq_true] at HSm
        go_wp2_with fail
        refine HSm.out.mono ?_; rintro e w9 ⟨rfl, rfl⟩
        go_wp2_with fail
        go_ret
        exact ⟨rfl, Hb6.out⟩

set_option maxHeartbeats 1000000 in
theorem frameBads_any (hsh : Shown08OK) (N : Nat) (x : UInt8) (a : Option Addr) (cap : Nat) (b : List UInt8) (w : World) (hl : BytesAt w a b) :
    Calls Try.prog 8 #[.int .u16 (N : Int), .int .u8 (bv x), .slice a b.length cap] w (BoolOut w true) := by
  by_cases hm : 1 ≤ b.length ∧ b.length ≤ 300 ∧ (N = 0 ∨ 1024 < N) ∧ N ≤ 3000
  · exact frameBads_main hsh N x a cap b w hm.2.2.1 hm.2.2.2 hm.1 hm.2.1 hl
  · have Hsh := Lib.hid hsh
    have Hm := Lib.hid hm
    clear hsh hl hm
    go_enter Try.func8, Try.ntmps8
    go_wp2_with fail
    refine (Hsh.out _).mono ?_; rintro e w1 ⟨rfl, hbb⟩
    go_wp2_with fail
    all_goals first
      | (go_ret
         exact ⟨rfl, hbb⟩)
      | (exfalso
         have hm := Hm.out
         (try simp only [decide_eq_true_eq, decide_eq_false_iff_not, Bool.not_eq_true] at *)
         omega)
end Go.Proofs.Ytipidgjdfmghnaa
