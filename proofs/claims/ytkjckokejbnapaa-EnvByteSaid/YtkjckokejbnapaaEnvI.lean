/- Envelopes: what is tagged, of the program. -/
import Derived.Test.YtkjckokejbnapaaEnvH
set_option linter.unusedSimpArgs false
set_option linter.unusedVariables false
namespace Go.Proofs.Ytkjckokejbnapaa
open Go.RowKit

def inH (k d e0 e1 g s : Nat) : List UInt8 := layF (layF (layF (layF [] 1 [k, d]) 8 [e0, e1]) 4 [g]) 8 [s]
def inF (k d e0 e1 g s : Nat) (bl : List UInt8) : List UInt8 := inH k d e0 e1 g s ++ bl
theorem inH_len (k d e0 e1 g s : Nat) : (inH k d e0 e1 g s).length = 30 := by
  unfold inH; simp only [layF_len]; rfl
/-- the numbers of an envelope that may be -/
structure MayBe (k d e0 e1 g s n : Nat) : Prop where
  k1 : 1 ≤ k
  k2 : k ≤ 2
  d1 : d ≤ 1
  e0 : e0 ≤ 4611686018427387904
  e1 : e1 ≤ 4611686018427387904
  g1 : g ≤ 2147483647
  s1 : s ≤ 4611686018427387904
  n1 : 1 ≤ n
  n2 : n ≤ 900
theorem parts_nat {k d e0 e1 g s : Int} {n : Nat} (h : partsB k d e0 e1 g s n = true) : ∃ K D E0 E1 G S : Nat, k = K ∧ d = D ∧ e0 = E0 ∧ e1 = E1 ∧ g = G ∧ s = S ∧ MayBe K D E0 E1 G S n := by
  simp [partsB, kindB, wB, lenB, lastN] at h
  obtain ⟨hk, ⟨a0, a1⟩, ⟨b0, b1⟩, ⟨c0, c1⟩, ⟨d0, d1⟩, ⟨g0, g1⟩, n1, n2⟩ := h
  refine ⟨k.toNat, d.toNat, e0.toNat, e1.toNat, g.toNat, s.toNat, by omega, by omega, by omega, by omega, by omega, by omega, ⟨by omega, by omega, by omega, by omega, by omega, by omega, by omega, n1, n2⟩⟩
theorem MayBe.parts {k d e0 e1 g s n : Nat} (h : MayBe k d e0 e1 g s n) : partsB k d e0 e1 g s n = true := by
  obtain ⟨h1, h2, h3, h4, h5, h6, h7, h8, h9⟩ := h
  simp [partsB, kindB, wB, lenB, lastN]
  omega
/-- bytes of the call's own, and an answer -/
def RowOut (w : World) (L : List UInt8) (e : Ending) (w' : World) : Prop :=
  ∃ a c, e = .returned (.tuple #[.slice a L.length c, .int .i64 0]) ∧ OwnB w.heap.size w' (.slice a L.length c) L.length (B8s L) ∧ Below w.heap.size w w'
def NoOut (w : World) (e : Ending) (w' : World) : Prop := e = .returned (.tuple #[.slice none 0 0, .int .i64 1]) ∧ Below w.heap.size w w'

theorem lay_step (z : Nat) (zi : Int) (hzi : zi = (z : Int)) (hz : 1 ≤ z) (hz8 : z ≤ 8) (ns : List Nat) (hns : ∀ n ∈ ns, n < 256 ^ z ∧ n ≤ 9223372036854775807) (len : Nat) (hlen : len = ns.length) (hl : len ≤ 2) (c b b0 : Nat) (hbb : b0 ≠ b) (X : List UInt8) (hX : X.length ≤ 1000) (W0 W : World) (hb0 : W0.heap.size ≤ b) (hX0 : LayAt W0 b W X) {L : List Value} (hE : BlkT 25 W b0 L) (xs : Array Value) (hxs : xs = (ns.map natV).toArray) :
    Calls Try.prog 25 #[.int .i64 zi, .slice (some ⟨W.heap.size, 0, none⟩) len c, .pointer (some ⟨b, 0, none⟩)] (W.alloc (.cells xs 3)) fun e w' => e = .returned (.tuple #[]) ∧ LayAt W0 b w' (layF X z ns) ∧ BlkT 25 w' b0 L := by
  subst hzi; subst hlen; subst hxs
  have hbl : b < W.heap.size := by obtain ⟨a, c, h1, -, -⟩ := hX0; exact h1.blk.lt
  refine (lay_any z hz hz8 ns hns hl W.heap.size c b (by omega) X hX W0 _ hb0 (hX0.up (ba _ _)) (BlkT.new W (ns.map natV) 3)).mono ?_
  rintro e w' ⟨h1, h2, h3⟩
  exact ⟨h1, h2, h3 b0 _ _ hbb (by have := hE.blk.lt; rw [size_alloc]; omega) (by decide) (hE.up (ba _ _))⟩

set_option maxHeartbeats 1000000 in
theorem input_bad (k d e0 e1 g s : Int) (b_ t_ : Option Addr) (n bc m tc : Nat) (hn : n ≤ maxLen) (hp : partsB k d e0 e1 g s n = false) (w : World) :
    Calls Try.prog 11 #[envV k d e0 e1 g s (.slice b_ n bc) (.slice t_ m tc)] w (NoOut w) := by
  have Hp := Lib.hid (fun W => parts_any k d e0 e1 g s b_ t_ n bc m tc hn W)
  rw [hp] at Hp
  go_enter Try.func11, Try.ntmps11
  go_wp2_with fail
  refine (Hp.out _).mono ?_; rintro e w1 ⟨rfl, hb1⟩
  have Hb1 := Lib.hid (bt (ba w _) hb1)
  clear hb1
  go_wp2_with fail
  go_ret2
  exact ⟨rfl, Hb1.out⟩

set_option maxRecDepth 100000 in
set_option maxHeartbeats 1000000 in
theorem input_ok (k d e0 e1 g s : Nat) (b_ t_ : Option Addr) (bc m tc : Nat) (bl : List UInt8) (h : MayBe k d e0 e1 g s bl.length) (w : World) (hbl : BytesAt w b_ bl) :
    Calls Try.prog 11 #[envV k d e0 e1 g s (.slice b_ bl.length bc) (.slice t_ m tc)] w (RowOut w (inF k d e0 e1 g s bl)) := by
  have Hp := Lib.hid (fun W => parts_any k d e0 e1 g s b_ t_ bl.length bc m tc (by have := h.n2; unfold maxLen; omega) W)
  rw [h.parts] at Hp
  have HM := Lib.hid h
  have Hbl := Lib.hid hbl
  obtain ⟨XF, hXF⟩ : ∃ XF, XF = inF k d e0 e1 g s bl := ⟨_, rfl⟩
  rw [← hXF]
  have HXF := Lib.hid hXF
  clear h hbl hXF
  go_enter Try.func11, Try.ntmps11
  go_wp2_with fail
  refine (Hp.out _).mono ?_; rintro e w1 ⟨rfl, hb1⟩
  have E1 := Lib.hid (env_box w k d e0 e1 g s _ _ hb1)
  have Hb1 := Lib.hid (bt (ba w _) hb1)
  have hlt := E1.out.blk.lt
  clear hb1 Hp
  go_upto_region 5 with (fail)
  generalize hW : World.alloc w1 _ = W
  have EW : BlkT 25 W w.heap.size (envL k d e0 e1 g s (.slice b_ bl.length bc) (.slice t_ m tc)) := by rw [← hW]; exact E1.out.up (ba _ _)
  have LW : LayAt w w1.heap.size W [] := by
    rw [← hW]
    exact ⟨none, 0, BlkT.new w1 [.slice none 0 0] 23, ⟨⟨rfl, .inl ⟨rfl, rfl⟩⟩, by have := Hb1.out.size; rw [size_alloc]; omega⟩, bt Hb1.out (ba _ _)⟩
  clear hW
  have hbase := Hb1.out.size
  have hne : w.heap.size ≠ w1.heap.size := by omega
  generalize w1.heap.size = b at LW hbase hne hlt ⊢
  clear E1 Hb1 w1
  obtain ⟨c0, c1, c2, c3, c4, c5, c6, c7⟩ := env_cells EW.blk
  have H1 := Lib.hid (lay_step 1 1 rfl (by decide) (by decide) [k, d] (by have := HM.out.k2; have := HM.out.d1; simp; omega) 2 rfl (by decide) 2 b w.heap.size hne [] (by simp) w W hbase LW EW #[.int .i64 (k : Int), .int .i64 (d : Int)] rfl)
  obtain ⟨X1, hX1⟩ : ∃ X1, X1 = layF [] 1 [k, d] := ⟨_, rfl⟩
  rw [← hX1] at H1
  have hl1 : X1.length = 2 := by rw [hX1, layF_len]; rfl
  go_wp2_with fail
  refine H1.out.mono ?_; rintro e w2 ⟨rfl, L2, E2⟩
  have H2 := Lib.hid (lay_step 8 8 rfl (by decide) (by decide) [e0, e1] (by have := HM.out.e0; have := HM.out.e1; simp; omega) 2 rfl (by decide) 2 b w.heap.size hne X1 (by omega) w w2 hbase L2 E2 #[.int .i64 (e0 : Int), .int .i64 (e1 : Int)] rfl)
  obtain ⟨X2, hX2⟩ : ∃ X2, X2 = layF X1 8 [e0, e1] := ⟨_, rfl⟩
  rw [← hX2] at H2
  have hl2 : X2.length = 18 := by rw [hX2, layF_len, hl1]; rfl
  clear c0 c1 c2 c3 c4 c5 c6 c7 H1 EW LW
  obtain ⟨c0, c1, c2, c3, c4, c5, c6, c7⟩ := env_cells E2.blk
  go_wp2_with fail
  refine H2.out.mono ?_; rintro e w3 ⟨rfl, L3, E3⟩
  have H3 := Lib.hid (lay_step 4 4 rfl (by decide) (by decide) [g] (by have := HM.out.g1; simp; omega) 1 rfl (by decide) 1 b w.heap.size hne X2 (by omega) w w3 hbase L3 E3 #[.int .i64 (g : Int)] rfl)
  obtain ⟨X3, hX3⟩ : ∃ X3, X3 = layF X2 4 [g] := ⟨_, rfl⟩
  rw [← hX3] at H3
  have hl3 : X3.length = 22 := by rw [hX3, layF_len, hl2]; rfl
  clear c0 c1 c2 c3 c4 c5 c6 c7 H2 E2 L2
  obtain ⟨c0, c1, c2, c3, c4, c5, c6, c7⟩ := env_cells E3.blk
  go_wp2_with fail
  refine H3.out.mono ?_; rintro e w4 ⟨rfl, L4, E4⟩
  have H4 := Lib.hid (lay_step 8 8 rfl (by decide) (by decide) [s] (by have := HM.out.s1; simp; omega) 1 rfl (by decide) 1 b w.heap.size hne X3 (by omega) w w4 hbase L4 E4 #[.int .i64 (s : Int)] rfl)
  obtain ⟨X4, hX4⟩ : ∃ X4, X4 = layF X3 8 [s] := ⟨_, rfl⟩
  rw [← hX4] at H4
  have hl4 : X4.length = 30 := by rw [hX4, layF_len, hl3]; rfl
  clear c0 c1 c2 c3 c4 c5 c6 c7 H3 E3 L3
  obtain ⟨c0, c1, c2, c3, c4, c5, c6, c7⟩ := env_cells E4.blk
  go_wp2_with fail
  refine H4.out.mono ?_; rintro e w5 ⟨rfl, L5, E5⟩
  obtain ⟨a5, cp5, B5, O5, hbel5⟩ := L5
  have hx4 : XF = X4 ++ bl := by rw [HXF.out, hX4, hX3, hX2, hX1]; rfl
  clear c0 c1 c2 c3 c4 c5 c6 c7 H4 E4 L4
  obtain ⟨c0, c1, c2, c3, c4, c5, c6, c7⟩ := env_cells E5.blk
  have o0 : w5.cell? ⟨b, 0, none⟩ = some (.slice a5 X4.length cp5) := B5.blk.cell 0 (by simp)
  have HXs := Lib.hid (show B8s XF = B8s X4 ++ B8s bl by rw [hx4, B8s_app])
  have HXl := Lib.hid (show 30 + bl.length = XF.length by rw [hx4, List.length_append, hl4])
  rw [hl4] at O5 o0
  have hbl9 := HM.out.n2
  have O5h := Lib.hid O5
  have Hb5 := Lib.hid (Hbl.out.mono hbel5)
  have Hbel := Lib.hid hbel5
  clear hx4 hX1 hX2 hX3 hX4 O5 hbel5 E5 B5
  go_wp2_with (at_builtin; go_must ((refine wpList_ownB2 (.tmp 36) (.tmp 38) rfl rfl rfl O5h.out (news := B8s bl) (m := bl.length) rfl Hb5.out (by simp) (bytes_one bl) (by omega) XF.length HXl.out (B8s XF) HXs.out ?_); intro a6 c6' w6 h6 hg6 hat6))
  go_ret2
  exact ⟨a6, c6', rfl, h6, below_own Hbel.out O5h.out.own hg6 O5h.out.le (Nat.le_refl _)⟩
end Go.Proofs.Ytkjckokejbnapaa
