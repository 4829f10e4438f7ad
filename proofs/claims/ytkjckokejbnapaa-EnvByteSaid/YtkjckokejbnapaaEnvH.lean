/- Envelopes: the closure that lays numbers. -/
import Derived.Test.YtkjckokejbnapaaEnvG
set_option linter.unusedSimpArgs false
set_option linter.unusedVariables false
namespace Go.Proofs.Ytkjckokejbnapaa
open Go.RowKit

theorem OwnB.cellset {T : TypeId} {B b j : Nat} {w : World} {v : Value} {n : Nat} {xs cs : List Value} (h : OwnB B w v n xs) (hb : BlkT T w b cs) (hT : T ≠ 5) (u : Value) : OwnB B (w.setCell ⟨b, j, none⟩ u) v n xs := by
  obtain ⟨⟨h1, h2⟩, h3⟩ := h
  refine ⟨⟨h1, ?_⟩, by simpa using h3⟩
  rcases h2 with h2 | ⟨g', cap, cur, hv, hg', hh, r⟩
  · exact .inl h2
  · refine .inr ⟨g', cap, cur, hv, hg', ?_, r⟩
    rw [Below.heap_setCell _ _ _ _ ?_]
    · exact hh
    · intro he
      have h9 := hh
      rw [show g' = b from by first | exact he | exact he.symm, show w.heap[b]? = _ from hb] at h9
      injection h9 with h9; injection h9 with _ k2 _; exact hT k2
/-- the bytes laid so far, in a variable's block -/
def LayAt (W0 : World) (b : Nat) (w : World) (X : List UInt8) : Prop :=
  ∃ a c, BlkT 23 w b [.slice a X.length c] ∧ OwnB W0.heap.size w (.slice a X.length c) X.length (B8s X) ∧ Below W0.heap.size W0 w
theorem LayAt.up {W0 w w' : World} {b : Nat} {X : List UInt8} (h : LayAt W0 b w X) (hb : Below w.heap.size w w') : LayAt W0 b w' X := by
  obtain ⟨a, c, h1, h2, h3⟩ := h
  exact ⟨a, c, h1.up hb, h2.up hb, bt h3 hb⟩
def layF (X : List UInt8) (z : Nat) (ns : List Nat) : List UInt8 := ns.foldl (fun Y n => Y ++ bigF n z) X
theorem layF_snoc (X : List UInt8) (z : Nat) (ns : List Nat) (k : Nat) (h : k < ns.length) : layF X z (ns.take (k + 1)) = layF X z (ns.take k) ++ bigF (ns.getD k 0) z := by
  rw [take_snoc ns k h 0]; simp [layF, List.foldl_append]
theorem layF_len (X : List UInt8) (z : Nat) (ns : List Nat) : (layF X z ns).length = X.length + z * ns.length := by
  induction ns generalizing X with
  | nil => simp [layF]
  | cons n ns ih => simp only [layF, List.foldl_cons] at ih ⊢; rw [ih, List.length_append, bigF_len, List.length_cons, Nat.mul_add]; omega
abbrev natV (n : Nat) : Value := .int .i64 (n : Int)

set_option maxRecDepth 100000 in
set_option maxHeartbeats 1000000 in
theorem lay_any (z : Nat) (hz : 1 ≤ z) (hz8 : z ≤ 8) (ns : List Nat) (hns : ∀ n ∈ ns, n < 256 ^ z ∧ n ≤ 9223372036854775807) (hl : ns.length ≤ 2) (gb c b : Nat) (hgb : gb ≠ b) (X : List UInt8) (hX : X.length ≤ 1000) (W0 w : World) (hb0 : W0.heap.size ≤ b) (hX0 : LayAt W0 b w X) (hap : BlkT 3 w gb (ns.map natV)) :
    Calls Try.prog 25 #[.int .i64 z, .slice (some ⟨gb, 0, none⟩) ns.length c, .pointer (some ⟨b, 0, none⟩)] w fun e w' => e = .returned (.tuple #[]) ∧ LayAt W0 b w' (layF X z ns) ∧ (∀ g T cs, g ≠ b → g < w.heap.size → T ≠ 5 → BlkT T w g cs → BlkT T w' g cs) := by
  have HX0 := Lib.hid hX0
  have HA := Lib.hid hap
  have Hns := Lib.hid hns
  clear hX0 hap hns
  go_enter Try.func25, Try.ntmps25
  go_wp2_with fail
  go_loopw [11] (fun v11 wx => ∃ k : Nat, k ≤ ns.length ∧ v11 = .int .i64 k ∧ LayAt W0 b wx (layF X z (ns.take k)) ∧ (∀ g T cs, g ≠ b → g < w.heap.size → T ≠ 5 → BlkT T w g cs → BlkT T wx g cs)) (fun v11 _ => ns.length - (intOf v11).toNat)
  case atStart => exact ⟨0, Nat.zero_le _, rfl, HX0.out, fun _ _ _ _ _ _ h => h⟩
  case round =>
    clear HX0
    obtain ⟨k, hk, rfl, hXk, hkeep⟩ := hrel
    have HK := Lib.hid hkeep
    clear hkeep
    by_cases hlt : k < ns.length
    · obtain ⟨a1, c1, hB, hO, hbel⟩ := hXk
      have hn := Hns.out (ns.getD k 0) (by rw [show ns.getD k 0 = ns[k] by simp [List.getD, hlt]]; exact List.getElem_mem hlt)
      have hc : wr.cell? ⟨gb, k, none⟩ = some (natV (ns.getD k 0)) := by
        rw [(HK.out gb 3 _ hgb HA.out.blk.lt (by decide) HA.out).blk.cell k (by simpa using hlt)]
        simp [List.getD, hlt]
      obtain ⟨YK, hYK⟩ : ∃ YK, YK = layF X z (ns.take k) := ⟨_, rfl⟩
      obtain ⟨YN, hYN⟩ : ∃ YN, YN = layF X z (ns.take (k + 1)) := ⟨_, rfl⟩
      have hsn := layF_snoc X z ns k hlt
      rw [← hYK, ← hYN] at hsn
      rw [← hYK] at hB hO
      have hYl : YK.length ≤ 1008 := by rw [hYK, layF_len, List.length_take]; have : z * min k ns.length ≤ 8 * 1 := Nat.mul_le_mul hz8 (by omega); omega
      generalize ns.getD k 0 = n at hn hc hsn
      have HSn := Lib.hid (show B8s YN = B8s YK ++ B8s (bigF n z) by rw [hsn, B8s_app])
      have HSl := Lib.hid (show YK.length + z = YN.length by rw [hsn, List.length_append, bigF_len])
      have HYl := Lib.hid hYl
      have HBig := Lib.hid (fun W => big_any n z hz hz8 hn.1 hn.2 W)
      have HFl := Lib.hid (bigF_len n z)
      obtain ⟨F, hF⟩ : ∃ F, F = bigF n z := ⟨_, rfl⟩
      rw [← hF] at HSn HFl
      have HF := Lib.hid hF
      clear hF
      have HB := Lib.hid hB
      have HO := Lib.hid hO
      have Hbel := Lib.hid hbel
      have HYN := Lib.hid hYN
      clear hsn hYK hYN hB hO hbel hYl hn
      go_wp2_with fail
      refine (HBig.out _).mono ?_; rintro e w2 ⟨rfl, hB2, hb2⟩
      have H2 := Lib.hid (show At w2 (some ⟨wr.heap.size, 0, none⟩) (B8s F) from by rw [HF.out]; exact hB2.blk.at)
      have HB2 := Lib.hid (HB.out.up hb2)
      have HO2 := Lib.hid (HO.out.up hb2)
      have Hbel2 := Lib.hid (bt Hbel.out hb2)
      have k0 := HB2.out.blk.cell 0 (by simp)
      have kf := HB2.out.blk.frozen
      have Hb2 := Lib.hid hb2
      have hYl := HYl.out
      clear hB2 hb2 HBig
      go_wp2_with (at_builtin; go_must ((refine wpList_ownB2 (.tmp 21) (.tmp 22) rfl rfl rfl HO2.out (news := B8s F) (m := z) rfl H2.out (by rw [List.length_map, HFl.out]) (bytes_one F) (by omega) YN.length HSl.out (B8s YN) HSn.out ?_); intro a3 c3 w3 h3 hg3 hat3; have HB3 := Lib.hid (HB2.out.grownB (by decide) HO2.out hg3); have k0 := HB3.out.blk.cell 0 (by simp); have kf := HB3.out.blk.frozen))
      have hb3 := below_own Hbel2.out HO2.out.own hg3 HO2.out.le (Nat.le_refl _)
      refine ⟨⟨k + 1, by omega, by go_num, ?_, ?_⟩, by first | (simp [intOf]; done) | (simp [intOf]; omega)⟩
      · rw [← HYN.out]
        exact ⟨a3, c3, HB3.out.set 0 _, h3.cellset HB3.out (by decide) _, hb3.setCell hb0 _⟩
      · intro g T cs hgn hgl hT hG
        exact (((HK.out g T cs hgn hgl hT hG).up Hb2.out).grownB hT HO2.out hg3).other hgn _
    · obtain rfl : k = ns.length := by omega
      rw [List.take_length] at hXk
      have HX := Lib.hid hXk
      clear hXk
      go_wp2_with fail
      go_end0
      exact ⟨rfl, HX.out, HK.out⟩
end Go.Proofs.Ytkjckokejbnapaa
