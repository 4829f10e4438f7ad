/- Hubs: is a connection of two hubs the same? where it is. -/
import Derived.Test.YtcccgjpmfbmplaaHuI
set_option linter.unusedSimpArgs false
set_option linter.unusedVariables false
namespace Go.Proofs.Ytcccgjpmfbmplaa
open Go.RowKit

theorem hubLife {w : World} {b : Nat} {h : Hv} (hb : Blk w b h.L) (c : Nat) (hc : c < 4) : w.cell? ⟨b, 16 + c, none⟩ = some (.int .i64 (h.l c)) := by
  obtain ⟨l0, l1, l2, l3, -⟩ := hub_l hb
  rcases (show c = 0 ∨ c = 1 ∨ c = 2 ∨ c = 3 by omega) with rfl | rfl | rfl | rfl <;> assumption
theorem hubFeed {w : World} {b : Nat} {h : Hv} (hb : Blk w b h.L) (c : Nat) (hc : c < 4) : w.cell? ⟨b, 4 + c * 3, none⟩ = some (.slice (h.f c).a (h.f c).len (h.f c).cap) ∧ w.cell? ⟨b, 4 + c * 3 + 1, none⟩ = some (.int .i64 (h.f c).skip) ∧ w.cell? ⟨b, 4 + c * 3 + 2, none⟩ = some (.int .i64 (h.f c).bad) := by
  rcases (show c = 0 ∨ c = 1 ∨ c = 2 ∨ c = 3 by omega) with rfl | rfl | rfl | rfl
  · exact feed0 hb
  · exact feed1 hb
  · exact feed2 hb
  · exact feed3 hb
set_option maxRecDepth 100000 in
set_option maxHeartbeats 4000000 in
theorem left_yes (h g : Hv) (s t : Nat → Fd) (K : Nat) (hK : K < 4) (hu : g.u K = h.u K) (hl : g.l K = h.l K) (hf : sameFd (s K) (t K) = true) (hn : g.nx = h.nx) (w : World) (hh : HbAt w h s) (hg : HbAt w g t) :
    Calls Try.prog 25 #[h.v, g.v, .int .i64 K] w (BoolOut w true) := by
  have HS := Lib.hid (fun W (hb : Below w.heap.size w W) => (show Calls Try.prog 27 #[(h.f K).v, (g.f K).v] W (BoolOut W true) from (refSame_any (h.f K) (g.f K) (s K) (t K) W ((hh K hK).mono hb) ((hg K hK).mono hb)).mono fun e w' ⟨p, q⟩ => ⟨by rw [p]; exact congrArg (fun x => Ending.returned (.bool x)) hf, q⟩))
  have Hu := Lib.hid hu
  have Hl := Lib.hid hl
  have Hn := Lib.hid hn
  have hK0 : (0 : Int) ≤ (K : Int) := by omega
  have hK1 : (K : Int) < 4 := by omega
  have hK2 : (K : Int) ≤ 4 := by omega
  clear hu hl hn hf hh hg
  go_enter Try.func25, Try.ntmps25
  go_upto_region 1 with (fail)
  generalize hW : World.alloc (World.alloc w _) _ = W
  obtain ⟨hB1, hB2, hB3⟩ : BlkT 29 W w.heap.size h.L ∧ BlkT 29 W (w.heap.size + 1) g.L ∧ Below w.heap.size w W := by rw [← hW]; exact hub_two w h.L g.L
  have B3 := Lib.hid hB1
  have B4 := Lib.hid hB2
  have G := Lib.hid hB3
  clear hW hB1 hB2 hB3
  generalize w.heap.size + 1 = b4 at B4 ⊢
  obtain ⟨b3, hb3⟩ : ∃ b, b = w.heap.size := ⟨_, rfl⟩
  rw [← hb3] at B3
  simp only [← hb3]
  have Hb3 := Lib.hid hb3
  clear hb3
  have HQ := Lib.hid (show ∀ w' : World, BlkT 29 w' b3 h.L → BlkT 29 w' b4 g.L → (w'.cell? ⟨b3, K, none⟩ = some (.bool (h.u K)) ∧ w'.cell? ⟨b4, K, none⟩ = some (.bool (h.u K)) ∧ w'.cell? ⟨b3, 16 + K, none⟩ = some (.int .i64 (h.l K)) ∧ w'.cell? ⟨b4, 16 + K, none⟩ = some (.int .i64 (h.l K)) ∧ w'.cell? ⟨b3, 20, none⟩ = some (.int .i64 h.nx) ∧ w'.cell? ⟨b4, 20, none⟩ = some (.int .i64 h.nx) ∧
      w'.cell? ⟨b3, 4 + K * 3, none⟩ = some (.slice (h.f K).a (h.f K).len (h.f K).cap) ∧ w'.cell? ⟨b3, 4 + K * 3 + 1, none⟩ = some (.int .i64 (h.f K).skip) ∧ w'.cell? ⟨b3, 4 + K * 3 + 2, none⟩ = some (.int .i64 (h.f K).bad) ∧
      w'.cell? ⟨b4, 4 + K * 3, none⟩ = some (.slice (g.f K).a (g.f K).len (g.f K).cap) ∧ w'.cell? ⟨b4, 4 + K * 3 + 1, none⟩ = some (.int .i64 (g.f K).skip) ∧ w'.cell? ⟨b4, 4 + K * 3 + 2, none⟩ = some (.int .i64 (g.f K).bad)) from fun w' h1 h2 => by
    have x1 := hub_up h2.blk K hK
    have x2 := hubLife h2.blk K hK
    have x3 := (hub_l h2.blk).2.2.2.2
    rw [Hu.out] at x1
    rw [Hl.out] at x2
    rw [Hn.out] at x3
    obtain ⟨f1, f2, f3⟩ := hubFeed h1.blk K hK
    exact ⟨hub_up h1.blk K hK, x1, hubLife h1.blk K hK, x2, (hub_l h1.blk).2.2.2.2, x3, f1, f2, f3, hubFeed h2.blk K hK⟩)
  have bv0 := btd G.out
  have Q0 := HQ.out _ B3.out B4.out
  try dsimp only [List.append]
  go_region_held3 (fun w' => w'.cell? ⟨b3, K, none⟩ = some (.bool (h.u K)) ∧ w'.cell? ⟨b4, K, none⟩ = some (.bool (h.u K)) ∧ w'.cell? ⟨b3, 16 + K, none⟩ = some (.int .i64 (h.l K)) ∧ w'.cell? ⟨b4, 16 + K, none⟩ = some (.int .i64 (h.l K)) ∧ w'.cell? ⟨b3, 20, none⟩ = some (.int .i64 h.nx) ∧ w'.cell? ⟨b4, 20, none⟩ = some (.int .i64 h.nx) ∧
      w'.cell? ⟨b3, 4 + K * 3, none⟩ = some (.slice (h.f K).a (h.f K).len (h.f K).cap) ∧ w'.cell? ⟨b3, 4 + K * 3 + 1, none⟩ = some (.int .i64 (h.f K).skip) ∧ w'.cell? ⟨b3, 4 + K * 3 + 2, none⟩ = some (.int .i64 (h.f K).bad) ∧
      w'.cell? ⟨b4, 4 + K * 3, none⟩ = some (.slice (g.f K).a (g.f K).len (g.f K).cap) ∧ w'.cell? ⟨b4, 4 + K * 3 + 1, none⟩ = some (.int .i64 (g.f K).skip) ∧ w'.cell? ⟨b4, 4 + K * 3 + 2, none⟩ = some (.int .i64 (g.f K).bad)) (first | assumption) (first
    | (go_at_call 27; (with_reducible refine Calls.mono (HS.out _ bv0) ?_); rintro e v1 ⟨rfl, hv1⟩; have bv1 := bt bv0 hv1; have Qv1 := HQ.out v1 ((B3.out.up (bd _)).up hv1) ((B4.out.up (bd _)).up hv1)))
  all_goals
    go_split_ands
    go_wp2_with fail
    go_ret
    exact ⟨by simp, bv1⟩
end Go.Proofs.Ytcccgjpmfbmplaa
