/- The walk of the law ShaKeys. -/
import Derived.Test.YtmcbhffkaaaijaaDoorShaYp
import Derived.Test.YtmcbhffkaaaijaaDoorShaM
set_option linter.unusedSimpArgs false
set_option linter.unusedVariables false
namespace Go.Proofs.YtmcbhffkaaaijaaDoor
open Go.RowKit

/-- the checks of a root, one by one -/
theorem hash_at {w : World} {b : Nat} (h : Blk w b (hashC iv 0 none 0 0)) (i : Nat) (hi : i < 8) : w.cell? ⟨b, i, none⟩ = some (.int .u32 (uv (iv.l.getD i 0))) := by
  rw [h.cell i (by show i < 10; omega)]
  rcases lt8 hi with rfl | rfl | rfl | rfl | rfl | rfl | rfl | rfl <;> rfl

set_option maxRecDepth 100000 in
set_option maxHeartbeats 4000000 in
theorem shaKeys_any (hsh : ShownOK) (n : Nat) (hn : n < 256) (w : World) (hk : KeysAt w) :
    Calls Tryd.prog 7 #[.int .u8 (n : Int)] w (BoolOut w true) := by
  have Hsh := Lib.hid hsh
  have Hk := Lib.hid hk
  clear hsh hk
  obtain ⟨i, hi⟩ : ∃ i, i = n % 64 := ⟨_, rfl⟩
  have hn0 : (n : Int) % 64 = ((i : Nat) : Int) := by omega
  have h64 : i < 64 := by omega
  obtain ⟨h350, hro⟩ := roots3_at i h64
  have Hro := Lib.hid hro
  have H2 := Lib.hid (fun h : i < 8 => roots2_at i h)
  have H350 := Lib.hid h350
  clear hi hro h350
  go_enter Tryd.func7, Tryd.ntmps7
  go_wp2_with fail
  refine (Hsh.out _ Hk.out).mono ?_; rintro e w1 ⟨rfl, hb1⟩
  have Hk1 := Lib.hid (Hk.out.mono hb1)
  have Hb1 := Lib.hid hb1
  clear hb1
  have HN0 := Lib.hid hn0
  clear hn0
  go_upto_region 2 with (fail)
  go_cut [4] (fun v4 wx => v4 = .int .i64 (i : Int) ∧ w1 = wx)
  case first =>
    go_wp2_with fail
    go_meet
    exact ⟨by rw [HN0.out], rfl⟩
  case rest =>
    obtain ⟨rfl, rfl⟩ := hcut
    go_wp2_with fail
    go_loopw [5, 6] (fun v5 v6 wx => ∃ t : Nat, t ≤ i ∧ v6 = .int .i64 (t : Int) ∧ v5 = .int .i64 (pAt t : Int) ∧ w1 = wx) (fun _ v6 _ => i - (intOf v6).toNat)
    case atStart => exact ⟨0, Nat.zero_le _, rfl, rfl, rfl⟩
    case round =>
      obtain ⟨t, ht, rfl, rfl, rfl⟩ := hrel
      by_cases hlt : t < i
      · obtain ⟨g1, g2, g3, g4⟩ := gap_at t (by omega)
        generalize hB : pAt (t + 1) = B at g1 g2 g3 g4
        have HB := Lib.hid hB
        generalize pAt t = A at g1 g4
        have G4 := Lib.hid g4
        have G3 := Lib.hid g3
        clear g3 g4 hB
        go_wp2_with fail
        go_loopw [5] (fun v5 wx => ∃ q : Nat, A < q ∧ q ≤ B ∧ v5 = .int .i64 (q : Int) ∧ w1 = wx) (fun v5 _ => B - (intOf v5).toNat)
        case atStart => exact ⟨A + 1, by omega, by omega, by first | rfl | go_num, rfl⟩
        case round =>
          obtain ⟨q, hq1, hq2, rfl, rfl⟩ := hrel
          by_cases hq : q = B
          · subst hq
            have HP := Lib.hid (fun W => prime_any q (by omega) W)
            rw [G3.out] at HP
            go_wp2_with fail
            refine (HP.out _).mono ?_; rintro e w2 ⟨rfl, rfl⟩
            go_wp2_with fail
            exact ⟨⟨t + 1, by omega, by go_num, by rw [HB.out], by first | rfl | trivial⟩, by simp [intOf]; omega⟩
          · have HP := Lib.hid (fun W => prime_any q (by omega) W)
            rw [G4.out q hq1 (by omega)] at HP
            have hqB : q < B := by omega
            clear hq
            go_wp2_with fail
            refine (HP.out _).mono ?_; rintro e w2 ⟨rfl, rfl⟩
            go_wp2_with fail
            exact ⟨⟨q + 1, by omega, by omega, by go_num, by first | rfl | trivial⟩, by simp [intOf]; omega⟩
      · obtain rfl : t = i := by omega
        have HK := Lib.hid (fun W hW => key_in t h64 W hW)
        generalize hx : kAt t = x at HK
        have Hro := Lib.hid (show RootsAt (uv x) (pAt t) (c3At t) 3 by have := Hro.out; unfold key3 at this; rwa [hx] at this)
        generalize pAt t = p at Hro H2 H350
        generalize c3At t = c at Hro
        clear hx
        go_wp2_with fail
        refine (HK.out _ Hk1.out).mono ?_; rintro e w2 ⟨rfl, rfl⟩
        clear HK
        have huw := uv_w x
        go_wp2_with fail
        have Huw := Lib.hid huw
        clear huw
        go_loopw [7] (fun v7 wx => ∃ (j : Nat) (V : Int), j ≤ c ∧ V = uv x + 4294967296 * (j : Int) ∧ v7 = .int .i64 V ∧ Below w.heap.size w wx) (fun v7 _ => (uv x + 4294967296 * (c : Int) - intOf v7).toNat)
        case atStart => exact ⟨0, uv x, Nat.zero_le _, by simp, by rw [Huw.out], Hb1.out⟩
        case round =>
          obtain ⟨j, V, hj, hV, rfl, hb⟩ := hrel
          have HV := Lib.hid hV
          have Hb := Lib.hid hb
          clear hV hb
          have hc20 := Hro.out.le
          obtain ⟨V2, hV2⟩ : ∃ V2, V2 = uv x + 4294967296 * ((j : Int) + 1) := ⟨_, rfl⟩
          have hlw : wrap64 (V + 4294967296) = V2 := by rw [HV.out, hV2]; exact low_w x j (by omega)
          have HV2 := Lib.hid hV2
          have Hlw := Lib.hid hlw
          by_cases hlt : j < c
          · have HP := Lib.hid (fun W => root_any V2 p 3 (by decide) (by have := H350.out; omega) W)
            rw [show rootF V2 p 3 = true by rw [hV2]; exact Hro.out.on j hlt] at HP
            clear hV2
            go_wp2_with fail
            refine (HP.out _).mono ?_; rintro e w2 ⟨rfl, hb2⟩
            go_wp2_with fail
            exact ⟨⟨j + 1, V2, by omega, by rw [HV2.out]; simp, by rw [Hlw.out], bt Hb.out hb2⟩, by have h1 := HV2.out; have h2 := HV.out; simp only [intOf]; omega⟩
          · obtain rfl : j = c := by omega
            have HP := Lib.hid (fun W => root_any V2 p 3 (by decide) (by have := H350.out; omega) W)
            rw [show rootF V2 p 3 = false by rw [hV2]; exact Hro.out.off] at HP
            have HY := Lib.hid (fun W => root_any V p 3 (by decide) (by have := H350.out; omega) W)
            rw [show rootF V p 3 = true by rw [HV.out]; exact Hro.out.yes] at HY
            have hl1 : wrap64 (V + 1) = uv x + 4294967296 * (j : Int) + 1 := by rw [HV.out]; exact low_1 x j hc20
            have HN := Lib.hid (fun W => root_any (uv x + 4294967296 * (j : Int) + 1) p 3 (by decide) (by have := H350.out; omega) W)
            rw [Hro.out.no] at HN
            clear hV2 hlt hc20
            go_wp2_with fail
            refine (HP.out _).mono ?_; rintro e w2 ⟨rfl, hb2⟩
            go_wp2_with fail
            refine (HY.out _).mono ?_; rintro e w3 ⟨rfl, hb3⟩
            have hd0 : (!true) = false := rfl
            go_wp2_with fail
            refine (HN.out _).mono ?_; rintro e w4 ⟨rfl, hb4⟩
            have Hb4 := Lib.hid (bt (bt (bt Hb.out hb2) hb3) hb4)
            clear hb2 hb3 hb4 hlw hl1 HP HY HN
            by_cases h7 : 7 < t
            · have hd : (7 : Int) < (t : Int) := by omega
              go_wp2_with fail
              go_ret
              exact ⟨rfl, Hb4.out⟩
            · have hd : ¬ (7 : Int) < (t : Int) := by omega
              have Hro2 := Lib.hid (H2.out (by omega))
              clear Hro
              go_wp2_with fail
              refine (new_any _).mono ?_; rintro e w5 ⟨rfl, hb5⟩
              go_upto_region 18 with (fail)
              generalize hW : World.alloc w5 _ = W
              have hBl : Blk W w5.heap.size (hashC iv 0 none 0 0) := by rw [← hW]; exact Blk.new w5 (hashC iv 0 none 0 0) 36
              have hbW : Below w.heap.size w W := by rw [← hW]; exact bt (bt Hb4.out hb5) (ba w5 _)
              have c0 := hash_at hBl t (by omega)
              have HbW := Lib.hid hbW
              have hr8 := Hro2.out
              unfold key2 at hr8
              have Hro2 := Lib.hid hr8
              clear hr8 hW hbW hBl hb5 Hb4
              generalize iv.l.getD t 0 = y at c0 Hro2
              generalize c2At t = c at Hro2
              have huw := uv_w y
              have Huw := Lib.hid huw
              have ht8 : (t : Int) < 8 := by omega
              go_wp2_with fail
              clear huw c0
              go_loopw [7] (fun v7 wx => ∃ (j : Nat) (V : Int), j ≤ c ∧ V = uv y + 4294967296 * (j : Int) ∧ v7 = .int .i64 V ∧ Below w.heap.size w wx) (fun v7 _ => (uv y + 4294967296 * (c : Int) - intOf v7).toNat)
              case atStart => exact ⟨0, uv y, Nat.zero_le _, by simp, by rw [Huw.out], HbW.out⟩
              case round =>
                clear HV Hb HV2 Hlw hj
                obtain ⟨j, V, hj, hV, rfl, hb⟩ := hrel
                have HV := Lib.hid hV
                have Hb := Lib.hid hb
                clear hV hb
                have hc20 := Hro2.out.le
                obtain ⟨V2, hV2⟩ : ∃ V2, V2 = uv y + 4294967296 * ((j : Int) + 1) := ⟨_, rfl⟩
                have hlw : wrap64 (V + 4294967296) = V2 := by rw [HV.out, hV2]; exact low_w y j (by omega)
                have HV2 := Lib.hid hV2
                have Hlw := Lib.hid hlw
                by_cases hlt : j < c
                · have HP := Lib.hid (fun W => root_any V2 p 2 (by decide) (by have := H350.out; omega) W)
                  rw [show rootF V2 p 2 = true by rw [hV2]; exact Hro2.out.on j hlt] at HP
                  clear hV2
                  go_wp2_with fail
                  refine (HP.out _).mono ?_; rintro e w2 ⟨rfl, hb2⟩
                  go_wp2_with fail
                  exact ⟨⟨j + 1, V2, by omega, by rw [HV2.out]; simp, by rw [Hlw.out], bt Hb.out hb2⟩, by have h1 := HV2.out; have h2 := HV.out; simp only [intOf]; omega⟩
                · obtain rfl : j = c := by omega
                  have HP := Lib.hid (fun W => root_any V2 p 2 (by decide) (by have := H350.out; omega) W)
                  rw [show rootF V2 p 2 = false by rw [hV2]; exact Hro2.out.off] at HP
                  have HY := Lib.hid (fun W => root_any V p 2 (by decide) (by have := H350.out; omega) W)
                  rw [show rootF V p 2 = true by rw [HV.out]; exact Hro2.out.yes] at HY
                  have hl1 : wrap64 (V + 1) = uv y + 4294967296 * (j : Int) + 1 := by rw [HV.out]; exact low_1 y j hc20
                  have HN := Lib.hid (fun W => root_any (uv y + 4294967296 * (j : Int) + 1) p 2 (by decide) (by have := H350.out; omega) W)
                  rw [Hro2.out.no] at HN
                  clear hV2 hlt hc20
                  go_wp2_with fail
                  refine (HP.out _).mono ?_; rintro e w2 ⟨rfl, hb2⟩
                  go_wp2_with fail
                  refine (HY.out _).mono ?_; rintro e w3 ⟨rfl, hb3⟩
                  go_wp2_with fail
                  refine (HN.out _).mono ?_; rintro e w4 ⟨rfl, hb4⟩
                  go_wp2_with fail
                  go_ret
                  exact ⟨rfl, bt (bt (bt Hb.out hb2) hb3) hb4⟩
theorem shaKeys_in (hsh : ShownOK) (w : World) (hk : KeysAt w) (n : Int) (hn : (Lit.int .u8 n).wf = true) :
    Calls Tryd.prog 7 #[.int .u8 n] w (BoolOut w true) := by
  simp [Lit.wf, IntKind.min, IntKind.max, IntKind.bits, IntKind.signed] at hn
  obtain ⟨m, rfl⟩ : ∃ m : Nat, n = m := ⟨n.toNat, by omega⟩
  exact shaKeys_any hsh m (by omega) w hk
end Go.Proofs.YtmcbhffkaaaijaaDoor
