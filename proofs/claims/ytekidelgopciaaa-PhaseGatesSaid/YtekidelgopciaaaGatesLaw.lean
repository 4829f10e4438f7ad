/- The walk of PhaseGates. -/
import Derived.Test.YtekidelgopciaaaNamesLaw
set_option linter.unusedSimpArgs false
set_option linter.unusedVariables false
namespace Go.Proofs.Ytekidelgopciaaa
open Go.RowKit

/-- what the loop keeps: the phase is one, and a gate is open only behind an answer or a first message -/
def GInv (p : Int) (c : Bool) : Prop := 0 ≤ p ∧ p ≤ 8 ∧ (gateF p = true → c = true)

set_option maxRecDepth 100000 in
set_option maxHeartbeats 4000000 in
theorem gates14_walk (a : Option Addr) (cap : Nat) (l : List Int) (w : World) (hl : InInts .i64 w a cap l) :
    Calls Try.prog 5 #[.slice a l.length cap] w fun e w' => e = .returned (.bool true) ∧ Below w.heap.size w w' := by
  obtain ⟨hlc, hcm, hat, -⟩ := hl
  have Hat := Lib.hid hat
  clear hat hlc hcm
  by_cases h60 : 60 < l.length
  · go_enter Try.func5, Try.ntmps5
    go_wp2_with fail
    refine (shown14_any _).mono ?_; rintro e w1 ⟨rfl, hb1⟩
    go_wp2_with fail
    go_ret
    exact ⟨rfl, hb1⟩
  · go_enter Try.func5, Try.ntmps5
    go_wp2_with fail
    refine (shown14_any _).mono ?_; rintro e w1 ⟨rfl, hb1⟩
    go_wp2_with fail
    go_loopw [4, 5, 6] (fun x c i wr => ∃ (k : Nat) (p : Int) (b : Bool), k ≤ l.length ∧ i = .int .i64 k ∧ x = .int .i64 p ∧ c = .bool b ∧ GInv p b ∧ Below w.heap.size w wr) (fun _ _ i _ => l.length - (intOf i).toNat)
    case atStart => exact ⟨0, 0, false, Nat.zero_le _, rfl, rfl, rfl, ⟨by omega, by omega, by decide⟩, hb1⟩
    case round =>
      obtain ⟨k, p, c, hk, rfl, rfl, rfl, hinv, hb⟩ := hrel
      by_cases hlt : k < l.length
      · obtain ⟨b, off, rfl, hbl, hc⟩ := IntsAt.cell (At.mono Hat.out hb) (by omega)
        have hk0 := hc k hlt
        clear hc
        generalize l.getD k 0 = v at hk0
        obtain ⟨hp0, hp8, hpg⟩ := hinv
        rcases hX : nextF p v with ⟨q, is⟩
        cases is with
        | false =>
          have := next_false p v (by rw [hX])
          obtain rfl : p = q := by rw [this] at hX; cases hX; rfl
          clear this
          have Hpg := Lib.hid hpg
          clear hpg
          rcases hg : gateF p with _ | _
          case' true =>
            have hgl := gate_linked p hg
            obtain rfl : c = true := Hpg.out hg
          all_goals
            go_wp2_with (first
              | (go_at_call 10; refine (next_any _ _ _).mono ?_; rintro e w2 ⟨rfl, hb2⟩; have hb2' := bcell hb2; have hbs := hb2.size)
              | (go_at_call 12; refine (gate_any _ _).mono ?_; rintro e w' ⟨rfl, rfl⟩)
              | (go_at_call 14; refine (linked_any _ _).mono ?_; rintro e w' ⟨rfl, rfl⟩))
            all_goals
              go_roundw
              case rel => exact ⟨k + 1, p, _, by omega, by go_num, rfl, rfl, ⟨hp0, hp8, by first | exact Hpg.out | exact fun _ => rfl⟩, hb.trans (hb2.mono hb.size)⟩
              case measure => simp [intOf]; omega
        | true =>
          obtain ⟨hq0, hq8, -, -, -, -, -⟩ := yes_facts hX
          have Hpg := Lib.hid hpg
          clear hpg
          rcases hg : gateF q with _ | _
          · have HG := Lib.hid hg
            go_wp2_with (first
              | (go_at_call 10; refine (next_any _ _ _).mono ?_; rintro e w2 ⟨rfl, hb2⟩; have hb2' := bcell hb2; have hbs := hb2.size)
              | (go_at_call 12; refine (gate_any _ _).mono ?_; rintro e w' ⟨rfl, rfl⟩)
              | (go_at_call 14; refine (linked_any _ _).mono ?_; rintro e w' ⟨rfl, rfl⟩))
            all_goals
              go_roundw
              case rel => exact ⟨k + 1, q, _, by omega, by go_num, rfl, rfl, ⟨hq0, hq8, fun h => absurd (HG.out.symm.trans h) (by decide)⟩, hb.trans (hb2.mono hb.size)⟩
              case measure => simp [intOf]; omega

          · obtain ⟨hgl, hv⟩ := yes_gate hX hg
            by_cases h1 : v = 1
            · subst h1
              clear hv
              go_wp2_with (first
                | (go_at_call 10; refine (next_any _ _ _).mono ?_; rintro e w2 ⟨rfl, hb2⟩; have hb2' := bcell hb2; have hbs := hb2.size)
                | (go_at_call 12; refine (gate_any _ _).mono ?_; rintro e w' ⟨rfl, rfl⟩)
                | (go_at_call 14; refine (linked_any _ _).mono ?_; rintro e w' ⟨rfl, rfl⟩))
              all_goals
                go_roundw
                case rel => exact ⟨k + 1, q, _, by omega, by go_num, rfl, rfl, ⟨hq0, hq8, fun _ => rfl⟩, hb.trans (hb2.mono hb.size)⟩
                case measure => simp [intOf]; omega

            · by_cases h3 : v = 3
              · subst h3
                clear hv
                go_wp2_with (first
                  | (go_at_call 10; refine (next_any _ _ _).mono ?_; rintro e w2 ⟨rfl, hb2⟩; have hb2' := bcell hb2; have hbs := hb2.size)
                  | (go_at_call 12; refine (gate_any _ _).mono ?_; rintro e w' ⟨rfl, rfl⟩)
                  | (go_at_call 14; refine (linked_any _ _).mono ?_; rintro e w' ⟨rfl, rfl⟩))
                all_goals
                  go_roundw
                  case rel => exact ⟨k + 1, q, _, by omega, by go_num, rfl, rfl, ⟨hq0, hq8, fun _ => rfl⟩, hb.trans (hb2.mono hb.size)⟩
                  case measure => simp [intOf]; omega

              · have hv' : gateF p = true ∧ v ≠ 0 ∧ v ≠ 2 ∧ v ≠ 10 ∧ v ≠ 5 ∧ v ≠ 4 := by
                  rcases hv with hv | hv | hv
                  · exact (h1 hv).elim
                  · exact (h3 hv).elim
                  · exact hv
                obtain ⟨hpg, n0, n2, n10, n5, n4⟩ := hv'
                obtain rfl : c = true := Hpg.out hpg
                have b1 : (v == 1) = false := by simpa using h1
                have b3 : (v == 3) = false := by simpa using h3
                have b0 : (v == 0) = false := by simpa using n0
                have b2 : (v == 2) = false := by simpa using n2
                have b10 : (v == 10) = false := by simpa using n10
                have b5 : (v == 5) = false := by simpa using n5
                have b4 : (v == 4) = false := by simpa using n4
                clear hv h1 h3 n0 n2 n10 n5 n4
                go_wp2_with (first
                  | (go_at_call 10; refine (next_any _ _ _).mono ?_; rintro e w2 ⟨rfl, hb2⟩; have hb2' := bcell hb2; have hbs := hb2.size)
                  | (go_at_call 12; refine (gate_any _ _).mono ?_; rintro e w' ⟨rfl, rfl⟩)
                  | (go_at_call 14; refine (linked_any _ _).mono ?_; rintro e w' ⟨rfl, rfl⟩))
                all_goals
                  go_roundw
                  case rel => exact ⟨k + 1, q, _, by omega, by go_num, rfl, rfl, ⟨hq0, hq8, fun _ => rfl⟩, hb.trans (hb2.mono hb.size)⟩
                  case measure => simp [intOf]; omega

      · obtain rfl : k = l.length := by omega
        go_wp2_with fail
        go_ret
        exact ⟨rfl, hb⟩
end Go.Proofs.Ytekidelgopciaaa
