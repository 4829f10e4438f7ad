/- The law RingOne, from what came in on. -/
import Derived.Test.YtelndpphbpandaaRingP
import Derived.Test.YtelndpphbpandaaRingZ
set_option linter.unusedSimpArgs false
set_option linter.unusedVariables false
namespace Go.Proofs.Ytelndpphbpandaa
open Go.RowKit

theorem ringOne_any (r : Rg) (no : Int) (fa fb : UInt8) (kc ko kp : List UInt8) (w : World) (hr : RgAt w r kc ko kp) :
    Calls Try.prog 6 #[.agg (oneL r no fa fb).toArray] w (BoolOut w true) := by
  rcases hF : fewB r with _ | _
  · exact ringOne_none shown11 r no fa fb w (.inl hF)
  · rcases hR : rightB r.c r.o r.p r.l r.t with _ | _
    · exact ringOne_none shown11 r no fa fb w (.inr ⟨hF, hR⟩)
    · by_cases hre : 1 ≤ no ∧ no ≤ 2147483647
      · have hreal : ∀ b : Option Addr, realB ⟨no, b, 32, 32⟩ = true := fun b => by simp [realB]; exact hre
        rcases hO : offB r no with _ | _
        · have hO' := hO
          simp only [offB, Bool.or_eq_false_iff, decide_eq_false_iff_not, Int.not_le, Int.not_lt] at hO'
          obtain ⟨hE, hcn, hpn⟩ := hO'
          have hfb := next_facts hR hE
          obtain ⟨M, hM⟩ : ∃ M : Int, M = if r.t < no then no else r.t := ⟨_, rfl⟩
          have hMn : no ≤ M := by rw [hM]; split <;> omega
          have hX : ∀ b : Option Addr, offerF r ⟨no, b, 32, 32⟩ = (⟨r.c, r.o, ⟨no, b, 32, 32⟩, r.l, M⟩, 0) := fun b => by
            simp only [offerF, hreal b, hO, cond_true, cond_false, hM]
          have hEX : ∀ k : Option Addr, emptyB r.c r.o ⟨no, k, 32, 32⟩ r.l M = false := fun k => by
            have : noneB ⟨no, k, 32, 32⟩ = false := by simp [noneB]
            simp [emptyB, this]
          have hXX : ∀ k b : Option Addr, offerF ⟨r.c, r.o, ⟨no, k, 32, 32⟩, r.l, M⟩ ⟨no, b, 32, 32⟩ = (⟨r.c, r.o, ⟨no, b, 32, 32⟩, r.l, M⟩, 0) := fun k b => by
            have h1 : offB ⟨r.c, r.o, ⟨no, k, 32, 32⟩, r.l, M⟩ no = false := by
              simp only [offB, hEX k, Bool.false_or, Bool.or_eq_false_iff, decide_eq_false_iff_not]
              exact ⟨by omega, by omega⟩
            simp only [offerF, hreal b, h1, cond_true, cond_false, if_neg (show ¬ M < no by omega)]
          obtain ⟨D, hD⟩ : ∃ D : Int, D = if 1 ≤ no - 1 then 9 else 1 := ⟨_, rfl⟩
          have hD0 : D ≠ 0 := by rw [hD]; split <;> decide
          have hXN : ∀ k b : Option Addr, offerF ⟨r.c, r.o, ⟨no, k, 32, 32⟩, r.l, M⟩ ⟨no - 1, b, 32, 32⟩ = (⟨r.c, r.o, ⟨no, k, 32, 32⟩, r.l, M⟩, D) := fun k b => by
            by_cases h1 : 1 ≤ no - 1
            · have h2 : realB ⟨no - 1, b, 32, 32⟩ = true := by simp [realB]; omega
              have h3 : offB ⟨r.c, r.o, ⟨no, k, 32, 32⟩, r.l, M⟩ (no - 1) = true := by
                have : decide (no - 1 < no) = true := by simp; omega
                simp [offB, this]
              simp only [offerF, h2, h3, cond_true, cond_false, hD, if_pos h1]
            · have h2 : realB ⟨no - 1, b, 32, 32⟩ = false := by simp [realB]; intro h; omega
              simp only [offerF, h2, cond_false, hD, if_neg h1]
          have hF2 : ∀ k : Option Addr, findF ⟨r.c, r.o, ⟨no, k, 32, 32⟩, r.l, M⟩ no = (⟨no, k, 32, 32⟩, true) := fun k => by
            have h0 : decide (0 < no) = true := by simp; omega
            have h1 : hitB no r.c = false := by simp [hitB]; intro _; omega
            have h2 : hitB no r.o = false := by simp [hitB]; intro _; omega
            have h3 : hitB no ⟨no, k, 32, 32⟩ = true := by simp [hitB]; omega
            simp [findF, h1, h2, h3]
          exact ringOne_yes shown11 r no M D fa fb kc ko kp w hr hF hR hD0 hre.1 hre.2 hcn
            (fun b W => by have := offer_any r ⟨no, b, 32, 32⟩ W; rwa [hX b] at this)
            (fun k b W => by have := offer_any ⟨r.c, r.o, ⟨no, k, 32, 32⟩, r.l, M⟩ ⟨no, b, 32, 32⟩ W; rwa [hXX k b] at this)
            (fun k b W => by have := offer_any ⟨r.c, r.o, ⟨no, k, 32, 32⟩, r.l, M⟩ ⟨no - 1, b, 32, 32⟩ W; rwa [hXN k b] at this)
            (fun k W => by have := find_any ⟨r.c, r.o, ⟨no, k, 32, 32⟩, r.l, M⟩ no W; rwa [hF2 k] at this)
        · refine ringOne_no shown11 r no 9 fa fb kc ko kp w hr hF hR (by decide) ?_ (fun b W => ?_)
          · have h1 : decide (no < 1) = false := by simp; omega
            have h2 : decide (2147483647 < no) = false := by simp; omega
            rw [h1, h2]; rfl
          · have := offer_any r ⟨no, b, 32, 32⟩ W
            rwa [show offerF r ⟨no, b, 32, 32⟩ = (r, 9) by simp only [offerF, hreal b, hO, cond_true]] at this
      · refine ringOne_no shown11 r no 1 fa fb kc ko kp w hr hF hR (by decide) ?_ (fun b W => ?_)
        · by_cases h : no < 1
          · simp [h]
          · have : 2147483647 < no := by omega
            simp [this]
        · have := offer_any r ⟨no, b, 32, 32⟩ W
          have h2 : realB ⟨no, b, 32, 32⟩ = false := by
            rcases h : realB ⟨no, b, 32, 32⟩ with _ | _
            · rfl
            · simp [realB] at h; exact (hre h).elim
          rwa [show offerF r ⟨no, b, 32, 32⟩ = (r, 1) by simp only [offerF, h2, cond_false]] at this
theorem ringOne_in (W : World) (R : Rg) (no : Int) (a b : Int) (hR : InRing W R) (hn : (Lit.int .i64 no).wf = true) (ha : (Lit.int .u8 a).wf = true) (hb : (Lit.int .u8 b).wf = true) :
    Calls Try.prog 6 #[.agg (R.L ++ [Value.int .i64 no, Value.int .u8 a, Value.int .u8 b]).toArray] W (BoolOut W true) := by
  obtain ⟨fa, rfl⟩ := exists_bv ha
  obtain ⟨fb, rfl⟩ := exists_bv hb
  obtain ⟨kc, ko, kp, hr⟩ := hR.at
  exact ringOne_any R no fa fb kc ko kp W hr
end Go.Proofs.Ytelndpphbpandaa
