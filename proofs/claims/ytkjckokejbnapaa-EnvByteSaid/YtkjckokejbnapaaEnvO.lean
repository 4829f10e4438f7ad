/- Envelopes: read, of the program: what it takes. -/
import Derived.Test.YtkjckokejbnapaaEnvN
set_option linter.unusedSimpArgs false
set_option linter.unusedVariables false
namespace Go.Proofs.Ytkjckokejbnapaa
open Go.RowKit

def goodR (l : List UInt8) : Prop := ¬ badT l 2 8 ∧ ¬ badT l 10 8 ∧ ¬ badT l 22 8
instance (l : List UInt8) : Decidable (goodR l) := inferInstanceAs (Decidable (_ ∧ _))
def takenR (l : List UInt8) : TS := truns l 8 (truns l 4 (truns l 8 (truns l 1 ⟨0, true, zeroE⟩ [0, 1]) [2, 3]) [4]) [5]
theorem tstep_good {l : List UInt8} {z at_ o : Nat} {ok : Bool} {L : List Value} (h : ¬ badT l at_ z) : tstep l z ⟨at_, ok, L⟩ o = ⟨at_ + z, ok, L.set o (.int .i64 (numF l at_ z))⟩ := if_neg h
theorem tstep_bad {l : List UInt8} {z at_ o : Nat} {ok : Bool} {L : List Value} (h : badT l at_ z) : tstep l z ⟨at_, ok, L⟩ o = ⟨at_, false, L.set o (.int .i64 0)⟩ := if_pos h
theorem tstep_off {l : List UInt8} {z o : Nat} {S : TS} (h : S.ok = false) : (tstep l z S o).ok = false := by unfold tstep; split <;> simp [h]
theorem truns_off {l : List UInt8} {z : Nat} : ∀ (os : List Nat) {S : TS}, S.ok = false → (truns l z S os).ok = false
  | [], _, h => h
  | o :: os, _, h => truns_off os (tstep_off (o := o) h)
theorem not_bad {l : List UInt8} {at_ z : Nat} (h : z ≠ 8) : ¬ badT l at_ z := fun h' => h h'.1
theorem takenR_good {l : List UInt8} (h : goodR l) : takenR l = ⟨30, true, envL (numF l 0 1) (numF l 1 1) (numF l 2 8) (numF l 10 8) (numF l 18 4) (numF l 22 8) (.slice none 0 0) (.slice none 0 0)⟩ := by
  obtain ⟨h1, h2, h3⟩ := h
  unfold takenR truns
  simp only [List.foldl_cons, List.foldl_nil]
  rw [tstep_good (z := 1) (at_ := 0) (o := 0) (not_bad (by decide)), tstep_good (z := 1) (at_ := 1) (o := 1) (not_bad (by decide)), tstep_good (z := 8) (at_ := 2) (o := 2) h1, tstep_good (z := 8) (at_ := 10) (o := 3) h2, tstep_good (z := 4) (at_ := 18) (o := 4) (not_bad (by decide)), tstep_good (z := 8) (at_ := 22) (o := 5) h3]
  rfl
theorem takenR_bad {l : List UInt8} (h : ¬ goodR l) : (takenR l).ok = false := by
  unfold takenR truns
  simp only [List.foldl_cons, List.foldl_nil]
  rw [tstep_good (z := 1) (at_ := 0) (o := 0) (not_bad (by decide)), tstep_good (z := 1) (at_ := 1) (o := 1) (not_bad (by decide))]
  by_cases h1 : badT l 2 8
  · rw [tstep_bad (z := 8) (at_ := 2) (o := 2) h1]; exact tstep_off (tstep_off (tstep_off rfl))
  · rw [tstep_good (z := 8) (at_ := 2) (o := 2) h1]
    by_cases h2 : badT l 10 8
    · rw [tstep_bad (z := 8) (at_ := 10) (o := 3) h2]; exact tstep_off (tstep_off rfl)
    · rw [tstep_good (z := 8) (at_ := 10) (o := 3) h2, tstep_good (z := 4) (at_ := 18) (o := 4) (not_bad (by decide))]
      by_cases h3 : badT l 22 8
      · rw [tstep_bad (z := 8) (at_ := 22) (o := 5) h3]
      · exact (h ⟨h1, h2, h3⟩).elim
theorem takenR_len (l : List UInt8) : (takenR l).L.length = 8 := by unfold takenR; simp only [truns_len]; rfl
/-- a reader's blocks -/
structure RB (w : World) (rb ba_ bo be : Nat) : Prop where
  r : rb = w.heap.size + 1
  a : ba_ = w.heap.size + 2
  o : bo = w.heap.size + 3
  e : be = w.heap.size + 4
def ReadAt (w : World) (rb ba_ bo be : Nat) (a : Option Addr) (l : List UInt8) (c : Nat) (W : World) (S : TS) : Prop :=
  TakeAt w ba_ bo be W S ∧ BlkT 23 W w.heap.size [.slice a l.length c] ∧ BlkT 25 W rb zeroE
theorem take_step (z : Nat) (zi : Int) (hzi : zi = (z : Int)) (hz : 1 ≤ z) (hz8 : z ≤ 8) (os : List Nat) (hos : ∀ o ∈ os, o < 8) (len : Nat) (hlen : len = os.length) (hl : len ≤ 2) (c : Nat) (a : Option Addr) (ca : Nat) (l : List UInt8) (hla : l.length ≤ ca) (hca : ca ≤ maxLen) (S : TS) (hS8 : S.L.length = 8) (hfit : S.at_ + z * os.length ≤ l.length)
    (w W : World) (rb ba_ bo be : Nat) (hr : RB w rb ba_ bo be) (hbytes : BytesAt w a l) (h : ReadAt w rb ba_ bo be a l ca W S) (xs : Array Value) (hxs : xs = (os.map (ptrV be)).toArray) :
    Calls Try.prog 30 #[.int .i64 zi, .slice (some ⟨W.heap.size, 0, none⟩) len c, .pointer (some ⟨w.heap.size, 0, none⟩), .pointer (some ⟨ba_, 0, none⟩), .pointer (some ⟨bo, 0, none⟩)] (W.alloc (.cells xs 51))
      fun e w' => e = .returned (.tuple #[]) ∧ ReadAt w rb ba_ bo be a l ca w' (truns l z S os) := by
  subst hzi; subst hlen; subst hxs
  obtain ⟨r1, r2, r3, r4⟩ := hr
  obtain ⟨⟨hA, hO, hE, hb⟩, hB, hR⟩ := h
  have hlt : be < W.heap.size := hE.blk.lt
  refine (take_any z hz hz8 os hos hl W.heap.size c w.heap.size ba_ bo be a ca l hla hca S hS8 hfit w _ (by omega) (by omega) (by omega) (by omega) (by omega) (by omega) (by omega) (by omega) (by omega) (by omega) (by omega) (by omega) hbytes (hB.up (ba _ _)) (BlkT.new W _ 51) ⟨hA.up (ba _ _), hO.up (ba _ _), hE.up (ba _ _), bt hb (ba _ _)⟩).mono ?_
  rintro e w' ⟨h1, h2, h3⟩
  exact ⟨h1, h2, h3 _ _ _ (by omega) (by omega) (by omega) (hB.up (ba _ _)), h3 _ _ _ (by omega) (by omega) (by omega) (hR.up (ba _ _))⟩
end Go.Proofs.Ytkjckokejbnapaa
