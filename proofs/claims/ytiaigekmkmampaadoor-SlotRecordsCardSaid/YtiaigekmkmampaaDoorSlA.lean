/- Stores: records, the epoch that is given next, and what a loss of power leaves; in plain Lean. -/
import Derived.Test.YtiaigekmkmampaaDoorEnvT
import Derived.Test.YtiaigekmkmampaaDoorSlU
set_option linter.unusedSimpArgs false
set_option linter.unusedVariables false
namespace Go.Proofs.YtiaigekmkmampaaDoor
open Go.RowKit

def yettB : List UInt8 := [121, 101, 116, 116]
def lastN : Nat := 4611686018427387904
/-- a record's digest, begun -/
def markF (l : List UInt8) : List UInt8 := (ofF (yettB ++ l)).take 8
def recF (n : Nat) : List UInt8 := bigF n 8 ++ markF (bigF n 8)
theorem markF_len (l : List UInt8) : (markF l).length = 8 := by unfold markF; rw [List.length_take, ofF_length]; rfl
theorem recF_len (n : Nat) : (recF n).length = 16 := by unfold recF; rw [List.length_append, bigF_len, markF_len]
theorem last_lt : lastN < 256 ^ 8 := by decide
theorem recF_num (n : Nat) (h : n ≤ lastN) : numF (recF n) 0 8 = n := by
  have := numF_big [] (markF (bigF n 8)) n 8 (Nat.lt_of_le_of_lt h last_lt)
  rw [List.nil_append, List.length_nil] at this
  exact this
theorem recF_inj {m n : Nat} (hm : m ≤ lastN) (hn : n ≤ lastN) (h : recF m = recF n) : m = n := by
  rw [← recF_num m hm, h, recF_num n hn]
/-- the epoch that bytes tell, or nought -/
def goodF (l : List UInt8) : Nat := if 1 ≤ numF l 0 8 ∧ numF l 0 8 ≤ lastN ∧ recF (numF l 0 8) = l then numF l 0 8 else 0
theorem goodF_le (l : List UInt8) : goodF l ≤ lastN := by
  unfold goodF; split
  · rename_i h; exact h.2.1
  · exact Nat.zero_le _
theorem goodF_rec {n : Nat} (h1 : 1 ≤ n) (h2 : n ≤ lastN) : goodF (recF n) = n := by
  unfold goodF
  rw [recF_num n h2, if_pos ⟨h1, h2, rfl⟩]
theorem goodF_yes {l : List UInt8} (h : 0 < goodF l) : l = recF (goodF l) ∧ numF l 0 8 = goodF l := by
  unfold goodF at h ⊢
  split at h
  · rename_i hc; rw [if_pos hc]; exact ⟨hc.2.2.symm, rfl⟩
  · omega
theorem goodF_len {l : List UInt8} (h : 0 < goodF l) : l.length = 16 := by rw [(goodF_yes h).1, recF_len]
/-- the epoch that is given next -/
def bestN (a b : List UInt8) : Nat := if goodF a < goodF b then goodF b else goodF a
def bestAt (a b : List UInt8) : Nat := if goodF a < goodF b then 1 else 0
theorem bestAt_two (a b : List UInt8) : bestAt a b = 0 ∨ bestAt a b = 1 := by unfold bestAt; split <;> simp
theorem bestN_le (a b : List UInt8) : bestN a b ≤ lastN := by unfold bestN; split <;> exact goodF_le _
/-- what a slot holds behind a write of which so much was done -/
def laidF (n many : Nat) (old : List UInt8) : List UInt8 := (recF n).take many ++ old.drop many
theorem laidF_len (n many : Nat) (old : List UInt8) (hm : many ≤ 16) (ho : old.length = 16) : (laidF n many old).length = 16 := by
  unfold laidF; rw [List.length_append, List.length_take, List.length_drop, recF_len, ho]; omega
theorem laidF_all (n : Nat) (old : List UInt8) (ho : old.length = 16) : laidF n 16 old = recF n := by
  unfold laidF
  rw [List.take_of_length_le (by rw [recF_len]; omega), List.drop_of_length_le (by omega), List.append_nil]
def manyF (cut : Int) : Nat := if 0 ≤ cut ∧ cut < 16 then cut.toNat else 16
theorem manyF_le (cut : Int) : manyF cut ≤ 16 := by unfold manyF; split <;> omega
/-- a store behind an epoch that was given: its slots -/
def takeA (a b : List UInt8) (cut : Int) : List UInt8 :=
  if bestN a b = 0 ∨ bestN a b = lastN then a else if bestAt a b = 1 then laidF (bestN a b + 1) (manyF cut) a else a
def takeB (a b : List UInt8) (cut : Int) : List UInt8 :=
  if bestN a b = 0 ∨ bestN a b = lastN then b else if bestAt a b = 1 then b else laidF (bestN a b + 1) (manyF cut) b
/-- what went wrong, and what was given -/
def takeE (a b : List UInt8) (cut : Int) : Nat := if bestN a b = 0 then 12 else if bestN a b = lastN then 10 else if manyF cut < 16 then 11 else 0
def takeN (a b : List UInt8) (cut : Int) : Nat := if takeE a b cut = 0 then bestN a b else 0
theorem take_lens (a b : List UInt8) (cut : Int) (ha : a.length = 16) (hb : b.length = 16) : (takeA a b cut).length = 16 ∧ (takeB a b cut).length = 16 := by
  have hm := manyF_le cut
  unfold takeA takeB
  split
  · exact ⟨ha, hb⟩
  · split
    · exact ⟨laidF_len _ _ _ hm ha, hb⟩
    · exact ⟨ha, laidF_len _ _ _ hm hb⟩
/-- RISES -/
theorem take_rises (a b : List UInt8) (cut : Int) (ha : a.length = 16) (hb : b.length = 16) :
    bestN a b ≤ bestN (takeA a b cut) (takeB a b cut) ∧
    (takeE a b cut = 0 → 1 ≤ bestN a b ∧ bestN (takeA a b cut) (takeB a b cut) = bestN a b + 1 ∧ ¬ (0 ≤ cut ∧ cut < 16)) ∧
    (takeE a b cut = 11 → (0 ≤ cut ∧ cut < 16)) := by
  have hbl := bestN_le a b
  refine ⟨?_, ?_, ?_⟩
  · unfold takeA takeB
    split
    · exact Nat.le_refl _
    · split
      · rename_i h1 h2
        have hlt : goodF a < goodF b := by unfold bestAt at h2; split at h2; assumption; omega
        have e : bestN a b = goodF b := by unfold bestN; rw [if_pos hlt]
        rw [e]; unfold bestN; split <;> omega
      · rename_i h1 h2
        have hlt : ¬ goodF a < goodF b := by unfold bestAt at h2; split at h2; omega; assumption
        have e : bestN a b = goodF a := by unfold bestN; rw [if_neg hlt]
        rw [e]; unfold bestN; split <;> omega
  · intro h
    unfold takeE at h
    split at h
    · omega
    · split at h
      · omega
      · split at h
        · omega
        · rename_i h0 h1 h2
          have hcut : ¬ (0 ≤ cut ∧ cut < 16) := by
            intro hc; unfold manyF at h2; rw [if_pos hc] at h2; omega
          have hmany : manyF cut = 16 := by unfold manyF; rw [if_neg hcut]
          refine ⟨by omega, ?_, hcut⟩
          have hg : goodF (recF (bestN a b + 1)) = bestN a b + 1 := goodF_rec (by omega) (by omega)
          have hno : ¬ (bestN a b = 0 ∨ bestN a b = lastN) := by omega
          have hA : takeA a b cut = if bestAt a b = 1 then recF (bestN a b + 1) else a := by
            unfold takeA; rw [if_neg hno, hmany, laidF_all _ _ ha]
          have hB : takeB a b cut = if bestAt a b = 1 then b else recF (bestN a b + 1) := by
            unfold takeB; rw [if_neg hno, hmany, laidF_all _ _ hb]
          rw [hA, hB]
          by_cases hlt : goodF a < goodF b
          · have e : bestN a b = goodF b := by unfold bestN; rw [if_pos hlt]
            have e2 : bestAt a b = 1 := by unfold bestAt; rw [if_pos hlt]
            rw [if_pos e2, if_pos e2]
            show (if goodF (recF (bestN a b + 1)) < goodF b then goodF b else goodF (recF (bestN a b + 1))) = _
            rw [hg, if_neg (by omega)]
          · have e : bestN a b = goodF a := by unfold bestN; rw [if_neg hlt]
            have e2 : ¬ bestAt a b = 1 := by unfold bestAt; rw [if_neg hlt]; omega
            rw [if_neg e2, if_neg e2]
            show (if goodF a < goodF (recF (bestN a b + 1)) then goodF (recF (bestN a b + 1)) else goodF a) = _
            rw [hg, if_pos (by omega)]
  · intro h
    unfold takeE at h
    split at h
    · omega
    · split at h
      · omega
      · split at h
        · rename_i h2
          unfold manyF at h2
          split at h2
          · assumption
          · omega
        · omega
/-- a new store's slots behind so many epochs -/
theorem give_next (a b : List UInt8) (k : Nat) (hk : k < lastN - 1) (ha : a.length = 16) (hb : b.length = 16) (hn : bestN a b = k + 1) (hat : bestAt a b = k % 2) :
    takeE a b (-1) = 0 ∧ takeN a b (-1) = k + 1 ∧ bestN (takeA a b (-1)) (takeB a b (-1)) = k + 2 ∧ bestAt (takeA a b (-1)) (takeB a b (-1)) = (k + 1) % 2 := by
  have hlast : lastN = 4611686018427387904 := rfl
  have hE : takeE a b (-1) = 0 := by
    unfold takeE; rw [if_neg (by omega), if_neg (by omega), if_neg (by unfold manyF; rw [if_neg (by omega)]; omega)]
  have hr := (take_rises a b (-1) ha hb).2.1 hE
  refine ⟨hE, by unfold takeN; rw [if_pos hE, hn], by rw [hr.2.1, hn], ?_⟩
  have hmany : manyF (-1) = 16 := by unfold manyF; rw [if_neg (by omega)]
  have hg : goodF (recF (k + 2)) = k + 2 := goodF_rec (by omega) (by omega)
  have hno : ¬ (bestN a b = 0 ∨ bestN a b = lastN) := by omega
  have hA : takeA a b (-1) = if bestAt a b = 1 then recF (k + 2) else a := by
    unfold takeA; rw [if_neg hno, hmany, laidF_all _ _ ha, hn]
  have hB : takeB a b (-1) = if bestAt a b = 1 then b else recF (k + 2) := by
    unfold takeB; rw [if_neg hno, hmany, laidF_all _ _ hb, hn]
  rw [hA, hB]
  by_cases hlt : goodF a < goodF b
  · have e : bestN a b = goodF b := by unfold bestN; rw [if_pos hlt]
    have e2 : bestAt a b = 1 := by unfold bestAt; rw [if_pos hlt]
    rw [if_pos e2, if_pos e2]
    show (if goodF (recF (k + 2)) < goodF b then 1 else 0) = _
    rw [hg, if_neg (by omega)]; omega
  · have e : bestN a b = goodF a := by unfold bestN; rw [if_neg hlt]
    have e2 : bestAt a b = 0 := by unfold bestAt; rw [if_neg hlt]
    rw [if_neg (by omega), if_neg (by omega)]
    show (if goodF a < goodF (recF (k + 2)) then 1 else 0) = _
    rw [hg, if_pos (by omega)]; omega
theorem best_slot (a b : List UInt8) (k : Nat) (hn : bestN a b = k + 1) : (if bestAt a b = 1 then b else a) = recF (k + 1) := by
  unfold bestAt bestN at *
  split at hn
  · rename_i h; rw [if_pos h, if_pos rfl, ← hn]; exact (goodF_yes (by omega)).1
  · rename_i h; rw [if_neg h, if_neg (by omega), ← hn]; exact (goodF_yes (by omega)).1
def zerosL : List UInt8 := List.replicate 16 0
theorem goodF_zeros : goodF zerosL = 0 := by unfold goodF; rw [if_neg (by decide)]
theorem new_best : bestN (recF 1) zerosL = 1 ∧ bestAt (recF 1) zerosL = 0 := by
  have h : goodF (recF 1) = 1 := goodF_rec (by omega) (by decide)
  unfold bestN bestAt
  rw [h, goodF_zeros]; exact ⟨rfl, rfl⟩
/-- a record with a byte changed -/
theorem spoilt_record (m i : Nat) (by_ : UInt8) (hm1 : 1 ≤ m) (hm : m ≤ lastN) (hi : i < 16) (hby : by_ ≠ 0) (c : List UInt8) (hc : c = (recF m).set i ((recF m).getD i 0 ^^^ by_)) :
    (8 ≤ i → goodF c = 0) ∧ (0 < goodF c → markF (c.take 8) = c.drop 8) := by
  have hl : c.length = 16 := by rw [hc, List.length_set, recF_len]
  constructor
  · intro h8
    have ht : c.take 8 = bigF m 8 := by
      rw [hc, List.take_set_of_le h8]
      unfold recF; rw [List.take_left' (bigF_len m 8)]
    have hnum : numF c 0 8 = m := by
      have : c = [] ++ bigF m 8 ++ c.drop 8 := by rw [← ht]; simp
      rw [this]; exact numF_big [] _ m 8 (Nat.lt_of_le_of_lt hm last_lt)
    unfold goodF
    rw [hnum, if_neg]
    rintro ⟨-, -, h⟩
    have hget : c.getD i 0 = (recF m).getD i 0 ^^^ by_ := by
      rw [hc]; rw [List.getD_eq_getElem?_getD, List.getElem?_set_self (by rw [recF_len]; exact hi)]; rfl
    rw [← h] at hget
    have : by_ = 0 := by
      have h2 := congrArg (fun x => (recF m).getD i 0 ^^^ x) hget
      simp only [← UInt8.xor_assoc, UInt8.xor_self, UInt8.zero_xor] at h2
      exact h2.symm
    exact hby this
  · intro h
    obtain ⟨h1, h2⟩ := goodF_yes h
    have hb := big_numF c 0 8 (by omega)
    rw [h2, List.drop_zero] at hb
    have h3 : c.drop 8 = markF (bigF (goodF c) 8) := by
      conv => lhs; rw [h1]
      unfold recF; rw [List.drop_left' (bigF_len _ 8)]
    rw [h3, hb]
end Go.Proofs.YtiaigekmkmampaaDoor
