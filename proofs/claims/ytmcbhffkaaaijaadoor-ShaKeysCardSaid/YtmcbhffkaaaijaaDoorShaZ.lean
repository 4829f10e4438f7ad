/- Roots of numbers in places of 16 bits: the walk of root. -/
import Derived.Test.YtmcbhffkaaaijaaDoorShaX
set_option linter.unusedSimpArgs false
set_option linter.unusedVariables false
namespace Go.Proofs.YtmcbhffkaaaijaaDoor
open Go.RowKit

def partsX (x : Int) : List Int := [x.tmod 65536, (wrap64 (x.tdiv 65536)).tmod 65536, wrap64 (x.tdiv 4294967296)]
def powL (x : Int) : Nat → List Int
  | 0 => [1]
  | k + 1 => timesF (powL x k) (partsX x)
theorem powL_len (x : Int) (k : Nat) : (powL x k).length = 3 * k + 1 := by
  induction k with
  | zero => rfl
  | succ k ih => show (timesN _ _ _).length = _; rw [timesN_len, ih]; omega
def wantF (p n i : Nat) : Int := if i = 2 * n then (p : Int) else 0
def cmpF (l : List Int) (p n : Nat) : Nat → Bool
  | 0 => true
  | i + 1 => if l.getD i 0 = wantF p n i then cmpF l p n i else decide (l.getD i 0 < wantF p n i)
/-- is a number of 2^32 parts, to a power, at most another one? -/
def rootF (x : Int) (p n : Nat) : Bool := cmpF (powL x n) p n (powL x n).length

set_option maxRecDepth 100000 in
set_option maxHeartbeats 2000000 in
theorem root_any (x : Int) (p n : Nat) (hn : n ≤ 3) (hp : p < 1000) (w : World) :
    Calls Tryd.prog 29 #[.int .i64 x, .int .i64 (p : Int), .int .i64 (n : Int)] w fun e w' => e = .returned (.bool (rootF x p n)) ∧ Below w.heap.size w w' := by
  obtain ⟨R, hR⟩ : ∃ R, R = rootF x p n := ⟨_, rfl⟩
  rw [← hR]
  have HR := Lib.hid hR
  clear hR
  go_enter Tryd.func29, Tryd.ntmps29
  go_wp2_with fail
  generalize hW : World.alloc w _ = W
  have hA : IntsAt .i64 W (some ⟨w.heap.size, 0, none⟩) (powL x 0) := by rw [← hW]; exact (Blk.new w (Ns [1]) _).at
  have hb : Below w.heap.size w W := by rw [← hW]; exact ba _ _
  clear hW
  go_loopw [7, 8] (fun v7 v8 wx => ∃ (k : Nat) (a : Option Addr) (c : Nat), k ≤ n ∧ v8 = .int .i64 (k : Int) ∧ v7 = .slice a (powL x k).length c ∧ IntsAt .i64 wx a (powL x k) ∧ Below w.heap.size w wx) (fun _ v8 _ => n - (intOf v8).toNat)
  case atStart => exact ⟨0, _, 1, Nat.zero_le _, rfl, rfl, hA, hb⟩
  case round =>
    clear hA hb
    obtain ⟨k, a, c, hk, rfl, rfl, hA, hb⟩ := hrel
    have HA := Lib.hid hA
    have Hb := Lib.hid hb
    have HL := Lib.hid (powL_len x k)
    have Hk := Lib.hid (show k = n → powL x k = powL x n from fun h => by rw [h])
    have HS := Lib.hid (show powL x (k + 1) = timesF (powL x k) (partsX x) from rfl)
    clear hA hb
    generalize powL x k = l at HA HL Hk HS
    by_cases hlt : k < n
    · have HT := Lib.hid (fun (b : Option Addr) (W' : World) (h1 : IntsAt .i64 W' a l) (h2 : IntsAt .i64 W' b (partsX x)) => times_any a b c 3 l (partsX x) (by have := HL.out; omega) rfl W' h1 h2)
      go_wp2_with fail
      have h2 : IntsAt .i64 (wr.alloc (.cells (Ns (partsX x)).toArray 3)) (some ⟨wr.heap.size, 0, none⟩) (partsX x) := at_new wr (Ns (partsX x)) _
      refine (HT.out _ _ (HA.out.mono (ba _ _)) h2).mono ?_; rintro e w5 ⟨a', c', rfl, hat, hb5⟩
      have Hat := Lib.hid hat
      have Hb5 := Lib.hid (bt (bt Hb.out (ba _ _)) hb5)
      clear hat hb5 h2
      go_wp2_with fail
      exact ⟨⟨k + 1, a', c', by omega, by go_num, by rw [HS.out], by rw [HS.out]; exact Hat.out, Hb5.out⟩, by simp [intOf]; omega⟩
    · obtain rfl : k = n := by omega
      have HR2 := Lib.hid (show R = cmpF l p k l.length by rw [HR.out]; unfold rootF; rw [← Hk.out rfl])
      have hl1 : l.length ≤ 10 := by have := HL.out; omega
      have hl0 : 1 ≤ l.length := by have := HL.out; omega
      clear hlt
      obtain ⟨Wr, rfl⟩ : ∃ y, y = wr := ⟨wr, rfl⟩
      go_wp2_with fail
      go_loopw [10, 11] (fun v10 v11 wx => ∃ j : Nat, j ≤ l.length ∧ v10 = .int .i64 ((j : Int) - 1) ∧ R = cmpF l p k j ∧ wx = Wr) (fun v10 _ _ => (intOf v10 + 1).toNat)
      case atStart => exact ⟨l.length, Nat.le_refl _, rfl, HR2.out, rfl⟩
      case round =>
        obtain ⟨j, hj, rfl, hRj, rfl⟩ := hrel
        have HRj := Lib.hid hRj
        clear hRj
        rcases j with _ | i
        · have hRt : R = true := HRj.out
          subst hRt
          go_wp2_with fail
          go_ret
          exact ⟨rfl, Hb.out⟩
        · have hc := IntsAt.cell HA.out (by omega)
          obtain ⟨ab, ao, rfl, habl, hac⟩ := hc
          have c0 := hac i (by omega)
          have HRi := Lib.hid (show R = if l.getD i 0 = wantF p k i then cmpF l p k i else decide (l.getD i 0 < wantF p k i) from HRj.out)
          have hi1 : (((i + 1 : Nat) : Int) - 1) = (i : Int) := by omega
          rw [hi1]
          clear hac hi1
          generalize l.getD i 0 = y at c0 HRi
          have Hmeas := Lib.hid (show (intOf (.int .i64 ((i : Int) - 1)) + 1).toNat < (intOf (.int .i64 (i : Int)) + 1).toNat by simp [intOf])
          by_cases hi : i = 2 * k
          · have hd : ((i : Int) == 2 * (k : Int)) = true := by simp; omega
            have hw : wantF p k i = (p : Int) := by unfold wantF; rw [if_pos hi]
            rw [hw] at HRi
            clear hw hi
            by_cases hy : y = (p : Int)
            · have hr := HRi.out
              rw [if_pos hy] at hr
              have Hr := Lib.hid hr
              subst hy
              have hne : ((p : Int) != (p : Int)) = false := by simp
              clear hr
              go_wp2_with fail
              exact ⟨⟨i, by omega, rfl, Hr.out, by first | rfl | trivial⟩, Hmeas.out⟩
            · have hr := HRi.out
              rw [if_neg hy] at hr
              have hne : (y != (p : Int)) = true := by simpa using hy
              subst hr
              clear hy
              go_wp2_with fail
              go_ret
              exact ⟨rfl, Hb.out⟩
          · have hd : ((i : Int) == 2 * (k : Int)) = false := by simp; omega
            have hw : wantF p k i = 0 := by unfold wantF; rw [if_neg hi]
            rw [hw] at HRi
            clear hw hi
            by_cases hy : y = 0
            · have hr := HRi.out
              rw [if_pos hy] at hr
              have Hr := Lib.hid hr
              subst hy
              clear hr
              go_wp2_with fail
              exact ⟨⟨i, by omega, rfl, Hr.out, by first | rfl | trivial⟩, Hmeas.out⟩
            · have hr := HRi.out
              rw [if_neg hy] at hr
              have hne : (y != 0) = true := by simpa using hy
              subst hr
              clear hy
              go_wp2_with fail
              go_ret
              exact ⟨rfl, Hb.out⟩
end Go.Proofs.YtmcbhffkaaaijaaDoor
