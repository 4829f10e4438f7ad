/- Products in places of 16 bits: the walks of times and root. -/
import Derived.Test.YtmcbhffkaaaijaaDoorShaW
import Derived.Test.YtmcbhffkaaaijaaDoorBlk2
import Derived.BigQuiet
import Derived.Deep.QuietTactic
set_option linter.unusedSimpArgs false
set_option linter.unusedVariables false
namespace Go.Proofs.YtmcbhffkaaaijaaDoor
open Go.RowKit

theorem newRepI (w : World) (n : Nat) (v : Value) (T : TypeId) : Blk (w.alloc (.cells (Array.replicate n v) T)) w.heap.size (List.replicate n v) := by
  have := Blk.new w (List.replicate n v) T
  rwa [show (List.replicate n v).toArray = Array.replicate n v by simp] at this
theorem elemI : ElemT Tryd.prog 61 3 1 8 (.int .i64 0) := ElemT.mk1 Tryd.underlying61 (by kernel_rfl) rfl (by decide)
abbrev Ns (l : List Int) : List Value := l.map (Value.int .i64)
def nOf (x y z c : Int) : Int := wrap64 (wrap64 (x + wrap64 (y * z)) + c)
/-- one place of a product -/
def stepT (x : Int) (m : List Int) (i k : Nat) (p : List Int × Int) : List Int × Int :=
  (p.1.set (i + k) ((nOf (p.1.getD (i + k) 0) x (m.getD k 0) p.2).tmod 65536), wrap64 ((nOf (p.1.getD (i + k) 0) x (m.getD k 0) p.2).tdiv 65536))
def inT (x : Int) (m : List Int) (i : Nat) (out : List Int) : Nat → List Int × Int
  | 0 => (out, 0)
  | k + 1 => stepT x m i k (inT x m i out k)
def endT (i : Nat) (p : List Int × Int) : List Int := p.1.set (i + 3) (wrap64 (p.1.getD (i + 3) 0 + p.2))
def timesN (l m : List Int) : Nat → List Int
  | 0 => List.replicate (l.length + 3) 0
  | i + 1 => endT i (inT (l.getD i 0) m i (timesN l m i) 3)
def timesF (l m : List Int) : List Int := timesN l m l.length
theorem stepT_len (x : Int) (m : List Int) (i k : Nat) (p : List Int × Int) : (stepT x m i k p).1.length = p.1.length := by simp [stepT]
theorem inT_len (x : Int) (m : List Int) (i : Nat) (out : List Int) (k : Nat) : (inT x m i out k).1.length = out.length := by
  induction k with
  | zero => rfl
  | succ k ih => rw [inT, stepT_len, ih]
theorem timesN_len (l m : List Int) (i : Nat) : (timesN l m i).length = l.length + 3 := by
  induction i with
  | zero => simp [timesN]
  | succ i ih => rw [timesN, endT, List.length_set, inT_len, ih]
theorem ns_cell {w : World} {g : Nat} {l : List Int} (h : Blk w g (Ns l)) (i : Nat) (hi : i < l.length) : w.cell? ⟨g, i, none⟩ = some (.int .i64 (l.getD i 0)) := by
  rw [h.cell i (by simpa using hi)]; simp [List.getD, hi]
theorem ns_set {w : World} {g : Nat} {l : List Int} (h : Blk w g (Ns l)) (i : Nat) (x : Int) : Blk (w.setCell ⟨g, i, none⟩ (.int .i64 x)) g (Ns (l.set i x)) := by
  have := h.set i (.int .i64 x); rwa [← List.map_set] at this
theorem add_w (i k : Nat) (h : i ≤ 1000) (h2 : k ≤ 1000) : wrap64 ((i : Int) + (k : Int)) = ((i + k : Nat) : Int) := by unfold wrap64; omega
theorem add_w3 (i : Nat) (h : i ≤ 1000) : wrap64 ((i : Int) + 3) = ((i + 3 : Nat) : Int) := by unfold wrap64; omega
theorem measT (n k : Nat) (h : k < n) : n - (intOf (.int .i64 ((k + 1 : Nat) : Int))).toNat < n - (intOf (.int .i64 (k : Int))).toNat := by simp only [intOf]; omega

set_option maxRecDepth 100000 in
set_option maxHeartbeats 2000000 in
theorem times_any (a b : Option Addr) (ca cb : Nat) (l m : List Int) (hl : l.length ≤ 10) (hm : m.length = 3) (w : World) (h1 : IntsAt .i64 w a l) (h2 : IntsAt .i64 w b m) :
    Calls Tryd.prog 36 #[.slice a l.length ca, .slice b 3 cb] w fun e w' => ∃ a' c', e = .returned (.slice a' (timesF l m).length c') ∧ IntsAt .i64 w' a' (timesF l m) ∧ Below w.heap.size w w' := by
  have Hl := Lib.hid h1
  have Hm := Lib.hid h2
  have Hm3 := Lib.hid hm
  clear h1 h2 hm
  obtain ⟨L, hL⟩ : ∃ L, L = l.length + 3 := ⟨_, rfl⟩
  have hmk : ∀ w, (Instr.makeSlice 61 (.int .i64 ((l.length : Int) + 3)) (.int .i64 ((l.length : Int) + 3))).run Tryd.prog w = .ok (.slice (some ⟨w.heap.size, 0, none⟩) L L) (w.alloc (.cells (List.replicate L (.int .i64 0)).toArray 3)) := fun w => by
    rw [show ((l.length : Int) + 3) = ((L : Nat) : Int) by omega]
    exact run_mk elemI w .i64 .i64 L (by omega) (by unfold maxLen; omega) rfl
  have HL := Lib.hid hL
  have Hrep := Lib.hid (show List.replicate L (Value.int .i64 0) = Ns (timesN l m 0) by rw [hL]; simp [timesN])
  clear hL
  go_enter Tryd.func36, Tryd.ntmps36
  go_wp2_with fail
  generalize hW : World.alloc w _ = W
  have hB : Blk W w.heap.size (Ns (timesN l m 0)) := by rw [← hW, ← Hrep.out]; first | exact newRepI _ _ _ _ | exact Blk.new w _ _
  have hb : Below w.heap.size w W := by rw [← hW]; exact ba _ _
  clear hW hmk Hrep
  go_loopw [6] (fun v wx => ∃ i : Nat, i ≤ l.length ∧ v = .int .i64 (i : Int) ∧ Blk wx w.heap.size (Ns (timesN l m i)) ∧ Below w.heap.size w wx) (fun v _ => l.length - (intOf v).toNat)
  case atStart => exact ⟨0, Nat.zero_le _, rfl, hB, hb⟩
  case round =>
    clear hB hb
    obtain ⟨i, hi, rfl, hB, hb⟩ := hrel
    have HB := Lib.hid hB
    have Hb := Lib.hid hb
    clear hB hb
    by_cases hlt : i < l.length
    · obtain ⟨ab, ao, rfl, habl, hac⟩ := IntsAt.cell Hl.out (by omega)
      have Hac := Lib.hid (show ∀ w', Below w.heap.size w w' → w'.cell? ⟨ab, ao + i, none⟩ = some (.int .i64 (l.getD i 0)) from fun w' h => by rw [h.cell (p := ⟨ab, ao + i, none⟩) habl]; exact hac i hlt)
      have HT := Lib.hid (show timesN l m (i + 1) = endT i (inT (l.getD i 0) m i (timesN l m i) 3) from rfl)
      have HLn := Lib.hid ((timesN_len l m i).trans HL.out.symm)
      clear hac
      generalize timesN l m i = out at HB HT HLn
      generalize l.getD i 0 = x at Hac HT
      obtain ⟨Wr, rfl⟩ : ∃ y, y = wr := ⟨wr, rfl⟩
      go_wp2_with fail
      go_loopw [7, 8] (fun c v wx => ∃ k : Nat, k ≤ 3 ∧ v = .int .i64 (k : Int) ∧ c = .int .i64 (inT x m i out k).2 ∧ Blk wx w.heap.size (Ns (inT x m i out k).1) ∧ Below w.heap.size w wx) (fun _ v _ => 3 - (intOf v).toNat)
      case atStart => exact ⟨0, by omega, rfl, rfl, HB.out, Hb.out⟩
      case round =>
        obtain ⟨k, hk, rfl, rfl, hB, hb⟩ := hrel
        have HS0 := Lib.hid (show inT x m i out (k + 1) = stepT x m i k (inT x m i out k) from rfl)
        have HLk := Lib.hid ((inT_len x m i out k).trans HLn.out)
        have Hk3 := Lib.hid (show k = 3 → inT x m i out k = inT x m i out 3 from fun h => by rw [h])
        generalize inT x m i out k = p at hB HS0 HLk Hk3
        obtain ⟨o, c⟩ := p
        have HB := Lib.hid hB
        have Hb := Lib.hid hb
        by_cases h3 : k < 3
        · obtain ⟨mb, mo, rfl, hmbl, hmc⟩ := IntsAt.cell Hm.out (by rw [Hm3.out]; omega)
          have c2 : wr.cell? ⟨mb, mo + k, none⟩ = some (.int .i64 (m.getD k 0)) := by rw [hb.cell (p := ⟨mb, mo + k, none⟩) hmbl]; exact hmc k (by rw [Hm3.out]; exact h3)
          have c1 := Hac.out wr hb
          obtain ⟨P, hP⟩ : ∃ P, P = i + k := ⟨_, rfl⟩
          have hPL : P < L := by have := HL.out; omega
          have hP12 : P ≤ 12 := by omega
          have c0 := ns_cell hB P (by have h := HLk.out; rw [h]; exact hPL)
          have hs2 : (i : Int) + (k : Int) = ((P : Nat) : Int) := by omega
          have HS := Lib.hid (show inT x m i out (k + 1) = (o.set P ((nOf (o.getD P 0) x (m.getD k 0) c).tmod 65536), wrap64 ((nOf (o.getD P 0) x (m.getD k 0) c).tdiv 65536)) by rw [HS0.out, hP]; rfl)
          have fz := hB.frozen
          clear hB hb hmc hP HS0
          generalize m.getD k 0 = z at c2 HS
          generalize o.getD P 0 = y at c0 HS
          go_wp2_with fail
          go_quiet (fail)
          go_wp2_with fail
          refine ⟨⟨k + 1, by omega, by go_num, ?_, ?_, (btn Hb.out _).setCell (Nat.le_refl _) _⟩, by simp [intOf]; omega⟩
          · rw [HS.out]; rfl
          · rw [HS.out]; exact ns_set (HB.out.drewN _) P _
        · obtain rfl : k = 3 := by omega
          obtain ⟨P, hP⟩ : ∃ P, P = i + 3 := ⟨_, rfl⟩
          have hPL : P < L := by have := HL.out; omega
          have hP12 : P ≤ 13 := by omega
          have c0 := ns_cell hB P (by have h := HLk.out; rw [h]; exact hPL)
          have hs2 : (i : Int) + 3 = ((P : Nat) : Int) := by omega
          have HS := Lib.hid (show timesN l m (i + 1) = o.set P (wrap64 (o.getD P 0 + c)) by rw [HT.out, ← Hk3.out rfl, hP]; rfl)
          have fz := hB.frozen
          clear hB hb hP HS0
          generalize o.getD P 0 = y at c0 HS
          go_wp2_with fail
          refine ⟨⟨i + 1, by omega, by go_num, ?_, Hb.out.setCell (Nat.le_refl _) _⟩, by simp [intOf]; omega⟩
          rw [HS.out]; exact ns_set HB.out P _
    · obtain rfl : i = l.length := by omega
      have HTl := Lib.hid (show (timesF l m).length = L by rw [HL.out]; exact timesN_len l m _)
      go_wp2_with fail
      go_ret
      exact ⟨_, L, by rw [HTl.out]; rfl, HB.out.at, Hb.out⟩
end Go.Proofs.YtmcbhffkaaaijaaDoor
