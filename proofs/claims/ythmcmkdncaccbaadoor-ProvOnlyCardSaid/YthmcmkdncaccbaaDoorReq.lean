/- Rows that are the same. -/
import Derived.Test.YthmcmkdncaccbaaDoorPrN
import Derived.Deep.DeepCutAuto
set_option linter.unusedSimpArgs false
set_option linter.unusedVariables false
namespace Go.Proofs.YthmcmkdncaccbaaDoor
open Go.RowKit

theorem takeR_snoc (l m : List (List UInt8)) (k : Nat) (hl : k < l.length) (hm : k < m.length) : l.take (k + 1) = m.take (k + 1) ↔ (l.take k = m.take k ∧ l.getD k [] = m.getD k []) := by
  rw [take_snoc l k hl [], take_snoc m k hm []]
  constructor
  · intro h
    have h1 := List.append_inj h (by simp [List.length_take]; omega)
    exact ⟨h1.1, by simpa using h1.2⟩
  · rintro ⟨h1, h2⟩
    rw [h1, h2]

set_option maxRecDepth 100000 in
set_option maxHeartbeats 1000000 in
theorem rowsEq_any (a b : Option Addr) (ca cb : Nat) (l m : List (List UInt8)) (hll : l.length ≤ maxLen) (hmm : m.length ≤ maxLen) (w : World) (hl : RowsAt w a l) (hm : RowsAt w b m) :
    Calls Tryd.prog 23 #[.slice a l.length ca, .slice b m.length cb] w fun e w' => e = .returned (.bool (decide (l = m))) ∧ Below w.heap.size w w' := by
  unfold maxLen at hll hmm
  have Hl := Lib.hid hl
  have Hm := Lib.hid hm
  clear hl hm
  by_cases hne : l.length = m.length
  · have hd : ((l.length : Int) != (m.length : Int)) = false := by simp [hne]
    have hm2 : m.length = l.length := hne.symm
    generalize hML : m.length = ML at *
    subst hm2
    have HML := Lib.hid hML
    clear hML hne
    go_enter Tryd.func23, Tryd.ntmps23
    go_wp2_with fail
    go_loopw [5] (fun v5 wx => ∃ k : Nat, k ≤ l.length ∧ v5 = .int .i64 (k : Int) ∧ l.take k = m.take k ∧ Below w.heap.size w wx) (fun v5 _ => l.length - (intOf v5).toNat)
    case atStart => exact ⟨0, Nat.zero_le _, rfl, by simp, Below.refl _ _⟩
    case round =>
      obtain ⟨k, hk, rfl, hu, hb⟩ := hrel
      have Hu := Lib.hid hu
      have Hb := Lib.hid hb
      clear hu hb
      by_cases hlt : k < l.length
      · obtain ⟨ab, ao, ap, ac, rfl, hal, hac, hp1, hp2, hat⟩ := Hl.out.row k hlt
        obtain ⟨bb, bo, bp, bc, rfl, hbl, hbc, hq1, hq2, hbt⟩ := Hm.out.row k (by rw [HML.out]; exact hlt)
        have c0 : wr.cell? ⟨ab, ao + k, none⟩ = some (.slice ap (l.getD k []).length ac) := by rw [Hb.out.cell (p := ⟨ab, ao + k, none⟩) hal]; exact hac
        have c1 : wr.cell? ⟨bb, bo + k, none⟩ = some (.slice bp (m.getD k []).length bc) := by rw [Hb.out.cell (p := ⟨bb, bo + k, none⟩) hbl]; exact hbc
        have HT := Lib.hid (takeR_snoc l m k hlt (by rw [HML.out]; exact hlt))
        have Hx := Lib.hid (show l.getD k [] = m.getD k [] ∨ l ≠ m by
          by_cases h : l = m
          · exact .inl (by rw [h])
          · exact .inr h)
        have h1 := fun n => run_str (hat.mono (btn Hb.out n)) 25 9 5 Tryd.underlying25 Tryd.underlying5 Tryd.underlying9 (l.getD k []).length ac rfl
        have h2 := fun n => run_str (hbt.mono (btn Hb.out n)) 25 9 5 Tryd.underlying25 Tryd.underlying5 Tryd.underlying9 (m.getD k []).length bc rfl
        have h3 := run_str (hat.mono (btd Hb.out)) 25 9 5 Tryd.underlying25 Tryd.underlying5 Tryd.underlying9 (l.getD k []).length ac rfl
        have h4 := run_str (hbt.mono (btd Hb.out)) 25 9 5 Tryd.underlying25 Tryd.underlying5 Tryd.underlying9 (m.getD k []).length bc rfl
        have h5 := run_str (hat.mono Hb.out) 25 9 5 Tryd.underlying25 Tryd.underlying5 Tryd.underlying9 (l.getD k []).length ac rfl
        have h6 := run_str (hbt.mono Hb.out) 25 9 5 Tryd.underlying25 Tryd.underlying5 Tryd.underlying9 (m.getD k []).length bc rfl
        have hi0 : (0 : Int) ≤ (k : Int) := by omega
        have hi1 : (k : Int) < (l.length : Int) := by omega
        clear hac hbc hp1 hp2 hq1 hq2 hat hbt
        generalize l.getD k [] = x at c0 HT Hx h1 h3 h5
        generalize m.getD k [] = y at c1 HT Hx h2 h4 h6
        by_cases hxy : x = y
        · subst hxy
          have HT := Lib.hid (HT.out.2 ⟨Hu.out, rfl⟩)
          have hbe : (((⟨x.toArray⟩ : ByteArray)).toList != ((⟨x.toArray⟩ : ByteArray)).toList) = false := by simp
          go_wp2_with fail
          go_quiet (fail)
          go_wp2_with fail
          exact ⟨⟨k + 1, by omega, by go_num, by first | exact HT.out | exact HT.out.2 ⟨Hu.out, trivial⟩, btn Hb.out _⟩, by simp [intOf]; omega⟩
        · have hv : decide (l = m) = false := decide_eq_false (Hx.out.resolve_left hxy)
          have hbe : (((⟨x.toArray⟩ : ByteArray)).toList != ((⟨y.toArray⟩ : ByteArray)).toList) = true := by
            rw [ByteArray.toList_mk, ByteArray.toList_mk]; simpa using hxy
          have hbe2 : (x == y) = false := beq_eq_false_iff_ne.2 hxy
          have Hv := Lib.hid hv
          clear hv hxy
          go_wp2_with fail
          go_quiet (fail)
          go_wp2_with fail
          go_ret
          exact ⟨by rw [Hv.out]; rfl, btn Hb.out _⟩
      · obtain rfl : k = l.length := by omega
        have hv := Lib.hid (show decide (l = m) = true by
          have h := Hu.out
          rw [List.take_length, List.take_of_length_le (by rw [HML.out]; exact Nat.le_refl _)] at h
          exact decide_eq_true h)
        go_wp2_with fail
        go_ret
        exact ⟨by rw [hv.out]; rfl, Hb.out⟩
  · have hd : ((l.length : Int) != (m.length : Int)) = true := by simp; omega
    have hv := Lib.hid (show decide (l = m) = false from decide_eq_false fun h => hne (by rw [h]))
    clear hne
    go_enter Tryd.func23, Tryd.ntmps23
    go_wp2_with fail
    go_ret
    exact ⟨by rw [hv.out]; rfl, Below.refl _ _⟩

end Go.Proofs.YthmcmkdncaccbaaDoor
