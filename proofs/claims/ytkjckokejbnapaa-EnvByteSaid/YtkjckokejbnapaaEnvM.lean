/- Envelopes: the closure that takes numbers. -/
import Derived.Test.YtkjckokejbnapaaEnvL
import Derived.Deep.DrawnRows
set_option linter.unusedSimpArgs false
set_option linter.unusedVariables false
namespace Go.Proofs.Ytkjckokejbnapaa
open Go.RowKit

/-- where a reader stands: the place, whether all was well, the envelope so far -/
structure TS where
  at_ : Nat
  ok : Bool
  L : List Value
def badT (l : List UInt8) (at_ z : Nat) : Prop := z = 8 ∧ 127 < (l.getD at_ 0).toNat
instance (l : List UInt8) (at_ z : Nat) : Decidable (badT l at_ z) := inferInstanceAs (Decidable (_ ∧ _))
def tstep (l : List UInt8) (z : Nat) (S : TS) (o : Nat) : TS :=
  if badT l S.at_ z then ⟨S.at_, false, S.L.set o (.int .i64 0)⟩ else ⟨S.at_ + z, S.ok, S.L.set o (.int .i64 (numF l S.at_ z))⟩
def truns (l : List UInt8) (z : Nat) (S : TS) (os : List Nat) : TS := os.foldl (tstep l z) S
theorem truns_snoc (l : List UInt8) (z : Nat) (S : TS) (os : List Nat) (k : Nat) (h : k < os.length) : truns l z S (os.take (k + 1)) = tstep l z (truns l z S (os.take k)) (os.getD k 0) := by
  rw [take_snoc os k h 0]; simp [truns, List.foldl_append]
theorem tstep_at (l : List UInt8) (z : Nat) (S : TS) (o : Nat) : (tstep l z S o).at_ ≤ S.at_ + z := by unfold tstep; split <;> simp
theorem tstep_len (l : List UInt8) (z : Nat) (S : TS) (o : Nat) : (tstep l z S o).L.length = S.L.length := by unfold tstep; split <;> simp
theorem truns_at (l : List UInt8) (z : Nat) (S : TS) (os : List Nat) : (truns l z S os).at_ ≤ S.at_ + z * os.length := by
  induction os generalizing S with
  | nil => simp [truns]
  | cons o os ih =>
    have h1 := ih (tstep l z S o)
    have h2 := tstep_at l z S o
    show (truns l z (tstep l z S o) os).at_ ≤ _
    rw [List.length_cons, Nat.mul_add]; omega
theorem truns_len (l : List UInt8) (z : Nat) (S : TS) (os : List Nat) : (truns l z S os).L.length = S.L.length := by
  induction os generalizing S with
  | nil => rfl
  | cons o os ih => exact (ih (tstep l z S o)).trans (tstep_len l z S o)
def TakeAt (w0 : World) (ba_ bo be : Nat) (w : World) (S : TS) : Prop :=
  BlkT 3 w ba_ [.int .i64 (S.at_ : Int)] ∧ BlkT 4 w bo [.bool S.ok] ∧ BlkT 25 w be S.L ∧ Below w0.heap.size w0 w
abbrev ptrV (be o : Nat) : Value := .pointer (some ⟨be, o, none⟩)

theorem take_set {w0 wr : World} {ba_ bo be o N M : Nat} {B C : Bool} {L : List Value} (V : Value) (h1 : w0.heap.size ≤ ba_) (h2 : w0.heap.size ≤ bo) (h3 : w0.heap.size ≤ be) (d1 : ba_ ≠ bo) (d2 : ba_ ≠ be) (d3 : bo ≠ be)
    (hA : BlkT 3 wr ba_ [.int .i64 (M : Int)]) (hO : BlkT 4 wr bo [.bool C]) (hE : BlkT 25 wr be L) (hb : Below w0.heap.size w0 wr) :
    TakeAt w0 ba_ bo be ((((wr.setCell ⟨be, o, none⟩ V).setCell ⟨ba_, 0, none⟩ (.int .i64 (N : Int))).setCell ⟨bo, 0, none⟩ (.bool B)).drew) ⟨N, B, L.set o V⟩ :=
  ⟨((hA.other d2 _).set 0 _).other d1 _, ((hO.other d3 _).other d1.symm _).set 0 _, ((hE.set o _).other d2.symm _).other d3.symm _, (((hb.setCell h3 _).setCell h1 _).setCell h2 _).drew⟩

set_option maxRecDepth 100000 in
set_option maxHeartbeats 1000000 in
theorem take_any (z : Nat) (hz : 1 ≤ z) (hz8 : z ≤ 8) (os : List Nat) (hos : ∀ o ∈ os, o < 8) (hl : os.length ≤ 2) (gp c bb ba_ bo be : Nat) (a : Option Addr) (ca : Nat) (l : List UInt8) (hla : l.length ≤ ca) (hca : ca ≤ maxLen) (S : TS) (hS8 : S.L.length = 8) (hfit : S.at_ + z * os.length ≤ l.length)
    (w0 w : World) (h1 : w0.heap.size ≤ ba_) (h2 : w0.heap.size ≤ bo) (h3 : w0.heap.size ≤ be) (d1 : ba_ ≠ bo) (d2 : ba_ ≠ be) (d3 : bo ≠ be) (g1 : gp ≠ ba_) (g2 : gp ≠ bo) (g3 : gp ≠ be) (b1 : bb ≠ ba_) (b2 : bb ≠ bo) (b3 : bb ≠ be)
    (hbytes : BytesAt w0 a l) (hbb : BlkT 23 w bb [.slice a l.length ca]) (hp : BlkT 51 w gp (os.map (ptrV be))) (hT : TakeAt w0 ba_ bo be w S) :
    Calls Try.prog 30 #[.int .i64 z, .slice (some ⟨gp, 0, none⟩) os.length c, .pointer (some ⟨bb, 0, none⟩), .pointer (some ⟨ba_, 0, none⟩), .pointer (some ⟨bo, 0, none⟩)] w
      fun e w' => e = .returned (.tuple #[]) ∧ TakeAt w0 ba_ bo be w' (truns l z S os) ∧ (∀ g T cs, g ≠ ba_ → g ≠ bo → g ≠ be → BlkT T w g cs → BlkT T w' g cs) := by
  have HT := Lib.hid hT
  have HP := Lib.hid hp
  have HBB := Lib.hid hbb
  have HBy := Lib.hid hbytes
  have Hos := Lib.hid hos
  have Hfit := Lib.hid hfit
  have HS8 := Lib.hid hS8
  clear hT hp hbb hbytes hos hfit hS8
  go_enter Try.func30, Try.ntmps30
  go_wp2_with fail
  go_loopw [14] (fun v14 wx => ∃ k : Nat, k ≤ os.length ∧ v14 = .int .i64 k ∧ TakeAt w0 ba_ bo be wx (truns l z S (os.take k)) ∧ (∀ g T cs, g ≠ ba_ → g ≠ bo → g ≠ be → BlkT T w g cs → BlkT T wx g cs)) (fun v14 _ => os.length - (intOf v14).toNat)
  case atStart => exact ⟨0, Nat.zero_le _, rfl, HT.out, fun _ _ _ _ _ _ h => h⟩
  case round =>
    clear HT
    obtain ⟨k, hk, rfl, hTk, hkeep⟩ := hrel
    have HK := Lib.hid hkeep
    clear hkeep
    by_cases hlt : k < os.length
    · have ho := Hos.out (os.getD k 0) (by rw [show os.getD k 0 = os[k] by simp [List.getD, hlt]]; exact List.getElem_mem hlt)
      have hc : wr.cell? ⟨gp, k, none⟩ = some (ptrV be (os.getD k 0)) := by
        rw [(HK.out gp 51 _ g1 g2 g3 HP.out).blk.cell k (by simpa using hlt)]
        simp [List.getD, hlt]
      have Hsn := Lib.hid (truns_snoc l z S os k hlt)
      have hat := truns_at l z S (os.take k)
      have hlen := truns_len l z S (os.take k)
      rw [List.length_take, Nat.min_eq_left (by omega)] at hat
      generalize truns l z S (os.take k) = U at hTk Hsn hat hlen
      obtain ⟨at_, ok, L⟩ := U
      obtain ⟨hA, hO, hE, hbel⟩ := hTk
      simp only at hA hO hE hat hlen
      have hfit2 : at_ + z ≤ l.length := by
        have e : z * os.length ≥ z * (k + 1) := Nat.mul_le_mul_left z (by omega)
        rw [Nat.mul_add] at e
        have := Hfit.out; omega
      have hL8 : L.length = 8 := by rw [hlen, HS8.out]
      generalize os.getD k 0 = o at ho hc Hsn
      have q0 : wr.cell? ⟨bb, 0, none⟩ = some (.slice a l.length ca) := (HK.out bb 23 _ b1 b2 b3 HBB.out).blk.cell 0 (by simp)
      have q1 : wr.cell? ⟨ba_, 0, none⟩ = some (.int .i64 (at_ : Int)) := hA.blk.cell 0 (by simp)
      have q2 : wr.cell? ⟨bo, 0, none⟩ = some (.bool ok) := hO.blk.cell 0 (by simp)
      have q3 : wr.cell? ⟨be, o, none⟩ = some (L.getD o undef) := hE.blk.cell o (by omega)
      have f1 := hA.blk.frozen
      have f2 := hO.blk.frozen
      have f3 := hE.blk.frozen
      have HTk := Lib.hid (takeBig_any a ca l at_ z hz hz8 hfit2 hla hca wr (HBy.out.mono hbel))
      have HA := Lib.hid hA
      have HO := Lib.hid hO
      have HE := Lib.hid hE
      have Hbel := Lib.hid hbel
      clear hA hO hE hbel hat hlen
      by_cases hbad : badT l at_ z
      · have hst : tstep l z ⟨at_, ok, L⟩ o = ⟨at_, false, L.set o (.int .i64 0)⟩ := if_pos hbad
        rw [hst] at Hsn
        have HT2 := Lib.hid (show Calls Try.prog 31 #[.slice a l.length ca, .int .i64 at_, .int .i64 z] wr fun e w' => e = .returned (.tuple #[.int .i64 0, .int .i64 0, .int .i64 2]) ∧ wr = w' from HTk.out.mono fun e w' ⟨h, h'⟩ => ⟨by rw [h, if_pos (show z = 8 ∧ 127 < (l.getD at_ 0).toNat from hbad)], h'⟩)
        clear HTk hst hbad
        go_wp2_with fail
        refine HT2.out.mono ?_; rintro e w2 ⟨rfl, rfl⟩
        go_upto_region 4 with (fail)
        have e1 := d1.symm
        have e2 := d2.symm
        have e3 := d3.symm
        rcases ok with _ | _
        all_goals
          · go_region
            go_wp2_with fail
            exact ⟨⟨k + 1, by omega, by go_num, by rw [Hsn.out]; exact take_set _ h1 h2 h3 d1 d2 d3 HA.out HO.out HE.out Hbel.out, fun g T cs n1 n2 n3 hG => (((HK.out g T cs n1 n2 n3 hG).other n3 _).other n1 _).other n2 _⟩, by first | (simp [intOf]; done) | (simp [intOf]; omega)⟩
      · have hst : tstep l z ⟨at_, ok, L⟩ o = ⟨at_ + z, ok, L.set o (.int .i64 (numF l at_ z))⟩ := if_neg hbad
        rw [hst] at Hsn
        have HT2 := Lib.hid (show Calls Try.prog 31 #[.slice a l.length ca, .int .i64 at_, .int .i64 z] wr fun e w' => e = .returned (.tuple #[.int .i64 (numF l at_ z), .int .i64 ((at_ + z : Nat) : Int), .int .i64 0]) ∧ wr = w' from HTk.out.mono fun e w' ⟨h, h'⟩ => ⟨by rw [h, if_neg (show ¬ (z = 8 ∧ 127 < (l.getD at_ 0).toNat) from hbad)], h'⟩)
        have htz : at_ < at_ + z := by omega
        clear HTk hst hbad
        generalize at_ + z = T at HT2 Hsn htz
        generalize numF l at_ z = M at HT2 Hsn
        have htz2 : (at_ : Int) < (T : Int) := by omega
        go_wp2_with fail
        refine HT2.out.mono ?_; rintro e w2 ⟨rfl, rfl⟩
        go_upto_region 4 with (fail)
        have e1 := d1.symm
        have e2 := d2.symm
        have e3 := d3.symm
        rcases ok with _ | _
        all_goals
          · go_region
            go_wp2_with fail
            exact ⟨⟨k + 1, by omega, by go_num, by rw [Hsn.out]; exact take_set _ h1 h2 h3 d1 d2 d3 HA.out HO.out HE.out Hbel.out, fun g T cs n1 n2 n3 hG => (((HK.out g T cs n1 n2 n3 hG).other n3 _).other n1 _).other n2 _⟩, by first | (simp [intOf]; done) | (simp [intOf]; omega)⟩
    · obtain rfl : k = os.length := by omega
      rw [List.take_length] at hTk
      have HX := Lib.hid hTk
      clear hTk
      go_wp2_with fail
      go_end0
      exact ⟨rfl, HX.out, HK.out⟩
end Go.Proofs.Ytkjckokejbnapaa
