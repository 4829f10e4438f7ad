/- Frames that are none: the plain law; append that keeps what was there. -/
import Derived.Test.YtipidgjdfmghnaaFrN
set_option linter.unusedSimpArgs false
set_option linter.unusedVariables false
namespace Go.Proofs.Ytipidgjdfmghnaa
open Go.RowKit

theorem run_keep {P : Program} {t e : TypeId} {bytes : Nat} {z : Value} (E : ElemT P t e 1 bytes z) {wB w : World} {n cap : Nat} {a : Option Addr} {xs : List Value} (hB : Buf wB w e (.slice a n cap) n xs)
    {sp : Option Addr} {m : Nat} (c : Nat) {news : List Value} (hS : At w sp news) (hl : news.length = m) (hm : 0 < m) (h1 : ∀ u ∈ news, u.oneCell' = true) (h63 : (n + m) * bytes ≤ 140737488355328) (hb : 0 < bytes) (ty : TypeId) :
    ∃ a' cap' w', (Builtin.append_ #[t, t] ty #[.slice a n cap, .slice sp m c]).run P w = .ok (.slice a' (n + m) cap') w' ∧ Buf wB w' e (.slice a' (n + m) cap') (n + m) (xs ++ news) ∧ At w' a xs := by
  obtain ⟨a', cap', w', hr, hB'⟩ := run_buf E hB c hS hl h1 h63 hb ty
  refine ⟨a', cap', w', hr, hB', ?_⟩
  obtain ⟨i, hi, hz, hsz, hby⟩ := E.info
  have hle : n + m ≤ (n + m) * bytes := Nat.le_mul_of_pos_right _ hb
  rcases hS with rfl | ⟨b2, off, rfl, hlt, hc⟩
  · simp at hl; omega
  · have hnews : ∀ j v, news[j]? = some v → w.cell? ((⟨b2, off, none⟩ : Addr).add j) = some v := fun j v hj => by
      have hjl : j < news.length := by
        rcases Nat.lt_or_ge j news.length with h | h
        · exact h
        · rw [List.getElem?_eq_none h] at hj; cases hj
      rw [WideShapes.add_plain, hc j hjl, List.getD, hj]; rfl
    rcases hB.own.2 with ⟨hv, hn⟩ | ⟨g, cap2, cur, hv, hbg, hg, hnc, hcm, hcs, htake⟩
    · exact .inl (List.eq_nil_of_length_eq_zero (by have := hB.own.1; omega))
    · cases hv
      by_cases hroom : n + m ≤ cap
      · have hr2 := run_append_room (P := P) w t ty e i E.slice hi g n cap cur hg ⟨b2, off, none⟩ m c news (by rw [hsz]; omega) hnews h1 hroom (by rw [hsz, hl, hcs]; omega)
        rw [hr] at hr2
        injection hr2 with h3 h4
        injection h3 with h5 h6 h7
        subst h5
        have := hB'.at.take n
        have hx : xs.length = n := hB.len
        rw [List.take_append_of_le_length (by omega), List.take_of_length_le (by omega)] at this
        exact this
      · have holds : ∀ j u, xs[j]? = some u → w.cell? ((⟨g, 0, none⟩ : Addr).add j) = some u := hB.own.cells (g := g) rfl
        have hr2 := run_append_grow (P := P) w t ty e i z E.slice hi hz ⟨g, 0, none⟩ n cap xs (by rw [hsz]; have := hB.len; omega) holds ⟨b2, off, none⟩ m c news (by rw [hsz]; omega) hnews (by omega) (by omega) (by
          have := nextslicecap_le (need := n + m) (old := cap) (by omega)
          rw [hby]
          calc _ ≤ (2 * (n + m)) * bytes := Nat.mul_le_mul_right _ this
            _ = 2 * ((n + m) * bytes) := by rw [Nat.mul_assoc]
            _ ≤ _ := by omega)
        rw [hr] at hr2
        injection hr2 with h3 h4
        rw [h4]
        exact hB.at.mono ((bd w).alloc (Nat.le_refl _) _)
theorem wpList_keep {P : Program} {ops : Array Oper} {rest : List Oper} {o : Oper} {a : Act} {w : World} {Q : Exit → Act → World → Prop} (s x : Operand) (t : TypeId) {e : TypeId} {bytes : Nat} {z : Value} (hgd : o.guard = Option.none)
    (ho : o.op = .call { callee := .builtin .append, args := #[s, x], argTypes := #[t, t] }) (E : ElemT P t e 1 bytes z) {wB : World} {n cap : Nat} {ad : Option Addr} {xs : List Value} (hs : a.eval s = .slice ad n cap) (hB : Buf wB w e (.slice ad n cap) n xs)
    {sp : Option Addr} {m c : Nat} {news : List Value} (hx : a.eval x = .slice sp m c) (hS : At w sp news) (hl : news.length = m) (hm : 0 < m) (h1 : ∀ u ∈ news, u.oneCell' = true) (h63 : (n + m) * bytes ≤ 140737488355328) (hb : 0 < bytes)
    (k : Nat) (hk : n + m = k) (ys : List Value) (hys : xs ++ news = ys)
    (h : ∀ a' cap' w', Buf wB w' e (.slice a' k cap') k ys → At w' ad xs → wpList P ops Q rest (a.put o.dst (.slice a' k cap')) w') : wpList P ops Q (o :: rest) a w := by
  subst hk hys
  refine wpList_plain hgd fun K hK => ?_
  obtain ⟨a', cap', w', hr, h2, h3⟩ := run_keep E hB c hS hl hm h1 h63 hb o.type
  unfold Oper.wp execOp
  simp only [ho, resolve, List.map_toArray, List.map_cons, List.map_nil, hs, hx, invoke, builtin, Sem.run_bind, Sem.run_pure, Result.andThen_ok, hr]
  exact hK _ _ (h a' cap' w' h2 h3)

theorem told_num (N : Nat) (h : N ≤ 65535) (t : List UInt8) : toldL (UInt8.ofNat (N / 256) :: UInt8.ofNat N :: t) = N := by
  show 256 * (UInt8.ofNat (N / 256)).toNat + (UInt8.ofNat N).toNat = N
  rw [UInt8.toNat_ofNat', UInt8.toNat_ofNat']
  omega
theorem packL_run (bad : Int) (b t : List UInt8) (h : packs b = true) : R 0 bad (packL b ++ t) = ((R 0 bad t).1, b :: (R 0 bad t).2) := by
  have h1 : 1 ≤ b.length ∧ b.length ≤ 1024 := by simpa [packs] using h
  have e : toldL (packL b ++ t) = b.length := told_num b.length (by omega) _
  have hw := R_whole bad (packL b ++ t) (by omega) (by omega) (by rw [e, List.length_append, packL_len]; omega)
  rw [e] at hw
  rw [hw]
  have e1 : (packL b ++ t).drop (b.length + 2) = t := by
    have := List.drop_left (l₁ := packL b) (l₂ := t)
    rwa [packL_len] at this
  have e2 : ((packL b ++ t).drop 2).take b.length = b := by
    show (b ++ t).take b.length = b
    exact List.take_left
  rw [e1, e2]
/-- what a frame that is none leads to -/
theorem bads_run (N : Nat) (hN : N = 0 ∨ 1024 < N) (h2 : N ≤ 65535) (z b : List UInt8) (hz : z.length = N) (hb : packs b = true) :
    runF ⟨[], 0, 0⟩ ((UInt8.ofNat (N / 256) :: UInt8.ofNat N :: z) ++ packL b) = (⟨[], 0, 1⟩, [b]) ∧ runF ⟨[], 0, 0⟩ [UInt8.ofNat (N / 256), UInt8.ofNat N] = (⟨[], N, 1⟩, []) := by
  have hm : more 0 = 1 := by decide
  constructor
  · have e := told_num N h2 (z ++ packL b)
    have hr := R_bad 0 ((UInt8.ofNat (N / 256) :: UInt8.ofNat N :: z) ++ packL b) (by simp) (by
      show toldL (UInt8.ofNat (N / 256) :: UInt8.ofNat N :: (z ++ packL b)) = 0 ∨ _ < toldL (UInt8.ofNat (N / 256) :: UInt8.ofNat N :: (z ++ packL b))
      rw [e]; exact hN)
    have e' : toldL ((UInt8.ofNat (N / 256) :: UInt8.ofNat N :: z) ++ packL b) = N := e
    rw [e', hm] at hr
    have hs := R_skip ((N : Int) + 2) 1 ((UInt8.ofNat (N / 256) :: UInt8.ofNat N :: z) ++ packL b) (N + 2) (by omega) (by simp; omega)
    have hd : ((UInt8.ofNat (N / 256) :: UInt8.ofNat N :: z) ++ packL b).drop (N + 2) = packL b := by
      have := List.drop_left (l₁ := UInt8.ofNat (N / 256) :: UInt8.ofNat N :: z) (l₂ := packL b)
      rwa [show (UInt8.ofNat (N / 256) :: UInt8.ofNat N :: z).length = N + 2 by simp [hz]] at this
    have hzero : (N : Int) + 2 - ((N + 2 : Nat) : Int) = 0 := by omega
    rw [hd, hzero] at hs
    have hp := packL_run 1 b [] hb
    rw [List.append_nil] at hp
    show R 0 0 _ = _
    rw [hr, hs, hp]
    rfl
  · have e := told_num N h2 []
    have := run_two 0 (UInt8.ofNat (N / 256)) (UInt8.ofNat N) (by rw [e]; exact hN)
    rw [e, hm] at this
    exact this
end Go.Proofs.Ytipidgjdfmghnaa
