/- Same of rows and of digests under way; what Put computes, and its walks. -/
import Derived.Test.YthmcmkdncaccbaaDoorShaE
import Derived.Test.YthmcmkdncaccbaaDoorBase
import Derived.Deep.RegionWith
set_option linter.unusedSimpArgs false
set_option linter.unusedVariables false
namespace Go.Proofs.YthmcmkdncaccbaaDoor
open Go.RowKit

/-- the words behind k blocks of l -/
def absN (s : R8) (l : List UInt8) : Nat → R8
  | 0 => s
  | k + 1 => blockF (absN s l k) ((l.drop (64 * k)).take 64)
/-- how many whole blocks -/
def nb (l : List UInt8) : Nat := l.length / 64
/-- the words, and what is left, behind the bytes l -/
def putS (s : R8) (l : List UInt8) : R8 := absN s l (nb l)
def putR (l : List UInt8) : List UInt8 := l.drop (64 * nb l)

set_option maxRecDepth 100000 in
set_option maxHeartbeats 2000000 in
theorem put_no (s : R8) (n : Int) (a b : Option Addr) (la ca lb cb : Nat) (h0 : 0 ≤ n) (hn : n ≤ 1125899906842624) (hb : 1125899906842624 - n < lb) (w : World) :
    Calls Tryd.prog 40 #[.agg (hashC s n a la ca).toArray, .slice b lb cb] w fun e w' => e = .returned (.agg (hashC s n a la ca).toArray) ∧ Below w.heap.size w w' := by
  obtain ⟨s0, s1, s2, s3, s4, s5, s6, s7⟩ := s
  go_enter Tryd.func40, Tryd.ntmps40
  go_wp2_with fail
  exact bodyPost_ret (v := .agg (hashC ⟨s0, s1, s2, s3, s4, s5, s6, s7⟩ n a la ca).toArray) (by simp [results, Tryd.results40, go_sem]) rfl ⟨rfl, (ba w _).trans ((ba _ _).mono (by simp))⟩

theorem newRep (w : World) (n : Nat) (v : Value) (T : TypeId) : Blk (w.alloc (.cells (Array.replicate n v) T)) w.heap.size (List.replicate n v) := by
  have := Blk.new w (List.replicate n v) T
  rwa [List.toArray_replicate] at this
theorem rep_one (n : Nat) (l : List UInt8) : ∀ v ∈ B8s l, v.oneCell' = true := bytes_one l
theorem adv_some (b k cap : Nat) (h : cap ≠ k) : adv (some ⟨b, 0, none⟩) cap k 1 = some ⟨b, k, none⟩ := by
  unfold adv; rw [if_neg h]
  by_cases h0 : k = 0
  · subst h0; simp [Addr.add]
  · simp [Addr.add, h0]
theorem fill1 (x : List Value) (k m : Nat) (z : Value) (h : x.length = k) : List.take 0 (List.replicate (k + m) z) ++ List.take k x ++ List.drop (0 + k) (List.replicate (k + m) z) = x ++ List.replicate m z := by
  subst h
  rw [List.take_of_length_le (Nat.le_refl _), List.take_zero, List.nil_append, Nat.zero_add, List.drop_replicate, Nat.add_sub_cancel_left]
theorem fill2 (x y : List Value) (k m : Nat) (z : Value) (h : x.length = k) (h' : y.length = m) : List.take k (x ++ List.replicate m z) ++ List.take m y ++ List.drop (k + m) (x ++ List.replicate m z) = x ++ y := by
  subst h; subst h'
  rw [List.take_left, List.take_of_length_le (Nat.le_refl _), List.drop_of_length_le (by simp), List.append_nil]
def sLen : Value → Nat | .slice _ n _ => n | _ => 0
theorem at_off {w : World} {b : Nat} {q : List UInt8} (h : Blk w b (B8s q)) (o : Nat) : BytesAt w (some ⟨b, o, none⟩) (q.drop o) :=
  .inr ⟨b, o, rfl, h.lt, fun i hi => by
    have hi' : o + i < (B8s q).length := by simp at hi ⊢; omega
    rw [h.cell (o + i) hi']; simp [List.getD, List.getElem?_drop]⟩
theorem hash_cells {w : World} {b : Nat} {r : R8} {n : Int} {a : Option Addr} {len cap : Nat} (h : Blk w b (hashC r n a len cap)) :
    w.cell? ⟨b, 0, none⟩ = some (.int .u32 (uv r.a)) ∧ w.cell? ⟨b, 1, none⟩ = some (.int .u32 (uv r.b)) ∧ w.cell? ⟨b, 2, none⟩ = some (.int .u32 (uv r.c)) ∧ w.cell? ⟨b, 3, none⟩ = some (.int .u32 (uv r.d)) ∧
    w.cell? ⟨b, 4, none⟩ = some (.int .u32 (uv r.e)) ∧ w.cell? ⟨b, 5, none⟩ = some (.int .u32 (uv r.f)) ∧ w.cell? ⟨b, 6, none⟩ = some (.int .u32 (uv r.g)) ∧ w.cell? ⟨b, 7, none⟩ = some (.int .u32 (uv r.h)) ∧
    w.cell? ⟨b, 8, none⟩ = some (.int .i64 n) ∧ w.cell? ⟨b, 9, none⟩ = some (.slice a len cap) :=
  ⟨h.cell 0 (by show 0 < 10; decide), h.cell 1 (by show 1 < 10; decide), h.cell 2 (by show 2 < 10; decide), h.cell 3 (by show 3 < 10; decide), h.cell 4 (by show 4 < 10; decide), h.cell 5 (by show 5 < 10; decide), h.cell 6 (by show 6 < 10; decide), h.cell 7 (by show 7 < 10; decide), h.cell 8 (by show 8 < 10; decide), h.cell 9 (by show 9 < 10; decide)⟩
theorem adv_some2 (b o k cap : Nat) (h : cap ≠ k) (h0 : 0 < k) : adv (some ⟨b, o, none⟩) cap k 1 = some ⟨b, o + k, none⟩ := by
  unfold adv; rw [if_neg h]; simp [Addr.add, Nat.ne_of_gt h0]
theorem hash_set {w : World} {b : Nat} {r r' : R8} {n : Int} {a : Option Addr} {len cap : Nat} (h : Blk w b (hashC r n a len cap)) :
    Blk ((((((((w.setCell ⟨b, 0, none⟩ (.int .u32 (uv r'.a))).setCell ⟨b, 1, none⟩ (.int .u32 (uv r'.b))).setCell ⟨b, 2, none⟩ (.int .u32 (uv r'.c))).setCell ⟨b, 3, none⟩ (.int .u32 (uv r'.d))).setCell ⟨b, 4, none⟩ (.int .u32 (uv r'.e))).setCell ⟨b, 5, none⟩ (.int .u32 (uv r'.f))).setCell ⟨b, 6, none⟩ (.int .u32 (uv r'.g))).setCell ⟨b, 7, none⟩ (.int .u32 (uv r'.h))) b (hashC r' n a len cap) :=
  (((((((h.set 0 _).set 1 _).set 2 _).set 3 _).set 4 _).set 5 _).set 6 _).set 7 _
theorem set8_other {w : World} {b c : Nat} {cs : List Value} {v0 v1 v2 v3 v4 v5 v6 v7 : Value} (h : Blk w c cs) (hne : c ≠ b) :
    Blk ((((((((w.setCell ⟨b, 0, none⟩ v0).setCell ⟨b, 1, none⟩ v1).setCell ⟨b, 2, none⟩ v2).setCell ⟨b, 3, none⟩ v3).setCell ⟨b, 4, none⟩ v4).setCell ⟨b, 5, none⟩ v5).setCell ⟨b, 6, none⟩ v6).setCell ⟨b, 7, none⟩ v7) c cs :=
  (((((((h.other _ hne _).other _ hne _).other _ hne _).other _ hne _).other _ hne _).other _ hne _).other _ hne _).other _ hne _
theorem set8_below {w0 w : World} {B b : Nat} {v0 v1 v2 v3 v4 v5 v6 v7 : Value} (h : Below B w0 w) (hb : B ≤ b) :
    Below B w0 ((((((((w.setCell ⟨b, 0, none⟩ v0).setCell ⟨b, 1, none⟩ v1).setCell ⟨b, 2, none⟩ v2).setCell ⟨b, 3, none⟩ v3).setCell ⟨b, 4, none⟩ v4).setCell ⟨b, 5, none⟩ v5).setCell ⟨b, 6, none⟩ v6).setCell ⟨b, 7, none⟩ v7) :=
  (((((((h.setCell hb _).setCell hb _).setCell hb _).setCell hb _).setCell hb _).setCell hb _).setCell hb _).setCell hb _
/-- a new digest's cells -/
abbrev zeroH : List Value := List.replicate 9 (.int .u32 0)

set_option maxRecDepth 100000 in
set_option maxHeartbeats 2000000 in
theorem put_core2 (s : R8) (n : Int) (a b : Option Addr) (ca cb : Nat) (l m : List UInt8) (h0 : 0 ≤ n) (hn : n ≤ 1125899906842624) (hle : (m.length : Int) ≤ 1125899906842624 - n) (hsz : l.length + m.length ≤ 2147483647)
    (w : World) (hl : BytesAt w a l) (hm : BytesAt w b m) (hk : KeysAt w) :
    Calls Tryd.prog 40 #[.agg (hashC s n a l.length ca).toArray, .slice b m.length cb] w fun e w' =>
      ∃ a' cap', e = .returned (.agg (hashC (putS s (l ++ m)) (n + m.length) a' (putR (l ++ m)).length cap').toArray) ∧ BytesAt w' a' (putR (l ++ m)) ∧ Below w.heap.size w w' ∧
        (putR (l ++ m) = [] ∨ ∃ off, a' = some ⟨w.heap.size + 1 + 1, off, none⟩) := by
  have hmk : ∀ w, (Instr.makeSlice 25 (.int .i64 (↑l.length + ↑m.length)) (.int .i64 (↑l.length + ↑m.length))).run Tryd.prog w = .ok (.slice (some ⟨w.heap.size, 0, none⟩) (l.length + m.length) (l.length + m.length)) (w.alloc (.cells (List.replicate (l.length + m.length) (.int .u8 0)).toArray 5)) := fun w => by
    have := run_mk elemB w .i64 .i64 (l.length + m.length) (by omega) (by unfold maxLen; omega) rfl
    rwa [Int.natCast_add] at this
  have Hl := Lib.hid hl
  have Hm := Lib.hid hm
  have Hk := Lib.hid hk
  clear hl hm hk
  obtain ⟨s0, s1, s2, s3, s4, s5, s6, s7⟩ := s
  go_enter Tryd.func40, Tryd.ntmps40
  go_wp2_with fail
  generalize hW : World.alloc _ (.cells (Array.replicate (l.length + m.length) (.int .u8 0)) _) = W1
  have hB0 : Blk W1 w.heap.size (hashC ⟨s0, s1, s2, s3, s4, s5, s6, s7⟩ (n + m.length) a l.length ca) := by rw [← hW]; exact ((Blk.new _ _ _).alloc _).alloc _
  have hB1 : Blk W1 (w.heap.size + 1) (hashC ⟨0, 0, 0, 0, 0, 0, 0, 0⟩ 0 none 0 0) := by
    rw [← hW]; have := (Blk.new (w.alloc (.cells (hashC ⟨s0, s1, s2, s3, s4, s5, s6, s7⟩ (n + m.length) a l.length ca).toArray 74)) (hashC ⟨0, 0, 0, 0, 0, 0, 0, 0⟩ 0 none 0 0) 74).alloc (.cells (Array.replicate (l.length + m.length) (.int .u8 0)) 5)
    rw [World.size_alloc] at this; exact this
  have hB2 : Blk W1 (w.heap.size + 1 + 1) (List.replicate (l.length + m.length) (.int .u8 0)) := by
    rw [← hW]; have := newRep ((w.alloc (.cells (hashC ⟨s0, s1, s2, s3, s4, s5, s6, s7⟩ (n + m.length) a l.length ca).toArray 74)).alloc (.cells (hashC ⟨0, 0, 0, 0, 0, 0, 0, 0⟩ 0 none 0 0).toArray 74)) (l.length + m.length) (.int .u8 0) 5
    rw [World.size_alloc, World.size_alloc] at this; exact this
  have hb1 : Below w.heap.size w W1 := by rw [← hW]; exact ((ba w _).trans ((ba _ _).mono (by simp))).trans ((ba _ _).mono (by simp; omega))
  clear hW
  obtain ⟨W2, hcp1, hC2, hoth1, hbel1⟩ := copy_into (P := Tryd.prog) hB2 (At.mono Hl.out hb1) (dT := 25) (sT := 25) (ty := 3) Tryd.underlying25 (by kernel_rfl) (some ⟨w.heap.size + 1 + 1, 0, none⟩) 0 (l.length + m.length) (l.length + m.length) l.length ca l.length (by simp) (by simp [Nat.min_def]) (fun _ => rfl) (by simp) (bytes_one l)
  have hB0' := hoth1 _ _ (by omega) hB0
  have hB1' := hoth1 _ _ (by omega) hB1
  have hb2 := hbel1 _ _ hb1 (by omega)
  clear hB0 hB1 hB2 hoth1 hbel1 hb1
  rw [hcp1]
  clear hcp1
  have hC2' : Blk W2 (w.heap.size + 1 + 1) (B8s l ++ List.replicate m.length (.int .u8 0)) := by
    rwa [fill1 (B8s l) l.length m.length _ (by simp)] at hC2
  clear hC2
  have c9 : W2.cell? ⟨w.heap.size, 9, none⟩ = some (.slice a l.length ca) := hB0'.cell 9 (by show 9 < 10; decide)
  have hsl : ∀ W, (Instr.sliceAt 25 (.slice (some ⟨w.heap.size + 1 + 1, 0, none⟩) (l.length + m.length) (l.length + m.length)) (some (.int .i64 l.length)) none none).run Tryd.prog W = .ok (.slice (adv (some ⟨w.heap.size + 1 + 1, 0, none⟩) (l.length + m.length) l.length 1) m.length m.length) W := fun W => by
    have := run_adv_l (P := Tryd.prog) Tryd.underlying25 size_u8 W (some ⟨w.heap.size + 1 + 1, 0, none⟩) (l.length + m.length) (l.length + m.length) l.length (by omega) (by omega)
    rwa [Int.toNat_natCast, Nat.add_sub_cancel_left] at this
  have HB0 := Lib.hid hB0'
  have HB1 := Lib.hid hB1'
  have HC := Lib.hid hC2'
  have hbs := hb2.size
  clear hB0' hB1' hC2'
  go_wp2_with fail
  obtain ⟨W3, hcp2, hC3, hoth2, hbel2⟩ := copy_into (P := Tryd.prog) HC.out (At.mono Hm.out hb2) (dT := 25) (sT := 25) (ty := 3) Tryd.underlying25 (by kernel_rfl) (adv (some ⟨w.heap.size + 1 + 1, 0, none⟩) (l.length + m.length) l.length 1) l.length m.length m.length m.length cb m.length (by simp) (by simp [Nat.min_def]) (fun h => adv_some _ _ _ (by omega)) (by simp) (bytes_one m)
  have hB0 := hoth2 _ _ (by omega) HB0.out
  have hB1 := hoth2 _ _ (by omega) HB1.out
  have hb3 := hbel2 _ _ hb2 (by omega)
  clear HB0 HB1 HC hoth2 hbel2 hb2 c9 hbs
  rw [hcp2]
  clear hcp2
  rw [fill2 (B8s l) (B8s m) l.length m.length _ (by simp) (by simp), ← List.map_append] at hC3
  obtain ⟨q, hq⟩ : ∃ q, q = l ++ m := ⟨_, rfl⟩
  rw [← hq] at hC3
  have hlen : l.length + m.length = q.length := by rw [hq]; simp
  have Hq := Lib.hid hq
  clear hq
  rw [hlen]
  rw [hlen] at hsz
  clear hmk hsl hle h0 hn
  obtain ⟨s, hs⟩ : ∃ s : R8, s = ⟨s0, s1, s2, s3, s4, s5, s6, s7⟩ := ⟨_, rfl⟩
  go_wp2_with fail
  go_loopw [5] (fun v wr => ∃ (k : Nat) (a' : Option Addr) (cap' : Nat), 64 * k ≤ q.length ∧ v = .slice a' (q.length - 64 * k) cap' ∧ q.length - 64 * k ≤ cap' ∧ (q.length = 64 * k ∨ a' = some ⟨w.heap.size + 1 + 1, 64 * k, none⟩) ∧ Blk wr w.heap.size (hashC (absN ⟨s0, s1, s2, s3, s4, s5, s6, s7⟩ q k) (n + m.length) a l.length ca) ∧ Blk wr (w.heap.size + 1) (hashC ⟨0, 0, 0, 0, 0, 0, 0, 0⟩ 0 none 0 0) ∧ Blk wr (w.heap.size + 1 + 1) (B8s q) ∧ Below w.heap.size w wr) (fun v _ => sLen v)
  case atStart => exact ⟨0, _, _, by omega, rfl, by omega, .inr rfl, hB0, hB1, hC3, hb3⟩
  case round =>
    clear hB0 hB1 hC3 hb3
    obtain ⟨k, a', cap', hk, rfl, hcap, ha', hB0, hB1, hC, hb⟩ := hrel
    by_cases h64 : 64 ≤ q.length - 64 * k
    · obtain rfl : a' = some ⟨w.heap.size + 1 + 1, 64 * k, none⟩ := by
        rcases ha' with h | h
        · omega
        · exact h
      have Hk1 := Lib.hid (KeysAt.mono Hk.out hb)
      have Hat := Lib.hid (BytesAt.take (at_off hC (64 * k)) 64)
      have Hl64 := Lib.hid (show ((q.drop (64 * k)).take 64).length = 64 by rw [List.length_take, List.length_drop]; omega)
      have Hnext := Lib.hid (show absN ⟨s0, s1, s2, s3, s4, s5, s6, s7⟩ q (k + 1) = blockF (absN ⟨s0, s1, s2, s3, s4, s5, s6, s7⟩ q k) ((q.drop (64 * k)).take 64) from rfl)
      generalize (q.drop (64 * k)).take 64 = bl at Hat Hl64 Hnext
      obtain ⟨r, hr⟩ : ∃ r, r = absN ⟨s0, s1, s2, s3, s4, s5, s6, s7⟩ q k := ⟨_, rfl⟩
      rw [← hr] at hB0 Hnext
      clear hr
      obtain ⟨c0, c1, c2, c3, c4, c5, c6, c7, -, -⟩ := hash_cells hB0
      have HB0 := Lib.hid hB0
      have HB1 := Lib.hid hB1
      have HC := Lib.hid hC
      have hbs := hb.size
      clear hB0 hB1 hC ha'
      go_wp2_with fail
      have hsl9 : ∀ W, (Instr.sliceAt 25 (.slice (some ⟨w.heap.size + 1 + 1, 64 * k, none⟩) (q.length - 64 * k) cap') (some (.int .i64 64)) none none).run Tryd.prog W = .ok (.slice (adv (some ⟨w.heap.size + 1 + 1, 64 * k, none⟩) cap' 64 1) (q.length - 64 * k - 64) (cap' - 64)) W := fun W =>
        run_adv_l (P := Tryd.prog) Tryd.underlying25 size_u8 W (some ⟨w.heap.size + 1 + 1, 64 * k, none⟩) (q.length - 64 * k) cap' 64 (by omega) (by omega)
      have Hcon := Lib.hid (block_any r (some ⟨w.heap.size + 1 + 1, 64 * k, none⟩) cap' bl wr.drew Hl64.out Hat.out Hk1.out)
      go_region_with ((go_at_call 47; refine Calls.mono Hcon.out ?_; rintro e w' ⟨rfl, hb'⟩; obtain ⟨d0, d1, d2, d3, d4, d5, d6, d7, -, -⟩ := hash_cells (HB0.out.drew.below hb' HB0.out.lt); have fz := (HB0.out.drew.below hb' HB0.out.lt).frozen))
      all_goals
        go_wp2_with fail
        exact ⟨⟨k + 1, _, _, by omega, by rw [show q.length - 64 * (k + 1) = q.length - 64 * k - 64 by omega], by omega, by
            by_cases hc : cap' = 64
            · exact .inl (by omega)
            · exact .inr (by rw [adv_some2 _ _ _ _ hc (by decide), Nat.mul_add]),
          by rw [Hnext.out]; exact hash_set (HB0.out.drew.below hb' HB0.out.lt), set8_other (HB1.out.drew.below hb' HB1.out.lt) (by omega), set8_other (HC.out.drew.below hb' HC.out.lt) (by omega), set8_below (hb.drew.trans (hb'.mono hb.size)) (Nat.le_refl _)⟩, by simp [sLen]; omega⟩
    · have hkn : k = nb q := by unfold nb; omega
      have Hput := Lib.hid (show absN ⟨s0, s1, s2, s3, s4, s5, s6, s7⟩ q k = putS ⟨s0, s1, s2, s3, s4, s5, s6, s7⟩ q by rw [hkn]; rfl)
      have Hrest := Lib.hid (show q.drop (64 * k) = putR q by rw [hkn]; rfl)
      clear hkn
      generalize absN ⟨s0, s1, s2, s3, s4, s5, s6, s7⟩ q k = r at hB0 Hput
      have f9 := hB0.frozen 9
      obtain ⟨-, -, -, -, -, -, -, -, -, c9⟩ := hash_cells hB0
      have HB0 : Hid (Blk (wr.setCell ⟨w.heap.size, 9, none⟩ (.slice a' (q.length - 64 * k) cap')) w.heap.size (hashC r (n + m.length) a' (q.length - 64 * k) cap')) := hB0.set 9 _
      have HB1 : Hid (Blk (wr.setCell ⟨w.heap.size, 9, none⟩ (.slice a' (q.length - 64 * k) cap')) (w.heap.size + 1) (hashC ⟨0, 0, 0, 0, 0, 0, 0, 0⟩ 0 none 0 0)) := hB1.other _ (by simp) _
      have HI := Lib.hid (show (Tryd.prog.info? 74).map (·.size) = some 10 by kernel_rfl)
      have Hb := Lib.hid (show Below w.heap.size w (wr.setCell ⟨w.heap.size, 9, none⟩ (.slice a' (q.length - 64 * k) cap')) from hb.setCell (Nat.le_refl _) _)
      have Hat2 : Hid (BytesAt ((wr.setCell ⟨w.heap.size, 9, none⟩ (.slice a' (q.length - 64 * k) cap')).setRow (w.heap.size + 1) (hashC r (n + m.length) a' (q.length - 64 * k) cap').toArray) a' (q.drop (64 * k))) := by
        rcases ha' with h | h
        · exact .inl (by rw [List.drop_of_length_le (by omega)]; rfl)
        · rw [h]; exact at_off ((hC.other _ (by simp; omega) _).rowOther _ (by omega) _) _
      have Ha' := Lib.hid ha'
      clear hB0 hB1 hC ha'
      go_wp2_with (first
        | (refine wpList_load_blk 74 (.tmp 2) w.heap.size rfl rfl rfl HB0.out Tryd.underlying74 rfl HI.out ?_)
        | (refine wpList_store_blk 74 (.tmp 4) (.tmp 53) (w.heap.size + 1) rfl rfl rfl rfl HB1.out HI.out rfl rfl ?_))
      refine bodyPost_ret (v := .agg (hashC r (n + m.length) a' (q.length - 64 * k) cap').toArray) (results_blk rfl _ _ (w.heap.size + 1) rfl (HB1.out.row _) Tryd.underlying74 rfl HI.out) rfl ⟨a', cap', ?_, ?_, below_setRow Hb.out (by omega) _, ?_⟩
      · rw [← Hq.out, ← Hput.out, ← Hrest.out, List.length_drop]; rfl
      · rw [← Hq.out, ← Hrest.out]; exact Hat2.out
      · rw [← Hq.out, ← Hrest.out]
        rcases Ha'.out with h | h
        · exact .inl (List.drop_of_length_le (by omega))
        · exact .inr ⟨_, h⟩
theorem put_core (s : R8) (n : Int) (a b : Option Addr) (ca cb : Nat) (l m : List UInt8) (h0 : 0 ≤ n) (hn : n ≤ 1125899906842624) (hle : (m.length : Int) ≤ 1125899906842624 - n) (hsz : l.length + m.length ≤ 2147483647)
    (w : World) (hl : BytesAt w a l) (hm : BytesAt w b m) (hk : KeysAt w) :
    Calls Tryd.prog 40 #[.agg (hashC s n a l.length ca).toArray, .slice b m.length cb] w fun e w' =>
      ∃ a' cap', e = .returned (.agg (hashC (putS s (l ++ m)) (n + m.length) a' (putR (l ++ m)).length cap').toArray) ∧ BytesAt w' a' (putR (l ++ m)) ∧ Below w.heap.size w w' :=
  (put_core2 s n a b ca cb l m h0 hn hle hsz w hl hm hk).mono fun _ _ ⟨a', c', h1, h2, h3, _⟩ => ⟨a', c', h1, h2, h3⟩
theorem put_any (s : R8) (n : Int) (a b : Option Addr) (la ca lb cb : Nat) (l m : List UInt8) (h0 : 0 ≤ n) (hn : n ≤ 1125899906842624) (ha : la = l.length) (hb : lb = m.length) (hle : (lb : Int) ≤ 1125899906842624 - n) (hsz : la + lb ≤ 2147483647)
    (w : World) (hl : BytesAt w a l) (hm : BytesAt w b m) (hk : KeysAt w) :
    Calls Tryd.prog 40 #[.agg (hashC s n a la ca).toArray, .slice b lb cb] w fun e w' =>
      ∃ a' cap', e = .returned (.agg (hashC (putS s (l ++ m)) (n + lb) a' (putR (l ++ m)).length cap').toArray) ∧ BytesAt w' a' (putR (l ++ m)) ∧ Below w.heap.size w w' := by
  subst ha; subst hb; exact put_core s n a b ca cb l m h0 hn hle hsz w hl hm hk
end Go.Proofs.YthmcmkdncaccbaaDoor
