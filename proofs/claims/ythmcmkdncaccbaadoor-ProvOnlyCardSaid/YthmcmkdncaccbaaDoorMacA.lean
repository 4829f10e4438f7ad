/- Tags of keys: what they are, in plain Lean; the program's Block and Same. -/
import Derived.Test.YthmcmkdncaccbaaDoorMacU
import Derived.BigQuiet
import Derived.Deep.QuietTactic
set_option linter.unusedSimpArgs false
set_option linter.unusedVariables false
namespace Go.Proofs.YthmcmkdncaccbaaDoor
open Go.RowKit

def padK (k : List UInt8) : List UInt8 := k ++ List.replicate (64 - k.length) 0
def ownK (key : List UInt8) : List UInt8 := if 64 < key.length then ofF key else key
/-- a key's block -/
def blockK (key : List UInt8) : List UInt8 := padK (ownK key)
theorem ownK_len (key : List UInt8) : (ownK key).length ≤ 64 := by
  unfold ownK; split
  · rw [ofF_length]; decide
  · omega
theorem padK_len (k : List UInt8) (h : k.length ≤ 64) : (padK k).length = 64 := by simp [padK]; omega
theorem blockK_len (key : List UInt8) : (blockK key).length = 64 := padK_len _ (ownK_len key)
def xorK (l : List UInt8) (b : UInt8) : List UInt8 := l.map (· ^^^ b)
theorem xorK_len (l : List UInt8) (b : UInt8) : (xorK l b).length = l.length := by simp [xorK]
/-- the tag of bytes under a key -/
def tagF (key b : List UInt8) : List UInt8 := ofF (xorK (blockK key) 92 ++ ofF (xorK (blockK key) 54 ++ b))
theorem tagF_len (key b : List UInt8) : (tagF key b).length = 32 := ofF_length _

@[go_sem high] theorem xor8 (t : TypeId) (a b : UInt8) : binOp .xor t (.int .u8 (bv a)) (.int .u8 (bv b)) = pure (.int .u8 (bv (a ^^^ b))) := by
  show pure (Value.int .u8 (IntKind.u8.wrap (BitVec.ofInt 8 (bv a) ^^^ BitVec.ofInt 8 (bv b)).toNat)) = _
  rw [ofInt_bv, ofInt_bv, wrap_nat8 _ (BitVec.isLt _)]; rfl
@[go_sem high] theorem or8 (t : TypeId) (a b : UInt8) : binOp .or t (.int .u8 (bv a)) (.int .u8 (bv b)) = pure (.int .u8 (bv (a ||| b))) := by
  show pure (Value.int .u8 (IntKind.u8.wrap (BitVec.ofInt 8 (bv a) ||| BitVec.ofInt 8 (bv b)).toNat)) = _
  rw [ofInt_bv, ofInt_bv, wrap_nat8 _ (BitVec.isLt _)]; rfl

theorem wpList_copy_blk {P : Program} {ops : Array Oper} {rest : List Oper} {o : Oper} {a : Act} {w : World} {Q : Exit → Act → World → Prop} (d s : Operand) (dT sT elem : TypeId) (hgd : o.guard = Option.none)
    (ho : o.op = .call { callee := .builtin .copy, args := #[d, s], argTypes := #[dT, sT] }) {dp sp : Option Addr} (dLen dCap sLen sCap : Nat) (hd : a.eval d = .slice dp dLen dCap) (hs : a.eval s = .slice sp sLen sCap)
    {b : Nat} {cs scs : List Value} (hB : Blk w b cs) (hS : At w sp scs) (hu : P.underlying dT = some (.slice elem)) (hsz : (P.info? elem).map (·.size) = some 1)
    (off n : Nat) (hl : sLen = scs.length) (hn : n = Nat.min sLen dLen) (hdp : 0 < n → dp = some ⟨b, off, Option.none⟩) (hfit : off + n ≤ cs.length) (h1 : ∀ v ∈ scs, v.oneCell' = true)
    (h : ∀ w2, Blk w2 b (cs.take off ++ scs.take n ++ cs.drop (off + n)) → (∀ b' ds, b' ≠ b → Blk w b' ds → Blk w2 b' ds) → (∀ B w0, Below B w0 w → B ≤ b → Below B w0 w2) → wpList P ops Q rest (a.put o.dst (goInt n)) w2) :
    wpList P ops Q (o :: rest) a w := by
  refine wpList_plain hgd fun K hK => ?_
  obtain ⟨w2, hr, h2, h3, h4⟩ := copy_into (P := P) hB hS (dT := dT) (sT := sT) (ty := o.type) hu hsz dp off dLen dCap sLen sCap n hl hn hdp hfit h1
  unfold Oper.wp execOp
  simp only [ho, resolve, List.map_toArray, List.map_cons, List.map_nil, hd, hs, invoke, builtin, Sem.run_bind, Sem.run_pure, Result.andThen_ok, hr]
  exact hK _ _ (h w2 h2 h3 h4)

/-- noughts -/
def zs64 : List Value := B8s (List.replicate 64 0)
theorem fillK (k : List UInt8) (h : k.length ≤ 64) : zs64.take 0 ++ (B8s k).take k.length ++ zs64.drop (0 + k.length) = B8s (padK k) := by
  unfold zs64 padK
  rw [List.take_zero, List.nil_append, Nat.zero_add, List.take_of_length_le (by simp), ← List.map_drop, List.drop_replicate]
  simp
theorem mk64 (w : World) : (Instr.makeSlice 25 (.int .i64 64) (.int .i64 64)).run Tryd.prog w = .ok (.slice (some ⟨w.heap.size, 0, none⟩) 64 64) (w.alloc (.cells zs64.toArray 5)) := by
  have := run_mk elemB w .i64 .i64 64 (by decide) (by decide) rfl
  rw [show zs64 = List.replicate 64 (.int .u8 0) from rfl]
  exact this

set_option maxRecDepth 100000 in
set_option maxHeartbeats 1000000 in
theorem macBlock_any (a : Option Addr) (c : Nat) (key : List UInt8) (hk : key.length ≤ 100000) (w : World) (hkey : BytesAt w a key) (hks : KeysAt w) :
    Calls Tryd.prog 38 #[.slice a key.length c] w fun e w' => e = .returned (.slice (some ⟨w.heap.size, 0, none⟩) 64 64) ∧ Blk w' w.heap.size (B8s (blockK key)) ∧ Below w.heap.size w w' := by
  obtain ⟨Z, hZ⟩ : ∃ Z, Z = zs64 := ⟨_, rfl⟩
  have hmk := mk64
  rw [← hZ] at hmk
  have HF := Lib.hid fillK
  rw [← hZ] at HF
  have HKey := Lib.hid hkey
  have Hks := Lib.hid hks
  have HOf := Lib.hid (fun W' => of_any a key.length c key rfl (by omega) W')
  have HZ := Lib.hid (show Z.length = 64 by rw [hZ]; rfl)
  clear hkey hks hZ
  by_cases h : 64 < key.length
  · have hd : (64 : Int) < (key.length : Int) := by omega
    have Ho := Lib.hid (show blockK key = padK (ofF key) by unfold blockK ownK; rw [if_pos h])
    go_enter Tryd.func38, Tryd.ntmps38
    go_wp2_with fail
    generalize hW : World.alloc w _ = W
    have hB : Blk W w.heap.size Z := by rw [← hW]; exact Blk.new w Z _
    have hb : Below w.heap.size w W := by rw [← hW]; exact ba w _
    clear hW hmk
    refine (HOf.out W (HKey.out.mono hb) (Hks.out.mono hb)).mono ?_; rintro e w2 ⟨a2, c2, rfl, hat2, hb2⟩
    have hl2 : (ofF key).length = 32 := ofF_length key
    rw [hl2]
    have HB2 := Lib.hid (hB.up hb2)
    have Hb2 := Lib.hid (bt hb hb2)
    have Hat2 := Lib.hid hat2
    have Hl2 := Lib.hid hl2
    clear hB hb hat2 hb2 hl2
    go_wp2_with (refine wpList_copy_blk (.tmp 10) (.tmp 11) 25 25 5 rfl rfl 64 64 32 c2 rfl rfl HB2.out Hat2.out Tryd.underlying25 (by kernel_rfl) 0 32 (by simp [Hl2.out]) rfl (fun _ => rfl) (by rw [HZ.out]; decide) (bytes_one _) ?_; intro w3 h3 _ h4; have H3 := Lib.hid h3; have H4 := Lib.hid (h4 _ _ Hb2.out (Nat.le_refl _)); clear h3 h4)
    go_ret
    have := HF.out (ofF key) (by rw [Hl2.out]; decide)
    rw [Hl2.out] at this
    exact ⟨rfl, by rw [Ho.out, ← this]; exact H3.out, H4.out⟩
  · have hd : ¬ (64 : Int) < (key.length : Int) := by omega
    have Ho := Lib.hid (show blockK key = padK key by unfold blockK ownK; rw [if_neg h])
    have Hle := Lib.hid (show key.length ≤ 64 by omega)
    go_enter Tryd.func38, Tryd.ntmps38
    go_wp2_with (refine wpList_copy_blk (.tmp 10) (.tmp 11) 25 25 5 rfl rfl 64 64 key.length c rfl rfl (Blk.new w Z _) (HKey.out.mono (ba w _)) Tryd.underlying25 (by kernel_rfl) 0 key.length (by simp) (Nat.min_eq_left Hle.out).symm (fun _ => rfl) (by rw [HZ.out, Nat.zero_add]; exact Hle.out) (bytes_one _) ?_; intro w3 h3 _ h4; have H3 := Lib.hid h3; have H4 := Lib.hid (h4 _ _ (ba w (.cells Z.toArray 5)) (Nat.le_refl _)); clear h3 h4)
    go_ret
    exact ⟨rfl, by rw [Ho.out, ← HF.out key Hle.out]; exact H3.out, H4.out⟩

theorem or_zero8 (u x y : UInt8) : (u ||| (x ^^^ y) = 0) ↔ (u = 0 ∧ x = y) := by
  constructor
  · intro h
    have h1 : (u.toBitVec ||| (x.toBitVec ^^^ y.toBitVec)) = 0#8 := by rw [← UInt8.toBitVec_xor, ← UInt8.toBitVec_or, h]; rfl
    have h2 := BitVec.or_eq_zero_iff.1 h1
    exact ⟨UInt8.toBitVec_inj.1 h2.1, UInt8.toBitVec_inj.1 (BitVec.xor_eq_zero_iff.1 h2.2)⟩
  · rintro ⟨rfl, rfl⟩
    simp
theorem take_eq_snoc (l m : List UInt8) (k : Nat) (hl : k < l.length) (hm : k < m.length) : l.take (k + 1) = m.take (k + 1) ↔ (l.take k = m.take k ∧ l.getD k 0 = m.getD k 0) := by
  rw [take_snoc l k hl 0, take_snoc m k hm 0]
  constructor
  · intro h
    have h1 := List.append_inj h (by simp [List.length_take]; omega)
    exact ⟨h1.1, by simpa using h1.2⟩
  · rintro ⟨h1, h2⟩
    rw [h1, h2]

set_option maxRecDepth 100000 in
set_option maxHeartbeats 1000000 in
theorem macSame_any (a b : Option Addr) (ca cb : Nat) (l m : List UInt8) (hll : l.length ≤ maxLen) (hmm : m.length ≤ maxLen) (w : World) (hl : BytesAt w a l) (hm : BytesAt w b m) :
    Calls Tryd.prog 28 #[.slice a l.length ca, .slice b m.length cb] w fun e w' => e = .returned (.bool (l == m)) ∧ Below w.heap.size w w' := by
  unfold maxLen at hll hmm
  have Hl := Lib.hid hl
  have Hm := Lib.hid hm
  clear hl hm
  by_cases hne : l.length = m.length
  · have hd : ((l.length : Int) != (m.length : Int)) = false := by simp [hne]
    have Hne := Lib.hid hne
    have hm2 : m.length = l.length := hne.symm
    generalize hML : m.length = ML at *
    subst hm2
    have HML := Lib.hid hML
    clear hML hne
    go_enter Tryd.func28, Tryd.ntmps28
    go_wp2_with fail
    go_loopw [5, 6, 14] (fun v5 v6 v14 wx => ∃ (k : Nat) (u : UInt8), k ≤ l.length ∧ v14 = .int .i64 (k : Int) ∧ v5 = .int .u8 (bv u) ∧ (u = 0 ↔ l.take k = m.take k) ∧ Below w.heap.size w wx) (fun _ _ v14 _ => l.length - (intOf v14).toNat)
    case atStart => exact ⟨0, 0, Nat.zero_le _, rfl, rfl, by simp, Below.refl _ _⟩
    case round =>
      obtain ⟨k, u, hk, rfl, rfl, hu, hb⟩ := hrel
      have Hu := Lib.hid hu
      have Hb := Lib.hid hb
      clear hu hb
      by_cases hlt : k < l.length
      · obtain ⟨ab, ao, rfl, hal, hac⟩ := bytes_cell Hl.out (by omega)
        obtain ⟨bb, bo, rfl, hbl, hbc⟩ := bytes_cell Hm.out (by rw [HML.out]; omega)
        have c0 : wr.cell? ⟨ab, ao + k, none⟩ = some (.int .u8 (bv (l.getD k 0))) := by rw [Hb.out.cell (p := ⟨ab, ao + k, none⟩) hal]; exact hac k hlt
        have c1 : wr.cell? ⟨bb, bo + k, none⟩ = some (.int .u8 (bv (m.getD k 0))) := by rw [Hb.out.cell (p := ⟨bb, bo + k, none⟩) hbl]; exact hbc k (by rw [HML.out]; exact hlt)
        have HT := Lib.hid (take_eq_snoc l m k hlt (by rw [HML.out]; exact hlt))
        clear hac hbc
        generalize l.getD k 0 = x at c0 HT
        generalize m.getD k 0 = y at c1 HT
        have hi0 : (0 : Int) ≤ (k : Int) := by omega
        have hi1 : (k : Int) < (l.length : Int) := by omega
        go_wp2_with fail
        go_quiet (fail)
        go_wp2_with fail
        go_roundw
        case rel => exact ⟨k + 1, u ||| (x ^^^ y), by omega, by go_num, rfl, by rw [or_zero8, HT.out, Hu.out], btn Hb.out _⟩
        case measure => simp [intOf]; omega
      · obtain rfl : k = l.length := by omega
        have hv : (bv u == 0) = (l == m) := by
          have h := Hu.out
          rw [List.take_length, List.take_of_length_le (by rw [HML.out]; exact Nat.le_refl _)] at h
          rw [Bool.eq_iff_iff, beq_iff_eq, beq_iff_eq, ← h]
          exact ⟨fun h => bv_inj.1 (by rw [h]; rfl), fun h => by rw [h]; rfl⟩
        go_wp2_with fail
        go_ret
        exact ⟨rfl, Hb.out⟩
  · have hd : ((l.length : Int) != (m.length : Int)) = true := by simp; omega
    have hv : (l == m) = false := beq_eq_false_iff_ne.2 fun h => hne (by rw [h])
    rw [hv]
    clear hne hv
    go_enter Tryd.func28, Tryd.ntmps28
    go_wp2_with fail
    go_ret
    exact ⟨rfl, Below.refl _ _⟩
end Go.Proofs.YthmcmkdncaccbaaDoor
