/- What is told of a label and parts: both walks; Derive of both. -/
import Derived.Test.YtbpmgjnjcdjdfaaDoorMacD
import Derived.Lib.AppendStr
import Derived.Lib.ConvBytes
import Derived.Lib.AtoiErrMem
import Derived.Deep.RegionHeld3
set_option linter.unusedSimpArgs false
set_option linter.unusedVariables false
namespace Go.Proofs.YtbpmgjnjcdjdfaaDoor
open Go.RowKit

theorem OwnR.up {w0 w w' : World} {v : Value} {l : List UInt8} (h : OwnR w0 w v l) (hb : Below w.heap.size w w') : OwnR w0 w' v l := OwnR.of rfl (h.buf.later hb)
theorem step_ownR {ops : Array Oper} {o : Oper} {a : Act} {w : World} {K : Act → World → Prop} {Q : Exit → Act → World → Prop} {F : Prop} (s x : Operand) (hgd : o.guard = Option.none)
    (ho : o.op = .call { callee := .builtin .append, args := #[s, x], argTypes := #[22, 22] }) {w0 : World} {v : Value} {l : List UInt8} (hs : a.eval s = v) (hB : OwnR w0 w v l)
    {sp : Option Addr} {m c : Nat} (news : List UInt8) (hx : a.eval x = .slice sp m c) (hS : BytesAt w sp news) (hl : m = news.length) (h63 : l.length + m ≤ 140737488355328) (l2 : List UInt8) (hl2 : l2 = l ++ news)
    (hK : ∀ a' cap' w', OwnR w0 w' (.slice a' l2.length cap') l2 → K (a.put o.dst (.slice a' l2.length cap')) w') : if Region.wanted o (yielded ops a.tmps) = true then Oper.wp Tryd.prog o a w K Q else F := by
  subst hl2; subst hl
  exact step_buf s x 22 hgd ho elemB hs hB.buf hx hS (by simp) (bytes_one news) (by omega) (by decide) (l ++ news).length (by simp) (B8s (l ++ news)) (by simp) fun a' cap' w' hb => hK a' cap' w' (OwnR.of rfl hb)
/-- a part as it is told -/
def partB (x : List UInt8) : List UInt8 := lowByte ((x.length : Int) / 256) :: lowByte (x.length : Int) :: x
def toldN (lab : List UInt8) (rows : List (List UInt8)) (k : Nat) : List UInt8 := lowByte (lab.length : Int) :: (lab ++ ((rows.take k).map partB).flatten)
/-- what is told of a label and parts -/
def toldF (lab : List UInt8) (rows : List (List UInt8)) : List UInt8 := toldN lab rows rows.length
theorem toldN_zero (lab : List UInt8) (rows : List (List UInt8)) : toldN lab rows 0 = [lowByte (lab.length : Int)] ++ lab := by simp [toldN]
theorem toldN_succ (lab : List UInt8) (rows : List (List UInt8)) (k : Nat) (h : k < rows.length) : toldN lab rows (k + 1) = (toldN lab rows k ++ [lowByte (((rows.getD k []).length : Int) / 256), lowByte ((rows.getD k []).length : Int)]) ++ rows.getD k [] := by
  unfold toldN; rw [take_snoc rows k h []]; simp [partB]
theorem toldN_len (lab : List UInt8) (rows : List (List UInt8)) : ∀ k, k ≤ rows.length → (toldN lab rows k).length = 1 + lab.length + 2 * k + sumL (rows.take k)
  | 0, _ => by simp [toldN, sumL]; omega
  | k + 1, h => by
    rw [toldN_succ lab rows k (by omega), sumL_snoc rows k (by omega)]
    simp only [List.length_append, List.length_cons, List.length_nil]
    rw [toldN_len lab rows k (by omega)]; omega
theorem lowByte_mod (n : Int) : lowByte (n % 256) = lowByte n := by
  unfold lowByte; rw [Int.emod_emod_of_dvd _ (Int.dvd_refl 256)]

/-- an append of a string's bytes onto bytes of the call's own -/
theorem wpList_ownRS {ops : Array Oper} {rest : List Oper} {o : Oper} {a : Act} {w : World} {Q : Exit → Act → World → Prop} (s x : Operand) (hgd : o.guard = Option.none)
    (ho : o.op = .call { callee := .builtin .append, args := #[s, x], argTypes := #[22, 9] }) {w0 : World} {v : Value} {l : List UInt8} (hs : a.eval s = v) (hB : OwnR w0 w v l)
    (str : ByteArray) (hx : a.eval x = .string str) (h63 : l.length + str.size ≤ 1000000) (l2 : List UInt8) (hl2 : l2 = l ++ str.data.toList)
    (h : ∀ a' cap' w', OwnR w0 w' (.slice a' l2.length cap') l2 → wpList Tryd.prog ops Q rest (a.put o.dst (.slice a' l2.length cap')) w') : wpList Tryd.prog ops Q (o :: rest) a w := by
  subst hl2
  refine wpList_plain hgd fun K hK => ?_
  obtain ⟨i, hi, hz, hsz, hby⟩ := elemB.info
  obtain ⟨v', w', hr, ho', hg, -⟩ := Lib.run_append_own_string (P := Tryd.prog) w w0.heap.size 22 9 o.type 5 i elemB.slice Tryd.underlying9 hi hz hsz hby v l.length (B8s l) hB.own str (by unfold maxLen; omega) (by omega) hB.bel.size
  have hn : (l ++ str.data.toList).length = l.length + str.size := by rw [List.length_append, Array.length_toList]; rfl
  obtain ⟨a', cap', rfl, -, -⟩ := own_slice ho'
  have hR : OwnR w0 w' (.slice a' (l.length + str.size) cap') (l ++ str.data.toList) := by
    refine ⟨?_, below_own hB.bel hB.own hg hB.bel.size (Nat.le_refl _)⟩
    rw [hn, B8s_app]; exact ho'
  unfold Oper.wp execOp
  simp only [ho, resolve, List.map_toArray, List.map_cons, List.map_nil, hs, hx, invoke, builtin, Sem.run_bind, Sem.run_pure, Result.andThen_ok, hr]
  have hh := h a' cap' w' (hn ▸ hR)
  rw [hn] at hh
  exact hK _ _ hh
theorem strBytes {w : World} (str : ByteArray) : BytesAt (Lib.bytesWorld w 5 str) (some ⟨w.heap.size, 0, none⟩) str.data.toList := by
  refine .inr ⟨w.heap.size, 0, rfl, by rw [Lib.bytesWorld_size]; omega, fun i hi => ?_⟩
  have hi' : i < str.data.toList.length := by simpa using hi
  rw [Nat.zero_add, getD_B8 _ _ hi', Lib.bytesWorld_cell w 5 str i (by rw [Array.length_toList] at hi'; exact hi')]
  rfl
theorem strBytes' {w : World} (str : ByteArray) (n : Nat) (hn : n = w.heap.size) : BytesAt (Lib.bytesWorld w 5 str) (some ⟨n, 0, none⟩) str.data.toList := by
  subst hn; exact strBytes str
theorem str_size (s : ByteArray) : s.data.toList.length = s.size := by rw [Array.length_toList]; rfl

set_option maxRecDepth 100000 in
set_option maxHeartbeats 2000000 in
theorem told_any (str : ByteArray) (a : Option Addr) (c : Nat) (rows : List (List UInt8)) (hs : str.size ≤ 1000) (hr : rows.length ≤ 100) (ht : sumL rows ≤ 10000) (w : World) (hrows : RowsAt w a rows) :
    Calls Tryd.prog 24 #[.string str, .slice a rows.length c] w (BytesOut w (toldF str.data.toList rows)) := by
  have Hr := Lib.hid hrows
  have HL := Lib.hid (toldN_len str.data.toList rows)
  have HSt := Lib.hid (toldN_succ str.data.toList rows)
  have HSl := Lib.hid (sumL_le rows)
  have HT := Lib.hid (show toldF str.data.toList rows = toldN str.data.toList rows rows.length from rfl)
  obtain ⟨T0, hT0⟩ : ∃ T0, T0 = toldN str.data.toList rows 0 := ⟨_, rfl⟩
  have HT0 := Lib.hid (show T0 = [lowByte (str.size : Int)] ++ str.data.toList by rw [hT0, toldN_zero, str_size])
  have HT0e := Lib.hid hT0
  have hsz := Lib.hid (str_size str)
  have hw8 := wrap8 (str.size : Int)
  have hcv := fun W => Lib.run_convert_string_bytes (P := Tryd.prog) W 9 22 5 str Tryd.underlying9 Tryd.underlying22 Tryd.underlying5
  have hO : OwnR w (Lib.bytesWorld (w.alloc (.cells #[.int .u8 (bv (lowByte (str.size : Int)))] 5)) 5 str) (.slice (some ⟨w.heap.size, 0, none⟩) 1 1) [lowByte (str.size : Int)] :=
    OwnR.of rfl ((Buf.made w 5 (B8s [lowByte (str.size : Int)]) 1 1 (Nat.le_refl _) rfl (by decide)).later (Lib.bytesWorld_below _ _ _))
  have HO := Lib.hid hO
  clear hrows hO hT0
  generalize lowByte (str.size : Int) = lb at hw8 HO HT0
  go_enter Tryd.func24, Tryd.ntmps24
  go_wp2_with (at_builtin; go_must (refine wpList_ownR (.tmp 10) (.tmp 12) rfl rfl rfl HO.out str.data.toList rfl (strBytes' str _ (size_alloc w _).symm) hsz.out.symm (by simp; omega) T0 HT0.out ?_; intro a1 c1 w1 h1; have H1 := Lib.hid h1; clear h1))
  go_loopw [5, 6] (fun v5 v6 wx => ∃ (k : Nat) (L : List UInt8) (o : Option Addr) (oc : Nat), k ≤ rows.length ∧ v6 = .int .i64 (k : Int) ∧ L = toldN str.data.toList rows k ∧ v5 = .slice o L.length oc ∧ OwnR w wx v5 L) (fun _ v6 _ => rows.length - (intOf v6).toNat)
  case atStart => exact ⟨0, T0, a1, c1, Nat.zero_le _, rfl, HT0e.out, rfl, H1.out⟩
  case round =>
    clear hw8 hcv H1
    obtain ⟨k, L, o, oc, hk, rfl, hL, rfl, hO⟩ := hrel
    have HLe := Lib.hid hL
    have hLl : L.length ≤ 20000 := by rw [hL, HL.out k hk, hsz.out]; have := HSl.out k; omega
    have HO := Lib.hid hO
    clear hL hO
    by_cases hlt : k < rows.length
    · obtain ⟨b, off, p, cc, rfl, hbl, hcell, hp1, hp2, hat⟩ := Hr.out.row k hlt
      have hxl : (rows.getD k []).length ≤ 10000 := by
        have h1 := HSl.out (k + 1); have h2 := sumL_snoc rows k hlt; omega
      have HN := Lib.hid (HSt.out k hlt)
      rw [← HLe.out] at HN
      have HC := Lib.hid (show ∀ w', Below w.heap.size w w' → w'.cell? ⟨b, off + k, none⟩ = some (.slice p (rows.getD k []).length cc) from fun w' h => by rw [h.cell (p := ⟨b, off + k, none⟩) hbl]; exact hcell)
      have Hat := Lib.hid hat
      clear hcell hat hp1 hp2
      generalize rows.getD k [] = x at HN HC Hat hxl
      obtain ⟨q, hq⟩ : ∃ q : Int, q = (x.length : Int) / 256 := ⟨_, rfl⟩
      obtain ⟨r, hr2⟩ : ∃ r : Int, r = (x.length : Int) % 256 := ⟨_, rfl⟩
      have hb1 : IntKind.u8.wrap q = bv (lowByte ((x.length : Int) / 256)) := by rw [wrap8, hq]
      have hb2 : IntKind.u8.wrap r = bv (lowByte (x.length : Int)) := by rw [wrap8, hr2, lowByte_mod]
      have hq0 : 0 ≤ q ∧ q ≤ 100000 := by omega
      have hd1 : ((x.length : Int)).tdiv 256 = q := by rw [hq, Int.tdiv_eq_ediv_of_nonneg (by omega)]
      have hd2 : ((x.length : Int)).tmod 256 = r := by rw [hr2, Int.tmod_eq_emod_of_nonneg (by omega)]
      have hwq : IntKind.i64.wrap q = q := by rw [IntKind.wrap_i64]; omega
      have hwq2 : wrap64 q = q := by unfold wrap64; omega
      obtain ⟨L1, hL1⟩ : ∃ L1, L1 = L ++ [lowByte ((x.length : Int) / 256), lowByte (x.length : Int)] := ⟨_, rfl⟩
      have HL1l := Lib.hid (show L1.length = L.length + 2 by rw [hL1]; simp)
      rw [← hL1] at HN
      generalize lowByte ((x.length : Int) / 256) = b1 at hb1 hL1
      generalize lowByte (x.length : Int) = b2 at hb2 hL1
      have HL1 := Lib.hid hL1
      have hi1 : (k : Int) < (rows.length : Int) := by omega
      have hi0 : (0 : Int) ≤ (k : Int) := by omega
      obtain ⟨T1, hT1⟩ : ∃ T1, T1 = toldN str.data.toList rows (k + 1) := ⟨_, rfl⟩
      rw [← hT1] at HN
      have HT1 := Lib.hid hT1
      have c0 := HC.out wr HO.out.bel
      clear hL1 hq hr2 hq0 hT1
      go_wp2_with fail
      go_region_held3 (fun w' => w'.cell? ⟨b, off + k, none⟩ = some (.slice p x.length cc))
        (first
          | go_keep
          | (exact HC.out _ (HO.out.up (ba wr _)).bel)
          | (exact HC.out _ ((HO.out.up (ba wr _)).up (bd _)).bel)
          | (exact HC.out _ h6.bel))
        ((refine step_ownR (.tmp 20) (.tmp 35) rfl rfl rfl ((HO.out.up (ba wr _)).up (bd _)) [b1, b2] rfl ((at_new wr (B8s [b1, b2]) _).mono (bd _)) rfl (by omega) L1 HL1.out ?_; intro a6 c6 w6 h6))
      have H6 := Lib.hid h6
      clear h6 c0
      have c0 := HC.out w6 H6.out.bel
      go_wp2_with (at_builtin; go_must (refine wpList_ownR (.tmp 37) (.tmp 41) rfl rfl rfl H6.out x rfl (Hat.out.mono H6.out.bel) rfl (by have := HL1l.out; omega) T1 HN.out ?_; intro a7 c7 w7 h7; have H7 := Lib.hid h7; clear h7 c0))
      exact ⟨⟨k + 1, T1, a7, c7, by omega, by go_num, HT1.out, rfl, H7.out⟩, by simp [intOf]; omega⟩
    · obtain rfl : k = rows.length := by omega
      have hE : toldF str.data.toList rows = L := by rw [HLe.out]; exact HT.out
      have HE := Lib.hid hE
      clear hE
      go_wp2_with fail
      go_ret
      rw [HE.out]
      exact ⟨o, oc, rfl, HO.out.at, HO.out.bel⟩
theorem toldF_len (lab : List UInt8) (rows : List (List UInt8)) : (toldF lab rows).length = 1 + lab.length + 2 * rows.length + sumL rows := by
  unfold toldF; rw [toldN_len lab rows _ (Nat.le_refl _), List.take_length]

/-- what a call answers that is refused -/
def BadOut (w : World) (e : Ending) (w' : World) : Prop := e = .returned (.tuple #[.slice none 0 0, .int .i64 1]) ∧ Below w.heap.size w w'
/-- what a call answers that has a key -/
def KeyOut (w : World) (D : List UInt8) (e : Ending) (w' : World) : Prop := ∃ b cb, e = .returned (.tuple #[.slice b 32 cb, .int .i64 0]) ∧ BytesAt w' b D ∧ Below w.heap.size w w'

set_option maxRecDepth 100000 in
set_option maxHeartbeats 1000000 in
theorem refDerive_bad (a : Option Addr) (la c : Nat) (str : ByteArray) (pa : Option Addr) (pl pc : Nat) (h : 255 < str.size ∨ 16 < pl) (hs : str.size ≤ 100000) (hp : pl ≤ maxLen) (w : World) :
    Calls Tryd.prog 21 #[.slice a la c, .string str, .slice pa pl pc] w (BadOut w) := by
  unfold maxLen at hp
  by_cases h1 : 255 < str.size
  · have hd : (255 : Int) < (str.size : Int) := by omega
    clear h
    go_enter Tryd.func21, Tryd.ntmps21
    go_wp2_with fail
    go_ret2
    exact ⟨rfl, Below.refl _ _⟩
  · have hd : ¬ (255 : Int) < (str.size : Int) := by omega
    have hd2 : (16 : Int) < (pl : Int) := by omega
    clear h
    go_enter Tryd.func21, Tryd.ntmps21
    go_wp2_with fail
    go_ret2
    exact ⟨rfl, Below.refl _ _⟩
set_option maxRecDepth 100000 in
set_option maxHeartbeats 1000000 in
theorem macDerive_bad (a : Option Addr) (la c : Nat) (str : ByteArray) (pa : Option Addr) (pl pc : Nat) (h : 255 < str.size ∨ 16 < pl) (hs : str.size ≤ 100000) (hp : pl ≤ maxLen) (w : World) :
    Calls Tryd.prog 20 #[.slice a la c, .string str, .slice pa pl pc] w (BadOut w) := by
  unfold maxLen at hp
  by_cases h1 : 255 < str.size
  · have hd : (255 : Int) < (str.size : Int) := by omega
    clear h
    go_enter Tryd.func20, Tryd.ntmps20
    go_wp2_with fail
    go_ret2
    exact ⟨rfl, Below.refl _ _⟩
  · have hd : ¬ (255 : Int) < (str.size : Int) := by omega
    have hd2 : (16 : Int) < (pl : Int) := by omega
    clear h
    go_enter Tryd.func20, Tryd.ntmps20
    go_wp2_with fail
    go_ret2
    exact ⟨rfl, Below.refl _ _⟩

set_option maxRecDepth 100000 in
set_option maxHeartbeats 2000000 in
theorem refDerive_ok (a : Option Addr) (c : Nat) (key : List UInt8) (str : ByteArray) (pa : Option Addr) (pc : Nat) (rows : List (List UInt8)) (hk : key.length ≤ 100000) (hs : str.size ≤ 255) (hr : rows.length ≤ 16) (ht : sumL rows ≤ 10000) (w : World) (hkey : BytesAt w a key) (hrows : RowsAt w pa rows) :
    Calls Tryd.prog 21 #[.slice a key.length c, .string str, .slice pa rows.length pc] w (KeyOut w (tagF key (toldF str.data.toList rows))) := by
  have HKey := Lib.hid hkey
  have Hr := Lib.hid hrows
  have HTo := Lib.hid (fun W' => told_any str pa pc rows (by omega) (by omega) ht W')
  have HTl := Lib.hid (show (toldF str.data.toList rows).length ≤ 90000 by rw [toldF_len, str_size]; omega)
  have HSl := Lib.hid (sumL_le rows)
  have Ht := Lib.hid ht
  have hd1 : ¬ (255 : Int) < (str.size : Int) := by omega
  have hd2 : ¬ (16 : Int) < (rows.length : Int) := by omega
  clear hkey hrows ht
  generalize toldF str.data.toList rows = T at HTo HTl
  go_enter Tryd.func21, Tryd.ntmps21
  go_wp2_with fail
  go_loopw [8] (fun v8 wx => ∃ k : Nat, k ≤ rows.length ∧ v8 = .int .i64 (k : Int) ∧ w = wx) (fun v8 _ => rows.length - (intOf v8).toNat)
  case atStart => exact ⟨0, Nat.zero_le _, rfl, rfl⟩
  case round =>
    obtain ⟨k, hk2, rfl, rfl⟩ := hrel
    by_cases hlt : k < rows.length
    · obtain ⟨b, off, p, cc, rfl, hbl, hcell, hp1, hp2, hat⟩ := Hr.out.row k hlt
      have hxl : (rows.getD k []).length ≤ 10000 := by
        have h1 := HSl.out (k + 1); have h2 := sumL_snoc rows k hlt; have h3 := Ht.out; omega
      have hd3 : ¬ (65535 : Int) < (((rows.getD k []).length : Nat) : Int) := by omega
      clear hp1 hp2 hat
      generalize rows.getD k [] = x at hcell hxl hd3
      go_wp2_with fail
      exact ⟨⟨k + 1, by omega, by go_num, by first | rfl | trivial⟩, by simp [intOf]; omega⟩
    · obtain rfl : k = rows.length := by omega
      go_wp2_with fail
      refine (HTo.out w Hr.out).mono ?_; rintro e w2 ⟨a2, c2, rfl, hat2, hb2⟩
      have Hat2 := Lib.hid hat2
      have Hb2 := Lib.hid hb2
      clear hat2 hb2
      have HTg := Lib.hid (refTag_any a a2 c c2 key T hk HTl.out w2 (HKey.out.mono Hb2.out) Hat2.out)
      go_wp2_with fail
      refine HTg.out.mono ?_; rintro e w3 ⟨a3, c3, rfl, hc3, hat3, hb3⟩
      have Hat3 := Lib.hid hat3
      have Hb3 := Lib.hid (bt Hb2.out hb3)
      clear hc3 hat3 hb3
      go_wp2_with fail
      go_ret2
      exact ⟨a3, c3, rfl, Hat3.out, Hb3.out⟩

set_option maxRecDepth 100000 in
set_option maxHeartbeats 2000000 in
theorem macDerive_ok (a : Option Addr) (c : Nat) (key : List UInt8) (str : ByteArray) (pa : Option Addr) (pc : Nat) (rows : List (List UInt8)) (hk : key.length ≤ 100000) (hs : str.size ≤ 255) (hr : rows.length ≤ 16) (ht : sumL rows ≤ 10000) (w : World) (hkey : BytesAt w a key) (hrows : RowsAt w pa rows) (hks : KeysAt w) :
    Calls Tryd.prog 20 #[.slice a key.length c, .string str, .slice pa rows.length pc] w (KeyOut w (tagF key (toldF str.data.toList rows))) := by
  have HKey := Lib.hid hkey
  have Hks := Lib.hid hks
  have Hr := Lib.hid hrows
  have HL := Lib.hid (toldN_len str.data.toList rows)
  have HSt := Lib.hid (toldN_succ str.data.toList rows)
  have HSl := Lib.hid (sumL_le rows)
  have HT := Lib.hid (show toldF str.data.toList rows = toldN str.data.toList rows rows.length from rfl)
  obtain ⟨T0, hT0⟩ : ∃ T0, T0 = toldN str.data.toList rows 0 := ⟨_, rfl⟩
  have HT0 := Lib.hid (show T0 = [lowByte (str.size : Int)] ++ str.data.toList by rw [hT0, toldN_zero, str_size])
  have HT0e := Lib.hid hT0
  have hsz := Lib.hid (str_size str)
  have hw8 := wrap8 (str.size : Int)
  have hO : OwnR w (w.alloc (.cells #[.int .u8 (bv (lowByte (str.size : Int)))] 5)) (.slice (some ⟨w.heap.size, 0, none⟩) 1 1) [lowByte (str.size : Int)] :=
    OwnR.of rfl (Buf.made w 5 (B8s [lowByte (str.size : Int)]) 1 1 (Nat.le_refl _) rfl (by decide))
  have HO := Lib.hid hO
  have hd1 : ¬ (255 : Int) < (str.size : Int) := by omega
  have hd2 : ¬ (16 : Int) < (rows.length : Int) := by omega
  clear hkey hrows hks hO hT0
  generalize lowByte (str.size : Int) = lb at hw8 HO HT0
  go_enter Tryd.func20, Tryd.ntmps20
  go_wp2_with (at_builtin; go_must (refine wpList_ownRS (.tmp 22) (.tmp 23) rfl rfl rfl HO.out str rfl (by simp; omega) T0 HT0.out ?_; intro a1 c1 w1 h1; have H1 := Lib.hid h1; clear h1))
  go_loopw [8, 10, 27] (fun v8 v10 v27 wx => ∃ (k : Nat) (L : List UInt8) (o : Option Addr) (oc : Nat), k ≤ rows.length ∧ v27 = .int .i64 (k : Int) ∧ L = toldN str.data.toList rows k ∧ v8 = .slice o L.length oc ∧ OwnR w wx v8 L) (fun _ _ v27 _ => rows.length - (intOf v27).toNat)
  case atStart => exact ⟨0, T0, a1, c1, Nat.zero_le _, rfl, HT0e.out, rfl, H1.out⟩
  case round =>
    clear hw8 H1
    obtain ⟨k, L, o, oc, hk2, rfl, hL, rfl, hO⟩ := hrel
    have HLe := Lib.hid hL
    have hLl : L.length ≤ 20000 := by rw [hL, HL.out k hk2, hsz.out]; have := HSl.out k; omega
    have HO := Lib.hid hO
    clear hL hO
    by_cases hlt : k < rows.length
    · obtain ⟨b, off, p, cc, rfl, hbl, hcell, hp1, hp2, hat⟩ := Hr.out.row k hlt
      have hxl : (rows.getD k []).length ≤ 10000 := by
        have h1 := HSl.out (k + 1); have h2 := sumL_snoc rows k hlt; omega
      have hd3 : ¬ (65535 : Int) < (((rows.getD k []).length : Nat) : Int) := by omega
      have HN := Lib.hid (HSt.out k hlt)
      rw [← HLe.out] at HN
      have c0 : wr.cell? ⟨b, off + k, none⟩ = some (.slice p (rows.getD k []).length cc) := by rw [HO.out.bel.cell (p := ⟨b, off + k, none⟩) hbl]; exact hcell
      have Hat := Lib.hid hat
      clear hcell hat hp1 hp2
      generalize rows.getD k [] = x at HN c0 Hat hxl hd3
      obtain ⟨q, hq⟩ : ∃ q : Int, q = (x.length : Int) / 256 := ⟨_, rfl⟩
      have hb1 : IntKind.u8.wrap q = bv (lowByte ((x.length : Int) / 256)) := by rw [wrap8, hq]
      have hb2 := wrap8 (x.length : Int)
      have hsh : binOp .shr 3 (.int .i64 (x.length : Int)) (.int .u64 8) = pure (.int .i64 q) := by
        rw [shrI 3 (x.length : Int) 8 .u64 (by decide) (by decide), hq]; rfl
      obtain ⟨L1, hL1⟩ : ∃ L1, L1 = L ++ [lowByte ((x.length : Int) / 256), lowByte (x.length : Int)] := ⟨_, rfl⟩
      have HL1l := Lib.hid (show L1.length = L.length + 2 by rw [hL1]; simp)
      rw [← hL1] at HN
      generalize lowByte ((x.length : Int) / 256) = b1 at hb1 hL1
      generalize lowByte (x.length : Int) = b2 at hb2 hL1
      have HL1 := Lib.hid hL1
      obtain ⟨T1, hT1⟩ : ∃ T1, T1 = toldN str.data.toList rows (k + 1) := ⟨_, rfl⟩
      rw [← hT1] at HN
      have HT1 := Lib.hid hT1
      clear hL1 hq hT1
      go_wp2_with (first
        | (at_builtin; (refine wpList_ownR (.tmp 34) (.tmp 42) rfl rfl rfl (HO.out.up (ba wr _)) [b1, b2] rfl (at_new wr (B8s [b1, b2]) _) rfl (by omega) L1 HL1.out ?_; intro a6 c6 w6 h6; have H6 := Lib.hid h6; clear h6 c0))
        | (at_builtin; (refine wpList_ownR (.tmp 44) (.tmp 45) rfl rfl rfl H6.out x rfl (Hat.out.mono H6.out.bel) rfl (by have := HL1l.out; omega) T1 HN.out ?_; intro a7 c7 w7 h7; have H7 := Lib.hid h7; clear h7)))
      exact ⟨⟨k + 1, T1, a7, c7, by omega, by go_num, HT1.out, rfl, H7.out⟩, by simp [intOf]; omega⟩
    · obtain rfl : k = rows.length := by omega
      have hE : toldF str.data.toList rows = L := by rw [HLe.out]; exact HT.out
      have HE := Lib.hid hE
      clear hE
      have HTg := Lib.hid (macTag_any a o c oc key L hk (by omega) wr (HKey.out.mono HO.out.bel) HO.out.at (Hks.out.mono HO.out.bel))
      go_wp2_with fail
      refine HTg.out.mono ?_; rintro e w3 ⟨a3, c3, rfl, hc3, hat3, hb3⟩
      have Hat3 := Lib.hid hat3
      have Hb3 := Lib.hid (bt HO.out.bel hb3)
      clear hc3 hat3 hb3
      go_wp2_with fail
      go_ret2
      rw [HE.out]
      exact ⟨a3, c3, rfl, Hat3.out, Hb3.out⟩
end Go.Proofs.YtbpmgjnjcdjdfaaDoor
