/- The document's Block, Tag and Kcv; the program's Kcv. -/
import Derived.Test.YthmcmkdncaccbaaDoorMacB
set_option linter.unusedSimpArgs false
set_option linter.unusedVariables false
namespace Go.Proofs.YthmcmkdncaccbaaDoor
open Go.RowKit

set_option maxRecDepth 100000 in
set_option maxHeartbeats 1000000 in
theorem refOf_own (b : Option Addr) (cb : Nat) (m : List UInt8) (hsz : m.length ≤ 2147483647) (w : World) (hm : BytesAt w b m) :
    Calls Tryd.prog 37 #[.slice b m.length cb] w (OwnOut w (ofF m)) := by
  have Hm := Lib.hid hm
  clear hm
  go_enter Tryd.func37, Tryd.ntmps37
  go_wp2_with fail
  refine (refNew_any _).mono ?_; rintro e w1 ⟨rfl, hb1⟩
  go_wp2_with fail
  refine (refPut_new b m.length cb m rfl hsz _ (At.mono Hm.out hb1)).mono ?_; rintro e w2 ⟨a2, c2, rfl, hat2, hb2⟩
  have hb12 := bt hb1 hb2
  have hS := refSum_own (putS iv m) m.length a2 c2 (putR m) (by omega) (putR_length m) w2 hat2
  go_wp2_with fail
  refine hS.mono ?_; rintro e w3 ⟨a3, c3, rfl, hown3, hb3⟩
  go_wp2_with fail
  go_ret
  exact ⟨a3, c3, rfl, own_base hown3 hb12.size, bt hb12 hb3⟩

/-- bytes of the call's own, told apart from a world -/
structure OwnR (w0 w : World) (v : Value) (l : List UInt8) : Prop where
  own : w.ownsRow w0.heap.size 5 1 v l.length (B8s l)
  bel : Below w0.heap.size w0 w
theorem OwnR.buf {w0 w : World} {v : Value} {l : List UInt8} (h : OwnR w0 w v l) : Buf w0 w 5 v l.length (B8s l) := ⟨h.own, h.bel⟩
theorem OwnR.of {w0 w : World} {v : Value} {l : List UInt8} {n : Nat} (hn : n = l.length) (h : Buf w0 w 5 v n (B8s l)) : OwnR w0 w v l := by subst hn; exact ⟨h.own, h.bel⟩
theorem OwnR.at {w0 w : World} {a : Option Addr} {n c : Nat} {l : List UInt8} (h : OwnR w0 w (.slice a n c) l) : BytesAt w a l := by
  obtain ⟨_, _, h1, _, _⟩ := own_slice h.own
  cases h1; exact own_at h.own
theorem OwnR.slice {w0 w : World} {v : Value} {l : List UInt8} (h : OwnR w0 w v l) : ∃ a c, v = .slice a l.length c := by
  obtain ⟨a, c, h1, _, _⟩ := own_slice h.own; exact ⟨a, c, h1⟩
/-- an append onto bytes of the call's own -/
theorem wpList_ownR {ops : Array Oper} {rest : List Oper} {o : Oper} {a : Act} {w : World} {Q : Exit → Act → World → Prop} (s x : Operand) (hgd : o.guard = Option.none)
    (ho : o.op = .call { callee := .builtin .append, args := #[s, x], argTypes := #[25, 25] }) {w0 : World} {v : Value} {l : List UInt8} (hs : a.eval s = v) (hB : OwnR w0 w v l)
    {sp : Option Addr} {m c : Nat} (news : List UInt8) (hx : a.eval x = .slice sp m c) (hS : BytesAt w sp news) (hl : m = news.length) (h63 : l.length + m ≤ 140737488355328) (l2 : List UInt8) (hl2 : l2 = l ++ news)
    (h : ∀ a' cap' w', OwnR w0 w' (.slice a' l2.length cap') l2 → wpList Tryd.prog ops Q rest (a.put o.dst (.slice a' l2.length cap')) w') : wpList Tryd.prog ops Q (o :: rest) a w := by
  subst hl2; subst hl
  refine wpList_buf s x 25 hgd ho elemB hs hB.buf hx hS (by simp) (bytes_one news) (by omega) (by decide) (l ++ news).length (by simp) (B8s (l ++ news)) (by simp) fun a' cap' w' hb => h a' cap' w' (OwnR.of rfl hb)

theorem take_pad (k : List UInt8) (j : Nat) : k ++ List.replicate j (0 : UInt8) ++ [0] = k ++ List.replicate (j + 1) 0 := rep_snoc j k

set_option maxRecDepth 100000 in
set_option maxHeartbeats 1000000 in
theorem refBlock_any (a : Option Addr) (c : Nat) (key : List UInt8) (hk : key.length ≤ 100000) (w : World) (hkey : BytesAt w a key) :
    Calls Tryd.prog 36 #[.slice a key.length c] w (OwnOut w (blockK key)) := by
  have HKey := Lib.hid hkey
  have HOf := Lib.hid (fun W' => refOf_own a c key (by omega) W')
  have hO : OwnR w (w.alloc (.cells #[] 5)) (.slice (some ⟨w.heap.size, 0, none⟩) 0 0) [] := OwnR.of rfl (Buf.made w 5 [] 0 0 (Nat.le_refl _) rfl (by decide))
  have HO := Lib.hid hO
  clear hkey hO
  obtain ⟨K, hKd⟩ : ∃ K, K = ownK key := ⟨_, rfl⟩
  have HKl := Lib.hid (show K.length ≤ 64 by rw [hKd]; exact ownK_len key)
  have HKe := Lib.hid (show blockK key = padK K by rw [hKd]; rfl)
  by_cases h : 64 < key.length
  · have hd : (64 : Int) < (key.length : Int) := by omega
    have Hof := Lib.hid (show ofF key = K by rw [hKd]; unfold ownK; rw [if_pos h])
    clear hKd
    go_enter Tryd.func36, Tryd.ntmps36
    go_wp2_with (refine wpList_ownR (.tmp 4) (.tmp 5) rfl rfl rfl HO.out key rfl (HKey.out.mono (ba w _)) rfl (by simp; omega) key rfl ?_; intro a1 c1 w1 h1; have H1 := Lib.hid h1; clear h1)
    refine (HOf.out w1 (HKey.out.mono H1.out.bel)).mono ?_; rintro e w2 ⟨a2, c2, rfl, hown2, hb2⟩
    have H2 := Lib.hid (show OwnR w w2 (.slice a2 (ofF key).length c2) (ofF key) from ⟨own_base hown2 H1.out.bel.size, bt H1.out.bel hb2⟩)
    clear hown2 hb2
    rw [Hof.out] at H2 ⊢
    clear hd h
    go_wp2_with fail
    go_loopw [3] (fun v3 wx => ∃ (j : Nat) (L : List UInt8) (o : Option Addr) (oc : Nat), K.length + j ≤ 64 ∧ L = K ++ List.replicate j 0 ∧ v3 = .slice o L.length oc ∧ OwnR w wx v3 L) (fun v3 _ => 64 - sLen v3)
    case atStart => exact ⟨0, K, _, _, by have := HKl.out; omega, by simp, rfl, H2.out⟩
    case round =>
      obtain ⟨j, L, o, oc, hj, hL, rfl, hO⟩ := hrel
      have HL := Lib.hid hL
      have HO := Lib.hid hO
      have hLl : L.length = K.length + j := by rw [hL]; simp
      have HLl := Lib.hid hLl
      clear hL hO
      by_cases hlt : L.length < 64
      · have hL64 : L.length ≤ 64 := by omega
        have HL2 := Lib.hid (take_pad K j)
        obtain ⟨L2, hL2⟩ : ∃ L2, L2 = L ++ [0] := ⟨_, rfl⟩
        have hL2l : L2.length = L.length + 1 := by rw [hL2]; simp
        have HL2e := Lib.hid hL2
        have HL2l := Lib.hid hL2l
        clear hLl hL2 hL2l
        go_wp2_with (refine wpList_ownR (.tmp 15) (.tmp 16) rfl rfl rfl (OwnR.of rfl (HO.out.buf.alloc _)) [0] rfl (at_new wr (B8s [0]) _) rfl (by omega) L2 HL2e.out ?_; intro a4 c4 w4 h4; have H4 := Lib.hid h4; clear h4)
        exact ⟨⟨j + 1, L2, a4, c4, by have := HLl.out; omega, by rw [HL2e.out, HL.out]; exact HL2.out, rfl, H4.out⟩, by have := HL2l.out; simp only [sLen]; omega⟩
      · have h64 : j = 64 - K.length := by omega
        have hE := Lib.hid (show L = blockK key by rw [HL.out, h64, HKe.out]; rfl)
        have hge : (64 : Int) ≤ (L.length : Int) := by omega
        clear hLl h64 hlt
        go_wp2_with fail
        go_ret
        rw [← hE.out]
        exact ⟨o, oc, rfl, HO.out.own, HO.out.bel⟩
  · have hd : ¬ (64 : Int) < (key.length : Int) := by omega
    have hKk : K = key := by rw [hKd]; unfold ownK; rw [if_neg h]
    subst hKk
    clear hKd
    go_enter Tryd.func36, Tryd.ntmps36
    go_wp2_with (refine wpList_ownR (.tmp 4) (.tmp 5) rfl rfl rfl HO.out K rfl (HKey.out.mono (ba w _)) rfl (by simp; omega) K rfl ?_; intro a1 c1 w1 h1; have H2 := Lib.hid h1; clear h1)
    go_loopw [3] (fun v3 wx => ∃ (j : Nat) (L : List UInt8) (o : Option Addr) (oc : Nat), K.length + j ≤ 64 ∧ L = K ++ List.replicate j 0 ∧ v3 = .slice o L.length oc ∧ OwnR w wx v3 L) (fun v3 _ => 64 - sLen v3)
    case atStart => exact ⟨0, K, _, _, by have := HKl.out; omega, by simp, rfl, H2.out⟩
    case round =>
      obtain ⟨j, L, o, oc, hj, hL, rfl, hO⟩ := hrel
      have HL := Lib.hid hL
      have HO := Lib.hid hO
      have hLl : L.length = K.length + j := by rw [hL]; simp
      have HLl := Lib.hid hLl
      clear hL hO
      by_cases hlt : L.length < 64
      · have hL64 : L.length ≤ 64 := by omega
        have HL2 := Lib.hid (take_pad K j)
        obtain ⟨L2, hL2⟩ : ∃ L2, L2 = L ++ [0] := ⟨_, rfl⟩
        have hL2l : L2.length = L.length + 1 := by rw [hL2]; simp
        have HL2e := Lib.hid hL2
        have HL2l := Lib.hid hL2l
        clear hLl hL2 hL2l
        go_wp2_with (refine wpList_ownR (.tmp 15) (.tmp 16) rfl rfl rfl (OwnR.of rfl (HO.out.buf.alloc _)) [0] rfl (at_new wr (B8s [0]) _) rfl (by omega) L2 HL2e.out ?_; intro a4 c4 w4 h4; have H4 := Lib.hid h4; clear h4)
        exact ⟨⟨j + 1, L2, a4, c4, by have := HLl.out; omega, by rw [HL2e.out, HL.out]; exact HL2.out, rfl, H4.out⟩, by have := HL2l.out; simp only [sLen]; omega⟩
      · have h64 : j = 64 - K.length := by omega
        have hE := Lib.hid (show L = blockK K by rw [HL.out, h64, HKe.out]; rfl)
        have hge : (64 : Int) ≤ (L.length : Int) := by omega
        clear hLl h64 hlt
        go_wp2_with fail
        go_ret
        rw [← hE.out]
        exact ⟨o, oc, rfl, HO.out.own, HO.out.bel⟩
end Go.Proofs.YthmcmkdncaccbaaDoor
