/- The walk of the law RingKeeps. -/
import Derived.Test.YtelndpphbpandaaRingX
import Derived.Test.YtelndpphbpandaaInT
set_option linter.unusedSimpArgs false
set_option linter.unusedVariables false
namespace Go.Proofs.Ytelndpphbpandaa
open Go.RowKit

/-- a row of bytes in another block -/
def AtNot (b : Nat) (w : World) (a : Option Addr) (xs : List Value) : Prop := xs = [] ∨ ∃ g off, a = some ⟨g, off, none⟩ ∧ g ≠ b ∧ g < w.heap.size ∧ ∀ i, i < xs.length → w.cell? ⟨g, off + i, none⟩ = some (xs.getD i undef)
theorem AtNot.at {b : Nat} {w : World} {a : Option Addr} {xs : List Value} (h : AtNot b w a xs) : At w a xs := by
  rcases h with h | ⟨g, off, h1, h2, h3, h4⟩
  · exact .inl h
  · exact .inr ⟨g, off, h1, h3, h4⟩
theorem AtNot.set {b i : Nat} {w : World} {a : Option Addr} {xs : List Value} (h : AtNot b w a xs) (v : Value) : AtNot b (w.setCell ⟨b, i, none⟩ v) a xs := by
  rcases h with h | ⟨g, off, h1, h2, h3, h4⟩
  · exact .inl h
  · refine .inr ⟨g, off, h1, h2, by simpa using h3, fun j hj => ?_⟩
    rw [← h4 j hj]
    exact World.cell?_of_block (Below.heap_setCell _ _ _ _ h2)
theorem AtNot.row {b : Nat} {w : World} {a : Option Addr} {xs : List Value} (h : AtNot b w a xs) (ds : Array Value) : AtNot b (w.setRow b ds) a xs := by
  rcases h with h | ⟨g, off, h1, h2, h3, h4⟩
  · exact .inl h
  · refine .inr ⟨g, off, h1, h2, by simpa using h3, fun j hj => ?_⟩
    rw [← h4 j hj]
    exact World.cell?_of_block (setRow_other w b g ds h2)
theorem at_ring {w : World} {b : Nat} {r : Rg} {a : Option Addr} {q : List UInt8} (h : BytesAt w a q) (hB : Blk w b r.L) : AtNot b w a (B8s q) := by
  rcases h with h | ⟨g, off, h1, h2, h3⟩
  · exact .inl h
  · by_cases hq : (B8s q) = []
    · exact .inl hq
    · refine .inr ⟨g, off, h1, ?_, h2, h3⟩
      rintro rfl
      have hl : 0 < (B8s q).length := by
        rcases Nat.eq_zero_or_pos (B8s q).length with h | h
        · exact (hq (List.eq_nil_of_length_eq_zero h)).elim
        · exact h
      have h0 := h3 0 hl
      have hq' : 0 < q.length := by simpa using hl
      rw [Nat.add_zero, getD_B8 q 0 hq'] at h0
      by_cases ho : off < 8
      · have hc := hB.cell off (by simpa using ho)
        rw [hc] at h0
        have : off = 0 ∨ off = 1 ∨ off = 2 ∨ off = 3 ∨ off = 4 ∨ off = 5 ∨ off = 6 ∨ off = 7 := by omega
        rcases this with rfl | rfl | rfl | rfl | rfl | rfl | rfl | rfl <;> simp at h0
      · obtain ⟨T, hT⟩ := hB
        have : w.cell? ⟨g, off, none⟩ = none := by simp [World.cell?, hT]; omega
        rw [this] at h0; cases h0
theorem rg_row {w : World} {b : Nat} {r X : Rg} {x y z : List UInt8} (h : RgAt w X x y z) (hB : Blk w b r.L) (ds : Array Value) : RgAt (w.setRow b ds) X x y z :=
  ⟨h.lc, ((at_ring h.c hB).row ds).at, h.lo, ((at_ring h.o hB).row ds).at, h.lp, ((at_ring h.p hB).row ds).at⟩
theorem at_rset8 {w : World} {b : Nat} {a : Option Addr} {xs : List Value} {v0 v1 v2 v3 v4 v5 v6 v7 : Value} (h : AtNot b w a xs) :
    AtNot b ((((((((w.setCell ⟨b, 0, none⟩ v0).setCell ⟨b, 1, none⟩ v1).setCell ⟨b, 2, none⟩ v2).setCell ⟨b, 3, none⟩ v3).setCell ⟨b, 4, none⟩ v4).setCell ⟨b, 5, none⟩ v5).setCell ⟨b, 6, none⟩ v6).setCell ⟨b, 7, none⟩ v7) a xs :=
  (((((((h.set _).set _).set _).set _).set _).set _).set _).set _
theorem rg_rset8 {w : World} {b : Nat} {r X : Rg} {x y z : List UInt8} {v0 v1 v2 v3 v4 v5 v6 v7 : Value} (h : RgAt w X x y z) (hB : Blk w b r.L) :
    RgAt ((((((((w.setCell ⟨b, 0, none⟩ v0).setCell ⟨b, 1, none⟩ v1).setCell ⟨b, 2, none⟩ v2).setCell ⟨b, 3, none⟩ v3).setCell ⟨b, 4, none⟩ v4).setCell ⟨b, 5, none⟩ v5).setCell ⟨b, 6, none⟩ v6).setCell ⟨b, 7, none⟩ v7) X x y z :=
  ⟨h.lc, (at_rset8 (at_ring h.c hB)).at, h.lo, (at_rset8 (at_ring h.o hB)).at, h.lp, (at_rset8 (at_ring h.p hB)).at⟩
theorem key0 (w : World) : Calls Try.prog 29 #[.int .u8 0] w (KeyOut w 0) := key_any 0 w
theorem good0 (k : Option Addr) : GoodR (q1 k) 99 := ⟨rfl, rfl, by decide, .inl ⟨rfl, by decide⟩⟩
/-- what is behind the call of the step -/
def StepAt (w0 wx : World) (r : Rg) (q : Int) (v8 v9 : Value) : Prop := ∃ (b8 : Nat) (X : Rg) (ok : Bool), v8 = .pointer (some ⟨b8, 0, none⟩) ∧ v9 = .bool ok ∧ Blk wx b8 X.L ∧ StepRel r q X ok ∧ (∃ x y z, RgAt wx X x y z) ∧ Below w0.heap.size w0 wx

set_option maxRecDepth 100000 in
set_option maxHeartbeats 8000000 in
theorem ringKeeps_any (hsh : Shown11OK) (a : Option Addr) (len cap : Nat) (w : World) (hin : InSteps w a len) (hm : len ≤ maxLen) :
    Calls Try.prog 5 #[.slice a len cap] w (BoolOut w true) := by
  have Hsh := Lib.hid hsh
  have Hin := Lib.hid hin
  have HI := Lib.hid ring_info
  unfold maxLen at hm
  clear hsh hin
  by_cases h30 : 30 < len
  · have hd : (30 : Int) < len := by omega
    go_enter Try.func5, Try.ntmps5
    go_wp2_with fail
    refine (Hsh.out _).mono ?_; rintro e w1 ⟨rfl, hb1⟩
    go_wp2_with fail
    go_ret
    exact ⟨rfl, hb1⟩
  · have hd : ¬ (30 : Int) < len := by omega
    go_enter Try.func5, Try.ntmps5
    go_wp2_with fail
    refine (Hsh.out _).mono ?_; rintro e w1 ⟨rfl, hb1⟩
    go_wp2_with fail
    refine (key0 _).mono ?_; rintro e w2 ⟨b0, rfl, hk0, -, hb2⟩
    have Hk0 := Lib.hid hk0.bytes
    generalize (some ⟨b0, 0, none⟩ : Option Addr) = ka at Hk0
    have Hb := Lib.hid (bt hb1 hb2)
    clear hb1 hb2 hk0
    go_wp2_with fail
    refine (sh_new ka _).mono ?_; rintro e w3 ⟨rfl, hb3⟩
    have hB4 : Blk (w3.alloc (.cells (q1 ka).L.toArray 26)) w3.heap.size (q1 ka).L := Blk.new w3 (q1 ka).L 26
    have hbb : Below w.heap.size w (w3.alloc (.cells (q1 ka).L.toArray 26)) := bt (bt Hb.out hb3) (ba w3 _)
    have hr4 : RgAt (w3.alloc (.cells (q1 ka).L.toArray 26)) (q1 ka) (List.replicate 32 0) [] [] := ⟨by simp, (Hk0.out.mono hb3).mono (ba w3 _), rfl, .inl rfl, rfl, .inl rfl⟩
    have hle4 : w.heap.size ≤ w3.heap.size := (bt Hb.out hb3).size
    go_wp2_with fail
    generalize World.alloc w3 _ = W at hB4 hbb hr4 ⊢
    generalize w3.heap.size = n4 at hB4 hle4 ⊢
    have Hle4 := Lib.hid hle4
    clear hb3 Hb Hk0 hle4
    go_loopw [6, 7] (fun v6 v7 wx => ∃ (k : Nat) (ticks : Int) (r : Rg), k ≤ len ∧ v6 = .int .i64 ticks ∧ v7 = .int .i64 (k : Int) ∧ ticks ≤ 99 + k ∧ GoodR r ticks ∧ Blk wx n4 r.L ∧ (∃ x y z, RgAt wx r x y z) ∧ Below w.heap.size w wx) (fun _ v7 _ => len - (intOf v7).toNat)
    case atStart => exact ⟨0, 99, q1 ka, Nat.zero_le _, rfl, rfl, by omega, good0 ka, hB4, ⟨_, _, _, hr4⟩, hbb⟩
    case round =>
      clear hB4 hbb hr4
      obtain ⟨k, ticks, r, hk, rfl, rfl, htk, hg, hB4, hrx, hb⟩ := hrel
      by_cases hlt : k < len
      · obtain ⟨b, off, kind, no, f, rfl, hbl, hk0, hk1, c0, c1, c2⟩ := (Hin.out.mono hb) k hlt
        obtain ⟨kc, ko, kp, hr⟩ := hrx
        have hpos := hg.pos
        have Hg := Lib.hid hg
        have Hr := Lib.hid hr
        have H4 := Lib.hid hB4
        have Hb := Lib.hid hb
        have HC := Lib.hid (show ∀ w', Below wr.heap.size wr w' → w'.cell? ⟨b, off + k * 3, none⟩ = some (.int .u8 kind) ∧ w'.cell? ⟨b, off + k * 3 + 1, none⟩ = some (.int .i64 no) ∧ w'.cell? ⟨b, off + k * 3 + 2, none⟩ = some (.int .u8 (bv f)) from fun w' h => ⟨by rw [h.cell (p := ⟨b, off + k * 3, none⟩) hbl]; exact c0, by rw [h.cell (p := ⟨b, off + k * 3 + 1, none⟩) hbl]; exact c1, by rw [h.cell (p := ⟨b, off + k * 3 + 2, none⟩) hbl]; exact c2⟩)
        have HD := Lib.hid (show ∀ W', Below wr.heap.size wr W' → Calls Try.prog 30 #[r.v, .agg #[.int .u8 kind, .int .i64 no, .int .u8 (bv f)]] W' (DoneOut W' r (kind % 5)) from fun W' h => done_any r ticks kind no f kc ko kp W' Hg.out (Hr.out.mono h) hk0 hk1)
        clear hg hr hB4 hb
        go_wp2_with fail
        go_cut [8, 9] (fun v8 v9 wx => StepAt wr wx r (kind % 5) v8 v9)
        case first =>
          have KS := Lib.hid (show ∀ w', Below wr.heap.size wr w' → (Below wr.heap.size wr w' ∧ w'.cell? ⟨n4, 0, none⟩ = some (.int .i64 r.c.no) ∧ w'.cell? ⟨n4, 1, none⟩ = some (.slice r.c.a r.c.len r.c.cap) ∧ w'.cell? ⟨n4, 2, none⟩ = some (.int .i64 r.o.no) ∧ w'.cell? ⟨n4, 3, none⟩ = some (.slice r.o.a r.o.len r.o.cap) ∧ w'.cell? ⟨n4, 4, none⟩ = some (.int .i64 r.p.no) ∧ w'.cell? ⟨n4, 5, none⟩ = some (.slice r.p.a r.p.len r.p.cap) ∧ w'.cell? ⟨n4, 6, none⟩ = some (.int .i64 r.l) ∧ w'.cell? ⟨n4, 7, none⟩ = some (.int .i64 r.t) ∧ w'.cell? ⟨b, off + k * 3, none⟩ = some (.int .u8 kind) ∧ w'.cell? ⟨b, off + k * 3 + 1, none⟩ = some (.int .i64 no) ∧ w'.cell? ⟨b, off + k * 3 + 2, none⟩ = some (.int .u8 (bv f))) from fun w' hb => by
            obtain ⟨d0, d1, d2, d3, d4, d5, d6, d7⟩ := ring_cells (H4.out.up hb)
            obtain ⟨s0, s1, s2⟩ := HC.out w' hb
            exact ⟨hb, d0, d1, d2, d3, d4, d5, d6, d7, s0, s1, s2⟩)
          obtain ⟨hS0, d0, d1, d2, d3, d4, d5, d6, d7, s0, s1, s2⟩ := KS.out wr (Below.refl _ _)
          go_region_held3 (fun w' => Below wr.heap.size wr w' ∧ w'.cell? ⟨n4, 0, none⟩ = some (.int .i64 r.c.no) ∧ w'.cell? ⟨n4, 1, none⟩ = some (.slice r.c.a r.c.len r.c.cap) ∧ w'.cell? ⟨n4, 2, none⟩ = some (.int .i64 r.o.no) ∧ w'.cell? ⟨n4, 3, none⟩ = some (.slice r.o.a r.o.len r.o.cap) ∧ w'.cell? ⟨n4, 4, none⟩ = some (.int .i64 r.p.no) ∧ w'.cell? ⟨n4, 5, none⟩ = some (.slice r.p.a r.p.len r.p.cap) ∧ w'.cell? ⟨n4, 6, none⟩ = some (.int .i64 r.l) ∧ w'.cell? ⟨n4, 7, none⟩ = some (.int .i64 r.t) ∧ w'.cell? ⟨b, off + k * 3, none⟩ = some (.int .u8 kind) ∧ w'.cell? ⟨b, off + k * 3 + 1, none⟩ = some (.int .i64 no) ∧ w'.cell? ⟨b, off + k * 3 + 2, none⟩ = some (.int .u8 (bv f)))
            (first
              | (apply KS.out; (with_reducible ((try apply bta); (try (apply rset8_below; rotate_left; first | apply Nat.le_refl)); (try apply bta); (try apply bt3 hb5); (try apply bta); (first | apply Below.refl | (apply btd; (try apply bta); apply Below.refl)))))
              | fail)
            ((go_at_call 30; go_split_ands; ((with_reducible refine Calls.mono (HD.out _ (by assumption)) ?_); rintro e w5 ⟨X, ok, rfl, ⟨x, y, zz, hX⟩, hb5, hs⟩; (try ((with_reducible have z1 := Blk.up (Blk.new _ R0.L _) hb5); have fz1 := z1.frozen; have lz1 := z1.lt; obtain ⟨x0, x1, x2, x3, x4, x5, x6, x7⟩ := cells8 z1)); (try ((with_reducible have z1 := Blk.up (Blk.new _ R0.L _).drew hb5); have fz1 := z1.frozen; have lz1 := z1.lt; obtain ⟨x0, x1, x2, x3, x4, x5, x6, x7⟩ := cells8 z1)))))
          all_goals
            go_split_ands
            go_wp2_with fail
            go_meet
          · exact ⟨w5.heap.size, X, ok, rfl, rfl, Blk.new w5 X.L _, hs, ⟨x, y, zz, hX.mono (ba w5 _)⟩, by assumption⟩
          · have zb : Blk w5 wr.heap.size R0.L := z1
            exact ⟨wr.heap.size, X, ok, rfl, rfl, rset8 zb, hs, ⟨x, y, zz, rg_rset8 hX zb⟩, by assumption⟩
        case rest =>
          obtain ⟨b8, X, ok, rfl, rfl, h8, hs, ⟨x, y, zz, hX⟩, hbc⟩ := hcut
          have hsd := step_said Hg.out hs
          have H4 := Lib.hid (H4.out.up hbc)
          have H8 := Lib.hid h8
          have HX := Lib.hid hX
          have Hr := Lib.hid (Hr.out.mono hbc)
          have Hb := Lib.hid (bt Hb.out hbc)
          obtain ⟨s0, s1, s2⟩ := HC.out wc hbc
          have HC := Lib.hid (show ∀ w', Below wc.heap.size wc w' → w'.cell? ⟨b, off + k * 3, none⟩ = some (.int .u8 kind) from fun w' h => (HC.out w' (bt hbc h)).1)
          clear h8 hX hbc hs c0 c1 c2 s0 s1 s2 HD
          obtain ⟨W0, rfl⟩ : ∃ y, y = wc := ⟨wc, rfl⟩
          obtain ⟨tb, htb⟩ : ∃ tb, tb = ((kind % 5 == 2) && ok) := ⟨_, rfl⟩
          rw [← htb] at hsd
          have HF := Lib.hid (show ∀ W', Calls Try.prog 18 #[X.v, .int .i64 X.c.no] W' fun e w' => e = .returned (.tuple #[.slice X.c.a X.c.len X.c.cap, .bool true]) ∧ Below W'.heap.size W' w' from fun W' => by
            have := find_any X X.c.no W'
            rwa [show findF X X.c.no = (X.c, true) by
              have : hitB X.c.no X.c = true := by simp [hitB]; exact hsd.one
              simp [findF, this]] at this)
          have HRt := Lib.hid (show ∀ W', Calls Try.prog 12 #[X.v] W' fun e w' => e = .returned (.bool true) ∧ Below W'.heap.size W' w' from fun W' => by
            have := refRight_any X.c X.o X.p X.l X.t W'
            rwa [show rightB X.c X.o X.p X.l X.t = true from hsd.good.right] at this)
          have HSm := Lib.hid (show ∀ W', Below W0.heap.size W0 W' → Calls Try.prog 20 #[.slice X.c.a X.c.len X.c.cap, .slice X.c.a X.c.len X.c.cap] W' fun e w' => e = .returned (.bool true) ∧ W' = w' from fun W' h => by
            have := same01_any X.c.a X.c.a X.c.len X.c.cap X.c.len X.c.cap x x W' HX.out.lc HX.out.lc (HX.out.c.mono h) (HX.out.c.mono h)
            rwa [beq_self_eq_true] at this)
          have HS := Lib.hid (show ok = false → ∀ W', Below W0.heap.size W0 W' → Calls Try.prog 13 #[X.v, r.v] W' fun e w' => e = .returned (.bool true) ∧ Below W'.heap.size W' w' from fun ho W' h => by
            have e := hsd.stay ho
            rw [← e]
            exact self_of ⟨_, _, _, HX.out⟩ W' h)
          have HSt := Lib.hid (show tb = true → ∀ W', Below W0.heap.size W0 W' → Calls Try.prog 20 #[.slice X.o.a X.o.len X.o.cap, .slice r.c.a r.c.len r.c.cap] W' fun e w' => e = .returned (.bool true) ∧ W' = w' from fun ht W' h => by
            have e := (hsd.put (htb.symm.trans ht)).2
            rw [← e]
            have := same01_any X.o.a X.o.a X.o.len X.o.cap X.o.len X.o.cap y y W' HX.out.lo HX.out.lo (HX.out.o.mono h) (HX.out.o.mono h)
            rwa [beq_self_eq_true] at this)
          have Hsd := Lib.hid hsd
          have Htb := Lib.hid htb
          clear hsd htb
          obtain ⟨c0, c1, c2, c3, c4, c5, c6, c7⟩ := ring_cells H8.out
          go_wp2_with fail
          refine Calls.mono (HF.out _) ?_; rintro e y1 ⟨rfl, hy1⟩
          have Hy1 := Lib.hid hy1
          clear c0 c1 c2 c3 c4 c5 c6 c7 hy1 HF
          go_upto_region 13 with (fail)
          go_cut [88] (fun v88 wx => v88 = .bool false ∧ Below W0.heap.size W0 wx)
          case first =>
            obtain ⟨c0, c1, c2, c3, c4, c5, c6, c7⟩ := ring_cells (H8.out.up Hy1.out)
            go_wp2_with fail
            refine Calls.mono (HRt.out _) ?_; rintro e y2 ⟨rfl, hy2⟩
            have Hy2 := Lib.hid (bt Hy1.out hy2)
            clear c0 c1 c2 c3 c4 c5 c6 c7 hy2
            have hcur : decide (X.c.no < r.c.no) = false := by have := Hsd.out.cur; simp; exact this
            have htop : decide (X.t < r.t) = false := by have := Hsd.out.top; simp; exact this
            rcases ok with _ | _
            · obtain ⟨c0, c1, c2, c3, c4, c5, c6, c7⟩ := ring_cells (H8.out.up Hy2.out)
              obtain ⟨d0, d1, d2, d3, d4, d5, d6, d7⟩ := ring_cells (H4.out.up Hy2.out)
              go_wp2_with fail
              refine Calls.mono (HS.out (by first | rfl | trivial) _ Hy2.out) ?_; rintro e y3 ⟨rfl, hy3⟩
              have Hy3 := Lib.hid (bt Hy2.out hy3)
              clear c0 c1 c2 c3 c4 c5 c6 c7 d0 d1 d2 d3 d4 d5 d6 d7 hy3
              obtain ⟨c0, c1, c2, c3, c4, c5, c6, c7⟩ := ring_cells (H8.out.up Hy3.out)
              obtain ⟨d0, d1, d2, d3, d4, d5, d6, d7⟩ := ring_cells (H4.out.up Hy3.out)
              go_wp2_with fail
              refine Calls.mono (HSm.out _ Hy3.out) ?_; rintro e y4 ⟨rfl, rfl⟩
              go_wp2_with fail
              go_meet
              exact ⟨rfl, Hy3.out⟩
            · obtain ⟨c0, c1, c2, c3, c4, c5, c6, c7⟩ := ring_cells (H8.out.up Hy2.out)
              obtain ⟨d0, d1, d2, d3, d4, d5, d6, d7⟩ := ring_cells (H4.out.up Hy2.out)
              go_wp2_with fail
              refine Calls.mono (HSm.out _ Hy2.out) ?_; rintro e y4 ⟨rfl, rfl⟩
              go_wp2_with fail
              go_meet
              exact ⟨rfl, Hy2.out⟩
          case rest =>
            obtain ⟨rfl, hb9⟩ := hcut
            have H8 := Lib.hid (H8.out.up hb9)
            have H4 := Lib.hid (H4.out.up hb9)
            have HX := Lib.hid (HX.out.mono hb9)
            have Hb := Lib.hid (bt Hb.out hb9)
            have HSt := Lib.hid (fun ht => HSt.out ht _ hb9)
            have s0 := HC.out _ hb9
            clear hb9 HS HSm HRt Hy1 HC
            obtain ⟨W1, rfl⟩ : ∃ y, y = wc := ⟨wc, rfl⟩
            go_upto_region 15 with (fail)
            go_cut [12] (fun v12 wx => v12 = .bool tb ∧ W1 = wx)
            case first =>
              have htb := Htb.out
              rcases hq2 : (kind % 5 == 2) with _ | _
              · rw [hq2, Bool.false_and] at htb
                subst htb
                go_wp2_with fail
                go_meet
                exact ⟨rfl, rfl⟩
              · rw [hq2, Bool.true_and] at htb
                subst htb
                go_wp2_with fail
                go_meet
                exact ⟨rfl, rfl⟩
            case rest =>
              obtain ⟨rfl, rfl⟩ := hcut
              go_upto_region 16 with (fail)
              go_cut [138] (fun v138 wx => v138 = .bool false ∧ W1 = wx)
              case first =>
                have hturn := Hsd.out.turned
                rw [← Htb.out] at hturn
                obtain ⟨c0, c1, c2, c3, c4, c5, c6, c7⟩ := ring_cells H8.out
                obtain ⟨d0, d1, d2, d3, d4, d5, d6, d7⟩ := ring_cells H4.out
                rcases tb with _ | _
                · have hgt : decide (r.c.no < X.c.no) = false := hturn.symm
                  clear hturn
                  go_wp2_with fail
                  go_meet
                  exact ⟨rfl, rfl⟩
                · have hgt : decide (r.c.no < X.c.no) = true := hturn.symm
                  obtain ⟨hp1', hp2'⟩ := Hsd.out.put Htb.out.symm
                  have hp1 : (X.c.no != r.p.no) = false := by rw [hp1']; simp
                  have hp2 : (X.o.no != r.c.no) = false := by rw [hp2']; simp
                  clear hturn hp1' hp2'
                  go_wp2_with fail
                  refine Calls.mono (HSt.out (by first | rfl | trivial)) ?_; rintro e y5 ⟨rfl, rfl⟩
                  go_wp2_with fail
                  go_meet
                  exact ⟨rfl, rfl⟩
              case rest =>
                obtain ⟨rfl, rfl⟩ := hcut
                have hkeep := Hsd.out.keep
                have Hgood := Lib.hid Hsd.out.good
                obtain ⟨c0, c1, c2, c3, c4, c5, c6, c7⟩ := ring_cells H8.out
                clear c0 c1 c3 c4 c5 c6 c7
                have hq4i : kind % 5 = 4 → tb = false := fun h => by rw [Htb.out]; simp [h]
                obtain ⟨T2, hT2⟩ : ∃ T2 : Int, T2 = (if kind % 5 = 4 then (if tb = true then 0 else ticks) + 1 else (if tb = true then 0 else ticks)) := ⟨_, rfl⟩
                rw [← hT2] at hkeep Hgood
                obtain ⟨B, hB1, hB2⟩ : ∃ B, decide (0 < X.o.no) = B ∧ decide (T2 < 16) = B := ⟨_, hkeep, rfl⟩
                have hBB : (B != B) = false := by cases B <;> rfl
                clear hkeep Hsd HSt Htb
                rcases hq4 : (kind % 5 == 4) with _ | _
                · have hne : ¬ kind % 5 = 4 := by simpa using hq4
                  rw [if_neg hne] at hT2
                  clear hne hq4i
                  rcases tb with _ | _
                  · simp only [Bool.false_eq_true, if_false] at hT2
                    subst hT2
                    go_wp2_with (first
                      | ((with_reducible show wpList _ _ _ _ _ _); refine wpList_load_blk 26 (.tmp 8) b8 (cs := X.L) rfl rfl rfl ?hb Try.underlying26 rfl HI.out ?_; (case hb => exact H8.out))
                      | ((with_reducible show wpList _ _ _ _ _ _); refine wpList_store_blk 26 (.tmp 4) (.tmp 156) n4 (old := r.L) (cs := X.L) rfl rfl rfl rfl ?hb HI.out rfl rfl ?_; (case hb => exact H4.out)))
                    exact ⟨⟨k + 1, T2, X, by omega, rfl, by go_num, by omega, Hgood.out, H4.out.row _, ⟨_, _, _, rg_row HX.out H4.out _⟩, below_setRow Hb.out Hle4.out _⟩, by simp [intOf]; omega⟩
                  · simp only [if_true] at hT2
                    subst hT2
                    have hBt : B = true := hB2.symm.trans (by decide)
                    subst hBt
                    go_wp2_with (first
                      | ((with_reducible show wpList _ _ _ _ _ _); refine wpList_load_blk 26 (.tmp 8) b8 (cs := X.L) rfl rfl rfl ?hb Try.underlying26 rfl HI.out ?_; (case hb => exact H8.out))
                      | ((with_reducible show wpList _ _ _ _ _ _); refine wpList_store_blk 26 (.tmp 4) (.tmp 156) n4 (old := r.L) (cs := X.L) rfl rfl rfl rfl ?hb HI.out rfl rfl ?_; (case hb => exact H4.out)))
                    exact ⟨⟨k + 1, 0, X, by omega, rfl, by go_num, by omega, Hgood.out, H4.out.row _, ⟨_, _, _, rg_row HX.out H4.out _⟩, below_setRow Hb.out Hle4.out _⟩, by simp [intOf]; omega⟩
                · have heq : kind % 5 = 4 := by simpa using hq4
                  rw [if_pos heq] at hT2
                  have htf := hq4i heq
                  subst htf
                  simp only [Bool.false_eq_true, if_false] at hT2
                  subst hT2
                  clear heq hq4i
                  go_wp2_with (first
                    | ((with_reducible show wpList _ _ _ _ _ _); refine wpList_load_blk 26 (.tmp 8) b8 (cs := X.L) rfl rfl rfl ?hb Try.underlying26 rfl HI.out ?_; (case hb => exact H8.out))
                    | ((with_reducible show wpList _ _ _ _ _ _); refine wpList_store_blk 26 (.tmp 4) (.tmp 156) n4 (old := r.L) (cs := X.L) rfl rfl rfl rfl ?hb HI.out rfl rfl ?_; (case hb => exact H4.out)))
                  exact ⟨⟨k + 1, (ticks + 1), X, by omega, rfl, by go_num, by omega, Hgood.out, H4.out.row _, ⟨_, _, _, rg_row HX.out H4.out _⟩, below_setRow Hb.out Hle4.out _⟩, by simp [intOf]; omega⟩
      · obtain rfl : k = len := by omega
        go_wp2_with fail
        go_ret
        exact ⟨rfl, hb⟩
end Go.Proofs.Ytelndpphbpandaa
