/- Rings of keys: keys by their numbers; which rings are the same. -/
import Derived.Test.YtelndpphbpandaaRingD
import Derived.Deep.RegionWith
set_option linter.unusedSimpArgs false
set_option linter.unusedVariables false
namespace Go.Proofs.Ytelndpphbpandaa
open Go.RowKit

def hitB (no : Int) (g : G) : Bool := decide (0 < no) && (g.no == no)
def findF (r : Rg) (no : Int) : G × Bool := bif hitB no r.c then (r.c, true) else bif hitB no r.o then (r.o, true) else bif hitB no r.p then (r.p, true) else (G0, false)
/-- the bytes of a ring's keys -/
structure RgAt (w : World) (r : Rg) (kc ko kp : List UInt8) : Prop where
  lc : r.c.len = kc.length
  c : BytesAt w r.c.a kc
  lo : r.o.len = ko.length
  o : BytesAt w r.o.a ko
  lp : r.p.len = kp.length
  p : BytesAt w r.p.a kp
theorem RgAt.mono {w w' : World} {r : Rg} {kc ko kp : List UInt8} (h : RgAt w r kc ko kp) (hb : Below w.heap.size w w') : RgAt w' r kc ko kp :=
  ⟨h.lc, h.c.mono hb, h.lo, h.o.mono hb, h.lp, h.p.mono hb⟩
def sameG (n n' : Int) (k k' : List UInt8) : Bool := (n == n') && (k == k')
def sameB (r s : Rg) (kc ko kp jc jo jp : List UInt8) : Bool := sameG r.c.no s.c.no kc jc && (sameG r.o.no s.o.no ko jo && (sameG r.p.no s.p.no kp jp && ((r.l == s.l) && (r.t == s.t))))

set_option maxHeartbeats 400000 in
theorem bequal_any (a b : Option Addr) (la ca lb cb : Nat) (l m : List UInt8) (w : World) (ha : la = l.length) (hb : lb = m.length) (hl : BytesAt w a l) (hm : BytesAt w b m) :
    Calls Try.prog 40 #[.slice a la ca, .slice b lb cb] w fun e w' => e = .returned (.bool (l == m)) ∧ w = w' := by
  have h1 := run_str hl 22 9 5 Try.underlying22 Try.underlying5 Try.underlying9 la ca ha
  have h2 := run_str hm 22 9 5 Try.underlying22 Try.underlying5 Try.underlying9 lb cb hb
  have h3 := Lib.hid (beq_str l m)
  clear hl hm ha hb
  go_enter Try.func40, Try.ntmps40
  go_wp2_with fail
  go_ret
  exact ⟨rfl, rfl⟩

set_option maxHeartbeats 1000000 in
theorem find_any (r : Rg) (no : Int) (w : World) :
    Calls Try.prog 18 #[r.v, .int .i64 no] w fun e w' => e = .returned (.tuple #[.slice (findF r no).1.a (findF r no).1.len (findF r no).1.cap, .bool (findF r no).2]) ∧ Below w.heap.size w w' := by
  obtain ⟨c, o, p, l, t⟩ := r
  go_enter Try.func18, Try.ntmps18
  go_wp2_with fail
  refine (all_any c o p l t _).mono ?_; rintro e w1 ⟨rfl, hb1⟩
  have Hb1 := Lib.hid (bt (ba w _) hb1)
  clear hb1
  go_wp2_with fail
  go_loopw [11] (fun i wr => ∃ k : Int, 0 ≤ k ∧ k ≤ 3 ∧ i = .int .i64 k ∧ (0 < k → hitB no c = false) ∧ (1 < k → hitB no o = false) ∧ (2 < k → hitB no p = false) ∧ Below w1.heap.size w1 wr) (fun i _ => 3 - (intOf i).toNat)
  case atStart => exact ⟨0, by omega, by omega, rfl, by omega, by omega, by omega, Below.refl _ _⟩
  case round =>
    obtain ⟨k, hk0, hk3, rfl, h0, h1, h2, hb⟩ := hrel
    have Hb := Lib.hid (bt Hb1.out hb)
    have Hbr := Lib.hid hb
    clear hb
    have e0 := fun W => run_gen0 (.int .i64 c.no) (.slice c.a c.len c.cap) (.int .i64 o.no) (.slice o.a o.len o.cap) (.int .i64 p.no) (.slice p.a p.len p.cap) W
    have e1 := fun W => run_gen1 (.int .i64 c.no) (.slice c.a c.len c.cap) (.int .i64 o.no) (.slice o.a o.len o.cap) (.int .i64 p.no) (.slice p.a p.len p.cap) W
    have e2 := fun W => run_gen2 (.int .i64 c.no) (.slice c.a c.len c.cap) (.int .i64 o.no) (.slice o.a o.len o.cap) (.int .i64 p.no) (.slice p.a p.len p.cap) W
    rcases (show k = 0 ∨ k = 1 ∨ k = 2 ∨ k = 3 by omega) with rfl | rfl | rfl | rfl
    · clear h0 h1 h2
      by_cases hn : 0 < no
      · have hd : decide (0 < no) = true := by simpa using hn
        rcases hq : (c.no == no) with _ | _
        · have HK := Lib.hid (show hitB no c = false by simp [hitB]; intro _; simpa using hq)
          go_wp2_with fail
          exact ⟨⟨1, by decide, by decide, rfl, fun _ => HK.out, by omega, by omega, bt Hbr.out (ba _ _)⟩, by simp [intOf]⟩
        · have HF := Lib.hid (show findF ⟨c, o, p, l, t⟩ no = (c, true) by
            have : hitB no c = true := by simp [hitB, hn]; simpa using hq
            simp [findF, this])
          go_wp2_with fail
          go_ret2
          exact ⟨by rw [HF.out]; rfl, bt Hb.out (ba _ _)⟩
      · have hd : decide (0 < no) = false := by simpa using hn
        have HK := Lib.hid (show hitB no c = false by simp [hitB]; intro h; exact (hn h).elim)
        go_wp2_with fail
        exact ⟨⟨1, by decide, by decide, rfl, fun _ => HK.out, by omega, by omega, bt Hbr.out (ba _ _)⟩, by simp [intOf]⟩
    · have H0 := Lib.hid (h0 (by decide))
      clear h0 h1 h2
      by_cases hn : 0 < no
      · have hd : decide (0 < no) = true := by simpa using hn
        rcases hq : (o.no == no) with _ | _
        · have HK := Lib.hid (show hitB no o = false by simp [hitB]; intro _; simpa using hq)
          go_wp2_with fail
          exact ⟨⟨2, by decide, by decide, rfl, fun _ => H0.out, fun _ => HK.out, by omega, bt Hbr.out (ba _ _)⟩, by simp [intOf]⟩
        · have HF := Lib.hid (show findF ⟨c, o, p, l, t⟩ no = (o, true) by
            have : hitB no o = true := by simp [hitB, hn]; simpa using hq
            simp [findF, H0.out, this])
          go_wp2_with fail
          go_ret2
          exact ⟨by rw [HF.out]; rfl, bt Hb.out (ba _ _)⟩
      · have hd : decide (0 < no) = false := by simpa using hn
        have HK := Lib.hid (show hitB no o = false by simp [hitB]; intro h; exact (hn h).elim)
        go_wp2_with fail
        exact ⟨⟨2, by decide, by decide, rfl, fun _ => H0.out, fun _ => HK.out, by omega, bt Hbr.out (ba _ _)⟩, by simp [intOf]⟩
    · have H0 := Lib.hid (h0 (by decide))
      have H1 := Lib.hid (h1 (by decide))
      clear h0 h1 h2
      by_cases hn : 0 < no
      · have hd : decide (0 < no) = true := by simpa using hn
        rcases hq : (p.no == no) with _ | _
        · have HK := Lib.hid (show hitB no p = false by simp [hitB]; intro _; simpa using hq)
          go_wp2_with fail
          exact ⟨⟨3, by decide, by decide, rfl, fun _ => H0.out, fun _ => H1.out, fun _ => HK.out, bt Hbr.out (ba _ _)⟩, by simp [intOf]⟩
        · have HF := Lib.hid (show findF ⟨c, o, p, l, t⟩ no = (p, true) by
            have : hitB no p = true := by simp [hitB, hn]; simpa using hq
            simp [findF, H0.out, H1.out, this])
          go_wp2_with fail
          go_ret2
          exact ⟨by rw [HF.out]; rfl, bt Hb.out (ba _ _)⟩
      · have hd : decide (0 < no) = false := by simpa using hn
        have HK := Lib.hid (show hitB no p = false by simp [hitB]; intro h; exact (hn h).elim)
        go_wp2_with fail
        exact ⟨⟨3, by decide, by decide, rfl, fun _ => H0.out, fun _ => H1.out, fun _ => HK.out, bt Hbr.out (ba _ _)⟩, by simp [intOf]⟩
    · have HF := Lib.hid (show findF ⟨c, o, p, l, t⟩ no = (G0, false) by simp [findF, h0 (by decide), h1 (by decide), h2 (by decide)])
      clear h0 h1 h2
      go_wp2_with fail
      go_ret2
      exact ⟨by rw [HF.out]; rfl, Hb.out⟩

set_option maxHeartbeats 1000000 in
theorem refFind_any (r : Rg) (no : Int) (w : World) :
    Calls Try.prog 19 #[r.v, .int .i64 no] w fun e w' => e = .returned (.tuple #[.slice (findF r no).1.a (findF r no).1.len (findF r no).1.cap, .bool (findF r no).2]) ∧ Below w.heap.size w w' := by
  obtain ⟨c, o, p, l, t⟩ := r
  by_cases hn : no < 1
  · have HF := Lib.hid (show findF ⟨c, o, p, l, t⟩ no = (G0, false) by
      have : decide (0 < no) = false := by simp; omega
      simp [findF, hitB, this])
    go_enter Try.func19, Try.ntmps19
    go_wp2_with fail
    go_ret2
    exact ⟨by rw [HF.out]; rfl, ba w _⟩
  · have HD := Lib.hid (show decide (0 < no) = true by simp; omega)
    rcases hc : (c.no == no) with _ | _
    · rcases ho : (o.no == no) with _ | _
      · rcases hp : (p.no == no) with _ | _
        · have HF := Lib.hid (show findF ⟨c, o, p, l, t⟩ no = (G0, false) by simp [findF, hitB, HD.out, hc, ho, hp])
          clear HD
          go_enter Try.func19, Try.ntmps19
          go_wp2_with fail
          go_ret2
          exact ⟨by rw [HF.out]; rfl, ba w _⟩
        · have HF := Lib.hid (show findF ⟨c, o, p, l, t⟩ no = (p, true) by simp [findF, hitB, HD.out, hc, ho, hp])
          clear HD
          go_enter Try.func19, Try.ntmps19
          go_wp2_with fail
          go_ret2
          exact ⟨by rw [HF.out]; rfl, ba w _⟩
      · have HF := Lib.hid (show findF ⟨c, o, p, l, t⟩ no = (o, true) by simp [findF, hitB, HD.out, hc, ho])
        clear HD
        go_enter Try.func19, Try.ntmps19
        go_wp2_with fail
        go_ret2
        exact ⟨by rw [HF.out]; rfl, ba w _⟩
    · have HF := Lib.hid (show findF ⟨c, o, p, l, t⟩ no = (c, true) by simp [findF, hitB, HD.out, hc])
      clear HD
      go_enter Try.func19, Try.ntmps19
      go_wp2_with fail
      go_ret2
      exact ⟨by rw [HF.out]; rfl, ba w _⟩

set_option maxHeartbeats 1000000 in
theorem refSameGen_any (g h : G) (k j : List UInt8) (w : World) (hg : g.len = k.length) (hh : h.len = j.length) (hk : BytesAt w g.a k) (hj : BytesAt w h.a j) :
    Calls Try.prog 34 #[genV g, genV h] w fun e w' => e = .returned (.bool (sameG g.no h.no k j)) ∧ Below w.heap.size w w' := by
  have Hk := Lib.hid hk
  have Hj := Lib.hid hj
  have Hg := Lib.hid hg
  have Hh := Lib.hid hh
  clear hk hj hg hh
  rcases hq : (g.no == h.no) with _ | _
  · go_enter Try.func34, Try.ntmps34
    go_wp2_with fail
    go_ret
    exact ⟨by simp [sameG, *], bt (ba w _) (ba _ _)⟩
  · go_enter Try.func34, Try.ntmps34
    go_wp2_with (go_at_call 20; refine (same01_any g.a h.a g.len g.cap h.len h.cap k j _ Hg.out Hh.out (Hk.out.mono (bt (ba w _) (ba _ _))) (Hj.out.mono (bt (ba w _) (ba _ _)))).mono ?_; rintro e w2 ⟨rfl, rfl⟩)
    go_ret
    exact ⟨by simp [sameG, *], bt (ba w _) (ba _ _)⟩
end Go.Proofs.Ytelndpphbpandaa
