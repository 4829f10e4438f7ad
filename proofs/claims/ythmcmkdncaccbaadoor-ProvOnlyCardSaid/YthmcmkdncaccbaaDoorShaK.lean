/- The digests of bytes; the walks of Of, of both. -/
import Derived.Test.YthmcmkdncaccbaaDoorShaJ
import Derived.Test.YthmcmkdncaccbaaDoorShaG
set_option linter.unusedSimpArgs false
set_option linter.unusedVariables false
namespace Go.Proofs.YthmcmkdncaccbaaDoor
open Go.RowKit

/-- the digest of bytes -/
def ofF (l : List UInt8) : List UInt8 := sumF (putS iv l) (putR l) l.length
theorem putR_length (l : List UInt8) : (putR l).length = l.length % 64 := by unfold putR nb; rw [List.length_drop]; omega
theorem bytes_length (R : R8) : R.bytes.length = 32 := rfl
theorem ofF_length (l : List UInt8) : (ofF l).length = 32 := rfl

theorem sum_any (s : R8) (n : Int) (a : Option Addr) (len ca : Nat) (l : List UInt8) (h0 : 0 ≤ n) (hn : n ≤ 1125899906842624) (hlen : len = l.length) (hr : (l.length : Int) = n % 64) (w : World) (hl : BytesAt w a l) (hk : KeysAt w) :
    Calls Tryd.prog 42 #[.agg (hashC s n a len ca).toArray] w (BytesOut w (sumF s l n.toNat)) := by
  subst hlen
  have := sum_core s n.toNat a ca l (by omega) (by omega) w hl hk
  rwa [Int.toNat_of_nonneg h0] at this
theorem refSum_any (s : R8) (n : Int) (a : Option Addr) (len ca : Nat) (l : List UInt8) (h0 : 0 ≤ n) (hn : n ≤ 1125899906842624) (hlen : len = l.length) (hr : (l.length : Int) = n % 64) (w : World) (hl : BytesAt w a l) :
    Calls Tryd.prog 43 #[.agg (hashC s n a len ca).toArray] w (BytesOut w (sumF s l n.toNat)) := by
  subst hlen
  have := refSum_core s n.toNat a ca l (by omega) (by omega) w hl
  rwa [Int.toNat_of_nonneg h0] at this

theorem at_none (w : World) : BytesAt w none [] := .inl rfl
/-- bytes put behind nothing -/
theorem put_new (b : Option Addr) (lb cb : Nat) (m : List UInt8) (hb : lb = m.length) (hsz : lb ≤ 2147483647) (w : World) (hm : BytesAt w b m) (hk : KeysAt w) :
    Calls Tryd.prog 40 #[.agg (hashC iv 0 none 0 0).toArray, .slice b lb cb] w (HashOut w (putS iv m) m.length (putR m)) := by
  subst hb
  have := put_core iv 0 none b 0 cb [] m (by omega) (by omega) (by omega) (by simpa using hsz) w (at_none w) hm hk
  rwa [Int.zero_add] at this
theorem refPut_new (b : Option Addr) (lb cb : Nat) (m : List UInt8) (hb : lb = m.length) (hsz : lb ≤ 2147483647) (w : World) (hm : BytesAt w b m) :
    Calls Tryd.prog 44 #[.agg (hashC iv 0 none 0 0).toArray, .slice b lb cb] w (HashOut w (putS iv m) m.length (putR m)) := by
  subst hb
  have := refPut_core iv 0 none b 0 cb [] m (by omega) (by omega) (by omega) (by simpa using hsz) w (at_none w) hm
  rwa [Int.zero_add] at this

set_option maxRecDepth 100000 in
set_option maxHeartbeats 1000000 in
theorem of_any (b : Option Addr) (lb cb : Nat) (m : List UInt8) (hb : lb = m.length) (hsz : lb ≤ 2147483647) (w : World) (hm : BytesAt w b m) (hk : KeysAt w) :
    Calls Tryd.prog 46 #[.slice b lb cb] w (BytesOut w (ofF m)) := by
  have Hm := Lib.hid hm
  have Hk := Lib.hid hk
  have HB := Lib.hid hb
  have hml : m.length ≤ 2147483647 := by omega
  clear hm hk hb
  go_enter Tryd.func46, Tryd.ntmps46
  go_wp2_with fail
  refine (new_any _).mono ?_; rintro e w1 ⟨rfl, hb1⟩
  go_wp2_with fail
  refine (put_new b lb cb m HB.out hsz _ (At.mono Hm.out hb1) (KeysAt.mono Hk.out hb1)).mono ?_; rintro e w2 ⟨a2, c2, rfl, hat2, hb2⟩
  have hb12 := bt hb1 hb2
  go_wp2_with fail
  refine (sum_any (putS iv m) m.length a2 _ c2 (putR m) (by omega) (by omega) rfl (by rw [putR_length]; omega) _ hat2 (KeysAt.mono Hk.out hb12)).mono ?_; rintro e w3 ⟨a3, c3, rfl, hat3, hb3⟩
  go_wp2_with fail
  go_ret
  exact ⟨a3, c3, rfl, hat3, bt hb12 hb3⟩

set_option maxRecDepth 100000 in
set_option maxHeartbeats 1000000 in
theorem refOf_any (b : Option Addr) (lb cb : Nat) (m : List UInt8) (hb : lb = m.length) (hsz : lb ≤ 2147483647) (w : World) (hm : BytesAt w b m) :
    Calls Tryd.prog 37 #[.slice b lb cb] w (BytesOut w (ofF m)) := by
  have Hm := Lib.hid hm
  have HB := Lib.hid hb
  have hml : m.length ≤ 2147483647 := by omega
  clear hm hb
  go_enter Tryd.func37, Tryd.ntmps37
  go_wp2_with fail
  refine (refNew_any _).mono ?_; rintro e w1 ⟨rfl, hb1⟩
  go_wp2_with fail
  refine (refPut_new b lb cb m HB.out hsz _ (At.mono Hm.out hb1)).mono ?_; rintro e w2 ⟨a2, c2, rfl, hat2, hb2⟩
  have hb12 := bt hb1 hb2
  go_wp2_with fail
  refine (refSum_any (putS iv m) m.length a2 _ c2 (putR m) (by omega) (by omega) rfl (by rw [putR_length]; omega) _ hat2).mono ?_; rintro e w3 ⟨a3, c3, rfl, hat3, hb3⟩
  go_wp2_with fail
  go_ret
  exact ⟨a3, c3, rfl, hat3, bt hb12 hb3⟩
end Go.Proofs.YthmcmkdncaccbaaDoor
