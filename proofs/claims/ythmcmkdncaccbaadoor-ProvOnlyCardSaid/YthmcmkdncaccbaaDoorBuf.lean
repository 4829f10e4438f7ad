/- Buffers: a slice that the call itself grows; all below its first block stays as it was. No program in sight. -/
import Derived.Test.YthmcmkdncaccbaaDoorBytes
import Derived.Deep.RegionLaw
set_option linter.unusedSimpArgs false
set_option linter.unusedVariables false
namespace Go.Proofs.YthmcmkdncaccbaaDoor
open Go.RowKit

/-- v, in world w, is a slice of n elements of one cell each, grown since world wB; its cells are xs -/
structure Buf (wB w : World) (e : TypeId) (v : Value) (n : Nat) (xs : List Value) : Prop where
  own : w.ownsRow wB.heap.size e 1 v n xs
  bel : Below wB.heap.size wB w

theorem Buf.nil (w : World) (e : TypeId) : Buf w w e (.slice none 0 0) 0 [] := ⟨⟨rfl, .inl ⟨rfl, rfl⟩⟩, Below.refl _ _⟩
theorem Buf.nil' {wB w : World} (e : TypeId) (h : Below wB.heap.size wB w) : Buf wB w e (.slice none 0 0) 0 [] := ⟨⟨rfl, .inl ⟨rfl, rfl⟩⟩, h⟩
theorem Buf.made (w : World) (e : TypeId) (cs : List Value) (k cap : Nat) (hk : k ≤ cap) (hl : cs.length = cap) (hm : cap ≤ maxLen) :
    Buf w (w.alloc (.cells cs.toArray e)) e (.slice (some ⟨w.heap.size, 0, Option.none⟩) k cap) k (cs.take k) :=
  ⟨⟨by rw [List.length_take]; omega, .inr ⟨w.heap.size, cap, cs.toArray, rfl, Nat.le_refl _, by simp only [World.alloc, Array.getElem?_push, if_true], hk, hm, by simp [hl], by simp⟩⟩, ba w _⟩
theorem Buf.size {wB w : World} {e : TypeId} {v : Value} {n : Nat} {xs : List Value} (h : Buf wB w e v n xs) : wB.heap.size ≤ w.heap.size := h.bel.size
theorem Buf.len {wB w : World} {e : TypeId} {v : Value} {n : Nat} {xs : List Value} (h : Buf wB w e v n xs) : xs.length = n := by have := h.own.1; omega
theorem Buf.slice {wB w : World} {e : TypeId} {v : Value} {n : Nat} {xs : List Value} (h : Buf wB w e v n xs) : ∃ a cap, v = .slice a n cap ∧ n ≤ cap ∧ cap ≤ maxLen := own_slice h.own
theorem Buf.at {wB w : World} {e : TypeId} {a : Option Addr} {n cap : Nat} {xs : List Value} (h : Buf wB w e (.slice a n cap) n xs) : At w a xs := own_at h.own
theorem Buf.cap {wB w : World} {e : TypeId} {a : Option Addr} {n m cap : Nat} {xs : List Value} (h : Buf wB w e (.slice a m cap) n xs) : m = n ∧ n ≤ cap ∧ cap ≤ maxLen := by
  obtain ⟨_, _, h, h1, h2⟩ := own_slice h.own
  cases h; exact ⟨rfl, h1, h2⟩
theorem Buf.later {wB w w' : World} {e : TypeId} {v : Value} {n : Nat} {xs : List Value} (h : Buf wB w e v n xs) (hb : Below w.heap.size w w') : Buf wB w' e v n xs := by
  obtain ⟨⟨h1, h2⟩, h3⟩ := h
  refine ⟨⟨h1, ?_⟩, h3.trans (hb.mono h3.size)⟩
  rcases h2 with h2 | ⟨g, cap, cur, hv, hg, hh, r⟩
  · exact .inl h2
  · exact .inr ⟨g, cap, cur, hv, hg, by rw [hb.block g (Array.getElem?_eq_some_iff.1 hh).1]; exact hh, r⟩
theorem Buf.alloc {wB w : World} {e : TypeId} {v : Value} {n : Nat} {xs : List Value} (h : Buf wB w e v n xs) (o : Obj) : Buf wB (w.alloc o) e v n xs := h.later (ba w o)
theorem Buf.drew {wB w : World} {e : TypeId} {v : Value} {n : Nat} {xs : List Value} (h : Buf wB w e v n xs) : Buf wB w.drew e v n xs := h.later (bd w)
theorem Buf.drewN {wB w : World} {e : TypeId} {v : Value} {n : Nat} {xs : List Value} (h : Buf wB w e v n xs) (k : Nat) : Buf wB (w.drewN k) e v n xs := ⟨h.own, h.bel.trans ⟨rfl, rfl, rfl, Nat.le_refl _, fun _ _ => rfl⟩⟩
theorem Buf.blk {wB w : World} {e : TypeId} {v : Value} {n : Nat} {xs : List Value} (h : Buf wB w e v n xs) {b : Nat} {cs : List Value} (hB : Blk wB b cs) : Blk w b cs := hB.below h.bel hB.lt
theorem Buf.atOld {wB w : World} {e : TypeId} {v : Value} {n : Nat} {xs : List Value} (h : Buf wB w e v n xs) {a : Option Addr} {cs : List Value} (hB : At wB a cs) : At w a cs := hB.mono h.bel

/-- append onto a buffer, as a step of the model -/
theorem run_buf {P : Program} {t e : TypeId} {bytes : Nat} {z : Value} (E : ElemT P t e 1 bytes z) {wB w : World} {n : Nat} {v : Value} {xs : List Value} (hB : Buf wB w e v n xs)
    {sp : Option Addr} {m : Nat} (c : Nat) {news : List Value} (hS : At w sp news) (hl : news.length = m) (h1 : ∀ u ∈ news, u.oneCell' = true) (h63 : (n + m) * bytes ≤ 140737488355328) (hb : 0 < bytes) (ty : TypeId) :
    ∃ a' cap' w', (Builtin.append_ #[t, t] ty #[v, .slice sp m c]).run P w = .ok (.slice a' (n + m) cap') w' ∧ Buf wB w' e (.slice a' (n + m) cap') (n + m) (xs ++ news) := by
  have hle : n + m ≤ (n + m) * bytes := Nat.le_mul_of_pos_right _ hb
  obtain ⟨a', cap', w', hr, ho, hg⟩ := run_app E hB.own c hS (by omega) h1 (by unfold maxLen; omega) h63 hB.size ty
  exact ⟨a', cap', w', hr, ho, below_own hB.bel hB.own hg hB.size (Nat.le_refl _)⟩

theorem wpList_buf {P : Program} {ops : Array Oper} {rest : List Oper} {o : Oper} {a : Act} {w : World} {Q : Exit → Act → World → Prop} (s x : Operand) (t : TypeId) {e : TypeId} {bytes : Nat} {z : Value} (hgd : o.guard = Option.none)
    (ho : o.op = .call { callee := .builtin .append, args := #[s, x], argTypes := #[t, t] }) (E : ElemT P t e 1 bytes z) {wB : World} {n : Nat} {v : Value} {xs : List Value} (hs : a.eval s = v) (hB : Buf wB w e v n xs)
    {sp : Option Addr} {m c : Nat} {news : List Value} (hx : a.eval x = .slice sp m c) (hS : At w sp news) (hl : news.length = m) (h1 : ∀ u ∈ news, u.oneCell' = true) (h63 : (n + m) * bytes ≤ 140737488355328) (hb : 0 < bytes)
    (k : Nat) (hk : n + m = k) (ys : List Value) (hys : xs ++ news = ys)
    (h : ∀ a' cap' w', Buf wB w' e (.slice a' k cap') k ys → wpList P ops Q rest (a.put o.dst (.slice a' k cap')) w') : wpList P ops Q (o :: rest) a w := by
  subst hk hys
  refine wpList_plain hgd fun K hK => ?_
  obtain ⟨a', cap', w', hr, h2⟩ := run_buf E hB c hS hl h1 h63 hb o.type
  unfold Oper.wp execOp
  simp only [ho, resolve, List.map_toArray, List.map_cons, List.map_nil, hs, hx, invoke, builtin, Sem.run_bind, Sem.run_pure, Result.andThen_ok, hr]
  exact hK _ _ (h a' cap' w' h2)

theorem step_buf {P : Program} {ops : Array Oper} {o : Oper} {a : Act} {w : World} {K : Act → World → Prop} {Q : Exit → Act → World → Prop} {F : Prop} (s x : Operand) (t : TypeId) {e : TypeId} {bytes : Nat} {z : Value} (hgd : o.guard = Option.none)
    (ho : o.op = .call { callee := .builtin .append, args := #[s, x], argTypes := #[t, t] }) (E : ElemT P t e 1 bytes z) {wB : World} {n : Nat} {v : Value} {xs : List Value} (hs : a.eval s = v) (hB : Buf wB w e v n xs)
    {sp : Option Addr} {m c : Nat} {news : List Value} (hx : a.eval x = .slice sp m c) (hS : At w sp news) (hl : news.length = m) (h1 : ∀ u ∈ news, u.oneCell' = true) (h63 : (n + m) * bytes ≤ 140737488355328) (hb : 0 < bytes)
    (k : Nat) (hk : n + m = k) (ys : List Value) (hys : xs ++ news = ys)
    (hK : ∀ a' cap' w', Buf wB w' e (.slice a' k cap') k ys → K (a.put o.dst (.slice a' k cap')) w') :
    if Region.wanted o (yielded ops a.tmps) = true then Oper.wp P o a w K Q else F := by
  subst hk hys
  have hw : Region.wanted o (yielded ops a.tmps) = true := by simp [Region.wanted, hgd]
  rw [if_pos hw]
  obtain ⟨a', cap', w', hr, h2⟩ := run_buf E hB c hS hl h1 h63 hb o.type
  unfold Oper.wp execOp
  simp only [ho, resolve, List.map_toArray, List.map_cons, List.map_nil, hs, hx, invoke, builtin, Sem.run_bind, Sem.run_pure, Result.andThen_ok, hr]
  exact hK _ _ _ h2

/-- make with room and no elements -/
theorem run_mk0 {P : Program} {t e : TypeId} {bytes : Nat} {z : Value} (E : ElemT P t e 1 bytes z) (w : World) (k k' : IntKind) (c : Nat) (hb : bytes * c ≤ 281474976710656) (hm : c ≤ maxLen) (h1 : z.oneCell' = true) (zs : List Value) (hzs : zs = List.replicate c z) :
    (Instr.makeSlice t (.int k 0) (.int k' c)).run P w = .ok (.slice (some ⟨w.heap.size, 0, Option.none⟩) 0 c) (w.alloc (.cells zs.toArray e)) := by
  subst hzs
  obtain ⟨i, hi, hz, hsz, hby⟩ := E.info
  unfold maxLen at hm
  have := run_make (P := P) w t e i z E.slice hi hz k k' 0 c (by omega) (by omega) (by rw [hby, ← Int.natCast_mul]; omega) (by omega)
  rw [this]
  simp only [Int.toNat_natCast, hsz, Nat.mul_one]
  congr 3
  have hc : z.cells = #[z] := by cases z <;> first | rfl | cases h1
  rw [hc]
  apply Array.ext
  · simp [madeCells]
  · intro j h1 h2
    simp [madeCells, Nat.mod_one]
theorem adv_zero (a : Option Addr) (cap n : Nat) : adv a cap 0 n = a := by
  unfold adv; split
  · rfl
  · cases a <;> simp [Addr.add]
theorem run_head {P : Program} {t e : TypeId} {n : Nat} (ht : P.underlying t = some (.slice e)) (hs : ∀ w, (sizeOf e).run P w = .ok n w) (w : World) (a : Option Addr) (len cap k : Nat) (h1 : k ≤ cap) :
    (Instr.sliceAt t (.slice a len cap) Option.none (some (.int .i64 k)) Option.none).run P w = .ok (.slice a k cap) w := by
  have := run_adv_h ht hs w a len cap k (by omega) (by omega)
  rw [this, adv_zero, Int.toNat_natCast]; rfl
theorem run_tail {P : Program} {t e : TypeId} {n : Nat} (ht : P.underlying t = some (.slice e)) (hs : ∀ w, (sizeOf e).run P w = .ok n w) (w : World) (a : Option Addr) (len cap k : Nat) (h1 : k ≤ len) :
    (Instr.sliceAt t (.slice a len cap) (some (.int .i64 k)) Option.none Option.none).run P w = .ok (.slice (adv a cap k n) (len - k) (cap - k)) w := by
  have := run_adv_l ht hs w a len cap k (by omega) (by omega)
  rwa [Int.toNat_natCast] at this
theorem at_new (w : World) (cs : List Value) (T : TypeId) : At (w.alloc (.cells cs.toArray T)) (some ⟨w.heap.size, 0, Option.none⟩) cs := (Blk.new w cs T).at

/-- an int's low byte, and the byte that stands so many bits up -/
def lowByte (n : Int) : UInt8 := UInt8.ofNat (n % 256).toNat
theorem wrap8 (n : Int) : IntKind.u8.wrap n = bv (lowByte n) := by
  unfold lowByte bv
  have h0 : 0 ≤ n % 256 := Int.emod_nonneg _ (by decide)
  have h1 : n % 256 < 256 := Int.emod_lt_of_pos _ (by decide)
  rw [UInt8.toNat_ofNat', Nat.mod_eq_of_lt (by omega), Int.toNat_of_nonneg h0]
  have : IntKind.u8.wrap n = IntKind.u8.wrap (((n % 256).toNat : Nat) : Int) := by
    rw [Int.toNat_of_nonneg h0]
    unfold IntKind.wrap
    simp [IntKind.signed, IntKind.bits]
  rw [this, wrap_nat8 _ (by omega), Int.toNat_of_nonneg h0]
end Go.Proofs.YthmcmkdncaccbaaDoor
