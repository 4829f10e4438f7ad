/- The walk of the law HubLives: its last statement. -/
import Derived.Test.YtcccgjpmfbmplaaHuM
set_option linter.unusedSimpArgs false
set_option linter.unusedVariables false
namespace Go.Proofs.Ytcccgjpmfbmplaa
open Go.RowKit

def findRegion (n : Nat) : Code → Option Code
  | .region id ops b => if id = n then some (.region id ops b) else none
  | .seq a b => match findRegion n a with
    | some c => some c
    | none => findRegion n b
  | .block _ c => findRegion n c
  | .scope c => findRegion n c
  | .cond _ a b => match findRegion n a with
    | some c => some c
    | none => findRegion n b
  | _ => none
noncomputable def lives21 : Code := ((Try.f7.body.bind (findRegion 21)).getD .skip)
set_option maxRecDepth 1000000 in
set_option maxHeartbeats 4000000 in
theorem lives_end (x : Hv) (ff : Fv) (K : Nat) (hK : K < 4) (rows : List (List UInt8)) (hM : rows.length ≤ maxLen) {b20 b9 b15 : Nat} {w W : World} {ga a2 : Option Addr} {gk k2 : Nat}
    (B20 : BlkT 29 W b20 ((((x.setF K ff).turn K false).turn K true).live K).L) (B9 : BlkT 29 W b9 x.L) (B15 : BlkT 29 W b15 ((x.setF K ff).turn K false).L) (G : Below w.heap.size w W) (R2 : RowsAt W ga rows) (R3 : RowsAt W a2 rows)
    (K8 : ∀ (f : Fv) (W : World), Calls Try.prog 27 #[(((((x.setF K f).turn K false).turn K true).live K).f K).v, zeroF.v] W (BoolOut W true))
    (S4 : ∀ (rows : List (List UInt8)) (p q : Option Addr) (j k : Nat) (W : World), rows.length ≤ maxLen → RowsAt W p rows → RowsAt W q rows → Calls Try.prog 24 #[.slice p rows.length j, .slice q rows.length k] W (BoolOut W true))
    {Q : Exit → Act → World → Prop} {u0 u1 u2 u3 u4 u5 u6 u10 u11 u12 u13 u17 u22 u25 u27 u28 u29 u30 u31 u32 u33 u34 u35 u36 u37 u38 u39 u40 u41 u42 u43 u44 u45 u46 u47 u48 u49 u50 u51 u52 u53 u54 u55 u56 u57 u58 u59 u60 u61 u62 u63 u64 u65 u66 u67 u68 u69 u70 u71 u72 u73 u74 u75 u76 u77 u78 u79 u80 u81 u82 u83 u84 u85 u86 u87 u88 u89 u90 u91 u92 u93 u94 u95 u96 u97 u98 u99 u100 u101 u102 u103 u104 u105 u106 u107 u108 u109 u110 u111 u112 u113 u114 u115 u116 u117 u118 u119 u120 u121 u122 u123 u124 u125 u126 u127 u128 u129 u130 u131 u132 u133 u134 u135 u136 u137 u138 u139 u140 u141 u142 u143 u144 u145 u146 u147 u148 u149 u150 u151 u152 u153 u154 u155 u156 u157 u158 u159 u160 u161 u162 u163 u164 u165 u166 u167 u168 u169 u170 u171 u172 u173 u174 u175 u176 u177 u178 : Value} (hQ : ∀ a' w', a'.tmps.getD 2 undef = .bool true → a'.defers = [] → Below w.heap.size w w' → Q .normal a' w') :
    Code.wp Try.prog lives21 Q ⟨#[u0, u1, u2, u3, u4, u5, u6, .bool true, .int .i64 K, .pointer (some ⟨b9, 0, none⟩), u10, u11, u12, u13, .int .i64 0, .pointer (some ⟨b15, 0, none⟩), .int .i64 0, u17, .slice none 0 0, .int .i64 11, .pointer (some ⟨b20, 0, none⟩), .int .i64 0, u22, .slice ga rows.length gk, .int .i64 0, u25, .slice a2 rows.length k2, u27, u28, u29, u30, u31, u32, u33, u34, u35, u36, u37, u38, u39, u40, u41, u42, u43, u44, u45, u46, u47, u48, u49, u50, u51, u52, u53, u54, u55, u56, u57, u58, u59, u60, u61, u62, u63, u64, u65, u66, u67, u68, u69, u70, u71, u72, u73, u74, u75, u76, u77, u78, u79, u80, u81, u82, u83, u84, u85, u86, u87, u88, u89, u90, u91, u92, u93, u94, u95, u96, u97, u98, u99, u100, u101, u102, u103, u104, u105, u106, u107, u108, u109, u110, u111, u112, u113, u114, u115, u116, u117, u118, u119, u120, u121, u122, u123, u124, u125, u126, u127, u128, u129, u130, u131, u132, u133, u134, u135, u136, u137, u138, u139, u140, u141, u142, u143, u144, u145, u146, u147, u148, u149, u150, u151, u152, u153, u154, u155, u156, u157, u158, u159, u160, u161, u162, u163, u164, u165, u166, u167, u168, u169, u170, u171, u172, u173, u174, u175, u176, u177, u178], []⟩ W := by
  conv => arg 2; whnf
  try dsimp only [List.append]
  have HQ2 := Lib.hid hQ
  have M2 := Lib.hid hM
  have k8 := Lib.hid K8
  have s4 := Lib.hid S4
  have C20 := Lib.hid B20
  have C9 := Lib.hid B9
  have C15 := Lib.hid B15
  have R2d := Lib.hid (R2.mono (bd _))
  have R3d := Lib.hid (R3.mono (bd _))
  have HQ := Lib.hid (show ∀ w' : World, BlkT 29 w' b20 ((((x.setF K ff).turn K false).turn K true).live K).L → BlkT 29 w' b9 x.L → BlkT 29 w' b15 ((x.setF K ff).turn K false).L → (w'.cell? ⟨b20, 16 + K, none⟩ = some (.int .i64 (more (x.l K))) ∧ w'.cell? ⟨b9, 16 + K, none⟩ = some (.int .i64 (x.l K)) ∧ w'.cell? ⟨b20, K, none⟩ = some (.bool true) ∧ w'.cell? ⟨b15, K, none⟩ = some (.bool false) ∧ w'.cell? ⟨b20, 4 + K * 3, none⟩ = some (.slice (((((x.setF K ff).turn K false).turn K true).live K).f K).a (((((x.setF K ff).turn K false).turn K true).live K).f K).len (((((x.setF K ff).turn K false).turn K true).live K).f K).cap) ∧ w'.cell? ⟨b20, 4 + K * 3 + 1, none⟩ = some (.int .i64 (((((x.setF K ff).turn K false).turn K true).live K).f K).skip) ∧ w'.cell? ⟨b20, 4 + K * 3 + 2, none⟩ = some (.int .i64 (((((x.setF K ff).turn K false).turn K true).live K).f K).bad)) from fun w' h1 h2 h3 => by
    have x1 := hubLife h1.blk K hK
    have x3 := hub_up h1.blk K hK
    have x4 := hub_up h3.blk K hK
    rw [show ((((x.setF K ff).turn K false).turn K true).live K).l K = more (x.l K) from if_pos rfl] at x1
    rw [show ((((x.setF K ff).turn K false).turn K true).live K).u K = true from if_pos rfl] at x3
    rw [show ((x.setF K ff).turn K false).u K = false from if_pos rfl] at x4
    exact ⟨x1, hubLife h2.blk K hK, x3, x4, hubFeed h1.blk K hK⟩)
  have mq := more_eq (x.l K)
  have mq2 : IntKind.i64.wrap (x.l K + 1) = more (x.l K) := rfl
  have hK0 : (0 : Int) ≤ (K : Int) := by omega
  have hK1 : (K : Int) < 4 := by omega
  have hK2 : (K : Int) ≤ 4 := by omega
  have bv0 := btd G
  have Q0 := HQ.out _ B20 B9 B15
  clear hQ hM K8 S4 B20 B9 B15 G R2 R3
  go_region_held3 (fun w' => w'.cell? ⟨b20, 16 + K, none⟩ = some (.int .i64 (more (x.l K))) ∧ w'.cell? ⟨b9, 16 + K, none⟩ = some (.int .i64 (x.l K)) ∧ w'.cell? ⟨b20, K, none⟩ = some (.bool true) ∧ w'.cell? ⟨b15, K, none⟩ = some (.bool false) ∧ w'.cell? ⟨b20, 4 + K * 3, none⟩ = some (.slice (((((x.setF K ff).turn K false).turn K true).live K).f K).a (((((x.setF K ff).turn K false).turn K true).live K).f K).len (((((x.setF K ff).turn K false).turn K true).live K).f K).cap) ∧ w'.cell? ⟨b20, 4 + K * 3 + 1, none⟩ = some (.int .i64 (((((x.setF K ff).turn K false).turn K true).live K).f K).skip) ∧ w'.cell? ⟨b20, 4 + K * 3 + 2, none⟩ = some (.int .i64 (((((x.setF K ff).turn K false).turn K true).live K).f K).bad)) (first | assumption) (first
    | (go_at_call 24; (with_reducible refine Calls.mono (s4.out rows ga a2 gk k2 _ M2.out R2d.out R3d.out) ?_); rintro e v1 ⟨rfl, hv1⟩; have bv1 := bt bv0 hv1; have Ev1 := (C20.out.up (bd _)).up hv1; have Fv1 := (C9.out.up (bd _)).up hv1; have Hv1 := (C15.out.up (bd _)).up hv1; have Qv1 := HQ.out v1 Ev1 Fv1 Hv1)
    | (go_at_call 27; (with_reducible refine Calls.mono (k8.out ff v1) ?_); rintro e v2 ⟨rfl, hv2⟩; have bv2 := bt bv1 hv2; have Qv2 := HQ.out v2 (Ev1.up hv2) (Fv1.up hv2) (Hv1.up hv2)))
  all_goals exact HQ2.out _ _ (by simp) rfl bv2
end Go.Proofs.Ytcccgjpmfbmplaa
