/- Proved here, for use further on: LgH InZ. Conditions: none but those each theorem names. -/
import Derived.Test.YtadpiemjgfndgaaGreatDoorKe00
import Derived.Test.YtadpiemjgfndgaaGreatDoorKe26
import Derived.Test.YtadpiemjgfndgaaGreatDoorKe18
import Derived.Test.YtadpiemjgfndgaaGreatDoorKe06
import Derived.Test.YtadpiemjgfndgaaGreatDoorKe02
import Derived.Deep.Slices
import Derived.ChangeSame
import Derived.Deep.Fields
set_option linter.unusedSimpArgs false
set_option linter.unusedVariables false
set_option maxRecDepth 100000
set_option maxRecDepth 100000
set_option maxHeartbeats 8000000
namespace Go.Proofs.YtadpiemjgfndgaaGreatDoor
open Go.RowKit
theorem Eq1{P:Program}(w:World)(x y:Operand)(t:TypeId)(a b:Int):(eqGuard .add t x y (.int .i64 a) (.int .i64 b)).run P w=.ok () w∧(binOp .add t (.int .i64 a) (.int .i64 b)).run P w=.ok (.int .i64 (wrap64 (a+b))) w:=by
 constructor<;>simp[go_sem,IntKind.wrap_i64,wrap64]
theorem Fd9(a:Act)(ks:List Nat):∃f:Nat→Value,a=C4 a ks (ks.map f)∧∀k,f k=a.tmps.getD k undef:=⟨_,Bp6 a ks,fun _=>rfl⟩
theorem Am1(s:Sv):(A6 s).getD 66 undef=.int .i64 s.e.c0∧(A6 s).getD 67 undef=.int .i64 s.e.c1∧(A6 s).getD 68 undef=.int .i64 s.e.c2∧(A6 s).getD 69 undef=.int .i64 s.e.c3∧(A6 s).getD 72 undef=.bool s.f:=⟨rfl,rfl,rfl,rfl,rfl⟩
noncomputable def Eq2:{ops:Array Oper//(Tryz.f7.body.bind (L9 17))=some (.region 17 ops true)}:=⟨_,rfl⟩
abbrev Bk7:List Nat:=[100,101,102,103,104,105,106,107,108,109,110,111,112,15]
theorem Bn7{X s:Sv}{n k cx cs m:Int}{o n3 n8:Nat}{a:Act}{w:World}{Q:Exit→Act→World→Prop}(hsz:145≤a.tmps.size)
 (e3:a.tmps.getD 3 undef=.pointer (some ⟨n3,0,none⟩)) (e8:a.tmps.getD 8 undef=.pointer (some ⟨n8,0,none⟩)) (e15:a.tmps.getD 15 undef=.int .i64 n) (e16:a.tmps.getD 16 undef=.int .i64 k) (hP:∀c a d v w,Q (.panic c) (Act.put a d v) w→Q (.panic c) a w) (B3:A5 51 w n3 (A6 s)) (B8:A5 51 w n8 (A6 X))
 (hI:∀b w,(Instr.indexAt 40 (.pointer (some ⟨b,66,none⟩)) (.int .i64 k)).run Tryz.prog w=.ok (.pointer (some ⟨b,o,none⟩)) w)
 (hx:∀w',A5 51 w' n8 (A6 X)→w'.cell? ⟨n8,o,none⟩=some (.int .i64 cx)) (hs:∀w',A5 51 w' n3 (A6 s)→w'.cell? ⟨n3,o,none⟩=some (.int .i64 cs)) (hm:m=wrap64 (wrap64 (n+cx)-cs))
 (hQ:∀{x100 x101 x102 x103 x104 x105 x106 x107 x108 x109 x110 x111 x112} w',Below w.heap.size w w'→Q .normal (C4 a Bk7 [x100,x101,x102,x103,x104,x105,x106,x107,x108,x109,x110,x111,x112,.int .i64 m]) w'):
 (Code.region 17 Eq2.1 true).wp Tryz.prog Q a w:=by
 have rG:Rgn Eq2.1 Bk7 a Q:=⟨fun k hk=>Nat.lt_of_lt_of_le ((by decide:∀k∈Bk7,k<145) k hk) hsz,by kernel_rfl,hP⟩;have hb:=rG.b;obtain⟨i,h0,hi⟩:=Fd9 a Bk7;let S:World→Prop:=fun w'=>A5 51 w' n3 (A6 s)∧A5 51 w' n8 (A6 X);refine wp_region_held_drew (S:=S) (by kernel_rfl) (⟨B3.up (bd _),B8.up (bd _)⟩) fun hHeld=>?_;have N0:∀(u:World) (G:Below w.heap.size w u),wpAnyH Tryz.prog .any Eq2.1 Q S 0 (lm 14 16383) (C4 a Bk7 [i6 n,i6 k,pt n8 0,pt n8 66,pt n8 o,i6 cx,i6 (wrap64 (n+cx)),i6 k,pt n3 0,pt n3 66,pt n3 o,i6 cs,i6 m,i6 m]) u:=by
  intro u G;refine Q4 ?_;exact hQ _ G
 exact J8 14 rG [(0,100,i6 n),(1,101,i6 k),(2,102,pt n8 0),(3,103,pt n8 66),(4,104,pt n8 o),(5,105,i6 cx),(6,106,i6 (wrap64 (n+cx))),(7,107,i6 k),(8,108,pt n3 0),(9,109,pt n3 66),(10,110,pt n3 o),(11,111,i6 cs),(12,112,i6 m),(13,15,i6 m)] h0 ⟨B3.up (bd _),B8.up (bd _)⟩ ⟨A9 rfl ((hi 15).trans e15),A9 rfl e16,A8 rfl e8,A8 rfl,I5 rfl rfl rfl (fun w=>hI n8 w),D6 rfl (fun w hw=>hx w hw.2),Aq6 rfl (fun w=>Eq1 w _ _ _ n cx),A9 rfl e16,A8 rfl e3,A8 rfl,I5 rfl rfl rfl (fun w=>hI n3 w),D6 rfl (fun w hw=>hs w hw.1),Aq6 rfl (fun w=>by rw[hm];exact Bk3 w _ _ _ (wrap64 (n+cx)) cs),Ah3 rfl,trivial⟩ (N0 _  (bd w))
noncomputable def Av5:{ops:Array Oper//(Tryz.f7.body.bind (L9 20))=some (.region 20 ops true)}:=⟨_,rfl⟩
abbrev Ad5:List Nat:=[120,121,122,123,124,125,126,127,128,129,130,131,132,133,134,135,136,137,138,139,140,141,142,143,144,2]
theorem Cw8:opx Av5.1 8=some (.call {callee:=.value (.func 28),args:=#[.tmp 127],argTypes:=#[46]},some 128,some (5,true)):=by kernel_rfl
theorem Cq9:opx Av5.1 11=some (.call {callee:=.value (.func 28),args:=#[.tmp 130],argTypes:=#[46]},some 131,some (5,true)):=by kernel_rfl
theorem Cr0:opx Av5.1 12=some (.call {callee:=.value (.func 27),args:=#[.tmp 128,.tmp 131],argTypes:=#[46,46]},some 132,some (5,true)):=by kernel_rfl
theorem Ef9{X s:Sv}{Z:Ev}{n3 n8:Nat}{a:Act}{w:World}{Q:Exit→Act→World→Prop}(hsz:145≤a.tmps.size)
 (e3:a.tmps.getD 3 undef=.pointer (some ⟨n3,0,none⟩)) (e7:a.tmps.getD 7 undef=.bool true) (e8:a.tmps.getD 8 undef=.pointer (some ⟨n8,0,none⟩)) (e15:a.tmps.getD 15 undef=.int .i64 1) (hP:∀c a d v w,Q (.panic c) (Act.put a d v) w→Q (.panic c) a w) (B3:A5 51 w n3 (A6 s)) (B8:A5 51 w n8 (A6 X))
 (hx:∀w',A5 51 w' n8 (A6 X)→w'.cell? ⟨n8,72,none⟩=some (.bool true)) (hs:∀w',A5 51 w' n3 (A6 s)→w'.cell? ⟨n3,72,none⟩=some (.bool true))
 (H1:∀u,Below w.heap.size w u→Calls Tryz.prog 28 #[.agg (A7 X.e).toArray] u (fun x w'=>x=.returned (.agg (A7 Z).toArray)∧Below u.heap.size u w')) (H2:∀u,Below w.heap.size w u→Calls Tryz.prog 28 #[.agg (A7 s.e).toArray] u (fun x w'=>x=.returned (.agg (A7 Z).toArray)∧Below u.heap.size u w')) (H3:∀u,Below w.heap.size w u→Calls Tryz.prog 27 #[.agg (A7 Z).toArray,.agg (A7 Z).toArray] u (fun x w'=>x=.returned (.bool true)∧Below u.heap.size u w'))
 (hQ:∀{x120 x121 x122 x123 x124 x125 x126 x127 x128 x129 x130 x131 x132 x133 x134 x135 x136 x137 x138 x139 x140 x141 x142 x143 x144} w',Below w.heap.size w w'→Q .normal (C4 a Ad5 [x120,x121,x122,x123,x124,x125,x126,x127,x128,x129,x130,x131,x132,x133,x134,x135,x136,x137,x138,x139,x140,x141,x142,x143,x144,.bool true]) w'):
 (Code.region 20 Av5.1 true).wp Tryz.prog Q a w:=by
 have h11:((1:Int)==1)=true:=rfl;have rG:Rgn Av5.1 Ad5 a Q:=⟨fun k hk=>Nat.lt_of_lt_of_le ((by decide:∀k∈Ad5,k<145) k hk) hsz,by kernel_rfl,hP⟩;have hb:=rG.b;obtain⟨i,h0⟩:=T4 a Ad5;let S:World→Prop:=fun w'=>A5 51 w' n3 (A6 s)∧A5 51 w' n8 (A6 X);refine wp_region_held_drew (S:=S) (by kernel_rfl) (⟨B3.up (bd _),B8.up (bd _)⟩) fun hHeld=>?_;have N8_11_12:∀(u:World) (G:Below w.heap.size w u),wpAnyH Tryz.prog .any Av5.1 Q S 0 (lm 26 67108863) (C4 a Ad5 [.bool true,.bool true,i6 1,.bool true,.bool true,.bool true,pt n8 0,.agg (A7 X.e).toArray,.agg (A7 Z).toArray,pt n3 0,.agg (A7 s.e).toArray,.agg (A7 Z).toArray,.bool true,.bool true,.bool true,pt n3 70,pt n3 72,.bool true,.bool false,.bool false,pt n8 70,pt n8 72,.bool true,.bool true,.bool true,.bool true]) u:=by
  intro u G;refine Q4 ?_;exact hQ _ G
 have N8_11:∀(u:World) (G:Below w.heap.size w u),wpAnyH Tryz.prog .any Av5.1 Q S 14 (lm 26 4095) (C4 a Ad5 [.bool true,.bool true,i6 1,.bool true,.bool true,.bool true,pt n8 0,.agg (A7 X.e).toArray,.agg (A7 Z).toArray,pt n3 0,.agg (A7 s.e).toArray,.agg (A7 Z).toArray,i 132,i 133,i 134,i 135,i 136,i 137,i 138,i 139,i 140,i 141,i 142,i 143,i 144,i 2]) u:=by
  intro u G;refine D5 [12] (C9 rG Cr0 ?_ AllReadyH.nil);intro o hp hd;refine J7 hp (rG.ev2 (.agg (A7 Z).toArray) (.agg (A7 Z).toArray)) (H3 _ G) ?_;rintro x u12 ⟨rfl,hb12⟩;refine⟨_,rfl,?_⟩;exact F9 rG [(13,133,.bool true),(14,134,.bool true),(15,135,pt n3 70),(16,136,pt n3 72),(17,137,.bool true),(18,138,.bool false),(19,139,.bool false),(20,140,pt n8 70),(21,141,pt n8 72),(22,142,.bool true),(23,143,.bool true),(24,144,.bool true),(25,2,.bool true)] hd ⟨B3.up (bt G hb12),B8.up (bt G hb12)⟩ ⟨I7 rfl,A9 rfl,A8 rfl e3,A8 rfl,D6 rfl (fun w hw=>hs w hw.1),Ca5 rfl rfl,A9 rfl,A8 rfl e8,A8 rfl,D6 rfl (fun w hw=>hx w hw.2),I7 rfl,I7 rfl,Ah3 rfl,trivial⟩ (N8_11_12 _  (bt G hb12))
 have N8:∀(u:World) (G:Below w.heap.size w u),wpAnyH Tryz.prog .any Av5.1 Q S 15 (lm 26 2047) (C4 a Ad5 [.bool true,.bool true,i6 1,.bool true,.bool true,.bool true,pt n8 0,.agg (A7 X.e).toArray,.agg (A7 Z).toArray,pt n3 0,.agg (A7 s.e).toArray,i 131,i 132,i 133,i 134,i 135,i 136,i 137,i 138,i 139,i 140,i 141,i 142,i 143,i 144,i 2]) u:=by
  intro u G;refine D5 [11] (C9 rG Cq9 ?_ AllReadyH.nil);intro o hp hd;refine J7 hp (rG.ev1 (.agg (A7 s.e).toArray)) (H2 _ G) ?_;rintro x u11 ⟨rfl,hb11⟩;refine⟨_,rfl,?_⟩;exact F9 rG [] hd ⟨B3.up (bt G hb11),B8.up (bt G hb11)⟩ trivial (N8_11 _  (bt G hb11))
 have N0:∀(u:World) (G:Below w.heap.size w u),wpAnyH Tryz.prog .any Av5.1 Q S 16 (lm 26 1791) (C4 a Ad5 [.bool true,.bool true,i6 1,.bool true,.bool true,.bool true,pt n8 0,.agg (A7 X.e).toArray,i 128,pt n3 0,.agg (A7 s.e).toArray,i 131,i 132,i 133,i 134,i 135,i 136,i 137,i 138,i 139,i 140,i 141,i 142,i 143,i 144,i 2]) u:=by
  intro u G;refine D5 [8] (C9 rG Cw8 ?_ AllReadyH.nil);intro o hp hd;refine J7 hp (rG.ev1 (.agg (A7 X.e).toArray)) (H1 _ G) ?_;rintro x u8 ⟨rfl,hb8⟩;refine⟨_,rfl,?_⟩;exact F9 rG [] hd ⟨B3.up (bt G hb8),B8.up (bt G hb8)⟩ trivial (N8 _  (bt G hb8))
 exact J8 26 rG [(0,120,.bool true),(1,121,.bool true),(2,122,i6 1),(3,123,.bool true),(4,124,.bool true),(5,125,.bool true),(6,126,pt n8 0),(7,127,.agg (A7 X.e).toArray),(9,129,pt n3 0),(10,130,.agg (A7 s.e).toArray)] h0 ⟨B3.up (bd _),B8.up (bd _)⟩ ⟨A9 rfl e7,A9 rfl,A9 rfl e15,Ac4 rfl h11,I7 rfl,A9 rfl,A8 rfl e8,P9 (cs:=A7 X.e) rfl (fun w hw=>hw.2.blk.atE) (by rw[G6];exact K6),A8 rfl e3,P9 (cs:=A7 s.e) rfl (fun w hw=>hw.1.blk.atE) (by rw[G6];exact K6),trivial⟩ (N0 _  (bd w))
theorem Eg0{X s:Sv}{Z:Ev}{n3 n8:Nat}{a:Act}{w:World}{Q:Exit→Act→World→Prop}(hsz:145≤a.tmps.size)
 (e3:a.tmps.getD 3 undef=.pointer (some ⟨n3,0,none⟩)) (e7:a.tmps.getD 7 undef=.bool true) (e8:a.tmps.getD 8 undef=.pointer (some ⟨n8,0,none⟩)) (e15:a.tmps.getD 15 undef=.int .i64 1) (hP:∀c a d v w,Q (.panic c) (Act.put a d v) w→Q (.panic c) a w) (B3:A5 51 w n3 (A6 s)) (B8:A5 51 w n8 (A6 X))
 (hs:∀w',A5 51 w' n3 (A6 s)→w'.cell? ⟨n3,72,none⟩=some (.bool false))
 (H1:∀u,Below w.heap.size w u→Calls Tryz.prog 28 #[.agg (A7 X.e).toArray] u (fun x w'=>x=.returned (.agg (A7 Z).toArray)∧Below u.heap.size u w')) (H2:∀u,Below w.heap.size w u→Calls Tryz.prog 28 #[.agg (A7 s.e).toArray] u (fun x w'=>x=.returned (.agg (A7 Z).toArray)∧Below u.heap.size u w')) (H3:∀u,Below w.heap.size w u→Calls Tryz.prog 27 #[.agg (A7 Z).toArray,.agg (A7 Z).toArray] u (fun x w'=>x=.returned (.bool true)∧Below u.heap.size u w'))
 (hQ:∀{x120 x121 x122 x123 x124 x125 x126 x127 x128 x129 x130 x131 x132 x133 x134 x135 x136 x137 x138 x139 x140 x141 x142 x143 x144} w',Below w.heap.size w w'→Q .normal (C4 a Ad5 [x120,x121,x122,x123,x124,x125,x126,x127,x128,x129,x130,x131,x132,x133,x134,x135,x136,x137,x138,x139,x140,x141,x142,x143,x144,.bool true]) w'):
 (Code.region 20 Av5.1 true).wp Tryz.prog Q a w:=by
 have h11:((1:Int)==1)=true:=rfl;have rG:Rgn Av5.1 Ad5 a Q:=⟨fun k hk=>Nat.lt_of_lt_of_le ((by decide:∀k∈Ad5,k<145) k hk) hsz,by kernel_rfl,hP⟩;have hb:=rG.b;obtain⟨i,h0⟩:=T4 a Ad5;let S:World→Prop:=fun w'=>A5 51 w' n3 (A6 s)∧A5 51 w' n8 (A6 X);refine wp_region_held_drew (S:=S) (by kernel_rfl) (⟨B3.up (bd _),B8.up (bd _)⟩) fun hHeld=>?_;have N8_11_12:∀(u:World) (G:Below w.heap.size w u),wpAnyH Tryz.prog .any Av5.1 Q S 0 (lm 26 67108863) (C4 a Ad5 [.bool true,.bool true,i6 1,.bool true,.bool true,.bool true,pt n8 0,.agg (A7 X.e).toArray,.agg (A7 Z).toArray,pt n3 0,.agg (A7 s.e).toArray,.agg (A7 Z).toArray,.bool true,.bool true,.bool true,pt n3 70,pt n3 72,.bool false,.bool true,.bool true,undef,undef,undef,.bool true,.bool true,.bool true]) u:=by
  intro u G;refine Q4 ?_;exact hQ _ G
 have N8_11:∀(u:World) (G:Below w.heap.size w u),wpAnyH Tryz.prog .any Av5.1 Q S 14 (lm 26 4095) (C4 a Ad5 [.bool true,.bool true,i6 1,.bool true,.bool true,.bool true,pt n8 0,.agg (A7 X.e).toArray,.agg (A7 Z).toArray,pt n3 0,.agg (A7 s.e).toArray,.agg (A7 Z).toArray,i 132,i 133,i 134,i 135,i 136,i 137,i 138,i 139,i 140,i 141,i 142,i 143,i 144,i 2]) u:=by
  intro u G;refine D5 [12] (C9 rG Cr0 ?_ AllReadyH.nil);intro o hp hd;refine J7 hp (rG.ev2 (.agg (A7 Z).toArray) (.agg (A7 Z).toArray)) (H3 _ G) ?_;rintro x u12 ⟨rfl,hb12⟩;refine⟨_,rfl,?_⟩;exact F9 rG [(13,133,.bool true),(14,134,.bool true),(15,135,pt n3 70),(16,136,pt n3 72),(17,137,.bool false),(18,138,.bool true),(19,139,.bool true),(20,140,undef),(21,141,undef),(22,142,undef),(23,143,.bool true),(24,144,.bool true),(25,2,.bool true)] hd ⟨B3.up (bt G hb12),B8.up (bt G hb12)⟩ ⟨I7 rfl,A9 rfl,A8 rfl e3,A8 rfl,D6 rfl (fun w hw=>hs w hw.1),Ca5 rfl rfl,A9 rfl,C6,C6,C6,I7 rfl,I7 rfl,Ah3 rfl,trivial⟩ (N8_11_12 _  (bt G hb12))
 have N8:∀(u:World) (G:Below w.heap.size w u),wpAnyH Tryz.prog .any Av5.1 Q S 15 (lm 26 2047) (C4 a Ad5 [.bool true,.bool true,i6 1,.bool true,.bool true,.bool true,pt n8 0,.agg (A7 X.e).toArray,.agg (A7 Z).toArray,pt n3 0,.agg (A7 s.e).toArray,i 131,i 132,i 133,i 134,i 135,i 136,i 137,i 138,i 139,i 140,i 141,i 142,i 143,i 144,i 2]) u:=by
  intro u G;refine D5 [11] (C9 rG Cq9 ?_ AllReadyH.nil);intro o hp hd;refine J7 hp (rG.ev1 (.agg (A7 s.e).toArray)) (H2 _ G) ?_;rintro x u11 ⟨rfl,hb11⟩;refine⟨_,rfl,?_⟩;exact F9 rG [] hd ⟨B3.up (bt G hb11),B8.up (bt G hb11)⟩ trivial (N8_11 _  (bt G hb11))
 have N0:∀(u:World) (G:Below w.heap.size w u),wpAnyH Tryz.prog .any Av5.1 Q S 16 (lm 26 1791) (C4 a Ad5 [.bool true,.bool true,i6 1,.bool true,.bool true,.bool true,pt n8 0,.agg (A7 X.e).toArray,i 128,pt n3 0,.agg (A7 s.e).toArray,i 131,i 132,i 133,i 134,i 135,i 136,i 137,i 138,i 139,i 140,i 141,i 142,i 143,i 144,i 2]) u:=by
  intro u G;refine D5 [8] (C9 rG Cw8 ?_ AllReadyH.nil);intro o hp hd;refine J7 hp (rG.ev1 (.agg (A7 X.e).toArray)) (H1 _ G) ?_;rintro x u8 ⟨rfl,hb8⟩;refine⟨_,rfl,?_⟩;exact F9 rG [] hd ⟨B3.up (bt G hb8),B8.up (bt G hb8)⟩ trivial (N8 _  (bt G hb8))
 exact J8 26 rG [(0,120,.bool true),(1,121,.bool true),(2,122,i6 1),(3,123,.bool true),(4,124,.bool true),(5,125,.bool true),(6,126,pt n8 0),(7,127,.agg (A7 X.e).toArray),(9,129,pt n3 0),(10,130,.agg (A7 s.e).toArray)] h0 ⟨B3.up (bd _),B8.up (bd _)⟩ ⟨A9 rfl e7,A9 rfl,A9 rfl e15,Ac4 rfl h11,I7 rfl,A9 rfl,A8 rfl e8,P9 (cs:=A7 X.e) rfl (fun w hw=>hw.2.blk.atE) (by rw[G6];exact K6),A8 rfl e3,P9 (cs:=A7 s.e) rfl (fun w hw=>hw.1.blk.atE) (by rw[G6];exact K6),trivial⟩ (N0 _  (bd w))
def Ay4(s:Sv)(ba:Option Addr)(bn bc:Nat)(other:Int)(da:Option Addr)(dn dc:Nat):List Value:=A6 s++[.slice ba bn bc,.int .i64 other,.slice da dn dc]
theorem Cr1{s:Sv}{ba da:Option Addr}{bn bc dn dc:Nat}{other:Int}{w:World}{b:Nat}{T:TypeId}(h:A5 T w b (Ay4 s ba bn bc other da dn dc)):
 w.rangeAt b 0 (A6 s)∧w.cell? ⟨b,73,none⟩=some (.slice ba bn bc)∧w.cell? ⟨b,74,none⟩=some (.int .i64 other)∧w.cell? ⟨b,75,none⟩=some (.slice da dn dc):=by
 have hl:(Ay4 s ba bn bc other da dn dc).length=76:=by unfold Ay4;rw[List.length_append,D9];rfl
 refine⟨fun j v hj=>?_,h.blk.cell 73 (by rw[hl];decide),h.blk.cell 74 (by rw[hl];decide),h.blk.cell 75 (by rw[hl];decide)⟩;have hjl:j<73:=by have:=(List.getElem?_eq_some_iff.1 hj).1;rwa [D9] at this
 rw[Nat.zero_add,h.blk.cell j (by rw[hl];omega)];unfold Ay4;rw[List.getD_eq_getElem?_getD,List.getElem?_append_left (by rw[D9];exact hjl),hj];rfl
theorem Ci3(s:Sv)(ya da:Option Addr)(yc dc:Nat)(bl dl:List UInt8)(other:Int)(w:World)(h:Ae2 w s)(hc:bl.length≤yc∧yc≤maxLen)(hbl:A4 w ya bl)(hdl:A4 w da dl)(hks:M9 w):
 Calls Tryz.prog 7 #[.agg (Ay4 s ya bl.length yc other da dl.length dc).toArray] w (F6 w true):=by
 have HK:=Lh hks;have HM:=Lh (fun(W:World) (hb:Below w.heap.size w W)=>Dq9 s W (h.mono hb));have SS:=Lh (show ∀S:Sv,(Tryz.prog.info? 51).map (·.size)=some (A6 S).length from fun S=>by rw[D9];exact Q8);have SE:=Lh (show ∀E:Ev,(Tryz.prog.info? 46).map (·.size)=some (A7 E).length from fun E=>by rw[G6];exact K6);have HA:=Lh h;have HB:=Lh hbl;have HD0:=Lh hdl;have HC:=Lh hc;have MF:=Lh (@Fj0 s);generalize Ce3 s=m at HM MF;clear h hbl hdl hc hks;go_enter Tryz.func7,Tryz.ntmps7
 go_upto_region 1 with(fail)
 generalize hW:World.alloc w _=W;have B1:=Lh (show A5 92 W w.heap.size (Ay4 s ya bl.length yc other da dl.length dc) by rw[←hW];exact A5.new w (Ay4 s ya bl.length yc other da dl.length dc) _);have G:=Lh (show Below w.heap.size w W by rw[←hW];exact ba w _);clear hW;generalize hn1:w.heap.size=n1 at B1 ⊢;clear hn1;have r1:=Lh (Cr1 B1.out).1;go_upto_region 2 with(first
  | (refine F7 51 (.tmp 17) rfl ?_;refine C7 51 (.tmp 17) n1 0 (by first | rfl | (simp[Region.wanted,yielded];done) | kernel_rfl) rfl rfl r1.out Tryz.underlying51 rfl (SS.out _) ?_)
  | (refine G9 51 (.tmp 3) (.tmp 18) rfl ?_;refine I4 51 (.tmp 3) (.tmp 18) _ (cs:=A6 s) rfl rfl rfl rfl (A5.new _ I8 _) (SS.out _) (by rw[K5,D9]) (M7 _) ?_;intro wz hBn hK;have hh:=hK.below (ba _ _) (Nat.le_refl _);have B3:=Lh hBn;replace B1:=Lh (B1.out.up hh);replace G:=Lh (bt G.out hh);clear hBn hK hh))
 generalize W.heap.size=n3 at B3 ⊢;clear r1;obtain⟨-,y1,y2,y3⟩:=Cr1 B1.out;go_upto_region 5 with(fail)
 clear y1 y2 y3 B1;go_wp2_with fail
 refine(Cu4 _ (HK.out.mono G.out)).mono ?_;rintro x w3 ⟨rfl,hb⟩;replace B3:=Lh (B3.out.up hb);replace G:=Lh (bt G.out hb);clear hb;by_cases hl:bl.length≤1000;rotate_left
 ·have d1:(1000:Int)<(bl.length:Int):=by omega
  clear hl;go_wp2_with (refine F7 51 (.tmp 3) rfl ?_;refine I6 51 (.tmp 3) n3 (by first | rfl | (simp[Region.wanted,yielded];done) | kernel_rfl) rfl rfl B3.out.blk Tryz.underlying51 rfl (SS.out _) ?_)
  refine(HM.out _ G.out).mono ?_;rintro x w4 ⟨rfl,hb⟩;replace B3:=Lh (B3.out.up hb);replace G:=Lh (bt G.out hb);clear hb;rcases m with _ | _;all_goals
   go_wp2_with fail
   go_ret;exact⟨rfl,G.out⟩
 have d1:¬(1000:Int)<(bl.length:Int):=by omega
 clear hl;by_cases hl:dl.length≤1000;rotate_left
 ·have d2:(1000:Int)<(dl.length:Int):=by omega
  clear hl;go_wp2_with (refine F7 51 (.tmp 3) rfl ?_;refine I6 51 (.tmp 3) n3 (by first | rfl | (simp[Region.wanted,yielded];done) | kernel_rfl) rfl rfl B3.out.blk Tryz.underlying51 rfl (SS.out _) ?_)
  refine(HM.out _ G.out).mono ?_;rintro x w4 ⟨rfl,hb⟩;replace B3:=Lh (B3.out.up hb);replace G:=Lh (bt G.out hb);clear hb;rcases m with _ | _;all_goals
   go_wp2_with fail
   go_ret;exact⟨rfl,G.out⟩
 have d2:¬(1000:Int)<(dl.length:Int):=by omega
 clear hl;go_wp2_with (refine F7 51 (.tmp 3) rfl ?_;refine I6 51 (.tmp 3) n3 (by first | rfl | (simp[Region.wanted,yielded];done) | kernel_rfl) rfl rfl B3.out.blk Tryz.underlying51 rfl (SS.out _) ?_)
 refine(HM.out _ G.out).mono ?_;rintro x w4 ⟨rfl,hb⟩;replace B3:=Lh (B3.out.up hb);replace G:=Lh (bt G.out hb);clear hb HM;rcases m with _ | _
 ·go_wp2_with fail
  go_ret;exact⟨rfl,G.out⟩
 obtain⟨hr,ho,hg,hes⟩:=MF.out rfl;have M:=Lh (MF.out rfl);have HW:=Lh (As0 hr).win;have ST:=Lh (Ef7 s bl);have TL:=Lh (Ef8 s bl);have TR:=Lh (Dr8 s bl hr);have X1:=Lh (fun(W:World) (hb:Below w.heap.size w W)=>Bf0 s ya yc bl W ((HA.out.mono hb).toP fun _ _=>trivial) hr (by omega) HC.out.1 HC.out.2 (HB.out.mono hb) (HK.out.mono hb));have X2:=Lh (fun(W:World) (hb:Below w.heap.size w W)=>Be4 s da dc dl W (fun _=>True) (fun _ _=>trivial) ((HA.out.mono hb).toP fun _ _=>trivial) hr (by omega) (by omega) (HD0.out.mono hb) (HK.out.mono hb));have X3:=Lh (fun(W:World) (hb:Below w.heap.size w W)=>Bo0 s other da dc dl W (fun _=>True) (fun _ _=>trivial) ((HA.out.mono hb).toP fun _ _=>trivial) hr (by omega) (by omega) (HD0.out.mono hb) (HK.out.mono hb));have XA:=Lh (fun(W:World) (hb:Below w.heap.size w W)=>((((HA.out.mono hb).toP (q:=fun _=>True) fun _ _=>trivial).take HW.out bl).at :Ae2 W (T6 s bl).1));have SX:=Lh (fun(W:World) (hb:Below w.heap.size w W)=>Bt0 M.out (.refl s) (.refl s) rfl W (HA.out.mono hb) (HA.out.mono hb));have RR:=Lh hr;unfold Bh6 at X1;generalize (T6 s bl).1=X at X1 ST TL TR XA;generalize (T6 s bl).2=E at X1 TL;clear hr ho hg hes MF HW;go_wp2_with (refine F7 51 (.tmp 3) rfl ?_;refine I6 51 (.tmp 3) n3 (by first | rfl | (simp[Region.wanted,yielded];done) | kernel_rfl) rfl rfl B3.out.blk Tryz.underlying51 rfl (SS.out _) ?_)
 refine(X1.out _ G.out).mono ?_;rintro x w5 ⟨v,rfl,hv,hb⟩;obtain⟨a1,c1,a2,c2,rfl,-,-⟩:=hv.out;replace B3:=Lh (B3.out.up hb);replace G:=Lh (bt G.out hb);clear hb hv X1 d1 d2;generalize ecE E (pdF bl)=p;have HD:=Lh (show(Tryz.prog.info? 65).map (·.size)=some (J0 p.k p.d p.e0 p.e1 p.g p.q (.slice a1 p.b.length c1) (.slice a2 p.t.length c2)).length from Ac9);have HO:=Lh (show(J0 p.k p.d p.e0 p.e1 p.g p.q (.slice a1 p.b.length c1) (.slice a2 p.t.length c2)).all (·.oneCell')=true from rfl);go_upto_region 9 with(first
  | (refine G9 51 (.tmp 8) (.tmp 44) rfl ?_;refine I4 51 (.tmp 8) (.tmp 44) _ (cs:=A6 X) rfl rfl rfl rfl (Ag8 (w:=w5) (a:=I8) (b:=I1) (A:=51) (B:=65) rfl).1 (SS.out _) (by rw[K5,D9]) (M7 _) ?_;intro wa hB hK;have B8:=Lh hB;have B9:=Lh ((Ag8 (w:=w5) (a:=I8) (b:=I1) (A:=51) (B:=65) rfl).2.1.kp hK (Nat.ne_of_gt (Nat.lt_succ_self _)));have N12:=Lh (Nat.ne_of_lt (Nat.lt_succ_self w5.heap.size));have G1:=Lh (hK.below (Ag8 (w:=w5) (a:=I8) (b:=I1) (A:=51) (B:=65) rfl).2.2 (Nat.le_refl _));have L2:=Lh (Nat.le_succ w5.heap.size);clear hB hK)
  | (refine G9 65 (.tmp 9) (.tmp 45) rfl ?_;refine I4 65 (.tmp 9) (.tmp 45) _ (cs:=(J0 p.k p.d p.e0 p.e1 p.g p.q (.slice a1 p.b.length c1) (.slice a2 p.t.length c2))) rfl rfl rfl rfl B9.out HD.out rfl HO.out ?_;intro wb hB hK;replace B8:=Lh (B8.out.kp hK N12.out);replace G1:=Lh (hK.below G1.out L2.out);clear hB hK))
 replace G:=Lh (bt G.out G1.out);replace B3:=Lh (B3.out.up G1.out);clear B9;generalize w5.heap.size+1=n9 at N12 L2 ⊢;generalize hn8:w5.heap.size=n8 at B8 N12 ⊢;clear hn8 N12 L2 G1 HD HO;go_wp2_with (refine F7 51 (.tmp 3) rfl ?_;refine I6 51 (.tmp 3) n3 (by first | rfl | (simp[Region.wanted,yielded];done) | kernel_rfl) rfl rfl B3.out.blk Tryz.underlying51 rfl (SS.out _) ?_)
 refine(X2.out _ G.out).mono ?_;rintro x w6 ⟨S1,F1,rfl,h1,p1,hb⟩;have R1:=Lh h1;have P1:=Lh p1;replace B3:=Lh (B3.out.up hb);replace B8:=Lh (B8.out.up hb);replace G:=Lh (bt G.out hb);clear hb h1 p1 X2;go_upto_region 10 with(refine G9 51 (.tmp 11) (.tmp 51) rfl ?_;refine I4 51 (.tmp 11) (.tmp 51) _ (cs:=A6 S1) rfl rfl rfl rfl (A5.new _ I8 _) (SS.out _) (by rw[K5,D9]) (M7 _) ?_;intro wd hBn hK;have hh:=hK.below (ba _ _) (Nat.le_refl _);have B11:=Lh hBn;replace B3:=Lh (B3.out.up hh);replace B8:=Lh (B8.out.up hh);replace G:=Lh (bt G.out hh);replace P1:=Lh (P1.out.mono hh);clear hBn hK hh)
 generalize w6.heap.size=n11 at B11 ⊢;go_wp2_with (refine F7 51 (.tmp 3) rfl ?_;refine I6 51 (.tmp 3) n3 (by first | rfl | (simp[Region.wanted,yielded];done) | kernel_rfl) rfl rfl B3.out.blk Tryz.underlying51 rfl (SS.out _) ?_)
 refine(X3.out _ G.out).mono ?_;rintro x w7 ⟨S2,F2,rfl,h1,p1,hb⟩;have R2:=Lh h1;have P2:=Lh p1;replace B3:=Lh (B3.out.up hb);replace B8:=Lh (B8.out.up hb);replace B11:=Lh (B11.out.up hb);replace G:=Lh (bt G.out hb);replace P1:=Lh (P1.out.mono hb);clear hb h1 p1 X3;go_upto_region 11 with(refine G9 51 (.tmp 13) (.tmp 58) rfl ?_;refine I4 51 (.tmp 13) (.tmp 58) _ (cs:=A6 S2) rfl rfl rfl rfl (A5.new _ I8 _) (SS.out _) (by rw[K5,D9]) (M7 _) ?_;intro we hBn hK;have hh:=hK.below (ba _ _) (Nat.le_refl _);have B13:=Lh hBn;replace B3:=Lh (B3.out.up hh);replace B8:=Lh (B8.out.up hh);replace B11:=Lh (B11.out.up hh);replace G:=Lh (bt G.out hh);replace P1:=Lh (P1.out.mono hh);replace P2:=Lh (P2.out.mono hh);clear hBn hK hh)
 generalize w7.heap.size=n13 at B13 ⊢;obtain⟨k1,q1⟩:=Ds1 R1.out RR.out;obtain⟨k2,q2⟩:=Cu5 R2.out RR.out;have Q1:=Lh q1;have Q2:=Lh q2;have V1:=Lh (fun(W:World) (hb:Below we.heap.size we W)=>(show Calls Tryz.prog 35 #[.agg (A7 X.e).toArray] W (F6 W true) from by have h:=Ap3 X.e W (XA.out W (bt G.out hb)).e;rw[TR.out] at h;exact h));have V2:=Lh (fun(W:World) (hb:Below we.heap.size we W)=>(show Calls Tryz.prog 35 #[.agg (A7 S1.e).toArray] W (F6 W true) from by have h:=Ap3 S1.e W (P1.out.mono hb).at.e;rw[k1] at h;exact h));have V3:=Lh (fun(W:World) (hb:Below we.heap.size we W)=>(show Calls Tryz.prog 35 #[.agg (A7 S2.e).toArray] W (F6 W true) from by have h:=Ap3 S2.e W (P2.out.mono hb).at.e;rw[k2] at h;exact h));have G2:=Lh (Below.refl we.heap.size we);clear q1 q2 k1 k2 R1 R2;go_cut [95] (fun v95 wx=>v95=.bool false∧A5 51 wx n3 (A6 s)∧A5 51 wx n8 (A6 X)∧Below w.heap.size w wx)
 case first=>
  go_wp2_with (refine F7 46 (.tmp 60) rfl ?_;refine C7 46 (.tmp 60) n8 0 (by first | rfl | (simp[Region.wanted,yielded];done) | kernel_rfl) rfl rfl B8.out.blk.atE Tryz.underlying46 rfl (SE.out _) ?_)
  refine(V1.out _ G2.out).mono ?_;rintro x wf ⟨rfl,hb⟩;replace B3:=Lh (B3.out.up hb);replace B8:=Lh (B8.out.up hb);replace B11:=Lh (B11.out.up hb);replace B13:=Lh (B13.out.up hb);replace G:=Lh (bt G.out hb);replace G2:=Lh (bt G2.out hb);clear hb V1;go_wp2_with (refine F7 46 (.tmp 65) rfl ?_;refine C7 46 (.tmp 65) n11 0 (by first | rfl | (simp[Region.wanted,yielded];done) | kernel_rfl) rfl rfl B11.out.blk.atE Tryz.underlying46 rfl (SE.out _) ?_)
  refine(V2.out _ G2.out).mono ?_;rintro x wg ⟨rfl,hb⟩;replace B3:=Lh (B3.out.up hb);replace B8:=Lh (B8.out.up hb);replace B11:=Lh (B11.out.up hb);replace B13:=Lh (B13.out.up hb);replace G:=Lh (bt G.out hb);replace G2:=Lh (bt G2.out hb);clear hb V2;go_wp2_with (refine F7 46 (.tmp 71) rfl ?_;refine C7 46 (.tmp 71) n13 0 (by first | rfl | (simp[Region.wanted,yielded];done) | kernel_rfl) rfl rfl B13.out.blk.atE Tryz.underlying46 rfl (SE.out _) ?_)
  refine(V3.out _ G2.out).mono ?_;rintro x wh ⟨rfl,hb⟩;replace B3:=Lh (B3.out.up hb);replace B8:=Lh (B8.out.up hb);replace B11:=Lh (B11.out.up hb);replace B13:=Lh (B13.out.up hb);replace G:=Lh (bt G.out hb);replace G2:=Lh (bt G2.out hb);clear hb V3 P1 P2 XA TR;by_cases hF1:F1=0
  ·have b1:(F1 != 0)=false:=by rw[hF1];rfl
   clear hF1 B11 Q1;by_cases hF2:F2=0
   ·have b2:(F2 != 0)=false:=by rw[hF2];rfl
    clear hF2 B13 Q2;go_wp2_with fail
    go_meet
    exact⟨rfl,B3.out,B8.out,G.out⟩
   ·have b2:(F2 != 0)=true:=by rw[bne_iff_ne];exact hF2
    have e2:=Q2.out hF2;subst e2;clear hF2 Q2;go_wp2_with (first
  | (refine F7 51 (.tmp 13) rfl ?_;refine I6 51 (.tmp 13) n13 (by first | rfl | (simp[Region.wanted,yielded];done) | kernel_rfl) rfl rfl B13.out.blk Tryz.underlying51 rfl (SS.out _) ?_)
  | (refine F7 51 (.tmp 3) rfl ?_;refine I6 51 (.tmp 3) n3 (by first | rfl | (simp[Region.wanted,yielded];done) | kernel_rfl) rfl rfl B3.out.blk Tryz.underlying51 rfl (SS.out _) ?_))
    refine(SX.out _ G.out).mono ?_;rintro x wi ⟨rfl,hb⟩;replace B3:=Lh (B3.out.up hb);replace B8:=Lh (B8.out.up hb);replace G:=Lh (bt G.out hb);clear hb B13;go_wp2_with fail
    go_meet
    exact⟨rfl,B3.out,B8.out,G.out⟩
  ·have b1:(F1 != 0)=true:=by rw[bne_iff_ne];exact hF1
   have e1:=Q1.out hF1;subst e1;clear hF1 Q1;go_wp2_with (first
  | (refine F7 51 (.tmp 11) rfl ?_;refine I6 51 (.tmp 11) n11 (by first | rfl | (simp[Region.wanted,yielded];done) | kernel_rfl) rfl rfl B11.out.blk Tryz.underlying51 rfl (SS.out _) ?_)
  | (refine F7 51 (.tmp 3) rfl ?_;refine I6 51 (.tmp 3) n3 (by first | rfl | (simp[Region.wanted,yielded];done) | kernel_rfl) rfl rfl B3.out.blk Tryz.underlying51 rfl (SS.out _) ?_))
   refine(SX.out _ G.out).mono ?_;rintro x wi ⟨rfl,hb⟩;replace B3:=Lh (B3.out.up hb);replace B8:=Lh (B8.out.up hb);replace B13:=Lh (B13.out.up hb);replace G:=Lh (bt G.out hb);clear hb B11 b1;by_cases hF2:F2=0
   ·have b2:(F2 != 0)=false:=by rw[hF2];rfl
    clear hF2 B13 Q2;go_wp2_with fail
    go_meet
    exact⟨rfl,B3.out,B8.out,G.out⟩
   ·have b2:(F2 != 0)=true:=by rw[bne_iff_ne];exact hF2
    have e2:=Q2.out hF2;subst e2;clear hF2 Q2;go_wp2_with (first
  | (refine F7 51 (.tmp 13) rfl ?_;refine I6 51 (.tmp 13) n13 (by first | rfl | (simp[Region.wanted,yielded];done) | kernel_rfl) rfl rfl B13.out.blk Tryz.underlying51 rfl (SS.out _) ?_)
  | (refine F7 51 (.tmp 3) rfl ?_;refine I6 51 (.tmp 3) n3 (by first | rfl | (simp[Region.wanted,yielded];done) | kernel_rfl) rfl rfl B3.out.blk Tryz.underlying51 rfl (SS.out _) ?_))
    refine(SX.out _ G.out).mono ?_;rintro x wj ⟨rfl,hb⟩;replace B3:=Lh (B3.out.up hb);replace B8:=Lh (B8.out.up hb);replace G:=Lh (bt G.out hb);clear hb B13;go_wp2_with fail
    go_meet
    exact⟨rfl,B3.out,B8.out,G.out⟩
 case rest=>
  obtain⟨rfl,hB3,hB8,hG⟩:=hcut;replace B3:=Lh hB3;replace B8:=Lh hB8;replace G:=Lh hG;clear hB3 hB8 hG V1 V2 V3 P1 P2 Q1 Q2 SX B11 B13 G2 TR;obtain⟨m0,hm0⟩:∃m,m=wrap64 (wrap64 (0+X.e.c0)-s.e.c0):=⟨_,rfl⟩;obtain⟨m1,hm1⟩:∃m,m=wrap64 (wrap64 (m0+X.e.c1)-s.e.c1):=⟨_,rfl⟩;obtain⟨m2,hm2⟩:∃m,m=wrap64 (wrap64 (m1+X.e.c2)-s.e.c2):=⟨_,rfl⟩;obtain⟨m3,hm3⟩:∃m,m=wrap64 (wrap64 (m2+X.e.c3)-s.e.c3):=⟨_,rfl⟩;have HN:=Lh (show m3=if E=0 then 0 else 1 by rw[hm3,hm2,hm1,hm0];exact TL.out.n);have H0:=Lh hm0;have H1:=Lh hm1;have H2:=Lh hm2;have H3:=Lh hm3;clear hm0 hm1 hm2 hm3;go_wp2_with fail
  refine wp_loop_rounds 5 ?_;rw[rounds_succ];go_upto_region 17 with(fail)
  refine Bn7 (X:=X) (s:=s) (n:=0) (k:=0) (o:=66) (cx:=X.e.c0) (cs:=s.e.c0) (m:=m0) (Nat.le_refl _) rfl rfl rfl rfl (fun _ _ d _ _ h=>by cases d<;>exact h) B3.out B8.out (fun b w=>by kernel_rfl) (fun w' hb=>(hb.blk.cell 66 (by rw[D9];decide)).trans (congrArg some (Am1 X).1)) (fun w' hb=>(hb.blk.cell 66 (by rw[D9];decide)).trans (congrArg some (Am1 s).1)) H0.out ?_;intro _ _ _ _ _ _ _ _ _ _ _ _ _ wr hb;simp only[C4,Act.put,List.setIfInBounds_toArray,List.set_cons_zero,List.set_cons_succ];replace B3:=Lh (B3.out.up hb);replace B8:=Lh (B8.out.up hb);replace G:=Lh (bt G.out hb);clear hb H0;go_wp2_with fail
  rw[rounds_succ];go_upto_region 17 with(fail)
  refine Bn7 (X:=X) (s:=s) (n:=m0) (k:=1) (o:=67) (cx:=X.e.c1) (cs:=s.e.c1) (m:=m1) (Nat.le_refl _) rfl rfl rfl rfl (fun _ _ d _ _ h=>by cases d<;>exact h) B3.out B8.out (fun b w=>by kernel_rfl) (fun w' hb=>(hb.blk.cell 67 (by rw[D9];decide)).trans (congrArg some (Am1 X).2.1)) (fun w' hb=>(hb.blk.cell 67 (by rw[D9];decide)).trans (congrArg some (Am1 s).2.1)) H1.out ?_;intro _ _ _ _ _ _ _ _ _ _ _ _ _ wr hb;simp only[C4,Act.put,List.setIfInBounds_toArray,List.set_cons_zero,List.set_cons_succ];replace B3:=Lh (B3.out.up hb);replace B8:=Lh (B8.out.up hb);replace G:=Lh (bt G.out hb);clear hb H1;go_wp2_with fail
  rw[rounds_succ];go_upto_region 17 with(fail)
  refine Bn7 (X:=X) (s:=s) (n:=m1) (k:=2) (o:=68) (cx:=X.e.c2) (cs:=s.e.c2) (m:=m2) (Nat.le_refl _) rfl rfl rfl rfl (fun _ _ d _ _ h=>by cases d<;>exact h) B3.out B8.out (fun b w=>by kernel_rfl) (fun w' hb=>(hb.blk.cell 68 (by rw[D9];decide)).trans (congrArg some (Am1 X).2.2.1)) (fun w' hb=>(hb.blk.cell 68 (by rw[D9];decide)).trans (congrArg some (Am1 s).2.2.1)) H2.out ?_;intro _ _ _ _ _ _ _ _ _ _ _ _ _ wr hb;simp only[C4,Act.put,List.setIfInBounds_toArray,List.set_cons_zero,List.set_cons_succ];replace B3:=Lh (B3.out.up hb);replace B8:=Lh (B8.out.up hb);replace G:=Lh (bt G.out hb);clear hb H2;go_wp2_with fail
  rw[rounds_succ];go_upto_region 17 with(fail)
  refine Bn7 (X:=X) (s:=s) (n:=m2) (k:=3) (o:=69) (cx:=X.e.c3) (cs:=s.e.c3) (m:=m3) (Nat.le_refl _) rfl rfl rfl rfl (fun _ _ d _ _ h=>by cases d<;>exact h) B3.out B8.out (fun b w=>by kernel_rfl) (fun w' hb=>(hb.blk.cell 69 (by rw[D9];decide)).trans (congrArg some (Am1 X).2.2.2.1)) (fun w' hb=>(hb.blk.cell 69 (by rw[D9];decide)).trans (congrArg some (Am1 s).2.2.2.1)) H3.out ?_;intro _ _ _ _ _ _ _ _ _ _ _ _ _ wr hb;simp only[C4,Act.put,List.setIfInBounds_toArray,List.set_cons_zero,List.set_cons_succ];replace B3:=Lh (B3.out.up hb);replace B8:=Lh (B8.out.up hb);replace G:=Lh (bt G.out hb);clear hb H3;go_wp2_with fail
  rw[rounds_succ];by_cases hE:E=0
  ·have e1:m3=0:=by rw[HN.out,if_pos hE]
   have b1:(E==0)=true:=by rw[hE];rfl
   clear hE HN TL;subst e1;go_wp2_with fail
   go_ret;exact⟨rfl,G.out⟩
  ·have e1:m3=1:=by rw[HN.out,if_neg hE]
   have b1:(E==0)=false:=by rw[beq_eq_false_iff_ne];exact hE
   have hBut:=TL.out.but hE;have hFg:=TL.out.f;have H3:=Lh (fun(W:World) (hb:Below w.heap.size w W)=>(show Calls Tryz.prog 27 #[.agg (A7 s.e.l_c0).toArray,.agg (A7 s.e.l_c0).toArray] W (fun x w'=>x=.returned (.bool true)∧Below W.heap.size W w') from by
    have hz:Ac3 W s.e.l_c0:=by have h:=(HA.out.mono hb).e;exact⟨h.k,h.s1,h.s2,h.r,h.rc,h.ro,h.rp,h.q,h.ql,h.u,h.ul,h.h,h.hl,h.o,h.ol,h.g,h.gl,h.wt⟩
    have k:=Bo2 s.e.l_c0 s.e.l_c0 W hz hz (by have:=M.out.o;show s.e.o.length≤_∧s.e.o.length≤_;omega) (by have:=M.out.g;show s.e.g.length≤_∧s.e.g.length≤_;omega);rw[Bf2 hz] at k;exact k))
   have HBX:=Lh (fun W=>(show Calls Tryz.prog 28 #[.agg (A7 X.e).toArray] W (fun x w'=>x=.returned (.agg (A7 s.e.l_c0).toArray)∧Below W.heap.size W w') from by have h:=Bn3 X.e W;rw[hBut] at h;exact h));have HF:=Lh hFg;clear hE HN TL hBut hFg;subst e1;go_upto_region 20 with(fail)
   clear b1;rcases hf:s.f with _ | _
   ·refine Eg0 (X:=X) (s:=s) (Z:=s.e.l_c0) (Nat.le_refl _) rfl rfl rfl rfl (fun _ _ d _ _ h=>by cases d<;>exact h) B3.out B8.out (fun w' hb=>(hb.blk.cell 72 (by rw[D9];decide)).trans (congrArg some ((Am1 s).2.2.2.2.trans (by rw[hf])))) (fun u hu=>HBX.out u) (fun u hu=>Bn3 s.e u) (fun u hu=>H3.out u (bt G.out hu)) ?_;intro _ _ _ _ _ _ _ _ _ _ _ _ _ _ _ _ _ _ _ _ _ _ _ _ _ wr hb;simp only[C4,Act.put,List.setIfInBounds_toArray,List.set_cons_zero,List.set_cons_succ];replace G:=Lh (bt G.out hb);clear hb hf;go_wp2_with fail
    go_ret;exact⟨rfl,G.out⟩
   ·refine Ef9 (X:=X) (s:=s) (Z:=s.e.l_c0) (Nat.le_refl _) rfl rfl rfl rfl (fun _ _ d _ _ h=>by cases d<;>exact h) B3.out B8.out (fun w' hb=>(hb.blk.cell 72 (by rw[D9];decide)).trans (congrArg some ((Am1 X).2.2.2.2.trans (by rw[HF.out hf])))) (fun w' hb=>(hb.blk.cell 72 (by rw[D9];decide)).trans (congrArg some ((Am1 s).2.2.2.2.trans (by rw[hf])))) (fun u hu=>HBX.out u) (fun u hu=>Bn3 s.e u) (fun u hu=>H3.out u (bt G.out hu)) ?_;intro _ _ _ _ _ _ _ _ _ _ _ _ _ _ _ _ _ _ _ _ _ _ _ _ _ wr hb;simp only[C4,Act.put,List.setIfInBounds_toArray,List.set_cons_zero,List.set_cons_succ];replace G:=Lh (bt G.out hb);clear hb hf;go_wp2_with fail
    go_ret;exact⟨rfl,G.out⟩
end Go.Proofs.YtadpiemjgfndgaaGreatDoor
namespace Go.Proofs.YtadpiemjgfndgaaGreatDoor
open Go.ChangeShapes Go.WideShapes Go.ChangeAt Go.RowKit
section
variable {H:Type} {enc:TypeId×Value→H} {w:World}
theorem An7{n:Nat}{t e:TypeId}{c:Value}{x:DataW H×List MemPlace}(ht:Tryz.prog.underlying t=some (.slice e))(h:DataW.trod enc Tryz.prog w 0 (fun _=>true) true n t [c]=some x):∃a len cap,c=.slice a len cap:=by
 rcases Go.Deep.open_slice ht h with⟨h4,_⟩ | ⟨a,len,cap,_,_,_,_,h4,_⟩
 ·exact⟨_,_,_,by simpa using h4⟩
 ·exact⟨_,_,_,by simpa using h4⟩
theorem Bn8{α:Type}[Inhabited α]{P:Program}{t e:TypeId}{n:Nat}{a:Option Addr}{len cap:Nat}{d:DataW H}{ps:List MemPlace}(R:α→List Value→Prop)
 (ht:P.underlying t=some (.slice e)) (hce:P.cellsOf e=n) (hn:0<n) (elem:∀fuel cs' x,DataW.trod enc P w 0 (fun _=>true) true fuel e cs'=some x→∃p,R p cs')
 (h:DataW.Trod enc P w 0 (fun _=>true) true t (.slice a len cap) d ps):
 ∃l:List α,l.length=len∧len≤cap∧cap≤maxLen∧∃vs:List Value,vs.length=len*n∧At w a vs∧∀i,i<len→R (l.getD i default) ((vs.drop (i*n)).take n):=by
 obtain⟨fuel,hfu⟩:=h;rcases Go.Deep.open_slice ht hfu with⟨h0,_⟩ | ⟨x,l,c,m,k,D,Pl,hcs,hb,hl,hm,hmm,hx,hi⟩
 ·simp[Value.cells] at h0;obtain⟨rfl,rfl,rfl⟩:=h0;exact⟨[],rfl,Nat.le_refl _,Nat.zero_le _,[],by simp,.inl rfl,fun i hi=>absurd hi (Nat.not_lt_zero _)⟩
 ·simp[Value.cells] at hcs;obtain⟨rfl,rfl,rfl⟩:=hcs;have hcell:∀i,i<len→∃p:α×List Value,R p.1 p.2∧p.2.length=n∧∀j,j<n→w.cell? ((x.add (i*n)).add j)=p.2[j]?:=fun i hil=>by
   have him:i<m:=by rw[hmm];split<;>omega
   obtain⟨cs',hc,ht'⟩:=hi i him;rw[hce] at hc;obtain⟨_,hcl,hat⟩:=World.cells?_some hc;obtain⟨p,hp⟩:=elem _ _ _ ht';exact⟨(p,cs'),hp,hcl,hat⟩
  by_cases hz:len=0
  ·subst hz;exact⟨[],rfl,hl,hm,[],by simp,.inl rfl,fun i hi=>absurd hi (Nat.not_lt_zero _)⟩
  ·obtain⟨hxs,hxb⟩:x.spot=none∧x.block<w.heap.size:=by
    obtain⟨p,_,h2,h3⟩:=hcell 0 (by omega);have h4:=h3 0 hn;have hx0:(x.add (0*n)).add 0=x:=by simp[Addr.add]
    rw[hx0,List.getElem?_eq_getElem (by omega)] at h4;exact By1 h4
   obtain⟨xb,xo,xs⟩:=x;simp only at hxs hxb;subst hxs;obtain⟨E,hE⟩:=Go.Deep.choose_lt (α:=α×List Value) hcell;let vs:List Value:=(List.range (len*n)).map fun j=>(E (j/n)).2.getD (j%n) undef;have hv:∀j,j<len*n→vs.getD j undef=(E (j/n)).2.getD (j%n) undef:=fun j hj=>by simp[vs,List.getD,hj]
   refine⟨(List.range len).map fun i=>(E i).1,by simp,hl,hm,vs,by simp[vs],.inr ⟨xb,xo,rfl,hxb,fun j hj=>?_⟩,fun i hi=>?_⟩
   ·have hj':j<len*n:=by simpa [vs] using hj
    have hjn:j/n<len:=Nat.div_lt_of_lt_mul (by rw[Nat.mul_comm];exact hj');have hjm:j%n<n:=Nat.mod_lt _ hn;obtain⟨_,h2,h3⟩:=hE (j/n) hjn;have h4:=h3 (j%n) hjm;have e1:xo+j/n*n+j%n=xo+j:=by have:=Nat.div_add_mod j n;rw[Nat.mul_comm] at this;omega
    rw[WideShapes.add_plain,WideShapes.add_plain,e1] at h4;rw[hv j hj',h4,List.getD_eq_getElem?_getD,List.getElem?_eq_getElem (by omega)];rfl
   ·obtain⟨h1,h2,h3⟩:=hE i hi;have hin:i*n+n≤len*n:=by rw[←Nat.succ_mul];exact Nat.mul_le_mul_right n hi
    have e2:(vs.drop (i*n)).take n=(E i).2:=by
     refine List.ext_getElem (by simp[vs,h2];omega) fun k hk1 hk2=>?_;have hkn:k<n:=by omega
     have d1:(i*n+k)/n=i:=by rw[Nat.mul_comm,Nat.mul_add_div hn,Nat.div_eq_of_lt hkn,Nat.add_zero]
     have d2:(i*n+k)%n=k:=by rw[Nat.mul_comm,Nat.mul_add_mod,Nat.mod_eq_of_lt hkn]
     simp[vs,d1,d2,List.getD,hk2]
    have hg:((List.range len).map fun i=>(E i).1).getD i default=(E i).1:=by simp[List.getD,hi]
    rw[hg,e2];exact h1
theorem Aj3{vs S:List Value}{o n k:Nat}(h:(vs.drop o).take n=S)(hk:k<n):vs.getD (o+k) undef=S.getD k undef:=by
 rw[←h];simp[List.getD,List.getElem?_take,hk,List.getElem?_drop]
theorem X9.ofIn{w:World}{a:Option Addr}{n c:Nat}{l:List UInt8}(h:Y9 w a n c l):X9 w (.slice a n c) l:=⟨a,c,by rw[h.1],by have:=h.1;have:=h.2.1;omega,h.2.2.1,h.2.2.2⟩
theorem Bi1{n:Nat}{t e:TypeId}{cs:List Value}{x:DataW H×List MemPlace}(ht:Tryz.prog.underlying t=some (.slice e))(h:DataW.trod enc Tryz.prog w 0 (fun _=>true) true n t cs=some x):∃a len cap,cs=[.slice a len cap]:=by
 rcases Go.Deep.open_slice ht h with⟨h4,_⟩ | ⟨a,len,cap,_,_,_,_,h4,_⟩
 ·exact⟨_,_,_,h4⟩
 ·exact⟨_,_,_,h4⟩
theorem Bs8{fuel:Nat}{cs:List Value}{x:DataW H×List MemPlace}(h:DataW.trod enc Tryz.prog w 0 (fun _=>true) true fuel 22 cs=some x):
 ∃(a:Option Addr) (n c:Nat) (l:List UInt8),cs=[.slice a n c]∧Y9 w a n c l:=by
 obtain⟨a,n,c,rfl⟩:∃a n c,cs=[.slice a n c]:=by
  rcases Go.Deep.open_slice Tryz.underlying22 h with⟨h4,_⟩ | ⟨a,len,cap,_,_,_,_,h4,_⟩
  ·exact⟨_,_,_,h4⟩
  ·exact⟨_,_,_,h4⟩
 obtain⟨l,hl⟩:=Ak9 (enc:=enc) (w:=w) (a:=a) (len:=n) (cap:=c) (d:=x.1) (ps:=x.2) Tryz.underlying22 Tryz.underlying5 (by kernel_rfl) ⟨_,h⟩;exact⟨a,n,c,l,rfl,hl⟩
theorem Eq3{fuel:Nat}{cs:List Value}{x:DataW H×List MemPlace}(h:DataW.trod enc Tryz.prog w 0 (fun _=>true) true fuel 63 cs=some x):
 ∃(m0 m1:Int),cs=[.int .i64 m0,.int .i64 m1]∧(Lit.int .i64 m0).wf=true∧(Lit.int .i64 m1).wf=true:=by
 obtain⟨xs,n,rfl,hx,hl,hxl,hg⟩:=DataW.trod_array Tryz.underlying63 h;have e0:Tryz.prog.cellsOf 3=1:=by kernel_rfl
 have eN:Tryz.prog.cellsOf 63=2:=by kernel_rfl
 have hl':cs.length=2:=by rw[←eN];exact hl
 have h0:=hg 0 (by decide);have h1:=hg 1 (by decide);rw[e0,List.getElem?_eq_getElem (by omega:0<xs.length)] at h0;rw[e0,List.getElem?_eq_getElem (by omega:1<xs.length)] at h1;clear h hg hx
 match cs,hl' with
 | [q0,q1],_=>
   have j0:DataW.trod enc Tryz.prog w 0 (fun _=>true) true n 3 [q0]=some xs[0]:=h0;have j1:DataW.trod enc Tryz.prog w 0 (fun _=>true) true n 3 [q1]=some xs[1]:=h1;obtain⟨m0,r0,_,w0⟩:=DataW.trod_int Tryz.underlying3 j0;obtain⟨m1,r1,_,w1⟩:=DataW.trod_int Tryz.underlying3 j1;simp only[List.cons.injEq,and_true] at r0 r1;exact⟨m0,m1,by rw[r0,r1],w0,w1⟩
theorem Ey3{fuel:Nat}{cs:List Value}{x:DataW H×List MemPlace}(h:DataW.trod enc Tryz.prog w 0 (fun _=>true) true fuel 77 cs=some x):
 ∃(m0:Int) (a1:Option Addr) (n1:Nat) (c1:Nat) (l1:List UInt8),cs=[.int .i64 m0,.slice a1 n1 c1]∧(Lit.int .i64 m0).wf=true∧Y9 w a1 n1 c1 l1:=by
 obtain⟨xs,n,rfl,hx,hl,hxl,hg⟩:=DataW.trod_struct Tryz.underlying77 h;have h0:=hg 0 _ rfl;have h1:=hg 1 _ rfl;have hxl':xs.length=2:=hxl;rw[List.getElem?_eq_getElem (by omega:0<xs.length)] at h0;rw[List.getElem?_eq_getElem (by omega:1<xs.length)] at h1;have e0:Tryz.prog.cellsOf 3=1:=by kernel_rfl
 have e1:Tryz.prog.cellsOf 22=1:=by kernel_rfl
 have eN:Tryz.prog.cellsOf 77=2:=by kernel_rfl
 have hl':cs.length=2:=by rw[←eN];exact hl
 have k0:DataW.trod enc Tryz.prog w 0 (fun _=>true) true n 3 ((cs.drop 0).take (Tryz.prog.cellsOf 3))=some xs[0]:=h0;rw[e0] at k0;have k1:DataW.trod enc Tryz.prog w 0 (fun _=>true) true n 22 ((cs.drop 1).take (Tryz.prog.cellsOf 22))=some xs[1]:=h1;rw[e1] at k1;clear h hg hx h0 h1
 match cs,hl' with
 | [q0,q1],_=>
   have j0:DataW.trod enc Tryz.prog w 0 (fun _=>true) true n 3 [q0]=some xs[0]:=k0;obtain⟨m0,r0,_,w0⟩:=DataW.trod_int Tryz.underlying3 j0;simp only[List.cons.injEq,and_true] at r0;have j1:DataW.trod enc Tryz.prog w 0 (fun _=>true) true n 22 [q1]=some xs[1]:=k1;obtain⟨a1,n1,c1,rfl⟩:=An7 Tryz.underlying22 j1;obtain⟨l1,w1⟩:=Ak9 (enc:=enc) (w:=w) (a:=a1) (len:=n1) (cap:=c1) (d:=xs[1].1) (ps:=xs[1].2) Tryz.underlying22 Tryz.underlying5 (by kernel_rfl) ⟨n,j1⟩;exact⟨m0,a1,n1,c1,l1,by rw[r0],w0,w1⟩
theorem Eq4{fuel:Nat}{cs:List Value}{x:DataW H×List MemPlace}(h:DataW.trod enc Tryz.prog w 0 (fun _=>true) true fuel 103 cs=some x):
 ∃(m0:Int) (m0_1:Int) (m1_1:Int) (m2:Int) (a3:Option Addr) (n3:Nat) (c3:Nat) (l3:List UInt8),cs=[.int .i64 m0,.int .i64 m0_1,.int .i64 m1_1,.int .i64 m2,.slice a3 n3 c3]∧(Lit.int .i64 m0).wf=true∧(Lit.int .i64 m0_1).wf=true∧(Lit.int .i64 m1_1).wf=true∧(Lit.int .i64 m2).wf=true∧Y9 w a3 n3 c3 l3:=by
 obtain⟨xs,n,rfl,hx,hl,hxl,hg⟩:=DataW.trod_struct Tryz.underlying103 h;have h0:=hg 0 _ rfl;have h1:=hg 1 _ rfl;have h2:=hg 2 _ rfl;have h3:=hg 3 _ rfl;have hxl':xs.length=4:=hxl;rw[List.getElem?_eq_getElem (by omega:0<xs.length)] at h0;rw[List.getElem?_eq_getElem (by omega:1<xs.length)] at h1;rw[List.getElem?_eq_getElem (by omega:2<xs.length)] at h2;rw[List.getElem?_eq_getElem (by omega:3<xs.length)] at h3;have e0:Tryz.prog.cellsOf 3=1:=by kernel_rfl
 have e1:Tryz.prog.cellsOf 63=2:=by kernel_rfl
 have e2:Tryz.prog.cellsOf 22=1:=by kernel_rfl
 have eN:Tryz.prog.cellsOf 103=5:=by kernel_rfl
 have hl':cs.length=5:=by rw[←eN];exact hl
 have k0:DataW.trod enc Tryz.prog w 0 (fun _=>true) true n 3 ((cs.drop 0).take (Tryz.prog.cellsOf 3))=some xs[0]:=h0;rw[e0] at k0;have k1:DataW.trod enc Tryz.prog w 0 (fun _=>true) true n 63 ((cs.drop 1).take (Tryz.prog.cellsOf 63))=some xs[1]:=h1;rw[e1] at k1;have k2:DataW.trod enc Tryz.prog w 0 (fun _=>true) true n 3 ((cs.drop 3).take (Tryz.prog.cellsOf 3))=some xs[2]:=h2;rw[e0] at k2;have k3:DataW.trod enc Tryz.prog w 0 (fun _=>true) true n 22 ((cs.drop 4).take (Tryz.prog.cellsOf 22))=some xs[3]:=h3;rw[e2] at k3;clear h hg hx h0 h1 h2 h3
 match cs,hl' with
 | [q0,q1,q2,q3,q4],_=>
   have j0:DataW.trod enc Tryz.prog w 0 (fun _=>true) true n 3 [q0]=some xs[0]:=k0;obtain⟨m0,r0,_,w0⟩:=DataW.trod_int Tryz.underlying3 j0;simp only[List.cons.injEq,and_true] at r0;have j1:DataW.trod enc Tryz.prog w 0 (fun _=>true) true n 63 [q1,q2]=some xs[1]:=k1;obtain⟨m0_1,m1_1,r1,w1_0,w1_1⟩:=Eq3 j1;simp only[List.cons.injEq,and_true] at r1;obtain⟨r1_0,r1_1⟩:=r1;have j2:DataW.trod enc Tryz.prog w 0 (fun _=>true) true n 3 [q3]=some xs[2]:=k2;obtain⟨m2,r2,_,w2⟩:=DataW.trod_int Tryz.underlying3 j2;simp only[List.cons.injEq,and_true] at r2;have j3:DataW.trod enc Tryz.prog w 0 (fun _=>true) true n 22 [q4]=some xs[3]:=k3;obtain⟨a3,n3,c3,rfl⟩:=An7 Tryz.underlying22 j3;obtain⟨l3,w3⟩:=Ak9 (enc:=enc) (w:=w) (a:=a3) (len:=n3) (cap:=c3) (d:=xs[3].1) (ps:=xs[3].2) Tryz.underlying22 Tryz.underlying5 (by kernel_rfl) ⟨n,j3⟩;exact⟨m0,m0_1,m1_1,m2,a3,n3,c3,l3,by rw[r0,r1_0,r1_1,r2],w0,w1_0,w1_1,w2,w3⟩
theorem Fe0{fuel:Nat}{cs:List Value}{x:DataW H×List MemPlace}(h:DataW.trod enc Tryz.prog w 0 (fun _=>true) true fuel 34 cs=some x):
 ∃(m0:Int) (m1:Int) (m2:Int) (m3:Int) (a4:Option Addr) (n4:Nat) (c4:Nat) (l4:List UInt8),cs=[.int .i64 m0,.int .i64 m1,.int .i64 m2,.int .i64 m3,.slice a4 n4 c4]∧(Lit.int .i64 m0).wf=true∧(Lit.int .i64 m1).wf=true∧(Lit.int .i64 m2).wf=true∧(Lit.int .i64 m3).wf=true∧Y9 w a4 n4 c4 l4:=by
 obtain⟨xs,n,rfl,hx,hl,hxl,hg⟩:=DataW.trod_struct Tryz.underlying34 h;have h0:=hg 0 _ rfl;have h1:=hg 1 _ rfl;have h2:=hg 2 _ rfl;have h3:=hg 3 _ rfl;have h4:=hg 4 _ rfl;have hxl':xs.length=5:=hxl;rw[List.getElem?_eq_getElem (by omega:0<xs.length)] at h0;rw[List.getElem?_eq_getElem (by omega:1<xs.length)] at h1;rw[List.getElem?_eq_getElem (by omega:2<xs.length)] at h2;rw[List.getElem?_eq_getElem (by omega:3<xs.length)] at h3;rw[List.getElem?_eq_getElem (by omega:4<xs.length)] at h4;have e0:Tryz.prog.cellsOf 3=1:=by kernel_rfl
 have e1:Tryz.prog.cellsOf 22=1:=by kernel_rfl
 have eN:Tryz.prog.cellsOf 34=5:=by kernel_rfl
 have hl':cs.length=5:=by rw[←eN];exact hl
 have k0:DataW.trod enc Tryz.prog w 0 (fun _=>true) true n 3 ((cs.drop 0).take (Tryz.prog.cellsOf 3))=some xs[0]:=h0;rw[e0] at k0;have k1:DataW.trod enc Tryz.prog w 0 (fun _=>true) true n 3 ((cs.drop 1).take (Tryz.prog.cellsOf 3))=some xs[1]:=h1;rw[e0] at k1;have k2:DataW.trod enc Tryz.prog w 0 (fun _=>true) true n 3 ((cs.drop 2).take (Tryz.prog.cellsOf 3))=some xs[2]:=h2;rw[e0] at k2;have k3:DataW.trod enc Tryz.prog w 0 (fun _=>true) true n 3 ((cs.drop 3).take (Tryz.prog.cellsOf 3))=some xs[3]:=h3;rw[e0] at k3;have k4:DataW.trod enc Tryz.prog w 0 (fun _=>true) true n 22 ((cs.drop 4).take (Tryz.prog.cellsOf 22))=some xs[4]:=h4;rw[e1] at k4;clear h hg hx h0 h1 h2 h3 h4
 match cs,hl' with
 | [q0,q1,q2,q3,q4],_=>
   have j0:DataW.trod enc Tryz.prog w 0 (fun _=>true) true n 3 [q0]=some xs[0]:=k0;obtain⟨m0,r0,_,w0⟩:=DataW.trod_int Tryz.underlying3 j0;simp only[List.cons.injEq,and_true] at r0;have j1:DataW.trod enc Tryz.prog w 0 (fun _=>true) true n 3 [q1]=some xs[1]:=k1;obtain⟨m1,r1,_,w1⟩:=DataW.trod_int Tryz.underlying3 j1;simp only[List.cons.injEq,and_true] at r1;have j2:DataW.trod enc Tryz.prog w 0 (fun _=>true) true n 3 [q2]=some xs[2]:=k2;obtain⟨m2,r2,_,w2⟩:=DataW.trod_int Tryz.underlying3 j2;simp only[List.cons.injEq,and_true] at r2;have j3:DataW.trod enc Tryz.prog w 0 (fun _=>true) true n 3 [q3]=some xs[3]:=k3;obtain⟨m3,r3,_,w3⟩:=DataW.trod_int Tryz.underlying3 j3;simp only[List.cons.injEq,and_true] at r3;have j4:DataW.trod enc Tryz.prog w 0 (fun _=>true) true n 22 [q4]=some xs[4]:=k4;obtain⟨a4,n4,c4,rfl⟩:=An7 Tryz.underlying22 j4;obtain⟨l4,w4⟩:=Ak9 (enc:=enc) (w:=w) (a:=a4) (len:=n4) (cap:=c4) (d:=xs[4].1) (ps:=xs[4].2) Tryz.underlying22 Tryz.underlying5 (by kernel_rfl) ⟨n,j4⟩;exact⟨m0,m1,m2,m3,a4,n4,c4,l4,by rw[r0,r1,r2,r3],w0,w1,w2,w3,w4⟩
theorem Eq5{fuel:Nat}{cs:List Value}{x:DataW H×List MemPlace}(h:DataW.trod enc Tryz.prog w 0 (fun _=>true) true fuel 153 cs=some x):
 ∃(a0:Option Addr) (n0:Nat) (c0:Nat) (l0:List UInt8) (a1:Option Addr) (n1:Nat) (c1:Nat) (l1:List UInt8),cs=[.slice a0 n0 c0,.slice a1 n1 c1]∧Y9 w a0 n0 c0 l0∧Y9 w a1 n1 c1 l1:=by
 obtain⟨xs,n,rfl,hx,hl,hxl,hg⟩:=DataW.trod_struct Tryz.underlying153 h;have h0:=hg 0 _ rfl;have h1:=hg 1 _ rfl;have hxl':xs.length=2:=hxl;rw[List.getElem?_eq_getElem (by omega:0<xs.length)] at h0;rw[List.getElem?_eq_getElem (by omega:1<xs.length)] at h1;have e0:Tryz.prog.cellsOf 22=1:=by kernel_rfl
 have eN:Tryz.prog.cellsOf 153=2:=by kernel_rfl
 have hl':cs.length=2:=by rw[←eN];exact hl
 have k0:DataW.trod enc Tryz.prog w 0 (fun _=>true) true n 22 ((cs.drop 0).take (Tryz.prog.cellsOf 22))=some xs[0]:=h0;rw[e0] at k0;have k1:DataW.trod enc Tryz.prog w 0 (fun _=>true) true n 22 ((cs.drop 1).take (Tryz.prog.cellsOf 22))=some xs[1]:=h1;rw[e0] at k1;clear h hg hx h0 h1
 match cs,hl' with
 | [q0,q1],_=>
   have j0:DataW.trod enc Tryz.prog w 0 (fun _=>true) true n 22 [q0]=some xs[0]:=k0;obtain⟨a0,n0,c0,rfl⟩:=An7 Tryz.underlying22 j0;obtain⟨l0,w0⟩:=Ak9 (enc:=enc) (w:=w) (a:=a0) (len:=n0) (cap:=c0) (d:=xs[0].1) (ps:=xs[0].2) Tryz.underlying22 Tryz.underlying5 (by kernel_rfl) ⟨n,j0⟩;have j1:DataW.trod enc Tryz.prog w 0 (fun _=>true) true n 22 [q1]=some xs[1]:=k1;obtain⟨a1,n1,c1,rfl⟩:=An7 Tryz.underlying22 j1;obtain⟨l1,w1⟩:=Ak9 (enc:=enc) (w:=w) (a:=a1) (len:=n1) (cap:=c1) (d:=xs[1].1) (ps:=xs[1].2) Tryz.underlying22 Tryz.underlying5 (by kernel_rfl) ⟨n,j1⟩;exact⟨a0,n0,c0,l0,a1,n1,c1,l1,rfl,w0,w1⟩
theorem Eq6{fuel:Nat}{cs:List Value}{x:DataW H×List MemPlace}(h:DataW.trod enc Tryz.prog w 0 (fun _=>true) true fuel 24 cs=some x):
 ∃(a0:Option Addr) (n0:Nat) (c0:Nat) (l0:List UInt8) (a1:Option Addr) (n1:Nat) (c1:Nat) (l1:List UInt8),cs=[.slice a0 n0 c0,.slice a1 n1 c1]∧Y9 w a0 n0 c0 l0∧Y9 w a1 n1 c1 l1:=by
 obtain⟨xs,n,rfl,hx,hl,hxl,hg⟩:=DataW.trod_struct Tryz.underlying24 h;have h0:=hg 0 _ rfl;have h1:=hg 1 _ rfl;have hxl':xs.length=2:=hxl;rw[List.getElem?_eq_getElem (by omega:0<xs.length)] at h0;rw[List.getElem?_eq_getElem (by omega:1<xs.length)] at h1;have e0:Tryz.prog.cellsOf 22=1:=by kernel_rfl
 have eN:Tryz.prog.cellsOf 24=2:=by kernel_rfl
 have hl':cs.length=2:=by rw[←eN];exact hl
 have k0:DataW.trod enc Tryz.prog w 0 (fun _=>true) true n 22 ((cs.drop 0).take (Tryz.prog.cellsOf 22))=some xs[0]:=h0;rw[e0] at k0;have k1:DataW.trod enc Tryz.prog w 0 (fun _=>true) true n 22 ((cs.drop 1).take (Tryz.prog.cellsOf 22))=some xs[1]:=h1;rw[e0] at k1;clear h hg hx h0 h1
 match cs,hl' with
 | [q0,q1],_=>
   have j0:DataW.trod enc Tryz.prog w 0 (fun _=>true) true n 22 [q0]=some xs[0]:=k0;obtain⟨a0,n0,c0,rfl⟩:=An7 Tryz.underlying22 j0;obtain⟨l0,w0⟩:=Ak9 (enc:=enc) (w:=w) (a:=a0) (len:=n0) (cap:=c0) (d:=xs[0].1) (ps:=xs[0].2) Tryz.underlying22 Tryz.underlying5 (by kernel_rfl) ⟨n,j0⟩;have j1:DataW.trod enc Tryz.prog w 0 (fun _=>true) true n 22 [q1]=some xs[1]:=k1;obtain⟨a1,n1,c1,rfl⟩:=An7 Tryz.underlying22 j1;obtain⟨l1,w1⟩:=Ak9 (enc:=enc) (w:=w) (a:=a1) (len:=n1) (cap:=c1) (d:=xs[1].1) (ps:=xs[1].2) Tryz.underlying22 Tryz.underlying5 (by kernel_rfl) ⟨n,j1⟩;exact⟨a0,n0,c0,l0,a1,n1,c1,l1,rfl,w0,w1⟩
theorem Cr2{fuel:Nat}{cs:List Value}{x:DataW H×List MemPlace}(h:DataW.trod enc Tryz.prog w 0 (fun _=>true) true fuel 30 cs=some x):
 ∃(g:G) (l:List UInt8),cs=[.int .i64 g.no,.slice g.a g.len g.cap]∧Y9 w g.a g.len g.cap l∧(Lit.int .i64 g.no).wf=true:=by
 obtain⟨xs,n,rfl,hx,hl,hxl,hg⟩:=DataW.trod_struct Tryz.underlying30 h;have h0:=hg 0 _ rfl;have h1:=hg 1 _ rfl;have hxl':xs.length=2:=hxl;rw[List.getElem?_eq_getElem (by omega:0<xs.length)] at h0;rw[List.getElem?_eq_getElem (by omega:1<xs.length)] at h1;have e0:Tryz.prog.cellsOf 3=1:=by kernel_rfl
 have e1:Tryz.prog.cellsOf 22=1:=by kernel_rfl
 have e2:Tryz.prog.cellsOf 30=2:=by kernel_rfl
 have hl':cs.length=2:=by rw[←e2];exact hl
 obtain⟨m,hm,_,hw⟩:=DataW.trod_int Tryz.underlying3 h0;have hm1:(cs.drop 0).take (Tryz.prog.cellsOf 3)=[Value.int .i64 m]:=hm;have h1':DataW.trod enc Tryz.prog w 0 (fun _=>true) true n 22 ((cs.drop 1).take (Tryz.prog.cellsOf 22))=some xs[1]:=h1;rw[e0] at hm1;rw[e1] at h1'
 match cs,hl' with
 | [c0,c1],_=>
   have hm':c0=Value.int .i64 m:=by have:[c0]=[Value.int .i64 m]:=hm1;simpa using this
   have h3:DataW.trod enc Tryz.prog w 0 (fun _=>true) true n 22 [c1]=some xs[1]:=h1';obtain⟨a,len,cap,hc⟩:∃a len cap,c1=.slice a len cap:=by
    rcases Go.Deep.open_slice Tryz.underlying22 h3 with⟨h4,_⟩ | ⟨a,len,cap,_,_,_,_,h4,_⟩
    ·exact⟨_,_,_,by simpa using h4⟩
    ·exact⟨_,_,_,by simpa using h4⟩
   subst hc;obtain⟨l,hin⟩:=Ak9 (enc:=enc) (w:=w) (a:=a) (len:=len) (cap:=cap) (d:=xs[1].1) (ps:=xs[1].2) Tryz.underlying22 Tryz.underlying5 (by kernel_rfl) ⟨n,h3⟩;exact⟨⟨m,a,len,cap⟩,l,by rw[hm'],hin,hw⟩
def Fe1(w:World)(r:Rg):Prop:=∃kc ko kp,Y9 w r.c.a r.c.len r.c.cap kc∧Y9 w r.o.a r.o.len r.o.cap ko∧Y9 w r.p.a r.p.len r.p.cap kp∧
 (Lit.int .i64 r.c.no).wf=true∧(Lit.int .i64 r.o.no).wf=true∧(Lit.int .i64 r.p.no).wf=true∧(Lit.int .i64 r.l).wf=true∧(Lit.int .i64 r.t).wf=true
theorem Ey4{fuel:Nat}{cs:List Value}{x:DataW H×List MemPlace}(h:DataW.trod enc Tryz.prog w 0 (fun _=>true) true fuel 32 cs=some x):
 ∃r:Rg,cs=r.L∧Fe1 w r:=by
 obtain⟨xs,n,rfl,hx,hl,hxl,hg⟩:=DataW.trod_struct Tryz.underlying32 h;have h0:=hg 0 _ rfl;have h1:=hg 1 _ rfl;have h2:=hg 2 _ rfl;have h3:=hg 3 _ rfl;have h4:=hg 4 _ rfl;have hxl':xs.length=5:=hxl;rw[List.getElem?_eq_getElem (by omega:0<xs.length)] at h0;rw[List.getElem?_eq_getElem (by omega:1<xs.length)] at h1;rw[List.getElem?_eq_getElem (by omega:2<xs.length)] at h2;rw[List.getElem?_eq_getElem (by omega:3<xs.length)] at h3;rw[List.getElem?_eq_getElem (by omega:4<xs.length)] at h4;have e0:Tryz.prog.cellsOf 3=1:=by kernel_rfl
 have e2:Tryz.prog.cellsOf 30=2:=by kernel_rfl
 have e8:Tryz.prog.cellsOf 32=8:=by kernel_rfl
 have hl':cs.length=8:=by rw[←e8];exact hl
 have k0:DataW.trod enc Tryz.prog w 0 (fun _=>true) true n 30 ((cs.drop 0).take (Tryz.prog.cellsOf 30))=some xs[0]:=h0;have k1:DataW.trod enc Tryz.prog w 0 (fun _=>true) true n 30 ((cs.drop 2).take (Tryz.prog.cellsOf 30))=some xs[1]:=h1;have k2:DataW.trod enc Tryz.prog w 0 (fun _=>true) true n 30 ((cs.drop 4).take (Tryz.prog.cellsOf 30))=some xs[2]:=h2;have k3:DataW.trod enc Tryz.prog w 0 (fun _=>true) true n 3 ((cs.drop 6).take (Tryz.prog.cellsOf 3))=some xs[3]:=h3;have k4:DataW.trod enc Tryz.prog w 0 (fun _=>true) true n 3 ((cs.drop 7).take (Tryz.prog.cellsOf 3))=some xs[4]:=h4;rw[e2] at k0 k1 k2;rw[e0] at k3 k4
 match cs,hl' with
 | [c0,c1,c2,c3,c4,c5,c6,c7],_=>
   obtain⟨g0,l0,q0,i0,w0⟩:=Cr2 (show DataW.trod enc Tryz.prog w 0 (fun _=>true) true n 30 [c0,c1]=some xs[0] from k0);obtain⟨g1,l1,q1,i1,w1⟩:=Cr2 (show DataW.trod enc Tryz.prog w 0 (fun _=>true) true n 30 [c2,c3]=some xs[1] from k1);obtain⟨g2,l2,q2,i2,w2⟩:=Cr2 (show DataW.trod enc Tryz.prog w 0 (fun _=>true) true n 30 [c4,c5]=some xs[2] from k2);obtain⟨m3,q3,_,w3⟩:=DataW.trod_int Tryz.underlying3 (show DataW.trod enc Tryz.prog w 0 (fun _=>true) true n 3 [c6]=some xs[3] from k3);obtain⟨m4,q4,_,w4⟩:=DataW.trod_int Tryz.underlying3 (show DataW.trod enc Tryz.prog w 0 (fun _=>true) true n 3 [c7]=some xs[4] from k4);simp only[List.cons.injEq,and_true] at q0 q1 q2 q3 q4;exact⟨⟨g0,g1,g2,m3,m4⟩,by rw[q0.1,q0.2,q1.1,q1.2,q2.1,q2.2,q3,q4],l0,l1,l2,i0,i1,i2,w0,w1,w2,w3,w4⟩
theorem Ey5{fuel:Nat}{cs:List Value}{x:DataW H×List MemPlace}(h:DataW.trod enc Tryz.prog w 0 (fun _=>true) true fuel 38 cs=some x):
 ∃(a:Option Addr) (len cap:Nat) (skip bad:Int) (l:List UInt8),cs=[.slice a len cap,.int .i64 skip,.int .i64 bad]∧Y9 w a len cap l∧(Lit.int .i64 skip).wf=true∧(Lit.int .i64 bad).wf=true:=by
 obtain⟨xs,n,rfl,hx,hl,hxl,hg⟩:=DataW.trod_struct Tryz.underlying38 h;have h0:=hg 0 _ rfl;have h1:=hg 1 _ rfl;have h2:=hg 2 _ rfl;have hxl':xs.length=3:=hxl;rw[List.getElem?_eq_getElem (by omega:0<xs.length)] at h0;rw[List.getElem?_eq_getElem (by omega:1<xs.length)] at h1;rw[List.getElem?_eq_getElem (by omega:2<xs.length)] at h2;have e0:Tryz.prog.cellsOf 3=1:=by kernel_rfl
 have e1:Tryz.prog.cellsOf 22=1:=by kernel_rfl
 have e2:Tryz.prog.cellsOf 38=3:=by kernel_rfl
 have hl':cs.length=3:=by rw[←e2];exact hl
 have k0:DataW.trod enc Tryz.prog w 0 (fun _=>true) true n 22 ((cs.drop 0).take (Tryz.prog.cellsOf 22))=some xs[0]:=h0;have k1:DataW.trod enc Tryz.prog w 0 (fun _=>true) true n 3 ((cs.drop 1).take (Tryz.prog.cellsOf 3))=some xs[1]:=h1;have k2:DataW.trod enc Tryz.prog w 0 (fun _=>true) true n 3 ((cs.drop 2).take (Tryz.prog.cellsOf 3))=some xs[2]:=h2;rw[e1] at k0;rw[e0] at k1 k2
 match cs,hl' with
 | [c0,c1,c2],_=>
   obtain⟨m1,q1,_,w1⟩:=DataW.trod_int Tryz.underlying3 (show DataW.trod enc Tryz.prog w 0 (fun _=>true) true n 3 [c1]=some xs[1] from k1);obtain⟨m2,q2,_,w2⟩:=DataW.trod_int Tryz.underlying3 (show DataW.trod enc Tryz.prog w 0 (fun _=>true) true n 3 [c2]=some xs[2] from k2);have h3:DataW.trod enc Tryz.prog w 0 (fun _=>true) true n 22 [c0]=some xs[0]:=k0;obtain⟨a,len,cap,hc⟩:∃a len cap,c0=.slice a len cap:=by
    rcases Go.Deep.open_slice Tryz.underlying22 h3 with⟨h4,_⟩ | ⟨a,len,cap,_,_,_,_,h4,_⟩
    ·exact⟨_,_,_,by simpa using h4⟩
    ·exact⟨_,_,_,by simpa using h4⟩
   subst hc;obtain⟨l,hin⟩:=Ak9 (enc:=enc) (w:=w) (a:=a) (len:=len) (cap:=cap) (d:=xs[0].1) (ps:=xs[0].2) Tryz.underlying22 Tryz.underlying5 (by kernel_rfl) ⟨n,h3⟩;simp only[List.cons.injEq,and_true] at q1 q2;exact⟨a,len,cap,m1,m2,l,by rw[q1,q2],hin,w1,w2⟩
theorem Eq7{fuel:Nat}{c0 c1 c2 c3:Value}{x:DataW H×List MemPlace}(h:DataW.trod enc Tryz.prog w 0 (fun _=>true) true fuel 36 [c0,c1,c2,c3]=some x):∃u0 u1 u2 u3:Bool,c0=.bool u0∧c1=.bool u1∧c2=.bool u2∧c3=.bool u3:=by
 obtain⟨xs,m,rfl,hx,hl,hxl,hg⟩:=DataW.trod_array Tryz.underlying36 h;have e1:Tryz.prog.cellsOf 4=1:=by kernel_rfl
 have key:∀i,i<4→∃u:Bool,(([c0,c1,c2,c3]:List Value).drop i).take 1=[.bool u]:=fun i hi=>by
  have h1:=hg i hi;rw[e1,Nat.mul_one,List.getElem?_eq_getElem (by omega:i<xs.length)] at h1;obtain⟨u,h2,_⟩:=DataW.trod_bool Tryz.underlying4 h1;exact⟨u,h2⟩
 obtain⟨u0,k0⟩:=key 0 (by decide);obtain⟨u1,k1⟩:=key 1 (by decide);obtain⟨u2,k2⟩:=key 2 (by decide);obtain⟨u3,k3⟩:=key 3 (by decide);simp at k0 k1 k2 k3;exact⟨u0,u1,u2,u3,k0,k1,k2,k3⟩
theorem Cw9{fuel:Nat}{c0 c1 c2 c3:Value}{x:DataW H×List MemPlace}(h:DataW.trod enc Tryz.prog w 0 (fun _=>true) true fuel 40 [c0,c1,c2,c3]=some x):∃u0 u1 u2 u3:Int,c0=.int .i64 u0∧c1=.int .i64 u1∧c2=.int .i64 u2∧c3=.int .i64 u3:=by
 obtain⟨xs,m,rfl,hx,hl,hxl,hg⟩:=DataW.trod_array Tryz.underlying40 h;have e1:Tryz.prog.cellsOf 3=1:=by kernel_rfl
 have key:∀i,i<4→∃u:Int,(([c0,c1,c2,c3]:List Value).drop i).take 1=[.int .i64 u]:=fun i hi=>by
  have h1:=hg i hi;rw[e1,Nat.mul_one,List.getElem?_eq_getElem (by omega:i<xs.length)] at h1;obtain⟨u,h2,_,_⟩:=DataW.trod_int Tryz.underlying3 h1;exact⟨u,h2⟩
 obtain⟨u0,k0⟩:=key 0 (by decide);obtain⟨u1,k1⟩:=key 1 (by decide);obtain⟨u2,k2⟩:=key 2 (by decide);obtain⟨u3,k3⟩:=key 3 (by decide);simp at k0 k1 k2 k3;exact⟨u0,u1,u2,u3,k0,k1,k2,k3⟩
theorem Eq8{fuel:Nat}{c0 c1 c2 c3 c4 c5 c6 c7 c8 c9 c10 c11:Value}{x:DataW H×List MemPlace}(h:DataW.trod enc Tryz.prog w 0 (fun _=>true) true fuel 39 [c0,c1,c2,c3,c4,c5,c6,c7,c8,c9,c10,c11]=some x):
 ∃(f0 f1 f2 f3:Fv) (s0 s1 s2 s3:Fd),[c0,c1,c2]=f0.L∧[c3,c4,c5]=f1.L∧[c6,c7,c8]=f2.L∧[c9,c10,c11]=f3.L∧Ad2 w f0 s0∧Ad2 w f1 s1∧Ad2 w f2 s2∧Ad2 w f3 s3:=by
 obtain⟨xs,m,rfl,hx,hl,hxl,hg⟩:=DataW.trod_array Tryz.underlying39 h;have e1:Tryz.prog.cellsOf 38=3:=by kernel_rfl
 have key:∀i,i<4→∃(f:Fv) (s:Fd),(([c0,c1,c2,c3,c4,c5,c6,c7,c8,c9,c10,c11]:List Value).drop (i*3)).take 3=f.L∧Ad2 w f s:=fun i hi=>by
  have h1:=hg i hi;rw[e1,List.getElem?_eq_getElem (by omega:i<xs.length)] at h1;obtain⟨a,len,cap,sk,bd,l,h2,h3,_,_⟩:=Ey5 h1;exact⟨⟨a,len,cap,sk,bd⟩,⟨l,sk,bd⟩,h2,⟨h3.1,h3.2.1,h3.2.2.1,h3.2.2.2,rfl,rfl⟩⟩
 obtain⟨f0,s0,k0,g0⟩:=key 0 (by decide);obtain⟨f1,s1,k1,g1⟩:=key 1 (by decide);obtain⟨f2,s2,k2,g2⟩:=key 2 (by decide);obtain⟨f3,s3,k3,g3⟩:=key 3 (by decide);exact⟨f0,f1,f2,f3,s0,s1,s2,s3,k0,k1,k2,k3,g0,g1,g2,g3⟩
theorem Fe2{fuel:Nat}{cs:List Value}{x:DataW H×List MemPlace}(h:DataW.trod enc Tryz.prog w 0 (fun _=>true) true fuel 42 cs=some x):∃(hv:Hv) (s:Nat→Fd),cs=hv.L∧An4 w hv s:=by
 obtain⟨xs,n,rfl,hx,hl,hxl,hg⟩:=DataW.trod_struct Tryz.underlying42 h;have hxl':xs.length=4:=hxl;have h0:=hg 0 _ rfl;have h1:=hg 1 _ rfl;have h2:=hg 2 _ rfl;have h3:=hg 3 _ rfl;rw[List.getElem?_eq_getElem (by omega:0<xs.length)] at h0;rw[List.getElem?_eq_getElem (by omega:1<xs.length)] at h1;rw[List.getElem?_eq_getElem (by omega:2<xs.length)] at h2;rw[List.getElem?_eq_getElem (by omega:3<xs.length)] at h3;have e0:Tryz.prog.cellsOf 3=1:=by kernel_rfl
 have e1:Tryz.prog.cellsOf 36=4:=by kernel_rfl
 have e2:Tryz.prog.cellsOf 39=12:=by kernel_rfl
 have e3:Tryz.prog.cellsOf 40=4:=by kernel_rfl
 have e8:Tryz.prog.cellsOf 42=21:=by kernel_rfl
 have hl':cs.length=21:=by rw[←e8];exact hl
 have k0:DataW.trod enc Tryz.prog w 0 (fun _=>true) true n 36 ((cs.drop 0).take (Tryz.prog.cellsOf 36))=some xs[0]:=h0;have k1:DataW.trod enc Tryz.prog w 0 (fun _=>true) true n 39 ((cs.drop 4).take (Tryz.prog.cellsOf 39))=some xs[1]:=h1;have k2:DataW.trod enc Tryz.prog w 0 (fun _=>true) true n 40 ((cs.drop 16).take (Tryz.prog.cellsOf 40))=some xs[2]:=h2;have k3:DataW.trod enc Tryz.prog w 0 (fun _=>true) true n 3 ((cs.drop 20).take (Tryz.prog.cellsOf 3))=some xs[3]:=h3;rw[e1] at k0;rw[e2] at k1;rw[e3] at k2;rw[e0] at k3
 match cs,hl' with
 | [c0,c1,c2,c3,c4,c5,c6,c7,c8,c9,c10,c11,c12,c13,c14,c15,c16,c17,c18,c19,c20],_=>
   obtain⟨u0,u1,u2,u3,rfl,rfl,rfl,rfl⟩:=Eq7 (show DataW.trod enc Tryz.prog w 0 (fun _=>true) true n 36 [c0,c1,c2,c3]=some xs[0] from k0);obtain⟨f0,f1,f2,f3,s0,s1,s2,s3,q0,q1,q2,q3,g0,g1,g2,g3⟩:=Eq8 (show DataW.trod enc Tryz.prog w 0 (fun _=>true) true n 39 [c4,c5,c6,c7,c8,c9,c10,c11,c12,c13,c14,c15]=some xs[1] from k1);obtain⟨l0,l1,l2,l3,rfl,rfl,rfl,rfl⟩:=Cw9 (show DataW.trod enc Tryz.prog w 0 (fun _=>true) true n 40 [c16,c17,c18,c19]=some xs[2] from k2);obtain⟨nx,q4,_,_⟩:=DataW.trod_int Tryz.underlying3 (show DataW.trod enc Tryz.prog w 0 (fun _=>true) true n 3 [c20]=some xs[3] from k3);simp only[Fv.L,List.cons.injEq,and_true] at q0 q1 q2 q3 q4;obtain⟨rfl,rfl,rfl⟩:=q0;obtain⟨rfl,rfl,rfl⟩:=q1;obtain⟨rfl,rfl,rfl⟩:=q2;obtain⟨rfl,rfl,rfl⟩:=q3;subst q4;refine⟨⟨fun i=>match i with | 0=>u0 | 1=>u1 | 2=>u2 | _=>u3,fun i=>match i with | 0=>f0 | 1=>f1 | 2=>f2 | _=>f3,fun i=>match i with | 0=>l0 | 1=>l1 | 2=>l2 | _=>l3,nx⟩,fun i=>match i with | 0=>s0 | 1=>s1 | 2=>s2 | _=>s3,rfl,fun i hi=>?_⟩;rcases(show i=0∨i=1∨i=2∨i=3 by omega) with rfl | rfl | rfl | rfl
   ·exact g0
   ·exact g1
   ·exact g2
   ·exact g3
theorem Fe3{fuel:Nat}{cs:List Value}{x:DataW H×List MemPlace}(h:DataW.trod enc Tryz.prog w 0 (fun _=>true) true fuel 40 cs=some x):∃c0 c1 c2 c3:Int,cs=[.int .i64 c0,.int .i64 c1,.int .i64 c2,.int .i64 c3]:=by
 obtain⟨xs,n,rfl,hx,hl,hxl,hg⟩:=DataW.trod_array Tryz.underlying40 h;have e0:Tryz.prog.cellsOf 3=1:=by kernel_rfl
 have eN:Tryz.prog.cellsOf 40=4:=by kernel_rfl
 have hl':cs.length=4:=by rw[←eN];exact hl
 match cs,hl' with
 | [q0,q1,q2,q3],_=>
   obtain⟨u0,u1,u2,u3,rfl,rfl,rfl,rfl⟩:=Cw9 h;exact⟨u0,u1,u2,u3,rfl⟩
theorem Ey6{fuel:Nat}{cs:List Value}{x:DataW H×List MemPlace}(h:DataW.trod enc Tryz.prog w 0 (fun _=>true) true fuel 26 cs=some x):∃b:Nat→UInt64,cs=(List.range 16).map fun i=>.int .u64 (qv (b i)):=by
 obtain⟨xs,n,rfl,hx,hl,hxl,hg⟩:=DataW.trod_array Tryz.underlying26 h;have e0:Tryz.prog.cellsOf 25=1:=by kernel_rfl
 have eN:Tryz.prog.cellsOf 26=16:=by kernel_rfl
 have hl':cs.length=16:=by rw[←eN];exact hl
 have key:∀i,i<16→∃u:UInt64,(cs.drop i).take 1=[.int .u64 (qv u)]:=fun i hi=>by
  have h1:=hg i hi;rw[e0,Nat.mul_one,List.getElem?_eq_getElem (by omega:i<xs.length)] at h1;obtain⟨m,h2,_,h3⟩:=DataW.trod_int Tryz.underlying25 h1;obtain⟨u,rfl⟩:=Ds8 h3;exact⟨u,h2⟩
 obtain⟨b,hb⟩:=Go.Deep.choose_lt (α:=UInt64) key;refine⟨b,List.ext_getElem (by rw[hl'];simp) fun k h1 h2=>?_⟩;have hk:=hb k (by omega);have e:=Aj3 (o:=k) (k:=0) hk (by decide);simp only[Nat.add_zero,List.getD_eq_getElem?_getD,List.getElem?_eq_getElem h1,Option.getD_some] at e;rw[e];simp
theorem O1{cs S T:List Value}{o n m:Nat}(h:(cs.drop o).take n=S)(hm:m=o+n)(h2:cs.drop m=T):cs.drop o=S++T:=by
 subst hm;rw[←h2,←h,←List.drop_drop,List.take_append_drop]
theorem Eq9{a:Option Addr}{len cap:Nat}{d:DataW H}{ps:List MemPlace}(h:DataW.Trod enc Tryz.prog w 0 (fun _=>true) true 43 (.slice a len cap) d ps):
 ∃l:List (Int×List UInt8),l.length=len∧len≤cap∧cap≤maxLen∧Ac1 w a l:=by
 obtain⟨l,h1,h2,h3,vs,h4,h5,h6⟩:=Bn8 (α:=Int×List UInt8) (n:=2) (fun p cs=>∃v,cs=[.int .i64 p.1,v]∧X9 w v p.2) Tryz.underlying43 (by kernel_rfl) (by decide)
  (fun fuel cs x h=>by
    obtain⟨m0,a1,n1,c1,l1,rfl,-,u⟩:=Ey3 h;exact⟨(m0,l1),_,rfl,.ofIn u⟩) h
 refine⟨l,h1,h2,h3,vs,by rw[h4,h1],h5,fun i hi=>?_⟩;obtain⟨v,h7,h8⟩:=h6 i (by omega);have e:l.getD i default=l.getD i (0,[]):=by simp[List.getD,hi]
 rw[e] at h7 h8;have g0:=Aj3 (k:=0) h7 (by decide);have g1:=Aj3 (k:=1) h7 (by decide);exact⟨g0,by rw[g1];exact h8⟩
theorem Ey7{a:Option Addr}{len cap:Nat}{d:DataW H}{ps:List MemPlace}(h:DataW.Trod enc Tryz.prog w 0 (fun _=>true) true 44 (.slice a len cap) d ps):
 ∃l:List Gt,l.length=len∧len≤cap∧cap≤maxLen∧Ah2 w a l:=by
 obtain⟨l,h1,h2,h3,vs,h4,h5,h6⟩:=Bn8 (α:=Gt) (n:=5) (fun p cs=>∃v,cs=[.int .i64 p.kind,.int .i64 p.e0,.int .i64 p.e1,.int .i64 p.seq,v]∧X9 w v p.b) Tryz.underlying44 (by kernel_rfl) (by decide)
  (fun fuel cs x h=>by
    obtain⟨m0,m1,m2,m3,a1,n1,c1,l1,rfl,-,-,-,-,u⟩:=Eq4 h;exact⟨⟨m0,m1,m2,m3,l1⟩,_,rfl,.ofIn u⟩) h
 refine⟨l,h1,h2,h3,vs,by rw[h4,h1],h5,fun i hi=>?_⟩;obtain⟨v,h7,h8⟩:=h6 i (by omega);have g0:=Aj3 (k:=0) h7 (by decide);have g1:=Aj3 (k:=1) h7 (by decide);have g2:=Aj3 (k:=2) h7 (by decide);have g3:=Aj3 (k:=3) h7 (by decide);have g4:=Aj3 (k:=4) h7 (by decide);exact⟨g0,g1,g2,g3,by rw[g4];exact h8⟩
theorem Er0{a:Option Addr}{len cap:Nat}{d:DataW H}{ps:List MemPlace}(h:DataW.Trod enc Tryz.prog w 0 (fun _=>true) true 47 (.slice a len cap) d ps):
 ∃l:List Ent,l.length=len∧len≤cap∧cap≤maxLen∧X7 w a l:=by
 obtain⟨l,h1,h2,h3,vs,h4,h5,h6⟩:=Bn8 (α:=Ent) (n:=2) (fun p cs=>∃v v',cs=[v,v']∧X9 w v p.1∧X9 w v' p.2) Tryz.underlying47 (by kernel_rfl) (by decide)
  (fun fuel cs x h=>by
    obtain⟨a0,n0,c0,l0,a1,n1,c1,l1,rfl,u0,u1⟩:=Eq5 h;exact⟨(l0,l1),_,_,rfl,.ofIn u0,.ofIn u1⟩) h
 refine⟨l,h1,h2,h3,vs,by rw[h4,h1],h5,fun i hi=>?_⟩;obtain⟨v,v',h7,h8,h9⟩:=h6 i (by omega);have e:l.getD i default=l.getD i ([],[]):=by simp[List.getD,hi]
 rw[e] at h8 h9;have g0:=Aj3 (k:=0) h7 (by decide);have g1:=Aj3 (k:=1) h7 (by decide);exact⟨by rw[show vs.getD (i*2) undef=v from g0];exact h8,by rw[g1];exact h9⟩
theorem Eg1{a:Option Addr}{len cap:Nat}{d:DataW H}{ps:List MemPlace}(h:DataW.Trod enc Tryz.prog w 0 (fun _=>true) true 35 (.slice a len cap) d ps):
 ∃l:List (List UInt8),l.length=len∧len≤cap∧cap≤maxLen∧W5 w a l:=by
 obtain⟨l,h1,h2,h3,vs,h4,h5,h6⟩:=Bn8 (α:=List UInt8) (n:=1) (fun p cs=>∃v,cs=[v]∧X9 w v p) Tryz.underlying35 (by kernel_rfl) (by decide)
  (fun fuel cs x h=>by
    obtain⟨a0,n0,c0,l0,rfl,u⟩:=Bs8 h;exact⟨l0,_,rfl,.ofIn u⟩) h
 refine⟨l,h1,h2,h3,vs,h5,by rw[h4,h1,Nat.mul_one],fun i hi=>?_⟩;obtain⟨v,h7,h8⟩:=h6 i (by omega);have g0:=Aj3 (k:=0) h7 (by decide);rw[Nat.mul_one] at g0;have e:l.getD i default=l.getD i []:=by simp[List.getD,hi]
 rw[e] at h8;rw[show vs.getD i undef=v from g0];exact h8
theorem Fe4{fuel:Nat}{cs:List Value}{x:DataW H×List MemPlace}(h:DataW.trod enc Tryz.prog w 0 (fun _=>true) true fuel 28 cs=some x):∃t b,cs=D0 t b∧(Lit.int .i64 t).wf=true:=by
 obtain⟨xs,n,rfl,hx,hl,hxl,hg⟩:=DataW.trod_struct Tryz.underlying28 h;have hxl':xs.length=2:=hxl;have e_16uint64:Tryz.prog.cellsOf 26=16:=by kernel_rfl
 have e_int:Tryz.prog.cellsOf 3=1:=by kernel_rfl
 have eN:Tryz.prog.cellsOf 28=17:=by kernel_rfl
 have hl':cs.length=17:=by rw[←eN];exact hl
 have k0:DataW.trod enc Tryz.prog w 0 (fun _=>true) true n 3 ((cs.drop 0).take (Tryz.prog.cellsOf 3))=some (xs[0]'(by omega)):=by
  have:=hg 0 _ rfl;rw[List.getElem?_eq_getElem (by omega:0<xs.length)] at this;exact this
 rw[e_int] at k0;have k1:DataW.trod enc Tryz.prog w 0 (fun _=>true) true n 26 ((cs.drop 1).take (Tryz.prog.cellsOf 26))=some (xs[1]'(by omega)):=by
  have:=hg 1 _ rfl;rw[List.getElem?_eq_getElem (by omega:1<xs.length)] at this;exact this
 rw[e_16uint64] at k1;obtain⟨t,s0,-,wt⟩:=DataW.trod_int Tryz.underlying3 k0;obtain⟨b,s1⟩:=Ey6 k1;have e:cs.drop 0=[.int .i64 t]++(((List.range 16).map fun i=>.int .u64 (qv (b i)))++[]):=O1 (m:=1) s0 rfl (O1 (m:=17) s1 rfl (by rw[List.drop_eq_nil_iff];omega));exact⟨t,b,e.trans (by rw[List.append_nil];rfl),wt⟩
theorem Fe5{fuel:Nat}{cs:List Value}{x:DataW H×List MemPlace}(h:DataW.trod enc Tryz.prog w 0 (fun _=>true) true fuel 46 cs=some x):∃e:Ev,cs=A7 e∧Ac3 w e:=by
 obtain⟨xs,n,rfl,hx,hl,hxl,hg⟩:=DataW.trod_struct Tryz.underlying46 h;have hxl':xs.length=19:=hxl;have e_4int:Tryz.prog.cellsOf 40=4:=by kernel_rfl
 have e_LLuint8:Tryz.prog.cellsOf 35=1:=by kernel_rfl
 have e_LapiEvent:Tryz.prog.cellsOf 44=1:=by kernel_rfl
 have e_LapiSent:Tryz.prog.cellsOf 43=1:=by kernel_rfl
 have e_Luint8:Tryz.prog.cellsOf 22=1:=by kernel_rfl
 have e_int:Tryz.prog.cellsOf 3=1:=by kernel_rfl
 have e_yettapiAsk:Tryz.prog.cellsOf 34=5:=by kernel_rfl
 have e_yettapiHub:Tryz.prog.cellsOf 42=21:=by kernel_rfl
 have e_yettapiRing:Tryz.prog.cellsOf 32=8:=by kernel_rfl
 have e_yettapiStore:Tryz.prog.cellsOf 24=2:=by kernel_rfl
 have e_yettapiWin:Tryz.prog.cellsOf 28=17:=by kernel_rfl
 have eN:Tryz.prog.cellsOf 46=70:=by kernel_rfl
 have hl':cs.length=70:=by rw[←eN];exact hl
 have k0:DataW.trod enc Tryz.prog w 0 (fun _=>true) true n 3 ((cs.drop 0).take (Tryz.prog.cellsOf 3))=some (xs[0]'(by omega)):=by
  have:=hg 0 _ rfl;rw[List.getElem?_eq_getElem (by omega:0<xs.length)] at this;exact this
 rw[e_int] at k0;have k1:DataW.trod enc Tryz.prog w 0 (fun _=>true) true n 22 ((cs.drop 1).take (Tryz.prog.cellsOf 22))=some (xs[1]'(by omega)):=by
  have:=hg 1 _ rfl;rw[List.getElem?_eq_getElem (by omega:1<xs.length)] at this;exact this
 rw[e_Luint8] at k1;have k2:DataW.trod enc Tryz.prog w 0 (fun _=>true) true n 3 ((cs.drop 2).take (Tryz.prog.cellsOf 3))=some (xs[2]'(by omega)):=by
  have:=hg 2 _ rfl;rw[List.getElem?_eq_getElem (by omega:2<xs.length)] at this;exact this
 rw[e_int] at k2;have k3:DataW.trod enc Tryz.prog w 0 (fun _=>true) true n 24 ((cs.drop 3).take (Tryz.prog.cellsOf 24))=some (xs[3]'(by omega)):=by
  have:=hg 3 _ rfl;rw[List.getElem?_eq_getElem (by omega:3<xs.length)] at this;exact this
 rw[e_yettapiStore] at k3;have k4:DataW.trod enc Tryz.prog w 0 (fun _=>true) true n 3 ((cs.drop 5).take (Tryz.prog.cellsOf 3))=some (xs[4]'(by omega)):=by
  have:=hg 4 _ rfl;rw[List.getElem?_eq_getElem (by omega:4<xs.length)] at this;exact this
 rw[e_int] at k4;have k5:DataW.trod enc Tryz.prog w 0 (fun _=>true) true n 3 ((cs.drop 6).take (Tryz.prog.cellsOf 3))=some (xs[5]'(by omega)):=by
  have:=hg 5 _ rfl;rw[List.getElem?_eq_getElem (by omega:5<xs.length)] at this;exact this
 rw[e_int] at k5;have k6:DataW.trod enc Tryz.prog w 0 (fun _=>true) true n 3 ((cs.drop 7).take (Tryz.prog.cellsOf 3))=some (xs[6]'(by omega)):=by
  have:=hg 6 _ rfl;rw[List.getElem?_eq_getElem (by omega:6<xs.length)] at this;exact this
 rw[e_int] at k6;have k7:DataW.trod enc Tryz.prog w 0 (fun _=>true) true n 3 ((cs.drop 8).take (Tryz.prog.cellsOf 3))=some (xs[7]'(by omega)):=by
  have:=hg 7 _ rfl;rw[List.getElem?_eq_getElem (by omega:7<xs.length)] at this;exact this
 rw[e_int] at k7;have k8:DataW.trod enc Tryz.prog w 0 (fun _=>true) true n 3 ((cs.drop 9).take (Tryz.prog.cellsOf 3))=some (xs[8]'(by omega)):=by
  have:=hg 8 _ rfl;rw[List.getElem?_eq_getElem (by omega:8<xs.length)] at this;exact this
 rw[e_int] at k8;have k9:DataW.trod enc Tryz.prog w 0 (fun _=>true) true n 28 ((cs.drop 10).take (Tryz.prog.cellsOf 28))=some (xs[9]'(by omega)):=by
  have:=hg 9 _ rfl;rw[List.getElem?_eq_getElem (by omega:9<xs.length)] at this;exact this
 rw[e_yettapiWin] at k9;have k10:DataW.trod enc Tryz.prog w 0 (fun _=>true) true n 32 ((cs.drop 27).take (Tryz.prog.cellsOf 32))=some (xs[10]'(by omega)):=by
  have:=hg 10 _ rfl;rw[List.getElem?_eq_getElem (by omega:10<xs.length)] at this;exact this
 rw[e_yettapiRing] at k10;have k11:DataW.trod enc Tryz.prog w 0 (fun _=>true) true n 34 ((cs.drop 35).take (Tryz.prog.cellsOf 34))=some (xs[11]'(by omega)):=by
  have:=hg 11 _ rfl;rw[List.getElem?_eq_getElem (by omega:11<xs.length)] at this;exact this
 rw[e_yettapiAsk] at k11;have k12:DataW.trod enc Tryz.prog w 0 (fun _=>true) true n 3 ((cs.drop 40).take (Tryz.prog.cellsOf 3))=some (xs[12]'(by omega)):=by
  have:=hg 12 _ rfl;rw[List.getElem?_eq_getElem (by omega:12<xs.length)] at this;exact this
 rw[e_int] at k12;have k13:DataW.trod enc Tryz.prog w 0 (fun _=>true) true n 3 ((cs.drop 41).take (Tryz.prog.cellsOf 3))=some (xs[13]'(by omega)):=by
  have:=hg 13 _ rfl;rw[List.getElem?_eq_getElem (by omega:13<xs.length)] at this;exact this
 rw[e_int] at k13;have k14:DataW.trod enc Tryz.prog w 0 (fun _=>true) true n 35 ((cs.drop 42).take (Tryz.prog.cellsOf 35))=some (xs[14]'(by omega)):=by
  have:=hg 14 _ rfl;rw[List.getElem?_eq_getElem (by omega:14<xs.length)] at this;exact this
 rw[e_LLuint8] at k14;have k15:DataW.trod enc Tryz.prog w 0 (fun _=>true) true n 42 ((cs.drop 43).take (Tryz.prog.cellsOf 42))=some (xs[15]'(by omega)):=by
  have:=hg 15 _ rfl;rw[List.getElem?_eq_getElem (by omega:15<xs.length)] at this;exact this
 rw[e_yettapiHub] at k15;have k16:DataW.trod enc Tryz.prog w 0 (fun _=>true) true n 43 ((cs.drop 64).take (Tryz.prog.cellsOf 43))=some (xs[16]'(by omega)):=by
  have:=hg 16 _ rfl;rw[List.getElem?_eq_getElem (by omega:16<xs.length)] at this;exact this
 rw[e_LapiSent] at k16;have k17:DataW.trod enc Tryz.prog w 0 (fun _=>true) true n 44 ((cs.drop 65).take (Tryz.prog.cellsOf 44))=some (xs[17]'(by omega)):=by
  have:=hg 17 _ rfl;rw[List.getElem?_eq_getElem (by omega:17<xs.length)] at this;exact this
 rw[e_LapiEvent] at k17;have k18:DataW.trod enc Tryz.prog w 0 (fun _=>true) true n 40 ((cs.drop 66).take (Tryz.prog.cellsOf 40))=some (xs[18]'(by omega)):=by
  have:=hg 18 _ rfl;rw[List.getElem?_eq_getElem (by omega:18<xs.length)] at this;exact this
 rw[e_4int] at k18;obtain⟨v0,s0,-,-⟩:=DataW.trod_int Tryz.underlying3 k0;obtain⟨a1,n1,c1,l1,s1,u1⟩:=Bs8 k1;obtain⟨rfl,u1a,u1b,u1c⟩:=u1;obtain⟨v2,s2,-,-⟩:=DataW.trod_int Tryz.underlying3 k2;obtain⟨a3,n3,c3,l3,b3,m3,d3,k_3,s3,⟨rfl,p0,p1,p2⟩,⟨rfl,q0,q1,q2⟩⟩:=Eq6 k3;obtain⟨v4,s4,-,-⟩:=DataW.trod_int Tryz.underlying3 k4;obtain⟨v5,s5,-,-⟩:=DataW.trod_int Tryz.underlying3 k5;obtain⟨v6,s6,-,-⟩:=DataW.trod_int Tryz.underlying3 k6;obtain⟨v7,s7,-,-⟩:=DataW.trod_int Tryz.underlying3 k7;obtain⟨v8,s8,-,-⟩:=DataW.trod_int Tryz.underlying3 k8;obtain⟨wt,wb,s9,wwf⟩:=Fe4 k9;obtain⟨r,s10,kc,ko,kp,hc,ho,hp,-⟩:=Ey4 k10;obtain⟨qm0,qm1,qm2,qm3,qa,qn,qc,ql,s11,-,-,-,-,⟨rfl,hq0,hq1,hq2⟩⟩:=Fe0 k11;obtain⟨v12,s12,-,-⟩:=DataW.trod_int Tryz.underlying3 k12;obtain⟨v13,s13,-,-⟩:=DataW.trod_int Tryz.underlying3 k13;obtain⟨a14,n14,c14,s14⟩:=Bi1 Tryz.underlying35 k14;rw[s14] at k14;obtain⟨l14,rfl,z14a,z14b,z14⟩:=Eg1 (enc:=enc) (w:=w) (d:=(xs[14]'(by omega)).1) (ps:=(xs[14]'(by omega)).2) ⟨n,k14⟩;obtain⟨hv,hs,s15,hh⟩:=Fe2 k15;obtain⟨a16,n16,c16,s16⟩:=Bi1 Tryz.underlying43 k16;rw[s16] at k16;obtain⟨l16,rfl,z16a,z16b,z16⟩:=Eq9 (enc:=enc) (w:=w) (d:=(xs[16]'(by omega)).1) (ps:=(xs[16]'(by omega)).2) ⟨n,k16⟩;obtain⟨a17,n17,c17,s17⟩:=Bi1 Tryz.underlying44 k17;rw[s17] at k17;obtain⟨l17,rfl,z17a,z17b,z17⟩:=Ey7 (enc:=enc) (w:=w) (d:=(xs[17]'(by omega)).1) (ps:=(xs[17]'(by omega)).2) ⟨n,k17⟩;obtain⟨cn0,cn1,cn2,cn3,s18⟩:=Fe3 k18;have e:cs.drop 0=[.int .i64 v0]++([.slice a1 l1.length c1]++([.int .i64 v2]++([.slice a3 l3.length c3,.slice b3 k_3.length d3]++([.int .i64 v4]++([.int .i64 v5]++([.int .i64 v6]++([.int .i64 v7]++([.int .i64 v8]++(D0 wt wb++(r.L++([.int .i64 qm0,.int .i64 qm1,.int .i64 qm2,.int .i64 qm3,.slice qa ql.length qc]++([.int .i64 v12]++([.int .i64 v13]++([.slice a14 l14.length c14]++(hv.L++([.slice a16 l16.length c16]++([.slice a17 l17.length c17]++([.int .i64 cn0,.int .i64 cn1,.int .i64 cn2,.int .i64 cn3]++[])))))))))))))))))):=O1 (m:=1) s0 rfl (O1 (m:=2) s1 rfl (O1 (m:=3) s2 rfl (O1 (m:=5) s3 rfl (O1 (m:=6) s4 rfl (O1 (m:=7) s5 rfl (O1 (m:=8) s6 rfl (O1 (m:=9) s7 rfl (O1 (m:=10) s8 rfl (O1 (m:=27) s9 rfl (O1 (m:=35) s10 rfl (O1 (m:=40) s11 rfl (O1 (m:=41) s12 rfl (O1 (m:=42) s13 rfl (O1 (m:=43) s14 rfl (O1 (m:=64) s15 rfl (O1 (m:=65) s16 rfl (O1 (m:=66) s17 rfl (O1 (m:=70) s18 rfl ((by rw[List.drop_eq_nil_iff];omega:cs.drop 70=[]))))))))))))))))))));refine⟨{id:=v0,k:=⟨a1,c1,l1⟩,ph:=v2,s1:=⟨a3,c3,l3⟩,s2:=⟨b3,d3,k_3⟩,pw:=v4,own:=v5,oth:=v6,seen:=v7,seq:=v8,wt:=wt,wb:=wb,r:=r,kc:=kc,ko:=ko,kp:=kp,q:=⟨qm0,qm1,qm2,qm3,ql⟩,qa:=qa,qc:=qc,stan:=v12,day:=v13,ua:=a14,uc:=c14,u:=l14,h:=hv,hs:=hs,oa:=a16,oc:=c16,o:=l16,ga:=a17,gc:=c17,g:=l17,c0:=cn0,c1:=cn1,c2:=cn2,c3:=cn3},e.trans rfl,?_⟩;exact⟨⟨u1c,u1a,u1b⟩,⟨p2,p0,p1⟩,⟨q2,q0,q1⟩,⟨hc.1,hc.2.2.2,ho.1,ho.2.2.2,hp.1,hp.2.2.2⟩,⟨hc.2.1,hc.2.2.1⟩,⟨ho.2.1,ho.2.2.1⟩,⟨hp.2.1,hp.2.2.1⟩,hq2,⟨hq0,hq1⟩,z14,⟨z14a,z14b⟩,hh,fun i hi=>Nat.le_trans (hh i hi).le (hh i hi).cap,z16,⟨z16a,z16b⟩,z17,⟨z17a,z17b⟩,by simp[Lit.wf,IntKind.min,IntKind.max,IntKind.bits,IntKind.signed] at wwf;omega⟩
theorem Eg2{fuel:Nat}{cs:List Value}{x:DataW H×List MemPlace}(h:DataW.trod enc Tryz.prog w 0 (fun _=>true) true fuel 49 cs=some x):∃(i f:Bool) (ta:Option Addr) (tc:Nat) (es:List Ent),cs=[.bool i,.slice ta es.length tc,.bool f]∧X7 w ta es∧es.length≤tc∧tc≤maxLen:=by
 obtain⟨xs,n,rfl,hx,hl,hxl,hg⟩:=DataW.trod_struct Tryz.underlying49 h;have hxl':xs.length=3:=hxl;have e_LapiEntry:Tryz.prog.cellsOf 47=1:=by kernel_rfl
 have e_bool:Tryz.prog.cellsOf 4=1:=by kernel_rfl
 have eN:Tryz.prog.cellsOf 49=3:=by kernel_rfl
 have hl':cs.length=3:=by rw[←eN];exact hl
 have k0:DataW.trod enc Tryz.prog w 0 (fun _=>true) true n 4 ((cs.drop 0).take (Tryz.prog.cellsOf 4))=some (xs[0]'(by omega)):=by
  have:=hg 0 _ rfl;rw[List.getElem?_eq_getElem (by omega:0<xs.length)] at this;exact this
 rw[e_bool] at k0;have k1:DataW.trod enc Tryz.prog w 0 (fun _=>true) true n 47 ((cs.drop 1).take (Tryz.prog.cellsOf 47))=some (xs[1]'(by omega)):=by
  have:=hg 1 _ rfl;rw[List.getElem?_eq_getElem (by omega:1<xs.length)] at this;exact this
 rw[e_LapiEntry] at k1;have k2:DataW.trod enc Tryz.prog w 0 (fun _=>true) true n 4 ((cs.drop 2).take (Tryz.prog.cellsOf 4))=some (xs[2]'(by omega)):=by
  have:=hg 2 _ rfl;rw[List.getElem?_eq_getElem (by omega:2<xs.length)] at this;exact this
 rw[e_bool] at k2;obtain⟨i,s0,-⟩:=DataW.trod_bool Tryz.underlying4 k0;obtain⟨a1,n1,c1,s1⟩:=Bi1 Tryz.underlying47 k1;rw[s1] at k1;obtain⟨es,rfl,z1,z2,z3⟩:=Er0 (enc:=enc) (w:=w) (d:=(xs[1]'(by omega)).1) (ps:=(xs[1]'(by omega)).2) ⟨n,k1⟩;obtain⟨f,s2,-⟩:=DataW.trod_bool Tryz.underlying4 k2;have e:cs.drop 0=[.bool i]++([.slice a1 es.length c1]++([.bool f]++[])):=O1 (m:=1) s0 rfl (O1 (m:=2) s1 rfl (O1 (m:=3) s2 rfl (by rw[List.drop_eq_nil_iff];omega)));exact⟨i,f,a1,c1,es,e.trans rfl,z3,z1,z2⟩
theorem Ey8{fuel:Nat}{cs:List Value}{x:DataW H×List MemPlace}(h:DataW.trod enc Tryz.prog w 0 (fun _=>true) true fuel 51 cs=some x):∃s:Sv,cs=A6 s∧Ae2 w s:=by
 obtain⟨xs,n,rfl,hx,hl,hxl,hg⟩:=DataW.trod_struct Tryz.underlying51 h;have hxl':xs.length=2:=hxl;have e_yettapiEnd:Tryz.prog.cellsOf 46=70:=by kernel_rfl
 have e_yettapiProv:Tryz.prog.cellsOf 49=3:=by kernel_rfl
 have eN:Tryz.prog.cellsOf 51=73:=by kernel_rfl
 have hl':cs.length=73:=by rw[←eN];exact hl
 have k0:DataW.trod enc Tryz.prog w 0 (fun _=>true) true n 46 ((cs.drop 0).take (Tryz.prog.cellsOf 46))=some (xs[0]'(by omega)):=by
  have:=hg 0 _ rfl;rw[List.getElem?_eq_getElem (by omega:0<xs.length)] at this;exact this
 rw[e_yettapiEnd] at k0;have k1:DataW.trod enc Tryz.prog w 0 (fun _=>true) true n 49 ((cs.drop 70).take (Tryz.prog.cellsOf 49))=some (xs[1]'(by omega)):=by
  have:=hg 1 _ rfl;rw[List.getElem?_eq_getElem (by omega:1<xs.length)] at this;exact this
 rw[e_yettapiProv] at k1;obtain⟨e,s0,he⟩:=Fe5 k0;obtain⟨i,f,ta,tc,es,s1,hp,h1,h2⟩:=Eg2 k1;have e':cs.drop 0=A7 e++([.bool i,.slice ta es.length tc,.bool f]++[]):=O1 (m:=70) s0 rfl (O1 (m:=73) s1 rfl (by rw[List.drop_eq_nil_iff];omega));exact⟨⟨e,i,f,ta,tc,es⟩,e'.trans (by rw[List.append_nil];rfl),he,hp,h1,h2⟩
end
end Go.Proofs.YtadpiemjgfndgaaGreatDoor
