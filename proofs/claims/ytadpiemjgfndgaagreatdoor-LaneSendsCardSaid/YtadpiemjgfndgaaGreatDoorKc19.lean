/- Proved here, for use further on: LeF LeG LeH LeI LeJ2. Conditions: none but those each theorem names. -/
import Derived.Test.YtadpiemjgfndgaaGreatDoorKc00
import Derived.Test.YtadpiemjgfndgaaGreatDoorKc18
import Derived.Test.YtadpiemjgfndgaaGreatDoorKc12
import Derived.Test.YtadpiemjgfndgaaGreatDoorKc04
import Derived.Deep.DeepCutAuto
import Derived.Test.YtadpiemjgfndgaaGreatDoorKc13
import Derived.Test.YtadpiemjgfndgaaGreatDoorKc11
import Derived.Test.YtadpiemjgfndgaaGreatDoorKc17
set_option linter.unusedSimpArgs false
set_option linter.unusedVariables false
set_option maxRecDepth 100000
set_option maxHeartbeats 8000000
namespace Go.Proofs.YtadpiemjgfndgaaGreatDoor
open Go.RowKit
def Bf3(e:Ev):Bool:=(e.wt==0)&&(List.range 16).all fun i=>e.wb i==T6 i
def Bl0(e:Ev):Bool:=Aj1 e.r.c e.r.o e.r.p e.r.l e.r.t
def As4(e:Ev):Bool:=(e.seq==0)&&(Bf3 e&&Bl0 e)
def Bd5(e:Ev):Bool:=(e.q.code==Ad7 e.ph) || ((e.ph==3)&&(e.q.code==301))
def Y4(e:Ev):Bool:=Bd5 e&&(bif U7 e.ph then decide (0<e.own∧0<e.oth∧0<e.r.c.no∧(e.ph≠4∨0<e.r.p.no)) else bif e.ph==1 then decide (0<e.own∧e.oth=0)&&As4 e else decide (e.own=0∧e.oth=0)&&As4 e)
theorem Cy0{w:World}{r:Rg}{kc ko kp:List UInt8}(h:Az7 w r kc ko kp):U2 r R0 kc ko kp [] [] []=Aj1 r.c r.o r.p r.l r.t:=by
 have e1:∀(k:List UInt8),(k==[])=((k.length:Int)==0):=fun k=>by cases k<;>simp<;>omega
 unfold U2 Ac2 Aj1 U9;rw[h.lc,h.lo,h.lp,e1,e1,e1]
theorem By4(w:World):Az7 w R0 [] [] []:=⟨rfl,.inl rfl,rfl,.inl rfl,rfl,.inl rfl⟩
theorem Cb7(p:Int)(w:World):Calls Tryz.prog 164 #[.int .i64 p] w fun e w'=>e=.returned (.int .i64 (Ad7 p))∧Below w.heap.size w w':=(Co5 p w).mono fun e w' h=>⟨h.1,h.2▸Below.refl _ _⟩
theorem Cb8(e:Ev)(w:World):(Op.equalIn 10000 28 (.agg (D5 e.wt e.wb).toArray) (.agg (Bs7 0))).run Tryz.prog w=.ok (Bf3 e) w:=by
 rw[Ax1,Bz6];rfl
theorem Da5{e:Ev}{l:Bool}(hl:U7 e.ph=l)(b:Bool)(h:b=true↔(0<e.own∧0<e.oth∧0<e.r.c.no∧Bd5 e=true∧(e.ph≠4∨0<e.r.p.no)))(ht:l=true):b=Y4 e:=by
 subst ht;unfold Y4;rw[hl,Bool.eq_iff_iff,h];simp only[Bool.and_eq_true,cond_true,decide_eq_true_eq];exact⟨fun⟨a,b,c,d,e⟩=>⟨d,a,b,c,e⟩,fun⟨d,a,b,c,e⟩=>⟨a,b,c,d,e⟩⟩
theorem Ed1{e:Ev}(hp:e.ph=1)(b:Bool)(h:b=true↔(0<e.own∧e.oth=0∧As4 e=true∧Bd5 e=true)):b=Y4 e:=by
 unfold Y4;rw[show U7 e.ph=false by rw[hp];rfl,show(e.ph==1)=true by rw[hp];rfl,Bool.eq_iff_iff,h];simp only[Bool.and_eq_true,cond_true,cond_false,decide_eq_true_eq];exact⟨fun⟨a,b,c,d⟩=>⟨d,⟨a,b⟩,c⟩,fun⟨d,⟨a,b⟩,c⟩=>⟨a,b,c,d⟩⟩
theorem Ed2{e:Ev}(hl:U7 e.ph=false)(hp:e.ph≠1)(b:Bool)(h:b=true↔(e.own=0∧e.oth=0∧As4 e=true∧Bd5 e=true)):b=Y4 e:=by
 unfold Y4;rw[hl,show(e.ph==1)=false by rw[beq_eq_false_iff_ne];exact hp,Bool.eq_iff_iff,h];simp only[Bool.and_eq_true,cond_false,decide_eq_true_eq];exact⟨fun⟨a,b,c,d⟩=>⟨d,⟨a,b⟩,c⟩,fun⟨d,⟨a,b⟩,c⟩=>⟨a,b,c,d⟩⟩
noncomputable def As0:{ops:Array Oper//(Tryz.f99.body.bind (M8 2))=some (.region 2 ops true)}:=⟨_,rfl⟩
abbrev V6:List Nat:=[20,21,22,23,24,25,26,27,28,29,30,31,32,33,34,35,36,37,4]
theorem Bt2:opx As0.1 5=some (.call {callee:=.value (.func 164),args:=#[.tmp 24],argTypes:=#[3]},some 25,none):=by kernel_rfl
theorem Fl2{e:Ev}{n1:Nat}{a:Act}{w:World}{Q:Exit→Act→World→Prop}(hsz:104≤a.tmps.size)(e1:a.tmps.getD 1 undef=.pointer (some ⟨n1,0,none⟩))(hP:∀c a d v w,Q (.panic c) (Act.put a d v) w→Q (.panic c) a w)(B:A6 46 w n1 (A8 e))(h1:(e.q.code==Ad7 e.ph)=true)
 (hQ:∀{x20 x21 x22 x23 x24 x25 x26 x27 x28 x29 x30 x31 x32 x33 x34 x35 x36 x37} w',A6 46 w' n1 (A8 e)→Below w.heap.size w w'→Q .normal (C6 a V6 [x20,x21,x22,x23,x24,x25,x26,x27,x28,x29,x30,x31,x32,x33,x34,x35,x36,x37,.bool true]) w'):
 (Code.region 2 As0.1 true).wp Tryz.prog Q a w:=by
 have rG:Rgn As0.1 V6 a Q:=⟨fun k hk=>Nat.lt_of_lt_of_le ((by decide:∀k∈V6,k<104) k hk) hsz,by kernel_rfl,hP⟩;have hb:=rG.b;obtain⟨i,h0⟩:=U8 a V6;let S:World→Prop:=fun w'=>A6 46 w' n1 (A8 e);refine wp_region_held_drew (S:=S) (by kernel_rfl) (B.up (bd _)) fun hHeld=>?_;have N5:∀(u:World) (G:Below w.heap.size w u),wpAnyH Tryz.prog .any As0.1 Q S 0 (lm 19 524287) (C6 a V6 [pt n1 35,pt n1 35,i6 e.q.code,pt n1 2,i6 e.ph,i6 (Ad7 e.ph),.bool true,.bool true,undef,undef,undef,undef,undef,undef,undef,undef,undef,.bool true,.bool true]) u:=by
  intro u G;refine T4 ?_;exact hQ _ (B.up G) G
 have N0:∀(u:World) (G:Below w.heap.size w u),wpAnyH Tryz.prog .any As0.1 Q S 14 (lm 19 31) (C6 a V6 [pt n1 35,pt n1 35,i6 e.q.code,pt n1 2,i6 e.ph,i 25,i 26,i 27,i 28,i 29,i 30,i 31,i 32,i 33,i 34,i 35,i 36,i 37,i 4]) u:=by
  intro u G;refine D7 [5] (D0 rG Bt2 ?_ AllReadyH.nil);intro o hp hd;refine M0 hp (rG.ev1 (i6 e.ph)) (Cb7 e.ph _) ?_;rintro x u5 ⟨rfl,hb5⟩;refine⟨_,rfl,?_⟩;exact G8 rG [(6,26,.bool true),(7,27,.bool true),(8,28,undef),(9,29,undef),(10,30,undef),(11,31,undef),(12,32,undef),(13,33,undef),(14,34,undef),(15,35,undef),(16,36,undef),(17,37,.bool true),(18,4,.bool true)] hd (B.up (bt G hb5)) ⟨Af5 rfl h1,A9 rfl,C7,C7,C7,C7,Ay0,Ay0,Ay0,Ay0,C7,J3 rfl,Ak6 rfl,trivial⟩ (N5 _  (bt G hb5))
 exact M5 19 rG [(0,20,pt n1 35),(1,21,pt n1 35),(2,22,i6 e.q.code),(3,23,pt n1 2),(4,24,i6 e.ph)] h0 (B.up (bd _)) ⟨A7 rfl e1,A7 rfl,D8 rfl (fun w hw=>hw.blk.endIn.qcode),A7 rfl e1,D8 rfl (fun w hw=>hw.blk.endIn.ph),trivial⟩ (N0 _  (bd w))
theorem Fl3{e:Ev}{n1:Nat}{a:Act}{w:World}{Q:Exit→Act→World→Prop}(hsz:104≤a.tmps.size)(e1:a.tmps.getD 1 undef=.pointer (some ⟨n1,0,none⟩))(hP:∀c a d v w,Q (.panic c) (Act.put a d v) w→Q (.panic c) a w)(B:A6 46 w n1 (A8 e))(h1:(e.q.code==Ad7 e.ph)=false)(h2:(e.ph==3)=false)
 (hQ:∀{x20 x21 x22 x23 x24 x25 x26 x27 x28 x29 x30 x31 x32 x33 x34 x35 x36 x37} w',A6 46 w' n1 (A8 e)→Below w.heap.size w w'→Q .normal (C6 a V6 [x20,x21,x22,x23,x24,x25,x26,x27,x28,x29,x30,x31,x32,x33,x34,x35,x36,x37,.bool false]) w'):
 (Code.region 2 As0.1 true).wp Tryz.prog Q a w:=by
 have rG:Rgn As0.1 V6 a Q:=⟨fun k hk=>Nat.lt_of_lt_of_le ((by decide:∀k∈V6,k<104) k hk) hsz,by kernel_rfl,hP⟩;have hb:=rG.b;obtain⟨i,h0⟩:=U8 a V6;let S:World→Prop:=fun w'=>A6 46 w' n1 (A8 e);refine wp_region_held_drew (S:=S) (by kernel_rfl) (B.up (bd _)) fun hHeld=>?_;have N5:∀(u:World) (G:Below w.heap.size w u),wpAnyH Tryz.prog .any As0.1 Q S 0 (lm 19 524287) (C6 a V6 [pt n1 35,pt n1 35,i6 e.q.code,pt n1 2,i6 e.ph,i6 (Ad7 e.ph),.bool false,.bool false,pt n1 2,i6 e.ph,.bool false,.bool false,undef,undef,undef,undef,.bool false,.bool false,.bool false]) u:=by
  intro u G;refine T4 ?_;exact hQ _ (B.up G) G
 have N0:∀(u:World) (G:Below w.heap.size w u),wpAnyH Tryz.prog .any As0.1 Q S 14 (lm 19 31) (C6 a V6 [pt n1 35,pt n1 35,i6 e.q.code,pt n1 2,i6 e.ph,i 25,i 26,i 27,i 28,i 29,i 30,i 31,i 32,i 33,i 34,i 35,i 36,i 37,i 4]) u:=by
  intro u G;refine D7 [5] (D0 rG Bt2 ?_ AllReadyH.nil);intro o hp hd;refine M0 hp (rG.ev1 (i6 e.ph)) (Cb7 e.ph _) ?_;rintro x u5 ⟨rfl,hb5⟩;refine⟨_,rfl,?_⟩;exact G8 rG [(6,26,.bool false),(7,27,.bool false),(8,28,pt n1 2),(9,29,i6 e.ph),(10,30,.bool false),(11,31,.bool false),(12,32,undef),(13,33,undef),(14,34,undef),(15,35,undef),(16,36,.bool false),(17,37,.bool false),(18,4,.bool false)] hd (B.up (bt G hb5)) ⟨Af5 rfl h1,A9 rfl,A7 rfl e1,D8 rfl (fun w hw=>hw.blk.endIn.ph),Af5 rfl h2,A9 rfl,C7,C7,C7,C7,J3 rfl,J3 rfl,Ak6 rfl,trivial⟩ (N5 _  (bt G hb5))
 exact M5 19 rG [(0,20,pt n1 35),(1,21,pt n1 35),(2,22,i6 e.q.code),(3,23,pt n1 2),(4,24,i6 e.ph)] h0 (B.up (bd _)) ⟨A7 rfl e1,A7 rfl,D8 rfl (fun w hw=>hw.blk.endIn.qcode),A7 rfl e1,D8 rfl (fun w hw=>hw.blk.endIn.ph),trivial⟩ (N0 _  (bd w))
theorem Fl4{e:Ev}{n1:Nat}{a:Act}{w:World}{Q:Exit→Act→World→Prop}(hsz:104≤a.tmps.size)(e1:a.tmps.getD 1 undef=.pointer (some ⟨n1,0,none⟩))(hP:∀c a d v w,Q (.panic c) (Act.put a d v) w→Q (.panic c) a w)(B:A6 46 w n1 (A8 e))(h1:(e.q.code==Ad7 e.ph)=false)(h2:(e.ph==3)=true)(h3:(e.q.code==301)=false)
 (hQ:∀{x20 x21 x22 x23 x24 x25 x26 x27 x28 x29 x30 x31 x32 x33 x34 x35 x36 x37} w',A6 46 w' n1 (A8 e)→Below w.heap.size w w'→Q .normal (C6 a V6 [x20,x21,x22,x23,x24,x25,x26,x27,x28,x29,x30,x31,x32,x33,x34,x35,x36,x37,.bool false]) w'):
 (Code.region 2 As0.1 true).wp Tryz.prog Q a w:=by
 have rG:Rgn As0.1 V6 a Q:=⟨fun k hk=>Nat.lt_of_lt_of_le ((by decide:∀k∈V6,k<104) k hk) hsz,by kernel_rfl,hP⟩;have hb:=rG.b;obtain⟨i,h0⟩:=U8 a V6;let S:World→Prop:=fun w'=>A6 46 w' n1 (A8 e);refine wp_region_held_drew (S:=S) (by kernel_rfl) (B.up (bd _)) fun hHeld=>?_;have N5:∀(u:World) (G:Below w.heap.size w u),wpAnyH Tryz.prog .any As0.1 Q S 0 (lm 19 524287) (C6 a V6 [pt n1 35,pt n1 35,i6 e.q.code,pt n1 2,i6 e.ph,i6 (Ad7 e.ph),.bool false,.bool false,pt n1 2,i6 e.ph,.bool true,.bool true,pt n1 35,pt n1 35,i6 e.q.code,.bool false,.bool false,.bool false,.bool false]) u:=by
  intro u G;refine T4 ?_;exact hQ _ (B.up G) G
 have N0:∀(u:World) (G:Below w.heap.size w u),wpAnyH Tryz.prog .any As0.1 Q S 14 (lm 19 31) (C6 a V6 [pt n1 35,pt n1 35,i6 e.q.code,pt n1 2,i6 e.ph,i 25,i 26,i 27,i 28,i 29,i 30,i 31,i 32,i 33,i 34,i 35,i 36,i 37,i 4]) u:=by
  intro u G;refine D7 [5] (D0 rG Bt2 ?_ AllReadyH.nil);intro o hp hd;refine M0 hp (rG.ev1 (i6 e.ph)) (Cb7 e.ph _) ?_;rintro x u5 ⟨rfl,hb5⟩;refine⟨_,rfl,?_⟩;exact G8 rG [(6,26,.bool false),(7,27,.bool false),(8,28,pt n1 2),(9,29,i6 e.ph),(10,30,.bool true),(11,31,.bool true),(12,32,pt n1 35),(13,33,pt n1 35),(14,34,i6 e.q.code),(15,35,.bool false),(16,36,.bool false),(17,37,.bool false),(18,4,.bool false)] hd (B.up (bt G hb5)) ⟨Af5 rfl h1,A9 rfl,A7 rfl e1,D8 rfl (fun w hw=>hw.blk.endIn.ph),Af5 rfl h2,A9 rfl,A7 rfl e1,A7 rfl,D8 rfl (fun w hw=>hw.blk.endIn.qcode),Af5 rfl h3,J3 rfl,J3 rfl,Ak6 rfl,trivial⟩ (N5 _  (bt G hb5))
 exact M5 19 rG [(0,20,pt n1 35),(1,21,pt n1 35),(2,22,i6 e.q.code),(3,23,pt n1 2),(4,24,i6 e.ph)] h0 (B.up (bd _)) ⟨A7 rfl e1,A7 rfl,D8 rfl (fun w hw=>hw.blk.endIn.qcode),A7 rfl e1,D8 rfl (fun w hw=>hw.blk.endIn.ph),trivial⟩ (N0 _  (bd w))
theorem Fl5{e:Ev}{n1:Nat}{a:Act}{w:World}{Q:Exit→Act→World→Prop}(hsz:104≤a.tmps.size)(e1:a.tmps.getD 1 undef=.pointer (some ⟨n1,0,none⟩))(hP:∀c a d v w,Q (.panic c) (Act.put a d v) w→Q (.panic c) a w)(B:A6 46 w n1 (A8 e))(h1:(e.q.code==Ad7 e.ph)=false)(h2:(e.ph==3)=true)(h3:(e.q.code==301)=true)
 (hQ:∀{x20 x21 x22 x23 x24 x25 x26 x27 x28 x29 x30 x31 x32 x33 x34 x35 x36 x37} w',A6 46 w' n1 (A8 e)→Below w.heap.size w w'→Q .normal (C6 a V6 [x20,x21,x22,x23,x24,x25,x26,x27,x28,x29,x30,x31,x32,x33,x34,x35,x36,x37,.bool true]) w'):
 (Code.region 2 As0.1 true).wp Tryz.prog Q a w:=by
 have rG:Rgn As0.1 V6 a Q:=⟨fun k hk=>Nat.lt_of_lt_of_le ((by decide:∀k∈V6,k<104) k hk) hsz,by kernel_rfl,hP⟩;have hb:=rG.b;obtain⟨i,h0⟩:=U8 a V6;let S:World→Prop:=fun w'=>A6 46 w' n1 (A8 e);refine wp_region_held_drew (S:=S) (by kernel_rfl) (B.up (bd _)) fun hHeld=>?_;have N5:∀(u:World) (G:Below w.heap.size w u),wpAnyH Tryz.prog .any As0.1 Q S 0 (lm 19 524287) (C6 a V6 [pt n1 35,pt n1 35,i6 e.q.code,pt n1 2,i6 e.ph,i6 (Ad7 e.ph),.bool false,.bool false,pt n1 2,i6 e.ph,.bool true,.bool true,pt n1 35,pt n1 35,i6 e.q.code,.bool true,.bool true,.bool true,.bool true]) u:=by
  intro u G;refine T4 ?_;exact hQ _ (B.up G) G
 have N0:∀(u:World) (G:Below w.heap.size w u),wpAnyH Tryz.prog .any As0.1 Q S 14 (lm 19 31) (C6 a V6 [pt n1 35,pt n1 35,i6 e.q.code,pt n1 2,i6 e.ph,i 25,i 26,i 27,i 28,i 29,i 30,i 31,i 32,i 33,i 34,i 35,i 36,i 37,i 4]) u:=by
  intro u G;refine D7 [5] (D0 rG Bt2 ?_ AllReadyH.nil);intro o hp hd;refine M0 hp (rG.ev1 (i6 e.ph)) (Cb7 e.ph _) ?_;rintro x u5 ⟨rfl,hb5⟩;refine⟨_,rfl,?_⟩;exact G8 rG [(6,26,.bool false),(7,27,.bool false),(8,28,pt n1 2),(9,29,i6 e.ph),(10,30,.bool true),(11,31,.bool true),(12,32,pt n1 35),(13,33,pt n1 35),(14,34,i6 e.q.code),(15,35,.bool true),(16,36,.bool true),(17,37,.bool true),(18,4,.bool true)] hd (B.up (bt G hb5)) ⟨Af5 rfl h1,A9 rfl,A7 rfl e1,D8 rfl (fun w hw=>hw.blk.endIn.ph),Af5 rfl h2,A9 rfl,A7 rfl e1,A7 rfl,D8 rfl (fun w hw=>hw.blk.endIn.qcode),Af5 rfl h3,J3 rfl,J3 rfl,Ak6 rfl,trivial⟩ (N5 _  (bt G hb5))
 exact M5 19 rG [(0,20,pt n1 35),(1,21,pt n1 35),(2,22,i6 e.q.code),(3,23,pt n1 2),(4,24,i6 e.ph)] h0 (B.up (bd _)) ⟨A7 rfl e1,A7 rfl,D8 rfl (fun w hw=>hw.blk.endIn.qcode),A7 rfl e1,D8 rfl (fun w hw=>hw.blk.endIn.ph),trivial⟩ (N0 _  (bd w))
theorem Eq7{e:Ev}{n1:Nat}{a:Act}{w:World}{Q:Exit→Act→World→Prop}(hsz:104≤a.tmps.size)(e1:a.tmps.getD 1 undef=.pointer (some ⟨n1,0,none⟩))(hP:∀c a d v w,Q (.panic c) (Act.put a d v) w→Q (.panic c) a w)(B:A6 46 w n1 (A8 e))
 (hQ:∀{x20 x21 x22 x23 x24 x25 x26 x27 x28 x29 x30 x31 x32 x33 x34 x35 x36 x37} w',A6 46 w' n1 (A8 e)→Below w.heap.size w w'→Q .normal (C6 a V6 [x20,x21,x22,x23,x24,x25,x26,x27,x28,x29,x30,x31,x32,x33,x34,x35,x36,x37,.bool (Bd5 e)]) w'):(Code.region 2 As0.1 true).wp Tryz.prog Q a w:=by
 unfold Bd5 at hQ;cases c1:(e.q.code==Ad7 e.ph) with
 | true=>rw[c1] at hQ;exact Fl2 hsz e1 hP B c1 hQ
 | false=>
   cases c2:(e.ph==3) with
   | false=>rw[c1,c2] at hQ;exact Fl3 hsz e1 hP B c1 c2 hQ
   | true=>
     cases c3:(e.q.code==301) with
     | false=>rw[c1,c2,c3] at hQ;exact Fl4 hsz e1 hP B c1 c2 c3 hQ
     | true=>rw[c1,c2,c3] at hQ;exact Fl5 hsz e1 hP B c1 c2 c3 hQ
theorem Cg9(e:Ev)(w:World)(h:Ae4 w e):Calls Tryz.prog 99 #[.agg (A8 e).toArray] w (F9 w (Y4 e)):=by
 have HR:=Lh (fun(W:World) (hb:Below w.heap.size w W)=>(show Calls Tryz.prog 105 #[e.r.v,R0.v] W fun x w'=>x=.returned (.bool (Bl0 e))∧Below W.heap.size W w' from by
  have k:=Bv5 e.r R0 e.kc e.ko e.kp [] [] [] W (h.r.mono hb) (By4 W);rw[Cy0 h.r] at k;exact k))
 have HZ:=Lh (Cb8 e);have HI:=Lh S5;have HJ:=Lh Ab7;go_enter Tryz.func99,Tryz.ntmps99
 go_upto_region 1 with(fail)
 generalize hW:World.alloc w _=W;have B:=Lh (show A6 46 W w.heap.size (A8 e) by rw[←hW];exact A6.new w (A8 e) _);have G:=Lh (show Below w.heap.size w W by rw[←hW];exact ba w _);clear hW h;generalize hn1:w.heap.size=n1 at B ⊢;clear hn1;go_cut [3] (fun v3 wx=>v3=.bool (As4 e)∧A6 46 wx n1 (A8 e)∧Below w.heap.size w wx)
 case first=>
  have g9:=B.out.blk.endIn.seq;have gw:=B.out.blk.endIn.at_w;have gr:=B.out.blk.endIn.at_r;have GW:=Lh gw;have GR:=Lh gr;clear gw gr;by_cases hs:e.seq=0
  ·have s0:(e.seq==0)=true:=by rw[hs];rfl
   have hz:=HZ.out;have HQ:=Lh (show As4 e=(Bf3 e&&Bl0 e) by unfold As4;rw[s0,Bool.true_and]);generalize Bf3 e=Z at hz HQ;rw[hs] at g9;clear hs s0 HZ;rcases Z with _ | _
   ·go_wp2_with (first
     | (refine C9 28 (.tmp 9) n1 10 (by first | rfl | simp[Region.wanted,yielded]) rfl rfl GW.out Tryz.underlying28 rfl (by rw[G6];exact HI.out) ?_)
     | (refine C9 32 (.tmp 15) n1 27 (by first | rfl | simp[Region.wanted,yielded]) rfl rfl GR.out Tryz.underlying32 rfl HJ.out ?_))
    go_meet
    exact⟨by rw[HQ.out];rfl,B.out,G.out⟩
   ·go_wp2_with (first
     | (refine C9 28 (.tmp 9) n1 10 (by first | rfl | simp[Region.wanted,yielded]) rfl rfl GW.out Tryz.underlying28 rfl (by rw[G6];exact HI.out) ?_)
     | (refine C9 32 (.tmp 15) n1 27 (by first | rfl | simp[Region.wanted,yielded]) rfl rfl GR.out Tryz.underlying32 rfl HJ.out ?_))
    refine(HR.out _ G.out).mono ?_;rintro x w2 ⟨rfl,hb⟩;go_wp2_with fail
    go_meet
    exact⟨by rw[HQ.out];rfl,B.out.up hb,bt G.out hb⟩
  ·have s0:(e.seq==0)=false:=by rw[beq_eq_false_iff_ne];exact hs
   have HQ:=Lh (show As4 e=false by unfold As4;rw[s0,Bool.false_and]);clear hs HZ;go_wp2_with fail
   go_meet
   exact⟨by rw[HQ.out],B.out,G.out⟩
 case rest=>
  obtain⟨rfl,hB,hG⟩:=hcut;replace B:=Lh hB;replace G:=Lh hG;clear hB hG HR HZ;go_upto_region 2 with(fail)
  refine Eq7 (e:=e) (Nat.le_refl _) rfl (fun _ _ d _ _ h=>by cases d<;>exact h) B.out ?_;intro _ _ _ _ _ _ _ _ _ _ _ _ _ _ _ _ _ _ w9 hB9 hb9;simp only[C6,Act.put,List.setIfInBounds_toArray,List.set_cons_zero,List.set_cons_succ];replace B:=Lh hB9;replace G:=Lh (bt G.out hb9);clear hB9 hb9;have g2:=B.out.blk.endIn.ph;have g6:=B.out.blk.endIn.own;have g7:=B.out.blk.endIn.oth;have gc:=B.out.blk.endIn.cno;have gp:=B.out.blk.endIn.pno;have H1:=Lh (Da5 (e:=e) rfl);have H2:=Lh (Ed1 (e:=e));have H3:=Lh (Ed2 (e:=e));have HK:=Lh (fun W=>Ak5 e.ph W);have HL:=Lh (show U7 e.ph=true↔(2≤e.ph∧e.ph≤6) by unfold U7;exact decide_eq_true_iff);generalize Bd5 e=q at H1 H2 H3 ⊢;generalize As4 e=bb at H2 H3 ⊢;generalize U7 e.ph=l at H1 H3 HK HL;rcases l with _ | _
  ·replace H3:=Lh (H3.out rfl);clear H1;by_cases hp:e.ph=1
   ·replace H2:=Lh (H2.out hp);have p1:(e.ph==1)=true:=by rw[hp];rfl
    clear H3 HL hp;rcases q with _ | _<;>rcases bb with _ | _;all_goals
     go_wp2_with fail
     refine(HK.out _).mono ?_;rintro x w2 ⟨rfl,rfl⟩;go_wp2_with fail
     all_goals
      go_ret;refine⟨I5 (H2.out _ ?_),G.out⟩
      (try simp only[Bool.false_eq_true,false_iff,true_iff,iff_true,iff_false,decide_eq_true_eq,decide_eq_false_iff_not,Bool.and_eq_true,Bool.or_eq_true,beq_iff_eq,beq_eq_false_iff_ne,bne_iff_ne,ne_eq,false_and,and_false,true_and,and_true,not_false_eq_true,not_true_eq_false] at *)<;>omega
   ·replace H3:=Lh (H3.out hp);have p1:(e.ph==1)=false:=by rw[beq_eq_false_iff_ne];exact hp
    clear H2 HL hp;rcases q with _ | _<;>rcases bb with _ | _;all_goals
     go_wp2_with fail
     refine(HK.out _).mono ?_;rintro x w2 ⟨rfl,rfl⟩;go_wp2_with fail
     all_goals
      go_ret;refine⟨I5 (H3.out _ ?_),G.out⟩
      (try simp only[Bool.false_eq_true,false_iff,true_iff,iff_true,iff_false,decide_eq_true_eq,decide_eq_false_iff_not,Bool.and_eq_true,Bool.or_eq_true,beq_iff_eq,beq_eq_false_iff_ne,bne_iff_ne,ne_eq,false_and,and_false,true_and,and_true,not_false_eq_true,not_true_eq_false] at *)<;>omega
  ·clear H2 H3;rcases q with _ | _;all_goals
    go_wp2_with fail
    refine(HK.out _).mono ?_;rintro x w2 ⟨rfl,rfl⟩;go_wp2_with fail
    all_goals
     go_ret;refine⟨I5 (H1.out _ ?_ (by first | rfl | trivial)),G.out⟩;clear H1 HL HK
     (try simp only[Bool.false_eq_true,false_iff,true_iff,iff_true,iff_false,decide_eq_true_eq,decide_eq_false_iff_not,Bool.and_eq_true,Bool.or_eq_true,beq_iff_eq,beq_eq_false_iff_ne,bne_iff_ne,ne_eq,false_and,and_false,true_and,and_true,not_false_eq_true,not_true_eq_false] at *)<;>omega
noncomputable def As1:{ops:Array Oper//(Tryz.f86.body.bind (M8 1))=some (.region 1 ops true)}:=⟨_,rfl⟩
abbrev V7:List Nat:=[5,6,7,8,9,10,11,12,13,14,15,16,17,18,19,20,21,22]
theorem Bt3:opx As1.1 5=some (.call {callee:=.value (.func 152),args:=#[.tmp 9],argTypes:=#[3]},some 10,none):=by kernel_rfl
theorem Fl6{e:Ev}{n1:Nat}{a:Act}{w:World}{Q:Exit→Act→World→Prop}(hsz:66≤a.tmps.size)(e1:a.tmps.getD 1 undef=.pointer (some ⟨n1,0,none⟩))(hP:∀c a d v w,Q (.panic c) (Act.put a d v) w→Q (.panic c) a w)(B:A6 46 w n1 (A8 e))(Hp:0≤e.ph∧e.ph≤8)(h1:(e.q.code != Ad7 e.ph)=false)
 (hQ:∀{x5 x6 x7 x8 x9 x10 x11 x12 x13 x14 x15 x16 x17 x18 x19 x20 x21} w',A6 46 w' n1 (A8 e)→Below w.heap.size w w'→Q .normal (C6 a V7 [x5,x6,x7,x8,x9,x10,x11,x12,x13,x14,x15,x16,x17,x18,x19,x20,x21,.bool false]) w'):
 (Code.region 1 As1.1 true).wp Tryz.prog Q a w:=by
 have rG:Rgn As1.1 V7 a Q:=⟨fun k hk=>Nat.lt_of_lt_of_le ((by decide:∀k∈V7,k<66) k hk) hsz,by kernel_rfl,hP⟩;have hb:=rG.b;obtain⟨i,h0⟩:=U8 a V7;let S:World→Prop:=fun w'=>A6 46 w' n1 (A8 e);refine wp_region_held_drew (S:=S) (by kernel_rfl) (B.up (bd _)) fun hHeld=>?_;have N5:∀(u:World) (G:Below w.heap.size w u),wpAnyH Tryz.prog .any As1.1 Q S 0 (lm 18 262143) (C6 a V7 [pt n1 35,pt n1 35,i6 e.q.code,pt n1 2,i6 e.ph,i6 (Ad7 e.ph),.bool false,.bool false,undef,undef,undef,undef,undef,undef,undef,undef,undef,.bool false]) u:=by
  intro u G;refine T4 ?_;exact hQ _ (B.up G) G
 have N0:∀(u:World) (G:Below w.heap.size w u),wpAnyH Tryz.prog .any As1.1 Q S 13 (lm 18 31) (C6 a V7 [pt n1 35,pt n1 35,i6 e.q.code,pt n1 2,i6 e.ph,i 10,i 11,i 12,i 13,i 14,i 15,i 16,i 17,i 18,i 19,i 20,i 21,i 22]) u:=by
  intro u G;refine D7 [5] (D0 rG Bt3 ?_ AllReadyH.nil);intro o hp hd;refine M0 hp (rG.ev1 (i6 e.ph)) (Bd9 e.ph Hp _) ?_;rintro x u5 ⟨rfl,hb5⟩;refine⟨_,rfl,?_⟩;exact G8 rG [(6,11,.bool false),(7,12,.bool false),(8,13,undef),(9,14,undef),(10,15,undef),(11,16,undef),(12,17,undef),(13,18,undef),(14,19,undef),(15,20,undef),(16,21,undef),(17,22,.bool false)] hd (B.up (bt G hb5)) ⟨Aa1 rfl h1,A9 rfl,C7,C7,C7,C7,Ay0,Ay0,Ay0,Ay0,C7,J3 rfl,trivial⟩ (N5 _  (bt G hb5))
 exact M5 18 rG [(0,5,pt n1 35),(1,6,pt n1 35),(2,7,i6 e.q.code),(3,8,pt n1 2),(4,9,i6 e.ph)] h0 (B.up (bd _)) ⟨A7 rfl e1,A7 rfl,D8 rfl (fun w hw=>hw.blk.endIn.qcode),A7 rfl e1,D8 rfl (fun w hw=>hw.blk.endIn.ph),trivial⟩ (N0 _  (bd w))
theorem Fl7{e:Ev}{n1:Nat}{a:Act}{w:World}{Q:Exit→Act→World→Prop}(hsz:66≤a.tmps.size)(e1:a.tmps.getD 1 undef=.pointer (some ⟨n1,0,none⟩))(hP:∀c a d v w,Q (.panic c) (Act.put a d v) w→Q (.panic c) a w)(B:A6 46 w n1 (A8 e))(Hp:0≤e.ph∧e.ph≤8)(h1:(e.q.code != Ad7 e.ph)=true)(h2:(e.ph != 3)=true)
 (hQ:∀{x5 x6 x7 x8 x9 x10 x11 x12 x13 x14 x15 x16 x17 x18 x19 x20 x21} w',A6 46 w' n1 (A8 e)→Below w.heap.size w w'→Q .normal (C6 a V7 [x5,x6,x7,x8,x9,x10,x11,x12,x13,x14,x15,x16,x17,x18,x19,x20,x21,.bool true]) w'):
 (Code.region 1 As1.1 true).wp Tryz.prog Q a w:=by
 have rG:Rgn As1.1 V7 a Q:=⟨fun k hk=>Nat.lt_of_lt_of_le ((by decide:∀k∈V7,k<66) k hk) hsz,by kernel_rfl,hP⟩;have hb:=rG.b;obtain⟨i,h0⟩:=U8 a V7;let S:World→Prop:=fun w'=>A6 46 w' n1 (A8 e);refine wp_region_held_drew (S:=S) (by kernel_rfl) (B.up (bd _)) fun hHeld=>?_;have N5:∀(u:World) (G:Below w.heap.size w u),wpAnyH Tryz.prog .any As1.1 Q S 0 (lm 18 262143) (C6 a V7 [pt n1 35,pt n1 35,i6 e.q.code,pt n1 2,i6 e.ph,i6 (Ad7 e.ph),.bool true,.bool true,pt n1 2,i6 e.ph,.bool true,.bool true,undef,undef,undef,undef,.bool true,.bool true]) u:=by
  intro u G;refine T4 ?_;exact hQ _ (B.up G) G
 have N0:∀(u:World) (G:Below w.heap.size w u),wpAnyH Tryz.prog .any As1.1 Q S 13 (lm 18 31) (C6 a V7 [pt n1 35,pt n1 35,i6 e.q.code,pt n1 2,i6 e.ph,i 10,i 11,i 12,i 13,i 14,i 15,i 16,i 17,i 18,i 19,i 20,i 21,i 22]) u:=by
  intro u G;refine D7 [5] (D0 rG Bt3 ?_ AllReadyH.nil);intro o hp hd;refine M0 hp (rG.ev1 (i6 e.ph)) (Bd9 e.ph Hp _) ?_;rintro x u5 ⟨rfl,hb5⟩;refine⟨_,rfl,?_⟩;exact G8 rG [(6,11,.bool true),(7,12,.bool true),(8,13,pt n1 2),(9,14,i6 e.ph),(10,15,.bool true),(11,16,.bool true),(12,17,undef),(13,18,undef),(14,19,undef),(15,20,undef),(16,21,.bool true),(17,22,.bool true)] hd (B.up (bt G hb5)) ⟨Aa1 rfl h1,A9 rfl,A7 rfl e1,D8 rfl (fun w hw=>hw.blk.endIn.ph),Aa1 rfl h2,A9 rfl,C7,C7,C7,C7,J3 rfl,J3 rfl,trivial⟩ (N5 _  (bt G hb5))
 exact M5 18 rG [(0,5,pt n1 35),(1,6,pt n1 35),(2,7,i6 e.q.code),(3,8,pt n1 2),(4,9,i6 e.ph)] h0 (B.up (bd _)) ⟨A7 rfl e1,A7 rfl,D8 rfl (fun w hw=>hw.blk.endIn.qcode),A7 rfl e1,D8 rfl (fun w hw=>hw.blk.endIn.ph),trivial⟩ (N0 _  (bd w))
theorem Fl8{e:Ev}{n1:Nat}{a:Act}{w:World}{Q:Exit→Act→World→Prop}(hsz:66≤a.tmps.size)(e1:a.tmps.getD 1 undef=.pointer (some ⟨n1,0,none⟩))(hP:∀c a d v w,Q (.panic c) (Act.put a d v) w→Q (.panic c) a w)(B:A6 46 w n1 (A8 e))(Hp:0≤e.ph∧e.ph≤8)(h1:(e.q.code != Ad7 e.ph)=true)(h2:(e.ph != 3)=false)(h3:(e.q.code != 301)=true)
 (hQ:∀{x5 x6 x7 x8 x9 x10 x11 x12 x13 x14 x15 x16 x17 x18 x19 x20 x21} w',A6 46 w' n1 (A8 e)→Below w.heap.size w w'→Q .normal (C6 a V7 [x5,x6,x7,x8,x9,x10,x11,x12,x13,x14,x15,x16,x17,x18,x19,x20,x21,.bool true]) w'):
 (Code.region 1 As1.1 true).wp Tryz.prog Q a w:=by
 have rG:Rgn As1.1 V7 a Q:=⟨fun k hk=>Nat.lt_of_lt_of_le ((by decide:∀k∈V7,k<66) k hk) hsz,by kernel_rfl,hP⟩;have hb:=rG.b;obtain⟨i,h0⟩:=U8 a V7;let S:World→Prop:=fun w'=>A6 46 w' n1 (A8 e);refine wp_region_held_drew (S:=S) (by kernel_rfl) (B.up (bd _)) fun hHeld=>?_;have N5:∀(u:World) (G:Below w.heap.size w u),wpAnyH Tryz.prog .any As1.1 Q S 0 (lm 18 262143) (C6 a V7 [pt n1 35,pt n1 35,i6 e.q.code,pt n1 2,i6 e.ph,i6 (Ad7 e.ph),.bool true,.bool true,pt n1 2,i6 e.ph,.bool false,.bool false,pt n1 35,pt n1 35,i6 e.q.code,.bool true,.bool true,.bool true]) u:=by
  intro u G;refine T4 ?_;exact hQ _ (B.up G) G
 have N0:∀(u:World) (G:Below w.heap.size w u),wpAnyH Tryz.prog .any As1.1 Q S 13 (lm 18 31) (C6 a V7 [pt n1 35,pt n1 35,i6 e.q.code,pt n1 2,i6 e.ph,i 10,i 11,i 12,i 13,i 14,i 15,i 16,i 17,i 18,i 19,i 20,i 21,i 22]) u:=by
  intro u G;refine D7 [5] (D0 rG Bt3 ?_ AllReadyH.nil);intro o hp hd;refine M0 hp (rG.ev1 (i6 e.ph)) (Bd9 e.ph Hp _) ?_;rintro x u5 ⟨rfl,hb5⟩;refine⟨_,rfl,?_⟩;exact G8 rG [(6,11,.bool true),(7,12,.bool true),(8,13,pt n1 2),(9,14,i6 e.ph),(10,15,.bool false),(11,16,.bool false),(12,17,pt n1 35),(13,18,pt n1 35),(14,19,i6 e.q.code),(15,20,.bool true),(16,21,.bool true),(17,22,.bool true)] hd (B.up (bt G hb5)) ⟨Aa1 rfl h1,A9 rfl,A7 rfl e1,D8 rfl (fun w hw=>hw.blk.endIn.ph),Aa1 rfl h2,A9 rfl,A7 rfl e1,A7 rfl,D8 rfl (fun w hw=>hw.blk.endIn.qcode),Aa1 rfl h3,J3 rfl,J3 rfl,trivial⟩ (N5 _  (bt G hb5))
 exact M5 18 rG [(0,5,pt n1 35),(1,6,pt n1 35),(2,7,i6 e.q.code),(3,8,pt n1 2),(4,9,i6 e.ph)] h0 (B.up (bd _)) ⟨A7 rfl e1,A7 rfl,D8 rfl (fun w hw=>hw.blk.endIn.qcode),A7 rfl e1,D8 rfl (fun w hw=>hw.blk.endIn.ph),trivial⟩ (N0 _  (bd w))
theorem Fl9{e:Ev}{n1:Nat}{a:Act}{w:World}{Q:Exit→Act→World→Prop}(hsz:66≤a.tmps.size)(e1:a.tmps.getD 1 undef=.pointer (some ⟨n1,0,none⟩))(hP:∀c a d v w,Q (.panic c) (Act.put a d v) w→Q (.panic c) a w)(B:A6 46 w n1 (A8 e))(Hp:0≤e.ph∧e.ph≤8)(h1:(e.q.code != Ad7 e.ph)=true)(h2:(e.ph != 3)=false)(h3:(e.q.code != 301)=false)
 (hQ:∀{x5 x6 x7 x8 x9 x10 x11 x12 x13 x14 x15 x16 x17 x18 x19 x20 x21} w',A6 46 w' n1 (A8 e)→Below w.heap.size w w'→Q .normal (C6 a V7 [x5,x6,x7,x8,x9,x10,x11,x12,x13,x14,x15,x16,x17,x18,x19,x20,x21,.bool false]) w'):
 (Code.region 1 As1.1 true).wp Tryz.prog Q a w:=by
 have rG:Rgn As1.1 V7 a Q:=⟨fun k hk=>Nat.lt_of_lt_of_le ((by decide:∀k∈V7,k<66) k hk) hsz,by kernel_rfl,hP⟩;have hb:=rG.b;obtain⟨i,h0⟩:=U8 a V7;let S:World→Prop:=fun w'=>A6 46 w' n1 (A8 e);refine wp_region_held_drew (S:=S) (by kernel_rfl) (B.up (bd _)) fun hHeld=>?_;have N5:∀(u:World) (G:Below w.heap.size w u),wpAnyH Tryz.prog .any As1.1 Q S 0 (lm 18 262143) (C6 a V7 [pt n1 35,pt n1 35,i6 e.q.code,pt n1 2,i6 e.ph,i6 (Ad7 e.ph),.bool true,.bool true,pt n1 2,i6 e.ph,.bool false,.bool false,pt n1 35,pt n1 35,i6 e.q.code,.bool false,.bool false,.bool false]) u:=by
  intro u G;refine T4 ?_;exact hQ _ (B.up G) G
 have N0:∀(u:World) (G:Below w.heap.size w u),wpAnyH Tryz.prog .any As1.1 Q S 13 (lm 18 31) (C6 a V7 [pt n1 35,pt n1 35,i6 e.q.code,pt n1 2,i6 e.ph,i 10,i 11,i 12,i 13,i 14,i 15,i 16,i 17,i 18,i 19,i 20,i 21,i 22]) u:=by
  intro u G;refine D7 [5] (D0 rG Bt3 ?_ AllReadyH.nil);intro o hp hd;refine M0 hp (rG.ev1 (i6 e.ph)) (Bd9 e.ph Hp _) ?_;rintro x u5 ⟨rfl,hb5⟩;refine⟨_,rfl,?_⟩;exact G8 rG [(6,11,.bool true),(7,12,.bool true),(8,13,pt n1 2),(9,14,i6 e.ph),(10,15,.bool false),(11,16,.bool false),(12,17,pt n1 35),(13,18,pt n1 35),(14,19,i6 e.q.code),(15,20,.bool false),(16,21,.bool false),(17,22,.bool false)] hd (B.up (bt G hb5)) ⟨Aa1 rfl h1,A9 rfl,A7 rfl e1,D8 rfl (fun w hw=>hw.blk.endIn.ph),Aa1 rfl h2,A9 rfl,A7 rfl e1,A7 rfl,D8 rfl (fun w hw=>hw.blk.endIn.qcode),Aa1 rfl h3,J3 rfl,J3 rfl,trivial⟩ (N5 _  (bt G hb5))
 exact M5 18 rG [(0,5,pt n1 35),(1,6,pt n1 35),(2,7,i6 e.q.code),(3,8,pt n1 2),(4,9,i6 e.ph)] h0 (B.up (bd _)) ⟨A7 rfl e1,A7 rfl,D8 rfl (fun w hw=>hw.blk.endIn.qcode),A7 rfl e1,D8 rfl (fun w hw=>hw.blk.endIn.ph),trivial⟩ (N0 _  (bd w))
theorem Eq8{e:Ev}{n1:Nat}{a:Act}{w:World}{Q:Exit→Act→World→Prop}(hsz:66≤a.tmps.size)(e1:a.tmps.getD 1 undef=.pointer (some ⟨n1,0,none⟩))(hP:∀c a d v w,Q (.panic c) (Act.put a d v) w→Q (.panic c) a w)(B:A6 46 w n1 (A8 e))(Hp:0≤e.ph∧e.ph≤8)
 (hQ:∀{x5 x6 x7 x8 x9 x10 x11 x12 x13 x14 x15 x16 x17 x18 x19 x20 x21} w',A6 46 w' n1 (A8 e)→Below w.heap.size w w'→Q .normal (C6 a V7 [x5,x6,x7,x8,x9,x10,x11,x12,x13,x14,x15,x16,x17,x18,x19,x20,x21,.bool (!Bd5 e)]) w'):(Code.region 1 As1.1 true).wp Tryz.prog Q a w:=by
 unfold Bd5 at hQ;cases c1:(e.q.code==Ad7 e.ph) with
 | true=>rw[c1] at hQ;exact Fl6 hsz e1 hP B Hp (show(_ != _)=_ by rw[bne,c1];rfl) hQ
 | false=>
   cases c2:(e.ph==3) with
   | false=>rw[c1,c2] at hQ;exact Fl7 hsz e1 hP B Hp (show(_ != _)=_ by rw[bne,c1];rfl) (show(_ != _)=_ by rw[bne,c2];rfl) hQ
   | true=>
     cases c3:(e.q.code==301) with
     | false=>rw[c1,c2,c3] at hQ;exact Fl8 hsz e1 hP B Hp (show(_ != _)=_ by rw[bne,c1];rfl) (show(_ != _)=_ by rw[bne,c2];rfl) (show(_ != _)=_ by rw[bne,c3];rfl) hQ
     | true=>rw[c1,c2,c3] at hQ;exact Fl9 hsz e1 hP B Hp (show(_ != _)=_ by rw[bne,c1];rfl) (show(_ != _)=_ by rw[bne,c2];rfl) (show(_ != _)=_ by rw[bne,c3];rfl) hQ
def Br5(e:Ev):Bool:=(e.oth==0)&&As4 e
theorem Cy1(e:Ev)(w:World):Calls Tryz.prog 153 #[.agg (A8 e).toArray] w (F9 w (Br5 e)):=by
 have HR:=Lh (fun(W:World)=>(show Calls Tryz.prog 145 #[e.r.v] W fun x w'=>x=.returned (.bool (Bl0 e))∧Below W.heap.size W w' from At3 e.r.c e.r.o e.r.p e.r.l e.r.t W));have HZ:=Lh (Cb8 e);have HI:=Lh S5;have HJ:=Lh Ab7;have HB:=Lh (show Br5 e=((e.oth==0)&&((e.seq==0)&&(Bf3 e&&Bl0 e))) from rfl);go_enter Tryz.func153,Tryz.ntmps153
 go_upto_region 1 with(fail)
 generalize hW:World.alloc w _=W;have B:=Lh (show A6 46 W w.heap.size (A8 e) by rw[←hW];exact A6.new w (A8 e) _);have G:=Lh (show Below w.heap.size w W by rw[←hW];exact ba w _);clear hW;generalize hn1:w.heap.size=n1 at B ⊢;clear hn1;have GR:=Lh B.out.blk.endIn.at_r;go_wp2_with (refine C9 32 (.tmp 4) n1 27 (by first | rfl | simp[Region.wanted,yielded]) rfl rfl GR.out Tryz.underlying32 rfl HJ.out ?_)
 refine(HR.out _).mono ?_;rintro x w2 ⟨rfl,hb⟩;replace B:=Lh (B.out.up hb);replace G:=Lh (bt G.out hb);clear hb HR GR;have GW:=Lh B.out.blk.endIn.at_w;have g7:=B.out.blk.endIn.oth;have g9:=B.out.blk.endIn.seq;have hz:=HZ.out;generalize Bf3 e=Z at hz HB;generalize Bl0 e=R at HB ⊢;clear HZ B;rcases t0:(e.oth==0) with _ | _
 ·rw[t0,Bool.false_and] at HB;go_wp2_with fail
  go_ret;exact⟨I5 HB.out.symm,G.out⟩
 ·rw[t0,Bool.true_and] at HB;rcases s0:(e.seq==0) with _ | _
  ·rw[s0,Bool.false_and] at HB;go_wp2_with fail
   go_ret;exact⟨I5 HB.out.symm,G.out⟩
  ·rw[s0,Bool.true_and] at HB;rcases Z with _ | _;all_goals
    go_wp2_with (refine C9 28 (.tmp 16) n1 10 (by first | rfl | simp[Region.wanted,yielded]) rfl rfl GW.out Tryz.underlying28 rfl (by rw[G6];exact HI.out) ?_)
    go_ret;exact⟨I5 (by rw[HB.out];rfl),G.out⟩
theorem Ff4{e:Ev}(hl:U7 e.ph=false)(h0:0≤e.own)(b:Bool)(h:b=true↔(e.oth=0∧As4 e=true∧(0<e.own↔e.ph=1)∧Bd5 e=true)):b=Y4 e:=by
 by_cases hp:e.ph=1
 ·refine Ed1 hp b (h.trans ?_);exact⟨fun⟨a,b,c,d⟩=>⟨c.2 hp,a,b,d⟩,fun⟨a,b,c,d⟩=>⟨b,c,⟨fun _=>hp,fun _=>a⟩,d⟩⟩
 ·refine Ed2 hl hp b (h.trans ?_);exact⟨fun⟨a,b,c,d⟩=>⟨by rcases Int.lt_or_eq_of_le h0 with h | h;exact absurd (c.1 h) hp;exact h.symm,a,b,d⟩,fun⟨a,b,c,d⟩=>⟨b,c,⟨fun h=>by omega,fun h=>absurd h hp⟩,d⟩⟩
theorem Ff5{e:Ev}(h:Bd5 e=false):Y4 e=false:=by unfold Y4;rw[h];rfl
theorem Cb9(e:Ev)(w:World)(h0:0≤e.own)(hp:0≤e.ph∧e.ph≤8):Calls Tryz.prog 86 #[.agg (A8 e).toArray] w (F9 w (Y4 e)):=by
 have Hp:=Lh hp;have H0:=Lh h0;have HI:=Lh Q1;have HBr:=Lh (fun W=>Cy1 e W);clear hp h0;go_enter Tryz.func86,Tryz.ntmps86
 go_upto_region 1 with(fail)
 generalize hW:World.alloc w _=W;have B:=Lh (show A6 46 W w.heap.size (A8 e) by rw[←hW];exact A6.new w (A8 e) _);have G:=Lh (show Below w.heap.size w W by rw[←hW];exact ba w _);clear hW;generalize hn1:w.heap.size=n1 at B ⊢;clear hn1;refine Eq8 (e:=e) (Nat.le_refl _) rfl (fun _ _ d _ _ h=>by cases d<;>exact h) B.out Hp.out ?_;intro _ _ _ _ _ _ _ _ _ _ _ _ _ _ _ _ _ w9 hB9 hb9;simp only[C6,Act.put,List.setIfInBounds_toArray,List.set_cons_zero,List.set_cons_succ];replace B:=Lh hB9;replace G:=Lh (bt G.out hb9);clear hB9 hb9;have HF:=Lh (Ff5 (e:=e));have H1:=Lh (Da5 (e:=e) rfl);have H3:=Lh (fun h=>Ff4 (e:=e) h H0.out);have HK:=Lh (fun W=>Bp3 e.ph W);generalize Bd5 e=q at HF H1 H3 ⊢;rcases q with _ | _
 ·replace HF:=Lh (HF.out rfl);clear H1 H3 HK;go_wp2_with fail
  go_ret;exact⟨I5 HF.out.symm,G.out⟩
 ·clear HF;go_wp2_with (refine J0 46 (.tmp 1) n1 (cs:=A8 e) (by first | rfl | simp[Region.wanted,yielded]) rfl rfl B.out.blk Tryz.underlying46 rfl (by rw[I1];exact HI.out) ?_)
  refine(HBr.out _).mono ?_;rintro x w2 ⟨rfl,hb⟩;replace B:=Lh (B.out.up hb);replace G:=Lh (bt G.out hb);clear hb HBr;have HBe:=Lh (show Br5 e=true↔(e.oth=0∧As4 e=true) by unfold Br5;simp);have g2:=B.out.blk.endIn.ph;have g6:=B.out.blk.endIn.own;have g7:=B.out.blk.endIn.oth;have gc:=B.out.blk.endIn.cno;have gp:=B.out.blk.endIn.pno;clear B;generalize Br5 e=bb at HBe ⊢;generalize As4 e=b2 at H3 HBe;generalize U7 e.ph=l at H1 H3 HK;go_wp2_with fail
  refine(HK.out _).mono ?_;rintro x w3 ⟨rfl,rfl⟩;rcases l with _ | _
  ·replace H3:=Lh (H3.out rfl);have hbe:=HBe.out;clear H1 HK HBe;rcases bb with _ | _
   ·have HF:=Lh (show false=Y4 e from H3.out false (by
     rcases b2 with _ | _
     ·simp
     ·have:¬e.oth=0:=fun h=>by simp[h] at hbe
      simp[this]))
    clear hbe H3;go_wp2_with fail
    all_goals
     go_ret;exact⟨I5 HF.out,G.out⟩
   ·have h2:e.oth=0∧b2=true:=hbe.1 rfl;obtain⟨ho,rfl⟩:=h2;have HO:=Lh ho;clear hbe ho;go_wp2_with fail
    all_goals
     go_ret;refine⟨I5 (H3.out _ ?_),G.out⟩;have ho:=HO.out
     (try simp only[Bool.false_eq_true,false_iff,true_iff,iff_true,iff_false,decide_eq_true_eq,decide_eq_false_iff_not,Bool.and_eq_true,Bool.or_eq_true,beq_iff_eq,beq_eq_false_iff_ne,bne_iff_ne,ne_eq,false_and,and_false,true_and,and_true,not_false_eq_true,not_true_eq_false,ho] at *)
     (try rw[Bool.eq_iff_iff])
     (try simp only[decide_eq_true_eq,beq_iff_eq])
  ·clear H3 HBe HK;go_wp2_with fail
   all_goals
    go_ret;refine⟨I5 (H1.out _ ?_ (by first | rfl | trivial)),G.out⟩;clear H1
    (try simp only[Bool.false_eq_true,false_iff,true_iff,iff_true,iff_false,decide_eq_true_eq,decide_eq_false_iff_not,Bool.and_eq_true,Bool.or_eq_true,beq_iff_eq,beq_eq_false_iff_ne,bne_iff_ne,ne_eq,false_and,and_false,true_and,and_true,not_false_eq_true,not_true_eq_false] at *)<;>omega
def Br6(e:Ev):Bool:=decide (0≤e.id∧e.id≤1)
def Br7(e:Ev):Bool:=decide (0≤e.ph∧e.ph≤8)
def Bt4(e:Ev):Bool:=Ad5 4611686018427387904 [e.own,e.oth,e.seen,e.seq]
def Ch0(e:Ev):Bool:=Ad5 999999 [e.stan,e.day]
def Az9(e:Ev):Bool:=decide (Ac4 e.wt e.wb)
def Ao2(e:Ev):Bool:=Af3 e.r.c e.r.o e.r.p e.r.l e.r.t
def Bd0(e:Ev):Bool:=Ah7 e.s1.l e.s2.l&&(Az9 e&&(Ao2 e&&(Ai8 e.q&&U1 e.h e.hs)))
def Bn9(e:Ev):Bool:=Br6 e&&(Br7 e&&(Bt4 e&&Ch0 e))
def X8(e:Ev):Bool:=Bn9 e&&(Bd0 e&&((e.k.l.length==32)&&(Ab0 e&&Y4 e)))
theorem Ax4{w:World}{e:Ev}(h:Ae4 w e):Bb4 w (.agg #[.slice e.s1.a e.s1.l.length e.s1.c,.slice e.s2.a e.s2.l.length e.s2.c]) e.s1.l e.s2.l:=⟨_,_,_,_,rfl,⟨h.s1.le,h.s1.max⟩,⟨h.s2.le,h.s2.max⟩,h.s1.b,h.s2.b⟩
theorem Ae4.qmax{w:World}{e:Ev}(h:Ae4 w e):e.q.body.length≤maxLen:=Nat.le_trans h.ql.1 h.ql.2
theorem Ae4.umax{w:World}{e:Ev}(h:Ae4 w e):e.u.length≤maxLen:=Nat.le_trans h.ul.1 h.ul.2
theorem Bd6(e:Ev)(w:World)(h:Ae4 w e):Calls Tryz.prog 42 #[.agg (A8 e).toArray] w (F9 w (X8 e)):=by
 have HE:=Lh (show(Tryz.prog.info? 46).map (·.size)=some (A8 e).length by rw[I1];exact Q1);have HS:=Lh Av7;have HW:=Lh (show(Tryz.prog.info? 28).map (·.size)=some (D5 e.wt e.wb).length by rw[G6];exact S5);have HR:=Lh Ab7;have HA:=Lh Bb8;have HH:=Lh Ac5;have N1:=Lh (fun(r:Bool) (hr:Br6 e=r)=>Bn8 (hi:=1) (l:=[e.id]) r (by rw[←hr];unfold Br6 Ad5;simp) 1 rfl (by decide));have N2:=Lh (fun(r:Bool) (hr:Br7 e=r)=>Bn8 (hi:=8) (l:=[e.ph]) r (by rw[←hr];unfold Br7 Ad5;simp) 1 rfl (by decide));have N3:=Lh (fun(r:Bool) (hr:Bt4 e=r)=>Bn8 (hi:=4611686018427387904) (l:=[e.own,e.oth,e.seen,e.seq]) r hr 4 rfl (by decide));have N4:=Lh (fun(r:Bool) (hr:Ch0 e=r)=>Bn8 (hi:=999999) (l:=[e.stan,e.day]) r hr 2 rfl (by decide));have P1:=Lh (fun(r:Bool) (hr:Ah7 e.s1.l e.s2.l=r) (W:World) (hb:Below w.heap.size w W)=>(show Calls Tryz.prog 93 #[.agg #[.slice e.s1.a e.s1.l.length e.s1.c,.slice e.s2.a e.s2.l.length e.s2.c]] W (F9 W r) from hr▸Cw6 _ _ _ W (Ax4 (h.mono hb))));have P2:=Lh (fun(r:Bool) (hr:Az9 e=r) (W:World)=>(show Calls Tryz.prog 94 #[.agg (D5 e.wt e.wb).toArray] W (F9 W r) from hr▸Co0 e.wt e.wb h.wt W));have P3:=Lh (fun(r:Bool) (hr:Ao2 e=r) (W:World)=>(show Calls Tryz.prog 95 #[.agg e.r.L.toArray] W (F9 W r) from hr▸Cs0 e.r.c e.r.o e.r.p e.r.l e.r.t W));have P4:=Lh (fun(r:Bool) (hr:Ai8 e.q=r) (W:World) (hb:Below w.heap.size w W)=>(show Calls Tryz.prog 96 #[.agg (M7 e.q e.qa e.qc).toArray] W (F9 W r) from hr▸Co4 e.q e.qa e.qc W h.qmax (h.q.mono hb)));have P5:=Lh (fun(r:Bool) (hr:U1 e.h e.hs=r) (W:World) (hb:Below w.heap.size w W)=>(show Calls Tryz.prog 97 #[.agg e.h.L.toArray] W (F9 W r) from hr▸Cr7 e.h e.hs W (h.h.mono hb)));have M1:=Lh (fun(r:Bool) (hr:Ab0 e=r) (W:World) (hb:Below w.heap.size w W)=>(show Calls Tryz.prog 98 #[.agg (A8 e).toArray] W (F9 W r) from hr▸Cm0 e W (h.u.mono hb) h.umax));have M2:=Lh (fun(r:Bool) (hr:Y4 e=r) (W:World) (hb:Below w.heap.size w W)=>(show Calls Tryz.prog 99 #[.agg (A8 e).toArray] W (F9 W r) from hr▸Cg9 e W (h.mono hb)));have HQ:=Lh (show X8 e=(Bn9 e&&(Bd0 e&&((e.k.l.length==32)&&(Ab0 e&&Y4 e)))) from rfl);have HP:=Lh (show Bd0 e=(Ah7 e.s1.l e.s2.l&&(Az9 e&&(Ao2 e&&(Ai8 e.q&&U1 e.h e.hs)))) from rfl);clear h;go_enter Tryz.func42,Tryz.ntmps42
 go_upto_region 1 with(fail)
 generalize hW:World.alloc w _=W;have B:=Lh (show A6 46 W w.heap.size (A8 e) by rw[←hW];exact A6.new w (A8 e) _);have G:=Lh (show Below w.heap.size w W by rw[←hW];exact ba w _);clear hW;generalize hn1:w.heap.size=n1 at B ⊢;clear hn1;go_cut [3] (fun v3 wx=>v3=.bool (Bn9 e)∧A6 46 wx n1 (A8 e)∧Below w.heap.size w wx)
 case first=>
  replace N1:=Lh (N1.out _ rfl);replace N2:=Lh (N2.out _ rfl);replace N3:=Lh (N3.out _ rfl);replace N4:=Lh (N4.out _ rfl);have HX:=Lh (show Bn9 e=(Br6 e&&(Br7 e&&(Bt4 e&&Ch0 e))) from rfl);generalize Br6 e=z1 at N1 HX;generalize Br7 e=z2 at N2 HX;generalize Bt4 e=z3 at N3 HX;generalize Ch0 e=z4 at N4 HX;have g0:=B.out.blk.endIn.id;go_wp2_with fail
  refine(N1.out _ _ rfl).mono ?_;rintro x w2 ⟨rfl,hb⟩;replace B:=Lh (B.out.up hb);replace G:=Lh (bt G.out hb);clear hb g0;rcases z1 with _ | _
  ·go_wp2_with fail
   go_meet
   exact⟨by simp only[HX.out,Bool.false_and,Bool.and_false,Bool.true_and,Bool.and_true],B.out,G.out⟩
  ·have g0:=B.out.blk.endIn.ph;go_wp2_with fail
   refine(N2.out _ _ rfl).mono ?_;rintro x w3 ⟨rfl,hb⟩;replace B:=Lh (B.out.up hb);replace G:=Lh (bt G.out hb);clear hb g0;rcases z2 with _ | _
   ·go_wp2_with fail
    go_meet
    exact⟨by simp only[HX.out,Bool.false_and,Bool.and_false,Bool.true_and,Bool.and_true],B.out,G.out⟩
   ·have g0:=B.out.blk.endIn.own;have g1:=B.out.blk.endIn.oth;have g2:=B.out.blk.endIn.seen;have g3:=B.out.blk.endIn.seq;go_wp2_with fail
    refine(N3.out _ _ rfl).mono ?_;rintro x w4 ⟨rfl,hb⟩;replace B:=Lh (B.out.up hb);replace G:=Lh (bt G.out hb);clear hb g0 g1 g2 g3;rcases z3 with _ | _
    ·go_wp2_with fail
     go_meet
     exact⟨by simp only[HX.out,Bool.false_and,Bool.and_false,Bool.true_and,Bool.and_true],B.out,G.out⟩
    ·have g0:=B.out.blk.endIn.stan;have g1:=B.out.blk.endIn.day;go_wp2_with fail
     refine(N4.out _ _ rfl).mono ?_;rintro x w5 ⟨rfl,hb⟩;replace B:=Lh (B.out.up hb);replace G:=Lh (bt G.out hb);clear hb g0 g1;go_wp2_with fail
     go_meet
     exact⟨by simp only[HX.out,Bool.false_and,Bool.and_false,Bool.true_and,Bool.and_true],B.out,G.out⟩
 case rest=>
  obtain⟨rfl,hB,hG⟩:=hcut;replace B:=Lh hB;replace G:=Lh hG;clear hB hG N1 N2 N3 N4;go_upto_region 2 with(fail)
  go_cut [4] (fun v4 wx=>v4=.bool (Bd0 e)∧A6 46 wx n1 (A8 e)∧Below w.heap.size w wx)
  case first=>
   clear M1 M2 HQ;replace P1:=Lh (P1.out _ rfl);replace P2:=Lh (P2.out _ rfl);replace P3:=Lh (P3.out _ rfl);replace P4:=Lh (P4.out _ rfl);replace P5:=Lh (P5.out _ rfl);have HX:=HP;clear HP;generalize Ah7 e.s1.l e.s2.l=z1 at P1 HX;generalize Az9 e=z2 at P2 HX;generalize Ao2 e=z3 at P3 HX;generalize Ai8 e.q=z4 at P4 HX;generalize U1 e.h e.hs=z5 at P5 HX;go_wp2_with (first
   | (refine C9 24 (.tmp 35) n1 3 (by first | rfl | simp[Region.wanted,yielded]) rfl rfl (B.out.blk.endIn.at_s) Tryz.underlying24 rfl HS.out ?_)
   | (refine C9 28 (.tmp 39) n1 10 (by first | rfl | simp[Region.wanted,yielded]) rfl rfl (B.out.blk.endIn.at_w) Tryz.underlying28 rfl HW.out ?_)
   | (refine C9 32 (.tmp 44) n1 27 (by first | rfl | simp[Region.wanted,yielded]) rfl rfl (B.out.blk.endIn.at_r) Tryz.underlying32 rfl HR.out ?_)
   | (refine C9 34 (.tmp 49) n1 35 (by first | rfl | simp[Region.wanted,yielded]) rfl rfl (B.out.blk.endIn.at_q) Tryz.underlying34 rfl HA.out ?_)
   | (refine C9 42 (.tmp 54) n1 43 (by first | rfl | simp[Region.wanted,yielded]) rfl rfl (B.out.blk.endIn.at_h) Tryz.underlying42 rfl HH.out ?_))
   refine(P1.out _ G.out).mono ?_;rintro x w2 ⟨rfl,hb⟩;replace B:=Lh (B.out.up hb);replace G:=Lh (bt G.out hb);clear hb;rcases z1 with _ | _
   ·go_wp2_with fail
    go_meet
    exact⟨by simp only[HX.out,Bool.false_and,Bool.and_false,Bool.true_and,Bool.and_true],B.out,G.out⟩
   ·go_wp2_with (first
   | (refine C9 24 (.tmp 35) n1 3 (by first | rfl | simp[Region.wanted,yielded]) rfl rfl (B.out.blk.endIn.at_s) Tryz.underlying24 rfl HS.out ?_)
   | (refine C9 28 (.tmp 39) n1 10 (by first | rfl | simp[Region.wanted,yielded]) rfl rfl (B.out.blk.endIn.at_w) Tryz.underlying28 rfl HW.out ?_)
   | (refine C9 32 (.tmp 44) n1 27 (by first | rfl | simp[Region.wanted,yielded]) rfl rfl (B.out.blk.endIn.at_r) Tryz.underlying32 rfl HR.out ?_)
   | (refine C9 34 (.tmp 49) n1 35 (by first | rfl | simp[Region.wanted,yielded]) rfl rfl (B.out.blk.endIn.at_q) Tryz.underlying34 rfl HA.out ?_)
   | (refine C9 42 (.tmp 54) n1 43 (by first | rfl | simp[Region.wanted,yielded]) rfl rfl (B.out.blk.endIn.at_h) Tryz.underlying42 rfl HH.out ?_))
    refine(P2.out _).mono ?_;rintro x w3 ⟨rfl,hb⟩;replace B:=Lh (B.out.up hb);replace G:=Lh (bt G.out hb);clear hb;rcases z2 with _ | _
    ·go_wp2_with fail
     go_meet
     exact⟨by simp only[HX.out,Bool.false_and,Bool.and_false,Bool.true_and,Bool.and_true],B.out,G.out⟩
    ·go_wp2_with (first
   | (refine C9 24 (.tmp 35) n1 3 (by first | rfl | simp[Region.wanted,yielded]) rfl rfl (B.out.blk.endIn.at_s) Tryz.underlying24 rfl HS.out ?_)
   | (refine C9 28 (.tmp 39) n1 10 (by first | rfl | simp[Region.wanted,yielded]) rfl rfl (B.out.blk.endIn.at_w) Tryz.underlying28 rfl HW.out ?_)
   | (refine C9 32 (.tmp 44) n1 27 (by first | rfl | simp[Region.wanted,yielded]) rfl rfl (B.out.blk.endIn.at_r) Tryz.underlying32 rfl HR.out ?_)
   | (refine C9 34 (.tmp 49) n1 35 (by first | rfl | simp[Region.wanted,yielded]) rfl rfl (B.out.blk.endIn.at_q) Tryz.underlying34 rfl HA.out ?_)
   | (refine C9 42 (.tmp 54) n1 43 (by first | rfl | simp[Region.wanted,yielded]) rfl rfl (B.out.blk.endIn.at_h) Tryz.underlying42 rfl HH.out ?_))
     refine(P3.out _).mono ?_;rintro x w4 ⟨rfl,hb⟩;replace B:=Lh (B.out.up hb);replace G:=Lh (bt G.out hb);clear hb;rcases z3 with _ | _
     ·go_wp2_with fail
      go_meet
      exact⟨by simp only[HX.out,Bool.false_and,Bool.and_false,Bool.true_and,Bool.and_true],B.out,G.out⟩
     ·go_wp2_with (first
   | (refine C9 24 (.tmp 35) n1 3 (by first | rfl | simp[Region.wanted,yielded]) rfl rfl (B.out.blk.endIn.at_s) Tryz.underlying24 rfl HS.out ?_)
   | (refine C9 28 (.tmp 39) n1 10 (by first | rfl | simp[Region.wanted,yielded]) rfl rfl (B.out.blk.endIn.at_w) Tryz.underlying28 rfl HW.out ?_)
   | (refine C9 32 (.tmp 44) n1 27 (by first | rfl | simp[Region.wanted,yielded]) rfl rfl (B.out.blk.endIn.at_r) Tryz.underlying32 rfl HR.out ?_)
   | (refine C9 34 (.tmp 49) n1 35 (by first | rfl | simp[Region.wanted,yielded]) rfl rfl (B.out.blk.endIn.at_q) Tryz.underlying34 rfl HA.out ?_)
   | (refine C9 42 (.tmp 54) n1 43 (by first | rfl | simp[Region.wanted,yielded]) rfl rfl (B.out.blk.endIn.at_h) Tryz.underlying42 rfl HH.out ?_))
      refine(P4.out _ G.out).mono ?_;rintro x w5 ⟨rfl,hb⟩;replace B:=Lh (B.out.up hb);replace G:=Lh (bt G.out hb);clear hb;rcases z4 with _ | _
      ·go_wp2_with fail
       go_meet
       exact⟨by simp only[HX.out,Bool.false_and,Bool.and_false,Bool.true_and,Bool.and_true],B.out,G.out⟩
      ·go_wp2_with (first
   | (refine C9 24 (.tmp 35) n1 3 (by first | rfl | simp[Region.wanted,yielded]) rfl rfl (B.out.blk.endIn.at_s) Tryz.underlying24 rfl HS.out ?_)
   | (refine C9 28 (.tmp 39) n1 10 (by first | rfl | simp[Region.wanted,yielded]) rfl rfl (B.out.blk.endIn.at_w) Tryz.underlying28 rfl HW.out ?_)
   | (refine C9 32 (.tmp 44) n1 27 (by first | rfl | simp[Region.wanted,yielded]) rfl rfl (B.out.blk.endIn.at_r) Tryz.underlying32 rfl HR.out ?_)
   | (refine C9 34 (.tmp 49) n1 35 (by first | rfl | simp[Region.wanted,yielded]) rfl rfl (B.out.blk.endIn.at_q) Tryz.underlying34 rfl HA.out ?_)
   | (refine C9 42 (.tmp 54) n1 43 (by first | rfl | simp[Region.wanted,yielded]) rfl rfl (B.out.blk.endIn.at_h) Tryz.underlying42 rfl HH.out ?_))
       refine(P5.out _ G.out).mono ?_;rintro x w6 ⟨rfl,hb⟩;replace B:=Lh (B.out.up hb);replace G:=Lh (bt G.out hb);clear hb;go_wp2_with fail
       go_meet
       exact⟨by simp only[HX.out,Bool.false_and,Bool.and_false,Bool.true_and,Bool.and_true],B.out,G.out⟩
  case rest=>
   obtain⟨rfl,hB,hG⟩:=hcut;replace B:=Lh hB;replace G:=Lh hG;clear hB hG P1 P2 P3 P4 P5 HP;replace M1:=Lh (M1.out _ rfl);replace M2:=Lh (M2.out _ rfl);generalize Bn9 e=zn at HQ ⊢;generalize Bd0 e=zp at HQ ⊢;have HK:=Lh (show(e.k.l.length==32)=((e.k.l.length:Int)==32) by rw[Bool.eq_iff_iff];simp only[beq_iff_eq];omega);generalize Ab0 e=z1 at M1 HQ;generalize Y4 e=z2 at M2 HQ;rw[HK.out] at HQ;rcases zn with _ | _
   ·go_wp2_with fail
    go_ret;exact⟨I5 (by simp only[HQ.out,Bool.false_and]),G.out⟩
   rcases zp with _ | _
   ·go_wp2_with fail
    go_ret;exact⟨I5 (by simp only[HQ.out,Bool.false_and,Bool.and_false]),G.out⟩
   have gk:=B.out.blk.endIn.k;rcases hk:((e.k.l.length:Int)==32) with _ | _
   ·rw[hk] at HQ;go_wp2_with fail
    go_ret;exact⟨I5 (by simp only[HQ.out,Bool.false_and,Bool.and_false]),G.out⟩
   ·rw[hk] at HQ;go_wp2_with (first | (refine J0 46 (.tmp 1) n1 (cs:=A8 e) (by first | rfl | simp[Region.wanted,yielded]) rfl rfl B.out.blk Tryz.underlying46 rfl HE.out ?_))
    refine(M1.out _ G.out).mono ?_;rintro x w2 ⟨rfl,hb⟩;replace B:=Lh (B.out.up hb);replace G:=Lh (bt G.out hb);clear hb;rcases z1 with _ | _
    ·go_wp2_with fail
     go_ret;exact⟨I5 (by simp only[HQ.out,Bool.false_and,Bool.and_false,Bool.true_and,Bool.and_true]),G.out⟩
    ·go_wp2_with (first | (refine J0 46 (.tmp 1) n1 (cs:=A8 e) (by first | rfl | simp[Region.wanted,yielded]) rfl rfl B.out.blk Tryz.underlying46 rfl HE.out ?_))
     refine(M2.out _ G.out).mono ?_;rintro x w3 ⟨rfl,hb⟩;replace B:=Lh (B.out.up hb);replace G:=Lh (bt G.out hb);clear hb;go_wp2_with fail
     go_ret;exact⟨I5 (by simp only[HQ.out,Bool.false_and,Bool.and_false,Bool.true_and,Bool.and_true]),G.out⟩
def Cc0(e:Ev):Prop:=(0≤e.id∧e.id≤1)∧e.k.l.length=32∧(0≤e.ph∧e.ph≤8)∧(0≤e.stan∧e.stan≤999999)∧(0≤e.day∧e.day≤999999)
theorem Eq9{e:Ev}(h:¬Cc0 e):X8 e=false:=by
 rw[Bool.eq_false_iff];intro hr;apply h;unfold X8 Bn9 Br6 Br7 Ch0 Ad5 at hr;simp only[Bool.and_eq_true,decide_eq_true_eq,beq_iff_eq,List.all_cons,List.all_nil,Bool.and_true] at hr;exact⟨hr.1.1,hr.2.2.1,hr.1.2.1,hr.1.2.2.2.1,hr.1.2.2.2.2⟩
theorem Ed3{e:Ev}(h:Cc0 e):X8 e=(U5 e.own&&(U5 e.oth&&(U5 e.seen&&(U5 e.seq&&(Ah7 e.s1.l e.s2.l&&(Az9 e&&(Ao2 e&&(Ai8 e.q&&(U1 e.h e.hs&&(Ab0 e&&Y4 e)))))))))):=by
 obtain⟨h1,h2,h3,h4,h5⟩:=h;unfold X8 Bn9 Br6 Br7 Ch0 Bt4 Ad5 Bd0 U5;rw[decide_eq_true h1,decide_eq_true h3,h2];simp only[List.all_cons,List.all_nil,Bool.and_true,decide_eq_true h4,decide_eq_true h5,Bool.true_and,BEq.rfl,Bool.and_assoc]
theorem Cc1(e:Ev)(w:World)(h:Ae4 w e):Calls Tryz.prog 35 #[.agg (A8 e).toArray] w (F9 w (X8 e)):=by
 have HE:=Lh (show(Tryz.prog.info? 46).map (·.size)=some (A8 e).length by rw[I1];exact Q1);have HS:=Lh Av7;have HW:=Lh (show(Tryz.prog.info? 28).map (·.size)=some (D5 e.wt e.wb).length by rw[G6];exact S5);have HR:=Lh Ab7;have HA:=Lh Bb8;have HH:=Lh Ac5;have HN:=Lh (fun(x:Int) (r:Bool) (hr:U5 x=r) (W:World)=>(show Calls Tryz.prog 57 #[.int .i64 x] W fun e w'=>e=.returned (.bool r)∧Below W.heap.size W w' from(Ay6 x W).mono fun e w' h=>⟨by rw[h.1,hr],h.2▸Below.refl _ _⟩));have P1:=Lh (fun(r:Bool) (hr:Ah7 e.s1.l e.s2.l=r) (W:World) (hb:Below w.heap.size w W)=>(show Calls Tryz.prog 80 #[.agg #[.slice e.s1.a e.s1.l.length e.s1.c,.slice e.s2.a e.s2.l.length e.s2.c]] W (F9 W r) from hr▸Cf0 _ _ _ W (Ax4 (h.mono hb))));have P2:=Lh (fun(r:Bool) (hr:Az9 e=r) (W:World)=>(show Calls Tryz.prog 81 #[.agg (D5 e.wt e.wb).toArray] W (F9 W r) from hr▸Ce4 e.wt e.wb h.wt W));have P3:=Lh (fun(r:Bool) (hr:Ao2 e=r) (W:World)=>(show Calls Tryz.prog 82 #[.agg e.r.L.toArray] W (F9 W r) from hr▸Cb3 e.r.c e.r.o e.r.p e.r.l e.r.t W));have P4:=Lh (fun(r:Bool) (hr:Ai8 e.q=r) (W:World) (hb:Below w.heap.size w W)=>(show Calls Tryz.prog 83 #[.agg (M7 e.q e.qa e.qc).toArray] W (F9 W r) from hr▸Cv9 e.q e.qa e.qc W h.qmax (h.q.mono hb)));have P5:=Lh (fun(r:Bool) (hr:U1 e.h e.hs=r) (W:World) (hb:Below w.heap.size w W)=>(show Calls Tryz.prog 84 #[.agg e.h.L.toArray] W (F9 W r) from hr▸Cb1 e.h e.hs W (h.h.mono hb)));have M1:=Lh (fun(r:Bool) (hr:Ab0 e=r) (W:World) (hb:Below w.heap.size w W)=>(show Calls Tryz.prog 85 #[.agg (A8 e).toArray] W (F9 W r) from hr▸Cs6 e W (h.u.mono hb) h.umax));have M2:=Lh (fun(r:Bool) (hr:Y4 e=r) (h0:U5 e.own=true) (hp:0≤e.ph∧e.ph≤8) (W:World)=>(show Calls Tryz.prog 86 #[.agg (A8 e).toArray] W (F9 W r) from hr▸Cb9 e W (by unfold U5 at h0;exact(of_decide_eq_true h0).1) hp));clear h;go_enter Tryz.func35,Tryz.ntmps35
 go_upto_region 1 with(fail)
 generalize hW:World.alloc w _=W;have B:=Lh (show A6 46 W w.heap.size (A8 e) by rw[←hW];exact A6.new w (A8 e) _);have G:=Lh (show Below w.heap.size w W by rw[←hW];exact ba w _);clear hW;generalize hn1:w.heap.size=n1 at B ⊢;clear hn1;have g0:=B.out.blk.endIn.id;have g1:=B.out.blk.endIn.k;have g2:=B.out.blk.endIn.ph;have g3:=B.out.blk.endIn.stan;have g4:=B.out.blk.endIn.day;by_cases hF:Cc0 e
 ·have HQ:=Lh (Ed3 hF);obtain⟨⟨i0,i1⟩,k0,⟨p0,p1⟩,⟨s0,s1⟩,⟨d0,d1⟩⟩:=hF;have HP:=Lh (And.intro p0 p1);have a0:¬e.id<0:=by omega
  have a1:¬1<e.id:=by omega
  have a2:¬e.ph<0:=by omega
  have a3:¬8<e.ph:=by omega
  have a4:¬e.stan<0:=by omega
  have a5:¬999999<e.stan:=by omega
  have a6:¬e.day<0:=by omega
  have a7:¬999999<e.day:=by omega
  have a8:((e.k.l.length:Int) != 32)=false:=by rw[k0];rfl
  clear i0 i1 k0 p0 p1 s0 s1 d0 d1;go_upto_region 3 with(fail)
  clear g0 g1 g2 g3 g4 a0 a1 a2 a3 a4 a5 a6 a7 a8;have N1:=Lh (HN.out e.own _ rfl);have N2:=Lh (HN.out e.oth _ rfl);have N3:=Lh (HN.out e.seen _ rfl);have N4:=Lh (HN.out e.seq _ rfl);replace P1:=Lh (P1.out _ rfl);replace P2:=Lh (P2.out _ rfl);replace P3:=Lh (P3.out _ rfl);replace P4:=Lh (P4.out _ rfl);replace P5:=Lh (P5.out _ rfl);replace M1:=Lh (M1.out _ rfl);replace M2:=Lh (M2.out _ rfl);clear HN;generalize U5 e.own=z1 at N1 HQ M2;generalize U5 e.oth=z2 at N2 HQ;generalize U5 e.seen=z3 at N3 HQ;generalize U5 e.seq=z4 at N4 HQ;generalize Ah7 e.s1.l e.s2.l=z5 at P1 HQ;generalize Az9 e=z6 at P2 HQ;generalize Ao2 e=z7 at P3 HQ;generalize Ai8 e.q=z8 at P4 HQ;generalize U1 e.h e.hs=z9 at P5 HQ;generalize Ab0 e=z10 at M1 HQ;generalize Y4 e=z11 at M2 HQ;have g0:=B.out.blk.endIn.own;go_wp2_with fail
  refine(N1.out _).mono ?_;rintro x w2 ⟨rfl,hb⟩;replace B:=Lh (B.out.up hb);replace G:=Lh (bt G.out hb);clear hb g0;have g0:=B.out.blk.endIn.oth;go_wp2_with fail
  refine(N2.out _).mono ?_;rintro x w3 ⟨rfl,hb⟩;replace B:=Lh (B.out.up hb);replace G:=Lh (bt G.out hb);clear hb g0;have g0:=B.out.blk.endIn.seen;go_wp2_with fail
  refine(N3.out _).mono ?_;rintro x w4 ⟨rfl,hb⟩;replace B:=Lh (B.out.up hb);replace G:=Lh (bt G.out hb);clear hb g0;have g0:=B.out.blk.endIn.seq;go_wp2_with fail
  refine(N4.out _).mono ?_;rintro x w5 ⟨rfl,hb⟩;replace B:=Lh (B.out.up hb);replace G:=Lh (bt G.out hb);clear hb g0;go_wp2_with (refine C9 24 (.tmp 69) n1 3 (by first | rfl | simp[Region.wanted,yielded]) rfl rfl (B.out.blk.endIn.at_s) Tryz.underlying24 rfl HS.out ?_)
  refine(P1.out _ G.out).mono ?_;rintro x w6 ⟨rfl,hb⟩;replace B:=Lh (B.out.up hb);replace G:=Lh (bt G.out hb);clear hb;go_wp2_with (refine C9 28 (.tmp 72) n1 10 (by first | rfl | simp[Region.wanted,yielded]) rfl rfl (B.out.blk.endIn.at_w) Tryz.underlying28 rfl HW.out ?_)
  refine(P2.out _).mono ?_;rintro x w7 ⟨rfl,hb⟩;replace B:=Lh (B.out.up hb);replace G:=Lh (bt G.out hb);clear hb;go_wp2_with (refine C9 32 (.tmp 75) n1 27 (by first | rfl | simp[Region.wanted,yielded]) rfl rfl (B.out.blk.endIn.at_r) Tryz.underlying32 rfl HR.out ?_)
  refine(P3.out _).mono ?_;rintro x w8 ⟨rfl,hb⟩;replace B:=Lh (B.out.up hb);replace G:=Lh (bt G.out hb);clear hb;go_wp2_with (refine C9 34 (.tmp 78) n1 35 (by first | rfl | simp[Region.wanted,yielded]) rfl rfl (B.out.blk.endIn.at_q) Tryz.underlying34 rfl HA.out ?_)
  refine(P4.out _ G.out).mono ?_;rintro x w9 ⟨rfl,hb⟩;replace B:=Lh (B.out.up hb);replace G:=Lh (bt G.out hb);clear hb;go_wp2_with (refine C9 42 (.tmp 81) n1 43 (by first | rfl | simp[Region.wanted,yielded]) rfl rfl (B.out.blk.endIn.at_h) Tryz.underlying42 rfl HH.out ?_)
  refine(P5.out _ G.out).mono ?_;rintro x w10 ⟨rfl,hb⟩;replace B:=Lh (B.out.up hb);replace G:=Lh (bt G.out hb);clear hb;go_wp2_with (refine J0 46 (.tmp 1) n1 (cs:=A8 e) (by first | rfl | simp[Region.wanted,yielded]) rfl rfl B.out.blk Tryz.underlying46 rfl HE.out ?_)
  refine(M1.out _ G.out).mono ?_;rintro x w11 ⟨rfl,hb⟩;replace B:=Lh (B.out.up hb);replace G:=Lh (bt G.out hb);clear hb;clear N1 N2 N3 N4 P1 P2 P3 P4 P5 M1 HS HW HR HA HH;go_upto_region 13 with(fail)
  rcases z1 with _ | _
  ·go_wp2_with fail
   go_ret;exact⟨I5 (by rw[HQ.out];rfl),G.out⟩
  rcases z2 with _ | _
  ·go_wp2_with fail
   go_ret;exact⟨I5 (by rw[HQ.out];rfl),G.out⟩
  rcases z3 with _ | _
  ·go_wp2_with fail
   go_ret;exact⟨I5 (by rw[HQ.out];rfl),G.out⟩
  rcases z4 with _ | _
  ·go_wp2_with fail
   go_ret;exact⟨I5 (by rw[HQ.out];rfl),G.out⟩
  rcases z5 with _ | _
  ·go_wp2_with fail
   go_ret;exact⟨I5 (by rw[HQ.out];rfl),G.out⟩
  rcases z6 with _ | _
  ·go_wp2_with fail
   go_ret;exact⟨I5 (by rw[HQ.out];rfl),G.out⟩
  rcases z7 with _ | _
  ·go_wp2_with fail
   go_ret;exact⟨I5 (by rw[HQ.out];rfl),G.out⟩
  rcases z8 with _ | _
  ·go_wp2_with fail
   go_ret;exact⟨I5 (by rw[HQ.out];rfl),G.out⟩
  rcases z9 with _ | _
  ·go_wp2_with fail
   go_ret;exact⟨I5 (by rw[HQ.out];rfl),G.out⟩
  rcases z10 with _ | _
  ·go_wp2_with fail
   go_ret;exact⟨I5 (by rw[HQ.out];rfl),G.out⟩
  go_wp2_with (refine J0 46 (.tmp 1) n1 (cs:=A8 e) (by first | rfl | simp[Region.wanted,yielded]) rfl rfl B.out.blk Tryz.underlying46 rfl HE.out ?_)
  refine(M2.out (by first | rfl | trivial) HP.out _).mono ?_;rintro x w20 ⟨rfl,hb⟩;replace G:=Lh (bt G.out hb);clear hb;go_wp2_with fail
  go_ret;exact⟨I5 (by rw[HQ.out];rfl),G.out⟩
 ·have HQ:=Lh (Eq9 hF);have HF:=Lh hF;clear hF;go_upto_region 3 with(fail)
  all_goals
   first
    | (exfalso;apply HF.out;unfold Cc0;(try simp only[bne_eq_false_iff_eq,beq_iff_eq] at *);exact⟨by omega,by omega,by omega,by omega,by omega⟩)
    | (go_wp2_with fail;go_ret;exact⟨I5 HQ.out.symm,G.out⟩)
def no8:Value→Bool
 | .int .u8 _=>false
 | _=>true
theorem Er0(t:Int)(b:Nat→UInt64):(D5 t b).all no8=true:=by
 unfold D5;rw[List.all_cons];simp only[no8,Bool.true_and,List.all_map];rw[List.all_eq_true];intro i _;rfl
theorem Bo0(e:Ev):(A8 e).all no8=true:=by
 unfold A8;simp only[List.all_append,Er0,Bool.true_and,Bool.and_true];rfl
theorem Q3(s:Sv):(A5 s).all no8=true:=by
 unfold A5;simp only[List.all_append,Bo0,Bool.true_and,Bool.and_true];rfl
theorem An1(k d e0 e1 g s:Int)(b t:Option Addr)(bn bc tn tc:Nat):(J1 k d e0 e1 g s (.slice b bn bc) (.slice t tn tc)).all no8=true:=rfl
theorem A4.ne8{w:World}{b:Nat}{cs:List Value}{a:Option Addr}{l:List UInt8}(h:A4 w a l)(hb:Blk w b cs)(hcs:cs.all no8=true):AtP (fun g=>g≠b) w a (B8s l):=by
 by_cases h0:l=[]
 ·subst h0;exact .inl rfl
 rcases h with h | ⟨b',off,rfl,hlt,hc⟩
 ·exact .inl h
 refine .inr ⟨b',off,rfl,?_,hlt,hc⟩;intro hbb;subst hbb;have h1:=hc 0 (by rw[List.length_map];exact List.length_pos_iff.2 h0);obtain⟨T,hg⟩:=hb;rw[Nat.add_zero] at h1;have h2:w.cell? ⟨b',off,none⟩=cs[off]?:=by simp[World.cell?,hg]
 rw[h2] at h1;have hm:=List.mem_of_getElem? h1;have:=(List.all_eq_true.1 hcs) _ hm;rw[Ce2 l 0 (List.length_pos_iff.2 h0)] at this;cases this
structure K8 (b:Nat) (w w':World):Prop where
 blk:∃cs,Blk w b cs∧cs.all no8=true
 k:Kp b w w'
theorem A6.k8{T:TypeId}{b:Nat}{w w':World}{cs:List Value}(h:A6 T w b cs)(hcs:cs.all no8=true)(k:Kp b w w'):K8 b w w':=⟨⟨cs,h.blk,hcs⟩,k⟩
theorem A4.k8{w w':World}{b:Nat}{a:Option Addr}{l:List UInt8}(h:A4 w a l)(k:K8 b w w'):A4 w' a l:=by
 obtain⟨cs,hb,hcs⟩:=k.blk;exact((h.ne8 hb hcs).kp (q:=fun _=>True) k.k fun g hg=>⟨hg,trivial⟩).at
theorem A4.kp8{w w':World}{b:Nat}{cs:List Value}{a:Option Addr}{l:List UInt8}(h:A4 w a l)(hb:Blk w b cs)(hcs:cs.all no8=true)(k:Kp b w w'):A4 w' a l:=
 ((h.ne8 hb hcs).kp (q:=fun _=>True) k fun g hg=>⟨hg,trivial⟩).at
theorem At4.k8{w w':World}{b:Nat}{s:Sl}(h:At4 w s)(k:K8 b w w'):At4 w' s:=⟨h.b.k8 k,h.le,h.max⟩
theorem V9.k8{w w':World}{b:Nat}{v:Value}{r:List UInt8}(h:V9 w v r)(k:K8 b w w'):V9 w' v r:=by
 obtain⟨p,c,h1,h2,h3,h4⟩:=h;exact⟨p,c,h1,h2,h3,A4.k8 h4 k⟩
theorem Az7.k8{w w':World}{b:Nat}{r:Rg}{kc ko kp:List UInt8}(h:Az7 w r kc ko kp)(k:K8 b w w'):Az7 w' r kc ko kp:=
 ⟨h.lc,A4.k8 h.c k,h.lo,A4.k8 h.o k,h.lp,A4.k8 h.p k⟩
theorem Aq0.k8{w w':World}{b:Nat}{h:Hv}{s:Nat→Fd}(hh:Aq0 w h s)(k:K8 b w w'):Aq0 w' h s:=fun i hi=>by
 have:=hh i hi;exact⟨this.len,this.le,this.cap,A4.k8 this.buf k,this.skip,this.bad⟩
def Ai2(q:Nat→Prop)(w:World)(a:Option Addr)(rows:List (List UInt8)):Prop:=∃vs,AtP q w a vs∧Al9 w vs rows
theorem Ai2.at{q:Nat→Prop}{w:World}{a:Option Addr}{rows:List (List UInt8)}(h:Ai2 q w a rows):W6 w a rows:=by
 obtain⟨vs,h1,h2⟩:=h;exact⟨vs,h1.at,h2⟩
theorem Ai2.to{q p:Nat→Prop}{w:World}{a:Option Addr}{rows:List (List UInt8)}(h:Ai2 q w a rows)(hn:∀g,g<w.heap.size→q g→p g):Ai2 p w a rows:=by
 obtain⟨vs,h1,h2⟩:=h;exact⟨vs,h1.to (Nat.le_refl _) fun g hg hp=>⟨rfl,hn g hg hp⟩,h2⟩
theorem Ai2.mono{q:Nat→Prop}{w w':World}{a:Option Addr}{rows:List (List UInt8)}(h:Ai2 q w a rows)(hb:Below w.heap.size w w'):Ai2 q w' a rows:=by
 obtain⟨vs,h1,h2⟩:=h;exact⟨vs,h1.up hb,h2.mono hb⟩
theorem Ai2.k8{q:Nat→Prop}{w w':World}{b:Nat}{a:Option Addr}{rows:List (List UInt8)}(h:Ai2 q w a rows)(k:K8 b w w')(hn:∀g,q g→g≠b):Ai2 q w' a rows:=by
 obtain⟨vs,h1,h2⟩:=h;exact⟨vs,h1.kp k.k fun g hg=>⟨hn g hg,hg⟩,h2.1,fun i hi=>(h2.2 i hi).k8 k⟩
theorem Ai2.of{q:Nat→Prop}{w:World}{a:Option Addr}{rows:List (List UInt8)}(h:W6 w a rows)(hq:∀g,g<w.heap.size→q g):Ai2 q w a rows:=by
 obtain⟨vs,h1,h2⟩:=h;exact⟨vs,AtP.of h1 hq,h2⟩
theorem Ai2.nil(q:Nat→Prop)(w:World)(a:Option Addr):Ai2 q w a []:=⟨[],.inl rfl,.nil w⟩
def Ae6(q:Nat→Prop)(w:World)(a:Option Addr)(l:List (Int×List UInt8)):Prop:=
 ∃vs:List Value,vs.length=l.length*2∧AtP q w a vs∧∀i,i<l.length→vs.getD (i*2) undef=.int .i64 (l.getD i (0,[])).1∧V9 w (vs.getD (i*2+1) undef) (l.getD i (0,[])).2
theorem Ae6.at{q:Nat→Prop}{w:World}{a:Option Addr}{l:List (Int×List UInt8)}(h:Ae6 q w a l):Ad6 w a l:=by
 obtain⟨vs,h1,h2,h3⟩:=h;exact⟨vs,h1,h2.at,h3⟩
theorem Ae6.to{q p:Nat→Prop}{w:World}{a:Option Addr}{l:List (Int×List UInt8)}(h:Ae6 q w a l)(hn:∀g,g<w.heap.size→q g→p g):Ae6 p w a l:=by
 obtain⟨vs,h1,h2,h3⟩:=h;exact⟨vs,h1,h2.to (Nat.le_refl _) fun g hg hp=>⟨rfl,hn g hg hp⟩,h3⟩
theorem Ae6.of{q:Nat→Prop}{w:World}{a:Option Addr}{l:List (Int×List UInt8)}(h:Ad6 w a l)(hq:∀g,g<w.heap.size→q g):Ae6 q w a l:=by
 obtain⟨vs,h1,h2,h3⟩:=h;exact⟨vs,h1,AtP.of h2 hq,h3⟩
theorem Ae6.mono{q:Nat→Prop}{w w':World}{a:Option Addr}{l:List (Int×List UInt8)}(h:Ae6 q w a l)(hb:Below w.heap.size w w'):Ae6 q w' a l:=by
 obtain⟨vs,h1,h2,h3⟩:=h;exact⟨vs,h1,h2.up hb,fun i hi=>⟨(h3 i hi).1,(h3 i hi).2.mono hb⟩⟩
theorem Ae6.k8{q:Nat→Prop}{w w':World}{b:Nat}{a:Option Addr}{l:List (Int×List UInt8)}(h:Ae6 q w a l)(k:K8 b w w')(hn:∀g,q g→g≠b):Ae6 q w' a l:=by
 obtain⟨vs,h1,h2,h3⟩:=h;exact⟨vs,h1,h2.kp k.k fun g hg=>⟨hn g hg,hg⟩,fun i hi=>⟨(h3 i hi).1,(h3 i hi).2.k8 k⟩⟩
def Al1(q:Nat→Prop)(w:World)(a:Option Addr)(l:List Gt):Prop:=
 ∃vs:List Value,vs.length=l.length*5∧AtP q w a vs∧∀i,i<l.length→vs.getD (i*5) undef=.int .i64 (l.getD i default).kind∧vs.getD (i*5+1) undef=.int .i64 (l.getD i default).e0∧vs.getD (i*5+2) undef=.int .i64 (l.getD i default).e1∧vs.getD (i*5+3) undef=.int .i64 (l.getD i default).seq∧V9 w (vs.getD (i*5+4) undef) (l.getD i default).b
theorem Al1.at{q:Nat→Prop}{w:World}{a:Option Addr}{l:List Gt}(h:Al1 q w a l):Aj2 w a l:=by
 obtain⟨vs,h1,h2,h3⟩:=h;exact⟨vs,h1,h2.at,h3⟩
theorem Al1.to{q p:Nat→Prop}{w:World}{a:Option Addr}{l:List Gt}(h:Al1 q w a l)(hn:∀g,g<w.heap.size→q g→p g):Al1 p w a l:=by
 obtain⟨vs,h1,h2,h3⟩:=h;exact⟨vs,h1,h2.to (Nat.le_refl _) fun g hg hp=>⟨rfl,hn g hg hp⟩,h3⟩
theorem Al1.of{q:Nat→Prop}{w:World}{a:Option Addr}{l:List Gt}(h:Aj2 w a l)(hq:∀g,g<w.heap.size→q g):Al1 q w a l:=by
 obtain⟨vs,h1,h2,h3⟩:=h;exact⟨vs,h1,AtP.of h2 hq,h3⟩
theorem Al1.mono{q:Nat→Prop}{w w':World}{a:Option Addr}{l:List Gt}(h:Al1 q w a l)(hb:Below w.heap.size w w'):Al1 q w' a l:=by
 obtain⟨vs,h1,h2,h3⟩:=h;exact⟨vs,h1,h2.up hb,fun i hi=>⟨(h3 i hi).1,(h3 i hi).2.1,(h3 i hi).2.2.1,(h3 i hi).2.2.2.1,(h3 i hi).2.2.2.2.mono hb⟩⟩
theorem Al1.k8{q:Nat→Prop}{w w':World}{b:Nat}{a:Option Addr}{l:List Gt}(h:Al1 q w a l)(k:K8 b w w')(hn:∀g,q g→g≠b):Al1 q w' a l:=by
 obtain⟨vs,h1,h2,h3⟩:=h;exact⟨vs,h1,h2.kp k.k fun g hg=>⟨hn g hg,hg⟩,fun i hi=>⟨(h3 i hi).1,(h3 i hi).2.1,(h3 i hi).2.2.1,(h3 i hi).2.2.2.1,(h3 i hi).2.2.2.2.k8 k⟩⟩
structure X9 (Q:Nat→Prop) (w:World) (e:Ev):Prop where
 k:At4 w e.k
 s1:At4 w e.s1
 s2:At4 w e.s2
 r:Az7 w e.r e.kc e.ko e.kp
 rc:e.r.c.len≤e.r.c.cap∧e.r.c.cap≤maxLen
 ro:e.r.o.len≤e.r.o.cap∧e.r.o.cap≤maxLen
 rp:e.r.p.len≤e.r.p.cap∧e.r.p.cap≤maxLen
 q:A4 w e.qa e.q.body
 ql:e.q.body.length≤e.qc∧e.qc≤maxLen
 u:Ai2 Q w e.ua e.u
 ul:e.u.length≤e.uc∧e.uc≤maxLen
 h:Aq0 w e.h e.hs
 hl:∀i,i<4→(e.h.f i).len≤maxLen
 o:Ae6 Q w e.oa e.o
 ol:e.o.length≤e.oc∧e.oc≤maxLen
 g:Al1 Q w e.ga e.g
 gl:e.g.length≤e.gc∧e.gc≤maxLen
 wt:-9223372036854775808≤e.wt∧e.wt≤9223372036854775807
theorem X9.at{q:Nat→Prop}{w:World}{e:Ev}(h:X9 q w e):Ae4 w e:=⟨h.k,h.s1,h.s2,h.r,h.rc,h.ro,h.rp,h.q,h.ql,h.u.at,h.ul,h.h,h.hl,h.o.at,h.ol,h.g.at,h.gl,h.wt⟩
theorem Ae4.toP{q:Nat→Prop}{w:World}{e:Ev}(h:Ae4 w e)(hq:∀g,g<w.heap.size→q g):X9 q w e:=⟨h.k,h.s1,h.s2,h.r,h.rc,h.ro,h.rp,h.q,h.ql,.of h.u hq,h.ul,h.h,h.hl,.of h.o hq,h.ol,.of h.g hq,h.gl,h.wt⟩
theorem X9.to{q p:Nat→Prop}{w:World}{e:Ev}(h:X9 q w e)(hn:∀g,g<w.heap.size→q g→p g):X9 p w e:=⟨h.k,h.s1,h.s2,h.r,h.rc,h.ro,h.rp,h.q,h.ql,h.u.to hn,h.ul,h.h,h.hl,h.o.to hn,h.ol,h.g.to hn,h.gl,h.wt⟩
theorem X9.mono{q:Nat→Prop}{w w':World}{e:Ev}(h:X9 q w e)(hb:Below w.heap.size w w'):X9 q w' e:=
 ⟨h.k.mono hb,h.s1.mono hb,h.s2.mono hb,h.r.mono hb,h.rc,h.ro,h.rp,h.q.mono hb,h.ql,h.u.mono hb,h.ul,h.h.mono hb,h.hl,h.o.mono hb,h.ol,h.g.mono hb,h.gl,h.wt⟩
theorem X9.k8{q:Nat→Prop}{w w':World}{b:Nat}{e:Ev}(h:X9 q w e)(k:K8 b w w')(hn:∀g,q g→g≠b):X9 q w' e:=
 ⟨h.k.k8 k,h.s1.k8 k,h.s2.k8 k,h.r.k8 k,h.rc,h.ro,h.rp,A4.k8 h.q k,h.ql,h.u.k8 k hn,h.ul,h.h.k8 k,h.hl,h.o.k8 k hn,h.ol,h.g.k8 k hn,h.gl,h.wt⟩
def Y9(pt pr:Nat→Prop)(w:World)(a:Option Addr)(es:List Ent):Prop:=
 ∃vs:List Value,vs.length=es.length*2∧AtP pt w a vs∧∀i,i<es.length→Ad3 pr w (vs.getD (i*2) undef) (es.getD i ([],[])).1∧Ad3 pr w (vs.getD (i*2+1) undef) (es.getD i ([],[])).2
abbrev Aa2(p:Nat→Prop)(w:World)(a:Option Addr)(es:List Ent):Prop:=Y9 p (fun _=>True) w a es
theorem Y9.ents{pt pr:Nat→Prop}{w:World}{a:Option Addr}{es:List Ent}(h:Y9 pt pr w a es):X7 w a es:=by
 obtain⟨vs,h1,h2,h3⟩:=h;exact⟨vs,h1,h2.at,fun i hi=>⟨(h3 i hi).1.row,(h3 i hi).2.row⟩⟩
theorem Aa2.of{p:Nat→Prop}{w:World}{a:Option Addr}{es:List Ent}(h:X7 w a es)(hp:∀g,g<w.heap.size→p g):Aa2 p w a es:=by
 obtain⟨vs,h1,h2,h3⟩:=h;exact⟨vs,h1,AtP.of h2 hp,fun i hi=>⟨Ad3.of (h3 i hi).1 fun _ _=>trivial,Ad3.of (h3 i hi).2 fun _ _=>trivial⟩⟩
theorem Y9.to{pt pr qt qr:Nat→Prop}{w w':World}{a:Option Addr}{es:List Ent}(h:Y9 pt pr w a es)(hs:w.heap.size≤w'.heap.size)(hk:∀b,b<w.heap.size→pt b→w'.heap[b]?=w.heap[b]?∧qt b)(hr:∀b,b<w.heap.size→pr b→w'.heap[b]?=w.heap[b]?∧qr b):Y9 qt qr w' a es:=by
 obtain⟨vs,h1,h2,h3⟩:=h;exact⟨vs,h1,h2.to hs hk,fun i hi=>⟨(h3 i hi).1.to hs hr,(h3 i hi).2.to hs hr⟩⟩
theorem Y9.up{pt pr:Nat→Prop}{w w':World}{a:Option Addr}{es:List Ent}(h:Y9 pt pr w a es)(hb:Below w.heap.size w w'):Y9 pt pr w' a es:=
 h.to hb.size (fun g hg hp=>⟨hb.block g hg,hp⟩) fun g hg hp=>⟨hb.block g hg,hp⟩
theorem Aa2.weak{p q:Nat→Prop}{w:World}{a:Option Addr}{es:List Ent}(h:Aa2 p w a es)(hn:∀g,g<w.heap.size→p g→q g):Aa2 q w a es:=
 Y9.to h (Nat.le_refl _) (fun g hg hp=>⟨rfl,hn g hg hp⟩) fun g hg hp=>⟨rfl,hp⟩
theorem Ad3.tr{w:World}{v:Value}{r:List UInt8}(h:V9 w v r):Ad3 (fun _=>True) w v r:=Ad3.of h fun _ _=>trivial
theorem Aa2.k8{p:Nat→Prop}{w w':World}{b:Nat}{a:Option Addr}{es:List Ent}(h:Aa2 p w a es)(k:K8 b w w')(hn:∀g,p g→g≠b):Aa2 p w' a es:=by
 obtain⟨vs,h1,h2,h3⟩:=h;exact⟨vs,h1,h2.kp k.k fun g hg=>⟨hn g hg,hg⟩,fun i hi=>⟨Ad3.tr ((h3 i hi).1.row.k8 k),Ad3.tr ((h3 i hi).2.row.k8 k)⟩⟩
theorem Y9.snoc{pt pr:Nat→Prop}{w':World}{a':Option Addr}{es:List Ent}{vs:List Value}{v0 v1:Value}{k b:List UInt8}(hvl:vs.length=es.length*2)
 (hr:∀i,i<es.length→Ad3 pr w' (vs.getD (i*2) undef) (es.getD i ([],[])).1∧Ad3 pr w' (vs.getD (i*2+1) undef) (es.getD i ([],[])).2) (hA:AtP pt w' a' (vs++[v0,v1])) (h0:Ad3 pr w' v0 k) (h1:Ad3 pr w' v1 b):Y9 pt pr w' a' (es++[(k,b)]):=by
 refine⟨_,by rw[List.length_append,List.length_append,hvl];simp;omega,hA,fun i hi=>?_⟩;have g1:∀j,j<vs.length→(vs++[v0,v1]).getD j undef=vs.getD j undef:=fun j hj=>by
  simp only[List.getD_eq_getElem?_getD,List.getElem?_append_left hj]
 by_cases hl:i<es.length
 ·have e:(es++[(k,b)]).getD i ([],[])=es.getD i ([],[]):=by simp only[List.getD_eq_getElem?_getD,List.getElem?_append_left hl]
  rw[g1 _ (by omega),g1 _ (by omega),e];exact hr i hl
 ·have hi':i=es.length:=by simp at hi;omega
  subst hi';have e:(es++[(k,b)]).getD es.length ([],[])=(k,b):=by simp[List.getD_eq_getElem?_getD]
  have g2:∀j,(vs++[v0,v1]).getD (es.length*2+j) undef=[v0,v1].getD j undef:=fun j=>by
   rw[←hvl];simp only[List.getD_eq_getElem?_getD,List.getElem?_append_right (Nat.le_add_right _ _),Nat.add_sub_cancel_left]
  rw[e,g2 1,show es.length*2=es.length*2+0 from rfl,g2 0];exact⟨h0,h1⟩
structure J5 (q:Nat→Prop) (w:World) (s:Sv):Prop where
 e:X9 q w s.e
 p:Aa2 q w s.ta s.es
 pl:s.es.length≤s.tc∧s.tc≤maxLen
theorem J5.at{q:Nat→Prop}{w:World}{s:Sv}(h:J5 q w s):Aj3 w s:=⟨h.e.at,h.p.ents,h.pl⟩
theorem Aj3.toP{q:Nat→Prop}{w:World}{s:Sv}(h:Aj3 w s)(hq:∀g,g<w.heap.size→q g):J5 q w s:=⟨h.e.toP hq,Aa2.of h.p hq,h.pl⟩
theorem J5.to{q p:Nat→Prop}{w:World}{s:Sv}(h:J5 q w s)(hn:∀g,g<w.heap.size→q g→p g):J5 p w s:=⟨h.e.to hn,Aa2.weak h.p hn,h.pl⟩
theorem J5.mono{q:Nat→Prop}{w w':World}{s:Sv}(h:J5 q w s)(hb:Below w.heap.size w w'):J5 q w' s:=⟨h.e.mono hb,h.p.up hb,h.pl⟩
theorem J5.k8{q:Nat→Prop}{w w':World}{b:Nat}{s:Sv}(h:J5 q w s)(k:K8 b w w')(hn:∀g,q g→g≠b):J5 q w' s:=⟨h.e.k8 k hn,Aa2.k8 h.p k hn,h.pl⟩
end Go.Proofs.YtadpiemjgfndgaaGreatDoor
