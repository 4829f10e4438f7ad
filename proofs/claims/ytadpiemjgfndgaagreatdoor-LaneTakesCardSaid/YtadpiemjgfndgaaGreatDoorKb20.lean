/- Proved here, for use further on: LeF LeG LeH LeI LeJ2 LeJ0. Conditions: none but those each theorem names. -/
import Derived.Test.YtadpiemjgfndgaaGreatDoorKb00
import Derived.Test.YtadpiemjgfndgaaGreatDoorKb19
import Derived.Test.YtadpiemjgfndgaaGreatDoorKb13
import Derived.Test.YtadpiemjgfndgaaGreatDoorKb04
import Derived.Deep.DeepCutAuto
import Derived.Test.YtadpiemjgfndgaaGreatDoorKb14
import Derived.Test.YtadpiemjgfndgaaGreatDoorKb11
import Derived.Test.YtadpiemjgfndgaaGreatDoorKb17
import Derived.Test.YtadpiemjgfndgaaGreatDoorKb12
set_option linter.unusedSimpArgs false
set_option linter.unusedVariables false
set_option maxRecDepth 100000
set_option maxHeartbeats 8000000
namespace Go.Proofs.YtadpiemjgfndgaaGreatDoor
open Go.RowKit
def Bf5(e:Ev):Bool:=(e.wt==0)&&(List.range 16).all fun i=>e.wb i==T6 i
def Bm0(e:Ev):Bool:=Ai9 e.r.c e.r.o e.r.p e.r.l e.r.t
def Aq9(e:Ev):Bool:=(e.seq==0)&&(Bf5 e&&Bm0 e)
def Bd6(e:Ev):Bool:=(e.q.code==Ae0 e.ph) || ((e.ph==3)&&(e.q.code==301))
def Aa0(e:Ev):Bool:=Bd6 e&&(bif X7 e.ph then decide (0<e.own∧0<e.oth∧0<e.r.c.no∧(e.ph≠4∨0<e.r.p.no)) else bif e.ph==1 then decide (0<e.own∧e.oth=0)&&Aq9 e else decide (e.own=0∧e.oth=0)&&Aq9 e)
theorem Cx8{w:World}{r:Rg}{kc ko kp:List UInt8}(h:Az7 w r kc ko kp):U1 r R0 kc ko kp [] [] []=Ai9 r.c r.o r.p r.l r.t:=by
 have e1:∀(k:List UInt8),(k==[])=((k.length:Int)==0):=fun k=>by cases k<;>simp<;>omega
 unfold U1 Ac6 Ai9 U3;rw[h.lc,h.lo,h.lp,e1,e1,e1]
theorem Bz2(w:World):Az7 w R0 [] [] []:=⟨rfl,.inl rfl,rfl,.inl rfl,rfl,.inl rfl⟩
theorem Cc1(p:Int)(w:World):Calls Tryz.prog 164 #[.int .i64 p] w fun e w'=>e=.returned (.int .i64 (Ae0 p))∧Below w.heap.size w w':=(Co1 p w).mono fun e w' h=>⟨h.1,h.2▸Below.refl _ _⟩
theorem Cc2(e:Ev)(w:World):(Op.equalIn 10000 28 (.agg (D0 e.wt e.wb).toArray) (.agg (Bt7 0))).run Tryz.prog w=.ok (Bf5 e) w:=by
 rw[Aw6,Ca1];rfl
theorem Da2{e:Ev}{l:Bool}(hl:X7 e.ph=l)(b:Bool)(h:b=true↔(0<e.own∧0<e.oth∧0<e.r.c.no∧Bd6 e=true∧(e.ph≠4∨0<e.r.p.no)))(ht:l=true):b=Aa0 e:=by
 subst ht;unfold Aa0;rw[hl,Bool.eq_iff_iff,h];simp only[Bool.and_eq_true,cond_true,decide_eq_true_eq];exact⟨fun⟨a,b,c,d,e⟩=>⟨d,a,b,c,e⟩,fun⟨d,a,b,c,e⟩=>⟨a,b,c,d,e⟩⟩
theorem Eb7{e:Ev}(hp:e.ph=1)(b:Bool)(h:b=true↔(0<e.own∧e.oth=0∧Aq9 e=true∧Bd6 e=true)):b=Aa0 e:=by
 unfold Aa0;rw[show X7 e.ph=false by rw[hp];rfl,show(e.ph==1)=true by rw[hp];rfl,Bool.eq_iff_iff,h];simp only[Bool.and_eq_true,cond_true,cond_false,decide_eq_true_eq];exact⟨fun⟨a,b,c,d⟩=>⟨d,⟨a,b⟩,c⟩,fun⟨d,⟨a,b⟩,c⟩=>⟨a,b,c,d⟩⟩
theorem Eb8{e:Ev}(hl:X7 e.ph=false)(hp:e.ph≠1)(b:Bool)(h:b=true↔(e.own=0∧e.oth=0∧Aq9 e=true∧Bd6 e=true)):b=Aa0 e:=by
 unfold Aa0;rw[hl,show(e.ph==1)=false by rw[beq_eq_false_iff_ne];exact hp,Bool.eq_iff_iff,h];simp only[Bool.and_eq_true,cond_false,decide_eq_true_eq];exact⟨fun⟨a,b,c,d⟩=>⟨d,⟨a,b⟩,c⟩,fun⟨d,⟨a,b⟩,c⟩=>⟨a,b,c,d⟩⟩
noncomputable def Aq4:{ops:Array Oper//(Tryz.f99.body.bind (M8 2))=some (.region 2 ops true)}:=⟨_,rfl⟩
abbrev V9:List Nat:=[20,21,22,23,24,25,26,27,28,29,30,31,32,33,34,35,36,37,4]
theorem Bu3:opx Aq4.1 5=some (.call {callee:=.value (.func 164),args:=#[.tmp 24],argTypes:=#[3]},some 25,none):=by kernel_rfl
theorem Fl5{e:Ev}{n1:Nat}{a:Act}{w:World}{Q:Exit→Act→World→Prop}(hsz:104≤a.tmps.size)(e1:a.tmps.getD 1 undef=.pointer (some ⟨n1,0,none⟩))(hP:∀c a d v w,Q (.panic c) (Act.put a d v) w→Q (.panic c) a w)(B:A6 46 w n1 (A8 e))(h1:(e.q.code==Ae0 e.ph)=true)
 (hQ:∀{x20 x21 x22 x23 x24 x25 x26 x27 x28 x29 x30 x31 x32 x33 x34 x35 x36 x37} w',A6 46 w' n1 (A8 e)→Below w.heap.size w w'→Q .normal (C6 a V9 [x20,x21,x22,x23,x24,x25,x26,x27,x28,x29,x30,x31,x32,x33,x34,x35,x36,x37,.bool true]) w'):
 (Code.region 2 Aq4.1 true).wp Tryz.prog Q a w:=by
 have rG:Rgn Aq4.1 V9 a Q:=⟨fun k hk=>Nat.lt_of_lt_of_le ((by decide:∀k∈V9,k<104) k hk) hsz,by kernel_rfl,hP⟩;have hb:=rG.b;obtain⟨i,h0⟩:=U5 a V9;let S:World→Prop:=fun w'=>A6 46 w' n1 (A8 e);refine wp_region_held_drew (S:=S) (by kernel_rfl) (B.up (bd _)) fun hHeld=>?_;have N5:∀(u:World) (G:Below w.heap.size w u),wpAnyH Tryz.prog .any Aq4.1 Q S 0 (lm 19 524287) (C6 a V9 [pt n1 35,pt n1 35,i6 e.q.code,pt n1 2,i6 e.ph,i6 (Ae0 e.ph),.bool true,.bool true,undef,undef,undef,undef,undef,undef,undef,undef,undef,.bool true,.bool true]) u:=by
  intro u G;refine S8 ?_;exact hQ _ (B.up G) G
 have N0:∀(u:World) (G:Below w.heap.size w u),wpAnyH Tryz.prog .any Aq4.1 Q S 14 (lm 19 31) (C6 a V9 [pt n1 35,pt n1 35,i6 e.q.code,pt n1 2,i6 e.ph,i 25,i 26,i 27,i 28,i 29,i 30,i 31,i 32,i 33,i 34,i 35,i 36,i 37,i 4]) u:=by
  intro u G;refine D7 [5] (C9 rG Bu3 ?_ AllReadyH.nil);intro o hp hd;refine M6 hp (rG.ev1 (i6 e.ph)) (Cc1 e.ph _) ?_;rintro x u5 ⟨rfl,hb5⟩;refine⟨_,rfl,?_⟩;exact I1 rG [(6,26,.bool true),(7,27,.bool true),(8,28,undef),(9,29,undef),(10,30,undef),(11,31,undef),(12,32,undef),(13,33,undef),(14,34,undef),(15,35,undef),(16,36,undef),(17,37,.bool true),(18,4,.bool true)] hd (B.up (bt G hb5)) ⟨Ae7 rfl h1,A9 rfl,C7,C7,C7,C7,Ax9,Ax9,Ax9,Ax9,C7,J1 rfl,Aj2 rfl,trivial⟩ (N5 _  (bt G hb5))
 exact M0 19 rG [(0,20,pt n1 35),(1,21,pt n1 35),(2,22,i6 e.q.code),(3,23,pt n1 2),(4,24,i6 e.ph)] h0 (B.up (bd _)) ⟨A7 rfl e1,A7 rfl,F5 rfl (fun w hw=>hw.blk.endIn.qcode),A7 rfl e1,F5 rfl (fun w hw=>hw.blk.endIn.ph),trivial⟩ (N0 _  (bd w))
theorem Fl6{e:Ev}{n1:Nat}{a:Act}{w:World}{Q:Exit→Act→World→Prop}(hsz:104≤a.tmps.size)(e1:a.tmps.getD 1 undef=.pointer (some ⟨n1,0,none⟩))(hP:∀c a d v w,Q (.panic c) (Act.put a d v) w→Q (.panic c) a w)(B:A6 46 w n1 (A8 e))(h1:(e.q.code==Ae0 e.ph)=false)(h2:(e.ph==3)=false)
 (hQ:∀{x20 x21 x22 x23 x24 x25 x26 x27 x28 x29 x30 x31 x32 x33 x34 x35 x36 x37} w',A6 46 w' n1 (A8 e)→Below w.heap.size w w'→Q .normal (C6 a V9 [x20,x21,x22,x23,x24,x25,x26,x27,x28,x29,x30,x31,x32,x33,x34,x35,x36,x37,.bool false]) w'):
 (Code.region 2 Aq4.1 true).wp Tryz.prog Q a w:=by
 have rG:Rgn Aq4.1 V9 a Q:=⟨fun k hk=>Nat.lt_of_lt_of_le ((by decide:∀k∈V9,k<104) k hk) hsz,by kernel_rfl,hP⟩;have hb:=rG.b;obtain⟨i,h0⟩:=U5 a V9;let S:World→Prop:=fun w'=>A6 46 w' n1 (A8 e);refine wp_region_held_drew (S:=S) (by kernel_rfl) (B.up (bd _)) fun hHeld=>?_;have N5:∀(u:World) (G:Below w.heap.size w u),wpAnyH Tryz.prog .any Aq4.1 Q S 0 (lm 19 524287) (C6 a V9 [pt n1 35,pt n1 35,i6 e.q.code,pt n1 2,i6 e.ph,i6 (Ae0 e.ph),.bool false,.bool false,pt n1 2,i6 e.ph,.bool false,.bool false,undef,undef,undef,undef,.bool false,.bool false,.bool false]) u:=by
  intro u G;refine S8 ?_;exact hQ _ (B.up G) G
 have N0:∀(u:World) (G:Below w.heap.size w u),wpAnyH Tryz.prog .any Aq4.1 Q S 14 (lm 19 31) (C6 a V9 [pt n1 35,pt n1 35,i6 e.q.code,pt n1 2,i6 e.ph,i 25,i 26,i 27,i 28,i 29,i 30,i 31,i 32,i 33,i 34,i 35,i 36,i 37,i 4]) u:=by
  intro u G;refine D7 [5] (C9 rG Bu3 ?_ AllReadyH.nil);intro o hp hd;refine M6 hp (rG.ev1 (i6 e.ph)) (Cc1 e.ph _) ?_;rintro x u5 ⟨rfl,hb5⟩;refine⟨_,rfl,?_⟩;exact I1 rG [(6,26,.bool false),(7,27,.bool false),(8,28,pt n1 2),(9,29,i6 e.ph),(10,30,.bool false),(11,31,.bool false),(12,32,undef),(13,33,undef),(14,34,undef),(15,35,undef),(16,36,.bool false),(17,37,.bool false),(18,4,.bool false)] hd (B.up (bt G hb5)) ⟨Ae7 rfl h1,A9 rfl,A7 rfl e1,F5 rfl (fun w hw=>hw.blk.endIn.ph),Ae7 rfl h2,A9 rfl,C7,C7,C7,C7,J1 rfl,J1 rfl,Aj2 rfl,trivial⟩ (N5 _  (bt G hb5))
 exact M0 19 rG [(0,20,pt n1 35),(1,21,pt n1 35),(2,22,i6 e.q.code),(3,23,pt n1 2),(4,24,i6 e.ph)] h0 (B.up (bd _)) ⟨A7 rfl e1,A7 rfl,F5 rfl (fun w hw=>hw.blk.endIn.qcode),A7 rfl e1,F5 rfl (fun w hw=>hw.blk.endIn.ph),trivial⟩ (N0 _  (bd w))
theorem Fl7{e:Ev}{n1:Nat}{a:Act}{w:World}{Q:Exit→Act→World→Prop}(hsz:104≤a.tmps.size)(e1:a.tmps.getD 1 undef=.pointer (some ⟨n1,0,none⟩))(hP:∀c a d v w,Q (.panic c) (Act.put a d v) w→Q (.panic c) a w)(B:A6 46 w n1 (A8 e))(h1:(e.q.code==Ae0 e.ph)=false)(h2:(e.ph==3)=true)(h3:(e.q.code==301)=false)
 (hQ:∀{x20 x21 x22 x23 x24 x25 x26 x27 x28 x29 x30 x31 x32 x33 x34 x35 x36 x37} w',A6 46 w' n1 (A8 e)→Below w.heap.size w w'→Q .normal (C6 a V9 [x20,x21,x22,x23,x24,x25,x26,x27,x28,x29,x30,x31,x32,x33,x34,x35,x36,x37,.bool false]) w'):
 (Code.region 2 Aq4.1 true).wp Tryz.prog Q a w:=by
 have rG:Rgn Aq4.1 V9 a Q:=⟨fun k hk=>Nat.lt_of_lt_of_le ((by decide:∀k∈V9,k<104) k hk) hsz,by kernel_rfl,hP⟩;have hb:=rG.b;obtain⟨i,h0⟩:=U5 a V9;let S:World→Prop:=fun w'=>A6 46 w' n1 (A8 e);refine wp_region_held_drew (S:=S) (by kernel_rfl) (B.up (bd _)) fun hHeld=>?_;have N5:∀(u:World) (G:Below w.heap.size w u),wpAnyH Tryz.prog .any Aq4.1 Q S 0 (lm 19 524287) (C6 a V9 [pt n1 35,pt n1 35,i6 e.q.code,pt n1 2,i6 e.ph,i6 (Ae0 e.ph),.bool false,.bool false,pt n1 2,i6 e.ph,.bool true,.bool true,pt n1 35,pt n1 35,i6 e.q.code,.bool false,.bool false,.bool false,.bool false]) u:=by
  intro u G;refine S8 ?_;exact hQ _ (B.up G) G
 have N0:∀(u:World) (G:Below w.heap.size w u),wpAnyH Tryz.prog .any Aq4.1 Q S 14 (lm 19 31) (C6 a V9 [pt n1 35,pt n1 35,i6 e.q.code,pt n1 2,i6 e.ph,i 25,i 26,i 27,i 28,i 29,i 30,i 31,i 32,i 33,i 34,i 35,i 36,i 37,i 4]) u:=by
  intro u G;refine D7 [5] (C9 rG Bu3 ?_ AllReadyH.nil);intro o hp hd;refine M6 hp (rG.ev1 (i6 e.ph)) (Cc1 e.ph _) ?_;rintro x u5 ⟨rfl,hb5⟩;refine⟨_,rfl,?_⟩;exact I1 rG [(6,26,.bool false),(7,27,.bool false),(8,28,pt n1 2),(9,29,i6 e.ph),(10,30,.bool true),(11,31,.bool true),(12,32,pt n1 35),(13,33,pt n1 35),(14,34,i6 e.q.code),(15,35,.bool false),(16,36,.bool false),(17,37,.bool false),(18,4,.bool false)] hd (B.up (bt G hb5)) ⟨Ae7 rfl h1,A9 rfl,A7 rfl e1,F5 rfl (fun w hw=>hw.blk.endIn.ph),Ae7 rfl h2,A9 rfl,A7 rfl e1,A7 rfl,F5 rfl (fun w hw=>hw.blk.endIn.qcode),Ae7 rfl h3,J1 rfl,J1 rfl,Aj2 rfl,trivial⟩ (N5 _  (bt G hb5))
 exact M0 19 rG [(0,20,pt n1 35),(1,21,pt n1 35),(2,22,i6 e.q.code),(3,23,pt n1 2),(4,24,i6 e.ph)] h0 (B.up (bd _)) ⟨A7 rfl e1,A7 rfl,F5 rfl (fun w hw=>hw.blk.endIn.qcode),A7 rfl e1,F5 rfl (fun w hw=>hw.blk.endIn.ph),trivial⟩ (N0 _  (bd w))
theorem Fl8{e:Ev}{n1:Nat}{a:Act}{w:World}{Q:Exit→Act→World→Prop}(hsz:104≤a.tmps.size)(e1:a.tmps.getD 1 undef=.pointer (some ⟨n1,0,none⟩))(hP:∀c a d v w,Q (.panic c) (Act.put a d v) w→Q (.panic c) a w)(B:A6 46 w n1 (A8 e))(h1:(e.q.code==Ae0 e.ph)=false)(h2:(e.ph==3)=true)(h3:(e.q.code==301)=true)
 (hQ:∀{x20 x21 x22 x23 x24 x25 x26 x27 x28 x29 x30 x31 x32 x33 x34 x35 x36 x37} w',A6 46 w' n1 (A8 e)→Below w.heap.size w w'→Q .normal (C6 a V9 [x20,x21,x22,x23,x24,x25,x26,x27,x28,x29,x30,x31,x32,x33,x34,x35,x36,x37,.bool true]) w'):
 (Code.region 2 Aq4.1 true).wp Tryz.prog Q a w:=by
 have rG:Rgn Aq4.1 V9 a Q:=⟨fun k hk=>Nat.lt_of_lt_of_le ((by decide:∀k∈V9,k<104) k hk) hsz,by kernel_rfl,hP⟩;have hb:=rG.b;obtain⟨i,h0⟩:=U5 a V9;let S:World→Prop:=fun w'=>A6 46 w' n1 (A8 e);refine wp_region_held_drew (S:=S) (by kernel_rfl) (B.up (bd _)) fun hHeld=>?_;have N5:∀(u:World) (G:Below w.heap.size w u),wpAnyH Tryz.prog .any Aq4.1 Q S 0 (lm 19 524287) (C6 a V9 [pt n1 35,pt n1 35,i6 e.q.code,pt n1 2,i6 e.ph,i6 (Ae0 e.ph),.bool false,.bool false,pt n1 2,i6 e.ph,.bool true,.bool true,pt n1 35,pt n1 35,i6 e.q.code,.bool true,.bool true,.bool true,.bool true]) u:=by
  intro u G;refine S8 ?_;exact hQ _ (B.up G) G
 have N0:∀(u:World) (G:Below w.heap.size w u),wpAnyH Tryz.prog .any Aq4.1 Q S 14 (lm 19 31) (C6 a V9 [pt n1 35,pt n1 35,i6 e.q.code,pt n1 2,i6 e.ph,i 25,i 26,i 27,i 28,i 29,i 30,i 31,i 32,i 33,i 34,i 35,i 36,i 37,i 4]) u:=by
  intro u G;refine D7 [5] (C9 rG Bu3 ?_ AllReadyH.nil);intro o hp hd;refine M6 hp (rG.ev1 (i6 e.ph)) (Cc1 e.ph _) ?_;rintro x u5 ⟨rfl,hb5⟩;refine⟨_,rfl,?_⟩;exact I1 rG [(6,26,.bool false),(7,27,.bool false),(8,28,pt n1 2),(9,29,i6 e.ph),(10,30,.bool true),(11,31,.bool true),(12,32,pt n1 35),(13,33,pt n1 35),(14,34,i6 e.q.code),(15,35,.bool true),(16,36,.bool true),(17,37,.bool true),(18,4,.bool true)] hd (B.up (bt G hb5)) ⟨Ae7 rfl h1,A9 rfl,A7 rfl e1,F5 rfl (fun w hw=>hw.blk.endIn.ph),Ae7 rfl h2,A9 rfl,A7 rfl e1,A7 rfl,F5 rfl (fun w hw=>hw.blk.endIn.qcode),Ae7 rfl h3,J1 rfl,J1 rfl,Aj2 rfl,trivial⟩ (N5 _  (bt G hb5))
 exact M0 19 rG [(0,20,pt n1 35),(1,21,pt n1 35),(2,22,i6 e.q.code),(3,23,pt n1 2),(4,24,i6 e.ph)] h0 (B.up (bd _)) ⟨A7 rfl e1,A7 rfl,F5 rfl (fun w hw=>hw.blk.endIn.qcode),A7 rfl e1,F5 rfl (fun w hw=>hw.blk.endIn.ph),trivial⟩ (N0 _  (bd w))
theorem Eq2{e:Ev}{n1:Nat}{a:Act}{w:World}{Q:Exit→Act→World→Prop}(hsz:104≤a.tmps.size)(e1:a.tmps.getD 1 undef=.pointer (some ⟨n1,0,none⟩))(hP:∀c a d v w,Q (.panic c) (Act.put a d v) w→Q (.panic c) a w)(B:A6 46 w n1 (A8 e))
 (hQ:∀{x20 x21 x22 x23 x24 x25 x26 x27 x28 x29 x30 x31 x32 x33 x34 x35 x36 x37} w',A6 46 w' n1 (A8 e)→Below w.heap.size w w'→Q .normal (C6 a V9 [x20,x21,x22,x23,x24,x25,x26,x27,x28,x29,x30,x31,x32,x33,x34,x35,x36,x37,.bool (Bd6 e)]) w'):(Code.region 2 Aq4.1 true).wp Tryz.prog Q a w:=by
 unfold Bd6 at hQ;cases c1:(e.q.code==Ae0 e.ph) with
 | true=>rw[c1] at hQ;exact Fl5 hsz e1 hP B c1 hQ
 | false=>
   cases c2:(e.ph==3) with
   | false=>rw[c1,c2] at hQ;exact Fl6 hsz e1 hP B c1 c2 hQ
   | true=>
     cases c3:(e.q.code==301) with
     | false=>rw[c1,c2,c3] at hQ;exact Fl7 hsz e1 hP B c1 c2 c3 hQ
     | true=>rw[c1,c2,c3] at hQ;exact Fl8 hsz e1 hP B c1 c2 c3 hQ
theorem Ch4(e:Ev)(w:World)(h:Ae6 w e):Calls Tryz.prog 99 #[.agg (A8 e).toArray] w (F9 w (Aa0 e)):=by
 have HR:=Lh (fun(W:World) (hb:Below w.heap.size w W)=>(show Calls Tryz.prog 105 #[e.r.v,R0.v] W fun x w'=>x=.returned (.bool (Bm0 e))∧Below W.heap.size W w' from by
  have k:=Bw4 e.r R0 e.kc e.ko e.kp [] [] [] W (h.r.mono hb) (Bz2 W);rw[Cx8 h.r] at k;exact k))
 have HZ:=Lh (Cc2 e);have HI:=Lh S0;have HJ:=Lh Ab4;go_enter Tryz.func99,Tryz.ntmps99
 go_upto_region 1 with(fail)
 generalize hW:World.alloc w _=W;have B:=Lh (show A6 46 W w.heap.size (A8 e) by rw[←hW];exact A6.new w (A8 e) _);have G:=Lh (show Below w.heap.size w W by rw[←hW];exact ba w _);clear hW h;generalize hn1:w.heap.size=n1 at B ⊢;clear hn1;go_cut [3] (fun v3 wx=>v3=.bool (Aq9 e)∧A6 46 wx n1 (A8 e)∧Below w.heap.size w wx)
 case first=>
  have g9:=B.out.blk.endIn.seq;have gw:=B.out.blk.endIn.at_w;have gr:=B.out.blk.endIn.at_r;have GW:=Lh gw;have GR:=Lh gr;clear gw gr;by_cases hs:e.seq=0
  ·have s0:(e.seq==0)=true:=by rw[hs];rfl
   have hz:=HZ.out;have HQ:=Lh (show Aq9 e=(Bf5 e&&Bm0 e) by unfold Aq9;rw[s0,Bool.true_and]);generalize Bf5 e=Z at hz HQ;rw[hs] at g9;clear hs s0 HZ;rcases Z with _ | _
   ·go_wp2_with (first
     | (refine C8 28 (.tmp 9) n1 10 (by first | rfl | simp[Region.wanted,yielded]) rfl rfl GW.out Tryz.underlying28 rfl (by rw[F8];exact HI.out) ?_)
     | (refine C8 32 (.tmp 15) n1 27 (by first | rfl | simp[Region.wanted,yielded]) rfl rfl GR.out Tryz.underlying32 rfl HJ.out ?_))
    go_meet
    exact⟨by rw[HQ.out];rfl,B.out,G.out⟩
   ·go_wp2_with (first
     | (refine C8 28 (.tmp 9) n1 10 (by first | rfl | simp[Region.wanted,yielded]) rfl rfl GW.out Tryz.underlying28 rfl (by rw[F8];exact HI.out) ?_)
     | (refine C8 32 (.tmp 15) n1 27 (by first | rfl | simp[Region.wanted,yielded]) rfl rfl GR.out Tryz.underlying32 rfl HJ.out ?_))
    refine(HR.out _ G.out).mono ?_;rintro x w2 ⟨rfl,hb⟩;go_wp2_with fail
    go_meet
    exact⟨by rw[HQ.out];rfl,B.out.up hb,bt G.out hb⟩
  ·have s0:(e.seq==0)=false:=by rw[beq_eq_false_iff_ne];exact hs
   have HQ:=Lh (show Aq9 e=false by unfold Aq9;rw[s0,Bool.false_and]);clear hs HZ;go_wp2_with fail
   go_meet
   exact⟨by rw[HQ.out],B.out,G.out⟩
 case rest=>
  obtain⟨rfl,hB,hG⟩:=hcut;replace B:=Lh hB;replace G:=Lh hG;clear hB hG HR HZ;go_upto_region 2 with(fail)
  refine Eq2 (e:=e) (Nat.le_refl _) rfl (fun _ _ d _ _ h=>by cases d<;>exact h) B.out ?_;intro _ _ _ _ _ _ _ _ _ _ _ _ _ _ _ _ _ _ w9 hB9 hb9;simp only[C6,Act.put,List.setIfInBounds_toArray,List.set_cons_zero,List.set_cons_succ];replace B:=Lh hB9;replace G:=Lh (bt G.out hb9);clear hB9 hb9;have g2:=B.out.blk.endIn.ph;have g6:=B.out.blk.endIn.own;have g7:=B.out.blk.endIn.oth;have gc:=B.out.blk.endIn.cno;have gp:=B.out.blk.endIn.pno;have H1:=Lh (Da2 (e:=e) rfl);have H2:=Lh (Eb7 (e:=e));have H3:=Lh (Eb8 (e:=e));have HK:=Lh (fun W=>Ak7 e.ph W);have HL:=Lh (show X7 e.ph=true↔(2≤e.ph∧e.ph≤6) by unfold X7;exact decide_eq_true_iff);generalize Bd6 e=q at H1 H2 H3 ⊢;generalize Aq9 e=bb at H2 H3 ⊢;generalize X7 e.ph=l at H1 H3 HK HL;rcases l with _ | _
  ·replace H3:=Lh (H3.out rfl);clear H1;by_cases hp:e.ph=1
   ·replace H2:=Lh (H2.out hp);have p1:(e.ph==1)=true:=by rw[hp];rfl
    clear H3 HL hp;rcases q with _ | _<;>rcases bb with _ | _;all_goals
     go_wp2_with fail
     refine(HK.out _).mono ?_;rintro x w2 ⟨rfl,rfl⟩;go_wp2_with fail
     all_goals
      go_ret;refine⟨I5 (H2.out _ ?_),G.out⟩
      (try simp only[Bool.false_eq_true,false_iff,true_iff,iff_true,iff_false,decide_eq_true_eq,decide_eq_false_iff_not,Bool.and_eq_true,Bool.or_eq_true,beq_iff_eq,beq_eq_false_iff_ne,bne_iff_ne,ne_eq,false_and,and_false,true_and,and_true,not_false_eq_true,not_true_eq_false] at *)<;>omega
   ·replace H3:=Lh (H3.out hp);have p1:(e.ph==1)=false:=by rw[beq_eq_false_iff_ne];exact hp
    clear H2 HL hp;rcases q with _ | _<;>rcases bb with _ | _;all_goals
     go_wp2_with fail
     refine(HK.out _).mono ?_;rintro x w2 ⟨rfl,rfl⟩;go_wp2_with fail
     all_goals
      go_ret;refine⟨I5 (H3.out _ ?_),G.out⟩
      (try simp only[Bool.false_eq_true,false_iff,true_iff,iff_true,iff_false,decide_eq_true_eq,decide_eq_false_iff_not,Bool.and_eq_true,Bool.or_eq_true,beq_iff_eq,beq_eq_false_iff_ne,bne_iff_ne,ne_eq,false_and,and_false,true_and,and_true,not_false_eq_true,not_true_eq_false] at *)<;>omega
  ·clear H2 H3;rcases q with _ | _;all_goals
    go_wp2_with fail
    refine(HK.out _).mono ?_;rintro x w2 ⟨rfl,rfl⟩;go_wp2_with fail
    all_goals
     go_ret;refine⟨I5 (H1.out _ ?_ (by first | rfl | trivial)),G.out⟩;clear H1 HL HK
     (try simp only[Bool.false_eq_true,false_iff,true_iff,iff_true,iff_false,decide_eq_true_eq,decide_eq_false_iff_not,Bool.and_eq_true,Bool.or_eq_true,beq_iff_eq,beq_eq_false_iff_ne,bne_iff_ne,ne_eq,false_and,and_false,true_and,and_true,not_false_eq_true,not_true_eq_false] at *)<;>omega
noncomputable def Aq5:{ops:Array Oper//(Tryz.f86.body.bind (M8 1))=some (.region 1 ops true)}:=⟨_,rfl⟩
abbrev W4:List Nat:=[5,6,7,8,9,10,11,12,13,14,15,16,17,18,19,20,21,22]
theorem Bu4:opx Aq5.1 5=some (.call {callee:=.value (.func 152),args:=#[.tmp 9],argTypes:=#[3]},some 10,none):=by kernel_rfl
theorem Fl9{e:Ev}{n1:Nat}{a:Act}{w:World}{Q:Exit→Act→World→Prop}(hsz:66≤a.tmps.size)(e1:a.tmps.getD 1 undef=.pointer (some ⟨n1,0,none⟩))(hP:∀c a d v w,Q (.panic c) (Act.put a d v) w→Q (.panic c) a w)(B:A6 46 w n1 (A8 e))(Hp:0≤e.ph∧e.ph≤8)(h1:(e.q.code != Ae0 e.ph)=false)
 (hQ:∀{x5 x6 x7 x8 x9 x10 x11 x12 x13 x14 x15 x16 x17 x18 x19 x20 x21} w',A6 46 w' n1 (A8 e)→Below w.heap.size w w'→Q .normal (C6 a W4 [x5,x6,x7,x8,x9,x10,x11,x12,x13,x14,x15,x16,x17,x18,x19,x20,x21,.bool false]) w'):
 (Code.region 1 Aq5.1 true).wp Tryz.prog Q a w:=by
 have rG:Rgn Aq5.1 W4 a Q:=⟨fun k hk=>Nat.lt_of_lt_of_le ((by decide:∀k∈W4,k<66) k hk) hsz,by kernel_rfl,hP⟩;have hb:=rG.b;obtain⟨i,h0⟩:=U5 a W4;let S:World→Prop:=fun w'=>A6 46 w' n1 (A8 e);refine wp_region_held_drew (S:=S) (by kernel_rfl) (B.up (bd _)) fun hHeld=>?_;have N5:∀(u:World) (G:Below w.heap.size w u),wpAnyH Tryz.prog .any Aq5.1 Q S 0 (lm 18 262143) (C6 a W4 [pt n1 35,pt n1 35,i6 e.q.code,pt n1 2,i6 e.ph,i6 (Ae0 e.ph),.bool false,.bool false,undef,undef,undef,undef,undef,undef,undef,undef,undef,.bool false]) u:=by
  intro u G;refine S8 ?_;exact hQ _ (B.up G) G
 have N0:∀(u:World) (G:Below w.heap.size w u),wpAnyH Tryz.prog .any Aq5.1 Q S 13 (lm 18 31) (C6 a W4 [pt n1 35,pt n1 35,i6 e.q.code,pt n1 2,i6 e.ph,i 10,i 11,i 12,i 13,i 14,i 15,i 16,i 17,i 18,i 19,i 20,i 21,i 22]) u:=by
  intro u G;refine D7 [5] (C9 rG Bu4 ?_ AllReadyH.nil);intro o hp hd;refine M6 hp (rG.ev1 (i6 e.ph)) (Bd8 e.ph Hp _) ?_;rintro x u5 ⟨rfl,hb5⟩;refine⟨_,rfl,?_⟩;exact I1 rG [(6,11,.bool false),(7,12,.bool false),(8,13,undef),(9,14,undef),(10,15,undef),(11,16,undef),(12,17,undef),(13,18,undef),(14,19,undef),(15,20,undef),(16,21,undef),(17,22,.bool false)] hd (B.up (bt G hb5)) ⟨Ab1 rfl h1,A9 rfl,C7,C7,C7,C7,Ax9,Ax9,Ax9,Ax9,C7,J1 rfl,trivial⟩ (N5 _  (bt G hb5))
 exact M0 18 rG [(0,5,pt n1 35),(1,6,pt n1 35),(2,7,i6 e.q.code),(3,8,pt n1 2),(4,9,i6 e.ph)] h0 (B.up (bd _)) ⟨A7 rfl e1,A7 rfl,F5 rfl (fun w hw=>hw.blk.endIn.qcode),A7 rfl e1,F5 rfl (fun w hw=>hw.blk.endIn.ph),trivial⟩ (N0 _  (bd w))
theorem Fm0{e:Ev}{n1:Nat}{a:Act}{w:World}{Q:Exit→Act→World→Prop}(hsz:66≤a.tmps.size)(e1:a.tmps.getD 1 undef=.pointer (some ⟨n1,0,none⟩))(hP:∀c a d v w,Q (.panic c) (Act.put a d v) w→Q (.panic c) a w)(B:A6 46 w n1 (A8 e))(Hp:0≤e.ph∧e.ph≤8)(h1:(e.q.code != Ae0 e.ph)=true)(h2:(e.ph != 3)=true)
 (hQ:∀{x5 x6 x7 x8 x9 x10 x11 x12 x13 x14 x15 x16 x17 x18 x19 x20 x21} w',A6 46 w' n1 (A8 e)→Below w.heap.size w w'→Q .normal (C6 a W4 [x5,x6,x7,x8,x9,x10,x11,x12,x13,x14,x15,x16,x17,x18,x19,x20,x21,.bool true]) w'):
 (Code.region 1 Aq5.1 true).wp Tryz.prog Q a w:=by
 have rG:Rgn Aq5.1 W4 a Q:=⟨fun k hk=>Nat.lt_of_lt_of_le ((by decide:∀k∈W4,k<66) k hk) hsz,by kernel_rfl,hP⟩;have hb:=rG.b;obtain⟨i,h0⟩:=U5 a W4;let S:World→Prop:=fun w'=>A6 46 w' n1 (A8 e);refine wp_region_held_drew (S:=S) (by kernel_rfl) (B.up (bd _)) fun hHeld=>?_;have N5:∀(u:World) (G:Below w.heap.size w u),wpAnyH Tryz.prog .any Aq5.1 Q S 0 (lm 18 262143) (C6 a W4 [pt n1 35,pt n1 35,i6 e.q.code,pt n1 2,i6 e.ph,i6 (Ae0 e.ph),.bool true,.bool true,pt n1 2,i6 e.ph,.bool true,.bool true,undef,undef,undef,undef,.bool true,.bool true]) u:=by
  intro u G;refine S8 ?_;exact hQ _ (B.up G) G
 have N0:∀(u:World) (G:Below w.heap.size w u),wpAnyH Tryz.prog .any Aq5.1 Q S 13 (lm 18 31) (C6 a W4 [pt n1 35,pt n1 35,i6 e.q.code,pt n1 2,i6 e.ph,i 10,i 11,i 12,i 13,i 14,i 15,i 16,i 17,i 18,i 19,i 20,i 21,i 22]) u:=by
  intro u G;refine D7 [5] (C9 rG Bu4 ?_ AllReadyH.nil);intro o hp hd;refine M6 hp (rG.ev1 (i6 e.ph)) (Bd8 e.ph Hp _) ?_;rintro x u5 ⟨rfl,hb5⟩;refine⟨_,rfl,?_⟩;exact I1 rG [(6,11,.bool true),(7,12,.bool true),(8,13,pt n1 2),(9,14,i6 e.ph),(10,15,.bool true),(11,16,.bool true),(12,17,undef),(13,18,undef),(14,19,undef),(15,20,undef),(16,21,.bool true),(17,22,.bool true)] hd (B.up (bt G hb5)) ⟨Ab1 rfl h1,A9 rfl,A7 rfl e1,F5 rfl (fun w hw=>hw.blk.endIn.ph),Ab1 rfl h2,A9 rfl,C7,C7,C7,C7,J1 rfl,J1 rfl,trivial⟩ (N5 _  (bt G hb5))
 exact M0 18 rG [(0,5,pt n1 35),(1,6,pt n1 35),(2,7,i6 e.q.code),(3,8,pt n1 2),(4,9,i6 e.ph)] h0 (B.up (bd _)) ⟨A7 rfl e1,A7 rfl,F5 rfl (fun w hw=>hw.blk.endIn.qcode),A7 rfl e1,F5 rfl (fun w hw=>hw.blk.endIn.ph),trivial⟩ (N0 _  (bd w))
theorem Fm1{e:Ev}{n1:Nat}{a:Act}{w:World}{Q:Exit→Act→World→Prop}(hsz:66≤a.tmps.size)(e1:a.tmps.getD 1 undef=.pointer (some ⟨n1,0,none⟩))(hP:∀c a d v w,Q (.panic c) (Act.put a d v) w→Q (.panic c) a w)(B:A6 46 w n1 (A8 e))(Hp:0≤e.ph∧e.ph≤8)(h1:(e.q.code != Ae0 e.ph)=true)(h2:(e.ph != 3)=false)(h3:(e.q.code != 301)=true)
 (hQ:∀{x5 x6 x7 x8 x9 x10 x11 x12 x13 x14 x15 x16 x17 x18 x19 x20 x21} w',A6 46 w' n1 (A8 e)→Below w.heap.size w w'→Q .normal (C6 a W4 [x5,x6,x7,x8,x9,x10,x11,x12,x13,x14,x15,x16,x17,x18,x19,x20,x21,.bool true]) w'):
 (Code.region 1 Aq5.1 true).wp Tryz.prog Q a w:=by
 have rG:Rgn Aq5.1 W4 a Q:=⟨fun k hk=>Nat.lt_of_lt_of_le ((by decide:∀k∈W4,k<66) k hk) hsz,by kernel_rfl,hP⟩;have hb:=rG.b;obtain⟨i,h0⟩:=U5 a W4;let S:World→Prop:=fun w'=>A6 46 w' n1 (A8 e);refine wp_region_held_drew (S:=S) (by kernel_rfl) (B.up (bd _)) fun hHeld=>?_;have N5:∀(u:World) (G:Below w.heap.size w u),wpAnyH Tryz.prog .any Aq5.1 Q S 0 (lm 18 262143) (C6 a W4 [pt n1 35,pt n1 35,i6 e.q.code,pt n1 2,i6 e.ph,i6 (Ae0 e.ph),.bool true,.bool true,pt n1 2,i6 e.ph,.bool false,.bool false,pt n1 35,pt n1 35,i6 e.q.code,.bool true,.bool true,.bool true]) u:=by
  intro u G;refine S8 ?_;exact hQ _ (B.up G) G
 have N0:∀(u:World) (G:Below w.heap.size w u),wpAnyH Tryz.prog .any Aq5.1 Q S 13 (lm 18 31) (C6 a W4 [pt n1 35,pt n1 35,i6 e.q.code,pt n1 2,i6 e.ph,i 10,i 11,i 12,i 13,i 14,i 15,i 16,i 17,i 18,i 19,i 20,i 21,i 22]) u:=by
  intro u G;refine D7 [5] (C9 rG Bu4 ?_ AllReadyH.nil);intro o hp hd;refine M6 hp (rG.ev1 (i6 e.ph)) (Bd8 e.ph Hp _) ?_;rintro x u5 ⟨rfl,hb5⟩;refine⟨_,rfl,?_⟩;exact I1 rG [(6,11,.bool true),(7,12,.bool true),(8,13,pt n1 2),(9,14,i6 e.ph),(10,15,.bool false),(11,16,.bool false),(12,17,pt n1 35),(13,18,pt n1 35),(14,19,i6 e.q.code),(15,20,.bool true),(16,21,.bool true),(17,22,.bool true)] hd (B.up (bt G hb5)) ⟨Ab1 rfl h1,A9 rfl,A7 rfl e1,F5 rfl (fun w hw=>hw.blk.endIn.ph),Ab1 rfl h2,A9 rfl,A7 rfl e1,A7 rfl,F5 rfl (fun w hw=>hw.blk.endIn.qcode),Ab1 rfl h3,J1 rfl,J1 rfl,trivial⟩ (N5 _  (bt G hb5))
 exact M0 18 rG [(0,5,pt n1 35),(1,6,pt n1 35),(2,7,i6 e.q.code),(3,8,pt n1 2),(4,9,i6 e.ph)] h0 (B.up (bd _)) ⟨A7 rfl e1,A7 rfl,F5 rfl (fun w hw=>hw.blk.endIn.qcode),A7 rfl e1,F5 rfl (fun w hw=>hw.blk.endIn.ph),trivial⟩ (N0 _  (bd w))
theorem Fm2{e:Ev}{n1:Nat}{a:Act}{w:World}{Q:Exit→Act→World→Prop}(hsz:66≤a.tmps.size)(e1:a.tmps.getD 1 undef=.pointer (some ⟨n1,0,none⟩))(hP:∀c a d v w,Q (.panic c) (Act.put a d v) w→Q (.panic c) a w)(B:A6 46 w n1 (A8 e))(Hp:0≤e.ph∧e.ph≤8)(h1:(e.q.code != Ae0 e.ph)=true)(h2:(e.ph != 3)=false)(h3:(e.q.code != 301)=false)
 (hQ:∀{x5 x6 x7 x8 x9 x10 x11 x12 x13 x14 x15 x16 x17 x18 x19 x20 x21} w',A6 46 w' n1 (A8 e)→Below w.heap.size w w'→Q .normal (C6 a W4 [x5,x6,x7,x8,x9,x10,x11,x12,x13,x14,x15,x16,x17,x18,x19,x20,x21,.bool false]) w'):
 (Code.region 1 Aq5.1 true).wp Tryz.prog Q a w:=by
 have rG:Rgn Aq5.1 W4 a Q:=⟨fun k hk=>Nat.lt_of_lt_of_le ((by decide:∀k∈W4,k<66) k hk) hsz,by kernel_rfl,hP⟩;have hb:=rG.b;obtain⟨i,h0⟩:=U5 a W4;let S:World→Prop:=fun w'=>A6 46 w' n1 (A8 e);refine wp_region_held_drew (S:=S) (by kernel_rfl) (B.up (bd _)) fun hHeld=>?_;have N5:∀(u:World) (G:Below w.heap.size w u),wpAnyH Tryz.prog .any Aq5.1 Q S 0 (lm 18 262143) (C6 a W4 [pt n1 35,pt n1 35,i6 e.q.code,pt n1 2,i6 e.ph,i6 (Ae0 e.ph),.bool true,.bool true,pt n1 2,i6 e.ph,.bool false,.bool false,pt n1 35,pt n1 35,i6 e.q.code,.bool false,.bool false,.bool false]) u:=by
  intro u G;refine S8 ?_;exact hQ _ (B.up G) G
 have N0:∀(u:World) (G:Below w.heap.size w u),wpAnyH Tryz.prog .any Aq5.1 Q S 13 (lm 18 31) (C6 a W4 [pt n1 35,pt n1 35,i6 e.q.code,pt n1 2,i6 e.ph,i 10,i 11,i 12,i 13,i 14,i 15,i 16,i 17,i 18,i 19,i 20,i 21,i 22]) u:=by
  intro u G;refine D7 [5] (C9 rG Bu4 ?_ AllReadyH.nil);intro o hp hd;refine M6 hp (rG.ev1 (i6 e.ph)) (Bd8 e.ph Hp _) ?_;rintro x u5 ⟨rfl,hb5⟩;refine⟨_,rfl,?_⟩;exact I1 rG [(6,11,.bool true),(7,12,.bool true),(8,13,pt n1 2),(9,14,i6 e.ph),(10,15,.bool false),(11,16,.bool false),(12,17,pt n1 35),(13,18,pt n1 35),(14,19,i6 e.q.code),(15,20,.bool false),(16,21,.bool false),(17,22,.bool false)] hd (B.up (bt G hb5)) ⟨Ab1 rfl h1,A9 rfl,A7 rfl e1,F5 rfl (fun w hw=>hw.blk.endIn.ph),Ab1 rfl h2,A9 rfl,A7 rfl e1,A7 rfl,F5 rfl (fun w hw=>hw.blk.endIn.qcode),Ab1 rfl h3,J1 rfl,J1 rfl,trivial⟩ (N5 _  (bt G hb5))
 exact M0 18 rG [(0,5,pt n1 35),(1,6,pt n1 35),(2,7,i6 e.q.code),(3,8,pt n1 2),(4,9,i6 e.ph)] h0 (B.up (bd _)) ⟨A7 rfl e1,A7 rfl,F5 rfl (fun w hw=>hw.blk.endIn.qcode),A7 rfl e1,F5 rfl (fun w hw=>hw.blk.endIn.ph),trivial⟩ (N0 _  (bd w))
theorem Eq3{e:Ev}{n1:Nat}{a:Act}{w:World}{Q:Exit→Act→World→Prop}(hsz:66≤a.tmps.size)(e1:a.tmps.getD 1 undef=.pointer (some ⟨n1,0,none⟩))(hP:∀c a d v w,Q (.panic c) (Act.put a d v) w→Q (.panic c) a w)(B:A6 46 w n1 (A8 e))(Hp:0≤e.ph∧e.ph≤8)
 (hQ:∀{x5 x6 x7 x8 x9 x10 x11 x12 x13 x14 x15 x16 x17 x18 x19 x20 x21} w',A6 46 w' n1 (A8 e)→Below w.heap.size w w'→Q .normal (C6 a W4 [x5,x6,x7,x8,x9,x10,x11,x12,x13,x14,x15,x16,x17,x18,x19,x20,x21,.bool (!Bd6 e)]) w'):(Code.region 1 Aq5.1 true).wp Tryz.prog Q a w:=by
 unfold Bd6 at hQ;cases c1:(e.q.code==Ae0 e.ph) with
 | true=>rw[c1] at hQ;exact Fl9 hsz e1 hP B Hp (show(_ != _)=_ by rw[bne,c1];rfl) hQ
 | false=>
   cases c2:(e.ph==3) with
   | false=>rw[c1,c2] at hQ;exact Fm0 hsz e1 hP B Hp (show(_ != _)=_ by rw[bne,c1];rfl) (show(_ != _)=_ by rw[bne,c2];rfl) hQ
   | true=>
     cases c3:(e.q.code==301) with
     | false=>rw[c1,c2,c3] at hQ;exact Fm1 hsz e1 hP B Hp (show(_ != _)=_ by rw[bne,c1];rfl) (show(_ != _)=_ by rw[bne,c2];rfl) (show(_ != _)=_ by rw[bne,c3];rfl) hQ
     | true=>rw[c1,c2,c3] at hQ;exact Fm2 hsz e1 hP B Hp (show(_ != _)=_ by rw[bne,c1];rfl) (show(_ != _)=_ by rw[bne,c2];rfl) (show(_ != _)=_ by rw[bne,c3];rfl) hQ
def Bs5(e:Ev):Bool:=(e.oth==0)&&Aq9 e
theorem Cx9(e:Ev)(w:World):Calls Tryz.prog 153 #[.agg (A8 e).toArray] w (F9 w (Bs5 e)):=by
 have HR:=Lh (fun(W:World)=>(show Calls Tryz.prog 145 #[e.r.v] W fun x w'=>x=.returned (.bool (Bm0 e))∧Below W.heap.size W w' from Ar9 e.r.c e.r.o e.r.p e.r.l e.r.t W));have HZ:=Lh (Cc2 e);have HI:=Lh S0;have HJ:=Lh Ab4;have HB:=Lh (show Bs5 e=((e.oth==0)&&((e.seq==0)&&(Bf5 e&&Bm0 e))) from rfl);go_enter Tryz.func153,Tryz.ntmps153
 go_upto_region 1 with(fail)
 generalize hW:World.alloc w _=W;have B:=Lh (show A6 46 W w.heap.size (A8 e) by rw[←hW];exact A6.new w (A8 e) _);have G:=Lh (show Below w.heap.size w W by rw[←hW];exact ba w _);clear hW;generalize hn1:w.heap.size=n1 at B ⊢;clear hn1;have GR:=Lh B.out.blk.endIn.at_r;go_wp2_with (refine C8 32 (.tmp 4) n1 27 (by first | rfl | simp[Region.wanted,yielded]) rfl rfl GR.out Tryz.underlying32 rfl HJ.out ?_)
 refine(HR.out _).mono ?_;rintro x w2 ⟨rfl,hb⟩;replace B:=Lh (B.out.up hb);replace G:=Lh (bt G.out hb);clear hb HR GR;have GW:=Lh B.out.blk.endIn.at_w;have g7:=B.out.blk.endIn.oth;have g9:=B.out.blk.endIn.seq;have hz:=HZ.out;generalize Bf5 e=Z at hz HB;generalize Bm0 e=R at HB ⊢;clear HZ B;rcases t0:(e.oth==0) with _ | _
 ·rw[t0,Bool.false_and] at HB;go_wp2_with fail
  go_ret;exact⟨I5 HB.out.symm,G.out⟩
 ·rw[t0,Bool.true_and] at HB;rcases s0:(e.seq==0) with _ | _
  ·rw[s0,Bool.false_and] at HB;go_wp2_with fail
   go_ret;exact⟨I5 HB.out.symm,G.out⟩
  ·rw[s0,Bool.true_and] at HB;rcases Z with _ | _;all_goals
    go_wp2_with (refine C8 28 (.tmp 16) n1 10 (by first | rfl | simp[Region.wanted,yielded]) rfl rfl GW.out Tryz.underlying28 rfl (by rw[F8];exact HI.out) ?_)
    go_ret;exact⟨I5 (by rw[HB.out];rfl),G.out⟩
theorem Ff4{e:Ev}(hl:X7 e.ph=false)(h0:0≤e.own)(b:Bool)(h:b=true↔(e.oth=0∧Aq9 e=true∧(0<e.own↔e.ph=1)∧Bd6 e=true)):b=Aa0 e:=by
 by_cases hp:e.ph=1
 ·refine Eb7 hp b (h.trans ?_);exact⟨fun⟨a,b,c,d⟩=>⟨c.2 hp,a,b,d⟩,fun⟨a,b,c,d⟩=>⟨b,c,⟨fun _=>hp,fun _=>a⟩,d⟩⟩
 ·refine Eb8 hl hp b (h.trans ?_);exact⟨fun⟨a,b,c,d⟩=>⟨by rcases Int.lt_or_eq_of_le h0 with h | h;exact absurd (c.1 h) hp;exact h.symm,a,b,d⟩,fun⟨a,b,c,d⟩=>⟨b,c,⟨fun h=>by omega,fun h=>absurd h hp⟩,d⟩⟩
theorem Ff5{e:Ev}(h:Bd6 e=false):Aa0 e=false:=by unfold Aa0;rw[h];rfl
theorem Cc3(e:Ev)(w:World)(h0:0≤e.own)(hp:0≤e.ph∧e.ph≤8):Calls Tryz.prog 86 #[.agg (A8 e).toArray] w (F9 w (Aa0 e)):=by
 have Hp:=Lh hp;have H0:=Lh h0;have HI:=Lh Q3;have HBr:=Lh (fun W=>Cx9 e W);clear hp h0;go_enter Tryz.func86,Tryz.ntmps86
 go_upto_region 1 with(fail)
 generalize hW:World.alloc w _=W;have B:=Lh (show A6 46 W w.heap.size (A8 e) by rw[←hW];exact A6.new w (A8 e) _);have G:=Lh (show Below w.heap.size w W by rw[←hW];exact ba w _);clear hW;generalize hn1:w.heap.size=n1 at B ⊢;clear hn1;refine Eq3 (e:=e) (Nat.le_refl _) rfl (fun _ _ d _ _ h=>by cases d<;>exact h) B.out Hp.out ?_;intro _ _ _ _ _ _ _ _ _ _ _ _ _ _ _ _ _ w9 hB9 hb9;simp only[C6,Act.put,List.setIfInBounds_toArray,List.set_cons_zero,List.set_cons_succ];replace B:=Lh hB9;replace G:=Lh (bt G.out hb9);clear hB9 hb9;have HF:=Lh (Ff5 (e:=e));have H1:=Lh (Da2 (e:=e) rfl);have H3:=Lh (fun h=>Ff4 (e:=e) h H0.out);have HK:=Lh (fun W=>Bp9 e.ph W);generalize Bd6 e=q at HF H1 H3 ⊢;rcases q with _ | _
 ·replace HF:=Lh (HF.out rfl);clear H1 H3 HK;go_wp2_with fail
  go_ret;exact⟨I5 HF.out.symm,G.out⟩
 ·clear HF;go_wp2_with (refine M7 46 (.tmp 1) n1 (cs:=A8 e) (by first | rfl | simp[Region.wanted,yielded]) rfl rfl B.out.blk Tryz.underlying46 rfl (by rw[I3];exact HI.out) ?_)
  refine(HBr.out _).mono ?_;rintro x w2 ⟨rfl,hb⟩;replace B:=Lh (B.out.up hb);replace G:=Lh (bt G.out hb);clear hb HBr;have HBe:=Lh (show Bs5 e=true↔(e.oth=0∧Aq9 e=true) by unfold Bs5;simp);have g2:=B.out.blk.endIn.ph;have g6:=B.out.blk.endIn.own;have g7:=B.out.blk.endIn.oth;have gc:=B.out.blk.endIn.cno;have gp:=B.out.blk.endIn.pno;clear B;generalize Bs5 e=bb at HBe ⊢;generalize Aq9 e=b2 at H3 HBe;generalize X7 e.ph=l at H1 H3 HK;go_wp2_with fail
  refine(HK.out _).mono ?_;rintro x w3 ⟨rfl,rfl⟩;rcases l with _ | _
  ·replace H3:=Lh (H3.out rfl);have hbe:=HBe.out;clear H1 HK HBe;rcases bb with _ | _
   ·have HF:=Lh (show false=Aa0 e from H3.out false (by
     rcases b2 with _ | _
     ·simp
     ·have:¬e.oth=0:=fun h=>by simp[h] at hbe
      simp[this]))
    clear hbe H3;go_wp2_with fail
    all_goals
     go_ret;exact⟨I5 HF.out,G.out⟩
   ·have h2:e.oth=0∧b2=true:=hbe.1 rfl;obtain⟨ho,rfl⟩:=h2;have HO:=Lh ho;clear hbe ho;go_wp2_with fail
    all_goals
     go_ret;refine⟨I5 (H3.out _ ?_),G.out⟩;have ho:=HO.out
     (try simp only[Bool.false_eq_true,false_iff,true_iff,iff_true,iff_false,decide_eq_true_eq,decide_eq_false_iff_not,Bool.and_eq_true,Bool.or_eq_true,beq_iff_eq,beq_eq_false_iff_ne,bne_iff_ne,ne_eq,false_and,and_false,true_and,and_true,not_false_eq_true,not_true_eq_false,ho] at *)
     (try rw[Bool.eq_iff_iff])
     (try simp only[decide_eq_true_eq,beq_iff_eq])
  ·clear H3 HBe HK;go_wp2_with fail
   all_goals
    go_ret;refine⟨I5 (H1.out _ ?_ (by first | rfl | trivial)),G.out⟩;clear H1
    (try simp only[Bool.false_eq_true,false_iff,true_iff,iff_true,iff_false,decide_eq_true_eq,decide_eq_false_iff_not,Bool.and_eq_true,Bool.or_eq_true,beq_iff_eq,beq_eq_false_iff_ne,bne_iff_ne,ne_eq,false_and,and_false,true_and,and_true,not_false_eq_true,not_true_eq_false] at *)<;>omega
def Bs6(e:Ev):Bool:=decide (0≤e.id∧e.id≤1)
def Bs7(e:Ev):Bool:=decide (0≤e.ph∧e.ph≤8)
def Bu5(e:Ev):Bool:=Ad6 4611686018427387904 [e.own,e.oth,e.seen,e.seq]
def Ch5(e:Ev):Bool:=Ad6 999999 [e.stan,e.day]
def Az9(e:Ev):Bool:=decide (Ad0 e.wt e.wb)
def Am0(e:Ev):Bool:=Af0 e.r.c e.r.o e.r.p e.r.l e.r.t
def Bd2(e:Ev):Bool:=Ah8 e.s1.l e.s2.l&&(Az9 e&&(Am0 e&&(Ai7 e.q&&U0 e.h e.hs)))
def Bp0(e:Ev):Bool:=Bs6 e&&(Bs7 e&&(Bu5 e&&Ch5 e))
def Z6(e:Ev):Bool:=Bp0 e&&(Bd2 e&&((e.k.l.length==32)&&(Ab9 e&&Aa0 e)))
theorem Ax1{w:World}{e:Ev}(h:Ae6 w e):Bb2 w (.agg #[.slice e.s1.a e.s1.l.length e.s1.c,.slice e.s2.a e.s2.l.length e.s2.c]) e.s1.l e.s2.l:=⟨_,_,_,_,rfl,⟨h.s1.le,h.s1.max⟩,⟨h.s2.le,h.s2.max⟩,h.s1.b,h.s2.b⟩
theorem Ae6.qmax{w:World}{e:Ev}(h:Ae6 w e):e.q.body.length≤maxLen:=Nat.le_trans h.ql.1 h.ql.2
theorem Ae6.umax{w:World}{e:Ev}(h:Ae6 w e):e.u.length≤maxLen:=Nat.le_trans h.ul.1 h.ul.2
theorem Bd7(e:Ev)(w:World)(h:Ae6 w e):Calls Tryz.prog 42 #[.agg (A8 e).toArray] w (F9 w (Z6 e)):=by
 have HE:=Lh (show(Tryz.prog.info? 46).map (·.size)=some (A8 e).length by rw[I3];exact Q3);have HS:=Lh Au9;have HW:=Lh (show(Tryz.prog.info? 28).map (·.size)=some (D0 e.wt e.wb).length by rw[F8];exact S0);have HR:=Lh Ab4;have HA:=Lh Bb5;have HH:=Lh Ak6;have N1:=Lh (fun(r:Bool) (hr:Bs6 e=r)=>Bo9 (hi:=1) (l:=[e.id]) r (by rw[←hr];unfold Bs6 Ad6;simp) 1 rfl (by decide));have N2:=Lh (fun(r:Bool) (hr:Bs7 e=r)=>Bo9 (hi:=8) (l:=[e.ph]) r (by rw[←hr];unfold Bs7 Ad6;simp) 1 rfl (by decide));have N3:=Lh (fun(r:Bool) (hr:Bu5 e=r)=>Bo9 (hi:=4611686018427387904) (l:=[e.own,e.oth,e.seen,e.seq]) r hr 4 rfl (by decide));have N4:=Lh (fun(r:Bool) (hr:Ch5 e=r)=>Bo9 (hi:=999999) (l:=[e.stan,e.day]) r hr 2 rfl (by decide));have P1:=Lh (fun(r:Bool) (hr:Ah8 e.s1.l e.s2.l=r) (W:World) (hb:Below w.heap.size w W)=>(show Calls Tryz.prog 93 #[.agg #[.slice e.s1.a e.s1.l.length e.s1.c,.slice e.s2.a e.s2.l.length e.s2.c]] W (F9 W r) from hr▸Cw4 _ _ _ W (Ax1 (h.mono hb))));have P2:=Lh (fun(r:Bool) (hr:Az9 e=r) (W:World)=>(show Calls Tryz.prog 94 #[.agg (D0 e.wt e.wb).toArray] W (F9 W r) from hr▸Cn6 e.wt e.wb h.wt W));have P3:=Lh (fun(r:Bool) (hr:Am0 e=r) (W:World)=>(show Calls Tryz.prog 95 #[.agg e.r.L.toArray] W (F9 W r) from hr▸Cs0 e.r.c e.r.o e.r.p e.r.l e.r.t W));have P4:=Lh (fun(r:Bool) (hr:Ai7 e.q=r) (W:World) (hb:Below w.heap.size w W)=>(show Calls Tryz.prog 96 #[.agg (M9 e.q e.qa e.qc).toArray] W (F9 W r) from hr▸Co0 e.q e.qa e.qc W h.qmax (h.q.mono hb)));have P5:=Lh (fun(r:Bool) (hr:U0 e.h e.hs=r) (W:World) (hb:Below w.heap.size w W)=>(show Calls Tryz.prog 97 #[.agg e.h.L.toArray] W (F9 W r) from hr▸Cr7 e.h e.hs W (h.h.mono hb)));have M1:=Lh (fun(r:Bool) (hr:Ab9 e=r) (W:World) (hb:Below w.heap.size w W)=>(show Calls Tryz.prog 98 #[.agg (A8 e).toArray] W (F9 W r) from hr▸Cl7 e W (h.u.mono hb) h.umax));have M2:=Lh (fun(r:Bool) (hr:Aa0 e=r) (W:World) (hb:Below w.heap.size w W)=>(show Calls Tryz.prog 99 #[.agg (A8 e).toArray] W (F9 W r) from hr▸Ch4 e W (h.mono hb)));have HQ:=Lh (show Z6 e=(Bp0 e&&(Bd2 e&&((e.k.l.length==32)&&(Ab9 e&&Aa0 e)))) from rfl);have HP:=Lh (show Bd2 e=(Ah8 e.s1.l e.s2.l&&(Az9 e&&(Am0 e&&(Ai7 e.q&&U0 e.h e.hs)))) from rfl);clear h;go_enter Tryz.func42,Tryz.ntmps42
 go_upto_region 1 with(fail)
 generalize hW:World.alloc w _=W;have B:=Lh (show A6 46 W w.heap.size (A8 e) by rw[←hW];exact A6.new w (A8 e) _);have G:=Lh (show Below w.heap.size w W by rw[←hW];exact ba w _);clear hW;generalize hn1:w.heap.size=n1 at B ⊢;clear hn1;go_cut [3] (fun v3 wx=>v3=.bool (Bp0 e)∧A6 46 wx n1 (A8 e)∧Below w.heap.size w wx)
 case first=>
  replace N1:=Lh (N1.out _ rfl);replace N2:=Lh (N2.out _ rfl);replace N3:=Lh (N3.out _ rfl);replace N4:=Lh (N4.out _ rfl);have HX:=Lh (show Bp0 e=(Bs6 e&&(Bs7 e&&(Bu5 e&&Ch5 e))) from rfl);generalize Bs6 e=z1 at N1 HX;generalize Bs7 e=z2 at N2 HX;generalize Bu5 e=z3 at N3 HX;generalize Ch5 e=z4 at N4 HX;have g0:=B.out.blk.endIn.id;go_wp2_with fail
  refine(N1.out _ _ rfl).mono ?_;rintro x w2 ⟨rfl,hb⟩;replace B:=Lh (B.out.up hb);replace G:=Lh (bt G.out hb);clear hb g0;rcases z1 with _ | _
  ·go_wp2_with fail
   go_meet
   exact⟨by simp only[HX.out,Bool.false_and,Bool.and_false,Bool.true_and,Bool.and_true],B.out,G.out⟩
  ·have g0:=B.out.blk.endIn.ph;go_wp2_with fail
   refine(N2.out _ _ rfl).mono ?_;rintro x w3 ⟨rfl,hb⟩;replace B:=Lh (B.out.up hb);replace G:=Lh (bt G.out hb);clear hb g0;rcases z2 with _ | _
   ·go_wp2_with fail
    go_meet
    exact⟨by simp only[HX.out,Bool.false_and,Bool.and_false,Bool.true_and,Bool.and_true],B.out,G.out⟩
   ·have g0:=B.out.blk.endIn.own;have g1:=B.out.blk.endIn.oth;have g2:=B.out.blk.endIn.seen;have g3:=B.out.blk.endIn.seq;go_wp2_with fail
    refine(N3.out _ _ rfl).mono ?_;rintro x w4 ⟨rfl,hb⟩;replace B:=Lh (B.out.up hb);replace G:=Lh (bt G.out hb);clear hb g0 g1 g2 g3;rcases z3 with _ | _
    ·go_wp2_with fail
     go_meet
     exact⟨by simp only[HX.out,Bool.false_and,Bool.and_false,Bool.true_and,Bool.and_true],B.out,G.out⟩
    ·have g0:=B.out.blk.endIn.stan;have g1:=B.out.blk.endIn.day;go_wp2_with fail
     refine(N4.out _ _ rfl).mono ?_;rintro x w5 ⟨rfl,hb⟩;replace B:=Lh (B.out.up hb);replace G:=Lh (bt G.out hb);clear hb g0 g1;go_wp2_with fail
     go_meet
     exact⟨by simp only[HX.out,Bool.false_and,Bool.and_false,Bool.true_and,Bool.and_true],B.out,G.out⟩
 case rest=>
  obtain⟨rfl,hB,hG⟩:=hcut;replace B:=Lh hB;replace G:=Lh hG;clear hB hG N1 N2 N3 N4;go_upto_region 2 with(fail)
  go_cut [4] (fun v4 wx=>v4=.bool (Bd2 e)∧A6 46 wx n1 (A8 e)∧Below w.heap.size w wx)
  case first=>
   clear M1 M2 HQ;replace P1:=Lh (P1.out _ rfl);replace P2:=Lh (P2.out _ rfl);replace P3:=Lh (P3.out _ rfl);replace P4:=Lh (P4.out _ rfl);replace P5:=Lh (P5.out _ rfl);have HX:=HP;clear HP;generalize Ah8 e.s1.l e.s2.l=z1 at P1 HX;generalize Az9 e=z2 at P2 HX;generalize Am0 e=z3 at P3 HX;generalize Ai7 e.q=z4 at P4 HX;generalize U0 e.h e.hs=z5 at P5 HX;go_wp2_with (first
   | (refine C8 24 (.tmp 35) n1 3 (by first | rfl | simp[Region.wanted,yielded]) rfl rfl (B.out.blk.endIn.at_s) Tryz.underlying24 rfl HS.out ?_)
   | (refine C8 28 (.tmp 39) n1 10 (by first | rfl | simp[Region.wanted,yielded]) rfl rfl (B.out.blk.endIn.at_w) Tryz.underlying28 rfl HW.out ?_)
   | (refine C8 32 (.tmp 44) n1 27 (by first | rfl | simp[Region.wanted,yielded]) rfl rfl (B.out.blk.endIn.at_r) Tryz.underlying32 rfl HR.out ?_)
   | (refine C8 34 (.tmp 49) n1 35 (by first | rfl | simp[Region.wanted,yielded]) rfl rfl (B.out.blk.endIn.at_q) Tryz.underlying34 rfl HA.out ?_)
   | (refine C8 42 (.tmp 54) n1 43 (by first | rfl | simp[Region.wanted,yielded]) rfl rfl (B.out.blk.endIn.at_h) Tryz.underlying42 rfl HH.out ?_))
   refine(P1.out _ G.out).mono ?_;rintro x w2 ⟨rfl,hb⟩;replace B:=Lh (B.out.up hb);replace G:=Lh (bt G.out hb);clear hb;rcases z1 with _ | _
   ·go_wp2_with fail
    go_meet
    exact⟨by simp only[HX.out,Bool.false_and,Bool.and_false,Bool.true_and,Bool.and_true],B.out,G.out⟩
   ·go_wp2_with (first
   | (refine C8 24 (.tmp 35) n1 3 (by first | rfl | simp[Region.wanted,yielded]) rfl rfl (B.out.blk.endIn.at_s) Tryz.underlying24 rfl HS.out ?_)
   | (refine C8 28 (.tmp 39) n1 10 (by first | rfl | simp[Region.wanted,yielded]) rfl rfl (B.out.blk.endIn.at_w) Tryz.underlying28 rfl HW.out ?_)
   | (refine C8 32 (.tmp 44) n1 27 (by first | rfl | simp[Region.wanted,yielded]) rfl rfl (B.out.blk.endIn.at_r) Tryz.underlying32 rfl HR.out ?_)
   | (refine C8 34 (.tmp 49) n1 35 (by first | rfl | simp[Region.wanted,yielded]) rfl rfl (B.out.blk.endIn.at_q) Tryz.underlying34 rfl HA.out ?_)
   | (refine C8 42 (.tmp 54) n1 43 (by first | rfl | simp[Region.wanted,yielded]) rfl rfl (B.out.blk.endIn.at_h) Tryz.underlying42 rfl HH.out ?_))
    refine(P2.out _).mono ?_;rintro x w3 ⟨rfl,hb⟩;replace B:=Lh (B.out.up hb);replace G:=Lh (bt G.out hb);clear hb;rcases z2 with _ | _
    ·go_wp2_with fail
     go_meet
     exact⟨by simp only[HX.out,Bool.false_and,Bool.and_false,Bool.true_and,Bool.and_true],B.out,G.out⟩
    ·go_wp2_with (first
   | (refine C8 24 (.tmp 35) n1 3 (by first | rfl | simp[Region.wanted,yielded]) rfl rfl (B.out.blk.endIn.at_s) Tryz.underlying24 rfl HS.out ?_)
   | (refine C8 28 (.tmp 39) n1 10 (by first | rfl | simp[Region.wanted,yielded]) rfl rfl (B.out.blk.endIn.at_w) Tryz.underlying28 rfl HW.out ?_)
   | (refine C8 32 (.tmp 44) n1 27 (by first | rfl | simp[Region.wanted,yielded]) rfl rfl (B.out.blk.endIn.at_r) Tryz.underlying32 rfl HR.out ?_)
   | (refine C8 34 (.tmp 49) n1 35 (by first | rfl | simp[Region.wanted,yielded]) rfl rfl (B.out.blk.endIn.at_q) Tryz.underlying34 rfl HA.out ?_)
   | (refine C8 42 (.tmp 54) n1 43 (by first | rfl | simp[Region.wanted,yielded]) rfl rfl (B.out.blk.endIn.at_h) Tryz.underlying42 rfl HH.out ?_))
     refine(P3.out _).mono ?_;rintro x w4 ⟨rfl,hb⟩;replace B:=Lh (B.out.up hb);replace G:=Lh (bt G.out hb);clear hb;rcases z3 with _ | _
     ·go_wp2_with fail
      go_meet
      exact⟨by simp only[HX.out,Bool.false_and,Bool.and_false,Bool.true_and,Bool.and_true],B.out,G.out⟩
     ·go_wp2_with (first
   | (refine C8 24 (.tmp 35) n1 3 (by first | rfl | simp[Region.wanted,yielded]) rfl rfl (B.out.blk.endIn.at_s) Tryz.underlying24 rfl HS.out ?_)
   | (refine C8 28 (.tmp 39) n1 10 (by first | rfl | simp[Region.wanted,yielded]) rfl rfl (B.out.blk.endIn.at_w) Tryz.underlying28 rfl HW.out ?_)
   | (refine C8 32 (.tmp 44) n1 27 (by first | rfl | simp[Region.wanted,yielded]) rfl rfl (B.out.blk.endIn.at_r) Tryz.underlying32 rfl HR.out ?_)
   | (refine C8 34 (.tmp 49) n1 35 (by first | rfl | simp[Region.wanted,yielded]) rfl rfl (B.out.blk.endIn.at_q) Tryz.underlying34 rfl HA.out ?_)
   | (refine C8 42 (.tmp 54) n1 43 (by first | rfl | simp[Region.wanted,yielded]) rfl rfl (B.out.blk.endIn.at_h) Tryz.underlying42 rfl HH.out ?_))
      refine(P4.out _ G.out).mono ?_;rintro x w5 ⟨rfl,hb⟩;replace B:=Lh (B.out.up hb);replace G:=Lh (bt G.out hb);clear hb;rcases z4 with _ | _
      ·go_wp2_with fail
       go_meet
       exact⟨by simp only[HX.out,Bool.false_and,Bool.and_false,Bool.true_and,Bool.and_true],B.out,G.out⟩
      ·go_wp2_with (first
   | (refine C8 24 (.tmp 35) n1 3 (by first | rfl | simp[Region.wanted,yielded]) rfl rfl (B.out.blk.endIn.at_s) Tryz.underlying24 rfl HS.out ?_)
   | (refine C8 28 (.tmp 39) n1 10 (by first | rfl | simp[Region.wanted,yielded]) rfl rfl (B.out.blk.endIn.at_w) Tryz.underlying28 rfl HW.out ?_)
   | (refine C8 32 (.tmp 44) n1 27 (by first | rfl | simp[Region.wanted,yielded]) rfl rfl (B.out.blk.endIn.at_r) Tryz.underlying32 rfl HR.out ?_)
   | (refine C8 34 (.tmp 49) n1 35 (by first | rfl | simp[Region.wanted,yielded]) rfl rfl (B.out.blk.endIn.at_q) Tryz.underlying34 rfl HA.out ?_)
   | (refine C8 42 (.tmp 54) n1 43 (by first | rfl | simp[Region.wanted,yielded]) rfl rfl (B.out.blk.endIn.at_h) Tryz.underlying42 rfl HH.out ?_))
       refine(P5.out _ G.out).mono ?_;rintro x w6 ⟨rfl,hb⟩;replace B:=Lh (B.out.up hb);replace G:=Lh (bt G.out hb);clear hb;go_wp2_with fail
       go_meet
       exact⟨by simp only[HX.out,Bool.false_and,Bool.and_false,Bool.true_and,Bool.and_true],B.out,G.out⟩
  case rest=>
   obtain⟨rfl,hB,hG⟩:=hcut;replace B:=Lh hB;replace G:=Lh hG;clear hB hG P1 P2 P3 P4 P5 HP;replace M1:=Lh (M1.out _ rfl);replace M2:=Lh (M2.out _ rfl);generalize Bp0 e=zn at HQ ⊢;generalize Bd2 e=zp at HQ ⊢;have HK:=Lh (show(e.k.l.length==32)=((e.k.l.length:Int)==32) by rw[Bool.eq_iff_iff];simp only[beq_iff_eq];omega);generalize Ab9 e=z1 at M1 HQ;generalize Aa0 e=z2 at M2 HQ;rw[HK.out] at HQ;rcases zn with _ | _
   ·go_wp2_with fail
    go_ret;exact⟨I5 (by simp only[HQ.out,Bool.false_and]),G.out⟩
   rcases zp with _ | _
   ·go_wp2_with fail
    go_ret;exact⟨I5 (by simp only[HQ.out,Bool.false_and,Bool.and_false]),G.out⟩
   have gk:=B.out.blk.endIn.k;rcases hk:((e.k.l.length:Int)==32) with _ | _
   ·rw[hk] at HQ;go_wp2_with fail
    go_ret;exact⟨I5 (by simp only[HQ.out,Bool.false_and,Bool.and_false]),G.out⟩
   ·rw[hk] at HQ;go_wp2_with (first | (refine M7 46 (.tmp 1) n1 (cs:=A8 e) (by first | rfl | simp[Region.wanted,yielded]) rfl rfl B.out.blk Tryz.underlying46 rfl HE.out ?_))
    refine(M1.out _ G.out).mono ?_;rintro x w2 ⟨rfl,hb⟩;replace B:=Lh (B.out.up hb);replace G:=Lh (bt G.out hb);clear hb;rcases z1 with _ | _
    ·go_wp2_with fail
     go_ret;exact⟨I5 (by simp only[HQ.out,Bool.false_and,Bool.and_false,Bool.true_and,Bool.and_true]),G.out⟩
    ·go_wp2_with (first | (refine M7 46 (.tmp 1) n1 (cs:=A8 e) (by first | rfl | simp[Region.wanted,yielded]) rfl rfl B.out.blk Tryz.underlying46 rfl HE.out ?_))
     refine(M2.out _ G.out).mono ?_;rintro x w3 ⟨rfl,hb⟩;replace B:=Lh (B.out.up hb);replace G:=Lh (bt G.out hb);clear hb;go_wp2_with fail
     go_ret;exact⟨I5 (by simp only[HQ.out,Bool.false_and,Bool.and_false,Bool.true_and,Bool.and_true]),G.out⟩
def Cc4(e:Ev):Prop:=(0≤e.id∧e.id≤1)∧e.k.l.length=32∧(0≤e.ph∧e.ph≤8)∧(0≤e.stan∧e.stan≤999999)∧(0≤e.day∧e.day≤999999)
theorem Eq4{e:Ev}(h:¬Cc4 e):Z6 e=false:=by
 rw[Bool.eq_false_iff];intro hr;apply h;unfold Z6 Bp0 Bs6 Bs7 Ch5 Ad6 at hr;simp only[Bool.and_eq_true,decide_eq_true_eq,beq_iff_eq,List.all_cons,List.all_nil,Bool.and_true] at hr;exact⟨hr.1.1,hr.2.2.1,hr.1.2.1,hr.1.2.2.2.1,hr.1.2.2.2.2⟩
theorem Eb9{e:Ev}(h:Cc4 e):Z6 e=(W6 e.own&&(W6 e.oth&&(W6 e.seen&&(W6 e.seq&&(Ah8 e.s1.l e.s2.l&&(Az9 e&&(Am0 e&&(Ai7 e.q&&(U0 e.h e.hs&&(Ab9 e&&Aa0 e)))))))))):=by
 obtain⟨h1,h2,h3,h4,h5⟩:=h;unfold Z6 Bp0 Bs6 Bs7 Ch5 Bu5 Ad6 Bd2 W6;rw[decide_eq_true h1,decide_eq_true h3,h2];simp only[List.all_cons,List.all_nil,Bool.and_true,decide_eq_true h4,decide_eq_true h5,Bool.true_and,BEq.rfl,Bool.and_assoc]
theorem Cc5(e:Ev)(w:World)(h:Ae6 w e):Calls Tryz.prog 35 #[.agg (A8 e).toArray] w (F9 w (Z6 e)):=by
 have HE:=Lh (show(Tryz.prog.info? 46).map (·.size)=some (A8 e).length by rw[I3];exact Q3);have HS:=Lh Au9;have HW:=Lh (show(Tryz.prog.info? 28).map (·.size)=some (D0 e.wt e.wb).length by rw[F8];exact S0);have HR:=Lh Ab4;have HA:=Lh Bb5;have HH:=Lh Ak6;have HN:=Lh (fun(x:Int) (r:Bool) (hr:W6 x=r) (W:World)=>(show Calls Tryz.prog 57 #[.int .i64 x] W fun e w'=>e=.returned (.bool r)∧Below W.heap.size W w' from(Bf7 x W).mono fun e w' h=>⟨by rw[h.1,hr],h.2▸Below.refl _ _⟩));have P1:=Lh (fun(r:Bool) (hr:Ah8 e.s1.l e.s2.l=r) (W:World) (hb:Below w.heap.size w W)=>(show Calls Tryz.prog 80 #[.agg #[.slice e.s1.a e.s1.l.length e.s1.c,.slice e.s2.a e.s2.l.length e.s2.c]] W (F9 W r) from hr▸Cf7 _ _ _ W (Ax1 (h.mono hb))));have P2:=Lh (fun(r:Bool) (hr:Az9 e=r) (W:World)=>(show Calls Tryz.prog 81 #[.agg (D0 e.wt e.wb).toArray] W (F9 W r) from hr▸Ce9 e.wt e.wb h.wt W));have P3:=Lh (fun(r:Bool) (hr:Am0 e=r) (W:World)=>(show Calls Tryz.prog 82 #[.agg e.r.L.toArray] W (F9 W r) from hr▸Cb7 e.r.c e.r.o e.r.p e.r.l e.r.t W));have P4:=Lh (fun(r:Bool) (hr:Ai7 e.q=r) (W:World) (hb:Below w.heap.size w W)=>(show Calls Tryz.prog 83 #[.agg (M9 e.q e.qa e.qc).toArray] W (F9 W r) from hr▸Cv6 e.q e.qa e.qc W h.qmax (h.q.mono hb)));have P5:=Lh (fun(r:Bool) (hr:U0 e.h e.hs=r) (W:World) (hb:Below w.heap.size w W)=>(show Calls Tryz.prog 84 #[.agg e.h.L.toArray] W (F9 W r) from hr▸Cb5 e.h e.hs W (h.h.mono hb)));have M1:=Lh (fun(r:Bool) (hr:Ab9 e=r) (W:World) (hb:Below w.heap.size w W)=>(show Calls Tryz.prog 85 #[.agg (A8 e).toArray] W (F9 W r) from hr▸Cs2 e W (h.u.mono hb) h.umax));have M2:=Lh (fun(r:Bool) (hr:Aa0 e=r) (h0:W6 e.own=true) (hp:0≤e.ph∧e.ph≤8) (W:World)=>(show Calls Tryz.prog 86 #[.agg (A8 e).toArray] W (F9 W r) from hr▸Cc3 e W (by unfold W6 at h0;exact(of_decide_eq_true h0).1) hp));clear h;go_enter Tryz.func35,Tryz.ntmps35
 go_upto_region 1 with(fail)
 generalize hW:World.alloc w _=W;have B:=Lh (show A6 46 W w.heap.size (A8 e) by rw[←hW];exact A6.new w (A8 e) _);have G:=Lh (show Below w.heap.size w W by rw[←hW];exact ba w _);clear hW;generalize hn1:w.heap.size=n1 at B ⊢;clear hn1;have g0:=B.out.blk.endIn.id;have g1:=B.out.blk.endIn.k;have g2:=B.out.blk.endIn.ph;have g3:=B.out.blk.endIn.stan;have g4:=B.out.blk.endIn.day;by_cases hF:Cc4 e
 ·have HQ:=Lh (Eb9 hF);obtain⟨⟨i0,i1⟩,k0,⟨p0,p1⟩,⟨s0,s1⟩,⟨d0,d1⟩⟩:=hF;have HP:=Lh (And.intro p0 p1);have a0:¬e.id<0:=by omega
  have a1:¬1<e.id:=by omega
  have a2:¬e.ph<0:=by omega
  have a3:¬8<e.ph:=by omega
  have a4:¬e.stan<0:=by omega
  have a5:¬999999<e.stan:=by omega
  have a6:¬e.day<0:=by omega
  have a7:¬999999<e.day:=by omega
  have a8:((e.k.l.length:Int) != 32)=false:=by rw[k0];rfl
  clear i0 i1 k0 p0 p1 s0 s1 d0 d1;go_upto_region 3 with(fail)
  clear g0 g1 g2 g3 g4 a0 a1 a2 a3 a4 a5 a6 a7 a8;have N1:=Lh (HN.out e.own _ rfl);have N2:=Lh (HN.out e.oth _ rfl);have N3:=Lh (HN.out e.seen _ rfl);have N4:=Lh (HN.out e.seq _ rfl);replace P1:=Lh (P1.out _ rfl);replace P2:=Lh (P2.out _ rfl);replace P3:=Lh (P3.out _ rfl);replace P4:=Lh (P4.out _ rfl);replace P5:=Lh (P5.out _ rfl);replace M1:=Lh (M1.out _ rfl);replace M2:=Lh (M2.out _ rfl);clear HN;generalize W6 e.own=z1 at N1 HQ M2;generalize W6 e.oth=z2 at N2 HQ;generalize W6 e.seen=z3 at N3 HQ;generalize W6 e.seq=z4 at N4 HQ;generalize Ah8 e.s1.l e.s2.l=z5 at P1 HQ;generalize Az9 e=z6 at P2 HQ;generalize Am0 e=z7 at P3 HQ;generalize Ai7 e.q=z8 at P4 HQ;generalize U0 e.h e.hs=z9 at P5 HQ;generalize Ab9 e=z10 at M1 HQ;generalize Aa0 e=z11 at M2 HQ;have g0:=B.out.blk.endIn.own;go_wp2_with fail
  refine(N1.out _).mono ?_;rintro x w2 ⟨rfl,hb⟩;replace B:=Lh (B.out.up hb);replace G:=Lh (bt G.out hb);clear hb g0;have g0:=B.out.blk.endIn.oth;go_wp2_with fail
  refine(N2.out _).mono ?_;rintro x w3 ⟨rfl,hb⟩;replace B:=Lh (B.out.up hb);replace G:=Lh (bt G.out hb);clear hb g0;have g0:=B.out.blk.endIn.seen;go_wp2_with fail
  refine(N3.out _).mono ?_;rintro x w4 ⟨rfl,hb⟩;replace B:=Lh (B.out.up hb);replace G:=Lh (bt G.out hb);clear hb g0;have g0:=B.out.blk.endIn.seq;go_wp2_with fail
  refine(N4.out _).mono ?_;rintro x w5 ⟨rfl,hb⟩;replace B:=Lh (B.out.up hb);replace G:=Lh (bt G.out hb);clear hb g0;go_wp2_with (refine C8 24 (.tmp 69) n1 3 (by first | rfl | simp[Region.wanted,yielded]) rfl rfl (B.out.blk.endIn.at_s) Tryz.underlying24 rfl HS.out ?_)
  refine(P1.out _ G.out).mono ?_;rintro x w6 ⟨rfl,hb⟩;replace B:=Lh (B.out.up hb);replace G:=Lh (bt G.out hb);clear hb;go_wp2_with (refine C8 28 (.tmp 72) n1 10 (by first | rfl | simp[Region.wanted,yielded]) rfl rfl (B.out.blk.endIn.at_w) Tryz.underlying28 rfl HW.out ?_)
  refine(P2.out _).mono ?_;rintro x w7 ⟨rfl,hb⟩;replace B:=Lh (B.out.up hb);replace G:=Lh (bt G.out hb);clear hb;go_wp2_with (refine C8 32 (.tmp 75) n1 27 (by first | rfl | simp[Region.wanted,yielded]) rfl rfl (B.out.blk.endIn.at_r) Tryz.underlying32 rfl HR.out ?_)
  refine(P3.out _).mono ?_;rintro x w8 ⟨rfl,hb⟩;replace B:=Lh (B.out.up hb);replace G:=Lh (bt G.out hb);clear hb;go_wp2_with (refine C8 34 (.tmp 78) n1 35 (by first | rfl | simp[Region.wanted,yielded]) rfl rfl (B.out.blk.endIn.at_q) Tryz.underlying34 rfl HA.out ?_)
  refine(P4.out _ G.out).mono ?_;rintro x w9 ⟨rfl,hb⟩;replace B:=Lh (B.out.up hb);replace G:=Lh (bt G.out hb);clear hb;go_wp2_with (refine C8 42 (.tmp 81) n1 43 (by first | rfl | simp[Region.wanted,yielded]) rfl rfl (B.out.blk.endIn.at_h) Tryz.underlying42 rfl HH.out ?_)
  refine(P5.out _ G.out).mono ?_;rintro x w10 ⟨rfl,hb⟩;replace B:=Lh (B.out.up hb);replace G:=Lh (bt G.out hb);clear hb;go_wp2_with (refine M7 46 (.tmp 1) n1 (cs:=A8 e) (by first | rfl | simp[Region.wanted,yielded]) rfl rfl B.out.blk Tryz.underlying46 rfl HE.out ?_)
  refine(M1.out _ G.out).mono ?_;rintro x w11 ⟨rfl,hb⟩;replace B:=Lh (B.out.up hb);replace G:=Lh (bt G.out hb);clear hb;clear N1 N2 N3 N4 P1 P2 P3 P4 P5 M1 HS HW HR HA HH;go_upto_region 13 with(fail)
  rcases z1 with _ | _
  ·go_wp2_with fail
   go_ret;exact⟨I5 (by rw[HQ.out];rfl),G.out⟩
  rcases z2 with _ | _
  ·go_wp2_with fail
   go_ret;exact⟨I5 (by rw[HQ.out];rfl),G.out⟩
  rcases z3 with _ | _
  ·go_wp2_with fail
   go_ret;exact⟨I5 (by rw[HQ.out];rfl),G.out⟩
  rcases z4 with _ | _
  ·go_wp2_with fail
   go_ret;exact⟨I5 (by rw[HQ.out];rfl),G.out⟩
  rcases z5 with _ | _
  ·go_wp2_with fail
   go_ret;exact⟨I5 (by rw[HQ.out];rfl),G.out⟩
  rcases z6 with _ | _
  ·go_wp2_with fail
   go_ret;exact⟨I5 (by rw[HQ.out];rfl),G.out⟩
  rcases z7 with _ | _
  ·go_wp2_with fail
   go_ret;exact⟨I5 (by rw[HQ.out];rfl),G.out⟩
  rcases z8 with _ | _
  ·go_wp2_with fail
   go_ret;exact⟨I5 (by rw[HQ.out];rfl),G.out⟩
  rcases z9 with _ | _
  ·go_wp2_with fail
   go_ret;exact⟨I5 (by rw[HQ.out];rfl),G.out⟩
  rcases z10 with _ | _
  ·go_wp2_with fail
   go_ret;exact⟨I5 (by rw[HQ.out];rfl),G.out⟩
  go_wp2_with (refine M7 46 (.tmp 1) n1 (cs:=A8 e) (by first | rfl | simp[Region.wanted,yielded]) rfl rfl B.out.blk Tryz.underlying46 rfl HE.out ?_)
  refine(M2.out (by first | rfl | trivial) HP.out _).mono ?_;rintro x w20 ⟨rfl,hb⟩;replace G:=Lh (bt G.out hb);clear hb;go_wp2_with fail
  go_ret;exact⟨I5 (by rw[HQ.out];rfl),G.out⟩
 ·have HQ:=Lh (Eq4 hF);have HF:=Lh hF;clear hF;go_upto_region 3 with(fail)
  all_goals
   first
    | (exfalso;apply HF.out;unfold Cc4;(try simp only[bne_eq_false_iff_eq,beq_iff_eq] at *);exact⟨by omega,by omega,by omega,by omega,by omega⟩)
    | (go_wp2_with fail;go_ret;exact⟨I5 HQ.out.symm,G.out⟩)
def no8:Value→Bool
 | .int .u8 _=>false
 | _=>true
theorem Eq6(t:Int)(b:Nat→UInt64):(D0 t b).all no8=true:=by
 unfold D0;rw[List.all_cons];simp only[no8,Bool.true_and,List.all_map];rw[List.all_eq_true];intro i _;rfl
theorem Bp1(e:Ev):(A8 e).all no8=true:=by
 unfold A8;simp only[List.all_append,Eq6,Bool.true_and,Bool.and_true];rfl
theorem R6(s:Sv):(A5 s).all no8=true:=by
 unfold A5;simp only[List.all_append,Bp1,Bool.true_and,Bool.and_true];rfl
theorem Bg9(k d e0 e1 g s:Int)(b t:Option Addr)(bn bc tn tc:Nat):(I7 k d e0 e1 g s (.slice b bn bc) (.slice t tn tc)).all no8=true:=rfl
theorem A4.ne8{w:World}{b:Nat}{cs:List Value}{a:Option Addr}{l:List UInt8}(h:A4 w a l)(hb:Blk w b cs)(hcs:cs.all no8=true):AtP (fun g=>g≠b) w a (B8s l):=by
 by_cases h0:l=[]
 ·subst h0;exact .inl rfl
 rcases h with h | ⟨b',off,rfl,hlt,hc⟩
 ·exact .inl h
 refine .inr ⟨b',off,rfl,?_,hlt,hc⟩;intro hbb;subst hbb;have h1:=hc 0 (by rw[List.length_map];exact List.length_pos_iff.2 h0);obtain⟨T,hg⟩:=hb;rw[Nat.add_zero] at h1;have h2:w.cell? ⟨b',off,none⟩=cs[off]?:=by simp[World.cell?,hg]
 rw[h2] at h1;have hm:=List.mem_of_getElem? h1;have:=(List.all_eq_true.1 hcs) _ hm;rw[Ce7 l 0 (List.length_pos_iff.2 h0)] at this;cases this
structure K8 (b:Nat) (w w':World):Prop where
 blk:∃cs,Blk w b cs∧cs.all no8=true
 k:Kp b w w'
theorem A6.k8{T:TypeId}{b:Nat}{w w':World}{cs:List Value}(h:A6 T w b cs)(hcs:cs.all no8=true)(k:Kp b w w'):K8 b w w':=⟨⟨cs,h.blk,hcs⟩,k⟩
theorem A4.k8{w w':World}{b:Nat}{a:Option Addr}{l:List UInt8}(h:A4 w a l)(k:K8 b w w'):A4 w' a l:=by
 obtain⟨cs,hb,hcs⟩:=k.blk;exact((h.ne8 hb hcs).kp (q:=fun _=>True) k.k fun g hg=>⟨hg,trivial⟩).at
theorem A4.kp8{w w':World}{b:Nat}{cs:List Value}{a:Option Addr}{l:List UInt8}(h:A4 w a l)(hb:Blk w b cs)(hcs:cs.all no8=true)(k:Kp b w w'):A4 w' a l:=
 ((h.ne8 hb hcs).kp (q:=fun _=>True) k fun g hg=>⟨hg,trivial⟩).at
theorem As0.k8{w w':World}{b:Nat}{s:Sl}(h:As0 w s)(k:K8 b w w'):As0 w' s:=⟨h.b.k8 k,h.le,h.max⟩
theorem Aa2.k8{w w':World}{b:Nat}{v:Value}{r:List UInt8}(h:Aa2 w v r)(k:K8 b w w'):Aa2 w' v r:=by
 obtain⟨p,c,h1,h2,h3,h4⟩:=h;exact⟨p,c,h1,h2,h3,A4.k8 h4 k⟩
theorem Az7.k8{w w':World}{b:Nat}{r:Rg}{kc ko kp:List UInt8}(h:Az7 w r kc ko kp)(k:K8 b w w'):Az7 w' r kc ko kp:=
 ⟨h.lc,A4.k8 h.c k,h.lo,A4.k8 h.o k,h.lp,A4.k8 h.p k⟩
theorem Ap1.k8{w w':World}{b:Nat}{h:Hv}{s:Nat→Fd}(hh:Ap1 w h s)(k:K8 b w w'):Ap1 w' h s:=fun i hi=>by
 have:=hh i hi;exact⟨this.len,this.le,this.cap,A4.k8 this.buf k,this.skip,this.bad⟩
def Ai2(q:Nat→Prop)(w:World)(a:Option Addr)(rows:List (List UInt8)):Prop:=∃vs,AtP q w a vs∧Al8 w vs rows
theorem Ai2.at{q:Nat→Prop}{w:World}{a:Option Addr}{rows:List (List UInt8)}(h:Ai2 q w a rows):Y3 w a rows:=by
 obtain⟨vs,h1,h2⟩:=h;exact⟨vs,h1.at,h2⟩
theorem Ai2.to{q p:Nat→Prop}{w:World}{a:Option Addr}{rows:List (List UInt8)}(h:Ai2 q w a rows)(hn:∀g,g<w.heap.size→q g→p g):Ai2 p w a rows:=by
 obtain⟨vs,h1,h2⟩:=h;exact⟨vs,h1.to (Nat.le_refl _) fun g hg hp=>⟨rfl,hn g hg hp⟩,h2⟩
theorem Ai2.mono{q:Nat→Prop}{w w':World}{a:Option Addr}{rows:List (List UInt8)}(h:Ai2 q w a rows)(hb:Below w.heap.size w w'):Ai2 q w' a rows:=by
 obtain⟨vs,h1,h2⟩:=h;exact⟨vs,h1.up hb,h2.mono hb⟩
theorem Ai2.k8{q:Nat→Prop}{w w':World}{b:Nat}{a:Option Addr}{rows:List (List UInt8)}(h:Ai2 q w a rows)(k:K8 b w w')(hn:∀g,q g→g≠b):Ai2 q w' a rows:=by
 obtain⟨vs,h1,h2⟩:=h;exact⟨vs,h1.kp k.k fun g hg=>⟨hn g hg,hg⟩,h2.1,fun i hi=>(h2.2 i hi).k8 k⟩
theorem Ai2.of{q:Nat→Prop}{w:World}{a:Option Addr}{rows:List (List UInt8)}(h:Y3 w a rows)(hq:∀g,g<w.heap.size→q g):Ai2 q w a rows:=by
 obtain⟨vs,h1,h2⟩:=h;exact⟨vs,AtP.of h1 hq,h2⟩
theorem Ai2.nil(q:Nat→Prop)(w:World)(a:Option Addr):Ai2 q w a []:=⟨[],.inl rfl,.nil w⟩
def Af6(q:Nat→Prop)(w:World)(a:Option Addr)(l:List (Int×List UInt8)):Prop:=
 ∃vs:List Value,vs.length=l.length*2∧AtP q w a vs∧∀i,i<l.length→vs.getD (i*2) undef=.int .i64 (l.getD i (0,[])).1∧Aa2 w (vs.getD (i*2+1) undef) (l.getD i (0,[])).2
theorem Af6.at{q:Nat→Prop}{w:World}{a:Option Addr}{l:List (Int×List UInt8)}(h:Af6 q w a l):Ad9 w a l:=by
 obtain⟨vs,h1,h2,h3⟩:=h;exact⟨vs,h1,h2.at,h3⟩
theorem Af6.to{q p:Nat→Prop}{w:World}{a:Option Addr}{l:List (Int×List UInt8)}(h:Af6 q w a l)(hn:∀g,g<w.heap.size→q g→p g):Af6 p w a l:=by
 obtain⟨vs,h1,h2,h3⟩:=h;exact⟨vs,h1,h2.to (Nat.le_refl _) fun g hg hp=>⟨rfl,hn g hg hp⟩,h3⟩
theorem Af6.of{q:Nat→Prop}{w:World}{a:Option Addr}{l:List (Int×List UInt8)}(h:Ad9 w a l)(hq:∀g,g<w.heap.size→q g):Af6 q w a l:=by
 obtain⟨vs,h1,h2,h3⟩:=h;exact⟨vs,h1,AtP.of h2 hq,h3⟩
theorem Af6.mono{q:Nat→Prop}{w w':World}{a:Option Addr}{l:List (Int×List UInt8)}(h:Af6 q w a l)(hb:Below w.heap.size w w'):Af6 q w' a l:=by
 obtain⟨vs,h1,h2,h3⟩:=h;exact⟨vs,h1,h2.up hb,fun i hi=>⟨(h3 i hi).1,(h3 i hi).2.mono hb⟩⟩
theorem Af6.k8{q:Nat→Prop}{w w':World}{b:Nat}{a:Option Addr}{l:List (Int×List UInt8)}(h:Af6 q w a l)(k:K8 b w w')(hn:∀g,q g→g≠b):Af6 q w' a l:=by
 obtain⟨vs,h1,h2,h3⟩:=h;exact⟨vs,h1,h2.kp k.k fun g hg=>⟨hn g hg,hg⟩,fun i hi=>⟨(h3 i hi).1,(h3 i hi).2.k8 k⟩⟩
def Al3(q:Nat→Prop)(w:World)(a:Option Addr)(l:List Gt):Prop:=
 ∃vs:List Value,vs.length=l.length*5∧AtP q w a vs∧∀i,i<l.length→vs.getD (i*5) undef=.int .i64 (l.getD i default).kind∧vs.getD (i*5+1) undef=.int .i64 (l.getD i default).e0∧vs.getD (i*5+2) undef=.int .i64 (l.getD i default).e1∧vs.getD (i*5+3) undef=.int .i64 (l.getD i default).seq∧Aa2 w (vs.getD (i*5+4) undef) (l.getD i default).b
theorem Al3.at{q:Nat→Prop}{w:World}{a:Option Addr}{l:List Gt}(h:Al3 q w a l):Aj0 w a l:=by
 obtain⟨vs,h1,h2,h3⟩:=h;exact⟨vs,h1,h2.at,h3⟩
theorem Al3.to{q p:Nat→Prop}{w:World}{a:Option Addr}{l:List Gt}(h:Al3 q w a l)(hn:∀g,g<w.heap.size→q g→p g):Al3 p w a l:=by
 obtain⟨vs,h1,h2,h3⟩:=h;exact⟨vs,h1,h2.to (Nat.le_refl _) fun g hg hp=>⟨rfl,hn g hg hp⟩,h3⟩
theorem Al3.of{q:Nat→Prop}{w:World}{a:Option Addr}{l:List Gt}(h:Aj0 w a l)(hq:∀g,g<w.heap.size→q g):Al3 q w a l:=by
 obtain⟨vs,h1,h2,h3⟩:=h;exact⟨vs,h1,AtP.of h2 hq,h3⟩
theorem Al3.mono{q:Nat→Prop}{w w':World}{a:Option Addr}{l:List Gt}(h:Al3 q w a l)(hb:Below w.heap.size w w'):Al3 q w' a l:=by
 obtain⟨vs,h1,h2,h3⟩:=h;exact⟨vs,h1,h2.up hb,fun i hi=>⟨(h3 i hi).1,(h3 i hi).2.1,(h3 i hi).2.2.1,(h3 i hi).2.2.2.1,(h3 i hi).2.2.2.2.mono hb⟩⟩
theorem Al3.k8{q:Nat→Prop}{w w':World}{b:Nat}{a:Option Addr}{l:List Gt}(h:Al3 q w a l)(k:K8 b w w')(hn:∀g,q g→g≠b):Al3 q w' a l:=by
 obtain⟨vs,h1,h2,h3⟩:=h;exact⟨vs,h1,h2.kp k.k fun g hg=>⟨hn g hg,hg⟩,fun i hi=>⟨(h3 i hi).1,(h3 i hi).2.1,(h3 i hi).2.2.1,(h3 i hi).2.2.2.1,(h3 i hi).2.2.2.2.k8 k⟩⟩
structure Z0 (Q:Nat→Prop) (w:World) (e:Ev):Prop where
 k:As0 w e.k
 s1:As0 w e.s1
 s2:As0 w e.s2
 r:Az7 w e.r e.kc e.ko e.kp
 rc:e.r.c.len≤e.r.c.cap∧e.r.c.cap≤maxLen
 ro:e.r.o.len≤e.r.o.cap∧e.r.o.cap≤maxLen
 rp:e.r.p.len≤e.r.p.cap∧e.r.p.cap≤maxLen
 q:A4 w e.qa e.q.body
 ql:e.q.body.length≤e.qc∧e.qc≤maxLen
 u:Ai2 Q w e.ua e.u
 ul:e.u.length≤e.uc∧e.uc≤maxLen
 h:Ap1 w e.h e.hs
 hl:∀i,i<4→(e.h.f i).len≤maxLen
 o:Af6 Q w e.oa e.o
 ol:e.o.length≤e.oc∧e.oc≤maxLen
 g:Al3 Q w e.ga e.g
 gl:e.g.length≤e.gc∧e.gc≤maxLen
 wt:-9223372036854775808≤e.wt∧e.wt≤9223372036854775807
theorem Z0.at{q:Nat→Prop}{w:World}{e:Ev}(h:Z0 q w e):Ae6 w e:=⟨h.k,h.s1,h.s2,h.r,h.rc,h.ro,h.rp,h.q,h.ql,h.u.at,h.ul,h.h,h.hl,h.o.at,h.ol,h.g.at,h.gl,h.wt⟩
theorem Ae6.toP{q:Nat→Prop}{w:World}{e:Ev}(h:Ae6 w e)(hq:∀g,g<w.heap.size→q g):Z0 q w e:=⟨h.k,h.s1,h.s2,h.r,h.rc,h.ro,h.rp,h.q,h.ql,.of h.u hq,h.ul,h.h,h.hl,.of h.o hq,h.ol,.of h.g hq,h.gl,h.wt⟩
theorem Z0.to{q p:Nat→Prop}{w:World}{e:Ev}(h:Z0 q w e)(hn:∀g,g<w.heap.size→q g→p g):Z0 p w e:=⟨h.k,h.s1,h.s2,h.r,h.rc,h.ro,h.rp,h.q,h.ql,h.u.to hn,h.ul,h.h,h.hl,h.o.to hn,h.ol,h.g.to hn,h.gl,h.wt⟩
theorem Z0.mono{q:Nat→Prop}{w w':World}{e:Ev}(h:Z0 q w e)(hb:Below w.heap.size w w'):Z0 q w' e:=
 ⟨h.k.mono hb,h.s1.mono hb,h.s2.mono hb,h.r.mono hb,h.rc,h.ro,h.rp,h.q.mono hb,h.ql,h.u.mono hb,h.ul,h.h.mono hb,h.hl,h.o.mono hb,h.ol,h.g.mono hb,h.gl,h.wt⟩
theorem Z0.k8{q:Nat→Prop}{w w':World}{b:Nat}{e:Ev}(h:Z0 q w e)(k:K8 b w w')(hn:∀g,q g→g≠b):Z0 q w' e:=
 ⟨h.k.k8 k,h.s1.k8 k,h.s2.k8 k,h.r.k8 k,h.rc,h.ro,h.rp,A4.k8 h.q k,h.ql,h.u.k8 k hn,h.ul,h.h.k8 k,h.hl,h.o.k8 k hn,h.ol,h.g.k8 k hn,h.gl,h.wt⟩
def Ah0(pt pr:Nat→Prop)(w:World)(a:Option Addr)(es:List Ent):Prop:=
 ∃vs:List Value,vs.length=es.length*2∧AtP pt w a vs∧∀i,i<es.length→Ae3 pr w (vs.getD (i*2) undef) (es.getD i ([],[])).1∧Ae3 pr w (vs.getD (i*2+1) undef) (es.getD i ([],[])).2
abbrev Ah1(p:Nat→Prop)(w:World)(a:Option Addr)(es:List Ent):Prop:=Ah0 p (fun _=>True) w a es
theorem Ah0.ents{pt pr:Nat→Prop}{w:World}{a:Option Addr}{es:List Ent}(h:Ah0 pt pr w a es):Y5 w a es:=by
 obtain⟨vs,h1,h2,h3⟩:=h;exact⟨vs,h1,h2.at,fun i hi=>⟨(h3 i hi).1.row,(h3 i hi).2.row⟩⟩
theorem Ah1.of{p:Nat→Prop}{w:World}{a:Option Addr}{es:List Ent}(h:Y5 w a es)(hp:∀g,g<w.heap.size→p g):Ah1 p w a es:=by
 obtain⟨vs,h1,h2,h3⟩:=h;exact⟨vs,h1,AtP.of h2 hp,fun i hi=>⟨Ae3.of (h3 i hi).1 fun _ _=>trivial,Ae3.of (h3 i hi).2 fun _ _=>trivial⟩⟩
theorem Ah0.to{pt pr qt qr:Nat→Prop}{w w':World}{a:Option Addr}{es:List Ent}(h:Ah0 pt pr w a es)(hs:w.heap.size≤w'.heap.size)(hk:∀b,b<w.heap.size→pt b→w'.heap[b]?=w.heap[b]?∧qt b)(hr:∀b,b<w.heap.size→pr b→w'.heap[b]?=w.heap[b]?∧qr b):Ah0 qt qr w' a es:=by
 obtain⟨vs,h1,h2,h3⟩:=h;exact⟨vs,h1,h2.to hs hk,fun i hi=>⟨(h3 i hi).1.to hs hr,(h3 i hi).2.to hs hr⟩⟩
theorem Ah0.up{pt pr:Nat→Prop}{w w':World}{a:Option Addr}{es:List Ent}(h:Ah0 pt pr w a es)(hb:Below w.heap.size w w'):Ah0 pt pr w' a es:=
 h.to hb.size (fun g hg hp=>⟨hb.block g hg,hp⟩) fun g hg hp=>⟨hb.block g hg,hp⟩
theorem Ah1.weak{p q:Nat→Prop}{w:World}{a:Option Addr}{es:List Ent}(h:Ah1 p w a es)(hn:∀g,g<w.heap.size→p g→q g):Ah1 q w a es:=
 Ah0.to h (Nat.le_refl _) (fun g hg hp=>⟨rfl,hn g hg hp⟩) fun g hg hp=>⟨rfl,hp⟩
theorem Ae3.tr{w:World}{v:Value}{r:List UInt8}(h:Aa2 w v r):Ae3 (fun _=>True) w v r:=Ae3.of h fun _ _=>trivial
theorem Ah1.k8{p:Nat→Prop}{w w':World}{b:Nat}{a:Option Addr}{es:List Ent}(h:Ah1 p w a es)(k:K8 b w w')(hn:∀g,p g→g≠b):Ah1 p w' a es:=by
 obtain⟨vs,h1,h2,h3⟩:=h;exact⟨vs,h1,h2.kp k.k fun g hg=>⟨hn g hg,hg⟩,fun i hi=>⟨Ae3.tr ((h3 i hi).1.row.k8 k),Ae3.tr ((h3 i hi).2.row.k8 k)⟩⟩
theorem Ah0.snoc{pt pr:Nat→Prop}{w':World}{a':Option Addr}{es:List Ent}{vs:List Value}{v0 v1:Value}{k b:List UInt8}(hvl:vs.length=es.length*2)
 (hr:∀i,i<es.length→Ae3 pr w' (vs.getD (i*2) undef) (es.getD i ([],[])).1∧Ae3 pr w' (vs.getD (i*2+1) undef) (es.getD i ([],[])).2) (hA:AtP pt w' a' (vs++[v0,v1])) (h0:Ae3 pr w' v0 k) (h1:Ae3 pr w' v1 b):Ah0 pt pr w' a' (es++[(k,b)]):=by
 refine⟨_,by rw[List.length_append,List.length_append,hvl];simp;omega,hA,fun i hi=>?_⟩;have g1:∀j,j<vs.length→(vs++[v0,v1]).getD j undef=vs.getD j undef:=fun j hj=>by
  simp only[List.getD_eq_getElem?_getD,List.getElem?_append_left hj]
 by_cases hl:i<es.length
 ·have e:(es++[(k,b)]).getD i ([],[])=es.getD i ([],[]):=by simp only[List.getD_eq_getElem?_getD,List.getElem?_append_left hl]
  rw[g1 _ (by omega),g1 _ (by omega),e];exact hr i hl
 ·have hi':i=es.length:=by simp at hi;omega
  subst hi';have e:(es++[(k,b)]).getD es.length ([],[])=(k,b):=by simp[List.getD_eq_getElem?_getD]
  have g2:∀j,(vs++[v0,v1]).getD (es.length*2+j) undef=[v0,v1].getD j undef:=fun j=>by
   rw[←hvl];simp only[List.getD_eq_getElem?_getD,List.getElem?_append_right (Nat.le_add_right _ _),Nat.add_sub_cancel_left]
  rw[e,g2 1,show es.length*2=es.length*2+0 from rfl,g2 0];exact⟨h0,h1⟩
structure O0 (q:Nat→Prop) (w:World) (s:Sv):Prop where
 e:Z0 q w s.e
 p:Ah1 q w s.ta s.es
 pl:s.es.length≤s.tc∧s.tc≤maxLen
theorem O0.at{q:Nat→Prop}{w:World}{s:Sv}(h:O0 q w s):Aj1 w s:=⟨h.e.at,h.p.ents,h.pl⟩
theorem Aj1.toP{q:Nat→Prop}{w:World}{s:Sv}(h:Aj1 w s)(hq:∀g,g<w.heap.size→q g):O0 q w s:=⟨h.e.toP hq,Ah1.of h.p hq,h.pl⟩
theorem O0.to{q p:Nat→Prop}{w:World}{s:Sv}(h:O0 q w s)(hn:∀g,g<w.heap.size→q g→p g):O0 p w s:=⟨h.e.to hn,Ah1.weak h.p hn,h.pl⟩
theorem O0.mono{q:Nat→Prop}{w w':World}{s:Sv}(h:O0 q w s)(hb:Below w.heap.size w w'):O0 q w' s:=⟨h.e.mono hb,h.p.up hb,h.pl⟩
theorem O0.k8{q:Nat→Prop}{w w':World}{b:Nat}{s:Sv}(h:O0 q w s)(k:K8 b w w')(hn:∀g,q g→g≠b):O0 q w' s:=⟨h.e.k8 k hn,Ah1.k8 h.p k hn,h.pl⟩
def Eq7(p:Nat→Prop)(w:World)(i f:Bool)(es:List Ent)(T:List UInt8)(e:Ending)(w':World):Prop:=∃a c ta tc,e=.returned (.tuple #[.agg #[.bool i,.slice a es.length c,.bool f],.slice ta 16 tc])∧es.length≤c∧c≤maxLen∧Ah1 p w' a es∧(16≤tc∧tc≤maxLen)∧A4 w' ta T∧Below w.heap.size w w'
theorem Eq8(i f:Bool)(a ka ba_:Option Addr)(c kc bc:Nat)(es:List Ent)(k b:List UInt8)(w:World)(hes:es.length≤1000)(hc:es.length≤c)(hcm:c≤maxLen)(p:Nat→Prop)(hp:∀g,w.heap.size≤g→p g)(hE:Ah1 p w a es)(hk:k.length≤100000)(hb:b.length≤90000)(hka:A4 w ka k)(hba:A4 w ba_ b)(hks:Q5 w):
 Calls Tryz.prog 123 #[.agg #[.bool i,.slice a es.length c,.bool f],.slice ka k.length kc,.slice ba_ b.length bc] w (Eq7 p w i f (Av7 es k b) (X5 k b)):=by
 have HI:=Lh Ad7;have H1:=Lh (fun(W:World) (h:Below w.heap.size w W)=>Da0 i f a ka ba_ c kc bc es k b W (by omega) (hE.ents.mono h) (by unfold maxLen;omega) (by unfold maxLen;omega) (hka.mono h) (hba.mono h));have H2:=Lh (fun(W:World)=>En6 a es.length c hc W);have H3:=Lh (fun(W:World) (h:Below w.heap.size w W)=>Cb2 ka kc k W hk (hka.mono h));have H4:=Lh (fun(W:World) (h:Below w.heap.size w W)=>Cb2 ba_ bc b W (by omega) (hba.mono h));have H5:=Lh (fun(W:World) (h:Below w.heap.size w W)=>Bw0 ka ba_ kc bc k b hk hb W (hka.mono h) (hba.mono h) (hks.mono h));have HE:=Lh hE;have HP:=Lh hp;have Hc:=Lh (And.intro hc hcm);have Hes:=Lh hes;obtain⟨ys,hys⟩:∃ys,ys=Av7 es k b:=⟨_,rfl⟩;have Hy:=Lh (show ys=bif An6 es k b then es else es++[(k,b)] from hys);rw[←hys];generalize X5 k b=T at H5 ⊢;generalize An6 es k b=R at H1 Hy;unfold Br5 at H5;unfold Cr0 at H3 H4;clear hys hc hcm hp hE hka hba hks hes hk hb;go_enter Tryz.func123,Tryz.ntmps123
 go_upto_region 1 with(fail)
 generalize hW:World.alloc (World.alloc w _) _=W;have B3:=Lh (show A6 49 W w.heap.size [.bool i,.slice a es.length c,.bool f] by rw[←hW];exact(A6.new w [.bool i,.slice a es.length c,.bool f] _).up (ba _ _));have B6:=Lh (show A6 49 W (w.heap.size+1) Av8 by rw[←hW,←I9 w (.cells #[.bool i,.slice a es.length c,.bool f] 49)];exact A6.new _ Av8 _);have G:=Lh (show Below w.heap.size w W by rw[←hW];exact bta (ba w _) _);clear hW;obtain⟨b3,hb3⟩:∃b3,b3=w.heap.size:=⟨_,rfl⟩;have Hb3:=Lh hb3;have hne:b3≠b3+1:=by omega
 rw[←hb3] at B3 B6;simp only[←hb3];obtain⟨b6,hb6⟩:∃b6,b6=b3+1:=⟨_,rfl⟩;have Hb6:=Lh hb6;rw[←hb6] at B6 hne;simp only[←hb6];clear hb3 hb6;go_wp2_with (refine C4 49 (.tmp 3) b3 (cs:=[.bool i,.slice a es.length c,.bool f]) rfl rfl rfl B3.out.blk Tryz.underlying49 rfl HI.out ?_)
 refine(H1.out _ G.out).mono ?_;rintro e w1 ⟨rfl,hbb⟩;replace B3:=Lh (B3.out.up hbb);replace B6:=Lh (B6.out.up hbb);replace G:=Lh (bt G.out hbb);clear hbb H1;rcases R with _ | _
 ·have B6L:=Lh B6.out.blk.lt;obtain⟨y0,y1,y2⟩:=Ad8 B3.out.blk;go_wp2_with fail
  refine(H2.out _).mono ?_;rintro e w2 ⟨rfl,rfl⟩;go_wp2_with fail
  refine(H3.out _ G.out).mono ?_;rintro e w3 ⟨a3,c3,rfl,l3,m3,hA3,hb3'⟩;replace B3:=Lh (B3.out.up hb3');replace B6:=Lh (B6.out.up hb3');have hsz3:b6<w1.heap.size:=B6L.out;replace G:=Lh (bt G.out hb3');go_wp2_with fail
  refine(H4.out _ G.out).mono ?_;rintro e w4 ⟨a4,c4,rfl,l4,m4,hA4,hb4'⟩;have hsz4:=hb3'.size;replace B3:=Lh (B3.out.up hb4');replace B6:=Lh (B6.out.up hb4');replace G:=Lh (bt G.out hb4');have P3:=Lh (show AtP (fun g=>g≠b6∧g≠b3) w4 a3 (B8s k) from hA3.to (q:=fun g=>g≠b6∧g≠b3) hb4'.size fun g hl hp=>⟨hb4'.block g hl,by have:=Hb3.out;have:=Hb6.out;exact⟨by omega,by omega⟩⟩);have P4:=Lh (show AtP (fun g=>g≠b6∧g≠b3) w4 a4 (B8s b) from hA4.to (q:=fun g=>g≠b6∧g≠b3) (Nat.le_refl _) fun g hl hp=>⟨rfl,by have:=Hb3.out;have:=Hb6.out;exact⟨by omega,by omega⟩⟩);have L3:=Lh (And.intro l3 (And.intro m3 (And.intro l4 m4)));obtain⟨vs,hvl,hvs,hrows⟩:=HE.out;have HV:=Lh hvs;have HVl:=Lh hvl;have HR:=Lh hrows;clear hA3 hA4 hb3' hb4' l3 m3 l4 m4 hvl hvs hrows y0 y1 y2;have hxx:∀u∈[Value.slice a3 k.length c3,Value.slice a4 b.length c4],u.oneCell'=true:=by
   intro u hu;simp only[List.mem_cons,List.not_mem_nil,or_false] at hu;rcases hu with rfl | rfl<;>rfl
  obtain⟨z0,z1,z2⟩:=Ad8 B3.out.blk;have zf:=B3.out.blk.frozen;go_wp2_with (at_builtin;(refine Cw6 (.tmp 15) (.tmp 21) rfl rfl rfl (HV.out.at.mono (bt G.out (ba w4 (.cells #[.slice a3 k.length c3,.slice a4 b.length c4] 153)))) HVl.out rfl (U7 w4 [.slice a3 k.length c3,.slice a4 b.length c4] _) hxx (by have:=Hes.out;omega) ?_;intro a2 c2 w5 hown5 hb5;have H9:=Lh hown5;have Hb5:=Lh (bt (ba w4 (.cells #[.slice a3 k.length c3,.slice a4 b.length c4] 153)) hb5);have q3:=B3.out.up Hb5.out;obtain⟨z0,z1,z2⟩:=Ad8 q3.blk;have zf:=q3.blk.frozen;clear hown5 hb5))
  have hyl:ys.length=es.length+1:=by rw[Hy.out];show(es++[(k,b)]).length=_;rw[List.length_append];rfl
  have hcap9:=U6 H9.out;have hlt3:b3<w4.heap.size:=B3.out.blk.lt;have hlt6:b6<w4.heap.size:=B6.out.blk.lt;have g3:=Lh (show A6 49 (w5.setCell ⟨b3,1,none⟩ (.slice a2 (es.length+1) c2)) b3 [.bool i,.slice a2 ys.length c2,.bool f] by rw[hyl];exact q3.set 1 _);have g6:=Lh (show A6 49 (w5.setCell ⟨b3,1,none⟩ (.slice a2 (es.length+1) c2)) b6 Av8 from(B6.out.up Hb5.out).other (fun h=>hne h.symm) _);have gG:=Lh (show Below w.heap.size w (w5.setCell ⟨b3,1,none⟩ (.slice a2 (es.length+1) c2)) from(bt G.out Hb5.out).setCell (by rw[Hb3.out];exact Nat.le_refl _) _);have hsz9:w5.heap.size≤(w5.setCell ⟨b3,1,none⟩ (.slice a2 (es.length+1) c2)).heap.size:=by simp
  have hk9:∀g,g≠b3→(w5.setCell ⟨b3,1,none⟩ (.slice a2 (es.length+1) c2)).heap[g]?=w5.heap[g]?:=fun g h=>Below.heap_setCell _ _ _ _ h;have gE:=Lh (show Ah0 (fun g=>g≠b6∧p g) (fun g=>g≠b6) (w5.setCell ⟨b3,1,none⟩ (.slice a2 (es.length+1) c2)) a2 ys by
   rw[Hy.out];refine Ah0.snoc HVl.out (fun t ht=>?_) ((At2 H9.out).to hsz9 fun g hl hp=>⟨hk9 g (by rw[I9] at hp;omega),by rw[I9] at hp;omega,HP.out g (by have:=Hb3.out;rw[I9] at hp;omega)⟩) ?_ ?_
   ·obtain⟨r1,r2⟩:=HR.out t ht;have hz:=Hb3.out;have hz6:=Hb6.out;exact⟨r1.to gG.out.size fun g hl hp=>⟨gG.out.block g hl,by omega⟩,r2.to gG.out.size fun g hl hp=>⟨gG.out.block g hl,by omega⟩⟩
   ·exact⟨a3,c3,rfl,L3.out.1,L3.out.2.1,(P3.out.up Hb5.out).to hsz9 fun g hl hp=>⟨hk9 g hp.2,hp.1⟩⟩
   ·exact⟨a4,c4,rfl,L3.out.2.2.1,L3.out.2.2.2,(P4.out.up Hb5.out).to hsz9 fun g hl hp=>⟨hk9 g hp.2,hp.1⟩⟩)
  obtain⟨_,_,he9,hc9,hm9⟩:=hcap9;cases he9
  have Hc2:=Lh (show ys.length≤c2∧c2≤maxLen by rw[hyl];exact⟨hc9,hm9⟩);replace B3:=g3;replace B6:=g6;replace G:=gG;have EP:=gE;clear g3 g6 gG gE z0 z1 z2 zf q3 hk9 hsz9 H9 Hb5 P3 P4 HV HVl HR hc9 hm9 hlt3 hlt6 hyl hxx L3 hsz3 hsz4 B6L;generalize w5.setCell ⟨b3,1,none⟩ (.slice a2 (es.length+1) c2)=w9 at B3 B6 G EP ⊢;obtain⟨y0,y1,y2⟩:=Ad8 B3.out.blk
  go_region_with
   ((go_at_call 178;(with_reducible refine Calls.mono (H5.out _ (bt G.out (bd _))) ?_);rintro e w6 ⟨ta,tc,rfl,htc,hta,hb6'⟩;have Htc:=Lh htc;clear htc;have q3:=B3.out.up (bt (bd _) hb6');have q6:=B6.out.up (bt (bd _) hb6');obtain⟨k0,k1,k2⟩:=Ad8 q3.blk;obtain⟨j0,j1,j2⟩:=Ad8 q6.blk;have kf:=q6.blk.frozen))
  all_goals
   go_split_ands
   go_wp2_with fail
   have hbb:=bt (bd _) hb6';have gG:=Lh (bt G.out hbb);have gE:=Lh (EP.out.up hbb);refine bodyPost_ret (G6 rfl _ _ b6 (cs:=[.bool i,.slice a2 ys.length c2,.bool f]) rfl _ rfl (Cb3 q6).blk Tryz.underlying49 rfl HI.out) rfl ?_;refine⟨a2,c2,ta,tc,rfl,Hc2.out.1,Hc2.out.2,(Ah0.to (qt:=p) (qr:=fun _=>True) gE.out (Nat.le_of_eq Bo3.symm) (fun g hl hp=>⟨Az2 hp.1,hp.2⟩) (fun g hl hp=>⟨Az2 hp,trivial⟩)),Htc.out,?_,Au6 gG.out (by have:=Hb3.out;have:=Hb6.out;omega)⟩;exact hta.offP (B:=b6) q6 (Ea1 _ _ _ _ _)
 ·have hyy:ys=es:=Hy.out;have Hc2:=Lh (show ys.length≤c∧c≤maxLen by rw[hyy];exact Hc.out);have EP:=Lh (show Ah0 (fun g=>g≠b6∧p g) (fun g=>g≠b6) w1 a ys by rw[hyy];exact(Ah0.to HE.out (qt:=fun g=>g≠b6∧p g) (qr:=fun g=>g≠b6) (Nat.le_refl _) (fun g hg hpg=>⟨rfl,by have:=Hb3.out;have:=Hb6.out;omega,hpg⟩) (fun g hg hpg=>⟨rfl,by have:=Hb3.out;have:=Hb6.out;omega⟩)).up G.out);replace B3:=Lh (show A6 49 w1 b3 [.bool i,.slice a ys.length c,.bool f] by rw[hyy];exact B3.out);clear hyy;go_wp2_with fail
  obtain⟨y0,y1,y2⟩:=Ad8 B3.out.blk
  go_region_with
   ((go_at_call 178;(with_reducible refine Calls.mono (H5.out _ (bt G.out (bd _))) ?_);rintro e w6 ⟨ta,tc,rfl,htc,hta,hb6'⟩;have Htc:=Lh htc;clear htc;have q3:=B3.out.up (bt (bd _) hb6');have q6:=B6.out.up (bt (bd _) hb6');obtain⟨k0,k1,k2⟩:=Ad8 q3.blk;obtain⟨j0,j1,j2⟩:=Ad8 q6.blk;have kf:=q6.blk.frozen))
  all_goals
   go_split_ands
   go_wp2_with fail
   have hbb:=bt (bd _) hb6';have gG:=Lh (bt G.out hbb);have gE:=Lh (EP.out.up hbb);refine bodyPost_ret (G6 rfl _ _ b6 (cs:=[.bool i,.slice a ys.length c,.bool f]) rfl _ rfl (Cb3 q6).blk Tryz.underlying49 rfl HI.out) rfl ?_;refine⟨a,c,ta,tc,rfl,Hc2.out.1,Hc2.out.2,(Ah0.to (qt:=p) (qr:=fun _=>True) gE.out (Nat.le_of_eq Bo3.symm) (fun g hl hp=>⟨Az2 hp.1,hp.2⟩) (fun g hl hp=>⟨Az2 hp,trivial⟩)),Htc.out,?_,Au6 gG.out (by have:=Hb3.out;have:=Hb6.out;omega)⟩;exact hta.offP (B:=b6) q6 (Ea1 _ _ _ _ _)
end Go.Proofs.YtadpiemjgfndgaaGreatDoor
