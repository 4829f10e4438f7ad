/- Proved here, for use further on: LeF LeH LeJ2 LeJ0 LeJ LeK. Conditions: none but those each theorem names. -/
import Derived.Test.YtadpiemjgfndgaaGreatDoorKa00
import Derived.Test.YtadpiemjgfndgaaGreatDoorKa18
import Derived.Test.YtadpiemjgfndgaaGreatDoorKa12
import Derived.Test.YtadpiemjgfndgaaGreatDoorKa04
import Derived.Deep.DeepCutAuto
import Derived.Test.YtadpiemjgfndgaaGreatDoorKa13
import Derived.Test.YtadpiemjgfndgaaGreatDoorKa11
import Derived.Test.YtadpiemjgfndgaaGreatDoorKa16
set_option linter.unusedSimpArgs false
set_option linter.unusedVariables false
set_option maxRecDepth 100000
set_option maxHeartbeats 8000000
namespace Go.Proofs.YtadpiemjgfndgaaGreatDoor
open Go.RowKit
def Bk0(e:Ev):Bool:=(e.wt==0)&&(List.range 16).all fun i=>e.wb i==M4 i
def Cg2(e:Ev):Bool:=Aj5 e.r.c e.r.o e.r.p e.r.l e.r.t
def Au4(e:Ev):Bool:=(e.seq==0)&&(Bk0 e&&Cg2 e)
def Bo7(e:Ev):Bool:=(e.q.code==Ak2 e.ph) || ((e.ph==3)&&(e.q.code==301))
def Ad1(e:Ev):Bool:=Bo7 e&&(bif V4 e.ph then decide (0<e.own∧0<e.oth∧0<e.r.c.no∧(e.ph≠4∨0<e.r.p.no)) else bif e.ph==1 then decide (0<e.own∧e.oth=0)&&Au4 e else decide (e.own=0∧e.oth=0)&&Au4 e)
theorem Ck9{w:World}{r:Rg}{kc ko kp:List UInt8}(h:Av3 w r kc ko kp):Q8 r R0 kc ko kp [] [] []=Aj5 r.c r.o r.p r.l r.t:=by
 have e1:∀(k:List UInt8),(k==[])=((k.length:Int)==0):=fun k=>by cases k<;>simp<;>omega
 unfold Q8 Ab9 Aj5 V3;rw[h.lc,h.lo,h.lp,e1,e1,e1]
theorem Bo8(w:World):Av3 w R0 [] [] []:=⟨rfl,.inl rfl,rfl,.inl rfl,rfl,.inl rfl⟩
theorem Br7(p:Int)(w:World):Calls Tryz.prog 164 #[.int .i64 p] w fun e w'=>e=.returned (.int .i64 (Ak2 p))∧Below w.heap.size w w':=(Cc1 p w).mono fun e w' h=>⟨h.1,h.2▸Below.refl _ _⟩
theorem Cs5(e:Ev)(w:World):(Op.equalIn 10000 28 (.agg (C4 e.wt e.wb).toArray) (.agg (Bj0 0))).run Tryz.prog w=.ok (Bk0 e) w:=by
 rw[Ao6,Bq0];rfl
theorem Eg5{e:Ev}{l:Bool}(hl:V4 e.ph=l)(b:Bool)(h:b=true↔(0<e.own∧0<e.oth∧0<e.r.c.no∧Bo7 e=true∧(e.ph≠4∨0<e.r.p.no)))(ht:l=true):b=Ad1 e:=by
 subst ht;unfold Ad1;rw[hl,Bool.eq_iff_iff,h];simp only[Bool.and_eq_true,cond_true,decide_eq_true_eq];exact⟨fun⟨a,b,c,d,e⟩=>⟨d,a,b,c,e⟩,fun⟨d,a,b,c,e⟩=>⟨a,b,c,d,e⟩⟩
theorem Em9{e:Ev}(hp:e.ph=1)(b:Bool)(h:b=true↔(0<e.own∧e.oth=0∧Au4 e=true∧Bo7 e=true)):b=Ad1 e:=by
 unfold Ad1;rw[show V4 e.ph=false by rw[hp];rfl,show(e.ph==1)=true by rw[hp];rfl,Bool.eq_iff_iff,h];simp only[Bool.and_eq_true,cond_true,cond_false,decide_eq_true_eq];exact⟨fun⟨a,b,c,d⟩=>⟨d,⟨a,b⟩,c⟩,fun⟨d,⟨a,b⟩,c⟩=>⟨a,b,c,d⟩⟩
theorem En0{e:Ev}(hl:V4 e.ph=false)(hp:e.ph≠1)(b:Bool)(h:b=true↔(e.own=0∧e.oth=0∧Au4 e=true∧Bo7 e=true)):b=Ad1 e:=by
 unfold Ad1;rw[hl,show(e.ph==1)=false by rw[beq_eq_false_iff_ne];exact hp,Bool.eq_iff_iff,h];simp only[Bool.and_eq_true,cond_false,decide_eq_true_eq];exact⟨fun⟨a,b,c,d⟩=>⟨d,⟨a,b⟩,c⟩,fun⟨d,⟨a,b⟩,c⟩=>⟨a,b,c,d⟩⟩
noncomputable def Ak1:{ops:Array Oper//(Tryz.f99.body.bind (K6 2))=some (.region 2 ops true)}:=⟨_,rfl⟩
abbrev Q2:List Nat:=[20,21,22,23,24,25,26,27,28,29,30,31,32,33,34,35,36,37,4]
theorem Bk1:opx Ak1.1 5=some (.call {callee:=.value (.func 164),args:=#[.tmp 24],argTypes:=#[3]},some 25,none):=by kernel_rfl
theorem Er9{e:Ev}{n1:Nat}{a:Act}{w:World}{Q:Exit→Act→World→Prop}(hsz:104≤a.tmps.size)(e1:a.tmps.getD 1 undef=.pointer (some ⟨n1,0,none⟩))(hP:∀c a d v w,Q (.panic c) (Act.put a d v) w→Q (.panic c) a w)(B:A5 46 w n1 (A7 e))(h1:(e.q.code==Ak2 e.ph)=true)
 (hQ:∀{x20 x21 x22 x23 x24 x25 x26 x27 x28 x29 x30 x31 x32 x33 x34 x35 x36 x37} w',A5 46 w' n1 (A7 e)→Below w.heap.size w w'→Q .normal (B9 a Q2 [x20,x21,x22,x23,x24,x25,x26,x27,x28,x29,x30,x31,x32,x33,x34,x35,x36,x37,.bool true]) w'):
 (Code.region 2 Ak1.1 true).wp Tryz.prog Q a w:=by
 have rG:Rgn Ak1.1 Q2 a Q:=⟨fun k hk=>Nat.lt_of_lt_of_le ((by decide:∀k∈Q2,k<104) k hk) hsz,by kernel_rfl,hP⟩;have hb:=rG.b;obtain⟨i,h0⟩:=Y2 a Q2;let S:World→Prop:=fun w'=>A5 46 w' n1 (A7 e);refine wp_region_held_drew (S:=S) (by kernel_rfl) (B.up (bd _)) fun hHeld=>?_;have N5:∀(u:World) (G:Below w.heap.size w u),wpAnyH Tryz.prog .any Ak1.1 Q S 0 (lm 19 524287) (B9 a Q2 [pt n1 35,pt n1 35,i6 e.q.code,pt n1 2,i6 e.ph,i6 (Ak2 e.ph),.bool true,.bool true,undef,undef,undef,undef,undef,undef,undef,undef,undef,.bool true,.bool true]) u:=by
  intro u G;refine W5 ?_;exact hQ _ (B.up G) G
 have N0:∀(u:World) (G:Below w.heap.size w u),wpAnyH Tryz.prog .any Ak1.1 Q S 14 (lm 19 31) (B9 a Q2 [pt n1 35,pt n1 35,i6 e.q.code,pt n1 2,i6 e.ph,i 25,i 26,i 27,i 28,i 29,i 30,i 31,i 32,i 33,i 34,i 35,i 36,i 37,i 4]) u:=by
  intro u G;refine C9 [5] (C6 rG Bk1 ?_ AllReadyH.nil);intro o hp hd;refine J5 hp (rG.ev1 (i6 e.ph)) (Br7 e.ph _) ?_;rintro x u5 ⟨rfl,hb5⟩;refine⟨_,rfl,?_⟩;exact D8 rG [(6,26,.bool true),(7,27,.bool true),(8,28,undef),(9,29,undef),(10,30,undef),(11,31,undef),(12,32,undef),(13,33,undef),(14,34,undef),(15,35,undef),(16,36,undef),(17,37,.bool true),(18,4,.bool true)] hd (B.up (bt G hb5)) ⟨Aa4 rfl h1,F5 rfl,M5,M5,M5,M5,Bk2,Bk2,Bk2,Bk2,M5,S0 rfl,Ai0 rfl,trivial⟩ (N5 _  (bt G hb5))
 exact O0 19 rG [(0,20,pt n1 35),(1,21,pt n1 35),(2,22,i6 e.q.code),(3,23,pt n1 2),(4,24,i6 e.ph)] h0 (B.up (bd _)) ⟨A9 rfl e1,A9 rfl,F6 rfl (fun w hw=>hw.blk.endIn.qcode),A9 rfl e1,F6 rfl (fun w hw=>hw.blk.endIn.ph),trivial⟩ (N0 _  (bd w))
theorem Es0{e:Ev}{n1:Nat}{a:Act}{w:World}{Q:Exit→Act→World→Prop}(hsz:104≤a.tmps.size)(e1:a.tmps.getD 1 undef=.pointer (some ⟨n1,0,none⟩))(hP:∀c a d v w,Q (.panic c) (Act.put a d v) w→Q (.panic c) a w)(B:A5 46 w n1 (A7 e))(h1:(e.q.code==Ak2 e.ph)=false)(h2:(e.ph==3)=false)
 (hQ:∀{x20 x21 x22 x23 x24 x25 x26 x27 x28 x29 x30 x31 x32 x33 x34 x35 x36 x37} w',A5 46 w' n1 (A7 e)→Below w.heap.size w w'→Q .normal (B9 a Q2 [x20,x21,x22,x23,x24,x25,x26,x27,x28,x29,x30,x31,x32,x33,x34,x35,x36,x37,.bool false]) w'):
 (Code.region 2 Ak1.1 true).wp Tryz.prog Q a w:=by
 have rG:Rgn Ak1.1 Q2 a Q:=⟨fun k hk=>Nat.lt_of_lt_of_le ((by decide:∀k∈Q2,k<104) k hk) hsz,by kernel_rfl,hP⟩;have hb:=rG.b;obtain⟨i,h0⟩:=Y2 a Q2;let S:World→Prop:=fun w'=>A5 46 w' n1 (A7 e);refine wp_region_held_drew (S:=S) (by kernel_rfl) (B.up (bd _)) fun hHeld=>?_;have N5:∀(u:World) (G:Below w.heap.size w u),wpAnyH Tryz.prog .any Ak1.1 Q S 0 (lm 19 524287) (B9 a Q2 [pt n1 35,pt n1 35,i6 e.q.code,pt n1 2,i6 e.ph,i6 (Ak2 e.ph),.bool false,.bool false,pt n1 2,i6 e.ph,.bool false,.bool false,undef,undef,undef,undef,.bool false,.bool false,.bool false]) u:=by
  intro u G;refine W5 ?_;exact hQ _ (B.up G) G
 have N0:∀(u:World) (G:Below w.heap.size w u),wpAnyH Tryz.prog .any Ak1.1 Q S 14 (lm 19 31) (B9 a Q2 [pt n1 35,pt n1 35,i6 e.q.code,pt n1 2,i6 e.ph,i 25,i 26,i 27,i 28,i 29,i 30,i 31,i 32,i 33,i 34,i 35,i 36,i 37,i 4]) u:=by
  intro u G;refine C9 [5] (C6 rG Bk1 ?_ AllReadyH.nil);intro o hp hd;refine J5 hp (rG.ev1 (i6 e.ph)) (Br7 e.ph _) ?_;rintro x u5 ⟨rfl,hb5⟩;refine⟨_,rfl,?_⟩;exact D8 rG [(6,26,.bool false),(7,27,.bool false),(8,28,pt n1 2),(9,29,i6 e.ph),(10,30,.bool false),(11,31,.bool false),(12,32,undef),(13,33,undef),(14,34,undef),(15,35,undef),(16,36,.bool false),(17,37,.bool false),(18,4,.bool false)] hd (B.up (bt G hb5)) ⟨Aa4 rfl h1,F5 rfl,A9 rfl e1,F6 rfl (fun w hw=>hw.blk.endIn.ph),Aa4 rfl h2,F5 rfl,M5,M5,M5,M5,S0 rfl,S0 rfl,Ai0 rfl,trivial⟩ (N5 _  (bt G hb5))
 exact O0 19 rG [(0,20,pt n1 35),(1,21,pt n1 35),(2,22,i6 e.q.code),(3,23,pt n1 2),(4,24,i6 e.ph)] h0 (B.up (bd _)) ⟨A9 rfl e1,A9 rfl,F6 rfl (fun w hw=>hw.blk.endIn.qcode),A9 rfl e1,F6 rfl (fun w hw=>hw.blk.endIn.ph),trivial⟩ (N0 _  (bd w))
theorem Es1{e:Ev}{n1:Nat}{a:Act}{w:World}{Q:Exit→Act→World→Prop}(hsz:104≤a.tmps.size)(e1:a.tmps.getD 1 undef=.pointer (some ⟨n1,0,none⟩))(hP:∀c a d v w,Q (.panic c) (Act.put a d v) w→Q (.panic c) a w)(B:A5 46 w n1 (A7 e))(h1:(e.q.code==Ak2 e.ph)=false)(h2:(e.ph==3)=true)(h3:(e.q.code==301)=false)
 (hQ:∀{x20 x21 x22 x23 x24 x25 x26 x27 x28 x29 x30 x31 x32 x33 x34 x35 x36 x37} w',A5 46 w' n1 (A7 e)→Below w.heap.size w w'→Q .normal (B9 a Q2 [x20,x21,x22,x23,x24,x25,x26,x27,x28,x29,x30,x31,x32,x33,x34,x35,x36,x37,.bool false]) w'):
 (Code.region 2 Ak1.1 true).wp Tryz.prog Q a w:=by
 have rG:Rgn Ak1.1 Q2 a Q:=⟨fun k hk=>Nat.lt_of_lt_of_le ((by decide:∀k∈Q2,k<104) k hk) hsz,by kernel_rfl,hP⟩;have hb:=rG.b;obtain⟨i,h0⟩:=Y2 a Q2;let S:World→Prop:=fun w'=>A5 46 w' n1 (A7 e);refine wp_region_held_drew (S:=S) (by kernel_rfl) (B.up (bd _)) fun hHeld=>?_;have N5:∀(u:World) (G:Below w.heap.size w u),wpAnyH Tryz.prog .any Ak1.1 Q S 0 (lm 19 524287) (B9 a Q2 [pt n1 35,pt n1 35,i6 e.q.code,pt n1 2,i6 e.ph,i6 (Ak2 e.ph),.bool false,.bool false,pt n1 2,i6 e.ph,.bool true,.bool true,pt n1 35,pt n1 35,i6 e.q.code,.bool false,.bool false,.bool false,.bool false]) u:=by
  intro u G;refine W5 ?_;exact hQ _ (B.up G) G
 have N0:∀(u:World) (G:Below w.heap.size w u),wpAnyH Tryz.prog .any Ak1.1 Q S 14 (lm 19 31) (B9 a Q2 [pt n1 35,pt n1 35,i6 e.q.code,pt n1 2,i6 e.ph,i 25,i 26,i 27,i 28,i 29,i 30,i 31,i 32,i 33,i 34,i 35,i 36,i 37,i 4]) u:=by
  intro u G;refine C9 [5] (C6 rG Bk1 ?_ AllReadyH.nil);intro o hp hd;refine J5 hp (rG.ev1 (i6 e.ph)) (Br7 e.ph _) ?_;rintro x u5 ⟨rfl,hb5⟩;refine⟨_,rfl,?_⟩;exact D8 rG [(6,26,.bool false),(7,27,.bool false),(8,28,pt n1 2),(9,29,i6 e.ph),(10,30,.bool true),(11,31,.bool true),(12,32,pt n1 35),(13,33,pt n1 35),(14,34,i6 e.q.code),(15,35,.bool false),(16,36,.bool false),(17,37,.bool false),(18,4,.bool false)] hd (B.up (bt G hb5)) ⟨Aa4 rfl h1,F5 rfl,A9 rfl e1,F6 rfl (fun w hw=>hw.blk.endIn.ph),Aa4 rfl h2,F5 rfl,A9 rfl e1,A9 rfl,F6 rfl (fun w hw=>hw.blk.endIn.qcode),Aa4 rfl h3,S0 rfl,S0 rfl,Ai0 rfl,trivial⟩ (N5 _  (bt G hb5))
 exact O0 19 rG [(0,20,pt n1 35),(1,21,pt n1 35),(2,22,i6 e.q.code),(3,23,pt n1 2),(4,24,i6 e.ph)] h0 (B.up (bd _)) ⟨A9 rfl e1,A9 rfl,F6 rfl (fun w hw=>hw.blk.endIn.qcode),A9 rfl e1,F6 rfl (fun w hw=>hw.blk.endIn.ph),trivial⟩ (N0 _  (bd w))
theorem Es2{e:Ev}{n1:Nat}{a:Act}{w:World}{Q:Exit→Act→World→Prop}(hsz:104≤a.tmps.size)(e1:a.tmps.getD 1 undef=.pointer (some ⟨n1,0,none⟩))(hP:∀c a d v w,Q (.panic c) (Act.put a d v) w→Q (.panic c) a w)(B:A5 46 w n1 (A7 e))(h1:(e.q.code==Ak2 e.ph)=false)(h2:(e.ph==3)=true)(h3:(e.q.code==301)=true)
 (hQ:∀{x20 x21 x22 x23 x24 x25 x26 x27 x28 x29 x30 x31 x32 x33 x34 x35 x36 x37} w',A5 46 w' n1 (A7 e)→Below w.heap.size w w'→Q .normal (B9 a Q2 [x20,x21,x22,x23,x24,x25,x26,x27,x28,x29,x30,x31,x32,x33,x34,x35,x36,x37,.bool true]) w'):
 (Code.region 2 Ak1.1 true).wp Tryz.prog Q a w:=by
 have rG:Rgn Ak1.1 Q2 a Q:=⟨fun k hk=>Nat.lt_of_lt_of_le ((by decide:∀k∈Q2,k<104) k hk) hsz,by kernel_rfl,hP⟩;have hb:=rG.b;obtain⟨i,h0⟩:=Y2 a Q2;let S:World→Prop:=fun w'=>A5 46 w' n1 (A7 e);refine wp_region_held_drew (S:=S) (by kernel_rfl) (B.up (bd _)) fun hHeld=>?_;have N5:∀(u:World) (G:Below w.heap.size w u),wpAnyH Tryz.prog .any Ak1.1 Q S 0 (lm 19 524287) (B9 a Q2 [pt n1 35,pt n1 35,i6 e.q.code,pt n1 2,i6 e.ph,i6 (Ak2 e.ph),.bool false,.bool false,pt n1 2,i6 e.ph,.bool true,.bool true,pt n1 35,pt n1 35,i6 e.q.code,.bool true,.bool true,.bool true,.bool true]) u:=by
  intro u G;refine W5 ?_;exact hQ _ (B.up G) G
 have N0:∀(u:World) (G:Below w.heap.size w u),wpAnyH Tryz.prog .any Ak1.1 Q S 14 (lm 19 31) (B9 a Q2 [pt n1 35,pt n1 35,i6 e.q.code,pt n1 2,i6 e.ph,i 25,i 26,i 27,i 28,i 29,i 30,i 31,i 32,i 33,i 34,i 35,i 36,i 37,i 4]) u:=by
  intro u G;refine C9 [5] (C6 rG Bk1 ?_ AllReadyH.nil);intro o hp hd;refine J5 hp (rG.ev1 (i6 e.ph)) (Br7 e.ph _) ?_;rintro x u5 ⟨rfl,hb5⟩;refine⟨_,rfl,?_⟩;exact D8 rG [(6,26,.bool false),(7,27,.bool false),(8,28,pt n1 2),(9,29,i6 e.ph),(10,30,.bool true),(11,31,.bool true),(12,32,pt n1 35),(13,33,pt n1 35),(14,34,i6 e.q.code),(15,35,.bool true),(16,36,.bool true),(17,37,.bool true),(18,4,.bool true)] hd (B.up (bt G hb5)) ⟨Aa4 rfl h1,F5 rfl,A9 rfl e1,F6 rfl (fun w hw=>hw.blk.endIn.ph),Aa4 rfl h2,F5 rfl,A9 rfl e1,A9 rfl,F6 rfl (fun w hw=>hw.blk.endIn.qcode),Aa4 rfl h3,S0 rfl,S0 rfl,Ai0 rfl,trivial⟩ (N5 _  (bt G hb5))
 exact O0 19 rG [(0,20,pt n1 35),(1,21,pt n1 35),(2,22,i6 e.q.code),(3,23,pt n1 2),(4,24,i6 e.ph)] h0 (B.up (bd _)) ⟨A9 rfl e1,A9 rfl,F6 rfl (fun w hw=>hw.blk.endIn.qcode),A9 rfl e1,F6 rfl (fun w hw=>hw.blk.endIn.ph),trivial⟩ (N0 _  (bd w))
theorem Dz2{e:Ev}{n1:Nat}{a:Act}{w:World}{Q:Exit→Act→World→Prop}(hsz:104≤a.tmps.size)(e1:a.tmps.getD 1 undef=.pointer (some ⟨n1,0,none⟩))(hP:∀c a d v w,Q (.panic c) (Act.put a d v) w→Q (.panic c) a w)(B:A5 46 w n1 (A7 e))
 (hQ:∀{x20 x21 x22 x23 x24 x25 x26 x27 x28 x29 x30 x31 x32 x33 x34 x35 x36 x37} w',A5 46 w' n1 (A7 e)→Below w.heap.size w w'→Q .normal (B9 a Q2 [x20,x21,x22,x23,x24,x25,x26,x27,x28,x29,x30,x31,x32,x33,x34,x35,x36,x37,.bool (Bo7 e)]) w'):(Code.region 2 Ak1.1 true).wp Tryz.prog Q a w:=by
 unfold Bo7 at hQ;cases c1:(e.q.code==Ak2 e.ph) with
 | true=>rw[c1] at hQ;exact Er9 hsz e1 hP B c1 hQ
 | false=>
   cases c2:(e.ph==3) with
   | false=>rw[c1,c2] at hQ;exact Es0 hsz e1 hP B c1 c2 hQ
   | true=>
     cases c3:(e.q.code==301) with
     | false=>rw[c1,c2,c3] at hQ;exact Es1 hsz e1 hP B c1 c2 c3 hQ
     | true=>rw[c1,c2,c3] at hQ;exact Es2 hsz e1 hP B c1 c2 c3 hQ
theorem Bv4(e:Ev)(w:World)(h:Ah6 w e):Calls Tryz.prog 99 #[.agg (A7 e).toArray] w (G6 w (Ad1 e)):=by
 have HR:=Lh (fun(W:World) (hb:Below w.heap.size w W)=>(show Calls Tryz.prog 105 #[e.r.v,R0.v] W fun x w'=>x=.returned (.bool (Cg2 e))∧Below W.heap.size W w' from by
  have k:=Bl8 e.r R0 e.kc e.ko e.kp [] [] [] W (h.r.mono hb) (Bo8 W);rw[Ck9 h.r] at k;exact k))
 have HZ:=Lh (Cs5 e);have HI:=Lh N6;have HJ:=Lh Ac7;go_enter Tryz.func99,Tryz.ntmps99
 go_upto_region 1 with(fail)
 generalize hW:World.alloc w _=W;have B:=Lh (show A5 46 W w.heap.size (A7 e) by rw[←hW];exact A5.new w (A7 e) _);have G:=Lh (show Below w.heap.size w W by rw[←hW];exact ba w _);clear hW h;generalize hn1:w.heap.size=n1 at B ⊢;clear hn1;go_cut [3] (fun v3 wx=>v3=.bool (Au4 e)∧A5 46 wx n1 (A7 e)∧Below w.heap.size w wx)
 case first=>
  have g9:=B.out.blk.endIn.seq;have gw:=B.out.blk.endIn.at_w;have gr:=B.out.blk.endIn.at_r;have GW:=Lh gw;have GR:=Lh gr;clear gw gr;by_cases hs:e.seq=0
  ·have s0:(e.seq==0)=true:=by rw[hs];rfl
   have hz:=HZ.out;have HQ:=Lh (show Au4 e=(Bk0 e&&Cg2 e) by unfold Au4;rw[s0,Bool.true_and]);generalize Bk0 e=Z at hz HQ;rw[hs] at g9;clear hs s0 HZ;rcases Z with _ | _
   ·go_wp2_with (first
     | (refine F9 28 (.tmp 9) n1 10 (by first | rfl | simp[Region.wanted,yielded]) rfl rfl GW.out Tryz.underlying28 rfl (by rw[D5];exact HI.out) ?_)
     | (refine F9 32 (.tmp 15) n1 27 (by first | rfl | simp[Region.wanted,yielded]) rfl rfl GR.out Tryz.underlying32 rfl HJ.out ?_))
    go_meet
    exact⟨by rw[HQ.out];rfl,B.out,G.out⟩
   ·go_wp2_with (first
     | (refine F9 28 (.tmp 9) n1 10 (by first | rfl | simp[Region.wanted,yielded]) rfl rfl GW.out Tryz.underlying28 rfl (by rw[D5];exact HI.out) ?_)
     | (refine F9 32 (.tmp 15) n1 27 (by first | rfl | simp[Region.wanted,yielded]) rfl rfl GR.out Tryz.underlying32 rfl HJ.out ?_))
    refine(HR.out _ G.out).mono ?_;rintro x w2 ⟨rfl,hb⟩;go_wp2_with fail
    go_meet
    exact⟨by rw[HQ.out];rfl,B.out.up hb,bt G.out hb⟩
  ·have s0:(e.seq==0)=false:=by rw[beq_eq_false_iff_ne];exact hs
   have HQ:=Lh (show Au4 e=false by unfold Au4;rw[s0,Bool.false_and]);clear hs HZ;go_wp2_with fail
   go_meet
   exact⟨by rw[HQ.out],B.out,G.out⟩
 case rest=>
  obtain⟨rfl,hB,hG⟩:=hcut;replace B:=Lh hB;replace G:=Lh hG;clear hB hG HR HZ;go_upto_region 2 with(fail)
  refine Dz2 (e:=e) (Nat.le_refl _) rfl (fun _ _ d _ _ h=>by cases d<;>exact h) B.out ?_;intro _ _ _ _ _ _ _ _ _ _ _ _ _ _ _ _ _ _ w9 hB9 hb9;simp only[B9,Act.put,List.setIfInBounds_toArray,List.set_cons_zero,List.set_cons_succ];replace B:=Lh hB9;replace G:=Lh (bt G.out hb9);clear hB9 hb9;have g2:=B.out.blk.endIn.ph;have g6:=B.out.blk.endIn.own;have g7:=B.out.blk.endIn.oth;have gc:=B.out.blk.endIn.cno;have gp:=B.out.blk.endIn.pno;have H1:=Lh (Eg5 (e:=e) rfl);have H2:=Lh (Em9 (e:=e));have H3:=Lh (En0 (e:=e));have HK:=Lh (fun W=>Ae6 e.ph W);have HL:=Lh (show V4 e.ph=true↔(2≤e.ph∧e.ph≤6) by unfold V4;exact decide_eq_true_iff);generalize Bo7 e=q at H1 H2 H3 ⊢;generalize Au4 e=bb at H2 H3 ⊢;generalize V4 e.ph=l at H1 H3 HK HL;rcases l with _ | _
  ·replace H3:=Lh (H3.out rfl);clear H1;by_cases hp:e.ph=1
   ·replace H2:=Lh (H2.out hp);have p1:(e.ph==1)=true:=by rw[hp];rfl
    clear H3 HL hp;rcases q with _ | _<;>rcases bb with _ | _;all_goals
     go_wp2_with fail
     refine(HK.out _).mono ?_;rintro x w2 ⟨rfl,rfl⟩;go_wp2_with fail
     all_goals
      go_ret;refine⟨M0 (H2.out _ ?_),G.out⟩
      (try simp only[Bool.false_eq_true,false_iff,true_iff,iff_true,iff_false,decide_eq_true_eq,decide_eq_false_iff_not,Bool.and_eq_true,Bool.or_eq_true,beq_iff_eq,beq_eq_false_iff_ne,bne_iff_ne,ne_eq,false_and,and_false,true_and,and_true,not_false_eq_true,not_true_eq_false] at *)<;>omega
   ·replace H3:=Lh (H3.out hp);have p1:(e.ph==1)=false:=by rw[beq_eq_false_iff_ne];exact hp
    clear H2 HL hp;rcases q with _ | _<;>rcases bb with _ | _;all_goals
     go_wp2_with fail
     refine(HK.out _).mono ?_;rintro x w2 ⟨rfl,rfl⟩;go_wp2_with fail
     all_goals
      go_ret;refine⟨M0 (H3.out _ ?_),G.out⟩
      (try simp only[Bool.false_eq_true,false_iff,true_iff,iff_true,iff_false,decide_eq_true_eq,decide_eq_false_iff_not,Bool.and_eq_true,Bool.or_eq_true,beq_iff_eq,beq_eq_false_iff_ne,bne_iff_ne,ne_eq,false_and,and_false,true_and,and_true,not_false_eq_true,not_true_eq_false] at *)<;>omega
  ·clear H2 H3;rcases q with _ | _;all_goals
    go_wp2_with fail
    refine(HK.out _).mono ?_;rintro x w2 ⟨rfl,rfl⟩;go_wp2_with fail
    all_goals
     go_ret;refine⟨M0 (H1.out _ ?_ (by first | rfl | trivial)),G.out⟩;clear H1 HL HK
     (try simp only[Bool.false_eq_true,false_iff,true_iff,iff_true,iff_false,decide_eq_true_eq,decide_eq_false_iff_not,Bool.and_eq_true,Bool.or_eq_true,beq_iff_eq,beq_eq_false_iff_ne,bne_iff_ne,ne_eq,false_and,and_false,true_and,and_true,not_false_eq_true,not_true_eq_false] at *)<;>omega
def Bv5(e:Ev):Bool:=decide (0≤e.id∧e.id≤1)
def Bv6(e:Ev):Bool:=decide (0≤e.ph∧e.ph≤8)
def Br8(e:Ev):Bool:=Y4 4611686018427387904 [e.own,e.oth,e.seen,e.seq]
def Cs6(e:Ev):Bool:=Y4 999999 [e.stan,e.day]
def Ba0(e:Ev):Bool:=decide (Aa5 e.wt e.wb)
def An4(e:Ev):Bool:=Ap8 e.r.c e.r.o e.r.p e.r.l e.r.t
def Ax8(e:Ev):Bool:=Ak9 e.s1.l e.s2.l&&(Ba0 e&&(An4 e&&(Aq6 e.q&&Y5 e.h e.hs)))
def Bo9(e:Ev):Bool:=Bv5 e&&(Bv6 e&&(Br8 e&&Cs6 e))
def Ad6(e:Ev):Bool:=Bo9 e&&(Ax8 e&&((e.k.l.length==32)&&(Ae7 e&&Ad1 e)))
theorem Bp0{w:World}{e:Ev}(h:Ah6 w e):Be2 w (.agg #[.slice e.s1.a e.s1.l.length e.s1.c,.slice e.s2.a e.s2.l.length e.s2.c]) e.s1.l e.s2.l:=⟨_,_,_,_,rfl,⟨h.s1.le,h.s1.max⟩,⟨h.s2.le,h.s2.max⟩,h.s1.b,h.s2.b⟩
theorem Ah6.qmax{w:World}{e:Ev}(h:Ah6 w e):e.q.body.length≤maxLen:=Nat.le_trans h.ql.1 h.ql.2
theorem Ah6.umax{w:World}{e:Ev}(h:Ah6 w e):e.u.length≤maxLen:=Nat.le_trans h.ul.1 h.ul.2
theorem Av4(e:Ev)(w:World)(h:Ah6 w e):Calls Tryz.prog 42 #[.agg (A7 e).toArray] w (G6 w (Ad6 e)):=by
 have HE:=Lh (show(Tryz.prog.info? 46).map (·.size)=some (A7 e).length by rw[F2];exact M7);have HS:=Lh Bb0;have HW:=Lh (show(Tryz.prog.info? 28).map (·.size)=some (C4 e.wt e.wb).length by rw[D5];exact N6);have HR:=Lh Ac7;have HA:=Lh Be8;have HH:=Lh Ag8;have N1:=Lh (fun(r:Bool) (hr:Bv5 e=r)=>At3 (hi:=1) (l:=[e.id]) r (by rw[←hr];unfold Bv5 Y4;simp) 1 rfl (by decide));have N2:=Lh (fun(r:Bool) (hr:Bv6 e=r)=>At3 (hi:=8) (l:=[e.ph]) r (by rw[←hr];unfold Bv6 Y4;simp) 1 rfl (by decide));have N3:=Lh (fun(r:Bool) (hr:Br8 e=r)=>At3 (hi:=4611686018427387904) (l:=[e.own,e.oth,e.seen,e.seq]) r hr 4 rfl (by decide));have N4:=Lh (fun(r:Bool) (hr:Cs6 e=r)=>At3 (hi:=999999) (l:=[e.stan,e.day]) r hr 2 rfl (by decide));have P1:=Lh (fun(r:Bool) (hr:Ak9 e.s1.l e.s2.l=r) (W:World) (hb:Below w.heap.size w W)=>(show Calls Tryz.prog 93 #[.agg #[.slice e.s1.a e.s1.l.length e.s1.c,.slice e.s2.a e.s2.l.length e.s2.c]] W (G6 W r) from hr▸Cj6 _ _ _ W (Bp0 (h.mono hb))));have P2:=Lh (fun(r:Bool) (hr:Ba0 e=r) (W:World)=>(show Calls Tryz.prog 94 #[.agg (C4 e.wt e.wb).toArray] W (G6 W r) from hr▸Cb6 e.wt e.wb h.wt W));have P3:=Lh (fun(r:Bool) (hr:An4 e=r) (W:World)=>(show Calls Tryz.prog 95 #[.agg e.r.L.toArray] W (G6 W r) from hr▸Cf7 e.r.c e.r.o e.r.p e.r.l e.r.t W));have P4:=Lh (fun(r:Bool) (hr:Aq6 e.q=r) (W:World) (hb:Below w.heap.size w W)=>(show Calls Tryz.prog 96 #[.agg (K7 e.q e.qa e.qc).toArray] W (G6 W r) from hr▸Cc0 e.q e.qa e.qc W h.qmax (h.q.mono hb)));have P5:=Lh (fun(r:Bool) (hr:Y5 e.h e.hs=r) (W:World) (hb:Below w.heap.size w W)=>(show Calls Tryz.prog 97 #[.agg e.h.L.toArray] W (G6 W r) from hr▸Cf5 e.h e.hs W (h.h.mono hb)));have M1:=Lh (fun(r:Bool) (hr:Ae7 e=r) (W:World) (hb:Below w.heap.size w W)=>(show Calls Tryz.prog 98 #[.agg (A7 e).toArray] W (G6 W r) from hr▸Bz4 e W (h.u.mono hb) h.umax));have M2:=Lh (fun(r:Bool) (hr:Ad1 e=r) (W:World) (hb:Below w.heap.size w W)=>(show Calls Tryz.prog 99 #[.agg (A7 e).toArray] W (G6 W r) from hr▸Bv4 e W (h.mono hb)));have HQ:=Lh (show Ad6 e=(Bo9 e&&(Ax8 e&&((e.k.l.length==32)&&(Ae7 e&&Ad1 e)))) from rfl);have HP:=Lh (show Ax8 e=(Ak9 e.s1.l e.s2.l&&(Ba0 e&&(An4 e&&(Aq6 e.q&&Y5 e.h e.hs)))) from rfl);clear h;go_enter Tryz.func42,Tryz.ntmps42
 go_upto_region 1 with(fail)
 generalize hW:World.alloc w _=W;have B:=Lh (show A5 46 W w.heap.size (A7 e) by rw[←hW];exact A5.new w (A7 e) _);have G:=Lh (show Below w.heap.size w W by rw[←hW];exact ba w _);clear hW;generalize hn1:w.heap.size=n1 at B ⊢;clear hn1;go_cut [3] (fun v3 wx=>v3=.bool (Bo9 e)∧A5 46 wx n1 (A7 e)∧Below w.heap.size w wx)
 case first=>
  replace N1:=Lh (N1.out _ rfl);replace N2:=Lh (N2.out _ rfl);replace N3:=Lh (N3.out _ rfl);replace N4:=Lh (N4.out _ rfl);have HX:=Lh (show Bo9 e=(Bv5 e&&(Bv6 e&&(Br8 e&&Cs6 e))) from rfl);generalize Bv5 e=z1 at N1 HX;generalize Bv6 e=z2 at N2 HX;generalize Br8 e=z3 at N3 HX;generalize Cs6 e=z4 at N4 HX;have g0:=B.out.blk.endIn.id;go_wp2_with fail
  refine(N1.out _ _ rfl).mono ?_;rintro x w2 ⟨rfl,hb⟩;replace B:=Lh (B.out.up hb);replace G:=Lh (bt G.out hb);clear hb g0;rcases z1 with _ | _
  ·go_wp2_with fail
   go_meet
   exact⟨by simp only[HX.out,Bool.false_and,Bool.and_false,Bool.true_and,Bool.and_true],B.out,G.out⟩
  ·have g0:=B.out.blk.endIn.ph;go_wp2_with fail
   refine(N2.out _ _ rfl).mono ?_;rintro x w3 ⟨rfl,hb⟩;replace B:=Lh (B.out.up hb);replace G:=Lh (bt G.out hb);clear hb g0;rcases z2 with _ | _
   ·go_wp2_with fail
    go_meet
    exact⟨by simp only[HX.out,Bool.false_and,Bool.and_false,Bool.true_and,Bool.and_true],B.out,G.out⟩
   ·have g0:=B.out.blk.endIn.own;have g1:=B.out.blk.endIn.oth;have g2:=B.out.blk.endIn.seen;have g3:=B.out.blk.endIn.seq;go_wp2_with fail
    refine(N3.out _ _ rfl).mono ?_;rintro x w4 ⟨rfl,hb⟩;replace B:=Lh (B.out.up hb);replace G:=Lh (bt G.out hb);clear hb g0 g1 g2 g3;rcases z3 with _ | _
    ·go_wp2_with fail
     go_meet
     exact⟨by simp only[HX.out,Bool.false_and,Bool.and_false,Bool.true_and,Bool.and_true],B.out,G.out⟩
    ·have g0:=B.out.blk.endIn.stan;have g1:=B.out.blk.endIn.day;go_wp2_with fail
     refine(N4.out _ _ rfl).mono ?_;rintro x w5 ⟨rfl,hb⟩;replace B:=Lh (B.out.up hb);replace G:=Lh (bt G.out hb);clear hb g0 g1;go_wp2_with fail
     go_meet
     exact⟨by simp only[HX.out,Bool.false_and,Bool.and_false,Bool.true_and,Bool.and_true],B.out,G.out⟩
 case rest=>
  obtain⟨rfl,hB,hG⟩:=hcut;replace B:=Lh hB;replace G:=Lh hG;clear hB hG N1 N2 N3 N4;go_upto_region 2 with(fail)
  go_cut [4] (fun v4 wx=>v4=.bool (Ax8 e)∧A5 46 wx n1 (A7 e)∧Below w.heap.size w wx)
  case first=>
   clear M1 M2 HQ;replace P1:=Lh (P1.out _ rfl);replace P2:=Lh (P2.out _ rfl);replace P3:=Lh (P3.out _ rfl);replace P4:=Lh (P4.out _ rfl);replace P5:=Lh (P5.out _ rfl);have HX:=HP;clear HP;generalize Ak9 e.s1.l e.s2.l=z1 at P1 HX;generalize Ba0 e=z2 at P2 HX;generalize An4 e=z3 at P3 HX;generalize Aq6 e.q=z4 at P4 HX;generalize Y5 e.h e.hs=z5 at P5 HX;go_wp2_with (first
   | (refine F9 24 (.tmp 35) n1 3 (by first | rfl | simp[Region.wanted,yielded]) rfl rfl (B.out.blk.endIn.at_s) Tryz.underlying24 rfl HS.out ?_)
   | (refine F9 28 (.tmp 39) n1 10 (by first | rfl | simp[Region.wanted,yielded]) rfl rfl (B.out.blk.endIn.at_w) Tryz.underlying28 rfl HW.out ?_)
   | (refine F9 32 (.tmp 44) n1 27 (by first | rfl | simp[Region.wanted,yielded]) rfl rfl (B.out.blk.endIn.at_r) Tryz.underlying32 rfl HR.out ?_)
   | (refine F9 34 (.tmp 49) n1 35 (by first | rfl | simp[Region.wanted,yielded]) rfl rfl (B.out.blk.endIn.at_q) Tryz.underlying34 rfl HA.out ?_)
   | (refine F9 42 (.tmp 54) n1 43 (by first | rfl | simp[Region.wanted,yielded]) rfl rfl (B.out.blk.endIn.at_h) Tryz.underlying42 rfl HH.out ?_))
   refine(P1.out _ G.out).mono ?_;rintro x w2 ⟨rfl,hb⟩;replace B:=Lh (B.out.up hb);replace G:=Lh (bt G.out hb);clear hb;rcases z1 with _ | _
   ·go_wp2_with fail
    go_meet
    exact⟨by simp only[HX.out,Bool.false_and,Bool.and_false,Bool.true_and,Bool.and_true],B.out,G.out⟩
   ·go_wp2_with (first
   | (refine F9 24 (.tmp 35) n1 3 (by first | rfl | simp[Region.wanted,yielded]) rfl rfl (B.out.blk.endIn.at_s) Tryz.underlying24 rfl HS.out ?_)
   | (refine F9 28 (.tmp 39) n1 10 (by first | rfl | simp[Region.wanted,yielded]) rfl rfl (B.out.blk.endIn.at_w) Tryz.underlying28 rfl HW.out ?_)
   | (refine F9 32 (.tmp 44) n1 27 (by first | rfl | simp[Region.wanted,yielded]) rfl rfl (B.out.blk.endIn.at_r) Tryz.underlying32 rfl HR.out ?_)
   | (refine F9 34 (.tmp 49) n1 35 (by first | rfl | simp[Region.wanted,yielded]) rfl rfl (B.out.blk.endIn.at_q) Tryz.underlying34 rfl HA.out ?_)
   | (refine F9 42 (.tmp 54) n1 43 (by first | rfl | simp[Region.wanted,yielded]) rfl rfl (B.out.blk.endIn.at_h) Tryz.underlying42 rfl HH.out ?_))
    refine(P2.out _).mono ?_;rintro x w3 ⟨rfl,hb⟩;replace B:=Lh (B.out.up hb);replace G:=Lh (bt G.out hb);clear hb;rcases z2 with _ | _
    ·go_wp2_with fail
     go_meet
     exact⟨by simp only[HX.out,Bool.false_and,Bool.and_false,Bool.true_and,Bool.and_true],B.out,G.out⟩
    ·go_wp2_with (first
   | (refine F9 24 (.tmp 35) n1 3 (by first | rfl | simp[Region.wanted,yielded]) rfl rfl (B.out.blk.endIn.at_s) Tryz.underlying24 rfl HS.out ?_)
   | (refine F9 28 (.tmp 39) n1 10 (by first | rfl | simp[Region.wanted,yielded]) rfl rfl (B.out.blk.endIn.at_w) Tryz.underlying28 rfl HW.out ?_)
   | (refine F9 32 (.tmp 44) n1 27 (by first | rfl | simp[Region.wanted,yielded]) rfl rfl (B.out.blk.endIn.at_r) Tryz.underlying32 rfl HR.out ?_)
   | (refine F9 34 (.tmp 49) n1 35 (by first | rfl | simp[Region.wanted,yielded]) rfl rfl (B.out.blk.endIn.at_q) Tryz.underlying34 rfl HA.out ?_)
   | (refine F9 42 (.tmp 54) n1 43 (by first | rfl | simp[Region.wanted,yielded]) rfl rfl (B.out.blk.endIn.at_h) Tryz.underlying42 rfl HH.out ?_))
     refine(P3.out _).mono ?_;rintro x w4 ⟨rfl,hb⟩;replace B:=Lh (B.out.up hb);replace G:=Lh (bt G.out hb);clear hb;rcases z3 with _ | _
     ·go_wp2_with fail
      go_meet
      exact⟨by simp only[HX.out,Bool.false_and,Bool.and_false,Bool.true_and,Bool.and_true],B.out,G.out⟩
     ·go_wp2_with (first
   | (refine F9 24 (.tmp 35) n1 3 (by first | rfl | simp[Region.wanted,yielded]) rfl rfl (B.out.blk.endIn.at_s) Tryz.underlying24 rfl HS.out ?_)
   | (refine F9 28 (.tmp 39) n1 10 (by first | rfl | simp[Region.wanted,yielded]) rfl rfl (B.out.blk.endIn.at_w) Tryz.underlying28 rfl HW.out ?_)
   | (refine F9 32 (.tmp 44) n1 27 (by first | rfl | simp[Region.wanted,yielded]) rfl rfl (B.out.blk.endIn.at_r) Tryz.underlying32 rfl HR.out ?_)
   | (refine F9 34 (.tmp 49) n1 35 (by first | rfl | simp[Region.wanted,yielded]) rfl rfl (B.out.blk.endIn.at_q) Tryz.underlying34 rfl HA.out ?_)
   | (refine F9 42 (.tmp 54) n1 43 (by first | rfl | simp[Region.wanted,yielded]) rfl rfl (B.out.blk.endIn.at_h) Tryz.underlying42 rfl HH.out ?_))
      refine(P4.out _ G.out).mono ?_;rintro x w5 ⟨rfl,hb⟩;replace B:=Lh (B.out.up hb);replace G:=Lh (bt G.out hb);clear hb;rcases z4 with _ | _
      ·go_wp2_with fail
       go_meet
       exact⟨by simp only[HX.out,Bool.false_and,Bool.and_false,Bool.true_and,Bool.and_true],B.out,G.out⟩
      ·go_wp2_with (first
   | (refine F9 24 (.tmp 35) n1 3 (by first | rfl | simp[Region.wanted,yielded]) rfl rfl (B.out.blk.endIn.at_s) Tryz.underlying24 rfl HS.out ?_)
   | (refine F9 28 (.tmp 39) n1 10 (by first | rfl | simp[Region.wanted,yielded]) rfl rfl (B.out.blk.endIn.at_w) Tryz.underlying28 rfl HW.out ?_)
   | (refine F9 32 (.tmp 44) n1 27 (by first | rfl | simp[Region.wanted,yielded]) rfl rfl (B.out.blk.endIn.at_r) Tryz.underlying32 rfl HR.out ?_)
   | (refine F9 34 (.tmp 49) n1 35 (by first | rfl | simp[Region.wanted,yielded]) rfl rfl (B.out.blk.endIn.at_q) Tryz.underlying34 rfl HA.out ?_)
   | (refine F9 42 (.tmp 54) n1 43 (by first | rfl | simp[Region.wanted,yielded]) rfl rfl (B.out.blk.endIn.at_h) Tryz.underlying42 rfl HH.out ?_))
       refine(P5.out _ G.out).mono ?_;rintro x w6 ⟨rfl,hb⟩;replace B:=Lh (B.out.up hb);replace G:=Lh (bt G.out hb);clear hb;go_wp2_with fail
       go_meet
       exact⟨by simp only[HX.out,Bool.false_and,Bool.and_false,Bool.true_and,Bool.and_true],B.out,G.out⟩
  case rest=>
   obtain⟨rfl,hB,hG⟩:=hcut;replace B:=Lh hB;replace G:=Lh hG;clear hB hG P1 P2 P3 P4 P5 HP;replace M1:=Lh (M1.out _ rfl);replace M2:=Lh (M2.out _ rfl);generalize Bo9 e=zn at HQ ⊢;generalize Ax8 e=zp at HQ ⊢;have HK:=Lh (show(e.k.l.length==32)=((e.k.l.length:Int)==32) by rw[Bool.eq_iff_iff];simp only[beq_iff_eq];omega);generalize Ae7 e=z1 at M1 HQ;generalize Ad1 e=z2 at M2 HQ;rw[HK.out] at HQ;rcases zn with _ | _
   ·go_wp2_with fail
    go_ret;exact⟨M0 (by simp only[HQ.out,Bool.false_and]),G.out⟩
   rcases zp with _ | _
   ·go_wp2_with fail
    go_ret;exact⟨M0 (by simp only[HQ.out,Bool.false_and,Bool.and_false]),G.out⟩
   have gk:=B.out.blk.endIn.k;rcases hk:((e.k.l.length:Int)==32) with _ | _
   ·rw[hk] at HQ;go_wp2_with fail
    go_ret;exact⟨M0 (by simp only[HQ.out,Bool.false_and,Bool.and_false]),G.out⟩
   ·rw[hk] at HQ;go_wp2_with (first | (refine Q7 46 (.tmp 1) n1 (cs:=A7 e) (by first | rfl | simp[Region.wanted,yielded]) rfl rfl B.out.blk Tryz.underlying46 rfl HE.out ?_))
    refine(M1.out _ G.out).mono ?_;rintro x w2 ⟨rfl,hb⟩;replace B:=Lh (B.out.up hb);replace G:=Lh (bt G.out hb);clear hb;rcases z1 with _ | _
    ·go_wp2_with fail
     go_ret;exact⟨M0 (by simp only[HQ.out,Bool.false_and,Bool.and_false,Bool.true_and,Bool.and_true]),G.out⟩
    ·go_wp2_with (first | (refine Q7 46 (.tmp 1) n1 (cs:=A7 e) (by first | rfl | simp[Region.wanted,yielded]) rfl rfl B.out.blk Tryz.underlying46 rfl HE.out ?_))
     refine(M2.out _ G.out).mono ?_;rintro x w3 ⟨rfl,hb⟩;replace B:=Lh (B.out.up hb);replace G:=Lh (bt G.out hb);clear hb;go_wp2_with fail
     go_ret;exact⟨M0 (by simp only[HQ.out,Bool.false_and,Bool.and_false,Bool.true_and,Bool.and_true]),G.out⟩
def no8:Value→Bool
 | .int .u8 _=>false
 | _=>true
theorem Dz4(t:Int)(b:Nat→UInt64):(C4 t b).all no8=true:=by
 unfold C4;rw[List.all_cons];simp only[no8,Bool.true_and,List.all_map];rw[List.all_eq_true];intro i _;rfl
theorem Bf0(e:Ev):(A7 e).all no8=true:=by
 unfold A7;simp only[List.all_append,Dz4,Bool.true_and,Bool.and_true];rfl
theorem Q4(s:Sv):(A6 s).all no8=true:=by
 unfold A6;simp only[List.all_append,Bf0,Bool.true_and,Bool.and_true];rfl
theorem Ax9(k d e0 e1 g s:Int)(b t:Option Addr)(bn bc tn tc:Nat):(I1 k d e0 e1 g s (.slice b bn bc) (.slice t tn tc)).all no8=true:=rfl
theorem A4.ne8{w:World}{b:Nat}{cs:List Value}{a:Option Addr}{l:List UInt8}(h:A4 w a l)(hb:Blk w b cs)(hcs:cs.all no8=true):AtP (fun g=>g≠b) w a (B8s l):=by
 by_cases h0:l=[]
 ·subst h0;exact .inl rfl
 rcases h with h | ⟨b',off,rfl,hlt,hc⟩
 ·exact .inl h
 refine .inr ⟨b',off,rfl,?_,hlt,hc⟩;intro hbb;subst hbb;have h1:=hc 0 (by rw[List.length_map];exact List.length_pos_iff.2 h0);obtain⟨T,hg⟩:=hb;rw[Nat.add_zero] at h1;have h2:w.cell? ⟨b',off,none⟩=cs[off]?:=by simp[World.cell?,hg]
 rw[h2] at h1;have hm:=List.mem_of_getElem? h1;have:=(List.all_eq_true.1 hcs) _ hm;rw[Bt7 l 0 (List.length_pos_iff.2 h0)] at this;cases this
structure K8 (b:Nat) (w w':World):Prop where
 blk:∃cs,Blk w b cs∧cs.all no8=true
 k:Kp b w w'
theorem A5.k8{T:TypeId}{b:Nat}{w w':World}{cs:List Value}(h:A5 T w b cs)(hcs:cs.all no8=true)(k:Kp b w w'):K8 b w w':=⟨⟨cs,h.blk,hcs⟩,k⟩
theorem A4.k8{w w':World}{b:Nat}{a:Option Addr}{l:List UInt8}(h:A4 w a l)(k:K8 b w w'):A4 w' a l:=by
 obtain⟨cs,hb,hcs⟩:=k.blk;exact((h.ne8 hb hcs).kp (q:=fun _=>True) k.k fun g hg=>⟨hg,trivial⟩).at
theorem A4.kp8{w w':World}{b:Nat}{cs:List Value}{a:Option Addr}{l:List UInt8}(h:A4 w a l)(hb:Blk w b cs)(hcs:cs.all no8=true)(k:Kp b w w'):A4 w' a l:=
 ((h.ne8 hb hcs).kp (q:=fun _=>True) k fun g hg=>⟨hg,trivial⟩).at
theorem Al3.k8{w w':World}{b:Nat}{s:Sl}(h:Al3 w s)(k:K8 b w w'):Al3 w' s:=⟨h.b.k8 k,h.le,h.max⟩
theorem Y6.k8{w w':World}{b:Nat}{v:Value}{r:List UInt8}(h:Y6 w v r)(k:K8 b w w'):Y6 w' v r:=by
 obtain⟨p,c,h1,h2,h3,h4⟩:=h;exact⟨p,c,h1,h2,h3,A4.k8 h4 k⟩
theorem Av3.k8{w w':World}{b:Nat}{r:Rg}{kc ko kp:List UInt8}(h:Av3 w r kc ko kp)(k:K8 b w w'):Av3 w' r kc ko kp:=
 ⟨h.lc,A4.k8 h.c k,h.lo,A4.k8 h.o k,h.lp,A4.k8 h.p k⟩
theorem Ao9.k8{w w':World}{b:Nat}{h:Hv}{s:Nat→Fd}(hh:Ao9 w h s)(k:K8 b w w'):Ao9 w' h s:=fun i hi=>by
 have:=hh i hi;exact⟨this.len,this.le,this.cap,A4.k8 this.buf k,this.skip,this.bad⟩
def Ad2(q:Nat→Prop)(w:World)(a:Option Addr)(rows:List (List UInt8)):Prop:=∃vs,AtP q w a vs∧Af3 w vs rows
theorem Ad2.at{q:Nat→Prop}{w:World}{a:Option Addr}{rows:List (List UInt8)}(h:Ad2 q w a rows):W6 w a rows:=by
 obtain⟨vs,h1,h2⟩:=h;exact⟨vs,h1.at,h2⟩
theorem Ad2.to{q p:Nat→Prop}{w:World}{a:Option Addr}{rows:List (List UInt8)}(h:Ad2 q w a rows)(hn:∀g,g<w.heap.size→q g→p g):Ad2 p w a rows:=by
 obtain⟨vs,h1,h2⟩:=h;exact⟨vs,h1.to (Nat.le_refl _) fun g hg hp=>⟨rfl,hn g hg hp⟩,h2⟩
theorem Ad2.mono{q:Nat→Prop}{w w':World}{a:Option Addr}{rows:List (List UInt8)}(h:Ad2 q w a rows)(hb:Below w.heap.size w w'):Ad2 q w' a rows:=by
 obtain⟨vs,h1,h2⟩:=h;exact⟨vs,h1.up hb,h2.mono hb⟩
theorem Ad2.k8{q:Nat→Prop}{w w':World}{b:Nat}{a:Option Addr}{rows:List (List UInt8)}(h:Ad2 q w a rows)(k:K8 b w w')(hn:∀g,q g→g≠b):Ad2 q w' a rows:=by
 obtain⟨vs,h1,h2⟩:=h;exact⟨vs,h1.kp k.k fun g hg=>⟨hn g hg,hg⟩,h2.1,fun i hi=>(h2.2 i hi).k8 k⟩
theorem Ad2.of{q:Nat→Prop}{w:World}{a:Option Addr}{rows:List (List UInt8)}(h:W6 w a rows)(hq:∀g,g<w.heap.size→q g):Ad2 q w a rows:=by
 obtain⟨vs,h1,h2⟩:=h;exact⟨vs,AtP.of h1 hq,h2⟩
theorem Ad2.nil(q:Nat→Prop)(w:World)(a:Option Addr):Ad2 q w a []:=⟨[],.inl rfl,.nil w⟩
def Aa8(q:Nat→Prop)(w:World)(a:Option Addr)(l:List (Int×List UInt8)):Prop:=
 ∃vs:List Value,vs.length=l.length*2∧AtP q w a vs∧∀i,i<l.length→vs.getD (i*2) undef=.int .i64 (l.getD i (0,[])).1∧Y6 w (vs.getD (i*2+1) undef) (l.getD i (0,[])).2
theorem Aa8.at{q:Nat→Prop}{w:World}{a:Option Addr}{l:List (Int×List UInt8)}(h:Aa8 q w a l):Ad0 w a l:=by
 obtain⟨vs,h1,h2,h3⟩:=h;exact⟨vs,h1,h2.at,h3⟩
theorem Aa8.to{q p:Nat→Prop}{w:World}{a:Option Addr}{l:List (Int×List UInt8)}(h:Aa8 q w a l)(hn:∀g,g<w.heap.size→q g→p g):Aa8 p w a l:=by
 obtain⟨vs,h1,h2,h3⟩:=h;exact⟨vs,h1,h2.to (Nat.le_refl _) fun g hg hp=>⟨rfl,hn g hg hp⟩,h3⟩
theorem Aa8.of{q:Nat→Prop}{w:World}{a:Option Addr}{l:List (Int×List UInt8)}(h:Ad0 w a l)(hq:∀g,g<w.heap.size→q g):Aa8 q w a l:=by
 obtain⟨vs,h1,h2,h3⟩:=h;exact⟨vs,h1,AtP.of h2 hq,h3⟩
theorem Aa8.mono{q:Nat→Prop}{w w':World}{a:Option Addr}{l:List (Int×List UInt8)}(h:Aa8 q w a l)(hb:Below w.heap.size w w'):Aa8 q w' a l:=by
 obtain⟨vs,h1,h2,h3⟩:=h;exact⟨vs,h1,h2.up hb,fun i hi=>⟨(h3 i hi).1,(h3 i hi).2.mono hb⟩⟩
theorem Aa8.k8{q:Nat→Prop}{w w':World}{b:Nat}{a:Option Addr}{l:List (Int×List UInt8)}(h:Aa8 q w a l)(k:K8 b w w')(hn:∀g,q g→g≠b):Aa8 q w' a l:=by
 obtain⟨vs,h1,h2,h3⟩:=h;exact⟨vs,h1,h2.kp k.k fun g hg=>⟨hn g hg,hg⟩,fun i hi=>⟨(h3 i hi).1,(h3 i hi).2.k8 k⟩⟩
def Af0(q:Nat→Prop)(w:World)(a:Option Addr)(l:List Gt):Prop:=
 ∃vs:List Value,vs.length=l.length*5∧AtP q w a vs∧∀i,i<l.length→vs.getD (i*5) undef=.int .i64 (l.getD i default).kind∧vs.getD (i*5+1) undef=.int .i64 (l.getD i default).e0∧vs.getD (i*5+2) undef=.int .i64 (l.getD i default).e1∧vs.getD (i*5+3) undef=.int .i64 (l.getD i default).seq∧Y6 w (vs.getD (i*5+4) undef) (l.getD i default).b
theorem Af0.at{q:Nat→Prop}{w:World}{a:Option Addr}{l:List Gt}(h:Af0 q w a l):Ah8 w a l:=by
 obtain⟨vs,h1,h2,h3⟩:=h;exact⟨vs,h1,h2.at,h3⟩
theorem Af0.to{q p:Nat→Prop}{w:World}{a:Option Addr}{l:List Gt}(h:Af0 q w a l)(hn:∀g,g<w.heap.size→q g→p g):Af0 p w a l:=by
 obtain⟨vs,h1,h2,h3⟩:=h;exact⟨vs,h1,h2.to (Nat.le_refl _) fun g hg hp=>⟨rfl,hn g hg hp⟩,h3⟩
theorem Af0.of{q:Nat→Prop}{w:World}{a:Option Addr}{l:List Gt}(h:Ah8 w a l)(hq:∀g,g<w.heap.size→q g):Af0 q w a l:=by
 obtain⟨vs,h1,h2,h3⟩:=h;exact⟨vs,h1,AtP.of h2 hq,h3⟩
theorem Af0.mono{q:Nat→Prop}{w w':World}{a:Option Addr}{l:List Gt}(h:Af0 q w a l)(hb:Below w.heap.size w w'):Af0 q w' a l:=by
 obtain⟨vs,h1,h2,h3⟩:=h;exact⟨vs,h1,h2.up hb,fun i hi=>⟨(h3 i hi).1,(h3 i hi).2.1,(h3 i hi).2.2.1,(h3 i hi).2.2.2.1,(h3 i hi).2.2.2.2.mono hb⟩⟩
theorem Af0.k8{q:Nat→Prop}{w w':World}{b:Nat}{a:Option Addr}{l:List Gt}(h:Af0 q w a l)(k:K8 b w w')(hn:∀g,q g→g≠b):Af0 q w' a l:=by
 obtain⟨vs,h1,h2,h3⟩:=h;exact⟨vs,h1,h2.kp k.k fun g hg=>⟨hn g hg,hg⟩,fun i hi=>⟨(h3 i hi).1,(h3 i hi).2.1,(h3 i hi).2.2.1,(h3 i hi).2.2.2.1,(h3 i hi).2.2.2.2.k8 k⟩⟩
structure S7 (Q:Nat→Prop) (w:World) (e:Ev):Prop where
 k:Al3 w e.k
 s1:Al3 w e.s1
 s2:Al3 w e.s2
 r:Av3 w e.r e.kc e.ko e.kp
 rc:e.r.c.len≤e.r.c.cap∧e.r.c.cap≤maxLen
 ro:e.r.o.len≤e.r.o.cap∧e.r.o.cap≤maxLen
 rp:e.r.p.len≤e.r.p.cap∧e.r.p.cap≤maxLen
 q:A4 w e.qa e.q.body
 ql:e.q.body.length≤e.qc∧e.qc≤maxLen
 u:Ad2 Q w e.ua e.u
 ul:e.u.length≤e.uc∧e.uc≤maxLen
 h:Ao9 w e.h e.hs
 hl:∀i,i<4→(e.h.f i).len≤maxLen
 o:Aa8 Q w e.oa e.o
 ol:e.o.length≤e.oc∧e.oc≤maxLen
 g:Af0 Q w e.ga e.g
 gl:e.g.length≤e.gc∧e.gc≤maxLen
 wt:-9223372036854775808≤e.wt∧e.wt≤9223372036854775807
theorem S7.at{q:Nat→Prop}{w:World}{e:Ev}(h:S7 q w e):Ah6 w e:=⟨h.k,h.s1,h.s2,h.r,h.rc,h.ro,h.rp,h.q,h.ql,h.u.at,h.ul,h.h,h.hl,h.o.at,h.ol,h.g.at,h.gl,h.wt⟩
theorem S7.to{q p:Nat→Prop}{w:World}{e:Ev}(h:S7 q w e)(hn:∀g,g<w.heap.size→q g→p g):S7 p w e:=⟨h.k,h.s1,h.s2,h.r,h.rc,h.ro,h.rp,h.q,h.ql,h.u.to hn,h.ul,h.h,h.hl,h.o.to hn,h.ol,h.g.to hn,h.gl,h.wt⟩
theorem S7.mono{q:Nat→Prop}{w w':World}{e:Ev}(h:S7 q w e)(hb:Below w.heap.size w w'):S7 q w' e:=
 ⟨h.k.mono hb,h.s1.mono hb,h.s2.mono hb,h.r.mono hb,h.rc,h.ro,h.rp,h.q.mono hb,h.ql,h.u.mono hb,h.ul,h.h.mono hb,h.hl,h.o.mono hb,h.ol,h.g.mono hb,h.gl,h.wt⟩
theorem S7.k8{q:Nat→Prop}{w w':World}{b:Nat}{e:Ev}(h:S7 q w e)(k:K8 b w w')(hn:∀g,q g→g≠b):S7 q w' e:=
 ⟨h.k.k8 k,h.s1.k8 k,h.s2.k8 k,h.r.k8 k,h.rc,h.ro,h.rp,A4.k8 h.q k,h.ql,h.u.k8 k hn,h.ul,h.h.k8 k,h.hl,h.o.k8 k hn,h.ol,h.g.k8 k hn,h.gl,h.wt⟩
def Ac0(pt pr:Nat→Prop)(w:World)(a:Option Addr)(es:List Ent):Prop:=
 ∃vs:List Value,vs.length=es.length*2∧AtP pt w a vs∧∀i,i<es.length→Z1 pr w (vs.getD (i*2) undef) (es.getD i ([],[])).1∧Z1 pr w (vs.getD (i*2+1) undef) (es.getD i ([],[])).2
abbrev Ad3(p:Nat→Prop)(w:World)(a:Option Addr)(es:List Ent):Prop:=Ac0 p (fun _=>True) w a es
theorem Ac0.ents{pt pr:Nat→Prop}{w:World}{a:Option Addr}{es:List Ent}(h:Ac0 pt pr w a es):Y0 w a es:=by
 obtain⟨vs,h1,h2,h3⟩:=h;exact⟨vs,h1,h2.at,fun i hi=>⟨(h3 i hi).1.row,(h3 i hi).2.row⟩⟩
theorem Ad3.of{p:Nat→Prop}{w:World}{a:Option Addr}{es:List Ent}(h:Y0 w a es)(hp:∀g,g<w.heap.size→p g):Ad3 p w a es:=by
 obtain⟨vs,h1,h2,h3⟩:=h;exact⟨vs,h1,AtP.of h2 hp,fun i hi=>⟨Z1.of (h3 i hi).1 fun _ _=>trivial,Z1.of (h3 i hi).2 fun _ _=>trivial⟩⟩
theorem Ac0.to{pt pr qt qr:Nat→Prop}{w w':World}{a:Option Addr}{es:List Ent}(h:Ac0 pt pr w a es)(hs:w.heap.size≤w'.heap.size)(hk:∀b,b<w.heap.size→pt b→w'.heap[b]?=w.heap[b]?∧qt b)(hr:∀b,b<w.heap.size→pr b→w'.heap[b]?=w.heap[b]?∧qr b):Ac0 qt qr w' a es:=by
 obtain⟨vs,h1,h2,h3⟩:=h;exact⟨vs,h1,h2.to hs hk,fun i hi=>⟨(h3 i hi).1.to hs hr,(h3 i hi).2.to hs hr⟩⟩
theorem Ac0.up{pt pr:Nat→Prop}{w w':World}{a:Option Addr}{es:List Ent}(h:Ac0 pt pr w a es)(hb:Below w.heap.size w w'):Ac0 pt pr w' a es:=
 h.to hb.size (fun g hg hp=>⟨hb.block g hg,hp⟩) fun g hg hp=>⟨hb.block g hg,hp⟩
theorem Ad3.weak{p q:Nat→Prop}{w:World}{a:Option Addr}{es:List Ent}(h:Ad3 p w a es)(hn:∀g,g<w.heap.size→p g→q g):Ad3 q w a es:=
 Ac0.to h (Nat.le_refl _) (fun g hg hp=>⟨rfl,hn g hg hp⟩) fun g hg hp=>⟨rfl,hp⟩
theorem Z1.tr{w:World}{v:Value}{r:List UInt8}(h:Y6 w v r):Z1 (fun _=>True) w v r:=Z1.of h fun _ _=>trivial
theorem Ad3.k8{p:Nat→Prop}{w w':World}{b:Nat}{a:Option Addr}{es:List Ent}(h:Ad3 p w a es)(k:K8 b w w')(hn:∀g,p g→g≠b):Ad3 p w' a es:=by
 obtain⟨vs,h1,h2,h3⟩:=h;exact⟨vs,h1,h2.kp k.k fun g hg=>⟨hn g hg,hg⟩,fun i hi=>⟨Z1.tr ((h3 i hi).1.row.k8 k),Z1.tr ((h3 i hi).2.row.k8 k)⟩⟩
theorem Ac0.snoc{pt pr:Nat→Prop}{w':World}{a':Option Addr}{es:List Ent}{vs:List Value}{v0 v1:Value}{k b:List UInt8}(hvl:vs.length=es.length*2)
 (hr:∀i,i<es.length→Z1 pr w' (vs.getD (i*2) undef) (es.getD i ([],[])).1∧Z1 pr w' (vs.getD (i*2+1) undef) (es.getD i ([],[])).2) (hA:AtP pt w' a' (vs++[v0,v1])) (h0:Z1 pr w' v0 k) (h1:Z1 pr w' v1 b):Ac0 pt pr w' a' (es++[(k,b)]):=by
 refine⟨_,by rw[List.length_append,List.length_append,hvl];simp;omega,hA,fun i hi=>?_⟩;have g1:∀j,j<vs.length→(vs++[v0,v1]).getD j undef=vs.getD j undef:=fun j hj=>by
  simp only[List.getD_eq_getElem?_getD,List.getElem?_append_left hj]
 by_cases hl:i<es.length
 ·have e:(es++[(k,b)]).getD i ([],[])=es.getD i ([],[]):=by simp only[List.getD_eq_getElem?_getD,List.getElem?_append_left hl]
  rw[g1 _ (by omega),g1 _ (by omega),e];exact hr i hl
 ·have hi':i=es.length:=by simp at hi;omega
  subst hi';have e:(es++[(k,b)]).getD es.length ([],[])=(k,b):=by simp[List.getD_eq_getElem?_getD]
  have g2:∀j,(vs++[v0,v1]).getD (es.length*2+j) undef=[v0,v1].getD j undef:=fun j=>by
   rw[←hvl];simp only[List.getD_eq_getElem?_getD,List.getElem?_append_right (Nat.le_add_right _ _),Nat.add_sub_cancel_left]
  rw[e,g2 1,show es.length*2=es.length*2+0 from rfl,g2 0];exact⟨h0,h1⟩
structure J1 (q:Nat→Prop) (w:World) (s:Sv):Prop where
 e:S7 q w s.e
 p:Ad3 q w s.ta s.es
 pl:s.es.length≤s.tc∧s.tc≤maxLen
theorem J1.at{q:Nat→Prop}{w:World}{s:Sv}(h:J1 q w s):Br1 w s:=⟨h.e.at,h.p.ents,h.pl⟩
theorem J1.to{q p:Nat→Prop}{w:World}{s:Sv}(h:J1 q w s)(hn:∀g,g<w.heap.size→q g→p g):J1 p w s:=⟨h.e.to hn,Ad3.weak h.p hn,h.pl⟩
theorem J1.mono{q:Nat→Prop}{w w':World}{s:Sv}(h:J1 q w s)(hb:Below w.heap.size w w'):J1 q w' s:=⟨h.e.mono hb,h.p.up hb,h.pl⟩
theorem J1.k8{q:Nat→Prop}{w w':World}{b:Nat}{s:Sv}(h:J1 q w s)(k:K8 b w w')(hn:∀g,q g→g≠b):J1 q w' s:=⟨h.e.k8 k hn,Ad3.k8 h.p k hn,h.pl⟩
def Dz5(p:Nat→Prop)(w:World)(i f:Bool)(es:List Ent)(T:List UInt8)(e:Ending)(w':World):Prop:=∃a c ta tc,e=.returned (.tuple #[.agg #[.bool i,.slice a es.length c,.bool f],.slice ta 16 tc])∧es.length≤c∧c≤maxLen∧Ad3 p w' a es∧(16≤tc∧tc≤maxLen)∧A4 w' ta T∧Below w.heap.size w w'
theorem Dz6(i f:Bool)(a ka ba_:Option Addr)(c kc bc:Nat)(es:List Ent)(k b:List UInt8)(w:World)(hes:es.length≤1000)(hc:es.length≤c)(hcm:c≤maxLen)(p:Nat→Prop)(hp:∀g,w.heap.size≤g→p g)(hE:Ad3 p w a es)(hk:k.length≤100000)(hb:b.length≤90000)(hka:A4 w ka k)(hba:A4 w ba_ b)(hks:I9 w):
 Calls Tryz.prog 123 #[.agg #[.bool i,.slice a es.length c,.bool f],.slice ka k.length kc,.slice ba_ b.length bc] w (Dz5 p w i f (Ao1 es k b) (X9 k b)):=by
 have HI:=Lh Af6;have H1:=Lh (fun(W:World) (h:Below w.heap.size w W)=>Cm6 i f a ka ba_ c kc bc es k b W (by omega) (hE.ents.mono h) (by unfold maxLen;omega) (by unfold maxLen;omega) (hka.mono h) (hba.mono h));have H2:=Lh (fun(W:World)=>Dw7 a es.length c hc W);have H3:=Lh (fun(W:World) (h:Below w.heap.size w W)=>Bq9 ka kc k W hk (hka.mono h));have H4:=Lh (fun(W:World) (h:Below w.heap.size w W)=>Bq9 ba_ bc b W (by omega) (hba.mono h));have H5:=Lh (fun(W:World) (h:Below w.heap.size w W)=>Bl7 ka ba_ kc bc k b hk hb W (hka.mono h) (hba.mono h) (hks.mono h));have HE:=Lh hE;have HP:=Lh hp;have Hc:=Lh (And.intro hc hcm);have Hes:=Lh hes;obtain⟨ys,hys⟩:∃ys,ys=Ao1 es k b:=⟨_,rfl⟩;have Hy:=Lh (show ys=bif Al0 es k b then es else es++[(k,b)] from hys);rw[←hys];generalize X9 k b=T at H5 ⊢;generalize Al0 es k b=R at H1 Hy;unfold Ce8 at H5;unfold Ce9 at H3 H4;clear hys hc hcm hp hE hka hba hks hes hk hb;go_enter Tryz.func123,Tryz.ntmps123
 go_upto_region 1 with(fail)
 generalize hW:World.alloc (World.alloc w _) _=W;have B3:=Lh (show A5 49 W w.heap.size [.bool i,.slice a es.length c,.bool f] by rw[←hW];exact(A5.new w [.bool i,.slice a es.length c,.bool f] _).up (ba _ _));have B6:=Lh (show A5 49 W (w.heap.size+1) Az4 by rw[←hW,←I0 w (.cells #[.bool i,.slice a es.length c,.bool f] 49)];exact A5.new _ Az4 _);have G:=Lh (show Below w.heap.size w W by rw[←hW];exact bta (ba w _) _);clear hW;obtain⟨b3,hb3⟩:∃b3,b3=w.heap.size:=⟨_,rfl⟩;have Hb3:=Lh hb3;have hne:b3≠b3+1:=by omega
 rw[←hb3] at B3 B6;simp only[←hb3];obtain⟨b6,hb6⟩:∃b6,b6=b3+1:=⟨_,rfl⟩;have Hb6:=Lh hb6;rw[←hb6] at B6 hne;simp only[←hb6];clear hb3 hb6;go_wp2_with (refine A8 49 (.tmp 3) b3 (cs:=[.bool i,.slice a es.length c,.bool f]) rfl rfl rfl B3.out.blk Tryz.underlying49 rfl HI.out ?_)
 refine(H1.out _ G.out).mono ?_;rintro e w1 ⟨rfl,hbb⟩;replace B3:=Lh (B3.out.up hbb);replace B6:=Lh (B6.out.up hbb);replace G:=Lh (bt G.out hbb);clear hbb H1;rcases R with _ | _
 ·have B6L:=Lh B6.out.blk.lt;obtain⟨y0,y1,y2⟩:=Ae3 B3.out.blk;go_wp2_with fail
  refine(H2.out _).mono ?_;rintro e w2 ⟨rfl,rfl⟩;go_wp2_with fail
  refine(H3.out _ G.out).mono ?_;rintro e w3 ⟨a3,c3,rfl,l3,m3,hA3,hb3'⟩;replace B3:=Lh (B3.out.up hb3');replace B6:=Lh (B6.out.up hb3');have hsz3:b6<w1.heap.size:=B6L.out;replace G:=Lh (bt G.out hb3');go_wp2_with fail
  refine(H4.out _ G.out).mono ?_;rintro e w4 ⟨a4,c4,rfl,l4,m4,hA4,hb4'⟩;have hsz4:=hb3'.size;replace B3:=Lh (B3.out.up hb4');replace B6:=Lh (B6.out.up hb4');replace G:=Lh (bt G.out hb4');have P3:=Lh (show AtP (fun g=>g≠b6∧g≠b3) w4 a3 (B8s k) from hA3.to (q:=fun g=>g≠b6∧g≠b3) hb4'.size fun g hl hp=>⟨hb4'.block g hl,by have:=Hb3.out;have:=Hb6.out;exact⟨by omega,by omega⟩⟩);have P4:=Lh (show AtP (fun g=>g≠b6∧g≠b3) w4 a4 (B8s b) from hA4.to (q:=fun g=>g≠b6∧g≠b3) (Nat.le_refl _) fun g hl hp=>⟨rfl,by have:=Hb3.out;have:=Hb6.out;exact⟨by omega,by omega⟩⟩);have L3:=Lh (And.intro l3 (And.intro m3 (And.intro l4 m4)));obtain⟨vs,hvl,hvs,hrows⟩:=HE.out;have HV:=Lh hvs;have HVl:=Lh hvl;have HR:=Lh hrows;clear hA3 hA4 hb3' hb4' l3 m3 l4 m4 hvl hvs hrows y0 y1 y2;have hxx:∀u∈[Value.slice a3 k.length c3,Value.slice a4 b.length c4],u.oneCell'=true:=by
   intro u hu;simp only[List.mem_cons,List.not_mem_nil,or_false] at hu;rcases hu with rfl | rfl<;>rfl
  obtain⟨z0,z1,z2⟩:=Ae3 B3.out.blk;have zf:=B3.out.blk.frozen;go_wp2_with (at_builtin;(refine Cj8 (.tmp 15) (.tmp 21) rfl rfl rfl (HV.out.at.mono (bt G.out (ba w4 (.cells #[.slice a3 k.length c3,.slice a4 b.length c4] 153)))) HVl.out rfl (O3 w4 [.slice a3 k.length c3,.slice a4 b.length c4] _) hxx (by have:=Hes.out;omega) ?_;intro a2 c2 w5 hown5 hb5;have H9:=Lh hown5;have Hb5:=Lh (bt (ba w4 (.cells #[.slice a3 k.length c3,.slice a4 b.length c4] 153)) hb5);have q3:=B3.out.up Hb5.out;obtain⟨z0,z1,z2⟩:=Ae3 q3.blk;have zf:=q3.blk.frozen;clear hown5 hb5))
  have hyl:ys.length=es.length+1:=by rw[Hy.out];show(es++[(k,b)]).length=_;rw[List.length_append];rfl
  have hcap9:=O2 H9.out;have hlt3:b3<w4.heap.size:=B3.out.blk.lt;have hlt6:b6<w4.heap.size:=B6.out.blk.lt;have g3:=Lh (show A5 49 (w5.setCell ⟨b3,1,none⟩ (.slice a2 (es.length+1) c2)) b3 [.bool i,.slice a2 ys.length c2,.bool f] by rw[hyl];exact q3.set 1 _);have g6:=Lh (show A5 49 (w5.setCell ⟨b3,1,none⟩ (.slice a2 (es.length+1) c2)) b6 Az4 from(B6.out.up Hb5.out).other (fun h=>hne h.symm) _);have gG:=Lh (show Below w.heap.size w (w5.setCell ⟨b3,1,none⟩ (.slice a2 (es.length+1) c2)) from(bt G.out Hb5.out).setCell (by rw[Hb3.out];exact Nat.le_refl _) _);have hsz9:w5.heap.size≤(w5.setCell ⟨b3,1,none⟩ (.slice a2 (es.length+1) c2)).heap.size:=by simp
  have hk9:∀g,g≠b3→(w5.setCell ⟨b3,1,none⟩ (.slice a2 (es.length+1) c2)).heap[g]?=w5.heap[g]?:=fun g h=>Below.heap_setCell _ _ _ _ h;have gE:=Lh (show Ac0 (fun g=>g≠b6∧p g) (fun g=>g≠b6) (w5.setCell ⟨b3,1,none⟩ (.slice a2 (es.length+1) c2)) a2 ys by
   rw[Hy.out];refine Ac0.snoc HVl.out (fun t ht=>?_) ((At0 H9.out).to hsz9 fun g hl hp=>⟨hk9 g (by rw[I0] at hp;omega),by rw[I0] at hp;omega,HP.out g (by have:=Hb3.out;rw[I0] at hp;omega)⟩) ?_ ?_
   ·obtain⟨r1,r2⟩:=HR.out t ht;have hz:=Hb3.out;have hz6:=Hb6.out;exact⟨r1.to gG.out.size fun g hl hp=>⟨gG.out.block g hl,by omega⟩,r2.to gG.out.size fun g hl hp=>⟨gG.out.block g hl,by omega⟩⟩
   ·exact⟨a3,c3,rfl,L3.out.1,L3.out.2.1,(P3.out.up Hb5.out).to hsz9 fun g hl hp=>⟨hk9 g hp.2,hp.1⟩⟩
   ·exact⟨a4,c4,rfl,L3.out.2.2.1,L3.out.2.2.2,(P4.out.up Hb5.out).to hsz9 fun g hl hp=>⟨hk9 g hp.2,hp.1⟩⟩)
  obtain⟨_,_,he9,hc9,hm9⟩:=hcap9;cases he9
  have Hc2:=Lh (show ys.length≤c2∧c2≤maxLen by rw[hyl];exact⟨hc9,hm9⟩);replace B3:=g3;replace B6:=g6;replace G:=gG;have EP:=gE;clear g3 g6 gG gE z0 z1 z2 zf q3 hk9 hsz9 H9 Hb5 P3 P4 HV HVl HR hc9 hm9 hlt3 hlt6 hyl hxx L3 hsz3 hsz4 B6L;generalize w5.setCell ⟨b3,1,none⟩ (.slice a2 (es.length+1) c2)=w9 at B3 B6 G EP ⊢;obtain⟨y0,y1,y2⟩:=Ae3 B3.out.blk
  go_region_with
   ((go_at_call 178;(with_reducible refine Calls.mono (H5.out _ (bt G.out (bd _))) ?_);rintro e w6 ⟨ta,tc,rfl,htc,hta,hb6'⟩;have Htc:=Lh htc;clear htc;have q3:=B3.out.up (bt (bd _) hb6');have q6:=B6.out.up (bt (bd _) hb6');obtain⟨k0,k1,k2⟩:=Ae3 q3.blk;obtain⟨j0,j1,j2⟩:=Ae3 q6.blk;have kf:=q6.blk.frozen))
  all_goals
   go_split_ands
   go_wp2_with fail
   have hbb:=bt (bd _) hb6';have gG:=Lh (bt G.out hbb);have gE:=Lh (EP.out.up hbb);refine bodyPost_ret (D6 rfl _ _ b6 (cs:=[.bool i,.slice a2 ys.length c2,.bool f]) rfl _ rfl (Ca3 q6).blk Tryz.underlying49 rfl HI.out) rfl ?_;refine⟨a2,c2,ta,tc,rfl,Hc2.out.1,Hc2.out.2,(Ac0.to (qt:=p) (qr:=fun _=>True) gE.out (Nat.le_of_eq Be5.symm) (fun g hl hp=>⟨Ar1 hp.1,hp.2⟩) (fun g hl hp=>⟨Ar1 hp,trivial⟩)),Htc.out,?_,Au0 gG.out (by have:=Hb3.out;have:=Hb6.out;omega)⟩;exact hta.offP (B:=b6) q6 (Dl4 _ _ _ _ _)
 ·have hyy:ys=es:=Hy.out;have Hc2:=Lh (show ys.length≤c∧c≤maxLen by rw[hyy];exact Hc.out);have EP:=Lh (show Ac0 (fun g=>g≠b6∧p g) (fun g=>g≠b6) w1 a ys by rw[hyy];exact(Ac0.to HE.out (qt:=fun g=>g≠b6∧p g) (qr:=fun g=>g≠b6) (Nat.le_refl _) (fun g hg hpg=>⟨rfl,by have:=Hb3.out;have:=Hb6.out;omega,hpg⟩) (fun g hg hpg=>⟨rfl,by have:=Hb3.out;have:=Hb6.out;omega⟩)).up G.out);replace B3:=Lh (show A5 49 w1 b3 [.bool i,.slice a ys.length c,.bool f] by rw[hyy];exact B3.out);clear hyy;go_wp2_with fail
  obtain⟨y0,y1,y2⟩:=Ae3 B3.out.blk
  go_region_with
   ((go_at_call 178;(with_reducible refine Calls.mono (H5.out _ (bt G.out (bd _))) ?_);rintro e w6 ⟨ta,tc,rfl,htc,hta,hb6'⟩;have Htc:=Lh htc;clear htc;have q3:=B3.out.up (bt (bd _) hb6');have q6:=B6.out.up (bt (bd _) hb6');obtain⟨k0,k1,k2⟩:=Ae3 q3.blk;obtain⟨j0,j1,j2⟩:=Ae3 q6.blk;have kf:=q6.blk.frozen))
  all_goals
   go_split_ands
   go_wp2_with fail
   have hbb:=bt (bd _) hb6';have gG:=Lh (bt G.out hbb);have gE:=Lh (EP.out.up hbb);refine bodyPost_ret (D6 rfl _ _ b6 (cs:=[.bool i,.slice a ys.length c,.bool f]) rfl _ rfl (Ca3 q6).blk Tryz.underlying49 rfl HI.out) rfl ?_;refine⟨a,c,ta,tc,rfl,Hc2.out.1,Hc2.out.2,(Ac0.to (qt:=p) (qr:=fun _=>True) gE.out (Nat.le_of_eq Be5.symm) (fun g hl hp=>⟨Ar1 hp.1,hp.2⟩) (fun g hl hp=>⟨Ar1 hp,trivial⟩)),Htc.out,?_,Au0 gG.out (by have:=Hb3.out;have:=Hb6.out;omega)⟩;exact hta.offP (B:=b6) q6 (Dl4 _ _ _ _ _)
theorem Br9(a:Option Addr)(n c:Nat)(hc:n≤c)(w:World):Calls Tryz.prog 91 #[.slice a n c] w fun e w'=>e=.returned (.slice a n n)∧w=w':=by
 have hs:=Bn8 (P:=Tryz.prog) Tryz.underlying44 Cs7 w a n c hc;go_enter Tryz.func91,Tryz.ntmps91
 go_wp2_with fail
 go_ret;exact⟨rfl,rfl⟩
theorem Eg6(k x y s:Int)(b:Value):∀w,(Instr.buildSlice 44 1 #[(0,.agg #[.int .i64 k,.int .i64 x,.int .i64 y,.int .i64 s,b])]).run Tryz.prog w=.ok (.slice (some ⟨w.heap.size,0,none⟩) 1 1) (w.alloc (.cells #[.int .i64 k,.int .i64 x,.int .i64 y,.int .i64 s,b] 103)):=fun w=>by kernel_rfl
theorem Et9(e:Ev)(a:Option Addr)(c:Nat)(x:Gt):(A7 e).set 65 (.slice a (e.g.length+1) c)=A7 {e with ga:=a,gc:=c,g:=e.g++[x]}:=by
 have h:=Cs2 e a c (e.g++[x]);rw[List.length_append] at h;exact h
noncomputable def Ae0:{ops:Array Oper//(Tryz.f38.body.bind (K6 2))=some (.region 2 ops true)}:=⟨_,rfl⟩
abbrev Z9:List Nat:=[8,9,10,11,12,13,14,15,16]
theorem Cg4:opx Ae0.1 1=some (.load 44 (.tmp 8),some 9,none):=by kernel_rfl
theorem Cg5:opx Ae0.1 2=some (.call {callee:=.value (.func 91),args:=#[.tmp 9],argTypes:=#[44]},some 10,none):=by kernel_rfl
theorem Bp2:opx Ae0.1 3=some (.load 46 (.tmp 2),some 11,none):=by kernel_rfl
theorem Dz7:opx Ae0.1 4=some (.call {callee:=.value (.func 44),args:=#[.tmp 11],argTypes:=#[46]},some 12,none):=by kernel_rfl
theorem Dz8:opx Ae0.1 6=some (.buildSlice 44 1 #[(0,.tmp 13)],some 14,none):=by kernel_rfl
theorem Dz9:opx Ae0.1 7=some (.call {callee:=.builtin Builtin.append,args:=#[.tmp 10,.tmp 14],argTypes:=#[44,44]},some 15,none):=by kernel_rfl
theorem Ea0:opx Ae0.1 9=some (.store 44 (.tmp 16) (.tmp 15),none,none):=by kernel_rfl
theorem Dn2{e:Ev}{n2:Nat}{vs:List Value}{a:Act}{w w0:World}{Q:Exit→Act→World→Prop}(hsz:30≤a.tmps.size)
 (e2:a.tmps.getD 2 undef=.pointer (some ⟨n2,0,none⟩)) (hP:∀c a d v w,Q (.panic c) (Act.put a d v) w→Q (.panic c) a w) (B:A5 46 w n2 (A7 e)) (G:Below w0.heap.size w0 w) (hn2:w0.heap.size≤n2)
 (HV:At w0 e.ga vs) (hvl:vs.length=e.g.length*5) (hn:e.g.length≤1000) (hc:e.g.length≤e.gc)
 (hQ:∀{x8 x9 x10 x11 x12 x13 x14 x15 x16} a7 c7 w',A5 46 w' n2 (A7 {e with ga:=a7,gc:=c7,g:=e.g++[⟨5,(C7 e).1,(C7 e).2,0,[]⟩]})→AtP (fun g=>w.heap.size≤g) w' a7 (vs++[.int .i64 5,.int .i64 (C7 e).1,.int .i64 (C7 e).2,.int .i64 0,.slice none 0 0])→(e.g.length+1≤c7∧c7≤maxLen)→Kp n2 w w'→Q .normal (B9 a Z9 [x8,x9,x10,x11,x12,x13,x14,x15,x16]) w'):
 (Code.region 2 Ae0.1 true).wp Tryz.prog Q a w:=by
 have end_len:(Tryz.prog.info? 46).map (·.size)=some (A7 e).length:=by rw[F2];exact M7
 have Blt:n2<w.heap.size:=B.blk.lt;have rG:Rgn Ae0.1 Z9 a Q:=⟨fun k hk=>Nat.lt_of_lt_of_le ((by decide:∀k∈Z9,k<30) k hk) hsz,by kernel_rfl,hP⟩;have hb:=rG.b;obtain⟨i,h0⟩:=Y2 a Z9;let S:World→Prop:=fun _=>True;refine wp_region_held_drew (S:=S) (by kernel_rfl) (trivial) fun hHeld=>?_;have N1_2_3_4_6_7_9:∀(u:World) (g6:Addr) (a7:Option Addr) (c7:Nat) (B:A5 46 u n2 (A7 {e with ga:=a7,gc:=c7,g:=e.g++[⟨5,(C7 e).1,(C7 e).2,0,[]⟩]})) (K:Kp n2 w u) (O:AtP (fun g=>w.heap.size≤g) u a7 (vs++[i6 5,i6 (C7 e).1,i6 (C7 e).2,i6 0,.slice none 0 0])∧e.g.length+1≤c7∧c7≤maxLen),wpAnyH Tryz.prog .any Ae0.1 Q S 0 (lm 10 1023) (B9 a Z9 [pt n2 65,.slice e.ga e.g.length e.gc,.slice e.ga e.g.length e.g.length,.agg (A7 e).toArray,.agg #[i6 (C7 e).1,i6 (C7 e).2],.agg #[i6 5,i6 (C7 e).1,i6 (C7 e).2,i6 0,.slice none 0 0],.slice (some g6) 1 1,.slice a7 (e.g.length+1) c7,pt n2 65]) u:=by
  intro u g6 a7 c7 B K O;refine W5 ?_;exact hQ _ _ _ B O.1 O.2 K
 have N1_2_3_4_6_7:∀(u:World) (g6:Addr) (a7:Option Addr) (c7:Nat) (B:A5 46 u n2 (A7 e)) (K:Kp n2 w u) (O:AtP (fun g=>w.heap.size≤g) u a7 (vs++[i6 5,i6 (C7 e).1,i6 (C7 e).2,i6 0,.slice none 0 0])∧e.g.length+1≤c7∧c7≤maxLen),wpAnyH Tryz.prog .any Ae0.1 Q S 1 (lm 10 511) (B9 a Z9 [pt n2 65,.slice e.ga e.g.length e.gc,.slice e.ga e.g.length e.g.length,.agg (A7 e).toArray,.agg #[i6 (C7 e).1,i6 (C7 e).2],.agg #[i6 5,i6 (C7 e).1,i6 (C7 e).2,i6 0,.slice none 0 0],.slice (some g6) 1 1,.slice a7 (e.g.length+1) c7,pt n2 65]) u:=by
  intro u g6 a7 c7 B K O;refine C9 [9] (C6 rG Ea0 ?_ AllReadyH.nil);intro o hp hd;refine Ba2 44 (.tmp 16) (.tmp 15) hp n2 65 rG.ev rG.ev B.blk (by rw[F2];decide) (by kernel_rfl) rfl ?_;exact X7 rG [] hd trivial trivial (N1_2_3_4_6_7_9 _ _ _ _ (by rw[←Et9 e a7 c7 ⟨5,(C7 e).1,(C7 e).2,0,[]⟩];exact B.set 65 _) (K.set _ _) ⟨O.1.to (Nat.le_of_eq (by simp)) fun g hl hp=>⟨Below.heap_setCell _ _ _ _ (Nat.ne_of_gt (Nat.lt_of_lt_of_le Blt hp)),hp⟩,O.2⟩)
 have N1_2_3_4_6:∀(u:World) (g6:Addr) (B:A5 46 u n2 (A7 e)) (K:Kp n2 w u) (X:At u (some g6) [i6 5,i6 (C7 e).1,i6 (C7 e).2,i6 0,.slice none 0 0]),wpAnyH Tryz.prog .any Ae0.1 Q S 3 (lm 10 127) (B9 a Z9 [pt n2 65,.slice e.ga e.g.length e.gc,.slice e.ga e.g.length e.g.length,.agg (A7 e).toArray,.agg #[i6 (C7 e).1,i6 (C7 e).2],.agg #[i6 5,i6 (C7 e).1,i6 (C7 e).2,i6 0,.slice none 0 0],.slice (some g6) 1 1,i 15,i 16]) u:=by
  intro u g6 B K X;refine C9 [7] (C6 rG Dz9 ?_ AllReadyH.nil);intro o hp hd;obtain⟨a7,c7,u7,hr7,ho7w,hb7⟩:=By5 Dn0 (by decide) (HV.mono (K.below G hn2)) hvl (by omega) X rfl (by intro v hv;simp only[List.mem_cons,List.not_mem_nil,or_false] at hv;rcases hv with rfl | rfl | rfl | rfl | rfl<;>rfl) o.type;have hc7:e.g.length+1≤c7∧c7≤maxLen:=by obtain⟨_,_,hq,h1,h2⟩:=O2 ho7w;cases hq;exact⟨h1,h2⟩
  refine By4 (.tmp 10) (.tmp 14) 44 hp rG.ev rG.ev hr7 ?_;exact D8 rG [(8,16,pt n2 65)] hd trivial ⟨A9 rfl e2,trivial⟩ (N1_2_3_4_6_7 _ _ _ _ (B.up hb7) (K.up hb7) ⟨(Cm8 ho7w).to (Nat.le_refl _) fun g hl hp=>⟨rfl,Nat.le_trans K.size hp⟩,hc7⟩)
 have N1_2_3_4:∀(u:World) (B:A5 46 u n2 (A7 e)) (K:Kp n2 w u),wpAnyH Tryz.prog .any Ae0.1 Q S 4 (lm 10 63) (B9 a Z9 [pt n2 65,.slice e.ga e.g.length e.gc,.slice e.ga e.g.length e.g.length,.agg (A7 e).toArray,.agg #[i6 (C7 e).1,i6 (C7 e).2],.agg #[i6 5,i6 (C7 e).1,i6 (C7 e).2,i6 0,.slice none 0 0],i 14,i 15,i 16]) u:=by
  intro u B K;refine C9 [6] (C6 rG Dz8 ?_ AllReadyH.nil);intro o hp hd;refine Ap6 44 103 1 #[(0,.tmp 13)] hp (ps:=#[(0,.agg #[i6 5,i6 (C7 e).1,i6 (C7 e).2,i6 0,.slice none 0 0])]) rG.parts (Eg6 _ _ _ _ _) ?_;exact D8 rG [] hd trivial trivial (N1_2_3_4_6 _ _ (B.up (ba _ _)) (K.up (ba _ _)) (O3 _ [i6 5,i6 (C7 e).1,i6 (C7 e).2,i6 0,.slice none 0 0] _))
 have N1_2_3:∀(u:World) (B:A5 46 u n2 (A7 e)) (K:Kp n2 w u),wpAnyH Tryz.prog .any Ae0.1 Q S 6 (lm 10 15) (B9 a Z9 [pt n2 65,.slice e.ga e.g.length e.gc,.slice e.ga e.g.length e.g.length,.agg (A7 e).toArray,i 12,i 13,i 14,i 15,i 16]) u:=by
  intro u B K;refine C9 [4] (C6 rG Dz7 ?_ AllReadyH.nil);intro o hp hd;refine J5 hp (rG.ev1 (.agg (A7 e).toArray)) (Ac8 e _) ?_;rintro e u4 ⟨rfl,hb4⟩;refine⟨_,rfl,?_⟩;exact D8 rG [(5,13,.agg #[i6 5,i6 (C7 e).1,i6 (C7 e).2,i6 0,.slice none 0 0])] hd trivial ⟨Ae8 #[(0,i6 5),(1,.agg #[i6 (C7 e).1,i6 (C7 e).2])] rfl,trivial⟩ (N1_2_3_4 _  (B.up hb4) (K.up hb4))
 have N1_2:∀(u:World) (B:A5 46 u n2 (A7 e)) (K:Kp n2 w u),wpAnyH Tryz.prog .any Ae0.1 Q S 7 (lm 10 7) (B9 a Z9 [pt n2 65,.slice e.ga e.g.length e.gc,.slice e.ga e.g.length e.g.length,i 11,i 12,i 13,i 14,i 15,i 16]) u:=by
  intro u B K;refine C9 [3] (C6 rG Bp2 ?_ AllReadyH.nil);intro o hp hd;refine wp_load_row 46 (.tmp 2) hp n2 (rG.ev e2) 46 (A7 e).toArray (0,0) _ B Tryz.underlying46 rfl (by simpa using end_len) ?_;exact D8 rG [] hd trivial trivial (N1_2_3 _  B K)
 have N1_3:∀(u:World) (B:A5 46 u n2 (A7 e)) (K:Kp n2 w u),wpAnyH Tryz.prog .any Ae0.1 Q S 7 (lm 10 11) (B9 a Z9 [pt n2 65,.slice e.ga e.g.length e.gc,i 10,.agg (A7 e).toArray,i 12,i 13,i 14,i 15,i 16]) u:=by
  intro u B K;refine C9 [2] (C6 rG Cg5 ?_ AllReadyH.nil);intro o hp hd;refine J5 hp (rG.ev1 (.slice e.ga e.g.length e.gc)) (Br9 e.ga e.g.length e.gc hc _) ?_;rintro x u2 ⟨rfl,rfl⟩;refine⟨_,rfl,?_⟩;exact D8 rG [] hd trivial trivial (N1_2_3 _  B K)
 have N1:∀(u:World) (B:A5 46 u n2 (A7 e)) (K:Kp n2 w u),wpAnyH Tryz.prog .any Ae0.1 Q S 8 (lm 10 3) (B9 a Z9 [pt n2 65,.slice e.ga e.g.length e.gc,i 10,i 11,i 12,i 13,i 14,i 15,i 16]) u:=by
  intro u B K;refine C9 [2,3] (C6 rG Cg5 ?_ (C6 rG Bp2 ?_ AllReadyH.nil))
  ·intro o hp hd;refine J5 hp (rG.ev1 (.slice e.ga e.g.length e.gc)) (Br9 e.ga e.g.length e.gc hc _) ?_;rintro x u2 ⟨rfl,rfl⟩;refine⟨_,rfl,?_⟩;exact D8 rG [] hd trivial trivial (N1_2 _  B K)
  intro o hp hd;refine wp_load_row 46 (.tmp 2) hp n2 (rG.ev e2) 46 (A7 e).toArray (0,0) _ B Tryz.underlying46 rfl (by simpa using end_len) ?_;exact D8 rG [] hd trivial trivial (N1_3 _  B K)
 have N3:∀(u:World) (B:A5 46 u n2 (A7 e)) (K:Kp n2 w u),wpAnyH Tryz.prog .any Ae0.1 Q S 8 (lm 10 9) (B9 a Z9 [pt n2 65,i 9,i 10,.agg (A7 e).toArray,i 12,i 13,i 14,i 15,i 16]) u:=by
  intro u B K;refine C9 [1] (C6 rG Cg4 ?_ AllReadyH.nil);intro o hp hd;refine Cg3 44 (.tmp 8) hp n2 65 rG.ev (B.blk.endIn.g) Tryz.underlying44 rfl ?_;exact D8 rG [] hd trivial trivial (N1_3 _  B K)
 have N0:∀(u:World) (B:A5 46 u n2 (A7 e)) (K:Kp n2 w u),wpAnyH Tryz.prog .any Ae0.1 Q S 9 (lm 10 1) (B9 a Z9 [pt n2 65,i 9,i 10,i 11,i 12,i 13,i 14,i 15,i 16]) u:=by
  intro u B K;refine C9 [1,3] (C6 rG Cg4 ?_ (C6 rG Bp2 ?_ AllReadyH.nil))
  ·intro o hp hd;refine Cg3 44 (.tmp 8) hp n2 65 rG.ev (B.blk.endIn.g) Tryz.underlying44 rfl ?_;exact D8 rG [] hd trivial trivial (N1 _  B K)
  intro o hp hd;refine wp_load_row 46 (.tmp 2) hp n2 (rG.ev e2) 46 (A7 e).toArray (0,0) _ B Tryz.underlying46 rfl (by simpa using end_len) ?_;exact D8 rG [] hd trivial trivial (N3 _  B K)
 exact O0 10 rG [(0,8,pt n2 65)] h0 trivial ⟨A9 rfl e2,trivial⟩ (N0 _  (B.up (bd _)) (Kp.of (bd _)))
theorem Ak6{w W:World}{a b:List Value}{A B:TypeId}(h:(w.alloc (.cells a.toArray A)).alloc (.cells b.toArray B)=W):A5 A W w.heap.size a∧A5 B W (w.heap.size+1) b∧Below w.heap.size w W:=by
 subst h;refine⟨(A5.new w a A).up (ba _ _),?_,bta (ba w _) _⟩;have:=A5.new (w.alloc (.cells a.toArray A)) b B
 rwa [I0] at this
theorem Cs8{w W:World}{a b c:List Value}{A B C:TypeId}(h:((w.alloc (.cells a.toArray A)).alloc (.cells b.toArray B)).alloc (.cells c.toArray C)=W):A5 A W w.heap.size a∧A5 B W (w.heap.size+1) b∧A5 C W (w.heap.size+1+1) c∧Below w.heap.size w W:=by
 obtain⟨h1,h2,hb⟩:=Ak6 (rfl:(w.alloc (.cells a.toArray A)).alloc (.cells b.toArray B)=_);subst h;refine⟨h1.up (ba _ _),h2.up (ba _ _),?_,bta hb _⟩;have:=A5.new ((w.alloc (.cells a.toArray A)).alloc (.cells b.toArray B)) c C
 rwa [I0,I0] at this
theorem O1{ops:Array Oper}{rest:List Oper}{o:Oper}{a:Act}{w:World}{Q:Exit→Act→World→Prop}{T:TypeId}(ty:TypeId)(x y:Operand)(g i:Nat){L L':List Value}{v:Value}(hgd:o.guard=none)(ho:o.op=.store ty x y)
 (hx:a.eval x=.pointer (some ⟨g,i,none⟩)) (hy:a.eval y=v) (hB:A5 T w g L) (hl:i<L.length) (hi:(Tryz.prog.info? ty).map (·.size)=some 1) (hv:v.oneCell'=true) (hL:L.set i v=L')
 (h:∀w',A5 T w' g L'→Kp g w w'→wpList Tryz.prog ops Q rest (a.put o.dst undef) w'):wpList Tryz.prog ops Q (o::rest) a w:=
 wpList_plain hgd fun K hK=>Ba2 ty x y ho g i hx hy hB.blk hl hi hv (hK _ _ (h _ (hL▸hB.set i v) ((Kp.refl g w).set i v)))
theorem Y3{ops:Array Oper}{rest:List Oper}{o:Oper}{a:Act}{w:World}{Q:Exit→Act→World→Prop}{T:TypeId}(ty:TypeId)(x y:Operand)(g i:Nat){L L' cs:List Value}(hgd:o.guard=none)(ho:o.op=.store ty x y)
 (hx:a.eval x=.pointer (some ⟨g,i,none⟩)) (hy:a.eval y=.agg cs.toArray) (hB:A5 T w g L) (hn:i+cs.length≤L.length) (hi:(Tryz.prog.info? ty).map (·.size)=some cs.length) (h1:cs.all (·.oneCell')=true) (hL:Am8 L i cs=L')
 (h:∀w',A5 T w' g L'→Kp g w w'→wpList Tryz.prog ops Q rest (a.put o.dst undef) w'):wpList Tryz.prog ops Q (o::rest) a w:=
 wpList_plain hgd fun K hK=>wp_store_mid ty x y ho g i cs.toArray hx hy (by rw[List.size_toArray];exact hB.blk.there i cs.length hn) (by rw[List.size_toArray];exact hi) (by simpa using h1) (hK _ _ (h _ (hL▸A5.cells cs i hB) ((Kp.refl g w).cells cs i)))
theorem G8{ops:Array Oper}{rest:List Oper}{o:Oper}{a:Act}{w:World}{Q:Exit→Act→World→Prop}{T:TypeId}(ty:TypeId)(x y:Operand)(g:Nat){L cs:List Value}(hgd:o.guard=none)(ho:o.op=.store ty x y)
 (hx:a.eval x=.pointer (some ⟨g,0,none⟩)) (hy:a.eval y=.agg cs.toArray) (hB:A5 T w g L) (hi:(Tryz.prog.info? ty).map (·.size)=some cs.length) (hl:L.length=cs.length) (h1:cs.all (·.oneCell')=true)
 (h:∀w',A5 T w' g cs→Kp g w w'→wpList Tryz.prog ops Q rest (a.put o.dst undef) w'):wpList Tryz.prog ops Q (o::rest) a w:=
 F1 ty x y g hgd ho hx hy hB.blk hi hl h1 (h _ (hB.row cs) ((Kp.refl g w).row _))
theorem Af0.snoc{q:Nat→Prop}{w w':World}{vs:List Value}{l:List Gt}{a':Option Addr}{x:Gt}{v:Value}(hvl:vs.length=l.length*5)
 (hr:∀i,i<l.length→vs.getD (i*5) undef=.int .i64 (l.getD i default).kind∧vs.getD (i*5+1) undef=.int .i64 (l.getD i default).e0∧vs.getD (i*5+2) undef=.int .i64 (l.getD i default).e1∧vs.getD (i*5+3) undef=.int .i64 (l.getD i default).seq∧Y6 w (vs.getD (i*5+4) undef) (l.getD i default).b)
 (hb:Below w.heap.size w w') (hA:AtP q w' a' (vs++[.int .i64 x.kind,.int .i64 x.e0,.int .i64 x.e1,.int .i64 x.seq,v])) (hv:Y6 w' v x.b):Af0 q w' a' (l++[x]):=by
 refine⟨_,by rw[List.length_append,List.length_append,hvl];simp;omega,hA,fun i hi=>?_⟩;have g1:∀k,k<vs.length→(vs++[.int .i64 x.kind,.int .i64 x.e0,.int .i64 x.e1,.int .i64 x.seq,v]).getD k undef=vs.getD k undef:=fun k hk=>by
  simp only[List.getD_eq_getElem?_getD,List.getElem?_append_left hk]
 by_cases hl:i<l.length
 ·obtain⟨h0,h1,h2,h3,h4⟩:=hr i hl;have e:(l++[x]).getD i default=l.getD i default:=by simp only[List.getD_eq_getElem?_getD,List.getElem?_append_left hl]
  rw[g1 _ (by omega),g1 _ (by omega),g1 _ (by omega),g1 _ (by omega),g1 _ (by omega),e];exact⟨h0,h1,h2,h3,h4.mono hb⟩
 ·have hi':i=l.length:=by simp at hi;omega
  subst hi';have e:(l++[x]).getD l.length default=x:=by simp[List.getD_eq_getElem?_getD]
  have g2:∀k,(vs++[.int .i64 x.kind,.int .i64 x.e0,.int .i64 x.e1,.int .i64 x.seq,v]).getD (l.length*5+k) undef=[Value.int .i64 x.kind,.int .i64 x.e0,.int .i64 x.e1,.int .i64 x.seq,v].getD k undef:=fun k=>by
   rw[←hvl];simp only[List.getD_eq_getElem?_getD,List.getElem?_append_right (Nat.le_add_right _ _),Nat.add_sub_cancel_left]
  rw[e,g2 1,g2 2,g2 3,g2 4,show l.length*5=l.length*5+0 from rfl,g2 0];exact⟨rfl,rfl,rfl,rfl,hv⟩
theorem En1(w:World):Y6 w (.slice none 0 0) []:=⟨none,0,rfl,Nat.le_refl _,by decide,.inl rfl⟩
def Cs9(e:Ev)(a:Option Addr)(c:Nat)(x:Gt):Ev:={e with ga:=a,gc:=c,g:=e.g++[x]}
def Bc5(e:Ev)(p:Int):Ev:={e with ph:=p,own:=0,oth:=0,seq:=0,wt:=0,wb:=M4,r:=R0,kc:=[],ko:=[],kp:=[],q:=⟨0,0,0,0,[]⟩,qa:=none,qc:=0,ua:=none,uc:=0,u:=[]}
def Ar8(e:Ev)(p:Int)(a:Option Addr)(c:Nat):Ev:=bif V4 e.ph then Bc5 (Cs9 e a c ⟨5,(C7 e).1,(C7 e).2,0,[]⟩) p else Bc5 e p
theorem S7.clear{q:Nat→Prop}{w:World}{e:Ev}(h:S7 q w e)(p:Int):S7 q w (Bc5 e p):=
 ⟨h.k,h.s1,h.s2,Bo8 w,⟨Nat.le_refl _,Nat.zero_le _⟩,⟨Nat.le_refl _,Nat.zero_le _⟩,⟨Nat.le_refl _,Nat.zero_le _⟩,.inl rfl,⟨Nat.le_refl _,Nat.zero_le _⟩,Ad2.nil q w none,⟨Nat.le_refl _,Nat.zero_le _⟩,h.h,h.hl,h.o,h.ol,h.g,h.gl,⟨by show(-9223372036854775808:Int)≤0;decide,by show(0:Int)≤9223372036854775807;decide⟩⟩
theorem S7.got{q:Nat→Prop}{w:World}{e:Ev}{a:Option Addr}{c:Nat}{x:Gt}(h:S7 q w e)(hg:Af0 q w a (e.g++[x]))(hc:e.g.length+1≤c∧c≤maxLen):S7 q w (Cs9 e a c x):=
 ⟨h.k,h.s1,h.s2,h.r,h.rc,h.ro,h.rp,h.q,h.ql,h.u,h.ul,h.h,h.hl,h.o,h.ol,hg,by show(e.g++[x]).length≤c∧c≤maxLen;rw[List.length_append];exact hc,h.wt⟩
def U5:List Value:=[.int .i64 0,.slice none 0 0,.int .i64 0,.slice none 0 0,.slice none 0 0,.int .i64 0,.int .i64 0,.int .i64 0,.int .i64 0,.int .i64 0]++(C4 0 M4++(R0.L++(K7 ⟨0,0,0,0,[]⟩ none 0++([.int .i64 0,.int .i64 0,.slice none 0 0]++(P9.L++[.slice none 0 0,.slice none 0 0,.int .i64 0,.int .i64 0,.int .i64 0,.int .i64 0])))))
theorem Ac1:U5.length=70:=by kernel_rfl
theorem Cg6(e:Ev)(p:Int)(w:World)(qq:Nat→Prop)(hq:∀g,w.heap.size≤g→qq g)(h:S7 qq w e)(hn:e.g.length≤1000):Calls Tryz.prog 38 #[.agg (A7 e).toArray,.int .i64 p] w fun r w'=>∃a c,r=.returned (.agg (A7 (Ar8 e p a c)).toArray)∧S7 qq w' (Ar8 e p a c)∧Below w.heap.size w w':=by
 have HI:=Lh (show ∀E:Ev,(Tryz.prog.info? 46).map (·.size)=some (A7 E).length from fun E=>by rw[F2];exact M7);have HW:=Lh (show(Tryz.prog.info? 28).map (·.size)=some (C4 0 M4).length by rw[D5];exact N6);have HR:=Lh Ac7;have HA:=Lh Be8;have HE:=Lh h;have HQ:=Lh hq;obtain⟨vs,hvl,hvs,hrows⟩:=h.g;have HV:=Lh hvs.at
 have HRows:=Lh hrows;have HL:=Lh (And.intro hvl hn);have HK:=Lh (fun W=>Ae6 e.ph W);have HX:=Lh (show ∀b,V4 e.ph=b→Ar8 e p=fun a c=>bif b then Bc5 (Cs9 e a c ⟨5,(C7 e).1,(C7 e).2,0,[]⟩) p else Bc5 e p from fun b hb=>by funext a c;unfold Ar8;rw[hb]);clear h hq hvl hvs hrows hn;go_enter Tryz.func38,Tryz.ntmps38
 go_upto_region 1 with(fail)
 generalize hW:World.alloc (World.alloc w _) _=W;obtain⟨B2,B4,hb⟩:=Ak6 (a:=A7 e) (b:=U5) hW;clear hW;have B:=Lh B2;have BX:=Lh B4;have G:=Lh hb;have L2:=Lh (Nat.le_refl w.heap.size);have NX:=Lh (show w.heap.size+1≠w.heap.size by omega);have LX:=Lh (show w.heap.size≤w.heap.size+1 by omega);have LX2:=Lh (show w.heap.size<w.heap.size+1 by omega);have HS:=Lh (show w.heap.size+1<W.heap.size from B4.blk.lt);clear hb B2 B4;generalize w.heap.size+1=n4 at BX NX LX LX2 HS ⊢;generalize hn2:w.heap.size=n2 at B NX LX2 ⊢;replace L2:=Lh (show w.heap.size≤n2 by omega);clear hn2;have g2:=B.out.blk.endIn.ph;rcases hl:V4 e.ph with _ | _
 ·have HF:=Lh (HX.out _ hl);rw[hl] at HK;clear hl HX;go_wp2_with fail
  refine(HK.out _).mono ?_;rintro x w2 ⟨rfl,rfl⟩;clear g2 HK;go_wp2_with (first
   | (refine O1 3 (.tmp 18) _ n2 2 rfl rfl rfl rfl B.out (by rw[F2];decide) (by kernel_rfl) rfl (Bl9 _ p) ?_;intro w9 hB hK;replace B:=Lh hB;replace G:=Lh (hK.below G.out L2.out);replace BX:=Lh (BX.out.kp hK NX.out);(try replace O:=Lh (And.intro (O.out.1.kp (q:=fun g=>n4<g) hK (fun g hg=>⟨by have:=LX2.out;omega,hg⟩)) O.out.2));clear hB hK)
   | (refine O1 3 (.tmp 19) _ n2 6 rfl rfl rfl rfl B.out (by rw[F2];decide) (by kernel_rfl) rfl (Ax6 _ 0) ?_;intro w9 hB hK;replace B:=Lh hB;replace G:=Lh (hK.below G.out L2.out);replace BX:=Lh (BX.out.kp hK NX.out);(try replace O:=Lh (And.intro (O.out.1.kp (q:=fun g=>n4<g) hK (fun g hg=>⟨by have:=LX2.out;omega,hg⟩)) O.out.2));clear hB hK)
   | (refine O1 3 (.tmp 20) _ n2 7 rfl rfl rfl rfl B.out (by rw[F2];decide) (by kernel_rfl) rfl (Ar7 _ 0) ?_;intro w9 hB hK;replace B:=Lh hB;replace G:=Lh (hK.below G.out L2.out);replace BX:=Lh (BX.out.kp hK NX.out);(try replace O:=Lh (And.intro (O.out.1.kp (q:=fun g=>n4<g) hK (fun g hg=>⟨by have:=LX2.out;omega,hg⟩)) O.out.2));clear hB hK)
   | (refine O1 3 (.tmp 21) _ n2 9 rfl rfl rfl rfl B.out (by rw[F2];decide) (by kernel_rfl) rfl (Bi0 _ 0) ?_;intro w9 hB hK;replace B:=Lh hB;replace G:=Lh (hK.below G.out L2.out);replace BX:=Lh (BX.out.kp hK NX.out);(try replace O:=Lh (And.intro (O.out.1.kp (q:=fun g=>n4<g) hK (fun g hg=>⟨by have:=LX2.out;omega,hg⟩)) O.out.2));clear hB hK)
   | (refine Y3 28 (.tmp 25) _ n2 10 (cs:=C4 0 M4) rfl rfl rfl (congrArg Value.agg (Ao6 0)) B.out (by rw[F2,D5];decide) HW.out (Ax5 _ _) (Br3 _ 0 M4) ?_;intro w9 hB hK;replace B:=Lh hB;replace G:=Lh (hK.below G.out L2.out);replace BX:=Lh (BX.out.kp hK NX.out);(try replace O:=Lh (And.intro (O.out.1.kp (q:=fun g=>n4<g) hK (fun g hg=>⟨by have:=LX2.out;omega,hg⟩)) O.out.2));clear hB hK)
   | (refine Y3 32 (.tmp 26) _ n2 27 (cs:=R0.L) rfl rfl rfl rfl B.out (by rw[F2];decide) HR.out (rfl) (Br4 _ R0) ?_;intro w9 hB hK;replace B:=Lh hB;replace G:=Lh (hK.below G.out L2.out);replace BX:=Lh (BX.out.kp hK NX.out);(try replace O:=Lh (And.intro (O.out.1.kp (q:=fun g=>n4<g) hK (fun g hg=>⟨by have:=LX2.out;omega,hg⟩)) O.out.2));clear hB hK)
   | (refine Y3 34 (.tmp 27) _ n2 35 (cs:=K7 ⟨0,0,0,0,[]⟩ none 0) rfl rfl rfl rfl B.out (by rw[F2];decide) HA.out (rfl) (Bm1 _) ?_;intro w9 hB hK;replace B:=Lh hB;replace G:=Lh (hK.below G.out L2.out);replace BX:=Lh (BX.out.kp hK NX.out);(try replace O:=Lh (And.intro (O.out.1.kp (q:=fun g=>n4<g) hK (fun g hg=>⟨by have:=LX2.out;omega,hg⟩)) O.out.2));clear hB hK)
   | (refine O1 35 (.tmp 28) _ n2 42 rfl rfl rfl rfl B.out (by rw[F2];decide) (by kernel_rfl) rfl (Bm0 _) ?_;intro w9 hB hK;replace B:=Lh hB;replace G:=Lh (hK.below G.out L2.out);replace BX:=Lh (BX.out.kp hK NX.out);(try replace O:=Lh (And.intro (O.out.1.kp (q:=fun g=>n4<g) hK (fun g hg=>⟨by have:=LX2.out;omega,hg⟩)) O.out.2));clear hB hK)
   | (refine A8 46 (.tmp 2) n2 rfl rfl rfl B.out.blk Tryz.underlying46 rfl (HI.out _) ?_)
   | (refine G8 46 _ _ n4 rfl rfl rfl rfl BX.out (HI.out _) (by rw[Ac1,F2]) (Ad5 _) ?_;intro w9 hB hK;replace BX:=Lh hB;have K3:=Lh hK;clear hB hK))
  (try simp only[Act.put,List.setIfInBounds_toArray,List.set_cons_zero,List.set_cons_succ])
  refine bodyPost_ret (K5 rfl _ _ n4 rfl BX.out.blk Tryz.underlying46 rfl (HI.out _)) rfl ?_;have hbel:=K3.out.below G.out LX.out;refine⟨none,0,?_,?_,hbel⟩
  ·rw[HF.out];rfl
  ·rw[HF.out];exact(HE.out.mono hbel).clear p
 ·have HF:=Lh (HX.out _ hl);rw[hl] at HK;clear hl HX;go_wp2_with fail
  refine(HK.out _).mono ?_;rintro x w2 ⟨rfl,rfl⟩;clear g2 HK;go_upto_region 2 with(fail)
  refine Dn2 (w0:=w) (vs:=vs) (Nat.le_refl _) rfl (fun _ _ d _ _ h=>by cases d<;>exact h) B.out G.out L2.out HV.out HL.out.1 HL.out.2 HE.out.gl.1 ?_;intro x8 x9 x10 x11 x12 x13 x14 x15 x16 a7 c7 w2 hD hO hc hK;simp only[B9,Act.put,List.setIfInBounds_toArray,List.set_cons_zero,List.set_cons_succ];replace B:=Lh hD;replace G:=Lh (hK.below G.out L2.out);replace BX:=Lh (BX.out.kp hK NX.out);have O:=Lh (And.intro (hO.to (q:=fun g=>n4<g) (Nat.le_refl _) (fun g hl hp=>⟨rfl,Nat.lt_of_lt_of_le HS.out hp⟩)) hc);clear hD hO hc hK HV;go_wp2_with (first
   | (refine O1 3 (.tmp 18) _ n2 2 rfl rfl rfl rfl B.out (by rw[F2];decide) (by kernel_rfl) rfl (Bl9 _ p) ?_;intro w9 hB hK;replace B:=Lh hB;replace G:=Lh (hK.below G.out L2.out);replace BX:=Lh (BX.out.kp hK NX.out);(try replace O:=Lh (And.intro (O.out.1.kp (q:=fun g=>n4<g) hK (fun g hg=>⟨by have:=LX2.out;omega,hg⟩)) O.out.2));clear hB hK)
   | (refine O1 3 (.tmp 19) _ n2 6 rfl rfl rfl rfl B.out (by rw[F2];decide) (by kernel_rfl) rfl (Ax6 _ 0) ?_;intro w9 hB hK;replace B:=Lh hB;replace G:=Lh (hK.below G.out L2.out);replace BX:=Lh (BX.out.kp hK NX.out);(try replace O:=Lh (And.intro (O.out.1.kp (q:=fun g=>n4<g) hK (fun g hg=>⟨by have:=LX2.out;omega,hg⟩)) O.out.2));clear hB hK)
   | (refine O1 3 (.tmp 20) _ n2 7 rfl rfl rfl rfl B.out (by rw[F2];decide) (by kernel_rfl) rfl (Ar7 _ 0) ?_;intro w9 hB hK;replace B:=Lh hB;replace G:=Lh (hK.below G.out L2.out);replace BX:=Lh (BX.out.kp hK NX.out);(try replace O:=Lh (And.intro (O.out.1.kp (q:=fun g=>n4<g) hK (fun g hg=>⟨by have:=LX2.out;omega,hg⟩)) O.out.2));clear hB hK)
   | (refine O1 3 (.tmp 21) _ n2 9 rfl rfl rfl rfl B.out (by rw[F2];decide) (by kernel_rfl) rfl (Bi0 _ 0) ?_;intro w9 hB hK;replace B:=Lh hB;replace G:=Lh (hK.below G.out L2.out);replace BX:=Lh (BX.out.kp hK NX.out);(try replace O:=Lh (And.intro (O.out.1.kp (q:=fun g=>n4<g) hK (fun g hg=>⟨by have:=LX2.out;omega,hg⟩)) O.out.2));clear hB hK)
   | (refine Y3 28 (.tmp 25) _ n2 10 (cs:=C4 0 M4) rfl rfl rfl (congrArg Value.agg (Ao6 0)) B.out (by rw[F2,D5];decide) HW.out (Ax5 _ _) (Br3 _ 0 M4) ?_;intro w9 hB hK;replace B:=Lh hB;replace G:=Lh (hK.below G.out L2.out);replace BX:=Lh (BX.out.kp hK NX.out);(try replace O:=Lh (And.intro (O.out.1.kp (q:=fun g=>n4<g) hK (fun g hg=>⟨by have:=LX2.out;omega,hg⟩)) O.out.2));clear hB hK)
   | (refine Y3 32 (.tmp 26) _ n2 27 (cs:=R0.L) rfl rfl rfl rfl B.out (by rw[F2];decide) HR.out (rfl) (Br4 _ R0) ?_;intro w9 hB hK;replace B:=Lh hB;replace G:=Lh (hK.below G.out L2.out);replace BX:=Lh (BX.out.kp hK NX.out);(try replace O:=Lh (And.intro (O.out.1.kp (q:=fun g=>n4<g) hK (fun g hg=>⟨by have:=LX2.out;omega,hg⟩)) O.out.2));clear hB hK)
   | (refine Y3 34 (.tmp 27) _ n2 35 (cs:=K7 ⟨0,0,0,0,[]⟩ none 0) rfl rfl rfl rfl B.out (by rw[F2];decide) HA.out (rfl) (Bm1 _) ?_;intro w9 hB hK;replace B:=Lh hB;replace G:=Lh (hK.below G.out L2.out);replace BX:=Lh (BX.out.kp hK NX.out);(try replace O:=Lh (And.intro (O.out.1.kp (q:=fun g=>n4<g) hK (fun g hg=>⟨by have:=LX2.out;omega,hg⟩)) O.out.2));clear hB hK)
   | (refine O1 35 (.tmp 28) _ n2 42 rfl rfl rfl rfl B.out (by rw[F2];decide) (by kernel_rfl) rfl (Bm0 _) ?_;intro w9 hB hK;replace B:=Lh hB;replace G:=Lh (hK.below G.out L2.out);replace BX:=Lh (BX.out.kp hK NX.out);(try replace O:=Lh (And.intro (O.out.1.kp (q:=fun g=>n4<g) hK (fun g hg=>⟨by have:=LX2.out;omega,hg⟩)) O.out.2));clear hB hK)
   | (refine A8 46 (.tmp 2) n2 rfl rfl rfl B.out.blk Tryz.underlying46 rfl (HI.out _) ?_)
   | (refine G8 46 _ _ n4 rfl rfl rfl rfl BX.out (HI.out _) (by rw[Ac1,F2]) (Ad5 _) ?_;intro w9 hB hK;replace BX:=Lh hB;have K3:=Lh hK;clear hB hK))
  (try simp only[Act.put,List.setIfInBounds_toArray,List.set_cons_zero,List.set_cons_succ])
  refine bodyPost_ret (K5 rfl _ _ n4 rfl BX.out.blk Tryz.underlying46 rfl (HI.out _)) rfl ?_;have hbel:=K3.out.below G.out LX.out;have hO:=O.out.1.kp (q:=qq) K3.out (fun g hg=>⟨by omega,HQ.out g (by have:=LX.out;omega)⟩);refine⟨a7,c7,?_,?_,hbel⟩
  ·rw[HF.out];rfl
  ·rw[HF.out];exact((HE.out.mono hbel).got (Af0.snoc (x:=⟨5,(C7 e).1,(C7 e).2,0,[]⟩) HL.out.1 HRows.out hbel hO (En1 _)) O.out.2).clear p
end Go.Proofs.YtadpiemjgfndgaaGreatDoor
