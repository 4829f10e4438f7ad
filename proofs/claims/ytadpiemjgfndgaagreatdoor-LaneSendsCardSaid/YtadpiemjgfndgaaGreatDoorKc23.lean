/- Proved here, for use further on: LeY LeZ LfA. Conditions: none but those each theorem names. -/
import Derived.Test.YtadpiemjgfndgaaGreatDoorKc00
import Derived.Test.YtadpiemjgfndgaaGreatDoorKc22
import Derived.Test.YtadpiemjgfndgaaGreatDoorKc18
import Derived.Test.YtadpiemjgfndgaaGreatDoorKc19
import Derived.Test.YtadpiemjgfndgaaGreatDoorKc12
set_option linter.unusedSimpArgs false
set_option linter.unusedVariables false
set_option maxRecDepth 100000
set_option maxHeartbeats 8000000
namespace Go.Proofs.YtadpiemjgfndgaaGreatDoor
open Go.RowKit
theorem Bz0{w:World}{b:Nat}{k d e0 e1 g s:Int}{vb vt:Value}(h:A6 65 w b (J1 k d e0 e1 g s vb vt)):w.rangeAt b 2 [.int .i64 e0,.int .i64 e1]:=fun j v hj=>by
 obtain⟨-,-,h2,h3,-⟩:=I6 h.blk;have hjl:j<2:=(List.getElem?_eq_some_iff.1 hj).1;rcases(by omega:j=0∨j=1) with rfl | rfl
 ·rw[h2];exact hj
 ·rw[h3];exact hj
noncomputable def op3:{ops:Array Oper//(Tryz.f61.body.bind (M8 3))=some (.region 3 ops true)}:=⟨_,rfl⟩
abbrev Ag0:List Nat:=[22,23,24,25,26,27,28,29,30,31,32,33,34,35,36,37,38,39,40,41,42,43,44,45,46,47]
theorem Bt7:opx op3.1 25=some (.call {callee:=.value (.func 63),args:=#[.tmp 46,.const (Value.int IntKind.i64 13)],argTypes:=#[4,54]},some 47,none):=by kernel_rfl
theorem Es2{s:Sv}{k d e0 e1 g q:Int}{vb vt:Value}{n4 n5:Nat}{a:Act}{w:World}{Q:Exit→Act→World→Prop}(hsz:113≤a.tmps.size)
 (e0_:a.tmps.getD 0 undef=.pointer (some ⟨n4,0,none⟩)) (e5:a.tmps.getD 5 undef=.pointer (some ⟨n5,0,none⟩))
 (hP:∀c a d v w,Q (.panic c) (Act.put a d v) w→Q (.panic c) a w) (B4:A6 51 w n4 (A5 s)) (B5:A6 65 w n5 (J1 k d e0 e1 g q vb vt)) (h1:(d==wrap64 (1-s.e.id))=false)
 (hQ:∀a' w',a'.defers=a.defers→Below w.heap.size w w'→Q (.panic [{v:=.iface 54 (.int .i64 13),recovered:=false}]) a' w'):
 (Code.region 3 op3.1 true).wp Tryz.prog Q a w:=by
 have end_len:(Tryz.prog.info? 46).map (·.size)=some (A8 s.e).length:=by rw[I1];exact Q1
 have rG:Rgn op3.1 Ag0 a Q:=⟨fun k hk=>Nat.lt_of_lt_of_le ((by decide:∀k∈Ag0,k<113) k hk) hsz,by kernel_rfl,hP⟩;have hb:=rG.b;obtain⟨i,h0⟩:=U8 a Ag0;let S:World→Prop:=fun w'=>A6 51 w' n4 (A5 s)∧A6 65 w' n5 (J1 k d e0 e1 g q vb vt);refine wp_region_held_drew (S:=S) (by kernel_rfl) (⟨B4.up (bd _),B5.up (bd _)⟩) fun hHeld=>?_;have N0:∀(u:World) (G:Below w.heap.size w u),wpAnyH Tryz.prog .any op3.1 Q S 1 (lm 26 33554431) (C6 a Ag0 [pt n5 1,i6 d,pt n4 0,pt n4 0,pt n4 0,pt n4 0,i6 s.e.id,i6 (wrap64 (1-s.e.id)),.bool false,.bool false,undef,undef,undef,undef,undef,undef,.bool false,.bool false,undef,undef,undef,undef,undef,undef,.bool false,i 47]) u:=by
  intro u G;refine D7 [25] (D0 rG Bt7 ?_ AllReadyH.nil);intro o hp hd;refine Bl3 hp (rG.ev2 (.bool false) (i6 13)) (Ah3 13 _) ?_;rintro e u25 ⟨rfl,rfl⟩;exact .inr ⟨_,rfl,hQ _ _ (An2 _ _ _) G⟩
 exact M5 26 rG [(0,22,pt n5 1),(1,23,i6 d),(2,24,pt n4 0),(3,25,pt n4 0),(4,26,pt n4 0),(5,27,pt n4 0),(6,28,i6 s.e.id),(7,29,i6 (wrap64 (1-s.e.id))),(8,30,.bool false),(9,31,.bool false),(10,32,undef),(11,33,undef),(12,34,undef),(13,35,undef),(14,36,undef),(15,37,undef),(16,38,.bool false),(17,39,.bool false),(18,40,undef),(19,41,undef),(20,42,undef),(21,43,undef),(22,44,undef),(23,45,undef),(24,46,.bool false)] h0 ⟨B4.up (bd _),B5.up (bd _)⟩ ⟨A7 rfl e5,D8 rfl (fun w hw=>(I6 hw.2.blk).2.1),A9 rfl e0_,Af9 rfl,A7 rfl,A7 rfl,D8 rfl (fun w hw=>hw.1.blk.siteIn.id),Ba5 rfl (fun w=>Bt5 w _ _ _ 1 s.e.id),Af5 rfl h1,A9 rfl,C7,C7,C7,C7,C7,C7,J3 rfl,A9 rfl,C7,C7,C7,C7,C7,C7,J3 rfl,trivial⟩ (N0 _  (bd w))
theorem Es3{s:Sv}{k d e0 e1 g q:Int}{vb vt:Value}{n4 n5:Nat}{a:Act}{w:World}{Q:Exit→Act→World→Prop}(hsz:113≤a.tmps.size)
 (e0_:a.tmps.getD 0 undef=.pointer (some ⟨n4,0,none⟩)) (e5:a.tmps.getD 5 undef=.pointer (some ⟨n5,0,none⟩))
 (hP:∀c a d v w,Q (.panic c) (Act.put a d v) w→Q (.panic c) a w) (B4:A6 51 w n4 (A5 s)) (B5:A6 65 w n5 (J1 k d e0 e1 g q vb vt)) (h1:(d==wrap64 (1-s.e.id))=true) (h2:(s.e.ph != 7)=false)
 (hQ:∀a' w',a'.defers=a.defers→Below w.heap.size w w'→Q (.panic [{v:=.iface 54 (.int .i64 13),recovered:=false}]) a' w'):
 (Code.region 3 op3.1 true).wp Tryz.prog Q a w:=by
 have end_len:(Tryz.prog.info? 46).map (·.size)=some (A8 s.e).length:=by rw[I1];exact Q1
 have rG:Rgn op3.1 Ag0 a Q:=⟨fun k hk=>Nat.lt_of_lt_of_le ((by decide:∀k∈Ag0,k<113) k hk) hsz,by kernel_rfl,hP⟩;have hb:=rG.b;obtain⟨i,h0⟩:=U8 a Ag0;let S:World→Prop:=fun w'=>A6 51 w' n4 (A5 s)∧A6 65 w' n5 (J1 k d e0 e1 g q vb vt);refine wp_region_held_drew (S:=S) (by kernel_rfl) (⟨B4.up (bd _),B5.up (bd _)⟩) fun hHeld=>?_;have N0:∀(u:World) (G:Below w.heap.size w u),wpAnyH Tryz.prog .any op3.1 Q S 1 (lm 26 33554431) (C6 a Ag0 [pt n5 1,i6 d,pt n4 0,pt n4 0,pt n4 0,pt n4 0,i6 s.e.id,i6 (wrap64 (1-s.e.id)),.bool true,.bool true,pt n4 0,pt n4 0,pt n4 0,pt n4 2,i6 s.e.ph,.bool false,.bool false,.bool false,undef,undef,undef,undef,undef,undef,.bool false,i 47]) u:=by
  intro u G;refine D7 [25] (D0 rG Bt7 ?_ AllReadyH.nil);intro o hp hd;refine Bl3 hp (rG.ev2 (.bool false) (i6 13)) (Ah3 13 _) ?_;rintro e u25 ⟨rfl,rfl⟩;exact .inr ⟨_,rfl,hQ _ _ (An2 _ _ _) G⟩
 exact M5 26 rG [(0,22,pt n5 1),(1,23,i6 d),(2,24,pt n4 0),(3,25,pt n4 0),(4,26,pt n4 0),(5,27,pt n4 0),(6,28,i6 s.e.id),(7,29,i6 (wrap64 (1-s.e.id))),(8,30,.bool true),(9,31,.bool true),(10,32,pt n4 0),(11,33,pt n4 0),(12,34,pt n4 0),(13,35,pt n4 2),(14,36,i6 s.e.ph),(15,37,.bool false),(16,38,.bool false),(17,39,.bool false),(18,40,undef),(19,41,undef),(20,42,undef),(21,43,undef),(22,44,undef),(23,45,undef),(24,46,.bool false)] h0 ⟨B4.up (bd _),B5.up (bd _)⟩ ⟨A7 rfl e5,D8 rfl (fun w hw=>(I6 hw.2.blk).2.1),A9 rfl e0_,Af9 rfl,A7 rfl,A7 rfl,D8 rfl (fun w hw=>hw.1.blk.siteIn.id),Ba5 rfl (fun w=>Bt5 w _ _ _ 1 s.e.id),Af5 rfl h1,A9 rfl,A9 rfl e0_,Af9 rfl,A7 rfl,A7 rfl,D8 rfl (fun w hw=>hw.1.blk.siteIn.ph),Aa1 rfl h2,J3 rfl,A9 rfl,C7,C7,C7,C7,C7,C7,J3 rfl,trivial⟩ (N0 _  (bd w))
theorem Es4{s:Sv}{k d e0 e1 g q:Int}{vb vt:Value}{n4 n5:Nat}{a:Act}{w:World}{Q:Exit→Act→World→Prop}(hsz:113≤a.tmps.size)
 (e0_:a.tmps.getD 0 undef=.pointer (some ⟨n4,0,none⟩)) (e5:a.tmps.getD 5 undef=.pointer (some ⟨n5,0,none⟩))
 (hP:∀c a d v w,Q (.panic c) (Act.put a d v) w→Q (.panic c) a w) (B4:A6 51 w n4 (A5 s)) (B5:A6 65 w n5 (J1 k d e0 e1 g q vb vt)) (h1:(d==wrap64 (1-s.e.id))=true) (h2:(s.e.ph != 7)=true) (h3:(s.e.ph != 8)=false)
 (hQ:∀a' w',a'.defers=a.defers→Below w.heap.size w w'→Q (.panic [{v:=.iface 54 (.int .i64 13),recovered:=false}]) a' w'):
 (Code.region 3 op3.1 true).wp Tryz.prog Q a w:=by
 have end_len:(Tryz.prog.info? 46).map (·.size)=some (A8 s.e).length:=by rw[I1];exact Q1
 have rG:Rgn op3.1 Ag0 a Q:=⟨fun k hk=>Nat.lt_of_lt_of_le ((by decide:∀k∈Ag0,k<113) k hk) hsz,by kernel_rfl,hP⟩;have hb:=rG.b;obtain⟨i,h0⟩:=U8 a Ag0;let S:World→Prop:=fun w'=>A6 51 w' n4 (A5 s)∧A6 65 w' n5 (J1 k d e0 e1 g q vb vt);refine wp_region_held_drew (S:=S) (by kernel_rfl) (⟨B4.up (bd _),B5.up (bd _)⟩) fun hHeld=>?_;have N0:∀(u:World) (G:Below w.heap.size w u),wpAnyH Tryz.prog .any op3.1 Q S 1 (lm 26 33554431) (C6 a Ag0 [pt n5 1,i6 d,pt n4 0,pt n4 0,pt n4 0,pt n4 0,i6 s.e.id,i6 (wrap64 (1-s.e.id)),.bool true,.bool true,pt n4 0,pt n4 0,pt n4 0,pt n4 2,i6 s.e.ph,.bool true,.bool true,.bool true,pt n4 0,pt n4 0,pt n4 0,pt n4 2,i6 s.e.ph,.bool false,.bool false,i 47]) u:=by
  intro u G;refine D7 [25] (D0 rG Bt7 ?_ AllReadyH.nil);intro o hp hd;refine Bl3 hp (rG.ev2 (.bool false) (i6 13)) (Ah3 13 _) ?_;rintro e u25 ⟨rfl,rfl⟩;exact .inr ⟨_,rfl,hQ _ _ (An2 _ _ _) G⟩
 exact M5 26 rG [(0,22,pt n5 1),(1,23,i6 d),(2,24,pt n4 0),(3,25,pt n4 0),(4,26,pt n4 0),(5,27,pt n4 0),(6,28,i6 s.e.id),(7,29,i6 (wrap64 (1-s.e.id))),(8,30,.bool true),(9,31,.bool true),(10,32,pt n4 0),(11,33,pt n4 0),(12,34,pt n4 0),(13,35,pt n4 2),(14,36,i6 s.e.ph),(15,37,.bool true),(16,38,.bool true),(17,39,.bool true),(18,40,pt n4 0),(19,41,pt n4 0),(20,42,pt n4 0),(21,43,pt n4 2),(22,44,i6 s.e.ph),(23,45,.bool false),(24,46,.bool false)] h0 ⟨B4.up (bd _),B5.up (bd _)⟩ ⟨A7 rfl e5,D8 rfl (fun w hw=>(I6 hw.2.blk).2.1),A9 rfl e0_,Af9 rfl,A7 rfl,A7 rfl,D8 rfl (fun w hw=>hw.1.blk.siteIn.id),Ba5 rfl (fun w=>Bt5 w _ _ _ 1 s.e.id),Af5 rfl h1,A9 rfl,A9 rfl e0_,Af9 rfl,A7 rfl,A7 rfl,D8 rfl (fun w hw=>hw.1.blk.siteIn.ph),Aa1 rfl h2,J3 rfl,A9 rfl,A9 rfl e0_,Af9 rfl,A7 rfl,A7 rfl,D8 rfl (fun w hw=>hw.1.blk.siteIn.ph),Aa1 rfl h3,J3 rfl,trivial⟩ (N0 _  (bd w))
theorem Es5{s:Sv}{k d e0 e1 g q:Int}{vb vt:Value}{n4 n5:Nat}{a:Act}{w:World}{Q:Exit→Act→World→Prop}(hsz:113≤a.tmps.size)
 (e0_:a.tmps.getD 0 undef=.pointer (some ⟨n4,0,none⟩)) (e5:a.tmps.getD 5 undef=.pointer (some ⟨n5,0,none⟩))
 (hP:∀c a d v w,Q (.panic c) (Act.put a d v) w→Q (.panic c) a w) (B4:A6 51 w n4 (A5 s)) (B5:A6 65 w n5 (J1 k d e0 e1 g q vb vt)) (h1:(d==wrap64 (1-s.e.id))=true) (h2:(s.e.ph != 7)=true) (h3:(s.e.ph != 8)=true)
 (hQ:∀{x22 x23 x24 x25 x26 x27 x28 x29 x30 x31 x32 x33 x34 x35 x36 x37 x38 x39 x40 x41 x42 x43 x44 x45 x46 x47} w',Below w.heap.size w w'→Q .normal (C6 a Ag0 [x22,x23,x24,x25,x26,x27,x28,x29,x30,x31,x32,x33,x34,x35,x36,x37,x38,x39,x40,x41,x42,x43,x44,x45,x46,x47]) w'):
 (Code.region 3 op3.1 true).wp Tryz.prog Q a w:=by
 have end_len:(Tryz.prog.info? 46).map (·.size)=some (A8 s.e).length:=by rw[I1];exact Q1
 have rG:Rgn op3.1 Ag0 a Q:=⟨fun k hk=>Nat.lt_of_lt_of_le ((by decide:∀k∈Ag0,k<113) k hk) hsz,by kernel_rfl,hP⟩;have hb:=rG.b;obtain⟨i,h0⟩:=U8 a Ag0;let S:World→Prop:=fun w'=>A6 51 w' n4 (A5 s)∧A6 65 w' n5 (J1 k d e0 e1 g q vb vt);refine wp_region_held_drew (S:=S) (by kernel_rfl) (⟨B4.up (bd _),B5.up (bd _)⟩) fun hHeld=>?_;have N25:∀(u:World) (G:Below w.heap.size w u),wpAnyH Tryz.prog .any op3.1 Q S 0 (lm 26 67108863) (C6 a Ag0 [pt n5 1,i6 d,pt n4 0,pt n4 0,pt n4 0,pt n4 0,i6 s.e.id,i6 (wrap64 (1-s.e.id)),.bool true,.bool true,pt n4 0,pt n4 0,pt n4 0,pt n4 2,i6 s.e.ph,.bool true,.bool true,.bool true,pt n4 0,pt n4 0,pt n4 0,pt n4 2,i6 s.e.ph,.bool true,.bool true,.tuple #[]]) u:=by
  intro u G;refine T4 ?_;exact hQ _ G
 have N0:∀(u:World) (G:Below w.heap.size w u),wpAnyH Tryz.prog .any op3.1 Q S 1 (lm 26 33554431) (C6 a Ag0 [pt n5 1,i6 d,pt n4 0,pt n4 0,pt n4 0,pt n4 0,i6 s.e.id,i6 (wrap64 (1-s.e.id)),.bool true,.bool true,pt n4 0,pt n4 0,pt n4 0,pt n4 2,i6 s.e.ph,.bool true,.bool true,.bool true,pt n4 0,pt n4 0,pt n4 0,pt n4 2,i6 s.e.ph,.bool true,.bool true,i 47]) u:=by
  intro u G;refine D7 [25] (D0 rG Bt7 ?_ AllReadyH.nil);intro o hp hd;refine M0 hp (rG.ev2 (.bool true) (i6 13)) (Ay1 13 _) ?_;rintro e u25 ⟨rfl,rfl⟩;refine⟨_,rfl,?_⟩;exact G8 rG [] hd ⟨B4.up (G),B5.up (G)⟩ trivial (N25 _  G)
 exact M5 26 rG [(0,22,pt n5 1),(1,23,i6 d),(2,24,pt n4 0),(3,25,pt n4 0),(4,26,pt n4 0),(5,27,pt n4 0),(6,28,i6 s.e.id),(7,29,i6 (wrap64 (1-s.e.id))),(8,30,.bool true),(9,31,.bool true),(10,32,pt n4 0),(11,33,pt n4 0),(12,34,pt n4 0),(13,35,pt n4 2),(14,36,i6 s.e.ph),(15,37,.bool true),(16,38,.bool true),(17,39,.bool true),(18,40,pt n4 0),(19,41,pt n4 0),(20,42,pt n4 0),(21,43,pt n4 2),(22,44,i6 s.e.ph),(23,45,.bool true),(24,46,.bool true)] h0 ⟨B4.up (bd _),B5.up (bd _)⟩ ⟨A7 rfl e5,D8 rfl (fun w hw=>(I6 hw.2.blk).2.1),A9 rfl e0_,Af9 rfl,A7 rfl,A7 rfl,D8 rfl (fun w hw=>hw.1.blk.siteIn.id),Ba5 rfl (fun w=>Bt5 w _ _ _ 1 s.e.id),Af5 rfl h1,A9 rfl,A9 rfl e0_,Af9 rfl,A7 rfl,A7 rfl,D8 rfl (fun w hw=>hw.1.blk.siteIn.ph),Aa1 rfl h2,J3 rfl,A9 rfl,A9 rfl e0_,Af9 rfl,A7 rfl,A7 rfl,D8 rfl (fun w hw=>hw.1.blk.siteIn.ph),Aa1 rfl h3,J3 rfl,trivial⟩ (N0 _  (bd w))
noncomputable def op6:{ops:Array Oper//(Tryz.f61.body.bind (M8 6))=some (.region 6 ops true)}:=⟨_,rfl⟩
abbrev Bl4:List Nat:=[58,59,60,61,62,63,64,65,57,66,67,8,9]
theorem Fg3:opx op6.1 7=some (.call {callee:=.value (.func 133),args:=#[.tmp 62,.tmp 64],argTypes:=#[32,3]},some 65,none):=by kernel_rfl
theorem Ez7{s:Sv}{k d e0 e1 g q:Int}{vb vt:Value}{n4 n5:Nat}{a:Act}{w:World}{Q:Exit→Act→World→Prop}(hsz:113≤a.tmps.size)
 (e0_:a.tmps.getD 0 undef=.pointer (some ⟨n4,0,none⟩)) (e5:a.tmps.getD 5 undef=.pointer (some ⟨n5,0,none⟩))
 (hP:∀c a d v w,Q (.panic c) (Act.put a d v) w→Q (.panic c) a w) (B4:A6 51 w n4 (A5 s)) (B5:A6 65 w n5 (J1 k d e0 e1 g q vb vt))
 (hQ:∀{x58 x59 x60 x61 x62 x63 x64 x65 x57 x66 x67} w',Below w.heap.size w w'→Q .normal (C6 a Bl4 [x58,x59,x60,x61,x62,x63,x64,x65,x57,x66,x67,.slice (P9 s.e.r g).1.a (P9 s.e.r g).1.len (P9 s.e.r g).1.cap,.bool (P9 s.e.r g).2]) w'):
 (Code.region 6 op6.1 true).wp Tryz.prog Q a w:=by
 have end_len:(Tryz.prog.info? 46).map (·.size)=some (A8 s.e).length:=by rw[I1];exact Q1
 have rG:Rgn op6.1 Bl4 a Q:=⟨fun k hk=>Nat.lt_of_lt_of_le ((by decide:∀k∈Bl4,k<113) k hk) hsz,by kernel_rfl,hP⟩;have hb:=rG.b;obtain⟨i,h0⟩:=U8 a Bl4;let S:World→Prop:=fun w'=>A6 51 w' n4 (A5 s)∧A6 65 w' n5 (J1 k d e0 e1 g q vb vt);refine wp_region_held_drew (S:=S) (by kernel_rfl) (⟨B4.up (bd _),B5.up (bd _)⟩) fun hHeld=>?_;have N7:∀(u:World) (G:Below w.heap.size w u),wpAnyH Tryz.prog .any op6.1 Q S 0 (lm 13 8191) (C6 a Bl4 [pt n4 0,pt n4 0,pt n4 0,pt n4 27,.agg (s.e.r.L).toArray,pt n5 4,i6 g,.tuple #[.slice (P9 s.e.r g).1.a (P9 s.e.r g).1.len (P9 s.e.r g).1.cap,.bool (P9 s.e.r g).2],.tuple #[.slice (P9 s.e.r g).1.a (P9 s.e.r g).1.len (P9 s.e.r g).1.cap,.bool (P9 s.e.r g).2],.slice (P9 s.e.r g).1.a (P9 s.e.r g).1.len (P9 s.e.r g).1.cap,.bool (P9 s.e.r g).2,.slice (P9 s.e.r g).1.a (P9 s.e.r g).1.len (P9 s.e.r g).1.cap,.bool (P9 s.e.r g).2]) u:=by
  intro u G;refine T4 ?_;exact hQ _ G
 have N0:∀(u:World) (G:Below w.heap.size w u),wpAnyH Tryz.prog .any op6.1 Q S 6 (lm 13 127) (C6 a Bl4 [pt n4 0,pt n4 0,pt n4 0,pt n4 27,.agg (s.e.r.L).toArray,pt n5 4,i6 g,i 65,i 57,i 66,i 67,i 8,i 9]) u:=by
  intro u G;refine D7 [7] (D0 rG Fg3 ?_ AllReadyH.nil);intro o hp hd;refine M0 hp (rG.ev2 (.agg (s.e.r.L).toArray) (i6 g)) (Eq3 s.e.r g _) ?_;rintro x u7 ⟨rfl,hb7⟩;refine⟨_,rfl,?_⟩;exact G8 rG [(8,57,.tuple #[.slice (P9 s.e.r g).1.a (P9 s.e.r g).1.len (P9 s.e.r g).1.cap,.bool (P9 s.e.r g).2]),(9,66,.slice (P9 s.e.r g).1.a (P9 s.e.r g).1.len (P9 s.e.r g).1.cap),(10,67,.bool (P9 s.e.r g).2),(11,8,.slice (P9 s.e.r g).1.a (P9 s.e.r g).1.len (P9 s.e.r g).1.cap),(12,9,.bool (P9 s.e.r g).2)] hd ⟨B4.up (bt G hb7),B5.up (bt G hb7)⟩ ⟨A9 rfl,O2 rfl,O2 rfl,Ak6 rfl,Ak6 rfl,trivial⟩ (N7 _  (bt G hb7))
 exact M5 13 rG [(0,58,pt n4 0),(1,59,pt n4 0),(2,60,pt n4 0),(3,61,pt n4 27),(4,62,.agg (s.e.r.L).toArray),(5,63,pt n5 4),(6,64,i6 g)] h0 ⟨B4.up (bd _),B5.up (bd _)⟩ ⟨A9 rfl e0_,Af9 rfl,A7 rfl,A7 rfl,S0 (cs:=s.e.r.L) rfl (fun w hw=>hw.1.blk.siteIn.at_r) Ab7,A7 rfl e5,D8 rfl (fun w hw=>(I6 hw.2.blk).2.2.2.2.1),trivial⟩ (N0 _  (bd w))
noncomputable def op7:{ops:Array Oper//(Tryz.f61.body.bind (M8 7))=some (.region 7 ops true)}:=⟨_,rfl⟩
abbrev Z5:List Nat:=[68,69,70,71,72,73,74,75,76,77,78,79,80,81,82,83,84,85,86,87]
theorem Cd0:opx op7.1 5=some (.call {callee:=.value (.func 59),args:=#[.tmp 72],argTypes:=#[3]},some 73,none):=by kernel_rfl
theorem Ch3:opx op7.1 13=some (.call {callee:=.value (.func 44),args:=#[.tmp 80],argTypes:=#[46]},some 81,some (6,true)):=by kernel_rfl
theorem Bt8:opx op7.1 19=some (.call {callee:=.value (.func 63),args:=#[.tmp 86,.const (Value.int IntKind.i64 13)],argTypes:=#[4,54]},some 87,none):=by kernel_rfl
theorem Es6{s:Sv}{k d e0 e1 g q:Int}{vb vt:Value}{n4 n5:Nat}{a:Act}{w:World}{Q:Exit→Act→World→Prop}(hsz:113≤a.tmps.size)
 (e0_:a.tmps.getD 0 undef=.pointer (some ⟨n4,0,none⟩)) (e5:a.tmps.getD 5 undef=.pointer (some ⟨n5,0,none⟩))
 (hP:∀c a d v w,Q (.panic c) (Act.put a d v) w→Q (.panic c) a w) (B4:A6 51 w n4 (A5 s)) (B5:A6 65 w n5 (J1 k d e0 e1 g q vb vt)) (HL:∀W,Calls Tryz.prog 59 #[.int .i64 s.e.ph] W fun x w'=>x=.returned (.bool false)∧W=w')
 (hQ:∀a' w',a'.defers=a.defers→Below w.heap.size w w'→Q (.panic [{v:=.iface 54 (.int .i64 13),recovered:=false}]) a' w'):
 (Code.region 7 op7.1 true).wp Tryz.prog Q a w:=by
 have end_len:(Tryz.prog.info? 46).map (·.size)=some (A8 s.e).length:=by rw[I1];exact Q1
 have rG:Rgn op7.1 Z5 a Q:=⟨fun k hk=>Nat.lt_of_lt_of_le ((by decide:∀k∈Z5,k<113) k hk) hsz,by kernel_rfl,hP⟩;have hb:=rG.b;obtain⟨i,h0⟩:=U8 a Z5;let S:World→Prop:=fun w'=>A6 51 w' n4 (A5 s)∧A6 65 w' n5 (J1 k d e0 e1 g q vb vt);refine wp_region_held_drew (S:=S) (by kernel_rfl) (⟨B4.up (bd _),B5.up (bd _)⟩) fun hHeld=>?_;have N5:∀(u:World) (G:Below w.heap.size w u),wpAnyH Tryz.prog .any op7.1 Q S 1 (lm 20 524287) (C6 a Z5 [pt n4 0,pt n4 0,pt n4 0,pt n4 2,i6 s.e.ph,.bool false,.bool false,undef,undef,undef,undef,undef,undef,undef,undef,.bool false,.bool false,undef,.bool false,i 87]) u:=by
  intro u G;refine D7 [19] (D0 rG Bt8 ?_ AllReadyH.nil);intro o hp hd;refine Bl3 hp (rG.ev2 (.bool false) (i6 13)) (Ah3 13 _) ?_;rintro e u19 ⟨rfl,rfl⟩;exact .inr ⟨_,rfl,hQ _ _ (An2 _ _ _) G⟩
 have N0:∀(u:World) (G:Below w.heap.size w u),wpAnyH Tryz.prog .any op7.1 Q S 15 (lm 20 31) (C6 a Z5 [pt n4 0,pt n4 0,pt n4 0,pt n4 2,i6 s.e.ph,i 73,i 74,i 75,i 76,i 77,i 78,i 79,i 80,i 81,i 82,i 83,i 84,i 85,i 86,i 87]) u:=by
  intro u G;refine D7 [5] (D0 rG Cd0 ?_ AllReadyH.nil);intro o hp hd;refine M0 hp (rG.ev1 (i6 s.e.ph)) (HL _) ?_;rintro x u5 ⟨rfl,rfl⟩;refine⟨_,rfl,?_⟩;exact G8 rG [(6,74,.bool false),(7,75,undef),(8,76,undef),(9,77,undef),(10,78,undef),(11,79,undef),(12,80,undef),(13,81,undef),(14,82,undef),(15,83,.bool false),(16,84,.bool false),(17,85,undef),(18,86,.bool false)] hd ⟨B4.up (G),B5.up (G)⟩ ⟨A9 rfl,C7,C7,C7,C7,C7,C7,C7,C7,J3 rfl,A9 rfl,C7,J3 rfl,trivial⟩ (N5 _  G)
 exact M5 20 rG [(0,68,pt n4 0),(1,69,pt n4 0),(2,70,pt n4 0),(3,71,pt n4 2),(4,72,i6 s.e.ph)] h0 ⟨B4.up (bd _),B5.up (bd _)⟩ ⟨A9 rfl e0_,Af9 rfl,A7 rfl,A7 rfl,D8 rfl (fun w hw=>hw.1.blk.siteIn.ph),trivial⟩ (N0 _  (bd w))
theorem Es7{s:Sv}{k d e0 e1 g q:Int}{vb vt:Value}{n4 n5:Nat}{a:Act}{w:World}{Q:Exit→Act→World→Prop}(hsz:113≤a.tmps.size)
 (e0_:a.tmps.getD 0 undef=.pointer (some ⟨n4,0,none⟩)) (e5:a.tmps.getD 5 undef=.pointer (some ⟨n5,0,none⟩))
 (hP:∀c a d v w,Q (.panic c) (Act.put a d v) w→Q (.panic c) a w) (B4:A6 51 w n4 (A5 s)) (B5:A6 65 w n5 (J1 k d e0 e1 g q vb vt)) (HL:∀W,Calls Tryz.prog 59 #[.int .i64 s.e.ph] W fun x w'=>x=.returned (.bool true)∧W=w') (h2:((e0==(C8 s.e).1)&&(e1==(C8 s.e).2))=false)
 (hQ:∀a' w',a'.defers=a.defers→Below w.heap.size w w'→Q (.panic [{v:=.iface 54 (.int .i64 13),recovered:=false}]) a' w'):
 (Code.region 7 op7.1 true).wp Tryz.prog Q a w:=by
 have end_len:(Tryz.prog.info? 46).map (·.size)=some (A8 s.e).length:=by rw[I1];exact Q1
 have rG:Rgn op7.1 Z5 a Q:=⟨fun k hk=>Nat.lt_of_lt_of_le ((by decide:∀k∈Z5,k<113) k hk) hsz,by kernel_rfl,hP⟩;have hb:=rG.b;obtain⟨i,h0⟩:=U8 a Z5;let S:World→Prop:=fun w'=>A6 51 w' n4 (A5 s)∧A6 65 w' n5 (J1 k d e0 e1 g q vb vt);refine wp_region_held_drew (S:=S) (by kernel_rfl) (⟨B4.up (bd _),B5.up (bd _)⟩) fun hHeld=>?_;have N5_13:∀(u:World) (G:Below w.heap.size w u),wpAnyH Tryz.prog .any op7.1 Q S 1 (lm 20 524287) (C6 a Z5 [pt n4 0,pt n4 0,pt n4 0,pt n4 2,i6 s.e.ph,.bool true,.bool true,pt n5 2,.agg #[i6 e0,i6 e1],pt n4 0,pt n4 0,pt n4 0,.agg (A8 s.e).toArray,.agg #[i6 (C8 s.e).1,i6 (C8 s.e).2],.bool false,.bool false,.bool false,undef,.bool false,i 87]) u:=by
  intro u G;refine D7 [19] (D0 rG Bt8 ?_ AllReadyH.nil);intro o hp hd;refine Bl3 hp (rG.ev2 (.bool false) (i6 13)) (Ah3 13 _) ?_;rintro e u19 ⟨rfl,rfl⟩;exact .inr ⟨_,rfl,hQ _ _ (An2 _ _ _) G⟩
 have N5:∀(u:World) (G:Below w.heap.size w u),wpAnyH Tryz.prog .any op7.1 Q S 7 (lm 20 8191) (C6 a Z5 [pt n4 0,pt n4 0,pt n4 0,pt n4 2,i6 s.e.ph,.bool true,.bool true,pt n5 2,.agg #[i6 e0,i6 e1],pt n4 0,pt n4 0,pt n4 0,.agg (A8 s.e).toArray,i 81,i 82,i 83,i 84,i 85,i 86,i 87]) u:=by
  intro u G;refine D7 [13] (D0 rG Ch3 ?_ AllReadyH.nil);intro o hp hd;refine M0 hp (rG.ev1 (.agg (A8 s.e).toArray)) (Ah8 s.e _) ?_;rintro x u13 ⟨rfl,hb13⟩;refine⟨_,rfl,?_⟩;exact G8 rG [(14,82,.bool false),(15,83,.bool false),(16,84,.bool false),(17,85,undef),(18,86,.bool false)] hd ⟨B4.up (bt G hb13),B5.up (bt G hb13)⟩ ⟨Ba5 rfl (fun w=>⟨(Aq5 (.tmp 76) (.tmp 81) e0 e1 (C8 s.e).1 (C8 s.e).2 w).1,by rw[(Aq5 (.tmp 0) (.tmp 0) e0 e1 (C8 s.e).1 (C8 s.e).2 w).2,h2]⟩),J3 rfl,A9 rfl,C7,J3 rfl,trivial⟩ (N5_13 _  (bt G hb13))
 have N0:∀(u:World) (G:Below w.heap.size w u),wpAnyH Tryz.prog .any op7.1 Q S 15 (lm 20 31) (C6 a Z5 [pt n4 0,pt n4 0,pt n4 0,pt n4 2,i6 s.e.ph,i 73,i 74,i 75,i 76,i 77,i 78,i 79,i 80,i 81,i 82,i 83,i 84,i 85,i 86,i 87]) u:=by
  intro u G;refine D7 [5] (D0 rG Cd0 ?_ AllReadyH.nil);intro o hp hd;refine M0 hp (rG.ev1 (i6 s.e.ph)) (HL _) ?_;rintro x u5 ⟨rfl,rfl⟩;refine⟨_,rfl,?_⟩;exact G8 rG [(6,74,.bool true),(7,75,pt n5 2),(8,76,.agg #[i6 e0,i6 e1]),(9,77,pt n4 0),(10,78,pt n4 0),(11,79,pt n4 0),(12,80,.agg (A8 s.e).toArray)] hd ⟨B4.up (G),B5.up (G)⟩ ⟨A9 rfl,A7 rfl e5,S0 (cs:=[i6 e0,i6 e1]) rfl (fun w hw=>Bz0 hw.2) At5,A9 rfl e0_,Af9 rfl,A7 rfl,S0 (cs:=A8 s.e) rfl (fun w hw=>hw.1.blk.atE) end_len,trivial⟩ (N5 _  G)
 exact M5 20 rG [(0,68,pt n4 0),(1,69,pt n4 0),(2,70,pt n4 0),(3,71,pt n4 2),(4,72,i6 s.e.ph)] h0 ⟨B4.up (bd _),B5.up (bd _)⟩ ⟨A9 rfl e0_,Af9 rfl,A7 rfl,A7 rfl,D8 rfl (fun w hw=>hw.1.blk.siteIn.ph),trivial⟩ (N0 _  (bd w))
theorem Es8{s:Sv}{k d e0 e1 g q:Int}{vb vt:Value}{n4 n5:Nat}{a:Act}{w:World}{Q:Exit→Act→World→Prop}(hsz:113≤a.tmps.size)
 (e0_:a.tmps.getD 0 undef=.pointer (some ⟨n4,0,none⟩)) (e5:a.tmps.getD 5 undef=.pointer (some ⟨n5,0,none⟩)) (e9:a.tmps.getD 9 undef=.bool false)
 (hP:∀c a d v w,Q (.panic c) (Act.put a d v) w→Q (.panic c) a w) (B4:A6 51 w n4 (A5 s)) (B5:A6 65 w n5 (J1 k d e0 e1 g q vb vt)) (HL:∀W,Calls Tryz.prog 59 #[.int .i64 s.e.ph] W fun x w'=>x=.returned (.bool true)∧W=w') (h2:((e0==(C8 s.e).1)&&(e1==(C8 s.e).2))=true)
 (hQ:∀a' w',a'.defers=a.defers→Below w.heap.size w w'→Q (.panic [{v:=.iface 54 (.int .i64 13),recovered:=false}]) a' w'):
 (Code.region 7 op7.1 true).wp Tryz.prog Q a w:=by
 have end_len:(Tryz.prog.info? 46).map (·.size)=some (A8 s.e).length:=by rw[I1];exact Q1
 have rG:Rgn op7.1 Z5 a Q:=⟨fun k hk=>Nat.lt_of_lt_of_le ((by decide:∀k∈Z5,k<113) k hk) hsz,by kernel_rfl,hP⟩;have hb:=rG.b;obtain⟨i,h0⟩:=U8 a Z5;let S:World→Prop:=fun w'=>A6 51 w' n4 (A5 s)∧A6 65 w' n5 (J1 k d e0 e1 g q vb vt);refine wp_region_held_drew (S:=S) (by kernel_rfl) (⟨B4.up (bd _),B5.up (bd _)⟩) fun hHeld=>?_;have N5_13:∀(u:World) (G:Below w.heap.size w u),wpAnyH Tryz.prog .any op7.1 Q S 1 (lm 20 524287) (C6 a Z5 [pt n4 0,pt n4 0,pt n4 0,pt n4 2,i6 s.e.ph,.bool true,.bool true,pt n5 2,.agg #[i6 e0,i6 e1],pt n4 0,pt n4 0,pt n4 0,.agg (A8 s.e).toArray,.agg #[i6 (C8 s.e).1,i6 (C8 s.e).2],.bool true,.bool true,.bool true,.bool false,.bool false,i 87]) u:=by
  intro u G;refine D7 [19] (D0 rG Bt8 ?_ AllReadyH.nil);intro o hp hd;refine Bl3 hp (rG.ev2 (.bool false) (i6 13)) (Ah3 13 _) ?_;rintro e u19 ⟨rfl,rfl⟩;exact .inr ⟨_,rfl,hQ _ _ (An2 _ _ _) G⟩
 have N5:∀(u:World) (G:Below w.heap.size w u),wpAnyH Tryz.prog .any op7.1 Q S 7 (lm 20 8191) (C6 a Z5 [pt n4 0,pt n4 0,pt n4 0,pt n4 2,i6 s.e.ph,.bool true,.bool true,pt n5 2,.agg #[i6 e0,i6 e1],pt n4 0,pt n4 0,pt n4 0,.agg (A8 s.e).toArray,i 81,i 82,i 83,i 84,i 85,i 86,i 87]) u:=by
  intro u G;refine D7 [13] (D0 rG Ch3 ?_ AllReadyH.nil);intro o hp hd;refine M0 hp (rG.ev1 (.agg (A8 s.e).toArray)) (Ah8 s.e _) ?_;rintro x u13 ⟨rfl,hb13⟩;refine⟨_,rfl,?_⟩;exact G8 rG [(14,82,.bool true),(15,83,.bool true),(16,84,.bool true),(17,85,.bool false),(18,86,.bool false)] hd ⟨B4.up (bt G hb13),B5.up (bt G hb13)⟩ ⟨Ba5 rfl (fun w=>⟨(Aq5 (.tmp 76) (.tmp 81) e0 e1 (C8 s.e).1 (C8 s.e).2 w).1,by rw[(Aq5 (.tmp 0) (.tmp 0) e0 e1 (C8 s.e).1 (C8 s.e).2 w).2,h2]⟩),J3 rfl,A9 rfl,A9 rfl e9,J3 rfl,trivial⟩ (N5_13 _  (bt G hb13))
 have N0:∀(u:World) (G:Below w.heap.size w u),wpAnyH Tryz.prog .any op7.1 Q S 15 (lm 20 31) (C6 a Z5 [pt n4 0,pt n4 0,pt n4 0,pt n4 2,i6 s.e.ph,i 73,i 74,i 75,i 76,i 77,i 78,i 79,i 80,i 81,i 82,i 83,i 84,i 85,i 86,i 87]) u:=by
  intro u G;refine D7 [5] (D0 rG Cd0 ?_ AllReadyH.nil);intro o hp hd;refine M0 hp (rG.ev1 (i6 s.e.ph)) (HL _) ?_;rintro x u5 ⟨rfl,rfl⟩;refine⟨_,rfl,?_⟩;exact G8 rG [(6,74,.bool true),(7,75,pt n5 2),(8,76,.agg #[i6 e0,i6 e1]),(9,77,pt n4 0),(10,78,pt n4 0),(11,79,pt n4 0),(12,80,.agg (A8 s.e).toArray)] hd ⟨B4.up (G),B5.up (G)⟩ ⟨A9 rfl,A7 rfl e5,S0 (cs:=[i6 e0,i6 e1]) rfl (fun w hw=>Bz0 hw.2) At5,A9 rfl e0_,Af9 rfl,A7 rfl,S0 (cs:=A8 s.e) rfl (fun w hw=>hw.1.blk.atE) end_len,trivial⟩ (N5 _  G)
 exact M5 20 rG [(0,68,pt n4 0),(1,69,pt n4 0),(2,70,pt n4 0),(3,71,pt n4 2),(4,72,i6 s.e.ph)] h0 ⟨B4.up (bd _),B5.up (bd _)⟩ ⟨A9 rfl e0_,Af9 rfl,A7 rfl,A7 rfl,D8 rfl (fun w hw=>hw.1.blk.siteIn.ph),trivial⟩ (N0 _  (bd w))
theorem Es9{s:Sv}{k d e0 e1 g q:Int}{vb vt:Value}{n4 n5:Nat}{a:Act}{w:World}{Q:Exit→Act→World→Prop}(hsz:113≤a.tmps.size)
 (e0_:a.tmps.getD 0 undef=.pointer (some ⟨n4,0,none⟩)) (e5:a.tmps.getD 5 undef=.pointer (some ⟨n5,0,none⟩)) (e9:a.tmps.getD 9 undef=.bool true)
 (hP:∀c a d v w,Q (.panic c) (Act.put a d v) w→Q (.panic c) a w) (B4:A6 51 w n4 (A5 s)) (B5:A6 65 w n5 (J1 k d e0 e1 g q vb vt)) (HL:∀W,Calls Tryz.prog 59 #[.int .i64 s.e.ph] W fun x w'=>x=.returned (.bool true)∧W=w') (h2:((e0==(C8 s.e).1)&&(e1==(C8 s.e).2))=true)
 (hQ:∀{x68 x69 x70 x71 x72 x73 x74 x75 x76 x77 x78 x79 x80 x81 x82 x83 x84 x85 x86 x87} w',Below w.heap.size w w'→Q .normal (C6 a Z5 [x68,x69,x70,x71,x72,x73,x74,x75,x76,x77,x78,x79,x80,x81,x82,x83,x84,x85,x86,x87]) w'):
 (Code.region 7 op7.1 true).wp Tryz.prog Q a w:=by
 have end_len:(Tryz.prog.info? 46).map (·.size)=some (A8 s.e).length:=by rw[I1];exact Q1
 have rG:Rgn op7.1 Z5 a Q:=⟨fun k hk=>Nat.lt_of_lt_of_le ((by decide:∀k∈Z5,k<113) k hk) hsz,by kernel_rfl,hP⟩;have hb:=rG.b;obtain⟨i,h0⟩:=U8 a Z5;let S:World→Prop:=fun w'=>A6 51 w' n4 (A5 s)∧A6 65 w' n5 (J1 k d e0 e1 g q vb vt);refine wp_region_held_drew (S:=S) (by kernel_rfl) (⟨B4.up (bd _),B5.up (bd _)⟩) fun hHeld=>?_;have N5_13_19:∀(u:World) (G:Below w.heap.size w u),wpAnyH Tryz.prog .any op7.1 Q S 0 (lm 20 1048575) (C6 a Z5 [pt n4 0,pt n4 0,pt n4 0,pt n4 2,i6 s.e.ph,.bool true,.bool true,pt n5 2,.agg #[i6 e0,i6 e1],pt n4 0,pt n4 0,pt n4 0,.agg (A8 s.e).toArray,.agg #[i6 (C8 s.e).1,i6 (C8 s.e).2],.bool true,.bool true,.bool true,.bool true,.bool true,.tuple #[]]) u:=by
  intro u G;refine T4 ?_;exact hQ _ G
 have N5_13:∀(u:World) (G:Below w.heap.size w u),wpAnyH Tryz.prog .any op7.1 Q S 1 (lm 20 524287) (C6 a Z5 [pt n4 0,pt n4 0,pt n4 0,pt n4 2,i6 s.e.ph,.bool true,.bool true,pt n5 2,.agg #[i6 e0,i6 e1],pt n4 0,pt n4 0,pt n4 0,.agg (A8 s.e).toArray,.agg #[i6 (C8 s.e).1,i6 (C8 s.e).2],.bool true,.bool true,.bool true,.bool true,.bool true,i 87]) u:=by
  intro u G;refine D7 [19] (D0 rG Bt8 ?_ AllReadyH.nil);intro o hp hd;refine M0 hp (rG.ev2 (.bool true) (i6 13)) (Ay1 13 _) ?_;rintro e u19 ⟨rfl,rfl⟩;refine⟨_,rfl,?_⟩;exact G8 rG [] hd ⟨B4.up (G),B5.up (G)⟩ trivial (N5_13_19 _  G)
 have N5:∀(u:World) (G:Below w.heap.size w u),wpAnyH Tryz.prog .any op7.1 Q S 7 (lm 20 8191) (C6 a Z5 [pt n4 0,pt n4 0,pt n4 0,pt n4 2,i6 s.e.ph,.bool true,.bool true,pt n5 2,.agg #[i6 e0,i6 e1],pt n4 0,pt n4 0,pt n4 0,.agg (A8 s.e).toArray,i 81,i 82,i 83,i 84,i 85,i 86,i 87]) u:=by
  intro u G;refine D7 [13] (D0 rG Ch3 ?_ AllReadyH.nil);intro o hp hd;refine M0 hp (rG.ev1 (.agg (A8 s.e).toArray)) (Ah8 s.e _) ?_;rintro x u13 ⟨rfl,hb13⟩;refine⟨_,rfl,?_⟩;exact G8 rG [(14,82,.bool true),(15,83,.bool true),(16,84,.bool true),(17,85,.bool true),(18,86,.bool true)] hd ⟨B4.up (bt G hb13),B5.up (bt G hb13)⟩ ⟨Ba5 rfl (fun w=>⟨(Aq5 (.tmp 76) (.tmp 81) e0 e1 (C8 s.e).1 (C8 s.e).2 w).1,by rw[(Aq5 (.tmp 0) (.tmp 0) e0 e1 (C8 s.e).1 (C8 s.e).2 w).2,h2]⟩),J3 rfl,A9 rfl,A9 rfl e9,J3 rfl,trivial⟩ (N5_13 _  (bt G hb13))
 have N0:∀(u:World) (G:Below w.heap.size w u),wpAnyH Tryz.prog .any op7.1 Q S 15 (lm 20 31) (C6 a Z5 [pt n4 0,pt n4 0,pt n4 0,pt n4 2,i6 s.e.ph,i 73,i 74,i 75,i 76,i 77,i 78,i 79,i 80,i 81,i 82,i 83,i 84,i 85,i 86,i 87]) u:=by
  intro u G;refine D7 [5] (D0 rG Cd0 ?_ AllReadyH.nil);intro o hp hd;refine M0 hp (rG.ev1 (i6 s.e.ph)) (HL _) ?_;rintro x u5 ⟨rfl,rfl⟩;refine⟨_,rfl,?_⟩;exact G8 rG [(6,74,.bool true),(7,75,pt n5 2),(8,76,.agg #[i6 e0,i6 e1]),(9,77,pt n4 0),(10,78,pt n4 0),(11,79,pt n4 0),(12,80,.agg (A8 s.e).toArray)] hd ⟨B4.up (G),B5.up (G)⟩ ⟨A9 rfl,A7 rfl e5,S0 (cs:=[i6 e0,i6 e1]) rfl (fun w hw=>Bz0 hw.2) At5,A9 rfl e0_,Af9 rfl,A7 rfl,S0 (cs:=A8 s.e) rfl (fun w hw=>hw.1.blk.atE) end_len,trivial⟩ (N5 _  G)
 exact M5 20 rG [(0,68,pt n4 0),(1,69,pt n4 0),(2,70,pt n4 0),(3,71,pt n4 2),(4,72,i6 s.e.ph)] h0 ⟨B4.up (bd _),B5.up (bd _)⟩ ⟨A9 rfl e0_,Af9 rfl,A7 rfl,A7 rfl,D8 rfl (fun w hw=>hw.1.blk.siteIn.ph),trivial⟩ (N0 _  (bd w))
theorem Ef2:∀w,(Instr.alloc 49 true (.tuple #[])).run Tryz.prog w=.ok (.pointer (some ⟨w.heap.size,0,none⟩)) (w.alloc (.cells ([.bool false,.slice none 0 0,.bool false]:List Value).toArray 49)):=fun w=>by kernel_rfl
noncomputable def Bk3:{ops:Array Oper//(Tryz.f61.body.bind (M8 10))=some (.region 10 ops true)}:=⟨_,rfl⟩
abbrev Au8:List Nat:=[95,96,97,98,99,100,101,102,103,94,104,105,12,13]
theorem Da7:opx Bk3.1 8=some (.call {callee:=.value (.func 134),args:=#[.tmp 98,.tmp 99,.tmp 100,.tmp 102],argTypes:=#[49,22,22,22]},some 103,none):=by kernel_rfl
theorem Cu2:opx Bk3.1 12=some (.alloc 49,some 12,none):=by kernel_rfl
theorem Et0:opx Bk3.1 13=some (.store 49 (.tmp 12) (.tmp 104),none,none):=by kernel_rfl
theorem Cu3{s:Sv}{k d e0 e1 g q:Int}{vb vt:Value}{n4 n5:Nat}{k7 i10:Value}{cf yb:Bool}{a:Act}{w:World}{Q:Exit→Act→World→Prop}(hsz:113≤a.tmps.size)
 (e0_:a.tmps.getD 0 undef=.pointer (some ⟨n4,0,none⟩)) (e5:a.tmps.getD 5 undef=.pointer (some ⟨n5,0,none⟩)) (e7:a.tmps.getD 7 undef=k7) (e10:a.tmps.getD 10 undef=i10)
 (hP:∀c a d v w,Q (.panic c) (Act.put a d v) w→Q (.panic c) a w) (B4:A6 51 w n4 (A5 s)) (B5:A6 65 w n5 (J1 k d e0 e1 g q vb vt)) (HC:∀u,Below w.heap.size w u→Calls Tryz.prog 134 #[.agg #[.bool s.i,.slice s.ta s.es.length s.tc,.bool s.f],k7,i10,vt] u (Df5 u s.i cf s.ta s.es.length s.tc yb))
 (hQ:∀{x95 x96 x97 x98 x99 x100 x101 x102 x103 x94 x104 x105} z w',A6 49 w' z [.bool s.i,.slice s.ta s.es.length s.tc,.bool cf]→w.heap.size≤z→Below w.heap.size w w'→Q .normal (C6 a Au8 [x95,x96,x97,x98,x99,x100,x101,x102,x103,x94,x104,x105,.pointer (some ⟨z,0,none⟩),.bool yb]) w'):
 (Code.region 10 Bk3.1 true).wp Tryz.prog Q a w:=by
 have end_len:(Tryz.prog.info? 46).map (·.size)=some (A8 s.e).length:=by rw[I1];exact Q1
 have rG:Rgn Bk3.1 Au8 a Q:=⟨fun k hk=>Nat.lt_of_lt_of_le ((by decide:∀k∈Au8,k<113) k hk) hsz,by kernel_rfl,hP⟩;have hb:=rG.b;obtain⟨i,h0⟩:=U8 a Au8;let S:World→Prop:=fun w'=>A6 51 w' n4 (A5 s)∧A6 65 w' n5 (J1 k d e0 e1 g q vb vt);refine wp_region_held_drew (S:=S) (by kernel_rfl) (⟨B4.up (bd _),B5.up (bd _)⟩) fun hHeld=>?_;have N8_12_13:∀(u:World) (z:Nat) (G:Below w.heap.size w u) (B12:A6 49 u z [.bool s.i,.slice s.ta s.es.length s.tc,.bool cf]) (Lz:w.heap.size≤z),wpAnyH Tryz.prog .any Bk3.1 Q S 0 (lm 15 32767) (C6 a Au8 [pt n4 0,pt n4 0,pt n4 70,.agg #[.bool s.i,.slice s.ta s.es.length s.tc,.bool s.f],k7,i10,pt n5 7,vt,.tuple #[.agg #[.bool s.i,.slice s.ta s.es.length s.tc,.bool cf],.bool yb],.tuple #[.agg #[.bool s.i,.slice s.ta s.es.length s.tc,.bool cf],.bool yb],.agg #[.bool s.i,.slice s.ta s.es.length s.tc,.bool cf],.bool yb,pt z 0,.bool yb]) u:=by
  intro u z G B12 Lz;refine T4 ?_;exact hQ _ _ B12 Lz G
 have N8_12:∀(u:World) (z:Nat) (G:Below w.heap.size w u) (Z:A6 49 u z [.bool false,.slice none 0 0,.bool false]) (Lz:w.heap.size≤z),wpAnyH Tryz.prog .any Bk3.1 Q S 2 (lm 15 8191) (C6 a Au8 [pt n4 0,pt n4 0,pt n4 70,.agg #[.bool s.i,.slice s.ta s.es.length s.tc,.bool s.f],k7,i10,pt n5 7,vt,.tuple #[.agg #[.bool s.i,.slice s.ta s.es.length s.tc,.bool cf],.bool yb],.tuple #[.agg #[.bool s.i,.slice s.ta s.es.length s.tc,.bool cf],.bool yb],.agg #[.bool s.i,.slice s.ta s.es.length s.tc,.bool cf],.bool yb,pt z 0,i 13]) u:=by
  intro u z G Z Lz;refine D7 [13] (D0 rG Et0 ?_ AllReadyH.nil);intro o hp hd;refine Y3 49 (.tmp 12) (.tmp 104) hp z (cs:=[.bool s.i,.slice s.ta s.es.length s.tc,.bool cf]) rG.ev rG.ev Z Ad0 rfl rfl ?_;exact Ab3 rG [(14,13,.bool yb)] hd ⟨(B4.up G).rowOther z (Nat.ne_of_lt (Nat.lt_of_lt_of_le B4.blk.lt Lz)) _,(B5.up G).rowOther z (Nat.ne_of_lt (Nat.lt_of_lt_of_le B5.blk.lt Lz)) _⟩ ⟨Ak6 rfl,trivial⟩ (N8_12_13 _ _ (F5 G Lz _) (Z.row _) Lz)
 have N8:∀(u:World) (G:Below w.heap.size w u),wpAnyH Tryz.prog .any Bk3.1 Q S 3 (lm 15 4095) (C6 a Au8 [pt n4 0,pt n4 0,pt n4 70,.agg #[.bool s.i,.slice s.ta s.es.length s.tc,.bool s.f],k7,i10,pt n5 7,vt,.tuple #[.agg #[.bool s.i,.slice s.ta s.es.length s.tc,.bool cf],.bool yb],.tuple #[.agg #[.bool s.i,.slice s.ta s.es.length s.tc,.bool cf],.bool yb],.agg #[.bool s.i,.slice s.ta s.es.length s.tc,.bool cf],.bool yb,i 12,i 13]) u:=by
  intro u G;refine D7 [12] (D0 rG Cu2 ?_ AllReadyH.nil);intro o hp hd;refine M9 49 hp Ef2 ?_;exact G8 rG [] hd ⟨B4.up (bt G (ba _ _)),B5.up (bt G (ba _ _))⟩ trivial (N8_12 _ _ (bt G (ba _ _)) (A6.new u [.bool false,.slice none 0 0,.bool false] _) G.size)
 have N12:∀(u:World) (z:Nat) (G:Below w.heap.size w u) (Z:A6 49 u z [.bool false,.slice none 0 0,.bool false]) (Lz:w.heap.size≤z),wpAnyH Tryz.prog .any Bk3.1 Q S 6 (lm 15 4351) (C6 a Au8 [pt n4 0,pt n4 0,pt n4 70,.agg #[.bool s.i,.slice s.ta s.es.length s.tc,.bool s.f],k7,i10,pt n5 7,vt,i 103,i 94,i 104,i 105,pt z 0,i 13]) u:=by
  intro u z G Z Lz;refine D7 [8] (D0 rG Da7 ?_ AllReadyH.nil);intro o hp hd;refine M0 hp (rG.ev4 (.agg #[.bool s.i,.slice s.ta s.es.length s.tc,.bool s.f]) k7 i10 vt) (HC _ G) ?_;rintro x u8 ⟨rfl,hb8⟩;refine⟨_,rfl,?_⟩;exact G8 rG [(9,94,.tuple #[.agg #[.bool s.i,.slice s.ta s.es.length s.tc,.bool cf],.bool yb]),(10,104,.agg #[.bool s.i,.slice s.ta s.es.length s.tc,.bool cf]),(11,105,.bool yb)] hd ⟨B4.up (bt G hb8),B5.up (bt G hb8)⟩ ⟨A9 rfl,O2 rfl,O2 rfl,trivial⟩ (N8_12 _ _ (bt G hb8) (Z.up hb8) Lz)
 have N0:∀(u:World) (G:Below w.heap.size w u),wpAnyH Tryz.prog .any Bk3.1 Q S 7 (lm 15 255) (C6 a Au8 [pt n4 0,pt n4 0,pt n4 70,.agg #[.bool s.i,.slice s.ta s.es.length s.tc,.bool s.f],k7,i10,pt n5 7,vt,i 103,i 94,i 104,i 105,i 12,i 13]) u:=by
  intro u G;refine D7 [8,12] (D0 rG Da7 ?_ (D0 rG Cu2 ?_ AllReadyH.nil))
  ·intro o hp hd;refine M0 hp (rG.ev4 (.agg #[.bool s.i,.slice s.ta s.es.length s.tc,.bool s.f]) k7 i10 vt) (HC _ G) ?_;rintro x u8 ⟨rfl,hb8⟩;refine⟨_,rfl,?_⟩;exact G8 rG [(9,94,.tuple #[.agg #[.bool s.i,.slice s.ta s.es.length s.tc,.bool cf],.bool yb]),(10,104,.agg #[.bool s.i,.slice s.ta s.es.length s.tc,.bool cf]),(11,105,.bool yb)] hd ⟨B4.up (bt G hb8),B5.up (bt G hb8)⟩ ⟨A9 rfl,O2 rfl,O2 rfl,trivial⟩ (N8 _  (bt G hb8))
  intro o hp hd;refine M9 49 hp Ef2 ?_;exact G8 rG [] hd ⟨B4.up (bt G (ba _ _)),B5.up (bt G (ba _ _))⟩ trivial (N12 _ _ (bt G (ba _ _)) (A6.new u [.bool false,.slice none 0 0,.bool false] _) G.size)
 exact M5 15 rG [(0,95,pt n4 0),(1,96,pt n4 0),(2,97,pt n4 70),(3,98,.agg #[.bool s.i,.slice s.ta s.es.length s.tc,.bool s.f]),(4,99,k7),(5,100,i10),(6,101,pt n5 7),(7,102,vt)] h0 ⟨B4.up (bd _),B5.up (bd _)⟩ ⟨A9 rfl e0_,Af9 rfl,A7 rfl,S0 (cs:=[.bool s.i,.slice s.ta s.es.length s.tc,.bool s.f]) rfl (fun w hw=>hw.1.blk.atP) Ad0,A9 rfl e7,A9 rfl e10,A7 rfl e5,D8 rfl (fun w hw=>(I6 hw.2.blk).2.2.2.2.2.2.2),trivial⟩ (N0 _  (bd w))
theorem Kp.tr{b:Nat}{w0 w1 w2:World}(h:Kp b w0 w1)(k:Kp b w1 w2):Kp b w0 w2:=
 ⟨k.os.trans h.os,k.tape.trans h.tape,k.output.trans h.output,Nat.le_trans h.size k.size,fun g hg hn=>(k.blk g (Nat.lt_of_lt_of_le hg h.size) hn).trans (h.blk g hg hn)⟩
theorem Kp.own{b c:Nat}{w0 w1 w2:World}(h:Kp b w0 w1)(k:Kp c w1 w2)(hc:w0.heap.size≤c):Kp b w0 w2:=
 ⟨k.os.trans h.os,k.tape.trans h.tape,k.output.trans h.output,Nat.le_trans h.size k.size,fun g hg hn=>(k.blk g (Nat.lt_of_lt_of_le hg h.size) (Nat.ne_of_lt (Nat.lt_of_lt_of_le hg hc))).trans (h.blk g hg hn)⟩
def Ev3(s:Sv)(bl:List UInt8):Prop:=okR bl∧Z0 s.e (pdF bl).k (pdF bl).d (pdF bl).e0 (pdF bl).e1 (pdF bl).g=false∧Aq4 s (pdF bl)=true
def Cd1(n4:Nat)(w:World)(s:Sv)(bl:List UInt8)(x:Ending)(w':World):Prop:=
 Kp n4 w w'∧((∃S E,x=.panicked [{v:=.iface 54 (.int .i64 E),recovered:=false}]∧A6 51 w' n4 (A5 S)∧Ab6 s bl=(Aq3 S E,E)∧E≠0)∨
  (∃a1 c1 a2 c2,x=.returned (.agg (J1 (pdF bl).k (pdF bl).d (pdF bl).e0 (pdF bl).e1 (pdF bl).g (pdF bl).q (.slice a1 (pdF bl).b.length c1) (.slice a2 (pdF bl).t.length c2)).toArray)∧A6 51 w' n4 (A5 (Ac8 s (pdF bl)))∧Ev3 s bl∧
    ((pdF bl).b.length≤c1∧c1≤maxLen)∧((pdF bl).t.length≤c2∧c2≤maxLen)∧A4 w' a1 (pdF bl).b∧A4 w' a2 (pdF bl).t))
theorem Am6{n4:Nat}{w w':World}{s S:Sv}{bl:List UInt8}{E:Int}(hk:Kp n4 w w')(hB:A6 51 w' n4 (A5 S))(hT:Ab6 s bl=(Aq3 S E,E))(hE:E≠0):
 Cd1 n4 w s bl (.panicked [{v:=.iface 54 (.int .i64 E),recovered:=false}]) w':=⟨hk,.inl ⟨S,E,rfl,hB,hT,hE⟩⟩
theorem Cu4{n4:Nat}{w w':World}{s:Sv}{bl:List UInt8}{p:Pd}(hp:pdF bl=p)(hk:Kp n4 w w')(hB:A6 51 w' n4 (A5 (Ac8 s p)))(h0:okR bl)(h1:Z0 s.e p.k p.d p.e0 p.e1 p.g=false)(h2:Aq4 s p=true){a1 a2:Option Addr}{c1 c2:Nat}
 (k1:p.b.length≤c1∧c1≤maxLen) (k2:p.t.length≤c2∧c2≤maxLen) (hb1:A4 w' a1 p.b) (hb2:A4 w' a2 p.t):
 Cd1 n4 w s bl (.returned (.agg (J1 p.k p.d p.e0 p.e1 p.g p.q (.slice a1 p.b.length c1) (.slice a2 p.t.length c2)).toArray)) w':=by
 subst hp;exact⟨hk,.inr ⟨a1,c1,a2,c2,rfl,hB,⟨h0,h1,h2⟩,k1,k2,hb1,hb2⟩⟩
theorem Ch4(n4:Nat)(s:Sv)(bda:Option Addr)(bdc:Nat)(bl:List UInt8)(w:World)(B4:A6 51 w n4 (A5 s))(h:J5 (fun _=>True) w s)(hr:X8 s.e=true)(hes:s.es.length≤1000)(hc:bl.length≤bdc)(hcm:bdc≤maxLen)(hbl:A4 w bda bl)(hks:Q4 w):
 Calls Tryz.prog 61 #[.pointer (some ⟨n4,0,none⟩),.slice bda bl.length bdc] w (Cd1 n4 w s bl):=by
 obtain⟨p,hp⟩:∃p,pdF bl=p:=⟨_,rfl⟩;have HP:=Lh hp;have f:=Al7 hr;have HW:=Lh (Dj8 s bl p hp);have SZ:=Lh (show ∀S:Sv,(Tryz.prog.info? 51).map (·.size)=some (A5 S).length from fun S=>by rw[D9];exact M6);have SV:=Lh Ad2;have SP:=Lh Ad0;have HRd:=Lh (fun(W:World) (hb:Below w.heap.size w W)=>Ct8 bda bdc bl hc hcm W (hbl.mono hb));have HBs:=Lh (fun(W:World) (hb:Below w.heap.size w W)=>(Bg3 s.e.k.a s.e.k.c s.e.k.l (by have:=f.k;omega) W (h.e.k.b.mono hb) (hks.mono hb)));have HIn:=Lh (fun(hok:okR bl) (W:World) (a1 t1:Option Addr) (c1 m tc:Nat) (hb1:A4 W a1 p.b)=>(show Calls Tryz.prog 122 #[Bd4 p.k p.d p.e0 p.e1 p.g p.q (.slice a1 p.b.length c1) (.slice t1 m tc)] W (Aq7 W (inT p)) from by
  have hm:=hok.2.may;have:Ai1 p.k p.d p.e0 p.e1 p.g p.q p.b.length:=by subst hp;exact hm
  exact Bw8 p.k p.d p.e0 p.e1 p.g p.q a1 t1 c1 m tc p.b this W hb1))
 have HCk:=Lh (fun(hok:okR bl) (W:World) (hb:Below w.heap.size w W) (ka ia ta:Option Addr) (kn kc ic tc:Nat) (key:List UInt8) (hkn:kn=key.length) (hkl:key.length≤32) (hkt:Ax5 s.e p=key) (hka:A4 W ka key) (hia:A4 W ia (inT p)) (hta:A4 W ta p.t)=>
  (show Calls Tryz.prog 134 #[.agg #[.bool s.i,.slice s.ta s.es.length s.tc,.bool s.f],.slice ka kn kc,.slice ia (inT p).length ic,.slice ta p.t.length tc] W (Df5 W s.i (Br0 s.f s.es (Ax5 s.e p) (inT p) p.t) s.ta s.es.length s.tc (Aq4 s p)) from by
  subst hkn;have hx:Bx4 s.i s.es (Ax5 s.e p) (inT p) p.t=Aq4 s p:=rfl;rw[←hx,hkt];exact Eb4 s.i s.f s.ta ka ia ta s.tc kc ic tc s.es key (inT p) p.t W hes (h.p.ents.mono hb) (by omega) (by
   have hm:=hok.2.may;have:Ai1 p.k p.d p.e0 p.e1 p.g p.q p.b.length:=by subst hp;exact hm
   have h1:=this.n2;unfold inT;rw[Bb1];omega) (by subst hp;show(Aj5 bl).length≤100000;rw[Bx0 bl (by have:=hok.1.1;omega)];decide) hka hia hta (hks.mono hb)))
 have HKf:=Lh (fun(W:World) (hb:Below w.heap.size w W)=>Ct7 (h.e.mono hb) p.g);have HKl:=Lh (Ee6 h.e f.ring p.g);have HKd:=Lh (fun(hok:okR bl)=>show p.k=1∨p.k=2 from by
  have hm:=hok.2.may;subst hp;have h1:=hm.k1;have h2:=hm.k2;show I3 bl 0 1=1∨I3 bl 0 1=2;omega)
 unfold Aq7 at HIn;unfold Ap2 at HBs;unfold Dj3 at HRd;rw[hp] at HRd;have N4lt:=Lh B4.blk.lt;have B4:=Lh B4;clear h hr hes hc hcm hbl f hks;go_enter Tryz.func61,Tryz.ntmps61
 go_upto_region 1 with(fail)
 generalize hW:World.alloc w _=W;have B3:=Lh (show A6 65 W w.heap.size I2 by rw[←hW];exact A6.new w I2 _);have G:=Lh (show Below w.heap.size w W by rw[←hW];exact ba w _);replace B4:=Lh (show A6 51 W n4 (A5 s) by rw[←hW];exact B4.out.up (ba w _));clear hW;have N3_4:=Lh (show w.heap.size≠n4 from Nat.ne_of_gt N4lt.out);generalize hn3:w.heap.size=n3 at B3 N3_4 ⊢;have L3:=Lh (show w.heap.size≤n3 by omega);clear hn3;go_wp2_with fail
 refine(HRd.out _ G.out).mono ?_;rintro x w1 (⟨hk,a1,c1,a2,c2,rfl,l1,l2,q1,q2,hb⟩ | ⟨hk,why,hw,rfl,hb⟩)
 case inr=>
  have HX:=Lh (HW.out.form hk);replace B3:=Lh (B3.out.up hb);replace B4:=Lh (B4.out.up hb);replace G:=Lh (bt G.out hb);clear hb hk HW HRd HBs HIn HCk HKf HKl HKd;go_upto_region 2 with(refine F8 65 _ _ rfl ?_;refine I0 65 _ _ _ (cs:=I2) rfl rfl rfl rfl (A6.new _ _ _) SV.out rfl rfl ?_;intro w2 hBn hK;have B5:=Lh hBn;have N3_5:=Lh (Nat.ne_of_lt B3.out.blk.lt);have N4_5:=Lh (Nat.ne_of_lt B4.out.blk.lt);replace B3:=Lh ((B3.out.up (ba _ _)).kp hK N3_5.out);replace B4:=Lh ((B4.out.up (ba _ _)).kp hK N4_5.out);have L5:=Lh G.out.size;replace G:=Lh (hK.below (bt G.out (ba _ _)) G.out.size);clear hBn hK)
  go_wp2_with fail
  refine(Ah3 2 _).mono ?_;rintro x w3 ⟨rfl,rfl⟩
  (try go_wp2_with fail)
  exact⟨rfl,Am6 (Kp.of G.out) B4.out HX.out (by decide)⟩
 have OK:=Lh hk;have C1:=Lh l1;have C2:=Lh l2;have QB:=Lh q1;have QT:=Lh q2;replace B3:=Lh (B3.out.up hb);replace B4:=Lh (B4.out.up hb);replace G:=Lh (bt G.out hb);clear hb hk l1 l2 q1 q2 HRd;go_upto_region 2 with(refine F8 65 _ _ rfl ?_;refine I0 65 _ _ _ (cs:=J1 p.k p.d p.e0 p.e1 p.g p.q (.slice a1 p.b.length c1) (.slice a2 p.t.length c2)) rfl rfl rfl rfl (A6.new _ _ _) SV.out rfl rfl ?_;intro w2 hBn hK;have B5:=Lh hBn;have N3_5:=Lh (Nat.ne_of_lt B3.out.blk.lt);have N4_5:=Lh (Nat.ne_of_lt B4.out.blk.lt);replace B3:=Lh ((B3.out.up (ba _ _)).kp hK N3_5.out);replace B4:=Lh ((B4.out.up (ba _ _)).kp hK N4_5.out);replace QB:=Lh (A4.up8 QB.out (hK.below (ba _ _) (Nat.le_refl _)));replace QT:=Lh (A4.up8 QT.out (hK.below (ba _ _) (Nat.le_refl _)));have L5:=Lh G.out.size;replace G:=Lh (hK.below (bt G.out (ba _ _)) G.out.size);clear hBn hK)
 generalize w1.heap.size=n5 at B5 N3_5 N4_5 ⊢;clear L5;go_wp2_with fail
 refine(Ay1 2 _).mono ?_;rintro x w3 ⟨rfl,rfl⟩;go_upto_region 3 with(fail)
 rcases hs1:((p.d:Int)==wrap64 (1-s.e.id)) with _ | _
 case false=>
  have hst:Z0 s.e p.k p.d p.e0 p.e1 p.g=true:=by unfold Z0;rw[bne,hs1];rfl
  have HX:=Lh (HW.out.stray OK.out hst);refine Es2 (s:=s) (k:=p.k) (d:=p.d) (e0:=p.e0) (e1:=p.e1) (g:=p.g) (q:=p.q) (Nat.le_refl _) rfl rfl (fun _ _ d _ _ h=>by cases d<;>exact h) B4.out B5.out hs1 ?_;intro a' w' hd hb;exact⟨hd,Am6 (Kp.of (bt G.out hb)) (B4.out.up hb) HX.out (by decide)⟩
 rcases hs2:(s.e.ph != 7) with _ | _
 case false=>
  have h7:(s.e.ph==7)=true:=by simpa [bne] using hs2
  have hst:Z0 s.e p.k p.d p.e0 p.e1 p.g=true:=by unfold Z0;rw[bne,hs1,h7];rfl
  have HX:=Lh (HW.out.stray OK.out hst);refine Es3 (s:=s) (k:=p.k) (d:=p.d) (e0:=p.e0) (e1:=p.e1) (g:=p.g) (q:=p.q) (Nat.le_refl _) rfl rfl (fun _ _ d _ _ h=>by cases d<;>exact h) B4.out B5.out hs1 hs2 ?_;intro a' w' hd hb;exact⟨hd,Am6 (Kp.of (bt G.out hb)) (B4.out.up hb) HX.out (by decide)⟩
 rcases hs3:(s.e.ph != 8) with _ | _
 case false=>
  have h7:(s.e.ph==7)=false:=by simpa [bne] using hs2
  have h8:(s.e.ph==8)=true:=by simpa [bne] using hs3
  have hst:Z0 s.e p.k p.d p.e0 p.e1 p.g=true:=by unfold Z0;rw[bne,hs1,h7,h8];rfl
  have HX:=Lh (HW.out.stray OK.out hst);refine Es4 (s:=s) (k:=p.k) (d:=p.d) (e0:=p.e0) (e1:=p.e1) (g:=p.g) (q:=p.q) (Nat.le_refl _) rfl rfl (fun _ _ d _ _ h=>by cases d<;>exact h) B4.out B5.out hs1 hs2 hs3 ?_;intro a' w' hd hb;exact⟨hd,Am6 (Kp.of (bt G.out hb)) (B4.out.up hb) HX.out (by decide)⟩
 have HS:=Lh (show Z0 s.e p.k p.d p.e0 p.e1 p.g=(bif (p.k:Int)==1 then false else(!U7 s.e.ph) || ((!(P9 s.e.r p.g).2) || (((p.e0:Int) != (C8 s.e).1) || ((p.e1:Int) != (C8 s.e).2)))) from by
  have h7:(s.e.ph==7)=false:=by simpa [bne] using hs2
  have h8:(s.e.ph==8)=false:=by simpa [bne] using hs3
  unfold Z0;rw[bne,hs1,h7,h8];rfl)
 refine Es5 (s:=s) (k:=p.k) (d:=p.d) (e0:=p.e0) (e1:=p.e1) (g:=p.g) (q:=p.q) (Nat.le_refl _) rfl rfl (fun _ _ d _ _ h=>by cases d<;>exact h) B4.out B5.out hs1 hs2 hs3 ?_;intro x22 x23 x24 x25 x26 x27 x28 x29 x30 x31 x32 x33 x34 x35 x36 x37 x38 x39 x40 x41 x42 x43 x44 x45 x46 x47 w4 hb;clear hs1 hs2 hs3;replace B3:=Lh (B3.out.up hb);replace B4:=Lh (B4.out.up hb);replace B5:=Lh (B5.out.up hb);replace QB:=Lh (A4.up8 QB.out hb);replace QT:=Lh (A4.up8 QT.out hb);replace G:=Lh (bt G.out hb);clear hb;simp only[C6,Act.put,List.setIfInBounds_toArray,List.set_cons_zero,List.set_cons_succ];have gk:=B4.out.blk.siteIn.k;go_wp2_with fail
 refine(HBs.out _ G.out).mono ?_;rintro x w5 ⟨kb,kbc,rfl,hkc,hkb,hb⟩;have QK:=Lh hkb;replace B3:=Lh (B3.out.up hb);replace B4:=Lh (B4.out.up hb);replace B5:=Lh (B5.out.up hb);replace QB:=Lh (A4.up8 QB.out hb);replace QT:=Lh (A4.up8 QT.out hb);replace G:=Lh (bt G.out hb);clear hb hkc hkb gk HBs;obtain⟨v0,v1,v2,v3,v4,v5,v6,v7⟩:=I6 B5.out.blk;clear v1 v2 v3 v4 v5 v6 v7;rcases HKd.out OK.out with hk | hk
 ·have hk1:((p.k:Int)==1)=true:=by rw[hk];rfl
  have hk2:((p.k:Int)==2)=false:=by rw[hk];rfl
  clear hk;have KT:=Lh (show Ax5 s.e p=Ae5 s.e.k.l by unfold Ax5;rw[hk2];rfl);have ST:=Lh (show Z0 s.e p.k p.d p.e0 p.e1 p.g=false by rw[HS.out,hk1];rfl);clear HS HKf HKl hk1;go_wp2_with (refine F7 65 (.tmp 5) rfl ?_;refine C4 65 (.tmp 5) n5 rfl rfl rfl B5.out.blk Tryz.underlying65 rfl SV.out ?_)
  refine(HIn.out OK.out _ _ _ _ _ _ QB.out).mono ?_;rintro x w8 ⟨ia,ic,rfl,hO,hb⟩;have QI:=Lh (show A4 w8 ia (inT p) from(Ar6 hO.own).at);replace QK:=Lh (A4.up8 QK.out hb);replace B3:=Lh (B3.out.up hb);replace B4:=Lh (B4.out.up hb);replace B5:=Lh (B5.out.up hb);replace QB:=Lh (A4.up8 QB.out hb);replace QT:=Lh (A4.up8 QT.out hb);replace G:=Lh (bt G.out hb);clear hb hO HIn hk2 v0;go_upto_region 10 with(fail)
  refine Cu3 (s:=s) (k:=p.k) (d:=p.d) (e0:=p.e0) (e1:=p.e1) (g:=p.g) (q:=p.q) (cf:=Br0 s.f s.es (Ax5 s.e p) (inT p) p.t) (yb:=Aq4 s p) (Nat.le_refl _) rfl rfl rfl rfl (fun _ _ d _ _ h=>by cases d<;>exact h) B4.out B5.out (fun u hu=>HCk.out OK.out u (bt G.out hu) _ _ _ _ _ _ _ (Ae5 s.e.k.l) (Ao7 _).symm (by rw[Ao7];decide) KT.out (A4.up8 QK.out hu) (A4.up8 QI.out hu) (A4.up8 QT.out hu)) ?_;intro x95 x96 x97 x98 x99 x100 x101 x102 x103 x94 x104 x105 n12 w10 hB12 hL12 hb;have B12:=Lh hB12;clear hB12 hL12 HCk QI KT QK;replace B3:=Lh (B3.out.up hb);replace B4:=Lh (B4.out.up hb);replace B5:=Lh (B5.out.up hb);replace QB:=Lh (A4.up8 QB.out hb);replace QT:=Lh (A4.up8 QT.out hb);replace G:=Lh (bt G.out hb);clear hb;simp only[C6,Act.put,List.setIfInBounds_toArray,List.set_cons_zero,List.set_cons_succ];have L4:=Lh (show w.heap.size≤w.heap.size from Nat.le_refl _);go_upto_region 12 with(first
  | (refine F7 49 (.tmp 12) rfl ?_;refine C4 49 (.tmp 12) n12 rfl rfl rfl B12.out.blk Tryz.underlying49 rfl SP.out ?_)
  | (refine F8 49 (.tmp 109) (.tmp 107) rfl ?_;have hq:=B4.out;refine Ab1 49 (.tmp 109) (.tmp 107) n4 70 (cs:=[.bool s.i,.slice s.ta s.es.length s.tc,.bool (Br0 s.f s.es (Ax5 s.e p) (inT p) p.t)]) rfl rfl rfl rfl B4.out (by rw[D9];exact(by decide:70+3≤73)) SP.out rfl (Bv9 s s.i _ s.ta s.tc s.es) ?_;intro w11 hB hK;replace B3:=Lh (B3.out.kp hK N3_4.out);replace B5:=Lh (B5.out.kp hK N4_5.out.symm);replace QB:=Lh (A4.kp8 QB.out hq.blk (Q3 _) hK);replace QT:=Lh (A4.kp8 QT.out hq.blk (Q3 _) hK);replace B4:=Lh hB;have K4:=Lh ((Kp.of G.out).tr hK);clear hB hK hq))
  replace B4:=Lh (show A6 51 _ n4 (A5 (Ac8 s p)) from B4.out);clear B12 L4 G;go_wp2_with fail
  rcases hy:Aq4 s p with _ | _
  ·have HX:=Lh (HW.out.tag OK.out ST.out hy);refine(Ah3 5 _).mono ?_;rintro x w13 ⟨rfl,rfl⟩
   (try go_wp2_with fail)
   exact⟨rfl,Am6 K4.out B4.out HX.out (by decide)⟩
  have HY:=Lh hy;clear hy;refine(Ay1 5 _).mono ?_;rintro x w13 ⟨rfl,rfl⟩;go_wp2_with (first
  | (refine F7 65 (.tmp 5) rfl ?_;refine C4 65 (.tmp 5) n5 rfl rfl rfl B5.out.blk Tryz.underlying65 rfl SV.out ?_)
  | (refine F8 65 (.tmp 4) _ rfl ?_;have hq:=B3.out;refine I0 65 (.tmp 4) _ n3 (cs:=J1 p.k p.d p.e0 p.e1 p.g p.q (.slice a1 p.b.length c1) (.slice a2 p.t.length c2)) rfl rfl rfl rfl B3.out SV.out rfl rfl ?_;intro w14 hB hK;replace B4:=Lh (B4.out.kp hK N3_4.out.symm);replace B5:=Lh (B5.out.kp hK N3_5.out.symm);replace QB:=Lh (A4.kp8 QB.out hq.blk (by rfl) hK);replace QT:=Lh (A4.kp8 QT.out hq.blk (by rfl) hK);replace B3:=Lh hB;replace K4:=Lh (K4.out.own hK L3.out);clear hB hK hq))
  (try simp only[Act.put,List.setIfInBounds_toArray,List.set_cons_zero,List.set_cons_succ])
  refine bodyPost_ret (O3 rfl _ _ n3 (cs:=J1 p.k p.d p.e0 p.e1 p.g p.q (.slice a1 p.b.length c1) (.slice a2 p.t.length c2)) rfl B3.out.blk Tryz.underlying65 rfl SV.out) rfl ?_;exact Cu4 HP.out K4.out B4.out OK.out ST.out HY.out C1.out C2.out QB.out QT.out
 ·have hk1:((p.k:Int)==1)=false:=by rw[hk];rfl
  have hk2:((p.k:Int)==2)=true:=by rw[hk];rfl
  clear hk;have KT:=Lh (show Ax5 s.e p=Bo3 s.e p.g by unfold Ax5;rw[hk2];rfl);clear QK;go_upto_region 6 with(fail)
  clear hk2 v0;refine Ez7 (s:=s) (k:=p.k) (d:=p.d) (e0:=p.e0) (e1:=p.e1) (g:=p.g) (q:=p.q) (Nat.le_refl _) rfl rfl (fun _ _ d _ _ h=>by cases d<;>exact h) B4.out B5.out ?_;intro x58 x59 x60 x61 x62 x63 x64 x65 x57 x66 x67 w6 hb;replace B3:=Lh (B3.out.up hb);replace B4:=Lh (B4.out.up hb);replace B5:=Lh (B5.out.up hb);replace QB:=Lh (A4.up8 QB.out hb);replace QT:=Lh (A4.up8 QT.out hb);replace G:=Lh (bt G.out hb);clear hb;simp only[C6,Act.put,List.setIfInBounds_toArray,List.set_cons_zero,List.set_cons_succ];go_upto_region 7 with(fail)
  rcases hl:U7 s.e.ph with _ | _
  case false=>
   have hst:Z0 s.e p.k p.d p.e0 p.e1 p.g=true:=by rw[HS.out,hk1,hl];rfl
   have HX:=Lh (HW.out.stray OK.out hst);refine Es6 (s:=s) (k:=p.k) (d:=p.d) (e0:=p.e0) (e1:=p.e1) (g:=p.g) (q:=p.q) (Nat.le_refl _) rfl rfl (fun _ _ d _ _ h=>by cases d<;>exact h) B4.out B5.out (fun W=>by have:=Ak5 s.e.ph W;rw[hl] at this;exact this) ?_;intro a' w' hd hb;exact⟨hd,Am6 (Kp.of (bt G.out hb)) (B4.out.up hb) HX.out (by decide)⟩
  rcases hpr:(((p.e0:Int)==(C8 s.e).1)&&((p.e1:Int)==(C8 s.e).2)) with _ | _
  case false=>
   have hst:Z0 s.e p.k p.d p.e0 p.e1 p.g=true:=by
    rw[HS.out,hk1,hl,bne,bne];generalize ((p.e0:Int)==(C8 s.e).1)=x at hpr ⊢;generalize ((p.e1:Int)==(C8 s.e).2)=y at hpr ⊢
    revert hpr;cases x<;>cases y<;>simp
   have HX:=Lh (HW.out.stray OK.out hst);refine Es7 (s:=s) (k:=p.k) (d:=p.d) (e0:=p.e0) (e1:=p.e1) (g:=p.g) (q:=p.q) (Nat.le_refl _) rfl rfl (fun _ _ d _ _ h=>by cases d<;>exact h) B4.out B5.out (fun W=>by have:=Ak5 s.e.ph W;rw[hl] at this;exact this) hpr ?_;intro a' w' hd hb;exact⟨hd,Am6 (Kp.of (bt G.out hb)) (B4.out.up hb) HX.out (by decide)⟩
  rcases hf:(P9 s.e.r p.g).2 with _ | _
  case false=>
   have hst:Z0 s.e p.k p.d p.e0 p.e1 p.g=true:=by rw[HS.out,hk1,hl,hf];rfl
   have HX:=Lh (HW.out.stray OK.out hst);refine Es8 (s:=s) (k:=p.k) (d:=p.d) (e0:=p.e0) (e1:=p.e1) (g:=p.g) (q:=p.q) (Nat.le_refl _) rfl rfl rfl (fun _ _ d _ _ h=>by cases d<;>exact h) B4.out B5.out (fun W=>by have:=Ak5 s.e.ph W;rw[hl] at this;exact this) hpr ?_;intro a' w' hd hb;exact⟨hd,Am6 (Kp.of (bt G.out hb)) (B4.out.up hb) HX.out (by decide)⟩
  have ST:=Lh (show Z0 s.e p.k p.d p.e0 p.e1 p.g=false from by
   rw[HS.out,hk1,hl,hf,bne,bne];generalize ((p.e0:Int)==(C8 s.e).1)=x at hpr ⊢;generalize ((p.e1:Int)==(C8 s.e).2)=y at hpr ⊢
   revert hpr;cases x<;>cases y<;>simp)
  refine Es9 (s:=s) (k:=p.k) (d:=p.d) (e0:=p.e0) (e1:=p.e1) (g:=p.g) (q:=p.q) (Nat.le_refl _) rfl rfl rfl (fun _ _ d _ _ h=>by cases d<;>exact h) B4.out B5.out (fun W=>by have:=Ak5 s.e.ph W;rw[hl] at this;exact this) hpr ?_;intro x68 x69 x70 x71 x72 x73 x74 x75 x76 x77 x78 x79 x80 x81 x82 x83 x84 x85 x86 x87 w7 hb;clear hl hpr hf HS hk1;replace B3:=Lh (B3.out.up hb);replace B4:=Lh (B4.out.up hb);replace B5:=Lh (B5.out.up hb);replace QB:=Lh (A4.up8 QB.out hb);replace QT:=Lh (A4.up8 QT.out hb);replace G:=Lh (bt G.out hb);clear hb;simp only[C6,Act.put,List.setIfInBounds_toArray,List.set_cons_zero,List.set_cons_succ];go_wp2_with (refine F7 65 (.tmp 5) rfl ?_;refine C4 65 (.tmp 5) n5 rfl rfl rfl B5.out.blk Tryz.underlying65 rfl SV.out ?_)
  refine(HIn.out OK.out _ _ _ _ _ _ QB.out).mono ?_;rintro x w8 ⟨ia,ic,rfl,hO,hb⟩;have QI:=Lh (show A4 w8 ia (inT p) from(Ar6 hO.own).at);replace B3:=Lh (B3.out.up hb);replace B4:=Lh (B4.out.up hb);replace B5:=Lh (B5.out.up hb);replace QB:=Lh (A4.up8 QB.out hb);replace QT:=Lh (A4.up8 QT.out hb);replace G:=Lh (bt G.out hb);clear hb hO HIn;go_upto_region 10 with(fail)
  refine Cu3 (s:=s) (k:=p.k) (d:=p.d) (e0:=p.e0) (e1:=p.e1) (g:=p.g) (q:=p.q) (cf:=Br0 s.f s.es (Ax5 s.e p) (inT p) p.t) (yb:=Aq4 s p) (Nat.le_refl _) rfl rfl rfl rfl (fun _ _ d _ _ h=>by cases d<;>exact h) B4.out B5.out (fun u hu=>HCk.out OK.out u (bt G.out hu) _ _ _ _ _ _ _ (Bo3 s.e p.g) (HKf.out u (bt G.out hu)).2.1 HKl.out KT.out (HKf.out u (bt G.out hu)).1 (A4.up8 QI.out hu) (A4.up8 QT.out hu)) ?_;intro x95 x96 x97 x98 x99 x100 x101 x102 x103 x94 x104 x105 n12 w10 hB12 hL12 hb;have B12:=Lh hB12;clear hB12 hL12 HCk QI KT HKf HKl;replace B3:=Lh (B3.out.up hb);replace B4:=Lh (B4.out.up hb);replace B5:=Lh (B5.out.up hb);replace QB:=Lh (A4.up8 QB.out hb);replace QT:=Lh (A4.up8 QT.out hb);replace G:=Lh (bt G.out hb);clear hb;simp only[C6,Act.put,List.setIfInBounds_toArray,List.set_cons_zero,List.set_cons_succ];have L4:=Lh (show w.heap.size≤w.heap.size from Nat.le_refl _);go_upto_region 12 with(first
  | (refine F7 49 (.tmp 12) rfl ?_;refine C4 49 (.tmp 12) n12 rfl rfl rfl B12.out.blk Tryz.underlying49 rfl SP.out ?_)
  | (refine F8 49 (.tmp 109) (.tmp 107) rfl ?_;have hq:=B4.out;refine Ab1 49 (.tmp 109) (.tmp 107) n4 70 (cs:=[.bool s.i,.slice s.ta s.es.length s.tc,.bool (Br0 s.f s.es (Ax5 s.e p) (inT p) p.t)]) rfl rfl rfl rfl B4.out (by rw[D9];exact(by decide:70+3≤73)) SP.out rfl (Bv9 s s.i _ s.ta s.tc s.es) ?_;intro w11 hB hK;replace B3:=Lh (B3.out.kp hK N3_4.out);replace B5:=Lh (B5.out.kp hK N4_5.out.symm);replace QB:=Lh (A4.kp8 QB.out hq.blk (Q3 _) hK);replace QT:=Lh (A4.kp8 QT.out hq.blk (Q3 _) hK);replace B4:=Lh hB;have K4:=Lh ((Kp.of G.out).tr hK);clear hB hK hq))
  replace B4:=Lh (show A6 51 _ n4 (A5 (Ac8 s p)) from B4.out);clear B12 L4 G;go_wp2_with fail
  rcases hy:Aq4 s p with _ | _
  ·have HX:=Lh (HW.out.tag OK.out ST.out hy);refine(Ah3 5 _).mono ?_;rintro x w13 ⟨rfl,rfl⟩
   (try go_wp2_with fail)
   exact⟨rfl,Am6 K4.out B4.out HX.out (by decide)⟩
  have HY:=Lh hy;clear hy;refine(Ay1 5 _).mono ?_;rintro x w13 ⟨rfl,rfl⟩;go_wp2_with (first
  | (refine F7 65 (.tmp 5) rfl ?_;refine C4 65 (.tmp 5) n5 rfl rfl rfl B5.out.blk Tryz.underlying65 rfl SV.out ?_)
  | (refine F8 65 (.tmp 4) _ rfl ?_;have hq:=B3.out;refine I0 65 (.tmp 4) _ n3 (cs:=J1 p.k p.d p.e0 p.e1 p.g p.q (.slice a1 p.b.length c1) (.slice a2 p.t.length c2)) rfl rfl rfl rfl B3.out SV.out rfl rfl ?_;intro w14 hB hK;replace B4:=Lh (B4.out.kp hK N3_4.out.symm);replace B5:=Lh (B5.out.kp hK N3_5.out.symm);replace QB:=Lh (A4.kp8 QB.out hq.blk (by rfl) hK);replace QT:=Lh (A4.kp8 QT.out hq.blk (by rfl) hK);replace B3:=Lh hB;replace K4:=Lh (K4.out.own hK L3.out);clear hB hK hq))
  (try simp only[Act.put,List.setIfInBounds_toArray,List.set_cons_zero,List.set_cons_succ])
  refine bodyPost_ret (O3 rfl _ _ n3 (cs:=J1 p.k p.d p.e0 p.e1 p.g p.q (.slice a1 p.b.length c1) (.slice a2 p.t.length c2)) rfl B3.out.blk Tryz.underlying65 rfl SV.out) rfl ?_;exact Cu4 HP.out K4.out B4.out OK.out ST.out HY.out C1.out C2.out QB.out QT.out
theorem Ad6.cell{w:World}{a:Option Addr}{l:List (Int×List UInt8)}(h:Ad6 w a l)(h0:0<l.length):
 ∃g off,a=some ⟨g,off,none⟩∧g<w.heap.size∧∀j,j<l.length→∃p c,w.cell? ⟨g,off+j*2,none⟩=some (.int .i64 (l.getD j (0,[])).1)∧w.cell? ⟨g,off+j*2+1,none⟩=some (.slice p (l.getD j (0,[])).2.length c)∧
  (l.getD j (0,[])).2.length≤c∧c≤maxLen∧A4 w p (l.getD j (0,[])).2:=by
 obtain⟨vs,h1,h2,h3⟩:=h;rcases h2 with h | ⟨g,off,rfl,hlt,hc⟩
 ·rw[h,List.length_nil] at h1;omega
 refine⟨g,off,rfl,hlt,fun j hj=>?_⟩;obtain⟨e0,⟨p1,c1,e1,l1,m1,b1⟩⟩:=h3 j hj;exact⟨p1,c1,by rw[hc _ (by omega),e0],by rw[Nat.add_assoc,hc _ (by omega),e1],l1,m1,b1⟩
theorem Aj2.cell{w:World}{a:Option Addr}{l:List Gt}(h:Aj2 w a l)(h0:0<l.length):
 ∃g off,a=some ⟨g,off,none⟩∧g<w.heap.size∧∀j,j<l.length→∃p c,w.cell? ⟨g,off+j*5,none⟩=some (.int .i64 (l.getD j default).kind)∧w.cell? ⟨g,off+j*5+1,none⟩=some (.int .i64 (l.getD j default).e0)∧w.cell? ⟨g,off+j*5+2,none⟩=some (.int .i64 (l.getD j default).e1)∧w.cell? ⟨g,off+j*5+3,none⟩=some (.int .i64 (l.getD j default).seq)∧w.cell? ⟨g,off+j*5+4,none⟩=some (.slice p (l.getD j default).b.length c)∧
  (l.getD j default).b.length≤c∧c≤maxLen∧A4 w p (l.getD j default).b:=by
 obtain⟨vs,h1,h2,h3⟩:=h;rcases h2 with h | ⟨g,off,rfl,hlt,hc⟩
 ·rw[h,List.length_nil] at h1;omega
 refine⟨g,off,rfl,hlt,fun j hj=>?_⟩;obtain⟨e0,e1,e2,e3,⟨p1,c1,e4,l1,m1,b1⟩⟩:=h3 j hj;exact⟨p1,c1,by rw[hc _ (by omega),e0],by rw[Nat.add_assoc,hc _ (by omega),e1],by rw[Nat.add_assoc,hc _ (by omega),e2],by rw[Nat.add_assoc,hc _ (by omega),e3],by rw[Nat.add_assoc,hc _ (by omega),e4],l1,m1,b1⟩
theorem Ba6{α:Type}{z:α}{l m:List α}(hl:l.length=m.length)(h:∀j,j<l.length→l.getD j z=m.getD j z):l=m:=by
 apply List.ext_getElem hl;intro j h1 h2;have:=h j h1
 simpa [List.getD,h1,h2] using this
def Ak7(x y:Int×List UInt8):Bool:=(x.1==y.1)&&(x.2==y.2)
theorem Bw2{x y:Int×List UInt8}:Ak7 x y=true↔x=y:=by
 unfold Ak7;rw[Bool.and_eq_true,beq_iff_eq,beq_iff_eq];exact⟨fun h=>Prod.ext h.1 h.2,fun h=>by rw[h];exact⟨rfl,rfl⟩⟩
def Ai4(x y:Gt):Bool:=(x.kind==y.kind)&&((x.e0==y.e0)&&((x.e1==y.e1)&&((x.seq==y.seq)&&(x.b==y.b))))
theorem Cd2{x y:Gt}:Ai4 x y=true↔x=y:=by
 unfold Ai4;cases x;cases y
 simp only[Bool.and_eq_true,beq_iff_eq,Gt.mk.injEq]
noncomputable def Bj3:{ops:Array Oper//(Tryz.f74.body.bind (M8 6))=some (.region 6 ops true)}:=⟨_,rfl⟩
abbrev Ak8:List Nat:=[17,18,19,20,21,22,23,24,25,26,27,28,29,30,31,32,33,34,35,36,37,38,39,40,41]
theorem Ef3:opx Bj3.1 22=some (.call {callee:=.value (.func 25),args:=#[.tmp 33,.tmp 38],argTypes:=#[22,22]},some 39,some (11,false)):=by kernel_rfl
theorem Dk2{A B:Value}{k:Nat}{g1 g2 oa ob n0 m0 c0 d0:Nat}{p0 q0:Option Addr}{x0 z0:Int}{a:Act}{w:World}{Q:Exit→Act→World→Prop}(hsz:42≤a.tmps.size)
 (e0_:a.tmps.getD 0 undef=A) (e1_:a.tmps.getD 1 undef=B) (e5_:a.tmps.getD 5 undef=.int .i64 (k:Int))
 (hP:∀c a d v w,Q (.panic c) (Act.put a d v) w→Q (.panic c) a w) (hI1:∀w,(Instr.indexAt 43 A (.int .i64 (k:Int))).run Tryz.prog w=.ok (.pointer (some ⟨g1,oa,none⟩)) w) (hI2:∀w,(Instr.indexAt 43 B (.int .i64 (k:Int))).run Tryz.prog w=.ok (.pointer (some ⟨g2,ob,none⟩)) w)
 (hg1:g1<w.heap.size) (hg2:g2<w.heap.size) (cx0:w.cell? ⟨g1,oa,none⟩=some (.int .i64 x0)) (cz0:w.cell? ⟨g2,ob,none⟩=some (.int .i64 z0))
 (cxb:w.cell? ⟨g1,oa+1,none⟩=some (.slice p0 n0 c0)) (czb:w.cell? ⟨g2,ob+1,none⟩=some (.slice q0 m0 d0)) (hn0:(x0 != z0)=true)
 (hQ:∀{y17 y18 y19 y20 y21 y22 y23 y24 y25 y26 y27 y28 y29 y30 y31 y32 y33 y34 y35 y36 y37 y38 y39 y40} w',Below w.heap.size w w'→Q .normal (C6 a Ak8 [y17,y18,y19,y20,y21,y22,y23,y24,y25,y26,y27,y28,y29,y30,y31,y32,y33,y34,y35,y36,y37,y38,y39,y40,.bool true]) w'):
 (Code.region 6 Bj3.1 true).wp Tryz.prog Q a w:=by
 have rG:Rgn Bj3.1 Ak8 a Q:=⟨fun k hk=>Nat.lt_of_lt_of_le ((by decide:∀k∈Ak8,k<42) k hk) hsz,by kernel_rfl,hP⟩;have hb:=rG.b;obtain⟨i,h0⟩:=U8 a Ak8;let S:World→Prop:=fun w'=>Below w.heap.size w w';refine wp_region_held_drew (S:=S) (by kernel_rfl) (bd w) fun hHeld=>?_;have N0:∀(u:World) (G:Below w.heap.size w u),wpAnyH Tryz.prog .any Bj3.1 Q S 0 (lm 25 33554431) (C6 a Ak8 [A,i6 (k:Int),pt g1 oa,pt g1 oa,i6 x0,B,i6 (k:Int),pt g2 ob,pt g2 ob,i6 z0,.bool true,.bool true,undef,undef,undef,undef,undef,undef,undef,undef,undef,undef,undef,undef,.bool true]) u:=by
  intro u G;refine T4 ?_;exact hQ _ G
 exact M5 25 rG [(0,17,A),(1,18,i6 (k:Int)),(2,19,pt g1 oa),(3,20,pt g1 oa),(4,21,i6 x0),(5,22,B),(6,23,i6 (k:Int)),(7,24,pt g2 ob),(8,25,pt g2 ob),(9,26,i6 z0),(10,27,.bool true),(11,28,.bool true),(12,29,undef),(13,30,undef),(14,31,undef),(15,32,undef),(16,33,undef),(17,34,undef),(18,35,undef),(19,36,undef),(20,37,undef),(21,38,undef),(22,39,undef),(23,40,undef),(24,41,.bool true)] h0 (bd w) ⟨A9 rfl e0_,A9 rfl e5_,I8 rfl rfl rfl (fun w=>hI1 w),A7 rfl,D8 rfl (fun w' hw=>(hw.cell (p:=⟨g1,oa,none⟩) hg1).trans cx0),A9 rfl e1_,A9 rfl e5_,I8 rfl rfl rfl (fun w=>hI2 w),A7 rfl,D8 rfl (fun w' hw=>(hw.cell (p:=⟨g2,ob,none⟩) hg2).trans cz0),Aa1 rfl hn0,A9 rfl,C7,C7,C7,C7,C7,C7,C7,C7,C7,C7,C7,C7,J3 rfl,trivial⟩ (N0 _  (bd w))
theorem Dk3{A B:Value}{k:Nat}{g1 g2 oa ob n0 m0 c0 d0:Nat}{p0 q0:Option Addr}{x0 z0:Int}{r:Bool}{a:Act}{w:World}{Q:Exit→Act→World→Prop}(hsz:42≤a.tmps.size)
 (e0_:a.tmps.getD 0 undef=A) (e1_:a.tmps.getD 1 undef=B) (e5_:a.tmps.getD 5 undef=.int .i64 (k:Int))
 (hP:∀c a d v w,Q (.panic c) (Act.put a d v) w→Q (.panic c) a w) (hI1:∀w,(Instr.indexAt 43 A (.int .i64 (k:Int))).run Tryz.prog w=.ok (.pointer (some ⟨g1,oa,none⟩)) w) (hI2:∀w,(Instr.indexAt 43 B (.int .i64 (k:Int))).run Tryz.prog w=.ok (.pointer (some ⟨g2,ob,none⟩)) w)
 (hg1:g1<w.heap.size) (hg2:g2<w.heap.size) (cx0:w.cell? ⟨g1,oa,none⟩=some (.int .i64 x0)) (cz0:w.cell? ⟨g2,ob,none⟩=some (.int .i64 z0))
 (cxb:w.cell? ⟨g1,oa+1,none⟩=some (.slice p0 n0 c0)) (czb:w.cell? ⟨g2,ob+1,none⟩=some (.slice q0 m0 d0)) (hn0:(x0 != z0)=false) (KA:∀W,Below w.heap.size w W→Calls Tryz.prog 25 #[.slice p0 n0 c0,.slice q0 m0 d0] W fun e w'=>e=.returned (.bool r)∧W=w')
 (hQ:∀{y17 y18 y19 y20 y21 y22 y23 y24 y25 y26 y27 y28 y29 y30 y31 y32 y33 y34 y35 y36 y37 y38 y39 y40} w',Below w.heap.size w w'→Q .normal (C6 a Ak8 [y17,y18,y19,y20,y21,y22,y23,y24,y25,y26,y27,y28,y29,y30,y31,y32,y33,y34,y35,y36,y37,y38,y39,y40,.bool (!r)]) w'):
 (Code.region 6 Bj3.1 true).wp Tryz.prog Q a w:=by
 have rG:Rgn Bj3.1 Ak8 a Q:=⟨fun k hk=>Nat.lt_of_lt_of_le ((by decide:∀k∈Ak8,k<42) k hk) hsz,by kernel_rfl,hP⟩;have hb:=rG.b;obtain⟨i,h0⟩:=U8 a Ak8;let S:World→Prop:=fun w'=>Below w.heap.size w w';refine wp_region_held_drew (S:=S) (by kernel_rfl) (bd w) fun hHeld=>?_;have N22:∀(u:World) (G:Below w.heap.size w u),wpAnyH Tryz.prog .any Bj3.1 Q S 0 (lm 25 33554431) (C6 a Ak8 [A,i6 (k:Int),pt g1 oa,pt g1 oa,i6 x0,B,i6 (k:Int),pt g2 ob,pt g2 ob,i6 z0,.bool false,.bool false,A,i6 (k:Int),pt g1 oa,pt g1 (oa+1),.slice p0 n0 c0,B,i6 (k:Int),pt g2 ob,pt g2 (ob+1),.slice q0 m0 d0,.bool r,.bool (!r),.bool (!r)]) u:=by
  intro u G;refine T4 ?_;exact hQ _ G
 have N0:∀(u:World) (G:Below w.heap.size w u),wpAnyH Tryz.prog .any Bj3.1 Q S 3 (lm 25 4194303) (C6 a Ak8 [A,i6 (k:Int),pt g1 oa,pt g1 oa,i6 x0,B,i6 (k:Int),pt g2 ob,pt g2 ob,i6 z0,.bool false,.bool false,A,i6 (k:Int),pt g1 oa,pt g1 (oa+1),.slice p0 n0 c0,B,i6 (k:Int),pt g2 ob,pt g2 (ob+1),.slice q0 m0 d0,i 39,i 40,i 41]) u:=by
  intro u G;refine D7 [22] (D0 rG Ef3 ?_ AllReadyH.nil);intro o hp hd;refine M0 hp (rG.ev2 (.slice p0 n0 c0) (.slice q0 m0 d0)) (KA _ G) ?_;rintro e u22 ⟨rfl,rfl⟩;refine⟨_,rfl,?_⟩;exact G8 rG [(23,40,.bool (!r)),(24,41,.bool (!r))] hd G ⟨Ef1 rfl rfl,J3 rfl,trivial⟩ (N22 _  G)
 exact M5 25 rG [(0,17,A),(1,18,i6 (k:Int)),(2,19,pt g1 oa),(3,20,pt g1 oa),(4,21,i6 x0),(5,22,B),(6,23,i6 (k:Int)),(7,24,pt g2 ob),(8,25,pt g2 ob),(9,26,i6 z0),(10,27,.bool false),(11,28,.bool false),(12,29,A),(13,30,i6 (k:Int)),(14,31,pt g1 oa),(15,32,pt g1 (oa+1)),(16,33,.slice p0 n0 c0),(17,34,B),(18,35,i6 (k:Int)),(19,36,pt g2 ob),(20,37,pt g2 (ob+1)),(21,38,.slice q0 m0 d0)] h0 (bd w) ⟨A9 rfl e0_,A9 rfl e5_,I8 rfl rfl rfl (fun w=>hI1 w),A7 rfl,D8 rfl (fun w' hw=>(hw.cell (p:=⟨g1,oa,none⟩) hg1).trans cx0),A9 rfl e1_,A9 rfl e5_,I8 rfl rfl rfl (fun w=>hI2 w),A7 rfl,D8 rfl (fun w' hw=>(hw.cell (p:=⟨g2,ob,none⟩) hg2).trans cz0),Aa1 rfl hn0,A9 rfl,A9 rfl e0_,A9 rfl e5_,I8 rfl rfl rfl (fun w=>hI1 w),A7 rfl,D8 rfl (fun w' hw=>(hw.cell (p:=⟨g1,oa+1,none⟩) hg1).trans cxb),A9 rfl e1_,A9 rfl e5_,I8 rfl rfl rfl (fun w=>hI2 w),A7 rfl,D8 rfl (fun w' hw=>(hw.cell (p:=⟨g2,ob+1,none⟩) hg2).trans czb),trivial⟩ (N0 _  (bd w))
theorem Dk4(w:World):(sizeOf 77).run Tryz.prog w=.ok 2 w:=by kernel_rfl
theorem Cd3:Tryz.prog.elem 43=77:=by simp[Program.elem,Tryz.underlying43]
theorem As5(g off n c j:Nat)(hj:j<n)(w:World):(Instr.indexAt 43 (.slice (some ⟨g,off,none⟩) n c) (.int .i64 (j:Int))).run Tryz.prog w=.ok (.pointer (some ⟨g,off+j*2,none⟩)) w:=by
 rw[run_indexAt_slice (h:=by rw[Cd3];exact Tryz.underlying43),if_pos (by omega),Cd3,Dk4,Result.andThen_ok,Int.toNat_natCast,Addr.add_mid]
theorem Cu5(a b:Option Addr)(c d:Nat)(es es2:List (Int×List UInt8))(w:World)(h1:es.length≤100000)(h2:es2.length≤100000)(hE:Ad6 w a es)(hE2:Ad6 w b es2):
 Calls Tryz.prog 74 #[.slice a es.length c,.slice b es2.length d] w (F9 w (decide (es=es2))):=by
 have HE:=Lh hE;have HE2:=Lh hE2;have HQ:=Lh (fun h h'=>Ba6 (z:=(0,[])) (l:=es) (m:=es2) h h');obtain⟨R,hR⟩:∃R,R=decide (es=es2):=⟨_,rfl⟩;have HR:=Lh hR;rw[←hR];clear hE hE2 hR;by_cases hl:es.length=es2.length;rotate_left
 ·have hRf:R=false:=by rw[HR.out,decide_eq_false];intro h;exact hl (by rw[h])
  have hd:((es.length:Int) != (es2.length:Int))=true:=by rw[bne_iff_ne];omega
  subst hRf;clear HQ hl;go_enter Tryz.func74,Tryz.ntmps74
  go_wp2_with fail
  go_ret;exact⟨rfl,Below.refl _ _⟩
 have hdl:((es.length:Int) != (es2.length:Int))=false:=by simp[hl]
 have Hl:=Lh hl;clear hl;go_enter Tryz.func74,Tryz.ntmps74
 go_wp2_with fail
 go_loopw [5] (fun v wr=>∃k:Nat,k≤es.length∧v=.int .i64 (k:Int)∧(∀j,j<k→es.getD j (0,[])=es2.getD j (0,[]))∧Below w.heap.size w wr) (fun v _=>es.length-(intOf v).toNat)
 case atStart=>exact⟨0,Nat.zero_le _,rfl,fun j hj=>absurd hj (by omega),Below.refl _ _⟩
 case round=>
  obtain⟨k,hk,rfl,hno,hG⟩:=hrel;have Hno:=Lh hno;have G:=Lh hG;clear hno hG;by_cases hlt:k<es.length
  ·have hlt2:k<es2.length:=by have:=Hl.out;omega
   obtain⟨g1,o1,rfl,hg1,hcs1⟩:=(HE.out.mono G.out).cell (by omega);obtain⟨g2,o2,rfl,hg2,hcs2⟩:=(HE2.out.mono G.out).cell (by omega);obtain⟨p0,c0,x0,x1,l0,m0,b0⟩:=hcs1 k hlt;obtain⟨q0,d0,z0,z1,s0,t0,u0⟩:=hcs2 k hlt2;obtain⟨e1,he1⟩:∃e,e=es.getD k (0,[]):=⟨_,rfl⟩;obtain⟨e2,he2⟩:∃e,e=es2.getD k (0,[]):=⟨_,rfl⟩;rw[←he1] at x0 x1 b0;rw[←he2] at z0 z1 u0;have KA:=fun(W':World) (h:Below wr.heap.size wr W')=>(show Calls Tryz.prog 25 #[.slice p0 e1.2.length c0,.slice q0 e2.2.length d0] W' fun e w'=>e=.returned (.bool (e1.2==e2.2))∧W'=w' from Ac1 p0 q0 e1.2.length c0 e2.2.length d0 e1.2 e2.2 W' rfl rfl (b0.mono h) (u0.mono h));have HF:=Lh (show Ak7 e1 e2=true↔e1=e2 from Bw2);have HN:=Lh (show Ak7 e1 e2=false→R=false from fun hs=>by
    rw[HR.out,decide_eq_false];intro h;rw[HF.out.2 (by rw[he1,he2,h])] at hs;cases hs)
   have hi1:(k:Int)<(es.length:Int):=by omega
   have hi0:(0:Int)≤(k:Int):=by omega
   have He1:=Lh he1;have He2:=Lh he2;have HX:=Lh (show Ak7 e1 e2=((e1.1==e2.1)&&(e1.2==e2.2)) from rfl);clear hcs1 hcs2 l0 m0 b0 s0 t0 u0 he1 he2;generalize (e1.2==e2.2)=r1 at HX KA;go_upto_region 6 with(fail)
   rcases hq0:(e1.1==e2.1) with _ | _
   ·have hn0:(e1.1 != e2.1)=true:=by rw[bne,hq0];rfl
    have hne:R=false:=HN.out (by rw[HX.out,hq0];rfl);subst hne;clear hq0;refine Dk2 (Nat.le_refl _) rfl rfl rfl (fun _ _ d _ _ h=>by cases d<;>exact h) (fun w=>As5 g1 o1 es.length c k hlt w) (fun w=>As5 g2 o2 es2.length d k hlt2 w) hg1 hg2 x0 z0 x1 z1 hn0 ?_;intro y17 y18 y19 y20 y21 y22 y23 y24 y25 y26 y27 y28 y29 y30 y31 y32 y33 y34 y35 y36 y37 y38 y39 y40 w9 hb;simp only[C6,Act.put,List.setIfInBounds_toArray,List.set_cons_zero,List.set_cons_succ];go_wp2_with fail
    go_ret;exact⟨rfl,bt G.out hb⟩
   have hn0:(e1.1 != e2.1)=false:=by rw[bne,hq0];rfl
   replace HX:=Lh (show Ak7 e1 e2=(r1) by rw[HX.out,hq0,Bool.true_and]);clear hq0;refine Dk3 (Nat.le_refl _) rfl rfl rfl (fun _ _ d _ _ h=>by cases d<;>exact h) (fun w=>As5 g1 o1 es.length c k hlt w) (fun w=>As5 g2 o2 es2.length d k hlt2 w) hg1 hg2 x0 z0 x1 z1 hn0 KA ?_;intro y17 y18 y19 y20 y21 y22 y23 y24 y25 y26 y27 y28 y29 y30 y31 y32 y33 y34 y35 y36 y37 y38 y39 y40 w9 hb;simp only[C6,Act.put,List.setIfInBounds_toArray,List.set_cons_zero,List.set_cons_succ];rcases r1 with _ | _
   ·have hne:R=false:=HN.out HX.out;subst hne;go_wp2_with fail
    go_ret;exact⟨rfl,bt G.out hb⟩
   ·go_wp2_with fail
    exact⟨⟨k+1,by omega,by go_num,fun j hj=>by
     rcases Nat.lt_or_ge j k with h | h
     ·exact Hno.out j h
     ·rw[show j=k by omega,←He1.out,←He2.out];exact HF.out.1 HX.out,bt G.out hb⟩,by simp[intOf];omega⟩
  ·obtain rfl:k=es.length:=by omega
   go_wp2_with fail
   go_ret;refine⟨?_,G.out⟩;have:R=true:=by rw[HR.out,decide_eq_true];exact HQ.out Hl.out Hno.out
   rw[this];rfl
end Go.Proofs.YtadpiemjgfndgaaGreatDoor
