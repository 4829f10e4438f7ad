/- Proved here, for use further on: EnvK EnvM EnvN EnvO EnvP EnvR EnvT EnvV EnvX EnvY SlA SlB SlD SlE SlF0. Conditions: none but those each theorem names. -/
import Derived.Test.YtadpiemjgfndgaaGreatDoorKb00
import Derived.Test.YtadpiemjgfndgaaGreatDoorKb10
import Derived.Deep.RegionHeld3
import Derived.Deep.DrawnRows
import Derived.Test.YtadpiemjgfndgaaGreatDoorKb03
import Derived.Lib.SliceRun
import Derived.Lib.AppendZeros
import Derived.Lib.AppendZerosOnto
import Derived.ArgAppend
import Derived.Lib.SlBytesConst
import Derived.Deep.DeepCutAuto
import Derived.BigQuiet
set_option linter.unusedSimpArgs false
set_option linter.unusedVariables false
set_option maxRecDepth 100000
set_option maxHeartbeats 8000000
namespace Go.Proofs.YtadpiemjgfndgaaGreatDoor
open Go.RowKit
theorem Ao4{ops:Array Oper}{o:Oper}{a:Act}{w:World}{K:Act→World→Prop}{Q:Exit→Act→World→Prop}{F:Prop}(s x:Operand)(hw:Region.wanted o (yielded ops a.tmps)=true)
 (ho:o.op=.call {callee:=.builtin .append,args:=#[s,x],argTypes:=#[22,22]}) {B n:Nat} {v:Value} {xs:List Value} (hs:a.eval s=v) (hB:V5 B w v n xs)
 {sp:Option Addr} {m c:Nat} {news:List Value} (hx:a.eval x=.slice sp m c) (hS:At w sp news) (hl:news.length=m) (h1:∀u∈news,u.oneCell'=true) (h63:n+m≤1099511627776) (N:Nat) (hN:n+m=N) (ys:List Value) (hys:ys=xs++news)
 (hK:∀a' cap' w',V5 B w' (.slice a' N cap') N ys→w.grownBy w' v.ownBlock→(Value.ownBlock (.slice a' N cap')=v.ownBlock∨Value.ownBlock (.slice a' N cap')=some w.heap.size)→K (a.put o.dst (.slice a' N cap')) w'):if Region.wanted o (yielded ops a.tmps)=true then Oper.wp Tryz.prog o a w K Q else F:=by
 subst hN;subst hys;rw[if_pos hw];obtain⟨a',cap',w',hr,ho',hg,hat⟩:=Cz5 W5 hB.own (m:=m) c hS (by omega) h1 (by unfold maxLen;omega) (by omega) hB.le o.type;unfold Oper.wp execOp;simp only[ho,resolve,List.map_toArray,List.map_cons,List.map_nil,hs,hx,invoke,builtin,Sem.run_bind,Sem.run_pure,Result.andThen_ok,hr];exact hK _ _ _ ⟨ho',Nat.le_trans hB.le hg.size⟩ hg hat
theorem Ew8{B b n z:Nat}{w:World}(h:A6 5 w b (B8s (J6 n z)))(hB:B≤b)(hz:z≤8):V5 B w (.slice (some ⟨b,0,none⟩) z z) z (B8s (J6 n z)):=by
 have hlt:=h.blk.lt;have hl:=T7 n z;exact⟨⟨by simp[hl],.inr ⟨b,z,(B8s (J6 n z)).toArray,rfl,hB,h,Nat.le_refl _,by unfold maxLen;omega,by simp[hl],by rw[Nat.mul_one,List.take_of_length_le (by simp[hl])]⟩⟩,by omega⟩
theorem Bi7{B b n l c:Nat}{w:World}{v:Value}{xs:List Value}(h:V5 B w v n xs)(hb:w.heap.size≤b):Be1 (.slice (some ⟨b,0,none⟩) l c) v:=fun k h1 h2=>by
 have:=(h.lt h2).2;simp[Value.ownBlock] at h1;omega
def Bx8(w:World)(n z:Nat)(e:Ending)(w':World):Prop:=∃b,w.heap.size≤b∧e=.returned (.slice (some ⟨b,0,none⟩) z z)∧V5 w.heap.size w' (.slice (some ⟨b,0,none⟩) z z) z (B8s (J6 n z))∧Below w.heap.size w w'
theorem Bb0(n z:Nat)(hz:1≤z)(hz8:z≤8)(hn:n<256^z)(hn63:n≤9223372036854775807)(w:World):
 Calls Tryz.prog 77 #[.int .i64 n,.int .i64 z] w (Bx8 w n z):=
 (De2 n z hz hz8 hn hn63 w).mono fun e w' ⟨h1,h2,h3⟩=>⟨w.heap.size,Nat.le_refl _,h1,Ew8 h2 (Nat.le_refl _) hz8,h3⟩
abbrev Cf6(b:Nat)(k d e0 e1 g s:Int)(vb vt:Value)(w:World):Prop:=
 w.cell? ⟨b,0,none⟩=some (.int .i64 k)∧w.cell? ⟨b,1,none⟩=some (.int .i64 d)∧w.cell? ⟨b,2,none⟩=some (.int .i64 e0)∧w.cell? ⟨b,3,none⟩=some (.int .i64 e1)∧
 w.cell? ⟨b,4,none⟩=some (.int .i64 g)∧w.cell? ⟨b,5,none⟩=some (.int .i64 s)∧w.cell? ⟨b,6,none⟩=some vb∧w.cell? ⟨b,7,none⟩=some vt
def Em4(w wx:World)(b:Nat)(L:List Value)(X:List UInt8)(v:Value):Prop:=
 ∃a c,v=.slice a X.length c∧V5 w.heap.size wx (.slice a X.length c) X.length (B8s X)∧A6 65 wx b L∧Below w.heap.size w wx
theorem Cw1(k d e0 e1 g s:Nat)(b_ t_:Option Addr)(bc m tc:Nat)(bl:List UInt8)(h:Aj5 k d e0 e1 g s bl.length)(w:World)(hbl:A4 w b_ bl):
 Calls Tryz.prog 29 #[Az0 k d e0 e1 g s (.slice b_ bl.length bc) (.slice t_ m tc)] w (Au5 w (inF k d e0 e1 g s bl)):=by
 have Hp:=Lh (fun W=>Br1 k d e0 e1 g s b_ t_ bl.length bc m tc (by have:=h.n2;unfold maxLen;omega) W);rw[h.parts] at Hp;have HM:=Lh h;have Hbl:=Lh hbl;obtain⟨XF,hXF⟩:∃XF,XF=inF k d e0 e1 g s bl:=⟨_,rfl⟩;rw[←hXF];have HXF:=Lh hXF;clear h hbl hXF;go_enter Tryz.func29,Tryz.ntmps29
 go_wp2_with fail
 refine(Hp.out _).mono ?_;rintro e w1 ⟨rfl,hb1⟩;have EW:=Lh (Bl6 w k d e0 e1 g s _ _ hb1);have Hb1:=Lh (bt (ba w _) hb1);clear hb1 Hp;generalize hW:w1=W at EW Hb1 ⊢;clear hW w1;go_upto_region 4 with(fail)
 obtain⟨X0,hX0⟩:∃X0,X0=An5 [] 1 [k,d]:=⟨_,rfl⟩;have HX0:=Lh (show X0.length=2 by rw[hX0,Ar6];rfl);have GX0:=Lh hX0;go_cut [5] (fun v5 wx=>Em4 w wx w.heap.size (I7 k d e0 e1 g s (.slice b_ bl.length bc) (.slice t_ m tc)) X0 v5)
 case first=>
  have HC1:=Lh (show ∀W',Calls Tryz.prog 77 #[.int .i64 k,.int .i64 1] W' (Bx8 W' k 1) from fun W'=>Bb0 k 1 (by decide) (by decide) (by have:=HM.out.k2;omega) (by have:=HM.out.k2;omega) W');have HC2:=Lh (show ∀W',Calls Tryz.prog 77 #[.int .i64 d,.int .i64 1] W' (Bx8 W' d 1) from fun W'=>Bb0 d 1 (by decide) (by decide) (by have:=HM.out.d1;omega) (by have:=HM.out.d1;omega) W');have HF2:=Lh (T7 d 1);have HX1:=Lh (show B8s X0=B8s (J6 k 1)++B8s (J6 d 1) by rw[hX0,←Af9];rfl);have HX1l:=Lh (show 1+1=X0.length by rw[hX0,Ar6];rfl);have hbd:=btd Hb1.out;have Q0:=I4 EW.out.blk;clear hX0
  go_region_held3 (Cf6 w.heap.size k d e0 e1 g s (.slice b_ bl.length bc) (.slice t_ m tc)) (first | assumption) (first
   | (refine Ao4 (.tmp 12) (.tmp 15) (by first | rfl | simp[Region.wanted,yielded]) rfl rfl O7 (news:=B8s (J6 d 1)) (m:=1) rfl N7.at (by rw[List.length_map,HF2.out]) (M4 (J6 d 1)) (by omega) X0.length HX1l.out (B8s X0) HX1.out ?_;intro a8 c8 w8 O8 hg8 hat8;have E8:=E7.grownB (by decide) O7 hg8;have b8:=V3 b7 O7.own hg8 b7.size (Nat.le_refl _);have Q8:=I4 E8.blk)
   | (go_at_call 77;(with_reducible refine Calls.mono (HC2.out w6) ?_);rintro e w7 ⟨n7,hn7,rfl,N7,hb7⟩;have E7:=E6.up hb7;have b7:=bt b6 hb7;have O7:=K6.up hb7;have Q7:=I4 E7.blk)
   | (go_at_call 77;(with_reducible refine Calls.mono (HC1.out w6) ?_);rintro e w7 ⟨n7,hn7,rfl,K7,hb7⟩;have E7:=E6.up hb7;have b7:=bt b6 hb7;have O7:=K7.low b6.size;have N7:=D6.up hb7;have Q7:=I4 E7.blk)
   | (go_at_call 77;(with_reducible refine Calls.mono (HC1.out _) ?_);rintro e w6 ⟨n6,hn6,rfl,K6,hb6⟩;have E6:=(EW.out.up (bd _)).up hb6;have b6:=bt hbd hb6;have K6:=K6.low hbd.size;have Q6:=I4 E6.blk)
   | (go_at_call 77;(with_reducible refine Calls.mono (HC2.out _) ?_);rintro e w6 ⟨n6,hn6,rfl,D6,hb6⟩;have E6:=(EW.out.up (bd _)).up hb6;have b6:=bt hbd hb6;have Q6:=I4 E6.blk))
  all_goals
   go_split_ands
   go_wp2_with fail
   go_meet
   exact⟨a8,c8,rfl,O8,E8,b8⟩
 clear EW Hb1 hX0;obtain⟨a5,cp5,rfl,hO5,hE5,hb5⟩:=hcut;have EW:=Lh hE5;have OW:=Lh hO5;have Hb1:=Lh hb5;have hlb0:X0.length≤100:=by rw[HX0.out];decide
 obtain⟨Y1,hX1⟩:∃Y1,Y1=X0++J6 e0 8:=⟨_,rfl⟩;obtain⟨Y2,hX2⟩:∃Y2,Y2=Y1++J6 e1 8:=⟨_,rfl⟩;have HY1:=Lh (show Y1.length=10 by rw[hX1,List.length_append,T7,HX0.out]);have HY2:=Lh (show Y2.length=18 by rw[hX2,List.length_append,T7,HY1.out]);have GY1:=Lh hX1;have GY2:=Lh hX2;clear hX1 hX2 hO5 hE5 hb5;go_upto_region 5 with(fail)
 go_cut [5] (fun v5 wx=>Em4 w wx w.heap.size (I7 k d e0 e1 g s (.slice b_ bl.length bc) (.slice t_ m tc)) Y2 v5)
 case first=>
  have HC1:=Lh (show ∀W',Calls Tryz.prog 77 #[.int .i64 e0,.int .i64 8] W' (Bx8 W' e0 8) from fun W'=>Bb0 e0 8 (by decide) (by decide) (by have:=HM.out.e0;omega) (by have:=HM.out.e0;omega) W');have HC2:=Lh (show ∀W',Calls Tryz.prog 77 #[.int .i64 e1,.int .i64 8] W' (Bx8 W' e1 8) from fun W'=>Bb0 e1 8 (by decide) (by decide) (by have:=HM.out.e1;omega) (by have:=HM.out.e1;omega) W');have HF1:=Lh (T7 e0 8);have HF2:=Lh (T7 e1 8);have HX1:=Lh (show B8s Y1=B8s X0++B8s (J6 e0 8) by rw[GY1.out,←Af9]);have HX2:=Lh (show B8s Y2=B8s Y1++B8s (J6 e1 8) by rw[GY2.out,←Af9]);have HX1l:=Lh (show X0.length+8=Y1.length by rw[HX0.out,HY1.out]);have HX2l:=Lh (show Y1.length+8=Y2.length by rw[HY1.out,HY2.out]);have hlb1:Y1.length≤100:=by rw[HY1.out];decide
  have hbd:=btd Hb1.out;have Q0:=I4 EW.out.blk;clear hlb0;have hlb0:X0.length≤100:=by rw[HX0.out];decide
  go_region_held3 (Cf6 w.heap.size k d e0 e1 g s (.slice b_ bl.length bc) (.slice t_ m tc)) (first | assumption) (first
   | (refine Ao4 (.tmp 22) (.tmp 26) (by first | rfl | simp[Region.wanted,yielded]) rfl rfl O8 (news:=B8s (J6 e1 8)) (m:=8) rfl P8.at (by rw[List.length_map,HF2.out]) (M4 (J6 e1 8)) (by omega) Y2.length HX2l.out (B8s Y2) HX2.out ?_;intro a9 c9 w9 O9 hg9 hat9;have E9:=E8.grownB (by decide) O8 hg9;have b9:=V3 b8 O8.own hg9 b8.size (Nat.le_refl _);have Q9:=I4 E9.blk)
   | (refine Ao4 (.tmp 17) (.tmp 21) (by first | rfl | simp[Region.wanted,yielded]) rfl rfl O7 (news:=B8s (J6 e0 8)) (m:=8) rfl N7.at (by rw[List.length_map,HF1.out]) (M4 (J6 e0 8)) (by omega) Y1.length HX1l.out (B8s Y1) HX1.out ?_;intro a8 c8 w8 O8 hg8 hat8;have E8:=E7.grownB (by decide) O7 hg8;have b8:=V3 b7 O7.own hg8 b7.size (Nat.le_refl _);have P8:=P7.other (n:=0) (xs:=[]) hg8 ap7;have Q8:=I4 E8.blk)
   | (refine Ao4 (.tmp 17) (.tmp 21) (by first | rfl | simp[Region.wanted,yielded]) rfl rfl O6 (news:=B8s (J6 e0 8)) (m:=8) rfl N6.at (by rw[List.length_map,HF1.out]) (M4 (J6 e0 8)) (by omega) Y1.length HX1l.out (B8s Y1) HX1.out ?_;intro a77 c77 w77 O77 hg77 hat77;have E77:=E6.grownB (by decide) O6 hg77;have b77:=V3 b6 O6.own hg77 b6.size (Nat.le_refl _);have Q77:=I4 E77.blk)
   | (go_at_call 77;(with_reducible refine Calls.mono (HC2.out w77) ?_);rintro e w8 ⟨n8,hn8,rfl,P8,hb8⟩;have E8:=E77.up hb8;have b8:=bt b77 hb8;have O8:=O77.up hb8;have Q8:=I4 E8.blk)
   | (go_at_call 77;(with_reducible refine Calls.mono (HC2.out w6) ?_);rintro e w7 ⟨n7,hn7,rfl,P7,hb7⟩;have E7:=E6.up hb7;have b7:=bt b6 hb7;have N7:=N6.up hb7;have O7:=O6.up hb7;have ap7:=Bi7 (l:=8) (c:=8) O6 hn7;have Q7:=I4 E7.blk)
   | (go_at_call 77;(with_reducible refine Calls.mono (HC1.out w6) ?_);rintro e w7 ⟨n7,hn7,rfl,N7,hb7⟩;have E7:=E6.up hb7;have b7:=bt b6 hb7;have P7:=P6.up hb7;have O7:=O6.up hb7;have ap7:=ap6;have Q7:=I4 E7.blk)
   | (go_at_call 77;(with_reducible refine Calls.mono (HC1.out _) ?_);rintro e w6 ⟨n6,hn6,rfl,N6,hb6⟩;have E6:=(EW.out.up (bd _)).up hb6;have b6:=bt hbd hb6;have O6:=(OW.out.up (bd _)).up hb6;have Q6:=I4 E6.blk)
   | (go_at_call 77;(with_reducible refine Calls.mono (HC2.out _) ?_);rintro e w6 ⟨n6,hn6,rfl,P6,hb6⟩;have E6:=(EW.out.up (bd _)).up hb6;have b6:=bt hbd hb6;have O6:=(OW.out.up (bd _)).up hb6;have ap6:=Bi7 (l:=8) (c:=8) (OW.out.up (bd _)) hn6;have Q6:=I4 E6.blk))
  all_goals
   go_split_ands
   go_wp2_with fail
   go_meet
   exact⟨a9,c9,rfl,O9,E9,b9⟩
 clear EW OW Hb1 hlb0;obtain⟨a5,cp5,rfl,hO5,hE5,hb5⟩:=hcut;have EW:=Lh hE5;have OW:=Lh hO5;have Hb1:=Lh hb5;have hlb0:Y2.length≤100:=by rw[HY2.out];decide
 obtain⟨Z1,hX1⟩:∃Z1,Z1=Y2++J6 g 4:=⟨_,rfl⟩;obtain⟨Z2,hX2⟩:∃Z2,Z2=Z1++J6 s 8:=⟨_,rfl⟩;have HZ1:=Lh (show Z1.length=22 by rw[hX1,List.length_append,T7,HY2.out]);have HZ2:=Lh (show Z2.length=30 by rw[hX2,List.length_append,T7,HZ1.out]);have GZ1:=Lh hX1;have GZ2:=Lh hX2;clear hX1 hX2 hO5 hE5 hb5;go_upto_region 6 with(fail)
 go_cut [5] (fun v5 wx=>Em4 w wx w.heap.size (I7 k d e0 e1 g s (.slice b_ bl.length bc) (.slice t_ m tc)) Z2 v5)
 case first=>
  have HC1:=Lh (show ∀W',Calls Tryz.prog 77 #[.int .i64 g,.int .i64 4] W' (Bx8 W' g 4) from fun W'=>Bb0 g 4 (by decide) (by decide) (by have:=HM.out.g1;omega) (by have:=HM.out.g1;omega) W');have HC2:=Lh (show ∀W',Calls Tryz.prog 77 #[.int .i64 s,.int .i64 8] W' (Bx8 W' s 8) from fun W'=>Bb0 s 8 (by decide) (by decide) (by have:=HM.out.s1;omega) (by have:=HM.out.s1;omega) W');have HF1:=Lh (T7 g 4);have HF2:=Lh (T7 s 8);have HX1:=Lh (show B8s Z1=B8s Y2++B8s (J6 g 4) by rw[GZ1.out,←Af9]);have HX2:=Lh (show B8s Z2=B8s Z1++B8s (J6 s 8) by rw[GZ2.out,←Af9]);have HX1l:=Lh (show Y2.length+4=Z1.length by rw[HY2.out,HZ1.out]);have HX2l:=Lh (show Z1.length+8=Z2.length by rw[HZ1.out,HZ2.out]);have hlb1:Z1.length≤100:=by rw[HZ1.out];decide
  have hbd:=btd Hb1.out;have Q0:=I4 EW.out.blk;clear hlb0;have hlb0:Y2.length≤100:=by rw[HY2.out];decide
  go_region_held3 (Cf6 w.heap.size k d e0 e1 g s (.slice b_ bl.length bc) (.slice t_ m tc)) (first | assumption) (first
   | (refine Ao4 (.tmp 32) (.tmp 35) (by first | rfl | simp[Region.wanted,yielded]) rfl rfl O8 (news:=B8s (J6 s 8)) (m:=8) rfl P8.at (by rw[List.length_map,HF2.out]) (M4 (J6 s 8)) (by omega) Z2.length HX2l.out (B8s Z2) HX2.out ?_;intro a9 c9 w9 O9 hg9 hat9;have E9:=E8.grownB (by decide) O8 hg9;have b9:=V3 b8 O8.own hg9 b8.size (Nat.le_refl _);have Q9:=I4 E9.blk)
   | (refine Ao4 (.tmp 28) (.tmp 31) (by first | rfl | simp[Region.wanted,yielded]) rfl rfl O7 (news:=B8s (J6 g 4)) (m:=4) rfl N7.at (by rw[List.length_map,HF1.out]) (M4 (J6 g 4)) (by omega) Z1.length HX1l.out (B8s Z1) HX1.out ?_;intro a8 c8 w8 O8 hg8 hat8;have E8:=E7.grownB (by decide) O7 hg8;have b8:=V3 b7 O7.own hg8 b7.size (Nat.le_refl _);have P8:=P7.other (n:=0) (xs:=[]) hg8 ap7;have Q8:=I4 E8.blk)
   | (refine Ao4 (.tmp 28) (.tmp 31) (by first | rfl | simp[Region.wanted,yielded]) rfl rfl O6 (news:=B8s (J6 g 4)) (m:=4) rfl N6.at (by rw[List.length_map,HF1.out]) (M4 (J6 g 4)) (by omega) Z1.length HX1l.out (B8s Z1) HX1.out ?_;intro a77 c77 w77 O77 hg77 hat77;have E77:=E6.grownB (by decide) O6 hg77;have b77:=V3 b6 O6.own hg77 b6.size (Nat.le_refl _);have Q77:=I4 E77.blk)
   | (go_at_call 77;(with_reducible refine Calls.mono (HC2.out w77) ?_);rintro e w8 ⟨n8,hn8,rfl,P8,hb8⟩;have E8:=E77.up hb8;have b8:=bt b77 hb8;have O8:=O77.up hb8;have Q8:=I4 E8.blk)
   | (go_at_call 77;(with_reducible refine Calls.mono (HC2.out w6) ?_);rintro e w7 ⟨n7,hn7,rfl,P7,hb7⟩;have E7:=E6.up hb7;have b7:=bt b6 hb7;have N7:=N6.up hb7;have O7:=O6.up hb7;have ap7:=Bi7 (l:=8) (c:=8) O6 hn7;have Q7:=I4 E7.blk)
   | (go_at_call 77;(with_reducible refine Calls.mono (HC1.out w6) ?_);rintro e w7 ⟨n7,hn7,rfl,N7,hb7⟩;have E7:=E6.up hb7;have b7:=bt b6 hb7;have P7:=P6.up hb7;have O7:=O6.up hb7;have ap7:=ap6;have Q7:=I4 E7.blk)
   | (go_at_call 77;(with_reducible refine Calls.mono (HC1.out _) ?_);rintro e w6 ⟨n6,hn6,rfl,N6,hb6⟩;have E6:=(EW.out.up (bd _)).up hb6;have b6:=bt hbd hb6;have O6:=(OW.out.up (bd _)).up hb6;have Q6:=I4 E6.blk)
   | (go_at_call 77;(with_reducible refine Calls.mono (HC2.out _) ?_);rintro e w6 ⟨n6,hn6,rfl,P6,hb6⟩;have E6:=(EW.out.up (bd _)).up hb6;have b6:=bt hbd hb6;have O6:=(OW.out.up (bd _)).up hb6;have ap6:=Bi7 (l:=8) (c:=8) (OW.out.up (bd _)) hn6;have Q6:=I4 E6.blk))
  all_goals
   go_split_ands
   go_wp2_with fail
   go_meet
   exact⟨a9,c9,rfl,O9,E9,b9⟩
 clear EW OW Hb1 hlb0;obtain⟨a5,cp5,rfl,hO5,hE5,hb5⟩:=hcut;have OW:=Lh hO5;have Hb1:=Lh hb5;obtain⟨c0,c1,c2,c3,c4,c5,c6,c7⟩:=I4 hE5.blk;have HXF2:=Lh (show XF=Z2++bl by rw[HXF.out,GZ2.out,GZ1.out,GY2.out,GY1.out,GX0.out];rfl);have HXs:=Lh (show B8s XF=B8s Z2++B8s bl by rw[HXF2.out,Af9]);have HXl:=Lh (show Z2.length+bl.length=XF.length by rw[HXF2.out,List.length_append]);have hz2:Z2.length≤100:=by rw[HZ2.out];decide
 have hbl9:=HM.out.n2;have Hb5:=Lh (Hbl.out.mono Hb1.out);clear hO5 hb5 hE5;go_wp2_with (at_builtin;go_must ((refine Ah6 (.tmp 37) (.tmp 39) rfl rfl rfl OW.out (news:=B8s bl) (m:=bl.length) rfl Hb5.out (by simp) (M4 bl) (by omega) XF.length HXl.out (B8s XF) HXs.out ?_);intro a6 c6' w6 h6 hg6 hat6))
 go_ret2
 exact⟨a6,c6',rfl,h6,V3 Hb1.out OW.out.own hg6 OW.out.le (Nat.le_refl _)⟩
structure TS where
 at_:Nat
 ok:Bool
 L:List Value
def Au2(l:List UInt8)(at_ z:Nat):Prop:=z=8∧127<(l.getD at_ 0).toNat
instance (l:List UInt8) (at_ z:Nat):Decidable (Au2 l at_ z):=inferInstanceAs (Decidable (_∧_))
def Ao5(l:List UInt8)(z:Nat)(S:TS)(o:Nat):TS:=
 if Au2 l S.at_ z then⟨S.at_,false,S.L.set o (.int .i64 0)⟩ else⟨S.at_+z,S.ok,S.L.set o (.int .i64 (I2 l S.at_ z))⟩
def Ag7(l:List UInt8)(z:Nat)(S:TS)(os:List Nat):TS:=os.foldl (Ao5 l z) S
theorem De3(l:List UInt8)(z:Nat)(S:TS)(os:List Nat)(k:Nat)(h:k<os.length):Ag7 l z S (os.take (k+1))=Ao5 l z (Ag7 l z S (os.take k)) (os.getD k 0):=by
 rw[Ad1 os k h 0];simp[Ag7,List.foldl_append]
theorem Em5(l:List UInt8)(z:Nat)(S:TS)(o:Nat):(Ao5 l z S o).at_≤S.at_+z:=by unfold Ao5;split<;>simp
theorem Dz4(l:List UInt8)(z:Nat)(S:TS)(o:Nat):(Ao5 l z S o).L.length=S.L.length:=by unfold Ao5;split<;>simp
theorem Bn7(l:List UInt8)(z:Nat)(S:TS)(os:List Nat):(Ag7 l z S os).at_≤S.at_+z*os.length:=by
 induction os generalizing S with
 | nil=>simp[Ag7]
 | cons o os ih=>
   have h1:=ih (Ao5 l z S o);have h2:=Em5 l z S o;show(Ag7 l z (Ao5 l z S o) os).at_≤_;rw[List.length_cons,Nat.mul_add];omega
theorem Bc7(l:List UInt8)(z:Nat)(S:TS)(os:List Nat):(Ag7 l z S os).L.length=S.L.length:=by
 induction os generalizing S with
 | nil=>rfl
 | cons o os ih=>exact(ih (Ao5 l z S o)).trans (Dz4 l z S o)
def Br3(w0:World)(ba_ bo be:Nat)(w:World)(S:TS):Prop:=
 A6 3 w ba_ [.int .i64 (S.at_:Int)]∧A6 4 w bo [.bool S.ok]∧A6 65 w be S.L∧Below w0.heap.size w0 w
abbrev Bn8(be o:Nat):Value:=.pointer (some ⟨be,o,none⟩)
theorem Cp9{w0 wr:World}{ba_ bo be o N M:Nat}{B C:Bool}{L:List Value}(V:Value)(h1:w0.heap.size≤ba_)(h2:w0.heap.size≤bo)(h3:w0.heap.size≤be)(d1:ba_≠bo)(d2:ba_≠be)(d3:bo≠be)
 (hA:A6 3 wr ba_ [.int .i64 (M:Int)]) (hO:A6 4 wr bo [.bool C]) (hE:A6 65 wr be L) (hb:Below w0.heap.size w0 wr):
 Br3 w0 ba_ bo be ((((wr.setCell ⟨be,o,none⟩ V).setCell ⟨ba_,0,none⟩ (.int .i64 (N:Int))).setCell ⟨bo,0,none⟩ (.bool B)).drew) ⟨N,B,L.set o V⟩:=
 ⟨((hA.other d2 _).set 0 _).other d1 _,((hO.other d3 _).other d1.symm _).set 0 _,((hE.set o _).other d2.symm _).other d3.symm _,(((hb.setCell h3 _).setCell h1 _).setCell h2 _).drew⟩
theorem Em6(z:Nat)(hz:1≤z)(hz8:z≤8)(os:List Nat)(hos:∀o∈os,o<8)(hl:os.length≤2)(gp c bb ba_ bo be:Nat)(a:Option Addr)(ca:Nat)(l:List UInt8)(hla:l.length≤ca)(hca:ca≤maxLen)(S:TS)(hS8:S.L.length=8)(hfit:S.at_+z*os.length≤l.length)
 (w0 w:World) (h1:w0.heap.size≤ba_) (h2:w0.heap.size≤bo) (h3:w0.heap.size≤be) (d1:ba_≠bo) (d2:ba_≠be) (d3:bo≠be) (g1:gp≠ba_) (g2:gp≠bo) (g3:gp≠be) (b1:bb≠ba_) (b2:bb≠bo) (b3:bb≠be)
 (hbytes:A4 w0 a l) (hbb:A6 22 w bb [.slice a l.length ca]) (hp:A6 217 w gp (os.map (Bn8 be))) (hT:Br3 w0 ba_ bo be w S):
 Calls Tryz.prog 181 #[.int .i64 z,.slice (some ⟨gp,0,none⟩) os.length c,.pointer (some ⟨bb,0,none⟩),.pointer (some ⟨ba_,0,none⟩),.pointer (some ⟨bo,0,none⟩)] w
  fun e w'=>e=.returned (.tuple #[])∧Br3 w0 ba_ bo be w' (Ag7 l z S os)∧(∀g T cs,g≠ba_→g≠bo→g≠be→A6 T w g cs→A6 T w' g cs):=by
 have HT:=Lh hT;have HP:=Lh hp;have HBB:=Lh hbb;have HBy:=Lh hbytes;have Hos:=Lh hos;have Hfit:=Lh hfit;have HS8:=Lh hS8;clear hT hp hbb hbytes hos hfit hS8;go_enter Tryz.func181,Tryz.ntmps181
 go_wp2_with fail
 go_loopw [14] (fun v14 wx=>∃k:Nat,k≤os.length∧v14=.int .i64 k∧Br3 w0 ba_ bo be wx (Ag7 l z S (os.take k))∧(∀g T cs,g≠ba_→g≠bo→g≠be→A6 T w g cs→A6 T wx g cs)) (fun v14 _=>os.length-(intOf v14).toNat)
 case atStart=>exact⟨0,Nat.zero_le _,rfl,HT.out,fun _ _ _ _ _ _ h=>h⟩
 case round=>
  clear HT;obtain⟨k,hk,rfl,hTk,hkeep⟩:=hrel;have HK:=Lh hkeep;clear hkeep;by_cases hlt:k<os.length
  ·have ho:=Hos.out (os.getD k 0) (by rw[show os.getD k 0=os[k] by simp[List.getD,hlt]];exact List.getElem_mem hlt);have hc:wr.cell? ⟨gp,k,none⟩=some (Bn8 be (os.getD k 0)):=by
    rw[(HK.out gp 217 _ g1 g2 g3 HP.out).blk.cell k (by simpa using hlt)];simp[List.getD,hlt]
   have Hsn:=Lh (De3 l z S os k hlt);have hat:=Bn7 l z S (os.take k);have hlen:=Bc7 l z S (os.take k);rw[List.length_take,Nat.min_eq_left (by omega)] at hat
   generalize Ag7 l z S (os.take k)=U at hTk Hsn hat hlen;obtain⟨at_,ok,L⟩:=U;obtain⟨hA,hO,hE,hbel⟩:=hTk;simp only at hA hO hE hat hlen;have hfit2:at_+z≤l.length:=by
    have e:z*os.length≥z*(k+1):=Nat.mul_le_mul_left z (by omega);rw[Nat.mul_add] at e;have:=Hfit.out;omega
   have hL8:L.length=8:=by rw[hlen,HS8.out]
   generalize os.getD k 0=o at ho hc Hsn;have q0:wr.cell? ⟨bb,0,none⟩=some (.slice a l.length ca):=(HK.out bb 22 _ b1 b2 b3 HBB.out).blk.cell 0 (by simp);have q1:wr.cell? ⟨ba_,0,none⟩=some (.int .i64 (at_:Int)):=hA.blk.cell 0 (by simp);have q2:wr.cell? ⟨bo,0,none⟩=some (.bool ok):=hO.blk.cell 0 (by simp);have q3:wr.cell? ⟨be,o,none⟩=some (L.getD o undef):=hE.blk.cell o (by omega);have f1:=hA.blk.frozen;have f2:=hO.blk.frozen;have f3:=hE.blk.frozen;have HTk:=Lh (Cw0 a ca l at_ z hz hz8 hfit2 hla hca wr (HBy.out.mono hbel));have HA:=Lh hA;have HO:=Lh hO;have HE:=Lh hE;have Hbel:=Lh hbel;clear hA hO hE hbel hat hlen;by_cases hbad:Au2 l at_ z
   ·have hst:Ao5 l z ⟨at_,ok,L⟩ o=⟨at_,false,L.set o (.int .i64 0)⟩:=if_pos hbad;rw[hst] at Hsn;have HT2:=Lh (show Calls Tryz.prog 182 #[.slice a l.length ca,.int .i64 at_,.int .i64 z] wr fun e w'=>e=.returned (.tuple #[.int .i64 0,.int .i64 0,.int .i64 2])∧wr=w' from HTk.out.mono fun e w' ⟨h,h'⟩=>⟨by rw[h,if_pos (show z=8∧127<(l.getD at_ 0).toNat from hbad)],h'⟩);clear HTk hst hbad;go_wp2_with fail
    refine HT2.out.mono ?_;rintro e w2 ⟨rfl,rfl⟩;go_upto_region 4 with(fail)
    have e1:=d1.symm;have e2:=d2.symm;have e3:=d3.symm;rcases ok with _ | _;all_goals
     ·go_region
      go_wp2_with fail
      exact⟨⟨k+1,by omega,by go_num,by rw[Hsn.out];exact Cp9 _ h1 h2 h3 d1 d2 d3 HA.out HO.out HE.out Hbel.out,fun g T cs n1 n2 n3 hG=>(((HK.out g T cs n1 n2 n3 hG).other n3 _).other n1 _).other n2 _⟩,by first | (simp[intOf];done) | (simp[intOf];omega)⟩
   ·have hst:Ao5 l z ⟨at_,ok,L⟩ o=⟨at_+z,ok,L.set o (.int .i64 (I2 l at_ z))⟩:=if_neg hbad;rw[hst] at Hsn;have HT2:=Lh (show Calls Tryz.prog 182 #[.slice a l.length ca,.int .i64 at_,.int .i64 z] wr fun e w'=>e=.returned (.tuple #[.int .i64 (I2 l at_ z),.int .i64 ((at_+z:Nat):Int),.int .i64 0])∧wr=w' from HTk.out.mono fun e w' ⟨h,h'⟩=>⟨by rw[h,if_neg (show ¬(z=8∧127<(l.getD at_ 0).toNat) from hbad)],h'⟩);have htz:at_<at_+z:=by omega
    clear HTk hst hbad;generalize at_+z=T at HT2 Hsn htz;generalize I2 l at_ z=M at HT2 Hsn;have htz2:(at_:Int)<(T:Int):=by omega
    go_wp2_with fail
    refine HT2.out.mono ?_;rintro e w2 ⟨rfl,rfl⟩;go_upto_region 4 with(fail)
    have e1:=d1.symm;have e2:=d2.symm;have e3:=d3.symm;rcases ok with _ | _;all_goals
     ·go_region
      go_wp2_with fail
      exact⟨⟨k+1,by omega,by go_num,by rw[Hsn.out];exact Cp9 _ h1 h2 h3 d1 d2 d3 HA.out HO.out HE.out Hbel.out,fun g T cs n1 n2 n3 hG=>(((HK.out g T cs n1 n2 n3 hG).other n3 _).other n1 _).other n2 _⟩,by first | (simp[intOf];done) | (simp[intOf];omega)⟩
  ·obtain rfl:k=os.length:=by omega
   rw[List.take_length] at hTk;have HX:=Lh hTk;clear hTk;go_wp2_with fail
   go_end0
   exact⟨rfl,HX.out,HK.out⟩
abbrev G8:List Value:=I7 0 0 0 0 0 0 (.slice none 0 0) (.slice none 0 0)
def Bn9(w:World)(why:Int)(e:Ending)(w':World):Prop:=e=.returned (.tuple #[.agg G8.toArray,.int .i64 why])∧Below w.heap.size w w'
theorem X9:(Tryz.prog.info? 65).map (·.size)=some 8:=by kernel_rfl
theorem De4(a:Option Addr)(c:Nat)(l:List UInt8)(h:l.length<47)(w:World):
 Calls Tryz.prog 132 #[.slice a l.length c] w (Bn9 w 3):=by
 have hd:(l.length:Int)<47:=by omega
 go_enter Tryz.func132,Tryz.ntmps132
 go_wp2_with fail
 refine bodyPost_ret (G6 rfl _ _ (w.heap.size+1) (cs:=G8) rfl _ rfl ?hb Tryz.underlying65 rfl X9) rfl ?_
 case hb=>have:=Blk.new (w.alloc (.cells #[.slice a l.length c] 22)) G8 65;rwa [I9] at this
 exact⟨rfl,bta (ba w _) _⟩
theorem Dz5(a:Option Addr)(c:Nat)(l:List UInt8)(h:946<l.length)(hm:l.length≤maxLen)(w:World):
 Calls Tryz.prog 132 #[.slice a l.length c] w (Bn9 w 4):=by
 unfold maxLen at hm;have hd:¬(l.length:Int)<47:=by omega
 have hd2:(946:Int)<(l.length:Int):=by omega
 go_enter Tryz.func132,Tryz.ntmps132
 go_wp2_with fail
 refine bodyPost_ret (G6 rfl _ _ (w.heap.size+1) (cs:=G8) rfl _ rfl ?hb Tryz.underlying65 rfl X9) rfl ?_
 case hb=>have:=Blk.new (w.alloc (.cells #[.slice a l.length c] 22)) G8 65;rwa [I9] at this
 exact⟨rfl,bta (ba w _) _⟩
def Bo0(l:List UInt8):Prop:=¬Au2 l 2 8∧¬Au2 l 10 8∧¬Au2 l 22 8
instance (l:List UInt8):Decidable (Bo0 l):=inferInstanceAs (Decidable (_∧_))
def Bc8(l:List UInt8):TS:=Ag7 l 8 (Ag7 l 4 (Ag7 l 8 (Ag7 l 1 ⟨0,true,G8⟩ [0,1]) [2,3]) [4]) [5]
theorem Ae2{l:List UInt8}{z at_ o:Nat}{ok:Bool}{L:List Value}(h:¬Au2 l at_ z):Ao5 l z ⟨at_,ok,L⟩ o=⟨at_+z,ok,L.set o (.int .i64 (I2 l at_ z))⟩:=if_neg h
theorem Br4{l:List UInt8}{z at_ o:Nat}{ok:Bool}{L:List Value}(h:Au2 l at_ z):Ao5 l z ⟨at_,ok,L⟩ o=⟨at_,false,L.set o (.int .i64 0)⟩:=if_pos h
theorem Bc9{l:List UInt8}{z o:Nat}{S:TS}(h:S.ok=false):(Ao5 l z S o).ok=false:=by unfold Ao5;split<;>simp[h]
theorem Al6{l:List UInt8}{at_ z:Nat}(h:z≠8):¬Au2 l at_ z:=fun h'=>h h'.1
theorem Cw2{l:List UInt8}(h:Bo0 l):Bc8 l=⟨30,true,I7 (I2 l 0 1) (I2 l 1 1) (I2 l 2 8) (I2 l 10 8) (I2 l 18 4) (I2 l 22 8) (.slice none 0 0) (.slice none 0 0)⟩:=by
 obtain⟨h1,h2,h3⟩:=h;unfold Bc8 Ag7;simp only[List.foldl_cons,List.foldl_nil];rw[Ae2 (z:=1) (at_:=0) (o:=0) (Al6 (by decide)),Ae2 (z:=1) (at_:=1) (o:=1) (Al6 (by decide)),Ae2 (z:=8) (at_:=2) (o:=2) h1,Ae2 (z:=8) (at_:=10) (o:=3) h2,Ae2 (z:=4) (at_:=18) (o:=4) (Al6 (by decide)),Ae2 (z:=8) (at_:=22) (o:=5) h3];rfl
theorem De5{l:List UInt8}(h:¬Bo0 l):(Bc8 l).ok=false:=by
 unfold Bc8 Ag7;simp only[List.foldl_cons,List.foldl_nil];rw[Ae2 (z:=1) (at_:=0) (o:=0) (Al6 (by decide)),Ae2 (z:=1) (at_:=1) (o:=1) (Al6 (by decide))];by_cases h1:Au2 l 2 8
 ·rw[Br4 (z:=8) (at_:=2) (o:=2) h1];exact Bc9 (Bc9 (Bc9 rfl))
 ·rw[Ae2 (z:=8) (at_:=2) (o:=2) h1];by_cases h2:Au2 l 10 8
  ·rw[Br4 (z:=8) (at_:=10) (o:=3) h2];exact Bc9 (Bc9 rfl)
  ·rw[Ae2 (z:=8) (at_:=10) (o:=3) h2,Ae2 (z:=4) (at_:=18) (o:=4) (Al6 (by decide))];by_cases h3:Au2 l 22 8
   ·rw[Br4 (z:=8) (at_:=22) (o:=5) h3]
   ·exact(h ⟨h1,h2,h3⟩).elim
theorem De6(l:List UInt8):(Bc8 l).L.length=8:=by unfold Bc8;simp only[Bc7];rfl
structure RB (w:World) (rb ba_ bo be:Nat):Prop where
 r:rb=w.heap.size+1
 a:ba_=w.heap.size+2
 o:bo=w.heap.size+3
 e:be=w.heap.size+4
def Cq0(w:World)(rb ba_ bo be:Nat)(a:Option Addr)(l:List UInt8)(c:Nat)(W:World)(S:TS):Prop:=
 Br3 w ba_ bo be W S∧A6 22 W w.heap.size [.slice a l.length c]∧A6 65 W rb G8
theorem Bi8(z:Nat)(zi:Int)(hzi:zi=(z:Int))(hz:1≤z)(hz8:z≤8)(os:List Nat)(hos:∀o∈os,o<8)(len:Nat)(hlen:len=os.length)(hl:len≤2)(c:Nat)(a:Option Addr)(ca:Nat)(l:List UInt8)(hla:l.length≤ca)(hca:ca≤maxLen)(S:TS)(hS8:S.L.length=8)(hfit:S.at_+z*os.length≤l.length)
 (w W:World) (rb ba_ bo be:Nat) (hr:RB w rb ba_ bo be) (hbytes:A4 w a l) (h:Cq0 w rb ba_ bo be a l ca W S) (xs:Array Value) (hxs:xs=(os.map (Bn8 be)).toArray):
 Calls Tryz.prog 181 #[.int .i64 zi,.slice (some ⟨W.heap.size,0,none⟩) len c,.pointer (some ⟨w.heap.size,0,none⟩),.pointer (some ⟨ba_,0,none⟩),.pointer (some ⟨bo,0,none⟩)] (W.alloc (.cells xs 217))
  fun e w'=>e=.returned (.tuple #[])∧Cq0 w rb ba_ bo be a l ca w' (Ag7 l z S os):=by
 subst hzi;subst hlen;subst hxs;obtain⟨r1,r2,r3,r4⟩:=hr;obtain⟨⟨hA,hO,hE,hb⟩,hB,hR⟩:=h;have hlt:be<W.heap.size:=hE.blk.lt;refine(Em6 z hz hz8 os hos hl W.heap.size c w.heap.size ba_ bo be a ca l hla hca S hS8 hfit w _ (by omega) (by omega) (by omega) (by omega) (by omega) (by omega) (by omega) (by omega) (by omega) (by omega) (by omega) (by omega) hbytes (hB.up (ba _ _)) (A6.new W _ 217) ⟨hA.up (ba _ _),hO.up (ba _ _),hE.up (ba _ _),bt hb (ba _ _)⟩).mono ?_;rintro e w' ⟨h1,h2,h3⟩;exact⟨h1,h2,h3 _ _ _ (by omega) (by omega) (by omega) (hB.up (ba _ _)),h3 _ _ _ (by omega) (by omega) (by omega) (hR.up (ba _ _))⟩
def U4(l:List UInt8):List UInt8:=(l.drop 30).take (l.length-46)
def Ab6(l:List UInt8):List UInt8:=l.drop (l.length-16)
theorem Bd0(l:List UInt8):(U4 l).length=l.length-46:=by unfold U4;rw[List.length_take,List.length_drop];omega
theorem Bb1(l:List UInt8)(h:16≤l.length):(Ab6 l).length=16:=by unfold Ab6;rw[List.length_drop];omega
def Cq1(w:World)(k d e0 e1 g s:Int)(bl tl:List UInt8)(e:Ending)(w':World):Prop:=
 ∃a1 c1 a2 c2,e=.returned (.tuple #[Az0 k d e0 e1 g s (.slice a1 bl.length c1) (.slice a2 tl.length c2),.int .i64 0])∧bl.length≤c1∧c1≤maxLen∧tl.length≤c2∧c2≤maxLen∧A4 w' a1 bl∧A4 w' a2 tl∧Below w.heap.size w w'
def Ag0(l:List UInt8):Prop:=Bo0 l∧Af5 (I2 l 0 1) (I2 l 1 1) (I2 l 2 8) (I2 l 10 8) (I2 l 18 4) (I2 l 22 8) (l.length-46) 16=true
theorem Em7(a:Option Addr)(c:Nat)(l:List UInt8)(h1:47≤l.length)(h2:l.length≤946)(hc:l.length≤c)(hcm:c≤maxLen)(w:World)(hl:A4 w a l):
 Calls Tryz.prog 132 #[.slice a l.length c] w fun e w'=>(Ag0 l→Cq1 w (I2 l 0 1) (I2 l 1 1) (I2 l 2 8) (I2 l 10 8) (I2 l 18 4) (I2 l 22 8) (U4 l) (Ab6 l) e w')∧(¬Ag0 l→Bn9 w 2 e w'):=by
 have Hl:=Lh hl;have Hc:=Lh (And.intro hc hcm);have i1:¬(l.length:Int)<47:=by omega
 have i2:¬(946:Int)<(l.length:Int):=by omega
 clear hl hc hcm;go_enter Tryz.func132,Tryz.ntmps132
 go_upto_region 8 with(fail)
 generalize hW:World.alloc (World.alloc (World.alloc (World.alloc (World.alloc w _) _) _) _) _=W;have hR0:Cq0 w (w.heap.size+1) (w.heap.size+1+1) (w.heap.size+1+1+1) (w.heap.size+1+1+1+1) a l c W ⟨0,true,G8⟩:=by
  rw[←hW];have s1:=I9 w (.cells #[.slice a l.length c] 22);have k0:=A6.new w [.slice a l.length c] 22;have k1:=A6.new (w.alloc (.cells #[.slice a l.length c] 22)) G8 65;rw[s1] at k1;have s2:=I9 (w.alloc (.cells #[.slice a l.length c] 22)) (.cells G8.toArray 65);rw[s1] at s2;have k2:=A6.new ((w.alloc (.cells #[.slice a l.length c] 22)).alloc (.cells G8.toArray 65)) [.int .i64 0] 3;rw[s2] at k2;have s3:=I9 ((w.alloc (.cells #[.slice a l.length c] 22)).alloc (.cells G8.toArray 65)) (.cells [.int .i64 0].toArray 3);rw[s2] at s3;have k3:=A6.new (((w.alloc (.cells #[.slice a l.length c] 22)).alloc (.cells G8.toArray 65)).alloc (.cells [.int .i64 0].toArray 3)) [.bool true] 4;rw[s3] at k3;have s4:=I9 (((w.alloc (.cells #[.slice a l.length c] 22)).alloc (.cells G8.toArray 65)).alloc (.cells [.int .i64 0].toArray 3)) (.cells [.bool true].toArray 4);rw[s3] at s4;have k4:=A6.new ((((w.alloc (.cells #[.slice a l.length c] 22)).alloc (.cells G8.toArray 65)).alloc (.cells [.int .i64 0].toArray 3)).alloc (.cells [.bool true].toArray 4)) G8 65;rw[s4] at k4;exact⟨⟨(k2.up (ba _ _)).up (ba _ _),k3.up (ba _ _),k4,bta (bta (bta (bta (ba w _) _) _) _) _⟩,(((k0.up (ba _ _)).up (ba _ _)).up (ba _ _)).up (ba _ _),((k1.up (ba _ _)).up (ba _ _)).up (ba _ _)⟩
 clear hW;have hr:RB w (w.heap.size+1) (w.heap.size+1+1) (w.heap.size+1+1+1) (w.heap.size+1+1+1+1):=⟨rfl,rfl,rfl,rfl⟩;generalize w.heap.size+1+1+1+1=be at hr hR0 ⊢;generalize w.heap.size+1+1+1=bo at hr hR0 ⊢;generalize w.heap.size+1+1=bc at hr hR0 ⊢;generalize w.heap.size+1=rb at hr hR0 ⊢;have Hr:=Lh hr;clear hr;obtain⟨T1,hT1⟩:∃T1,T1=Ag7 l 1 ⟨0,true,G8⟩ [0,1]:=⟨_,rfl⟩;have L1:T1.L.length=8:=by rw[hT1,Bc7];rfl
 have A1:T1.at_≤2:=by rw[hT1];exact Bn7 l 1 ⟨0,true,G8⟩ [0,1]
 have H1:=Lh (Bi8 1 1 rfl (by decide) (by decide) [0,1] (by decide) 2 rfl (by decide) 2 a c l Hc.out.1 Hc.out.2 ⟨0,true,G8⟩ rfl (by show 0+1*2≤_;omega) w W rb bc bo be Hr.out Hl.out hR0 #[Bn8 be 0,Bn8 be 1] rfl);rw[←hT1] at H1;go_wp2_with fail
 refine H1.out.mono ?_;rintro e w2 ⟨rfl,R2⟩;obtain⟨T2,hT2⟩:∃T2,T2=Ag7 l 8 T1 [2,3]:=⟨_,rfl⟩;have L2:T2.L.length=8:=by rw[hT2,Bc7,L1]
 have A2:T2.at_≤18:=by rw[hT2];have:=Bn7 l 8 T1 [2,3];simp at this;omega
 have H2:=Lh (Bi8 8 8 rfl (by decide) (by decide) [2,3] (by decide) 2 rfl (by decide) 2 a c l Hc.out.1 Hc.out.2 T1 L1 (by simp;omega) w w2 rb bc bo be Hr.out Hl.out R2 #[Bn8 be 2,Bn8 be 3] rfl);rw[←hT2] at H2;clear H1 hR0 R2;go_wp2_with fail
 refine H2.out.mono ?_;rintro e w3 ⟨rfl,R3⟩;obtain⟨T3,hT3⟩:∃T3,T3=Ag7 l 4 T2 [4]:=⟨_,rfl⟩;have L3:T3.L.length=8:=by rw[hT3,Bc7,L2]
 have A3:T3.at_≤22:=by rw[hT3];have:=Bn7 l 4 T2 [4];simp at this;omega
 have H3:=Lh (Bi8 4 4 rfl (by decide) (by decide) [4] (by decide) 1 rfl (by decide) 1 a c l Hc.out.1 Hc.out.2 T2 L2 (by simp;omega) w w3 rb bc bo be Hr.out Hl.out R3 #[Bn8 be 4] rfl);rw[←hT3] at H3;clear H2 R3;go_wp2_with fail
 refine H3.out.mono ?_;rintro e w4 ⟨rfl,R4⟩;have H4:=Lh (Bi8 8 8 rfl (by decide) (by decide) [5] (by decide) 1 rfl (by decide) 1 a c l Hc.out.1 Hc.out.2 T3 L3 (by simp;omega) w w4 rb bc bo be Hr.out Hl.out R4 #[Bn8 be 5] rfl);rw[show Ag7 l 8 T3 [5]=Bc8 l by rw[hT3,hT2,hT1];rfl] at H4;clear H3 R4;go_wp2_with fail
 refine H4.out.mono ?_;rintro e w5 ⟨rfl,R5⟩;have hTL:=De6 l;have HTg:=Lh (@Cw2 l);have HTb:=Lh (@De5 l);generalize Bc8 l=T at R5 hTL HTg HTb;obtain⟨at_,ok,L⟩:=T;obtain⟨⟨hA,hO,hE,hb⟩,hB,hR⟩:=R5;simp only at hA hO hE hTL HTg HTb;obtain⟨P,hP⟩:∃P,P=l.length-16:=⟨_,rfl⟩;have hPi:(l.length:Int)-16=(P:Int):=by omega
 have hs1:=fun W=>Bm5 Tryz.underlying22 Ai1 W a l.length c 30 (P:Int) (by omega) (by omega) (by have:=Hc.out.1;omega);have hs2:=fun W=>Ax3 Tryz.underlying22 Ai1 W a l.length c (P:Int) (by omega) (by omega);rw[show(P:Int).toNat-(30:Int).toNat=(U4 l).length by rw[Bd0];omega,show(30:Int).toNat=30 from rfl] at hs1;rw[show(P:Int).toNat=P from rfl,show l.length-P=(Ab6 l).length by rw[Bb1 l (by omega)];omega] at hs2;have HB1:=Lh (show A4 w (adv a c 30 1) (U4 l) from(A4.adv (cap:=c) (k:=30) Hl.out rfl Hc.out.1).take (l.length-46));have HB2:=Lh (show A4 w (adv a c P 1) (Ab6 l) from by have:=A4.adv (cap:=c) (k:=P) Hl.out rfl Hc.out.1;rwa [hP] at this ⊢);have hbl:=Bd0 l;have htl:=Bb1 l (by omega);have HBl:=Lh hbl;have HTl:=Lh htl;generalize adv a c 30 1=x1 at hs1 HB1;generalize adv a c P 1=x2 at hs2 HB2;generalize c-30=y1 at hs1;generalize c-P=y2 at hs2;have HC1:=Lh (fun(W:World) (h:Below w.heap.size w W)=>Cj5 x1 y1 (U4 l) W (by omega) (HB1.out.mono h));have HC2:=Lh (fun(W:World) (h:Below w.heap.size w W)=>Cj5 x2 y2 (Ab6 l) W (by omega) (HB2.out.mono h));have Hb5:=Lh hb;have HE5:=Lh hE;have HO5:=Lh hO;have HBb5:=Lh hB;have HR5:=Lh hR;have q0:w5.cell? ⟨w.heap.size,0,none⟩=some (.slice a l.length c):=hB.blk.cell 0 (by simp);have hgood:=Lh hTL;clear hbl htl hb hE hO hB hR hA H4 A1 A2 A3 L1 L2 L3 hT1 hT2 hT3 HB1 HB2 hP hTL;go_wp2_with fail
 refine(HC1.out _ Hb5.out).mono ?_;rintro e w6 ⟨a6,c6,rfl,B6⟩;have hc6:=B6.cap;have E6:=HE5.out.up B6.bel;have hbe:=HE5.out.blk.lt;have b6:=bt Hb5.out B6.bel;have O6:V5 w5.heap.size w6 (.slice a6 (U4 l).length c6) (U4 l).length (B8s (U4 l)):=⟨B6.own,B6.bel.size⟩;have r6:=HR5.out.up B6.bel;have o6:=HO5.out.up B6.bel;have p6:=HBb5.out.up B6.bel;have k6:=E6.blk.cell 6 (by rw[hgood.out];decide);have f6:=E6.blk.frozen;have n1:w.heap.size≠be:=by have:=Hr.out.e;omega
 have n2:rb≠be:=by have:=Hr.out.e;have:=Hr.out.r;omega
 have n3:bo≠be:=by have:=Hr.out.e;have:=Hr.out.o;omega
 have n4:w.heap.size≤be:=by have:=Hr.out.e;omega
 go_upto_region 14 with(fail)
 generalize hW7:World.setCell w6 _ _=W7;have E7:A6 65 W7 be (L.set 6 (.slice a6 (U4 l).length c6)):=by rw[←hW7];exact E6.set 6 _
 have p7:A6 22 W7 w.heap.size [.slice a l.length c]:=by rw[←hW7];exact p6.other n1 _
 have r7:A6 65 W7 rb G8:=by rw[←hW7];exact r6.other n2 _
 have o7:A6 4 W7 bo [.bool ok]:=by rw[←hW7];exact o6.other n3 _
 have O7:V5 w5.heap.size W7 (.slice a6 (U4 l).length c6) (U4 l).length (B8s (U4 l)):=by rw[←hW7];exact O6.cellset E6 (by decide) _
 have b7:Below w.heap.size w W7:=by rw[←hW7];exact b6.setCell n4 _
 clear hW7 E6 p6 r6 o6 O6 b6 k6 f6 q0 B6 HC1;have q7:W7.cell? ⟨w.heap.size,0,none⟩=some (.slice a l.length c):=p7.blk.cell 0 (by simp);go_wp2_with fail
 refine(HC2.out _ b7).mono ?_;rintro e w8 ⟨a8,c8,rfl,Bt⟩;have hc8:=Bt.cap;have E8:=E7.up Bt.bel;have hbe8:=E7.blk.lt;have b8:=bt b7 Bt.bel;have T8:V5 W7.heap.size w8 (.slice a8 (Ab6 l).length c8) (Ab6 l).length (B8s (Ab6 l)):=⟨Bt.own,Bt.bel.size⟩;have O8:=O7.up Bt.bel;have r8:=r7.up Bt.bel;have o8:=o7.up Bt.bel;have k8:=E8.blk.cell 7 (by rw[List.length_set,hgood.out];decide);have f8:=E8.blk.frozen;clear E7 p7 r7 o7 O7 b7 q7 Bt HC2;go_upto_region 15 with(fail)
 generalize hW9:World.setCell w8 _ _=W9;have E9:A6 65 W9 be ((L.set 6 (.slice a6 (U4 l).length c6)).set 7 (.slice a8 (Ab6 l).length c8)):=by rw[←hW9];exact E8.set 7 _
 have r9:=Lh (show A6 65 W9 rb G8 by rw[←hW9];exact r8.other n2 _);have o9:A6 4 W9 bo [.bool ok]:=by rw[←hW9];exact o8.other n3 _
 have O9:=Lh (show V5 w5.heap.size W9 (.slice a6 (U4 l).length c6) (U4 l).length (B8s (U4 l)) by rw[←hW9];exact O8.cellset E8 (by decide) _);have T9:=Lh (show V5 W7.heap.size W9 (.slice a8 (Ab6 l).length c8) (Ab6 l).length (B8s (Ab6 l)) by rw[←hW9];exact T8.cellset E8 (by decide) _);have b9:=Lh (show Below w.heap.size w W9 by rw[←hW9];exact b8.setCell n4 _);clear hW9 E8 r8 o8 O8 T8 b8 k8 f8;have HIr:=Lh X9;have hrb:w.heap.size≤rb:=by have:=Hr.out.r;omega
 by_cases hg:Bo0 l
 ·have hT:=HTg.out hg;rw[TS.mk.injEq] at hT;obtain⟨-,rfl,rfl⟩:=hT;have E9':A6 65 W9 be (I7 (I2 l 0 1) (I2 l 1 1) (I2 l 2 8) (I2 l 10 8) (I2 l 18 4) (I2 l 22 8) (.slice a6 (U4 l).length c6) (.slice a8 (Ab6 l).length c8)):=E9;have oc:W9.cell? ⟨bo,0,none⟩=some (.bool true):=o9.blk.cell 0 (by simp);clear E9 o9 HTg HTb;obtain⟨c0,c1,c2,c3,c4,c5,cc6,cc7⟩:=I4 E9'.blk;have HRt:=Lh (fun W=>Br2 (I2 l 0 1) (I2 l 1 1) (I2 l 2 8) (I2 l 10 8) (I2 l 18 4) (I2 l 22 8) a6 a8 (U4 l).length c6 (Ab6 l).length c8 (by omega) (by omega) W);rcases hrt:Af5 (I2 l 0 1) (I2 l 1 1) (I2 l 2 8) (I2 l 10 8) (I2 l 18 4) (I2 l 22 8) (U4 l).length (Ab6 l).length with _ | _
  ·rw[hrt] at HRt;go_wp2_with fail
   refine(HRt.out _).mono ?_;rintro e w10 ⟨rfl,hb10⟩;have r10:=Lh (r9.out.up hb10);have b10:=Lh (bt b9.out hb10);clear hb10;go_wp2_with (first | (refine I0 65 (.tmp 2) (.tmp 60) rb (old:=G8) (cs:=G8) rfl rfl rfl rfl ?hb HIr.out rfl rfl ?_;(case hb=>exact r10.out.blk)))
   refine bodyPost_ret (G6 rfl _ _ rb (cs:=G8) rfl _ rfl ?hb Tryz.underlying65 rfl X9) rfl ?_
   case hb=>exact(r10.out.row G8).blk
   refine⟨fun h=>?_,fun _=>⟨rfl,F6 b10.out hrb _⟩⟩;have e:=hrt;rw[HBl.out,HTl.out,h.2] at e;exact Bool.noConfusion e
  ·rw[hrt] at HRt;go_wp2_with fail
   refine(HRt.out _).mono ?_;rintro e w10 ⟨rfl,hb10⟩;have r10:=Lh (r9.out.up hb10);have b10:=Lh (bt b9.out hb10);have E10:=Lh (E9'.up hb10);have O10:=Lh (O9.out.up hb10);have T10:=Lh (T9.out.up hb10);clear hb10 c0 c1 c2 c3 c4 c5 cc6 cc7 E9';go_wp2_with (first
    | (refine C4 65 (.tmp 7) be (cs:=I7 (I2 l 0 1) (I2 l 1 1) (I2 l 2 8) (I2 l 10 8) (I2 l 18 4) (I2 l 22 8) (.slice a6 (U4 l).length c6) (.slice a8 (Ab6 l).length c8)) rfl rfl rfl ?hb Tryz.underlying65 rfl HIr.out ?_;(case hb=>exact E10.out.blk))
    | (refine I0 65 (.tmp 2) (.tmp 61) rb (old:=G8) (cs:=I7 (I2 l 0 1) (I2 l 1 1) (I2 l 2 8) (I2 l 10 8) (I2 l 18 4) (I2 l 22 8) (.slice a6 (U4 l).length c6) (.slice a8 (Ab6 l).length c8)) rfl rfl rfl rfl ?hb HIr.out rfl rfl ?_;(case hb=>exact r10.out.blk)))
   refine bodyPost_ret (G6 rfl _ _ rb (cs:=I7 (I2 l 0 1) (I2 l 1 1) (I2 l 2 8) (I2 l 10 8) (I2 l 18 4) (I2 l 22 8) (.slice a6 (U4 l).length c6) (.slice a8 (Ab6 l).length c8)) rfl _ rfl ?hb Tryz.underlying65 rfl X9) rfl ?_
   case hb=>exact(r10.out.row _).blk
   exact⟨fun _=>⟨a6,c6,a8,c8,rfl,hc6.2.1,hc6.2.2,hc8.2.1,hc8.2.2,(O10.out.row r10.out (by decide) _).at,(T10.out.row r10.out (by decide) _).at,F6 b10.out hrb _⟩,fun h=>(h ⟨hg,by have e:=hrt;rwa [HBl.out,HTl.out] at e⟩).elim⟩
 ·have hok:ok=false:=HTb.out hg;subst hok;have oc:W9.cell? ⟨bo,0,none⟩=some (.bool false):=o9.blk.cell 0 (by simp);clear E9 o9 HTg HTb;go_wp2_with (first | (refine I0 65 (.tmp 2) (.tmp 60) rb (old:=G8) (cs:=G8) rfl rfl rfl rfl ?hb HIr.out rfl rfl ?_;(case hb=>exact r9.out.blk)))
  refine bodyPost_ret (G6 rfl _ _ rb (cs:=G8) rfl _ rfl ?hb Tryz.underlying65 rfl X9) rfl ?_
  case hb=>exact(r9.out.row G8).blk
  exact⟨fun h=>(hg h.1).elim,fun _=>⟨rfl,F6 b9.out hrb _⟩⟩
abbrev z16:List UInt8:=List.replicate 16 0
theorem De7(n i:Nat):(Au4 n i).toNat=n/256^i%256:=by unfold Au4;rw[UInt8.toNat_ofNat']
theorem Bv9(l:List UInt8)(at_ n z:Nat)(h:∀i,i<z→l.getD (at_+i) 0=Au4 n (z-1-i))(hn:n<256^z):∀k,k≤z→I2 l at_ k=n/256^(z-k)
 | 0,_=>by
   show 0=_;rw[Nat.sub_zero,Nat.div_eq_of_lt hn]
 | k+1,hk=>by
   show I2 l at_ k*256+(l.getD (at_+k) 0).toNat=_;rw[Bv9 l at_ n z h hn k (by omega),h k (by omega),De7];obtain⟨j,hj⟩:∃j,z-k=j+1:=⟨z-k-1,by omega⟩;rw[show z-1-k=j by omega,show z-(k+1)=j by omega,hj,Nat.pow_succ,←Nat.div_div_eq_div_mul];omega
theorem Em8(l:List UInt8)(at_ n z:Nat)(h:∀i,i<z→l.getD (at_+i) 0=Au4 n (z-1-i))(hn:n<256^z):I2 l at_ z=n:=by
 rw[Bv9 l at_ n z h hn z (Nat.le_refl _),Nat.sub_self,Nat.pow_zero,Nat.div_one]
theorem Em9(n z i:Nat)(h:i<z):(J6 n z).getD i 0=Au4 n (z-1-i):=by
 unfold J6 Ao3;simp[List.getD,h];omega
theorem En0(X Y:List UInt8)(n z:Nat)(hn:n<256^z):I2 (X++J6 n z++Y) X.length z=n:=by
 refine Em8 _ _ _ _ (fun i hi=>?_) hn;rw[←Em9 n z i hi];have hl:=T7 n z;simp[List.getD,List.getElem?_append_left,List.getElem?_append_right,hl,hi]
theorem Cq2(l:List UInt8)(at_:Nat)(k:Nat):∀j,I2 l at_ (k+j)/256^j=I2 l at_ k
 | 0=>by simp
 | j+1=>by
   have h:=(l.getD (at_+(k+j)) 0).toNat_lt;show(I2 l at_ (k+j)*256+(l.getD (at_+(k+j)) 0).toNat)/256^(j+1)=_;rw[Nat.pow_succ,Nat.mul_comm (256^j) 256,←Nat.div_div_eq_div_mul,show(I2 l at_ (k+j)*256+(l.getD (at_+(k+j)) 0).toNat)/256=I2 l at_ (k+j) by omega];exact Cq2 l at_ k j
theorem Fe7(k d e0 e1 g s:Nat)(bl:List UInt8):inF k d e0 e1 g s bl=J6 k 1++(J6 d 1++(J6 e0 8++(J6 e1 8++(J6 g 4++(J6 s 8++bl))))):=by
 show((((((([]++J6 k 1)++J6 d 1)++J6 e0 8)++J6 e1 8)++J6 g 4)++J6 s 8)++bl)=_;simp only[List.nil_append,List.append_assoc]
theorem Bf1(X Y l:List UInt8)(n z at_:Nat)(hX:X.length=at_)(hl:l=X++J6 n z++Y)(hn:n<256^z):I2 l at_ z=n:=by
 subst hX;subst hl;exact En0 X Y n z hn
theorem Aj5.nums{k d e0 e1 g s n:Nat}(h:Aj5 k d e0 e1 g s n)(bl tl:List UInt8):∀l,l=inF k d e0 e1 g s bl++tl→
 I2 l 0 1=k∧I2 l 1 1=d∧I2 l 2 8=e0∧I2 l 10 8=e1∧I2 l 18 4=g∧I2 l 22 8=s:=by
 intro l hl;rw[Fe7] at hl;obtain⟨h1,h2,h3,h4,h5,h6,h7,h8,h9⟩:=h;refine⟨?_,?_,?_,?_,?_,?_⟩
 ·exact Bf1 [] _ l k 1 0 rfl (by rw[hl];simp only[List.nil_append,List.append_assoc];rfl) (by omega)
 ·exact Bf1 (J6 k 1) _ l d 1 1 (T7 _ _) (by rw[hl];simp only[List.append_assoc];rfl) (by omega)
 ·exact Bf1 (J6 k 1++J6 d 1) _ l e0 8 2 (by simp[T7]) (by rw[hl];simp only[List.append_assoc];rfl) (by omega)
 ·exact Bf1 (J6 k 1++(J6 d 1++J6 e0 8)) _ l e1 8 10 (by simp[T7]) (by rw[hl];simp only[List.append_assoc];rfl) (by omega)
 ·exact Bf1 (J6 k 1++(J6 d 1++(J6 e0 8++J6 e1 8))) _ l g 4 18 (by simp[T7]) (by rw[hl];simp only[List.append_assoc];rfl) (by omega)
 ·exact Bf1 (J6 k 1++(J6 d 1++(J6 e0 8++(J6 e1 8++J6 g 4)))) _ l s 8 22 (by simp[T7]) (by rw[hl];simp only[List.append_assoc];rfl) (by omega)
theorem Bx9{l:List UInt8}{at_:Nat}(h:I2 l at_ 8<9223372036854775808):¬Au2 l at_ 8:=by
 rintro⟨-,h2⟩;have e:=Cq2 l at_ 1 7;have e1:I2 l at_ 1=(l.getD at_ 0).toNat:=by
  show 0*256+(l.getD (at_+0) 0).toNat=_;rw[Nat.zero_mul,Nat.zero_add,Nat.add_zero]
 rw[e1,show(1+7:Nat)=8 from rfl] at e;omega
theorem Cq3(k d e0 e1 g s:Nat)(bl tl:List UInt8)(ht:tl.length=16):U4 (inF k d e0 e1 g s bl++tl)=bl∧Ab6 (inF k d e0 e1 g s bl++tl)=tl∧(inF k d e0 e1 g s bl++tl).length=bl.length+46:=by
 have hl:=Bf0 k d e0 e1 g s bl;have h1:(inF k d e0 e1 g s bl++tl).length=bl.length+46:=by rw[List.length_append,hl,ht];omega
 refine⟨?_,?_,h1⟩
 ·unfold U4;rw[h1];unfold inF;rw[List.append_assoc,List.drop_append_of_le_length (by rw[Cf5];exact Nat.le_refl _),List.drop_of_length_le (by rw[Cf5];exact Nat.le_refl _),List.nil_append,show bl.length+46-46=bl.length by omega,List.take_left]
 ·unfold Ab6;rw[h1,show bl.length+46-16=(inF k d e0 e1 g s bl).length by rw[hl];omega,List.drop_left]
theorem Aj5.good{k d e0 e1 g s:Nat}{bl:List UInt8}(h:Aj5 k d e0 e1 g s bl.length)(tl:List UInt8)(ht:tl.length=16):Ag0 (inF k d e0 e1 g s bl++tl):=by
 obtain⟨q1,q2,q3,q4,q5,q6⟩:=h.nums bl tl _ rfl;have hp:=h.parts;obtain⟨h1,h2,h3,h4,h5,h6,h7,h8,h9⟩:=h;refine⟨⟨Bx9 (by omega),Bx9 (by omega),Bx9 (by omega)⟩,?_⟩;rw[q1,q2,q3,q4,q5,q6,(Cq3 k d e0 e1 g s bl tl ht).2.2,show bl.length+46-46=bl.length by omega];unfold Af5;rw[hp];rfl
theorem Ag0.may{l:List UInt8}(h:Ag0 l):Aj5 (I2 l 0 1) (I2 l 1 1) (I2 l 2 8) (I2 l 10 8) (I2 l 18 4) (I2 l 22 8) (U4 l).length:=by
 have hp:=h.2;unfold Af5 at hp;rw[Bool.and_eq_true] at hp;obtain⟨K,D,E0,E1,G,S,k1,k2,k3,k4,k5,k6,hM⟩:=Cj6 hp.1;rw[Bd0];have e1:=Int.ofNat_inj.1 k1;have e2:=Int.ofNat_inj.1 k2;have e3:=Int.ofNat_inj.1 k3;have e4:=Int.ofNat_inj.1 k4;have e5:=Int.ofNat_inj.1 k5;have e6:=Int.ofNat_inj.1 k6;rw[e1,e2,e3,e4,e5,e6];exact hM
def tkF(l:List UInt8)(at_ z:Nat):Int:=if Au2 l at_ z then-1 else(I2 l at_ z:Int)
theorem Bl7(a:Option Addr)(c:Nat)(l:List UInt8)(at_ z:Nat)(ai zi:Int)(hai:ai=(at_:Int))(hzi:zi=(z:Int))(hz:1≤z)(hz8:z≤8)(hat:at_+z≤l.length)(hc:l.length≤c)(hc63:c≤maxLen)(w:World)(h:A4 w a l):
 Calls Tryz.prog 138 #[.slice a l.length c,.int .i64 ai,.int .i64 zi] w fun e w'=>e=.returned (.int .i64 (tkF l at_ z))∧w'=w:=by
 subst hai;subst hzi;have HT:=Lh (Cf3 a c l at_ z hz hz8 hat hc hc63 w h);obtain⟨V,hV⟩:∃V,V=tkF l at_ z:=⟨_,rfl⟩;rw[←hV];have HV:=Lh hV;clear hV;by_cases hb:Au2 l at_ z
 ·have HT2:=Lh (show Calls Tryz.prog 186 #[.slice a l.length c,.int .i64 at_,.int .i64 z] w (fun e w'=>e=.returned (.tuple #[.int .i64 0,.int .i64 0,.int .i64 2])∧w=w') from HT.out.mono fun e w' h=>by
   have h':=h.1;rw[if_pos (show z=8∧127<(l.getD at_ 0).toNat from hb)] at h';exact⟨h',h.2⟩)
  have HV2:=Lh (show V=-1 by rw[HV.out];exact if_pos hb);clear HT HV hb h hz hz8 hat
  go_enter Tryz.func138,Tryz.ntmps138
  go_wp2_with fail
  refine HT2.out.mono ?_;rintro e w1 ⟨rfl,rfl⟩;go_wp2_with fail
  go_ret;exact⟨by rw[HV2.out];rfl,rfl⟩
 ·have HT2:=Lh (show Calls Tryz.prog 186 #[.slice a l.length c,.int .i64 at_,.int .i64 z] w (fun e w'=>e=.returned (.tuple #[.int .i64 (I2 l at_ z),.int .i64 ((at_+z:Nat):Int),.int .i64 0])∧w=w') from HT.out.mono fun e w' h=>by
   have h':=h.1;rw[if_neg (show ¬(z=8∧127<(l.getD at_ 0).toNat) from hb)] at h';exact⟨h',h.2⟩)
  have HV2:=Lh (show V=(I2 l at_ z:Int) by rw[HV.out];exact if_neg hb);clear HT HV hb h hz hz8 hat
  go_enter Tryz.func138,Tryz.ntmps138
  go_wp2_with fail
  refine HT2.out.mono ?_;rintro e w1 ⟨rfl,rfl⟩;go_wp2_with fail
  go_ret;exact⟨by rw[HV2.out];rfl,rfl⟩
theorem En1(l:List UInt8)(n m:Nat):Af5 (tkF l 0 1) (tkF l 1 1) (tkF l 2 8) (tkF l 10 8) (tkF l 18 4) (tkF l 22 8) n m=true↔Bo0 l∧Af5 (I2 l 0 1) (I2 l 1 1) (I2 l 2 8) (I2 l 10 8) (I2 l 18 4) (I2 l 22 8) n m=true:=by
 have e1:tkF l 0 1=(I2 l 0 1:Int):=if_neg (Al6 (by decide));have e2:tkF l 1 1=(I2 l 1 1:Int):=if_neg (Al6 (by decide));have e5:tkF l 18 4=(I2 l 18 4:Int):=if_neg (Al6 (by decide));constructor
 ·intro h;have hp:=h;unfold Af5 at hp;rw[Bool.and_eq_true] at hp;obtain⟨K,D,E0,E1,G,S,k1,k2,k3,k4,k5,k6,hM⟩:=Cj6 hp.1;have key:∀at_ (N:Nat),tkF l at_ 8=(N:Int)→¬Au2 l at_ 8:=fun at_ N h hb=>by
   have:tkF l at_ 8=-1:=if_pos hb;omega
  have g3:=key _ _ k3;have g4:=key _ _ k4;have g6:=key _ _ k6;refine⟨⟨g3,g4,g6⟩,?_⟩;rw[e1,e2,e5,show tkF l 2 8=(I2 l 2 8:Int) from if_neg g3,show tkF l 10 8=(I2 l 10 8:Int) from if_neg g4,show tkF l 22 8=(I2 l 22 8:Int) from if_neg g6] at h;exact h
 ·rintro⟨⟨g3,g4,g6⟩,h⟩;rw[e1,e2,e5,show tkF l 2 8=(I2 l 2 8:Int) from if_neg g3,show tkF l 10 8=(I2 l 10 8:Int) from if_neg g4,show tkF l 22 8=(I2 l 22 8:Int) from if_neg g6];exact h
theorem Cl1(a:Option Addr)(c:Nat)(l:List UInt8)(h:l.length<47)(w:World):
 Calls Tryz.prog 65 #[.slice a l.length c] w (Bn9 w 3):=by
 have hd:(l.length:Int)<47:=by omega
 go_enter Tryz.func65,Tryz.ntmps65
 go_wp2_with fail
 refine bodyPost_ret (G6 rfl _ _ w.heap.size (cs:=G8) rfl _ rfl ?hb Tryz.underlying65 rfl X9) rfl ?_
 case hb=>exact Blk.new w G8 65
 exact⟨rfl,ba w _⟩
theorem Cq4(a:Option Addr)(c:Nat)(l:List UInt8)(h:946<l.length)(hm:l.length≤maxLen)(w:World):
 Calls Tryz.prog 65 #[.slice a l.length c] w (Bn9 w 4):=by
 unfold maxLen at hm;have hd:¬(l.length:Int)<47:=by omega
 have hd2:(946:Int)<(l.length:Int):=by omega
 go_enter Tryz.func65,Tryz.ntmps65
 go_wp2_with fail
 refine bodyPost_ret (G6 rfl _ _ w.heap.size (cs:=G8) rfl _ rfl ?hb Tryz.underlying65 rfl X9) rfl ?_
 case hb=>exact Blk.new w G8 65
 exact⟨rfl,ba w _⟩
theorem Cq5(w:World)(L M:List Value):A6 65 ((w.alloc (.cells L.toArray 65)).alloc (.cells M.toArray 65)).drew w.heap.size L∧A6 65 ((w.alloc (.cells L.toArray 65)).alloc (.cells M.toArray 65)).drew (w.heap.size+1) M∧Below w.heap.size w ((w.alloc (.cells L.toArray 65)).alloc (.cells M.toArray 65)).drew:=by
 have k1:=A6.new (w.alloc (.cells L.toArray 65)) M 65;rw[I9] at k1;exact⟨((A6.new w L _).up (ba _ _)).up (bd _),k1.up (bd _),btd (bta (ba w _) _)⟩
theorem bd3(w:World)(o:Obj):Below w.heap.size w (w.alloc o).drew:=bt (ba w o) (bd _)
theorem bd4(w:World)(o p:Obj):Below w.heap.size w ((w.alloc o).alloc p).drew:=bt (bta (ba w o) _) (bd _)
theorem Cw3(a:Option Addr)(c:Nat)(l:List UInt8)(h1:47≤l.length)(h2:l.length≤946)(hc:l.length≤c)(hcm:c≤maxLen)(w:World)(hl:A4 w a l):
 Calls Tryz.prog 65 #[.slice a l.length c] w fun e w'=>(Ag0 l→Cq1 w (I2 l 0 1) (I2 l 1 1) (I2 l 2 8) (I2 l 10 8) (I2 l 18 4) (I2 l 22 8) (U4 l) (Ab6 l) e w')∧(¬Ag0 l→Bn9 w 2 e w'):=by
 have Hl:=Lh hl;have Hc:=Lh (And.intro hc hcm);have i1:¬(l.length:Int)<47:=by omega
 have i2:¬(946:Int)<(l.length:Int):=by omega
 obtain⟨P,hP⟩:∃P,P=l.length-16:=⟨_,rfl⟩;have hPi:(l.length:Int)-16=(P:Int):=by omega
 have hPw:IntKind.i64.wrap ((l.length:Int)-16)=(P:Int):=by rw[hPi];exact IntWalk.i64_in _ (by omega)
 have hs1:=fun W=>Bm5 Tryz.underlying22 Ai1 W a l.length c 30 (P:Int) (by omega) (by omega) (by omega);have hs2:=fun W=>Ax3 Tryz.underlying22 Ai1 W a l.length c (P:Int) (by omega) (by omega);rw[show(P:Int).toNat-(30:Int).toNat=(U4 l).length by rw[Bd0];omega,show(30:Int).toNat=30 from rfl] at hs1;rw[show(P:Int).toNat=P from rfl,show l.length-P=(Ab6 l).length by rw[Bb1 l (by omega)];omega] at hs2;have HB1:=Lh (show A4 w (adv a c 30 1) (U4 l) from(A4.adv (cap:=c) (k:=30) Hl.out rfl Hc.out.1).take (l.length-46));have HB2:=Lh (show A4 w (adv a c P 1) (Ab6 l) from by have:=A4.adv (cap:=c) (k:=P) Hl.out rfl Hc.out.1;rwa [hP] at this ⊢);have hbl:=Bd0 l;have htl:=Bb1 l (by omega);have Hc1:=Lh (show(U4 l).length≤c-30∧c-30≤maxLen by omega);have Hc2:=Lh (show(Ab6 l).length≤c-P∧c-P≤maxLen by omega);generalize adv a c 30 1=x1 at hs1 HB1;generalize adv a c P 1=x2 at hs2 HB2;generalize c-30=y1 at hs1 Hc1;generalize c-P=y2 at hs2 Hc2;have HR:=Lh (En1 l (U4 l).length (Ab6 l).length);have HRt:=Lh (fun W=>Ca9 (tkF l 0 1) (tkF l 1 1) (tkF l 2 8) (tkF l 10 8) (tkF l 18 4) (tkF l 22 8) x1 x2 (U4 l).length y1 (Ab6 l).length y2 (by omega) (by omega) W);have HI:=Lh X9;obtain⟨t0,e0⟩:∃t,t=tkF l 0 1:=⟨_,rfl⟩;obtain⟨t1,e1⟩:∃t,t=tkF l 1 1:=⟨_,rfl⟩;obtain⟨t2,e2⟩:∃t,t=tkF l 2 8:=⟨_,rfl⟩;obtain⟨t3,e3⟩:∃t,t=tkF l 10 8:=⟨_,rfl⟩;obtain⟨t4,e4⟩:∃t,t=tkF l 18 4:=⟨_,rfl⟩;obtain⟨t5,e5⟩:∃t,t=tkF l 22 8:=⟨_,rfl⟩;have T0:=Lh (fun(W:World) (hb:Below w.heap.size w W)=>(Bl7 a c l 0 1 0 1 rfl rfl (by decide) (by decide) (by omega) Hc.out.1 Hc.out.2 W (hl.mono hb)));have T1:=Lh (fun(W:World) (hb:Below w.heap.size w W)=>(Bl7 a c l 1 1 1 1 rfl rfl (by decide) (by decide) (by omega) Hc.out.1 Hc.out.2 W (hl.mono hb)));have T2:=Lh (fun(W:World) (hb:Below w.heap.size w W)=>(Bl7 a c l 2 8 2 8 rfl rfl (by decide) (by decide) (by omega) Hc.out.1 Hc.out.2 W (hl.mono hb)));have T3:=Lh (fun(W:World) (hb:Below w.heap.size w W)=>(Bl7 a c l 10 8 10 8 rfl rfl (by decide) (by decide) (by omega) Hc.out.1 Hc.out.2 W (hl.mono hb)));have T4:=Lh (fun(W:World) (hb:Below w.heap.size w W)=>(Bl7 a c l 18 4 18 4 rfl rfl (by decide) (by decide) (by omega) Hc.out.1 Hc.out.2 W (hl.mono hb)));have T5:=Lh (fun(W:World) (hb:Below w.heap.size w W)=>(Bl7 a c l 22 8 22 8 rfl rfl (by decide) (by decide) (by omega) Hc.out.1 Hc.out.2 W (hl.mono hb)));rw[←e0] at T0 HR HRt;rw[←e1] at T1 HR HRt;rw[←e2] at T2 HR HRt;rw[←e3] at T3 HR HRt;rw[←e4] at T4 HR HRt;rw[←e5] at T5 HR HRt;have Hlen:=Lh (And.intro hbl htl);have Het:=Lh (show Bo0 l→t0=(I2 l 0 1:Int)∧t1=(I2 l 1 1:Int)∧t2=(I2 l 2 8:Int)∧t3=(I2 l 10 8:Int)∧t4=(I2 l 18 4:Int)∧t5=(I2 l 22 8:Int) from fun g=>⟨by rw[e0];exact if_neg (Al6 (by decide)),by rw[e1];exact if_neg (Al6 (by decide)),by rw[e2];exact if_neg g.1,by rw[e3];exact if_neg g.2.1,by rw[e4];exact if_neg (Al6 (by decide)),by rw[e5];exact if_neg g.2.2⟩);clear hl hc hcm hP hPi hbl htl e0 e1 e2 e3 e4 e5;go_enter Tryz.func65,Tryz.ntmps65
 go_upto_region 6 with(fail)
 go_cut [5] (fun v5 wx=>v5=.pointer (some ⟨w.heap.size+1,0,none⟩)∧A6 65 wx w.heap.size G8∧A6 65 wx (w.heap.size+1) (I7 t0 t1 t2 t3 t4 t5 (.slice x1 (U4 l).length y1) (.slice x2 (Ab6 l).length y2))∧Below w.heap.size w wx)
 case first=>
  go_region_held3 (fun w'=>True) (trivial) (first
   | (go_at_call 138;(with_reducible refine Calls.mono (T0.out _ (by first | exact bd3 _ _ | exact bd4 _ _ _)) ?_);rintro e w1 ⟨rfl,rfl⟩)
   | (go_at_call 138;(with_reducible refine Calls.mono (T1.out _ (by first | exact bd3 _ _ | exact bd4 _ _ _)) ?_);rintro e w1 ⟨rfl,rfl⟩)
   | (go_at_call 138;(with_reducible refine Calls.mono (T2.out _ (by first | exact bd3 _ _ | exact bd4 _ _ _)) ?_);rintro e w1 ⟨rfl,rfl⟩)
   | (go_at_call 138;(with_reducible refine Calls.mono (T3.out _ (by first | exact bd3 _ _ | exact bd4 _ _ _)) ?_);rintro e w1 ⟨rfl,rfl⟩)
   | (go_at_call 138;(with_reducible refine Calls.mono (T4.out _ (by first | exact bd3 _ _ | exact bd4 _ _ _)) ?_);rintro e w1 ⟨rfl,rfl⟩)
   | (go_at_call 138;(with_reducible refine Calls.mono (T5.out _ (by first | exact bd3 _ _ | exact bd4 _ _ _)) ?_);rintro e w1 ⟨rfl,rfl⟩))
  all_goals
   go_wp2_with fail
   go_meet
   exact⟨rfl,(Cq5 w _ _).1,(Cq5 w _ _).2.1,(Cq5 w _ _).2.2⟩
 case rest=>
  obtain⟨rfl,hR,hE,hb⟩:=hcut;generalize w.heap.size+1=be at hE ⊢;have R0:=Lh hR;have E0:=Lh hE;have B0:=Lh hb;clear hR hE hb hs1 hs2 hPw T0 T1 T2 T3 T4 T5 i1 i2;go_wp2_with (first | (refine C4 65 (.tmp 5) be (cs:=I7 t0 t1 t2 t3 t4 t5 (.slice x1 (U4 l).length y1) (.slice x2 (Ab6 l).length y2)) rfl rfl rfl ?hb Tryz.underlying65 rfl HI.out ?_;(case hb=>exact E0.out.blk)))
  refine(HRt.out _).mono ?_;rintro e w10 ⟨rfl,hb10⟩;have R1:=Lh (R0.out.up hb10);have E1:=Lh (E0.out.up hb10);have B1:=Lh (bt B0.out hb10);have Hrb:w.heap.size≤w.heap.size:=Nat.le_refl _;clear hb10 R0 E0 B0 HRt;rcases hrt:Af5 t0 t1 t2 t3 t4 t5 (U4 l).length (Ab6 l).length with _ | _
  ·have Hno:=Lh (show ¬Ag0 l from fun h=>by
    have e:=HR.out.2 ⟨h.1,by have:=h.2;rwa [←Hlen.out.1,←Hlen.out.2] at this⟩;rw[hrt] at e;exact Bool.noConfusion e)
   clear HR;go_wp2_with (first | (refine I0 65 (.tmp 2) (.tmp 42) w.heap.size (old:=G8) (cs:=G8) rfl rfl rfl rfl ?hb HI.out rfl rfl ?_;(case hb=>exact R1.out.blk)))
   refine bodyPost_ret (G6 rfl _ _ w.heap.size (cs:=G8) rfl _ rfl ?hb Tryz.underlying65 rfl X9) rfl ?_
   case hb=>exact(R1.out.row G8).blk
   exact⟨fun h=>(Hno.out h).elim,fun _=>⟨rfl,F6 B1.out Hrb _⟩⟩
  ·have Hyes:=Lh (HR.out.1 hrt);clear HR;go_wp2_with (first
    | (refine C4 65 (.tmp 5) be (cs:=I7 t0 t1 t2 t3 t4 t5 (.slice x1 (U4 l).length y1) (.slice x2 (Ab6 l).length y2)) rfl rfl rfl ?hb Tryz.underlying65 rfl HI.out ?_;(case hb=>exact E1.out.blk))
    | (refine I0 65 (.tmp 2) (.tmp 43) w.heap.size (old:=G8) (cs:=I7 t0 t1 t2 t3 t4 t5 (.slice x1 (U4 l).length y1) (.slice x2 (Ab6 l).length y2)) rfl rfl rfl rfl ?hb HI.out rfl rfl ?_;(case hb=>exact R1.out.blk)))
   refine bodyPost_ret (G6 rfl _ _ w.heap.size (cs:=I7 t0 t1 t2 t3 t4 t5 (.slice x1 (U4 l).length y1) (.slice x2 (Ab6 l).length y2)) rfl _ rfl ?hb Tryz.underlying65 rfl X9) rfl ?_
   case hb=>exact(R1.out.row _).blk
   have hg:=Hyes.out;refine⟨fun _=>⟨x1,y1,x2,y2,?_,Hc1.out.1,Hc1.out.2,Hc2.out.1,Hc2.out.2,HB1.out.mono (F6 B1.out Hrb _),HB2.out.mono (F6 B1.out Hrb _),F6 B1.out Hrb _⟩,fun h=>(h ⟨hg.1,by have e:=hg.2;rwa [Hlen.out.1,Hlen.out.2] at e⟩).elim⟩;have g:=hg.1;obtain⟨q0,q1,q2,q3,q4,q5⟩:=Het.out g;rw[←q0,←q1,←q2,←q3,←q4,←q5];rfl
def Cm4:List UInt8:=[121,101,116,116]
def Bo1:Nat:=4611686018427387904
def De8(l:List UInt8):List UInt8:=(ofF (Cm4++l)).take 8
def Au3(n:Nat):List UInt8:=J6 n 8++De8 (J6 n 8)
theorem Dz6(l:List UInt8):(De8 l).length=8:=by unfold De8;rw[List.length_take,Ag4];rfl
theorem By0(n:Nat):(Au3 n).length=16:=by unfold Au3;rw[List.length_append,T7,Dz6]
theorem Ew9:Bo1<256^8:=by decide
def Ap6:List UInt8:=List.replicate 16 0
theorem V8.later{w0 w w':World}{v:Value}{l:List UInt8}(h:V8 w0 w v l)(hb:Below w.heap.size w w'):V8 w0 w' v l:=V8.of rfl (h.buf.later hb)
theorem Ex0{w0 w:World}{b n:Nat}{l:List UInt8}(hn:l.length=n)(h:A6 5 w b (B8s l))(hb:w0.heap.size≤b)(hbel:Below w0.heap.size w0 w)(hl:n≤maxLen):V8 w0 w (.slice (some ⟨b,0,none⟩) n n) l:=by
 subst hn;exact⟨⟨by simp,.inr ⟨b,l.length,(B8s l).toArray,rfl,hb,h,Nat.le_refl _,hl,by simp,by rw[Nat.mul_one];exact List.take_of_length_le (by simp)⟩⟩,hbel⟩
theorem En2(T D:List UInt8)(hT:T.length=12)(hD:D=ofF T)(b:Option Addr)(c:Nat)(w:World)(h:A4 w b T):
 Calls Tryz.prog 117 #[.slice b T.length c] w (Aq7 w D):=by
 subst hD;exact(Bi4 b c T (by rw[hT];decide) w h).mono fun _ _ h=>Dd4 rfl (Ag4 T) h
theorem Cq6{w:World}{b:Addr}{cs:List Value}(h:At w (some b) cs)(h0:cs≠[]):∀j u,cs[j]?=some u→w.cell? (b.add j)=some u:=by
 rcases h with h | ⟨b',off,he,hlt,hc⟩
 ·exact absurd h h0
 ·cases he
  intro j u hj;have hjl:j<cs.length:=by
   rcases Nat.lt_or_ge j cs.length with h | h
   ·exact h
   ·rw[List.getElem?_eq_none h] at hj;cases hj
  rw[WideShapes.add_plain,hc j hjl];simp[List.getD,hj]
theorem Eu4{l:List UInt8}(h:0<l.length):B8s l≠[]:=fun e=>by
 have h2:l=[]:=by simpa using e
 rw[h2] at h;simp at h
theorem Cq7{ops:Array Oper}{rest:List Oper}{o:Oper}{a:Act}{w:World}{Q:Exit→Act→World→Prop}(s x:Operand)(hgd:o.guard=Option.none)
 (ho:o.op=.call {callee:=.builtin .append,args:=#[s,x],argTypes:=#[22,22]}) {b sp:Option Addr} {n cap:Nat} (l:List UInt8) (hs:a.eval s=.slice b n cap) (hn:l.length=n) (hS0:A4 w b l) (hl0:0<n)
 {m c:Nat} (news:List UInt8) (hx:a.eval x=.slice sp m c) (hS:A4 w sp news) (hl:m=news.length) (hm0:0<m) (hg:cap<n+m) (h63:n+m≤100000) (l2:List UInt8) (hl2:l2=l++news)
 (h:∀a' cap' w',V8 w w' (.slice a' l2.length cap') l2→wpList Tryz.prog ops Q rest (a.put o.dst (.slice a' l2.length cap')) w'):wpList Tryz.prog ops Q (o::rest) a w:=by
 subst hl2;subst hl;subst hn;refine wpList_plain hgd fun K hK=>?_;obtain⟨i,hi,hz,hsz,hby⟩:=W5.info;have n0:=Eu4 hl0;have n1:=Eu4 hm0;have hb:∃b',b=some b':=by
  rcases hS0 with h | ⟨b',off,he,-⟩
  ·exact absurd h n0
  ·exact⟨_,he⟩
 have hp:∃b',sp=some b':=by
  rcases hS with h | ⟨b',off,he,-⟩
  ·exact absurd h n1
  ·exact⟨_,he⟩
 obtain⟨b,rfl⟩:=hb;obtain⟨sp,rfl⟩:=hp;obtain⟨v',w',hr,hown,hgr⟩:=run_append_arg_grows (P:=Tryz.prog) w 22 o.type 5 i (.int .u8 0) 1 1 Tryz.underlying22 hi hz hsz hby rfl (by decide) b l.length cap (B8s l) (by simp) (Cq6 hS0 n0) sp news.length c (B8s news) (by simp) (Cq6 hS n1) hg (by unfold maxLen;omega) (by omega);obtain⟨a',cap',rfl,-,-⟩:=U6 hown;unfold Oper.wp execOp;simp only[ho,resolve,List.map_toArray,List.map_cons,List.map_nil,hs,hx,invoke,builtin,Sem.run_bind,Sem.run_pure,Result.andThen_ok,hr];have hlen:(l++news).length=l.length+news.length:=List.length_append;have hO:V8 w w' (.slice a' (l++news).length cap') (l++news):=⟨by rw[hlen,Af9];exact hown,⟨hgr.os,hgr.tape,hgr.output,hgr.size,fun k hk=>hgr.block k hk (by simp)⟩⟩;rw[←hlen];exact hK _ _ (h a' cap' w' hO)
abbrev Cm5:Array Value:=#[.int .u8 121,.int .u8 101,.int .u8 116,.int .u8 116]
theorem En3(W:World):(convert 22 22 (.slice (some ⟨W.heap.size,0,none⟩) 4 4)).run Tryz.prog (W.alloc (.cells Cm5 5))=.ok (.slice (some ⟨W.heap.size,0,none⟩) 4 4) (W.alloc (.cells Cm5 5 (4,5))):=
 Lib.run_convert_bytes_const W 22 5 Cm5 4 4 Tryz.underlying22 Tryz.underlying5
theorem Ex1(W:World):A4 (W.alloc (.cells Cm5 5 (4,5))) (some ⟨W.heap.size,0,none⟩) Cm4:=by
 refine .inr ⟨W.heap.size,0,rfl,by simp,fun i hi=>?_⟩;have hi4:i<4:=hi;rw[World.cell?_alloc_mark];rcases(show i=0∨i=1∨i=2∨i=3 by omega) with rfl | rfl | rfl | rfl<;>rfl
def Cq8(w:World)(n:Nat)(e:Ending)(w':World):Prop:=∃a c,e=.returned (.tuple #[.slice a 16 c,.int .i64 0])∧V8 w w' (.slice a 16 c) (Au3 n)
theorem Dz7(n:Nat)(h1:1≤n)(h2:n≤Bo1)(w:World):
 Calls Tryz.prog 172 #[.int .i64 n] w (Cq8 w n):=by
 have HB:=Lh (fun W=>(show Calls Tryz.prog 113 #[.int .i64 n,.int .i64 8] W (Br0 W n 8) from Ay9 n 8 (by omega) (by omega) (Nat.lt_of_le_of_lt h2 Ew9) (by unfold Bo1 at h2;omega) W));unfold Bo1 at h2;have d1:¬(n:Int)<1:=by omega
 have d2:¬(4611686018427387904:Int)<(n:Int):=by omega
 obtain⟨R,hR⟩:∃R,R=Au3 n:=⟨_,rfl⟩;have hRl:R.length=16:=by rw[hR,By0]
 obtain⟨T,hT⟩:∃T,T=Cm4++J6 n 8:=⟨_,rfl⟩;have hTl:T.length=12:=by rw[hT,List.length_append,T7];rfl
 obtain⟨D,hD⟩:∃D,D=ofF T:=⟨_,rfl⟩;have HRe:=Lh (show R=J6 n 8++D.take 8 by rw[hR,hD,hT];rfl);have HO:=Lh (En2 T D hTl hD);have HDl:=Lh (show D.length=32 by rw[hD,Ag4]);have HBl:=Lh (T7 n 8);unfold Br0 at HB;unfold Cq8;rw[←hR];generalize J6 n 8=B at HB hT HRe HBl;have HT:=Lh hT;have HRl:=Lh hRl;clear hT hD hR hRl hTl h1 h2;go_enter Tryz.func172,Tryz.ntmps172
 go_wp2_with fail
 refine(HB.out _).mono ?_;rintro e w1 ⟨rfl,hB1,hb1⟩;have H1:=Lh (Ex0 HBl.out hB1 (Nat.le_refl _) hb1 (by decide)).at
 clear hB1 HB;have Hb1:=Lh hb1;clear hb1;have hcv:=En3 w1;go_wp2_with (at_builtin;(refine Cq7 (.tmp 19) (.tmp 20) rfl rfl Cm4 rfl rfl (Ex1 w1) (by decide) B rfl (H1.out.mono (ba w1 _)) HBl.out.symm (by decide) (by decide) (by decide) T HT.out ?_;intro a2 c2 w2 h2;have H2:=Lh h2;clear h2))
 have H1':=Lh (H1.out.mono ((ba w1 _).trans (H2.out.bel.mono (ba w1 _).size)));have Hb2:=Lh (bt (bt Hb1.out (ba w1 _)) H2.out.bel);refine(HO.out a2 c2 w2 H2.out.at).mono ?_;rintro e w3 ⟨a3,c3,rfl,⟨hc3,hm3⟩,hat3,hb3⟩;have H3:=Lh (H1'.out.mono hb3);have Hb3:=Lh (bt Hb2.out hb3);have hs:∀W,(Instr.sliceAt 22 (.slice a3 32 c3) none (some (.int .i64 8)) none).run Tryz.prog W=.ok (.slice a3 8 c3) W:=fun W=>Bm7 Tryz.underlying22 Ai1 W a3 32 c3 8 (by omega);have Hat:=Lh (A4.take hat3 8);clear hat3 hb3 hc3 hm3 H1 H1' H2;go_wp2_with fail
 have HRB:=Lh (show B8s B++B8s (D.take 8)=B8s R by rw[HRe.out,Af9])
 go_region_held3 (fun w'=>True) (trivial) (first
  | (refine Aw4 (.tmp 23) (.tmp 24) 22 rfl rfl W5 rfl (Buf.made' w3 _ (bd w3) 5 [] 0 0 (Nat.le_refl _) rfl (by decide)) (news:=B8s B) (m:=8) rfl (H3.out.mono (bta (bd w3) _)) (by rw[List.length_map,HBl.out]) (M4 _) (by decide) (by decide) 8 rfl (B8s B) rfl ?_;intro a5 c5 w5 h5)
  | (refine Aw4 (.tmp 25) (.tmp 27) 22 rfl rfl W5 rfl h5 (news:=B8s (D.take 8)) (m:=8) rfl (Hat.out.mono h5.bel) (by rw[List.length_map,List.length_take,HDl.out];rfl) (M4 _) (by decide) (by decide) 16 rfl (B8s R) HRB.out ?_;intro a6 c6 w6 h6))
 all_goals
  go_split_ands
  go_wp2_with fail
  go_ret2
  exact⟨a6,c6,rfl,V8.of HRl.out.symm ⟨Aw7 h6.own Hb3.out.size,bt Hb3.out h6.bel⟩⟩
def Bb2(w:World)(v:Value)(l m:List UInt8):Prop:=
 ∃a c b d,v=.agg #[.slice a l.length c,.slice b m.length d]∧(l.length≤c∧c≤maxLen)∧(m.length≤d∧d≤maxLen)∧A4 w a l∧A4 w b m
theorem Bb2.up{w w':World}{v:Value}{l m:List UInt8}(h:Bb2 w v l m)(hb:Below w.heap.size w w'):Bb2 w' v l m:=by
 obtain⟨a,c,b,d,h1,h2,h3,h4,h5⟩:=h;exact⟨a,c,b,d,h1,h2,h3,h4.mono hb,h5.mono hb⟩
def Ah8(l m:List UInt8):Bool:=(l.length==16)&&(m.length==16)
def Bg1(l m:List UInt8):Bool:=decide (l.length≤100)&&decide (m.length≤100)
theorem De9{l m:List UInt8}:Ah8 l m=true↔l.length=16∧m.length=16:=by unfold Ah8;simp
theorem Cm6(l:List UInt8)(b:Bool)(h:(l.length==16)=b):((l.length:Int)==16)=b:=by
 rw[←h];cases hq:(l.length==16)
 ·have:l.length≠16:=by simpa using hq
  rw[beq_eq_false_iff_ne];omega
 ·have:l.length=16:=by simpa using hq
  rw[beq_iff_eq];omega
theorem Cw4(v:Value)(l m:List UInt8)(w:World)(h:Bb2 w v l m):Calls Tryz.prog 93 #[v] w (F9 w (Ah8 l m)):=by
 obtain⟨a,c,b,d,rfl,-,-,-,-⟩:=h;rcases h1:(l.length==16) with _ | _;all_goals
  have k1:=Cm6 l _ h1;rcases h2:(m.length==16) with _ | _;all_goals
   have k2:=Cm6 m _ h2;have HE:=Lh (show Ah8 l m=_ by unfold Ah8;rw[h1,h2]);clear h1 h2;go_enter Tryz.func93,Tryz.ntmps93
   go_wp2_with fail
   go_ret;exact⟨by rw[HE.out];rfl,ba _ _⟩
theorem Cf7(v:Value)(l m:List UInt8)(w:World)(h:Bb2 w v l m):Calls Tryz.prog 80 #[v] w (F9 w (Ah8 l m)):=by
 obtain⟨a,c,b,d,rfl,-,-,-,-⟩:=h;rcases h1:(l.length==16) with _ | _;all_goals
  have k1:=Cm6 l _ h1;rcases h2:(m.length==16) with _ | _;all_goals
   have k2:=Cm6 m _ h2;have HE:=Lh (show Ah8 l m=_ by unfold Ah8;rw[h1,h2]);clear h1 h2;go_enter Tryz.func80,Tryz.ntmps80
   go_wp2_with fail
   go_ret;exact⟨by rw[HE.out];rfl,ba _ _⟩
theorem Dz8(v:Value)(l m:List UInt8)(w:World)(h:Bb2 w v l m):Calls Tryz.prog 87 #[v] w (F9 w (Bg1 l m)):=by
 obtain⟨a,c,b,d,rfl,-,-,-,-⟩:=h;by_cases h1:l.length≤100
 ·have k1:(l.length:Int)≤100:=by omega
  by_cases h2:m.length≤100
  ·have k2:(m.length:Int)≤100:=by omega
   have HE:=Lh (show Bg1 l m=true by unfold Bg1;rw[decide_eq_true h1,decide_eq_true h2];rfl);clear h1 h2;go_enter Tryz.func87,Tryz.ntmps87
   go_wp2_with fail
   go_ret;exact⟨by rw[HE.out];rfl,ba _ _⟩
  ·have k2:¬(m.length:Int)≤100:=by omega
   have HE:=Lh (show Bg1 l m=false by unfold Bg1;rw[decide_eq_true h1,decide_eq_false h2];rfl);clear h1 h2;go_enter Tryz.func87,Tryz.ntmps87
   go_wp2_with fail
   go_ret;exact⟨by rw[HE.out];rfl,ba _ _⟩
 ·have k1:¬(l.length:Int)≤100:=by omega
  have HE:=Lh (show Bg1 l m=false by unfold Bg1;rw[decide_eq_false h1];rfl);clear h1;go_enter Tryz.func87,Tryz.ntmps87
  go_wp2_with fail
  go_ret;exact⟨by rw[HE.out];rfl,ba _ _⟩
def Av5(l m l2 m2:List UInt8):Bool:=(l==l2)&&(m==m2)
theorem Cb0{w:World}{b:Nat}{v0 v1:Value}(h:Blk w b [v0,v1]):w.cell? ⟨b,0,none⟩=some v0∧w.cell? ⟨b,1,none⟩=some v1:=
 ⟨h.cell 0 (by simp),h.cell 1 (by simp)⟩
theorem Df0(v v2:Value)(l m l2 m2:List UInt8)(w:World)(h:Bb2 w v l m)(h2:Bb2 w v2 l2 m2):Calls Tryz.prog 104 #[v,v2] w (F9 w (Av5 l m l2 m2)):=by
 obtain⟨a,c,b,d,rfl,-,-,ha,hb⟩:=h;obtain⟨a2,c2,b2,d2,rfl,-,-,ha2,hb2⟩:=h2;have HE1:=Lh (fun(W:World) (h:Below w.heap.size w W)=>Ag3 a a2 l.length c l2.length c2 l l2 W rfl rfl (ha.mono h) (ha2.mono h));have HE2:=Lh (fun(W:World) (h:Below w.heap.size w W)=>Ag3 b b2 m.length d m2.length d2 m m2 W rfl rfl (hb.mono h) (hb2.mono h));have HS:=Lh (show Av5 l m l2 m2=((l==l2)&&(m==m2)) from rfl);clear ha hb ha2 hb2;generalize (l==l2)=p1 at HE1 HS;generalize (m==m2)=p2 at HE2 HS;rcases p1 with _ | _;all_goals
  rcases p2 with _ | _;all_goals
   go_enter Tryz.func104,Tryz.ntmps104
   go_wp2_with fail
   generalize hW:World.alloc _ _=W;obtain⟨B1,B2,hb⟩:=Aj9 (a:=[.slice a l.length c,.slice b m.length d]) (b:=[.slice a2 l2.length c2,.slice b2 m2.length d2]) hW;clear hW;generalize w.heap.size+1=n2 at B2 ⊢;obtain⟨x0,x1⟩:=Cb0 B1;obtain⟨y0,y1⟩:=Cb0 B2;refine(HE1.out _ hb).mono ?_;rintro e w2 ⟨rfl,rfl⟩;have Hb:=Lh hb;clear hb B1 B2 HE1;go_wp2_with fail
   try (refine(HE2.out _ Hb.out).mono ?_;rintro e w2 ⟨rfl,rfl⟩)
   try go_wp2_with fail
   go_ret;exact⟨by rw[HS.out];rfl,Hb.out⟩
theorem Cl2(v v2:Value)(l m l2 m2:List UInt8)(w:World)(h:Bb2 w v l m)(h2:Bb2 w v2 l2 m2):Calls Tryz.prog 40 #[v,v2] w (F9 w (Av5 l m l2 m2)):=by
 obtain⟨a,c,b,d,rfl,-,-,ha,hb⟩:=h;obtain⟨a2,c2,b2,d2,rfl,-,-,ha2,hb2⟩:=h2;have HE1:=Lh (fun(W:World) (h:Below w.heap.size w W)=>Y8 a a2 l.length c l2.length c2 l l2 W rfl rfl (ha.mono h) (ha2.mono h));have HE2:=Lh (fun(W:World) (h:Below w.heap.size w W)=>Y8 b b2 m.length d m2.length d2 m m2 W rfl rfl (hb.mono h) (hb2.mono h));have HS:=Lh (show Av5 l m l2 m2=((l==l2)&&(m==m2)) from rfl);clear ha hb ha2 hb2;generalize (l==l2)=p1 at HE1 HS;generalize (m==m2)=p2 at HE2 HS;rcases p1 with _ | _;all_goals
  rcases p2 with _ | _;all_goals
   go_enter Tryz.func40,Tryz.ntmps40
   go_wp2_with fail
   generalize hW:World.alloc _ _=W;obtain⟨B1,B2,hb⟩:=Aj9 (a:=[.slice a l.length c,.slice b m.length d]) (b:=[.slice a2 l2.length c2,.slice b2 m2.length d2]) hW;clear hW;generalize w.heap.size+1=n2 at B2 ⊢;obtain⟨x0,x1⟩:=Cb0 B1;obtain⟨y0,y1⟩:=Cb0 B2;refine(HE1.out _ hb).mono ?_;rintro e w2 ⟨rfl,rfl⟩;have Hb:=Lh hb;clear hb B1 B2 HE1;go_wp2_with fail
   try (refine(HE2.out _ Hb.out).mono ?_;rintro e w2 ⟨rfl,rfl⟩)
   try go_wp2_with fail
   go_ret;exact⟨by rw[HS.out];rfl,Hb.out⟩
def Fk6(w:World)(l m:List UInt8)(e:Ending)(w':World):Prop:=∃v,e=.returned v∧Bb2 w' v l m∧Below w.heap.size w w'
theorem Df1:(Tryz.prog.info? 24).map (·.size)=some 2:=by kernel_rfl
abbrev Df2:List Value:=[.slice none 0 0,.slice none 0 0]
theorem Cq9(w:World):Calls Tryz.prog 120 #[] w (Fk6 w (Au3 1) Ap6):=by
 have HR:=Lh (fun W=>Dz7 1 (by decide) (by decide) W);obtain⟨R,hR⟩:∃R,R=Au3 1:=⟨_,rfl⟩;have HRl:=Lh (show R.length=16 by rw[hR,By0]);unfold Cq8 at HR;rw[←hR] at HR ⊢;obtain⟨Z,hZ⟩:∃Z,Z=List.replicate 16 (.int .u8 0:Value):=⟨_,rfl⟩;have hmk:∀w,(Instr.makeSlice 22 (.int .i64 16) (.int .i64 16)).run Tryz.prog w=.ok (.slice (some ⟨w.heap.size,0,none⟩) 16 16) (w.alloc (.cells Z.toArray 5)):=fun w=>by
  rw[hZ];exact Bl2 W5 w .i64 .i64 16 (by omega) (by unfold maxLen;omega) rfl
 have HZ:=Lh (show Z=B8s Ap6 by rw[hZ];rfl);have HI:=Lh Df1;clear hR hZ;go_enter Tryz.func120,Tryz.ntmps120
 go_wp2_with fail
 generalize hW:World.alloc w _=W;have hB:=Lh (show A6 24 W w.heap.size Df2 by rw[←hW];exact A6.new w Df2 _);have hb:=Lh (show Below w.heap.size w W by rw[←hW];exact ba w _);clear hW;refine(HR.out W).mono ?_;rintro e w2 ⟨a2,c2,rfl,ho⟩;have hB2:=Lh (hB.out.up ho.bel);have Hb2:=Lh (bt hb.out ho.bel);have H2:=Lh ho;have hcap:=Lh ho.buf.cap;clear ho;go_wp2_with (refine I0 24 (.tmp 0) (.tmp 9) w.heap.size (old:=Df2) (cs:=[.slice a2 16 c2,.slice (some ⟨w2.heap.size,0,none⟩) 16 16]) rfl rfl rfl rfl ((hB2.out.up (ba _ _)).blk) HI.out rfl rfl ?_)
 refine bodyPost_ret (v:=.agg #[.slice a2 16 c2,.slice (some ⟨w2.heap.size,0,none⟩) 16 16]) (J9 rfl _ _ w.heap.size rfl ((hB2.out.up (ba _ _)).row [.slice a2 16 c2,.slice (some ⟨w2.heap.size,0,none⟩) 16 16]).blk Tryz.underlying24 rfl HI.out) rfl ?_;have hO:V5 W.heap.size w2 (.slice a2 16 c2) 16 (B8s R):=⟨by have:=H2.out.own;rwa [HRl.out] at this,H2.out.bel.size⟩;have hlt:w.heap.size<w2.heap.size:=Nat.lt_of_lt_of_le hB.out.blk.lt H2.out.bel.size;refine⟨_,rfl,⟨a2,c2,some ⟨w2.heap.size,0,none⟩,16,by rw[HRl.out];rfl,(by have h:=hcap.out;rw[HRl.out] at h ⊢;exact⟨h.2.1,h.2.2⟩),by decide,((hO.up (ba w2 _)).row (hB2.out.up (ba w2 _)) (by decide) _).at,?_⟩,F6 (bta Hb2.out _) (Nat.le_refl _) _⟩;have:=((A6.new w2 Z 5).rowOther w.heap.size (by omega) #[.slice a2 16 c2,.slice (some ⟨w2.heap.size,0,none⟩) 16 16]).blk.at
 rw[HZ.out] at this ⊢;exact this
structure StB (w0 w:World) (b:Nat) (v0 v1:Value):Prop where
 blk:A6 24 w b [v0,v1]
 ge:w0.heap.size≤b
 bel:Below w0.heap.size w0 w
theorem StB.up{w0 w w':World}{b:Nat}{v0 v1:Value}(h:StB w0 w b v0 v1)(hb:Below w.heap.size w w'):StB w0 w' b v0 v1:=⟨h.blk.up hb,h.ge,bt h.bel hb⟩
abbrev stL(a:Option Addr)(c:Nat)(b:Option Addr)(d:Nat):List Value:=[.slice a 16 c,.slice b 16 d]
structure StF (w:World) (a:Option Addr) (c:Nat) (b:Option Addr) (d:Nat) (l m:List UInt8):Prop where
 hc:16≤c∧c≤maxLen
 hd:16≤d∧d≤maxLen
 ha:A4 w a l
 hb:A4 w b m
 la:l.length=16
 lb:m.length=16
theorem StF.up{w w':World}{a b:Option Addr}{c d:Nat}{l m:List UInt8}(h:StF w a c b d l m)(hb:Below w.heap.size w w'):StF w' a c b d l m:=⟨h.hc,h.hd,h.ha.mono hb,h.hb.mono hb,h.la,h.lb⟩
theorem A4.notIn{w:World}{b:Nat}{cs:List Value}{a:Option Addr}{l:List UInt8}(h:A4 w a l)(hb:Blk w b cs)(hcs:∀v∈cs,∀k n,v≠.int k n)(ds:Array Value):A4 (w.setRow b ds) a l:=by
 rcases h with h | ⟨b',off,rfl,hlt,hc⟩
 ·exact .inl h
 by_cases h0:l=[]
 ·subst h0;exact .inl rfl
 refine .inr ⟨b',off,rfl,by simpa using hlt,fun i hi=>?_⟩;have hne:b'≠b:=by
  rintro rfl;have h1:=hc i hi;obtain⟨T,hg⟩:=hb;rw[cell_of_row w b' (off+i) cs.toArray T (0,0) hg] at h1;have h2:=Array.mem_of_getElem? h1;have hi':i<l.length:=by simpa using hi
  have h3:(B8s l).getD i undef=.int .u8 (bv (l.getD i 0)):=by simp[List.getD,hi']
  rw[h3] at h2;exact hcs _ (by simpa using h2) _ _ rfl
 have e:(w.setRow b ds).heap[b']?=w.heap[b']?:=setRow_other w b b' ds hne;rw[World.cell?_of_block (w:=w) (w':=w.setRow b ds) (a:=⟨b',off+i,none⟩) e];exact hc i hi
theorem StF.row{w:World}{b:Nat}{a a2 o o2:Option Addr}{c c2 d d2:Nat}{l m:List UInt8}(h:StF w a c o d l m)(hb:A6 24 w b (stL a2 c2 o2 d2))(ds:Array Value):StF (w.setRow b ds) a c o d l m:=by
 have hcs:∀v∈stL a2 c2 o2 d2,∀k n,v≠.int k n:=by
  intro v hv k n;simp only[stL,List.mem_cons,List.not_mem_nil,or_false] at hv;rcases hv with rfl | rfl<;>intro h<;>cases h
 exact⟨h.hc,h.hd,h.ha.notIn hb.blk hcs ds,h.hb.notIn hb.blk hcs ds,h.la,h.lb⟩
theorem StF.of{w:World}{v:Value}{l m:List UInt8}(h:Bb2 w v l m)(hl:l.length=16)(hm:m.length=16):∃a c b d,v=.agg #[.slice a 16 c,.slice b 16 d]∧StF w a c b d l m:=by
 obtain⟨a,c,b,d,h1,h2,h3,h4,h5⟩:=h;exact⟨a,c,b,d,by rw[h1,hl,hm],by rw[←hl];exact h2,by rw[←hm];exact h3,h4,h5,hl,hm⟩
end Go.Proofs.YtadpiemjgfndgaaGreatDoor
