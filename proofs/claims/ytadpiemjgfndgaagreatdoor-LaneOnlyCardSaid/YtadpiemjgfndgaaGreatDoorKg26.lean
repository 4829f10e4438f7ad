/- Proved here, for use further on: LgL InZ InV6. Conditions: none but those each theorem names. -/
import Derived.Test.YtadpiemjgfndgaaGreatDoorKg00
import Derived.Test.YtadpiemjgfndgaaGreatDoorKg25
import Derived.Test.YtadpiemjgfndgaaGreatDoorKg18
import Derived.Test.YtadpiemjgfndgaaGreatDoorKg06
import Derived.Test.YtadpiemjgfndgaaGreatDoorKg02
import Derived.Deep.Slices
import Derived.ChangeSame
import Derived.Deep.Fields
set_option linter.unusedSimpArgs false
set_option linter.unusedVariables false
set_option maxRecDepth 100000
set_option maxRecDepth 100000
set_option maxHeartbeats 8000000
namespace Go.Proofs.YtadpiemjgfndgaaGreatDoor
open Go.RowKit
def Sv.ideal(s:Sv):Sv:={s with i:=true}
theorem Cs1(s:Sv):(A6 s).set 70 (.bool true)=A6 s.ideal:=by kernel_rfl
theorem Cu5(s:Sv):(A6 s).getD 71 undef=.slice s.ta s.es.length s.tc:=rfl
theorem Ec6{w:World}{b:Nat}{k d e0 e1 g s:Int}{vb vt:Value}(h:A5 65 w b (I5 k d e0 e1 g s vb vt)):w.rangeAt b 2 [.int .i64 e0,.int .i64 e1]:=fun j v hj=>by
 obtain⟨-,-,h2,h3,-⟩:=G9 h.blk;have hjl:j<2:=(List.getElem?_eq_some_iff.1 hj).1;rcases(by omega:j=0∨j=1) with rfl | rfl
 ·rw[h2];exact hj
 ·rw[h3];exact hj
noncomputable def Bl7:{ops:Array Oper//(Tryz.f6.body.bind (M8 12))=some (.region 12 ops true)}:=⟨_,rfl⟩
abbrev Au9:List Nat:=[74,75,76,77,78,79,80,81,82,83,84,85,86,87,88,89,90,91,92,93,94,95,96,97,98,99,100]
theorem Ev3:opx Bl7.1 7=some (.call {callee:=.value (.func 26),args:=#[.tmp 80],argTypes:=#[46]},some 81,some (2,false)):=by kernel_rfl
theorem Em8:opx Bl7.1 16=some (.call {callee:=.value (.func 32),args:=#[.tmp 87,.tmp 89],argTypes:=#[28,3]},some 90,some (10,false)):=by kernel_rfl
theorem Em9:opx Bl7.1 25=some (.call {callee:=.value (.func 32),args:=#[.tmp 96,.tmp 98],argTypes:=#[28,3]},some 99,some (19,false)):=by kernel_rfl
theorem En0{s X:Sv}{k d g q:Int}{vb vt:Value}{n2 n6 n7:Nat}{a:Act}{w:World}{Q:Exit→Act→World→Prop}(hsz:126≤a.tmps.size)(e13:a.tmps.getD 13 undef=.bool true)(e2:a.tmps.getD 2 undef=.pointer (some ⟨n2,0,none⟩))(e6:a.tmps.getD 6 undef=.pointer (some ⟨n6,0,none⟩))(e7:a.tmps.getD 7 undef=.pointer (some ⟨n7,0,none⟩))
 (hP:∀c a d v w,Q (.panic c) (Act.put a d v) w→Q (.panic c) a w) (B2:A5 51 w n2 (A6 s)) (B6:A5 51 w n6 (A6 X)) (B7:A5 65 w n7 (I5 k d (A9 s.e).1 (A9 s.e).2 g q vb vt))
 (H1:∀u,Calls Tryz.prog 32 #[.agg (C4 s.e.wt s.e.wb).toArray,.int .i64 q] u (fun x w'=>x=.returned (.bool true)∧Below u.heap.size u w')) (H2:∀u,Calls Tryz.prog 32 #[.agg (C4 X.e.wt X.e.wb).toArray,.int .i64 q] u (fun x w'=>x=.returned (.bool false)∧Below u.heap.size u w'))
 (hQ:∀{x74 x75 x76 x77 x78 x79 x80 x81 x82 x83 x84 x85 x86 x87 x88 x89 x90 x91 x92 x93 x94 x95 x96 x97 x98 x99} w',Below w.heap.size w w'→Q .normal (B9 a Au9 [x74,x75,x76,x77,x78,x79,x80,x81,x82,x83,x84,x85,x86,x87,x88,x89,x90,x91,x92,x93,x94,x95,x96,x97,x98,x99,.bool false]) w'):
 (Code.region 12 Bl7.1 true).wp Tryz.prog Q a w:=by
 have rG:Rgn Bl7.1 Au9 a Q:=⟨fun k hk=>Nat.lt_of_lt_of_le ((by decide:∀k∈Au9,k<126) k hk) hsz,by kernel_rfl,hP⟩;have hb:=rG.b;obtain⟨i,h0⟩:=Z9 a Au9;let S:World→Prop:=fun w'=>A5 51 w' n2 (A6 s)∧A5 51 w' n6 (A6 X)∧A5 65 w' n7 (I5 k d (A9 s.e).1 (A9 s.e).2 g q vb vt);refine wp_region_held_drew (S:=S) (by kernel_rfl) (⟨B2.up (bd _),B6.up (bd _),B7.up (bd _)⟩) fun hHeld=>?_;have N7_16_25:∀(u:World) (G:Below w.heap.size w u),wpAnyH Tryz.prog .any Bl7.1 Q S 0 (lm 27 134217727) (B9 a Au9 [.bool true,.bool false,.bool false,pt n7 2,.agg #[i6 (A9 s.e).1,i6 (A9 s.e).2],pt n2 0,.agg (A7 s.e).toArray,.agg #[i6 (A9 s.e).1,i6 (A9 s.e).2],.bool false,.bool false,.bool false,pt n2 0,pt n2 10,.agg (C4 s.e.wt s.e.wb).toArray,pt n7 5,i6 q,.bool true,.bool false,.bool false,.bool false,pt n6 0,pt n6 10,.agg (C4 X.e.wt X.e.wb).toArray,pt n7 5,i6 q,.bool false,.bool false]) u:=by
  intro u G;refine W4 ?_;exact hQ _ G
 have N7_16:∀(u:World) (G:Below w.heap.size w u),wpAnyH Tryz.prog .any Bl7.1 Q S 2 (lm 27 33554431) (B9 a Au9 [.bool true,.bool false,.bool false,pt n7 2,.agg #[i6 (A9 s.e).1,i6 (A9 s.e).2],pt n2 0,.agg (A7 s.e).toArray,.agg #[i6 (A9 s.e).1,i6 (A9 s.e).2],.bool false,.bool false,.bool false,pt n2 0,pt n2 10,.agg (C4 s.e.wt s.e.wb).toArray,pt n7 5,i6 q,.bool true,.bool false,.bool false,.bool false,pt n6 0,pt n6 10,.agg (C4 X.e.wt X.e.wb).toArray,pt n7 5,i6 q,i 99,i 100]) u:=by
  intro u G;refine C8 [25] (C7 rG Em9 ?_ AllReadyH.nil);intro o hp hd;refine J8 hp (rG.ev2 (.agg (C4 X.e.wt X.e.wb).toArray) (i6 q)) (H2 _) ?_;rintro x u25 ⟨rfl,hb25⟩;refine⟨_,rfl,?_⟩;exact F5 rG [(26,100,.bool false)] hd ⟨B2.up (bt G hb25),B6.up (bt G hb25),B7.up (bt G hb25)⟩ ⟨Q4 rfl,trivial⟩ (N7_16_25 _  (bt G hb25))
 have N7:∀(u:World) (G:Below w.heap.size w u),wpAnyH Tryz.prog .any Bl7.1 Q S 11 (lm 27 65535) (B9 a Au9 [.bool true,.bool false,.bool false,pt n7 2,.agg #[i6 (A9 s.e).1,i6 (A9 s.e).2],pt n2 0,.agg (A7 s.e).toArray,.agg #[i6 (A9 s.e).1,i6 (A9 s.e).2],.bool false,.bool false,.bool false,pt n2 0,pt n2 10,.agg (C4 s.e.wt s.e.wb).toArray,pt n7 5,i6 q,i 90,i 91,i 92,i 93,i 94,i 95,i 96,i 97,i 98,i 99,i 100]) u:=by
  intro u G;refine C8 [16] (C7 rG Em8 ?_ AllReadyH.nil);intro o hp hd;refine J8 hp (rG.ev2 (.agg (C4 s.e.wt s.e.wb).toArray) (i6 q)) (H1 _) ?_;rintro x u16 ⟨rfl,hb16⟩;refine⟨_,rfl,?_⟩;exact F5 rG [(17,91,.bool false),(18,92,.bool false),(19,93,.bool false),(20,94,pt n6 0),(21,95,pt n6 10),(22,96,.agg (C4 X.e.wt X.e.wb).toArray),(23,97,pt n7 5),(24,98,i6 q)] hd ⟨B2.up (bt G hb16),B6.up (bt G hb16),B7.up (bt G hb16)⟩ ⟨Dy1 rfl rfl,Q4 rfl,F9 rfl,A8 rfl e6,A8 rfl,Q2 (cs:=C4 X.e.wt X.e.wb) rfl (fun w hw=>hw.2.1.blk.siteIn.at_w) (by rw[D7];exact O1),A8 rfl e7,F8 rfl (fun w hw=>(G9 hw.2.2.blk).2.2.2.2.2.1),trivial⟩ (N7_16 _  (bt G hb16))
 have N0:∀(u:World) (G:Below w.heap.size w u),wpAnyH Tryz.prog .any Bl7.1 Q S 20 (lm 27 127) (B9 a Au9 [.bool true,.bool false,.bool false,pt n7 2,.agg #[i6 (A9 s.e).1,i6 (A9 s.e).2],pt n2 0,.agg (A7 s.e).toArray,i 81,i 82,i 83,i 84,i 85,i 86,i 87,i 88,i 89,i 90,i 91,i 92,i 93,i 94,i 95,i 96,i 97,i 98,i 99,i 100]) u:=by
  intro u G;refine C8 [7] (C7 rG Ev3 ?_ AllReadyH.nil);intro o hp hd;refine J8 hp (rG.ev1 (.agg (A7 s.e).toArray)) (Cr0 s.e _) ?_;rintro x u7 ⟨rfl,hb7⟩;refine⟨_,rfl,?_⟩;exact F5 rG [(8,82,.bool false),(9,83,.bool false),(10,84,.bool false),(11,85,pt n2 0),(12,86,pt n2 10),(13,87,.agg (C4 s.e.wt s.e.wb).toArray),(14,88,pt n7 5),(15,89,i6 q)] hd ⟨B2.up (bt G hb7),B6.up (bt G hb7),B7.up (bt G hb7)⟩ ⟨As0 rfl (fun w=>Ec2 _ _ _ _ w),Q4 rfl,F9 rfl,A8 rfl e2,A8 rfl,Q2 (cs:=C4 s.e.wt s.e.wb) rfl (fun w hw=>hw.1.blk.siteIn.at_w) (by rw[D7];exact O1),A8 rfl e7,F8 rfl (fun w hw=>(G9 hw.2.2.blk).2.2.2.2.2.1),trivial⟩ (N7 _  (bt G hb7))
 exact O3 27 rG [(0,74,.bool true),(1,75,.bool false),(2,76,.bool false),(3,77,pt n7 2),(4,78,.agg #[i6 (A9 s.e).1,i6 (A9 s.e).2]),(5,79,pt n2 0),(6,80,.agg (A7 s.e).toArray)] h0 ⟨B2.up (bd _),B6.up (bd _),B7.up (bd _)⟩ ⟨F9 rfl e13,Dy1 rfl rfl,F9 rfl,A8 rfl e7,Q2 (cs:=[i6 (A9 s.e).1,i6 (A9 s.e).2]) rfl (fun w hw=>Ec6 hw.2.2) Au4,A8 rfl e2,Q2 (cs:=A7 s.e) rfl (fun w hw=>hw.1.blk.atE) (by rw[G6];exact O2),trivial⟩ (N0 _  (bd w))
theorem Co3(s0:Sv)(ya:Option Addr)(yc:Nat)(bl:List UInt8)(w:World)(h:An2 w s0)(hc:bl.length≤yc∧yc≤maxLen)(hbl:A4 w ya bl)(hks:M9 w):
 Calls Tryz.prog 6 #[.agg (A6 s0).toArray,.slice ya bl.length yc] w (D9 w true):=by
 have HK:=Lh hks;have HM:=Lh (fun(W:World) (hb:Below w.heap.size w W)=>Do5 s0 W (h.mono hb));have SS:=Lh (show ∀S:Sv,(Tryz.prog.info? 51).map (·.size)=some (A6 S).length from fun S=>by rw[D8];exact R6);have HA:=Lh (show An2 w s0.ideal from⟨h.e,h.p,h.pl⟩);have HB:=Lh hbl;have HC:=Lh hc;have MF:=Lh (@Fg4 s0);generalize Cb9 s0=m at HM MF;clear h hbl hc hks;go_enter Tryz.func6,Tryz.ntmps6
 go_upto_region 1 with(fail)
 generalize hW:World.alloc w _=W;have B2:=Lh (show A5 51 W w.heap.size (A6 s0) by rw[←hW];exact A5.new w (A6 s0) _);have G:=Lh (show Below w.heap.size w W by rw[←hW];exact ba w _);clear hW;have L0:=Lh (Nat.le_refl w.heap.size);generalize hn2:w.heap.size=n2 at B2 ⊢;have LL:=Lh (show w.heap.size≤n2 by omega);clear hn2 L0;go_wp2_with fail
 refine(Cs0 _ (HK.out.mono G.out)).mono ?_;rintro x w3 ⟨rfl,hb⟩;replace B2:=Lh (B2.out.up hb);replace G:=Lh (bt G.out hb);clear hb;by_cases hl:bl.length≤1000;rotate_left
 ·have d1:(1000:Int)<(bl.length:Int):=by omega
  clear hl;go_wp2_with (refine I2 51 (.tmp 2) rfl ?_;refine J7 51 (.tmp 2) n2 (by first | rfl | (simp[Region.wanted,yielded];done) | kernel_rfl) rfl rfl B2.out.blk Tryz.underlying51 rfl (SS.out _) ?_)
  refine(HM.out _ G.out).mono ?_;rintro x w4 ⟨rfl,hb⟩;replace B2:=Lh (B2.out.up hb);replace G:=Lh (bt G.out hb);clear hb;rcases m with _ | _;all_goals
   go_wp2_with fail
   go_ret;exact⟨rfl,G.out⟩
 have d1:¬(1000:Int)<(bl.length:Int):=by omega
 clear hl;go_wp2_with (refine I2 51 (.tmp 2) rfl ?_;refine J7 51 (.tmp 2) n2 (by first | rfl | (simp[Region.wanted,yielded];done) | kernel_rfl) rfl rfl B2.out.blk Tryz.underlying51 rfl (SS.out _) ?_)
 refine(HM.out _ G.out).mono ?_;rintro x w4 ⟨rfl,hb⟩;replace B2:=Lh (B2.out.up hb);replace G:=Lh (bt G.out hb);clear hb HM;rcases m with _ | _
 ·go_wp2_with fail
  go_ret;exact⟨rfl,G.out⟩
 obtain⟨hr,ho,hg,hes⟩:=MF.out (by simp);go_upto_region 5 with(refine G8 4 (.tmp 25) _ rfl ?_;refine S5 4 (.tmp 25) (.const (.bool true)) n2 70 rfl rfl rfl rfl B2.out (by rw[D8];decide) (by kernel_rfl) rfl (Cs1 s0) ?_;intro w4v hB hK;replace G:=Lh (hK.below G.out LL.out);replace B2:=Lh hB;clear hB hK)
 have hr':R1 s0.ideal.e=true:=hr;have ho':s0.ideal.e.o.length≤20:=ho;have hes':s0.ideal.es.length≤40:=hes;have hid:s0.ideal.i=true:=rfl;generalize s0.ideal=s at HA B2 hr' ho' hes' hid;clear hr ho hg hes MF;have RF:=Lh (An7 hr');have RR:=Lh hr';have HS:=Lh hes';have ST:=Lh (Ec1 s bl);have TO:=Lh (Ec5 (l:=bl) hid RF.out.win.1.1);have TR:=Lh (Dp3 s bl hr');have X1:=Lh (fun(W:World) (hb:Below w.heap.size w W)=>Bd9 s ya yc bl W ((HA.out.mono hb).toP fun _ _=>trivial) hr' (by omega) HC.out.1 HC.out.2 (HB.out.mono hb) (HK.out.mono hb));have XP:=Lh (fun(W:World) (hb:Below w.heap.size w W)=>(((HA.out.mono hb).toP (q:=fun _=>True) fun _ _=>trivial).take RF.out.win bl));unfold Bf9 at X1;have OM:=Lh (show(T6 s bl).2=0→Ai8 (pdF bl).k (pdF bl).d (pdF bl).e0 (pdF bl).e1 (pdF bl).g (pdF bl).q (pdF bl).b.length from fun h=>by
  have:okR bl:=by
   cases ho:decide (okR bl)
   ·unfold T6 at h;rw[ho] at h;simp at h
   ·exact of_decide_eq_true ho
  exact this.2.may)
 generalize (T6 s bl).1=X at X1 ST TO TR XP;generalize (T6 s bl).2=E at X1 TO OM;clear hr' ho' hes' hid;go_wp2_with (refine I2 51 (.tmp 2) rfl ?_;refine J7 51 (.tmp 2) n2 (by first | rfl | (simp[Region.wanted,yielded];done) | kernel_rfl) rfl rfl B2.out.blk Tryz.underlying51 rfl (SS.out _) ?_)
 refine(X1.out _ G.out).mono ?_;rintro x w5 ⟨v,rfl,hv,hb⟩;obtain⟨a1,c1,a2,c2,rfl,hv1,hv2⟩:=hv.out;have Q1:=Lh hv1;replace B2:=Lh (B2.out.up hb);replace G:=Lh (bt G.out hb);clear hb hv hv1 hv2 X1 d1;generalize hp:ecE E (pdF bl)=p at Q1;have HD:=Lh (show(Tryz.prog.info? 65).map (·.size)=some (I5 p.k p.d p.e0 p.e1 p.g p.q (.slice a1 p.b.length c1) (.slice a2 p.t.length c2)).length from Ac0);have HO:=Lh (show(I5 p.k p.d p.e0 p.e1 p.g p.q (.slice a1 p.b.length c1) (.slice a2 p.t.length c2)).all (·.oneCell')=true from rfl);have HP:=Lh hp;clear hp;go_upto_region 6 with(first
  | (refine G8 51 (.tmp 6) (.tmp 30) rfl ?_;refine I4 51 (.tmp 6) (.tmp 30) _ (cs:=A6 X) rfl rfl rfl rfl (Aj6 (w:=w5) (a:=I7) (b:=I0) (A:=51) (B:=65) rfl).1 (SS.out _) (by rw[M5,D8]) (Q3 _) ?_;intro wa hB hK;have B6:=Lh hB;have B7:=Lh ((Aj6 (w:=w5) (a:=I7) (b:=I0) (A:=51) (B:=65) rfl).2.1.kp hK (Nat.ne_of_gt (Nat.lt_succ_self _)));have N12:=Lh (Nat.ne_of_lt (Nat.lt_succ_self w5.heap.size));have G1:=Lh (hK.below (Aj6 (w:=w5) (a:=I7) (b:=I0) (A:=51) (B:=65) rfl).2.2 (Nat.le_refl _));have L2:=Lh (Nat.le_succ w5.heap.size);clear hB hK)
  | (refine G8 65 (.tmp 7) (.tmp 31) rfl ?_;refine I4 65 (.tmp 7) (.tmp 31) _ (cs:=(I5 p.k p.d p.e0 p.e1 p.g p.q (.slice a1 p.b.length c1) (.slice a2 p.t.length c2))) rfl rfl rfl rfl B7.out HD.out rfl HO.out ?_;intro wb hB hK;replace B6:=Lh (B6.out.kp hK N12.out);replace B7:=Lh hB;replace G1:=Lh (hK.below G1.out L2.out);clear hB hK))
 replace G:=Lh (bt G.out G1.out);replace B2:=Lh (B2.out.up G1.out);replace Q1:=Lh (A4.up8 Q1.out G1.out);generalize w5.heap.size+1=n7 at B7 N12 L2 ⊢;generalize hn6:w5.heap.size=n6 at B6 N12 ⊢;clear hn6 N12 L2 G1 HD HO;by_cases hE:E=0;rotate_left
 ·have b1:(E != 0)=true:=by rw[bne_iff_ne];exact hE
  have pz:p.b.length=0:=by rw[←HP.out];unfold ecE;rw[if_neg hE];rfl
  have y1:=(G9 B7.out.blk).2.2.2.2.2.2.1;rw[pz] at y1;have y2:_=some (Value.slice X.ta s.es.length X.tc):=(B6.out.blk.cell 71 (by rw[D8];decide)).trans (congrArg some ((Cu5 X).trans (by rw[ST.out.es])));have y3:=(B2.out.blk.cell 71 (by rw[D8];decide)).trans (congrArg some (Cu5 s));have b2:((s.es.length:Int)==(s.es.length:Int))=true:=beq_self_eq_true _;clear hE pz OM TO;go_wp2_with fail
  go_ret;exact⟨rfl,G.out⟩
 have b1:(E != 0)=false:=by rw[hE];rfl
 have hpp:pdF bl=p:=by rw[←HP.out];unfold ecE;rw[if_pos hE]
 have T:=Lh (TO.out hE);have MB:=Lh (OM.out hE);clear hE TO OM HP;rw[hpp] at T MB;clear hpp;go_upto_region 8 with(fail)
 clear b1;go_wp2_with (refine I2 65 (.tmp 7) rfl ?_;refine J7 65 (.tmp 7) n7 (by first | rfl | (simp[Region.wanted,yielded];done) | kernel_rfl) rfl rfl B7.out.blk Tryz.underlying65 rfl Ac0 ?_)
 refine(Cp5 p.k p.d p.e0 p.e1 p.g p.q a1 a2 c1 p.t.length c2 p.b MB.out _ Q1.out).mono ?_;rintro x w6 ⟨ia,ic,rfl,hio,hb⟩;have IA:=Lh (show A4 w6 ia (inT p) from(Au1 hio.own).at);replace B2:=Lh (B2.out.up hb);replace B6:=Lh (B6.out.up hb);replace B7:=Lh (B7.out.up hb);replace G:=Lh (bt G.out hb);clear hb hio Q1;have yk:=B2.out.blk.siteIn.k;go_upto_region 9 with(fail)
 go_wp2_with fail
 refine(Cr1 s.e.k.a s.e.k.c s.e.k.l (by have:=RF.out.k;omega) w6 (HA.out.mono G.out).e.k.b).mono ?_;rintro x w7 ⟨ka,kc,rfl,-,hka,hb⟩;have KB:=Lh (show A4 w7 ka (Ag9 s.e.k.l) from hka);replace B2:=Lh (B2.out.up hb);replace B6:=Lh (B6.out.up hb);replace B7:=Lh (B7.out.up hb);replace G:=Lh (bt G.out hb);replace IA:=Lh (A4.up8 IA.out hb);clear hb hka yk;have y0:=(G9 B7.out.blk).1;by_cases hk:p.k=2
 ·have TS:=Lh (T.out.sess hk);have b2:((p.k:Int)==2)=true:=by rw[hk];rfl
  clear hk;have hkey:Ah2 s.e p=Aw7 s.e p.g:=by unfold Ah2;rw[b2];rfl
  have yr:=Lh B2.out.blk.siteIn.at_r;have yg:=(G9 B7.out.blk).2.2.2.2.1;go_upto_region 11 with(fail)
  clear b2 y0;go_wp2_with (refine I2 32 (.tmp 67) rfl ?_;refine D5 32 (.tmp 67) n2 27 (by first | rfl | (simp[Region.wanted,yielded];done) | kernel_rfl) rfl rfl yr.out Tryz.underlying32 rfl Ab1 ?_)
  refine(Cq4 s.e.r p.g _).mono ?_;rintro x w8 ⟨rfl,hb⟩;replace B2:=Lh (B2.out.up hb);replace B6:=Lh (B6.out.up hb);replace B7:=Lh (B7.out.up hb);replace G:=Lh (bt G.out hb);replace IA:=Lh (A4.up8 IA.out hb);clear hb yr yg KB;rw[TS.out.1];obtain⟨f1,f2,f3,f4⟩:=Bu8 ((HA.out.mono G.out).toP (q:=fun _=>True) fun _ _=>trivial).e p.g;generalize hff:(I8 s.e.r p.g).1=ff at f1 f2 f3 f4 ⊢;clear hff;have FK:=Lh f1;have F2:=Lh f2;clear f1 f2 f3 f4;go_upto_region 12 with(fail)
  replace B7:=Lh (show A5 65 w8 n7 (I5 p.k p.d (A9 s.e).1 (A9 s.e).2 p.g p.q (.slice a1 p.b.length c1) (.slice a2 p.t.length c2)) from by have h:=B7.out;rw[TS.out.2.1,TS.out.2.2.1] at h;exact h);refine En0 (s:=s) (X:=X) (k:=p.k) (d:=p.d) (g:=p.g) (q:=p.q) (Nat.le_refl _) rfl rfl rfl rfl (fun _ _ d _ _ h=>by cases d<;>exact h) B2.out B6.out B7.out (fun u=>(Ay3 s.e.wt s.e.wb p.q RF.out.win.1 (by have:=MB.out.s1;omega) u).mono fun x w' h=>⟨by rw[h.1,decide_eq_true TS.out.2.2.2.1],h.2⟩) (fun u=>(Ay3 X.e.wt X.e.wb p.q (An7 TR.out).win.1 (by have:=MB.out.s1;omega) u).mono fun x w' h=>⟨by rw[h.1,decide_eq_false TS.out.2.2.2.2],h.2⟩) ?_;intro _ _ _ _ _ _ _ _ _ _ _ _ _ _ _ _ _ _ _ _ _ _ _ _ _ _ w9 hb;simp only[B9,Act.put,List.setIfInBounds_toArray,List.set_cons_zero,List.set_cons_succ];replace B2:=Lh (B2.out.up hb);replace B6:=Lh (B6.out.up hb);replace B7:=Lh (B7.out.up hb);replace G:=Lh (bt G.out hb);replace IA:=Lh (A4.up8 IA.out hb);replace FK:=Lh (A4.up8 FK.out hb);clear hb;have HKY:Ai1 s.es (Aw7 s.e p.g) (inT p)=true:=by rw[←hkey];exact T.out.had
  rw[F2.out];clear F2 hkey TS;have y1:=(G9 B7.out.blk).2.1;rw[T.out.d] at y1;have y2:=B2.out.blk.siteIn.id;have b3:(wrap64 (1-s.e.id)==wrap64 (1-s.e.id))=true:=beq_self_eq_true _;have rp:=Lh B2.out.blk.atP;have rx:=Lh (show _ from B6.out.blk.atP);rw[T.out.i,T.out.f] at rx;go_upto_region 15 with(fail)
  go_wp2_with (refine I2 49 (.tmp 113) rfl ?_;refine D5 49 (.tmp 113) n2 70 (by first | rfl | (simp[Region.wanted,yielded];done) | kernel_rfl) rfl rfl rp.out Tryz.underlying49 rfl Aa1 ?_)
  refine(show Calls Tryz.prog 33 #[.agg #[.bool s.i,.slice s.ta s.es.length s.tc,.bool s.f],.slice ff.a (Aw7 s.e p.g).length ff.cap,.slice ia (inT p).length ic] w9 (D9 w9 true) from by have h:=Bw4 s.i s.f s.ta ff.a ia s.tc ff.cap ic s.es (Aw7 s.e p.g) (inT p) w9 (by have:=HS.out;omega) (HA.out.mono G.out).p FK.out IA.out;rw[HKY] at h;exact h).mono ?_;rintro x wx ⟨rfl,hb⟩;replace B2:=Lh (B2.out.up hb);replace B6:=Lh (B6.out.up hb);replace B7:=Lh (B7.out.up hb);replace G:=Lh (bt G.out hb);clear hb y1 y2 rp rx;have rp:=Lh B2.out.blk.atP;have rx:=Lh (show _ from B6.out.blk.atP);rw[T.out.i,T.out.f] at rx;go_wp2_with (first
  | (refine I2 49 (.tmp 120) rfl ?_;refine D5 49 (.tmp 120) n6 70 (by first | rfl | (simp[Region.wanted,yielded];done) | kernel_rfl) rfl rfl rx.out Tryz.underlying49 rfl Aa1 ?_)
  | (refine I2 49 (.tmp 122) rfl ?_;refine D5 49 (.tmp 122) n2 70 (by first | rfl | (simp[Region.wanted,yielded];done) | kernel_rfl) rfl rfl rp.out Tryz.underlying49 rfl Aa1 ?_))
  refine(show Calls Tryz.prog 34 #[.agg #[.bool s.i,.slice X.ta X.es.length X.tc,.bool s.f],.agg #[.bool s.i,.slice s.ta s.es.length s.tc,.bool s.f]] wx (D9 wx true) from by have h:=Bn5 s.i s.f s.i s.f X.ta s.ta X.tc s.tc X.es s.es wx (by rw[T.out.es];have:=HS.out;omega) (by have:=HS.out;omega) (XP.out wx G.out).at.p (HA.out.mono G.out).p;rw[show Bk2 s.i s.f X.es s.i s.f s.es=true by unfold Bk2;rw[T.out.es];simp] at h;exact h).mono ?_;rintro x wy ⟨rfl,hb⟩;replace G:=Lh (bt G.out hb);clear hb rp rx;go_wp2_with fail
  go_ret;exact⟨rfl,G.out⟩
 ·have b2:((p.k:Int)==2)=false:=by rw[beq_eq_false_iff_ne];omega
  have hkey:Ah2 s.e p=Ag9 s.e.k.l:=by unfold Ah2;rw[b2];rfl
  have HKY:Ai1 s.es (Ag9 s.e.k.l) (inT p)=true:=by rw[←hkey];exact T.out.had
  have hbl:(Ag9 s.e.k.l).length=32:=Bc0 _ _;clear hk;have y1:=(G9 B7.out.blk).2.1;rw[T.out.d] at y1;have y2:=B2.out.blk.siteIn.id;have b3:(wrap64 (1-s.e.id)==wrap64 (1-s.e.id))=true:=beq_self_eq_true _;have rp:=Lh B2.out.blk.atP;have rx:=Lh (show _ from B6.out.blk.atP);rw[T.out.i,T.out.f] at rx;go_upto_region 15 with(fail)
  go_wp2_with (refine I2 49 (.tmp 113) rfl ?_;refine D5 49 (.tmp 113) n2 70 (by first | rfl | (simp[Region.wanted,yielded];done) | kernel_rfl) rfl rfl rp.out Tryz.underlying49 rfl Aa1 ?_)
  refine(show Calls Tryz.prog 33 #[.agg #[.bool s.i,.slice s.ta s.es.length s.tc,.bool s.f],.slice ka 32 kc,.slice ia (inT p).length ic] w7 (D9 w7 true) from by have h:=Bw4 s.i s.f s.ta ka ia s.tc kc ic s.es (Ag9 s.e.k.l) (inT p) w7 (by have:=HS.out;omega) (HA.out.mono G.out).p KB.out IA.out;rw[HKY,hbl] at h;exact h).mono ?_;rintro x wx ⟨rfl,hb⟩;replace B2:=Lh (B2.out.up hb);replace B6:=Lh (B6.out.up hb);replace B7:=Lh (B7.out.up hb);replace G:=Lh (bt G.out hb);clear hb y1 y2 rp rx;have rp:=Lh B2.out.blk.atP;have rx:=Lh (show _ from B6.out.blk.atP);rw[T.out.i,T.out.f] at rx;go_wp2_with (first
  | (refine I2 49 (.tmp 120) rfl ?_;refine D5 49 (.tmp 120) n6 70 (by first | rfl | (simp[Region.wanted,yielded];done) | kernel_rfl) rfl rfl rx.out Tryz.underlying49 rfl Aa1 ?_)
  | (refine I2 49 (.tmp 122) rfl ?_;refine D5 49 (.tmp 122) n2 70 (by first | rfl | (simp[Region.wanted,yielded];done) | kernel_rfl) rfl rfl rp.out Tryz.underlying49 rfl Aa1 ?_))
  refine(show Calls Tryz.prog 34 #[.agg #[.bool s.i,.slice X.ta X.es.length X.tc,.bool s.f],.agg #[.bool s.i,.slice s.ta s.es.length s.tc,.bool s.f]] wx (D9 wx true) from by have h:=Bn5 s.i s.f s.i s.f X.ta s.ta X.tc s.tc X.es s.es wx (by rw[T.out.es];have:=HS.out;omega) (by have:=HS.out;omega) (XP.out wx G.out).at.p (HA.out.mono G.out).p;rw[show Bk2 s.i s.f X.es s.i s.f s.es=true by unfold Bk2;rw[T.out.es];simp] at h;exact h).mono ?_;rintro x wy ⟨rfl,hb⟩;replace G:=Lh (bt G.out hb);clear hb rp rx;go_wp2_with fail
  go_ret;exact⟨rfl,G.out⟩
end Go.Proofs.YtadpiemjgfndgaaGreatDoor
namespace Go.Proofs.YtadpiemjgfndgaaGreatDoor
open Go.ChangeShapes Go.WideShapes Go.ChangeAt Go.RowKit
section
variable {H:Type} {enc:TypeId×Value→H} {w:World}
theorem Am9{n:Nat}{t e:TypeId}{c:Value}{x:DataW H×List MemPlace}(ht:Tryz.prog.underlying t=some (.slice e))(h:DataW.trod enc Tryz.prog w 0 (fun _=>true) true n t [c]=some x):∃a len cap,c=.slice a len cap:=by
 rcases Go.Deep.open_slice ht h with⟨h4,_⟩ | ⟨a,len,cap,_,_,_,_,h4,_⟩
 ·exact⟨_,_,_,by simpa using h4⟩
 ·exact⟨_,_,_,by simpa using h4⟩
theorem Bl8{α:Type}[Inhabited α]{P:Program}{t e:TypeId}{n:Nat}{a:Option Addr}{len cap:Nat}{d:DataW H}{ps:List MemPlace}(R:α→List Value→Prop)
 (ht:P.underlying t=some (.slice e)) (hce:P.cellsOf e=n) (hn:0<n) (elem:∀fuel cs' x,DataW.trod enc P w 0 (fun _=>true) true fuel e cs'=some x→∃p,R p cs')
 (h:DataW.Trod enc P w 0 (fun _=>true) true t (.slice a len cap) d ps):
 ∃l:List α,l.length=len∧len≤cap∧cap≤maxLen∧∃vs:List Value,vs.length=len*n∧At w a vs∧∀i,i<len→R (l.getD i default) ((vs.drop (i*n)).take n):=by
 obtain⟨fuel,hfu⟩:=h;rcases Go.Deep.open_slice ht hfu with⟨h0,_⟩ | ⟨x,l,c,m,k,D,Pl,hcs,hb,hl,hm,hmm,hx,hi⟩
 ·simp[Value.cells] at h0;obtain⟨rfl,rfl,rfl⟩:=h0;exact⟨[],rfl,Nat.le_refl _,Nat.zero_le _,[],by simp,.inl rfl,fun i hi=>absurd hi (Nat.not_lt_zero _)⟩
 ·simp[Value.cells] at hcs;obtain⟨rfl,rfl,rfl⟩:=hcs;have hcell:∀i,i<len→∃p:α×List Value,R p.1 p.2∧p.2.length=n∧∀j,j<n→w.cell? ((x.add (i*n)).add j)=p.2[j]?:=fun i hil=>by
   have him:i<m:=by rw[hmm];split<;>omega
   obtain⟨cs',hc,ht'⟩:=hi i him;rw[hce] at hc;obtain⟨_,hcl,hat⟩:=World.cells?_some hc;obtain⟨p,hp⟩:=elem _ _ _ ht';exact⟨(p,cs'),hp,hcl,hat⟩
  by_cases hz:len=0
  ·subst hz;exact⟨[],rfl,hl,hm,[],by simp,.inl rfl,fun i hi=>absurd hi (Nat.not_lt_zero _)⟩
  ·obtain⟨hxs,hxb⟩:x.spot=none∧x.block<w.heap.size:=by
    obtain⟨p,_,h2,h3⟩:=hcell 0 (by omega);have h4:=h3 0 hn;have hx0:(x.add (0*n)).add 0=x:=by simp[Addr.add]
    rw[hx0,List.getElem?_eq_getElem (by omega)] at h4;exact Bw1 h4
   obtain⟨xb,xo,xs⟩:=x;simp only at hxs hxb;subst hxs;obtain⟨E,hE⟩:=Go.Deep.choose_lt (α:=α×List Value) hcell;let vs:List Value:=(List.range (len*n)).map fun j=>(E (j/n)).2.getD (j%n) undef;have hv:∀j,j<len*n→vs.getD j undef=(E (j/n)).2.getD (j%n) undef:=fun j hj=>by simp[vs,List.getD,hj]
   refine⟨(List.range len).map fun i=>(E i).1,by simp,hl,hm,vs,by simp[vs],.inr ⟨xb,xo,rfl,hxb,fun j hj=>?_⟩,fun i hi=>?_⟩
   ·have hj':j<len*n:=by simpa [vs] using hj
    have hjn:j/n<len:=Nat.div_lt_of_lt_mul (by rw[Nat.mul_comm];exact hj');have hjm:j%n<n:=Nat.mod_lt _ hn;obtain⟨_,h2,h3⟩:=hE (j/n) hjn;have h4:=h3 (j%n) hjm;have e1:xo+j/n*n+j%n=xo+j:=by have:=Nat.div_add_mod j n;rw[Nat.mul_comm] at this;omega
    rw[WideShapes.add_plain,WideShapes.add_plain,e1] at h4;rw[hv j hj',h4,List.getD_eq_getElem?_getD,List.getElem?_eq_getElem (by omega)];rfl
   ·obtain⟨h1,h2,h3⟩:=hE i hi;have hin:i*n+n≤len*n:=by rw[←Nat.succ_mul];exact Nat.mul_le_mul_right n hi
    have e2:(vs.drop (i*n)).take n=(E i).2:=by
     refine List.ext_getElem (by simp[vs,h2];omega) fun k hk1 hk2=>?_;have hkn:k<n:=by omega
     have d1:(i*n+k)/n=i:=by rw[Nat.mul_comm,Nat.mul_add_div hn,Nat.div_eq_of_lt hkn,Nat.add_zero]
     have d2:(i*n+k)%n=k:=by rw[Nat.mul_comm,Nat.mul_add_mod,Nat.mod_eq_of_lt hkn]
     simp[vs,d1,d2,List.getD,hk2]
    have hg:((List.range len).map fun i=>(E i).1).getD i default=(E i).1:=by simp[List.getD,hi]
    rw[hg,e2];exact h1
theorem Ai7{vs S:List Value}{o n k:Nat}(h:(vs.drop o).take n=S)(hk:k<n):vs.getD (o+k) undef=S.getD k undef:=by
 rw[←h];simp[List.getD,List.getElem?_take,hk,List.getElem?_drop]
theorem Y3.ofIn{w:World}{a:Option Addr}{n c:Nat}{l:List UInt8}(h:Ad1 w a n c l):Y3 w (.slice a n c) l:=⟨a,c,by rw[h.1],by have:=h.1;have:=h.2.1;omega,h.2.2.1,h.2.2.2⟩
theorem Bg3{n:Nat}{t e:TypeId}{cs:List Value}{x:DataW H×List MemPlace}(ht:Tryz.prog.underlying t=some (.slice e))(h:DataW.trod enc Tryz.prog w 0 (fun _=>true) true n t cs=some x):∃a len cap,cs=[.slice a len cap]:=by
 rcases Go.Deep.open_slice ht h with⟨h4,_⟩ | ⟨a,len,cap,_,_,_,_,h4,_⟩
 ·exact⟨_,_,_,h4⟩
 ·exact⟨_,_,_,h4⟩
theorem Cu6{fuel:Nat}{cs:List Value}{x:DataW H×List MemPlace}(h:DataW.trod enc Tryz.prog w 0 (fun _=>true) true fuel 22 cs=some x):
 ∃(a:Option Addr) (n c:Nat) (l:List UInt8),cs=[.slice a n c]∧Ad1 w a n c l:=by
 obtain⟨a,n,c,rfl⟩:∃a n c,cs=[.slice a n c]:=by
  rcases Go.Deep.open_slice Tryz.underlying22 h with⟨h4,_⟩ | ⟨a,len,cap,_,_,_,_,h4,_⟩
  ·exact⟨_,_,_,h4⟩
  ·exact⟨_,_,_,h4⟩
 obtain⟨l,hl⟩:=Ah9 (enc:=enc) (w:=w) (a:=a) (len:=n) (cap:=c) (d:=x.1) (ps:=x.2) Tryz.underlying22 Tryz.underlying5 (by kernel_rfl) ⟨_,h⟩;exact⟨a,n,c,l,rfl,hl⟩
theorem En1{fuel:Nat}{cs:List Value}{x:DataW H×List MemPlace}(h:DataW.trod enc Tryz.prog w 0 (fun _=>true) true fuel 63 cs=some x):
 ∃(m0 m1:Int),cs=[.int .i64 m0,.int .i64 m1]∧(Lit.int .i64 m0).wf=true∧(Lit.int .i64 m1).wf=true:=by
 obtain⟨xs,n,rfl,hx,hl,hxl,hg⟩:=DataW.trod_array Tryz.underlying63 h;have e0:Tryz.prog.cellsOf 3=1:=by kernel_rfl
 have eN:Tryz.prog.cellsOf 63=2:=by kernel_rfl
 have hl':cs.length=2:=by rw[←eN];exact hl
 have h0:=hg 0 (by decide);have h1:=hg 1 (by decide);rw[e0,List.getElem?_eq_getElem (by omega:0<xs.length)] at h0;rw[e0,List.getElem?_eq_getElem (by omega:1<xs.length)] at h1;clear h hg hx
 match cs,hl' with
 | [q0,q1],_=>
   have j0:DataW.trod enc Tryz.prog w 0 (fun _=>true) true n 3 [q0]=some xs[0]:=h0;have j1:DataW.trod enc Tryz.prog w 0 (fun _=>true) true n 3 [q1]=some xs[1]:=h1;obtain⟨m0,r0,_,w0⟩:=DataW.trod_int Tryz.underlying3 j0;obtain⟨m1,r1,_,w1⟩:=DataW.trod_int Tryz.underlying3 j1;simp only[List.cons.injEq,and_true] at r0 r1;exact⟨m0,m1,by rw[r0,r1],w0,w1⟩
theorem Ev4{fuel:Nat}{cs:List Value}{x:DataW H×List MemPlace}(h:DataW.trod enc Tryz.prog w 0 (fun _=>true) true fuel 77 cs=some x):
 ∃(m0:Int) (a1:Option Addr) (n1:Nat) (c1:Nat) (l1:List UInt8),cs=[.int .i64 m0,.slice a1 n1 c1]∧(Lit.int .i64 m0).wf=true∧Ad1 w a1 n1 c1 l1:=by
 obtain⟨xs,n,rfl,hx,hl,hxl,hg⟩:=DataW.trod_struct Tryz.underlying77 h;have h0:=hg 0 _ rfl;have h1:=hg 1 _ rfl;have hxl':xs.length=2:=hxl;rw[List.getElem?_eq_getElem (by omega:0<xs.length)] at h0;rw[List.getElem?_eq_getElem (by omega:1<xs.length)] at h1;have e0:Tryz.prog.cellsOf 3=1:=by kernel_rfl
 have e1:Tryz.prog.cellsOf 22=1:=by kernel_rfl
 have eN:Tryz.prog.cellsOf 77=2:=by kernel_rfl
 have hl':cs.length=2:=by rw[←eN];exact hl
 have k0:DataW.trod enc Tryz.prog w 0 (fun _=>true) true n 3 ((cs.drop 0).take (Tryz.prog.cellsOf 3))=some xs[0]:=h0;rw[e0] at k0;have k1:DataW.trod enc Tryz.prog w 0 (fun _=>true) true n 22 ((cs.drop 1).take (Tryz.prog.cellsOf 22))=some xs[1]:=h1;rw[e1] at k1;clear h hg hx h0 h1
 match cs,hl' with
 | [q0,q1],_=>
   have j0:DataW.trod enc Tryz.prog w 0 (fun _=>true) true n 3 [q0]=some xs[0]:=k0;obtain⟨m0,r0,_,w0⟩:=DataW.trod_int Tryz.underlying3 j0;simp only[List.cons.injEq,and_true] at r0;have j1:DataW.trod enc Tryz.prog w 0 (fun _=>true) true n 22 [q1]=some xs[1]:=k1;obtain⟨a1,n1,c1,rfl⟩:=Am9 Tryz.underlying22 j1;obtain⟨l1,w1⟩:=Ah9 (enc:=enc) (w:=w) (a:=a1) (len:=n1) (cap:=c1) (d:=xs[1].1) (ps:=xs[1].2) Tryz.underlying22 Tryz.underlying5 (by kernel_rfl) ⟨n,j1⟩;exact⟨m0,a1,n1,c1,l1,by rw[r0],w0,w1⟩
theorem En2{fuel:Nat}{cs:List Value}{x:DataW H×List MemPlace}(h:DataW.trod enc Tryz.prog w 0 (fun _=>true) true fuel 103 cs=some x):
 ∃(m0:Int) (m0_1:Int) (m1_1:Int) (m2:Int) (a3:Option Addr) (n3:Nat) (c3:Nat) (l3:List UInt8),cs=[.int .i64 m0,.int .i64 m0_1,.int .i64 m1_1,.int .i64 m2,.slice a3 n3 c3]∧(Lit.int .i64 m0).wf=true∧(Lit.int .i64 m0_1).wf=true∧(Lit.int .i64 m1_1).wf=true∧(Lit.int .i64 m2).wf=true∧Ad1 w a3 n3 c3 l3:=by
 obtain⟨xs,n,rfl,hx,hl,hxl,hg⟩:=DataW.trod_struct Tryz.underlying103 h;have h0:=hg 0 _ rfl;have h1:=hg 1 _ rfl;have h2:=hg 2 _ rfl;have h3:=hg 3 _ rfl;have hxl':xs.length=4:=hxl;rw[List.getElem?_eq_getElem (by omega:0<xs.length)] at h0;rw[List.getElem?_eq_getElem (by omega:1<xs.length)] at h1;rw[List.getElem?_eq_getElem (by omega:2<xs.length)] at h2;rw[List.getElem?_eq_getElem (by omega:3<xs.length)] at h3;have e0:Tryz.prog.cellsOf 3=1:=by kernel_rfl
 have e1:Tryz.prog.cellsOf 63=2:=by kernel_rfl
 have e2:Tryz.prog.cellsOf 22=1:=by kernel_rfl
 have eN:Tryz.prog.cellsOf 103=5:=by kernel_rfl
 have hl':cs.length=5:=by rw[←eN];exact hl
 have k0:DataW.trod enc Tryz.prog w 0 (fun _=>true) true n 3 ((cs.drop 0).take (Tryz.prog.cellsOf 3))=some xs[0]:=h0;rw[e0] at k0;have k1:DataW.trod enc Tryz.prog w 0 (fun _=>true) true n 63 ((cs.drop 1).take (Tryz.prog.cellsOf 63))=some xs[1]:=h1;rw[e1] at k1;have k2:DataW.trod enc Tryz.prog w 0 (fun _=>true) true n 3 ((cs.drop 3).take (Tryz.prog.cellsOf 3))=some xs[2]:=h2;rw[e0] at k2;have k3:DataW.trod enc Tryz.prog w 0 (fun _=>true) true n 22 ((cs.drop 4).take (Tryz.prog.cellsOf 22))=some xs[3]:=h3;rw[e2] at k3;clear h hg hx h0 h1 h2 h3
 match cs,hl' with
 | [q0,q1,q2,q3,q4],_=>
   have j0:DataW.trod enc Tryz.prog w 0 (fun _=>true) true n 3 [q0]=some xs[0]:=k0;obtain⟨m0,r0,_,w0⟩:=DataW.trod_int Tryz.underlying3 j0;simp only[List.cons.injEq,and_true] at r0;have j1:DataW.trod enc Tryz.prog w 0 (fun _=>true) true n 63 [q1,q2]=some xs[1]:=k1;obtain⟨m0_1,m1_1,r1,w1_0,w1_1⟩:=En1 j1;simp only[List.cons.injEq,and_true] at r1;obtain⟨r1_0,r1_1⟩:=r1;have j2:DataW.trod enc Tryz.prog w 0 (fun _=>true) true n 3 [q3]=some xs[2]:=k2;obtain⟨m2,r2,_,w2⟩:=DataW.trod_int Tryz.underlying3 j2;simp only[List.cons.injEq,and_true] at r2;have j3:DataW.trod enc Tryz.prog w 0 (fun _=>true) true n 22 [q4]=some xs[3]:=k3;obtain⟨a3,n3,c3,rfl⟩:=Am9 Tryz.underlying22 j3;obtain⟨l3,w3⟩:=Ah9 (enc:=enc) (w:=w) (a:=a3) (len:=n3) (cap:=c3) (d:=xs[3].1) (ps:=xs[3].2) Tryz.underlying22 Tryz.underlying5 (by kernel_rfl) ⟨n,j3⟩;exact⟨m0,m0_1,m1_1,m2,a3,n3,c3,l3,by rw[r0,r1_0,r1_1,r2],w0,w1_0,w1_1,w2,w3⟩
theorem Fb6{fuel:Nat}{cs:List Value}{x:DataW H×List MemPlace}(h:DataW.trod enc Tryz.prog w 0 (fun _=>true) true fuel 34 cs=some x):
 ∃(m0:Int) (m1:Int) (m2:Int) (m3:Int) (a4:Option Addr) (n4:Nat) (c4:Nat) (l4:List UInt8),cs=[.int .i64 m0,.int .i64 m1,.int .i64 m2,.int .i64 m3,.slice a4 n4 c4]∧(Lit.int .i64 m0).wf=true∧(Lit.int .i64 m1).wf=true∧(Lit.int .i64 m2).wf=true∧(Lit.int .i64 m3).wf=true∧Ad1 w a4 n4 c4 l4:=by
 obtain⟨xs,n,rfl,hx,hl,hxl,hg⟩:=DataW.trod_struct Tryz.underlying34 h;have h0:=hg 0 _ rfl;have h1:=hg 1 _ rfl;have h2:=hg 2 _ rfl;have h3:=hg 3 _ rfl;have h4:=hg 4 _ rfl;have hxl':xs.length=5:=hxl;rw[List.getElem?_eq_getElem (by omega:0<xs.length)] at h0;rw[List.getElem?_eq_getElem (by omega:1<xs.length)] at h1;rw[List.getElem?_eq_getElem (by omega:2<xs.length)] at h2;rw[List.getElem?_eq_getElem (by omega:3<xs.length)] at h3;rw[List.getElem?_eq_getElem (by omega:4<xs.length)] at h4;have e0:Tryz.prog.cellsOf 3=1:=by kernel_rfl
 have e1:Tryz.prog.cellsOf 22=1:=by kernel_rfl
 have eN:Tryz.prog.cellsOf 34=5:=by kernel_rfl
 have hl':cs.length=5:=by rw[←eN];exact hl
 have k0:DataW.trod enc Tryz.prog w 0 (fun _=>true) true n 3 ((cs.drop 0).take (Tryz.prog.cellsOf 3))=some xs[0]:=h0;rw[e0] at k0;have k1:DataW.trod enc Tryz.prog w 0 (fun _=>true) true n 3 ((cs.drop 1).take (Tryz.prog.cellsOf 3))=some xs[1]:=h1;rw[e0] at k1;have k2:DataW.trod enc Tryz.prog w 0 (fun _=>true) true n 3 ((cs.drop 2).take (Tryz.prog.cellsOf 3))=some xs[2]:=h2;rw[e0] at k2;have k3:DataW.trod enc Tryz.prog w 0 (fun _=>true) true n 3 ((cs.drop 3).take (Tryz.prog.cellsOf 3))=some xs[3]:=h3;rw[e0] at k3;have k4:DataW.trod enc Tryz.prog w 0 (fun _=>true) true n 22 ((cs.drop 4).take (Tryz.prog.cellsOf 22))=some xs[4]:=h4;rw[e1] at k4;clear h hg hx h0 h1 h2 h3 h4
 match cs,hl' with
 | [q0,q1,q2,q3,q4],_=>
   have j0:DataW.trod enc Tryz.prog w 0 (fun _=>true) true n 3 [q0]=some xs[0]:=k0;obtain⟨m0,r0,_,w0⟩:=DataW.trod_int Tryz.underlying3 j0;simp only[List.cons.injEq,and_true] at r0;have j1:DataW.trod enc Tryz.prog w 0 (fun _=>true) true n 3 [q1]=some xs[1]:=k1;obtain⟨m1,r1,_,w1⟩:=DataW.trod_int Tryz.underlying3 j1;simp only[List.cons.injEq,and_true] at r1;have j2:DataW.trod enc Tryz.prog w 0 (fun _=>true) true n 3 [q2]=some xs[2]:=k2;obtain⟨m2,r2,_,w2⟩:=DataW.trod_int Tryz.underlying3 j2;simp only[List.cons.injEq,and_true] at r2;have j3:DataW.trod enc Tryz.prog w 0 (fun _=>true) true n 3 [q3]=some xs[3]:=k3;obtain⟨m3,r3,_,w3⟩:=DataW.trod_int Tryz.underlying3 j3;simp only[List.cons.injEq,and_true] at r3;have j4:DataW.trod enc Tryz.prog w 0 (fun _=>true) true n 22 [q4]=some xs[4]:=k4;obtain⟨a4,n4,c4,rfl⟩:=Am9 Tryz.underlying22 j4;obtain⟨l4,w4⟩:=Ah9 (enc:=enc) (w:=w) (a:=a4) (len:=n4) (cap:=c4) (d:=xs[4].1) (ps:=xs[4].2) Tryz.underlying22 Tryz.underlying5 (by kernel_rfl) ⟨n,j4⟩;exact⟨m0,m1,m2,m3,a4,n4,c4,l4,by rw[r0,r1,r2,r3],w0,w1,w2,w3,w4⟩
theorem En3{fuel:Nat}{cs:List Value}{x:DataW H×List MemPlace}(h:DataW.trod enc Tryz.prog w 0 (fun _=>true) true fuel 153 cs=some x):
 ∃(a0:Option Addr) (n0:Nat) (c0:Nat) (l0:List UInt8) (a1:Option Addr) (n1:Nat) (c1:Nat) (l1:List UInt8),cs=[.slice a0 n0 c0,.slice a1 n1 c1]∧Ad1 w a0 n0 c0 l0∧Ad1 w a1 n1 c1 l1:=by
 obtain⟨xs,n,rfl,hx,hl,hxl,hg⟩:=DataW.trod_struct Tryz.underlying153 h;have h0:=hg 0 _ rfl;have h1:=hg 1 _ rfl;have hxl':xs.length=2:=hxl;rw[List.getElem?_eq_getElem (by omega:0<xs.length)] at h0;rw[List.getElem?_eq_getElem (by omega:1<xs.length)] at h1;have e0:Tryz.prog.cellsOf 22=1:=by kernel_rfl
 have eN:Tryz.prog.cellsOf 153=2:=by kernel_rfl
 have hl':cs.length=2:=by rw[←eN];exact hl
 have k0:DataW.trod enc Tryz.prog w 0 (fun _=>true) true n 22 ((cs.drop 0).take (Tryz.prog.cellsOf 22))=some xs[0]:=h0;rw[e0] at k0;have k1:DataW.trod enc Tryz.prog w 0 (fun _=>true) true n 22 ((cs.drop 1).take (Tryz.prog.cellsOf 22))=some xs[1]:=h1;rw[e0] at k1;clear h hg hx h0 h1
 match cs,hl' with
 | [q0,q1],_=>
   have j0:DataW.trod enc Tryz.prog w 0 (fun _=>true) true n 22 [q0]=some xs[0]:=k0;obtain⟨a0,n0,c0,rfl⟩:=Am9 Tryz.underlying22 j0;obtain⟨l0,w0⟩:=Ah9 (enc:=enc) (w:=w) (a:=a0) (len:=n0) (cap:=c0) (d:=xs[0].1) (ps:=xs[0].2) Tryz.underlying22 Tryz.underlying5 (by kernel_rfl) ⟨n,j0⟩;have j1:DataW.trod enc Tryz.prog w 0 (fun _=>true) true n 22 [q1]=some xs[1]:=k1;obtain⟨a1,n1,c1,rfl⟩:=Am9 Tryz.underlying22 j1;obtain⟨l1,w1⟩:=Ah9 (enc:=enc) (w:=w) (a:=a1) (len:=n1) (cap:=c1) (d:=xs[1].1) (ps:=xs[1].2) Tryz.underlying22 Tryz.underlying5 (by kernel_rfl) ⟨n,j1⟩;exact⟨a0,n0,c0,l0,a1,n1,c1,l1,rfl,w0,w1⟩
theorem En4{fuel:Nat}{cs:List Value}{x:DataW H×List MemPlace}(h:DataW.trod enc Tryz.prog w 0 (fun _=>true) true fuel 24 cs=some x):
 ∃(a0:Option Addr) (n0:Nat) (c0:Nat) (l0:List UInt8) (a1:Option Addr) (n1:Nat) (c1:Nat) (l1:List UInt8),cs=[.slice a0 n0 c0,.slice a1 n1 c1]∧Ad1 w a0 n0 c0 l0∧Ad1 w a1 n1 c1 l1:=by
 obtain⟨xs,n,rfl,hx,hl,hxl,hg⟩:=DataW.trod_struct Tryz.underlying24 h;have h0:=hg 0 _ rfl;have h1:=hg 1 _ rfl;have hxl':xs.length=2:=hxl;rw[List.getElem?_eq_getElem (by omega:0<xs.length)] at h0;rw[List.getElem?_eq_getElem (by omega:1<xs.length)] at h1;have e0:Tryz.prog.cellsOf 22=1:=by kernel_rfl
 have eN:Tryz.prog.cellsOf 24=2:=by kernel_rfl
 have hl':cs.length=2:=by rw[←eN];exact hl
 have k0:DataW.trod enc Tryz.prog w 0 (fun _=>true) true n 22 ((cs.drop 0).take (Tryz.prog.cellsOf 22))=some xs[0]:=h0;rw[e0] at k0;have k1:DataW.trod enc Tryz.prog w 0 (fun _=>true) true n 22 ((cs.drop 1).take (Tryz.prog.cellsOf 22))=some xs[1]:=h1;rw[e0] at k1;clear h hg hx h0 h1
 match cs,hl' with
 | [q0,q1],_=>
   have j0:DataW.trod enc Tryz.prog w 0 (fun _=>true) true n 22 [q0]=some xs[0]:=k0;obtain⟨a0,n0,c0,rfl⟩:=Am9 Tryz.underlying22 j0;obtain⟨l0,w0⟩:=Ah9 (enc:=enc) (w:=w) (a:=a0) (len:=n0) (cap:=c0) (d:=xs[0].1) (ps:=xs[0].2) Tryz.underlying22 Tryz.underlying5 (by kernel_rfl) ⟨n,j0⟩;have j1:DataW.trod enc Tryz.prog w 0 (fun _=>true) true n 22 [q1]=some xs[1]:=k1;obtain⟨a1,n1,c1,rfl⟩:=Am9 Tryz.underlying22 j1;obtain⟨l1,w1⟩:=Ah9 (enc:=enc) (w:=w) (a:=a1) (len:=n1) (cap:=c1) (d:=xs[1].1) (ps:=xs[1].2) Tryz.underlying22 Tryz.underlying5 (by kernel_rfl) ⟨n,j1⟩;exact⟨a0,n0,c0,l0,a1,n1,c1,l1,rfl,w0,w1⟩
theorem Co4{fuel:Nat}{cs:List Value}{x:DataW H×List MemPlace}(h:DataW.trod enc Tryz.prog w 0 (fun _=>true) true fuel 30 cs=some x):
 ∃(g:G) (l:List UInt8),cs=[.int .i64 g.no,.slice g.a g.len g.cap]∧Ad1 w g.a g.len g.cap l∧(Lit.int .i64 g.no).wf=true:=by
 obtain⟨xs,n,rfl,hx,hl,hxl,hg⟩:=DataW.trod_struct Tryz.underlying30 h;have h0:=hg 0 _ rfl;have h1:=hg 1 _ rfl;have hxl':xs.length=2:=hxl;rw[List.getElem?_eq_getElem (by omega:0<xs.length)] at h0;rw[List.getElem?_eq_getElem (by omega:1<xs.length)] at h1;have e0:Tryz.prog.cellsOf 3=1:=by kernel_rfl
 have e1:Tryz.prog.cellsOf 22=1:=by kernel_rfl
 have e2:Tryz.prog.cellsOf 30=2:=by kernel_rfl
 have hl':cs.length=2:=by rw[←e2];exact hl
 obtain⟨m,hm,_,hw⟩:=DataW.trod_int Tryz.underlying3 h0;have hm1:(cs.drop 0).take (Tryz.prog.cellsOf 3)=[Value.int .i64 m]:=hm;have h1':DataW.trod enc Tryz.prog w 0 (fun _=>true) true n 22 ((cs.drop 1).take (Tryz.prog.cellsOf 22))=some xs[1]:=h1;rw[e0] at hm1;rw[e1] at h1'
 match cs,hl' with
 | [c0,c1],_=>
   have hm':c0=Value.int .i64 m:=by have:[c0]=[Value.int .i64 m]:=hm1;simpa using this
   have h3:DataW.trod enc Tryz.prog w 0 (fun _=>true) true n 22 [c1]=some xs[1]:=h1';obtain⟨a,len,cap,hc⟩:∃a len cap,c1=.slice a len cap:=by
    rcases Go.Deep.open_slice Tryz.underlying22 h3 with⟨h4,_⟩ | ⟨a,len,cap,_,_,_,_,h4,_⟩
    ·exact⟨_,_,_,by simpa using h4⟩
    ·exact⟨_,_,_,by simpa using h4⟩
   subst hc;obtain⟨l,hin⟩:=Ah9 (enc:=enc) (w:=w) (a:=a) (len:=len) (cap:=cap) (d:=xs[1].1) (ps:=xs[1].2) Tryz.underlying22 Tryz.underlying5 (by kernel_rfl) ⟨n,h3⟩;exact⟨⟨m,a,len,cap⟩,l,by rw[hm'],hin,hw⟩
def Fb7(w:World)(r:Rg):Prop:=∃kc ko kp,Ad1 w r.c.a r.c.len r.c.cap kc∧Ad1 w r.o.a r.o.len r.o.cap ko∧Ad1 w r.p.a r.p.len r.p.cap kp∧
 (Lit.int .i64 r.c.no).wf=true∧(Lit.int .i64 r.o.no).wf=true∧(Lit.int .i64 r.p.no).wf=true∧(Lit.int .i64 r.l).wf=true∧(Lit.int .i64 r.t).wf=true
theorem Ev5{fuel:Nat}{cs:List Value}{x:DataW H×List MemPlace}(h:DataW.trod enc Tryz.prog w 0 (fun _=>true) true fuel 32 cs=some x):
 ∃r:Rg,cs=r.L∧Fb7 w r:=by
 obtain⟨xs,n,rfl,hx,hl,hxl,hg⟩:=DataW.trod_struct Tryz.underlying32 h;have h0:=hg 0 _ rfl;have h1:=hg 1 _ rfl;have h2:=hg 2 _ rfl;have h3:=hg 3 _ rfl;have h4:=hg 4 _ rfl;have hxl':xs.length=5:=hxl;rw[List.getElem?_eq_getElem (by omega:0<xs.length)] at h0;rw[List.getElem?_eq_getElem (by omega:1<xs.length)] at h1;rw[List.getElem?_eq_getElem (by omega:2<xs.length)] at h2;rw[List.getElem?_eq_getElem (by omega:3<xs.length)] at h3;rw[List.getElem?_eq_getElem (by omega:4<xs.length)] at h4;have e0:Tryz.prog.cellsOf 3=1:=by kernel_rfl
 have e2:Tryz.prog.cellsOf 30=2:=by kernel_rfl
 have e8:Tryz.prog.cellsOf 32=8:=by kernel_rfl
 have hl':cs.length=8:=by rw[←e8];exact hl
 have k0:DataW.trod enc Tryz.prog w 0 (fun _=>true) true n 30 ((cs.drop 0).take (Tryz.prog.cellsOf 30))=some xs[0]:=h0;have k1:DataW.trod enc Tryz.prog w 0 (fun _=>true) true n 30 ((cs.drop 2).take (Tryz.prog.cellsOf 30))=some xs[1]:=h1;have k2:DataW.trod enc Tryz.prog w 0 (fun _=>true) true n 30 ((cs.drop 4).take (Tryz.prog.cellsOf 30))=some xs[2]:=h2;have k3:DataW.trod enc Tryz.prog w 0 (fun _=>true) true n 3 ((cs.drop 6).take (Tryz.prog.cellsOf 3))=some xs[3]:=h3;have k4:DataW.trod enc Tryz.prog w 0 (fun _=>true) true n 3 ((cs.drop 7).take (Tryz.prog.cellsOf 3))=some xs[4]:=h4;rw[e2] at k0 k1 k2;rw[e0] at k3 k4
 match cs,hl' with
 | [c0,c1,c2,c3,c4,c5,c6,c7],_=>
   obtain⟨g0,l0,q0,i0,w0⟩:=Co4 (show DataW.trod enc Tryz.prog w 0 (fun _=>true) true n 30 [c0,c1]=some xs[0] from k0);obtain⟨g1,l1,q1,i1,w1⟩:=Co4 (show DataW.trod enc Tryz.prog w 0 (fun _=>true) true n 30 [c2,c3]=some xs[1] from k1);obtain⟨g2,l2,q2,i2,w2⟩:=Co4 (show DataW.trod enc Tryz.prog w 0 (fun _=>true) true n 30 [c4,c5]=some xs[2] from k2);obtain⟨m3,q3,_,w3⟩:=DataW.trod_int Tryz.underlying3 (show DataW.trod enc Tryz.prog w 0 (fun _=>true) true n 3 [c6]=some xs[3] from k3);obtain⟨m4,q4,_,w4⟩:=DataW.trod_int Tryz.underlying3 (show DataW.trod enc Tryz.prog w 0 (fun _=>true) true n 3 [c7]=some xs[4] from k4);simp only[List.cons.injEq,and_true] at q0 q1 q2 q3 q4;exact⟨⟨g0,g1,g2,m3,m4⟩,by rw[q0.1,q0.2,q1.1,q1.2,q2.1,q2.2,q3,q4],l0,l1,l2,i0,i1,i2,w0,w1,w2,w3,w4⟩
theorem Ev6{fuel:Nat}{cs:List Value}{x:DataW H×List MemPlace}(h:DataW.trod enc Tryz.prog w 0 (fun _=>true) true fuel 38 cs=some x):
 ∃(a:Option Addr) (len cap:Nat) (skip bad:Int) (l:List UInt8),cs=[.slice a len cap,.int .i64 skip,.int .i64 bad]∧Ad1 w a len cap l∧(Lit.int .i64 skip).wf=true∧(Lit.int .i64 bad).wf=true:=by
 obtain⟨xs,n,rfl,hx,hl,hxl,hg⟩:=DataW.trod_struct Tryz.underlying38 h;have h0:=hg 0 _ rfl;have h1:=hg 1 _ rfl;have h2:=hg 2 _ rfl;have hxl':xs.length=3:=hxl;rw[List.getElem?_eq_getElem (by omega:0<xs.length)] at h0;rw[List.getElem?_eq_getElem (by omega:1<xs.length)] at h1;rw[List.getElem?_eq_getElem (by omega:2<xs.length)] at h2;have e0:Tryz.prog.cellsOf 3=1:=by kernel_rfl
 have e1:Tryz.prog.cellsOf 22=1:=by kernel_rfl
 have e2:Tryz.prog.cellsOf 38=3:=by kernel_rfl
 have hl':cs.length=3:=by rw[←e2];exact hl
 have k0:DataW.trod enc Tryz.prog w 0 (fun _=>true) true n 22 ((cs.drop 0).take (Tryz.prog.cellsOf 22))=some xs[0]:=h0;have k1:DataW.trod enc Tryz.prog w 0 (fun _=>true) true n 3 ((cs.drop 1).take (Tryz.prog.cellsOf 3))=some xs[1]:=h1;have k2:DataW.trod enc Tryz.prog w 0 (fun _=>true) true n 3 ((cs.drop 2).take (Tryz.prog.cellsOf 3))=some xs[2]:=h2;rw[e1] at k0;rw[e0] at k1 k2
 match cs,hl' with
 | [c0,c1,c2],_=>
   obtain⟨m1,q1,_,w1⟩:=DataW.trod_int Tryz.underlying3 (show DataW.trod enc Tryz.prog w 0 (fun _=>true) true n 3 [c1]=some xs[1] from k1);obtain⟨m2,q2,_,w2⟩:=DataW.trod_int Tryz.underlying3 (show DataW.trod enc Tryz.prog w 0 (fun _=>true) true n 3 [c2]=some xs[2] from k2);have h3:DataW.trod enc Tryz.prog w 0 (fun _=>true) true n 22 [c0]=some xs[0]:=k0;obtain⟨a,len,cap,hc⟩:∃a len cap,c0=.slice a len cap:=by
    rcases Go.Deep.open_slice Tryz.underlying22 h3 with⟨h4,_⟩ | ⟨a,len,cap,_,_,_,_,h4,_⟩
    ·exact⟨_,_,_,by simpa using h4⟩
    ·exact⟨_,_,_,by simpa using h4⟩
   subst hc;obtain⟨l,hin⟩:=Ah9 (enc:=enc) (w:=w) (a:=a) (len:=len) (cap:=cap) (d:=xs[0].1) (ps:=xs[0].2) Tryz.underlying22 Tryz.underlying5 (by kernel_rfl) ⟨n,h3⟩;simp only[List.cons.injEq,and_true] at q1 q2;exact⟨a,len,cap,m1,m2,l,by rw[q1,q2],hin,w1,w2⟩
theorem En5{fuel:Nat}{c0 c1 c2 c3:Value}{x:DataW H×List MemPlace}(h:DataW.trod enc Tryz.prog w 0 (fun _=>true) true fuel 36 [c0,c1,c2,c3]=some x):∃u0 u1 u2 u3:Bool,c0=.bool u0∧c1=.bool u1∧c2=.bool u2∧c3=.bool u3:=by
 obtain⟨xs,m,rfl,hx,hl,hxl,hg⟩:=DataW.trod_array Tryz.underlying36 h;have e1:Tryz.prog.cellsOf 4=1:=by kernel_rfl
 have key:∀i,i<4→∃u:Bool,(([c0,c1,c2,c3]:List Value).drop i).take 1=[.bool u]:=fun i hi=>by
  have h1:=hg i hi;rw[e1,Nat.mul_one,List.getElem?_eq_getElem (by omega:i<xs.length)] at h1;obtain⟨u,h2,_⟩:=DataW.trod_bool Tryz.underlying4 h1;exact⟨u,h2⟩
 obtain⟨u0,k0⟩:=key 0 (by decide);obtain⟨u1,k1⟩:=key 1 (by decide);obtain⟨u2,k2⟩:=key 2 (by decide);obtain⟨u3,k3⟩:=key 3 (by decide);simp at k0 k1 k2 k3;exact⟨u0,u1,u2,u3,k0,k1,k2,k3⟩
theorem Cu7{fuel:Nat}{c0 c1 c2 c3:Value}{x:DataW H×List MemPlace}(h:DataW.trod enc Tryz.prog w 0 (fun _=>true) true fuel 40 [c0,c1,c2,c3]=some x):∃u0 u1 u2 u3:Int,c0=.int .i64 u0∧c1=.int .i64 u1∧c2=.int .i64 u2∧c3=.int .i64 u3:=by
 obtain⟨xs,m,rfl,hx,hl,hxl,hg⟩:=DataW.trod_array Tryz.underlying40 h;have e1:Tryz.prog.cellsOf 3=1:=by kernel_rfl
 have key:∀i,i<4→∃u:Int,(([c0,c1,c2,c3]:List Value).drop i).take 1=[.int .i64 u]:=fun i hi=>by
  have h1:=hg i hi;rw[e1,Nat.mul_one,List.getElem?_eq_getElem (by omega:i<xs.length)] at h1;obtain⟨u,h2,_,_⟩:=DataW.trod_int Tryz.underlying3 h1;exact⟨u,h2⟩
 obtain⟨u0,k0⟩:=key 0 (by decide);obtain⟨u1,k1⟩:=key 1 (by decide);obtain⟨u2,k2⟩:=key 2 (by decide);obtain⟨u3,k3⟩:=key 3 (by decide);simp at k0 k1 k2 k3;exact⟨u0,u1,u2,u3,k0,k1,k2,k3⟩
theorem En6{fuel:Nat}{c0 c1 c2 c3 c4 c5 c6 c7 c8 c9 c10 c11:Value}{x:DataW H×List MemPlace}(h:DataW.trod enc Tryz.prog w 0 (fun _=>true) true fuel 39 [c0,c1,c2,c3,c4,c5,c6,c7,c8,c9,c10,c11]=some x):
 ∃(f0 f1 f2 f3:Fv) (s0 s1 s2 s3:Fd),[c0,c1,c2]=f0.L∧[c3,c4,c5]=f1.L∧[c6,c7,c8]=f2.L∧[c9,c10,c11]=f3.L∧Ac8 w f0 s0∧Ac8 w f1 s1∧Ac8 w f2 s2∧Ac8 w f3 s3:=by
 obtain⟨xs,m,rfl,hx,hl,hxl,hg⟩:=DataW.trod_array Tryz.underlying39 h;have e1:Tryz.prog.cellsOf 38=3:=by kernel_rfl
 have key:∀i,i<4→∃(f:Fv) (s:Fd),(([c0,c1,c2,c3,c4,c5,c6,c7,c8,c9,c10,c11]:List Value).drop (i*3)).take 3=f.L∧Ac8 w f s:=fun i hi=>by
  have h1:=hg i hi;rw[e1,List.getElem?_eq_getElem (by omega:i<xs.length)] at h1;obtain⟨a,len,cap,sk,bd,l,h2,h3,_,_⟩:=Ev6 h1;exact⟨⟨a,len,cap,sk,bd⟩,⟨l,sk,bd⟩,h2,⟨h3.1,h3.2.1,h3.2.2.1,h3.2.2.2,rfl,rfl⟩⟩
 obtain⟨f0,s0,k0,g0⟩:=key 0 (by decide);obtain⟨f1,s1,k1,g1⟩:=key 1 (by decide);obtain⟨f2,s2,k2,g2⟩:=key 2 (by decide);obtain⟨f3,s3,k3,g3⟩:=key 3 (by decide);exact⟨f0,f1,f2,f3,s0,s1,s2,s3,k0,k1,k2,k3,g0,g1,g2,g3⟩
theorem Fb8{fuel:Nat}{cs:List Value}{x:DataW H×List MemPlace}(h:DataW.trod enc Tryz.prog w 0 (fun _=>true) true fuel 42 cs=some x):∃(hv:Hv) (s:Nat→Fd),cs=hv.L∧Ap0 w hv s:=by
 obtain⟨xs,n,rfl,hx,hl,hxl,hg⟩:=DataW.trod_struct Tryz.underlying42 h;have hxl':xs.length=4:=hxl;have h0:=hg 0 _ rfl;have h1:=hg 1 _ rfl;have h2:=hg 2 _ rfl;have h3:=hg 3 _ rfl;rw[List.getElem?_eq_getElem (by omega:0<xs.length)] at h0;rw[List.getElem?_eq_getElem (by omega:1<xs.length)] at h1;rw[List.getElem?_eq_getElem (by omega:2<xs.length)] at h2;rw[List.getElem?_eq_getElem (by omega:3<xs.length)] at h3;have e0:Tryz.prog.cellsOf 3=1:=by kernel_rfl
 have e1:Tryz.prog.cellsOf 36=4:=by kernel_rfl
 have e2:Tryz.prog.cellsOf 39=12:=by kernel_rfl
 have e3:Tryz.prog.cellsOf 40=4:=by kernel_rfl
 have e8:Tryz.prog.cellsOf 42=21:=by kernel_rfl
 have hl':cs.length=21:=by rw[←e8];exact hl
 have k0:DataW.trod enc Tryz.prog w 0 (fun _=>true) true n 36 ((cs.drop 0).take (Tryz.prog.cellsOf 36))=some xs[0]:=h0;have k1:DataW.trod enc Tryz.prog w 0 (fun _=>true) true n 39 ((cs.drop 4).take (Tryz.prog.cellsOf 39))=some xs[1]:=h1;have k2:DataW.trod enc Tryz.prog w 0 (fun _=>true) true n 40 ((cs.drop 16).take (Tryz.prog.cellsOf 40))=some xs[2]:=h2;have k3:DataW.trod enc Tryz.prog w 0 (fun _=>true) true n 3 ((cs.drop 20).take (Tryz.prog.cellsOf 3))=some xs[3]:=h3;rw[e1] at k0;rw[e2] at k1;rw[e3] at k2;rw[e0] at k3
 match cs,hl' with
 | [c0,c1,c2,c3,c4,c5,c6,c7,c8,c9,c10,c11,c12,c13,c14,c15,c16,c17,c18,c19,c20],_=>
   obtain⟨u0,u1,u2,u3,rfl,rfl,rfl,rfl⟩:=En5 (show DataW.trod enc Tryz.prog w 0 (fun _=>true) true n 36 [c0,c1,c2,c3]=some xs[0] from k0);obtain⟨f0,f1,f2,f3,s0,s1,s2,s3,q0,q1,q2,q3,g0,g1,g2,g3⟩:=En6 (show DataW.trod enc Tryz.prog w 0 (fun _=>true) true n 39 [c4,c5,c6,c7,c8,c9,c10,c11,c12,c13,c14,c15]=some xs[1] from k1);obtain⟨l0,l1,l2,l3,rfl,rfl,rfl,rfl⟩:=Cu7 (show DataW.trod enc Tryz.prog w 0 (fun _=>true) true n 40 [c16,c17,c18,c19]=some xs[2] from k2);obtain⟨nx,q4,_,_⟩:=DataW.trod_int Tryz.underlying3 (show DataW.trod enc Tryz.prog w 0 (fun _=>true) true n 3 [c20]=some xs[3] from k3);simp only[Fv.L,List.cons.injEq,and_true] at q0 q1 q2 q3 q4;obtain⟨rfl,rfl,rfl⟩:=q0;obtain⟨rfl,rfl,rfl⟩:=q1;obtain⟨rfl,rfl,rfl⟩:=q2;obtain⟨rfl,rfl,rfl⟩:=q3;subst q4;refine⟨⟨fun i=>match i with | 0=>u0 | 1=>u1 | 2=>u2 | _=>u3,fun i=>match i with | 0=>f0 | 1=>f1 | 2=>f2 | _=>f3,fun i=>match i with | 0=>l0 | 1=>l1 | 2=>l2 | _=>l3,nx⟩,fun i=>match i with | 0=>s0 | 1=>s1 | 2=>s2 | _=>s3,rfl,fun i hi=>?_⟩;rcases(show i=0∨i=1∨i=2∨i=3 by omega) with rfl | rfl | rfl | rfl
   ·exact g0
   ·exact g1
   ·exact g2
   ·exact g3
theorem Fb9{fuel:Nat}{cs:List Value}{x:DataW H×List MemPlace}(h:DataW.trod enc Tryz.prog w 0 (fun _=>true) true fuel 40 cs=some x):∃c0 c1 c2 c3:Int,cs=[.int .i64 c0,.int .i64 c1,.int .i64 c2,.int .i64 c3]:=by
 obtain⟨xs,n,rfl,hx,hl,hxl,hg⟩:=DataW.trod_array Tryz.underlying40 h;have e0:Tryz.prog.cellsOf 3=1:=by kernel_rfl
 have eN:Tryz.prog.cellsOf 40=4:=by kernel_rfl
 have hl':cs.length=4:=by rw[←eN];exact hl
 match cs,hl' with
 | [q0,q1,q2,q3],_=>
   obtain⟨u0,u1,u2,u3,rfl,rfl,rfl,rfl⟩:=Cu7 h;exact⟨u0,u1,u2,u3,rfl⟩
theorem Ev7{fuel:Nat}{cs:List Value}{x:DataW H×List MemPlace}(h:DataW.trod enc Tryz.prog w 0 (fun _=>true) true fuel 26 cs=some x):∃b:Nat→UInt64,cs=(List.range 16).map fun i=>.int .u64 (qv (b i)):=by
 obtain⟨xs,n,rfl,hx,hl,hxl,hg⟩:=DataW.trod_array Tryz.underlying26 h;have e0:Tryz.prog.cellsOf 25=1:=by kernel_rfl
 have eN:Tryz.prog.cellsOf 26=16:=by kernel_rfl
 have hl':cs.length=16:=by rw[←eN];exact hl
 have key:∀i,i<16→∃u:UInt64,(cs.drop i).take 1=[.int .u64 (qv u)]:=fun i hi=>by
  have h1:=hg i hi;rw[e0,Nat.mul_one,List.getElem?_eq_getElem (by omega:i<xs.length)] at h1;obtain⟨m,h2,_,h3⟩:=DataW.trod_int Tryz.underlying25 h1;obtain⟨u,rfl⟩:=Dp8 h3;exact⟨u,h2⟩
 obtain⟨b,hb⟩:=Go.Deep.choose_lt (α:=UInt64) key;refine⟨b,List.ext_getElem (by rw[hl'];simp) fun k h1 h2=>?_⟩;have hk:=hb k (by omega);have e:=Ai7 (o:=k) (k:=0) hk (by decide);simp only[Nat.add_zero,List.getD_eq_getElem?_getD,List.getElem?_eq_getElem h1,Option.getD_some] at e;rw[e];simp
theorem S6{cs S T:List Value}{o n m:Nat}(h:(cs.drop o).take n=S)(hm:m=o+n)(h2:cs.drop m=T):cs.drop o=S++T:=by
 subst hm;rw[←h2,←h,←List.drop_drop,List.take_append_drop]
theorem En7{a:Option Addr}{len cap:Nat}{d:DataW H}{ps:List MemPlace}(h:DataW.Trod enc Tryz.prog w 0 (fun _=>true) true 43 (.slice a len cap) d ps):
 ∃l:List (Int×List UInt8),l.length=len∧len≤cap∧cap≤maxLen∧Ae0 w a l:=by
 obtain⟨l,h1,h2,h3,vs,h4,h5,h6⟩:=Bl8 (α:=Int×List UInt8) (n:=2) (fun p cs=>∃v,cs=[.int .i64 p.1,v]∧Y3 w v p.2) Tryz.underlying43 (by kernel_rfl) (by decide)
  (fun fuel cs x h=>by
    obtain⟨m0,a1,n1,c1,l1,rfl,-,u⟩:=Ev4 h;exact⟨(m0,l1),_,rfl,.ofIn u⟩) h
 refine⟨l,h1,h2,h3,vs,by rw[h4,h1],h5,fun i hi=>?_⟩;obtain⟨v,h7,h8⟩:=h6 i (by omega);have e:l.getD i default=l.getD i (0,[]):=by simp[List.getD,hi]
 rw[e] at h7 h8;have g0:=Ai7 (k:=0) h7 (by decide);have g1:=Ai7 (k:=1) h7 (by decide);exact⟨g0,by rw[g1];exact h8⟩
theorem Ev8{a:Option Addr}{len cap:Nat}{d:DataW H}{ps:List MemPlace}(h:DataW.Trod enc Tryz.prog w 0 (fun _=>true) true 44 (.slice a len cap) d ps):
 ∃l:List Gt,l.length=len∧len≤cap∧cap≤maxLen∧Aj4 w a l:=by
 obtain⟨l,h1,h2,h3,vs,h4,h5,h6⟩:=Bl8 (α:=Gt) (n:=5) (fun p cs=>∃v,cs=[.int .i64 p.kind,.int .i64 p.e0,.int .i64 p.e1,.int .i64 p.seq,v]∧Y3 w v p.b) Tryz.underlying44 (by kernel_rfl) (by decide)
  (fun fuel cs x h=>by
    obtain⟨m0,m1,m2,m3,a1,n1,c1,l1,rfl,-,-,-,-,u⟩:=En2 h;exact⟨⟨m0,m1,m2,m3,l1⟩,_,rfl,.ofIn u⟩) h
 refine⟨l,h1,h2,h3,vs,by rw[h4,h1],h5,fun i hi=>?_⟩;obtain⟨v,h7,h8⟩:=h6 i (by omega);have g0:=Ai7 (k:=0) h7 (by decide);have g1:=Ai7 (k:=1) h7 (by decide);have g2:=Ai7 (k:=2) h7 (by decide);have g3:=Ai7 (k:=3) h7 (by decide);have g4:=Ai7 (k:=4) h7 (by decide);exact⟨g0,g1,g2,g3,by rw[g4];exact h8⟩
theorem En8{a:Option Addr}{len cap:Nat}{d:DataW H}{ps:List MemPlace}(h:DataW.Trod enc Tryz.prog w 0 (fun _=>true) true 47 (.slice a len cap) d ps):
 ∃l:List Ent,l.length=len∧len≤cap∧cap≤maxLen∧X6 w a l:=by
 obtain⟨l,h1,h2,h3,vs,h4,h5,h6⟩:=Bl8 (α:=Ent) (n:=2) (fun p cs=>∃v v',cs=[v,v']∧Y3 w v p.1∧Y3 w v' p.2) Tryz.underlying47 (by kernel_rfl) (by decide)
  (fun fuel cs x h=>by
    obtain⟨a0,n0,c0,l0,a1,n1,c1,l1,rfl,u0,u1⟩:=En3 h;exact⟨(l0,l1),_,_,rfl,.ofIn u0,.ofIn u1⟩) h
 refine⟨l,h1,h2,h3,vs,by rw[h4,h1],h5,fun i hi=>?_⟩;obtain⟨v,v',h7,h8,h9⟩:=h6 i (by omega);have e:l.getD i default=l.getD i ([],[]):=by simp[List.getD,hi]
 rw[e] at h8 h9;have g0:=Ai7 (k:=0) h7 (by decide);have g1:=Ai7 (k:=1) h7 (by decide);exact⟨by rw[show vs.getD (i*2) undef=v from g0];exact h8,by rw[g1];exact h9⟩
theorem Ec7{a:Option Addr}{len cap:Nat}{d:DataW H}{ps:List MemPlace}(h:DataW.Trod enc Tryz.prog w 0 (fun _=>true) true 35 (.slice a len cap) d ps):
 ∃l:List (List UInt8),l.length=len∧len≤cap∧cap≤maxLen∧X9 w a l:=by
 obtain⟨l,h1,h2,h3,vs,h4,h5,h6⟩:=Bl8 (α:=List UInt8) (n:=1) (fun p cs=>∃v,cs=[v]∧Y3 w v p) Tryz.underlying35 (by kernel_rfl) (by decide)
  (fun fuel cs x h=>by
    obtain⟨a0,n0,c0,l0,rfl,u⟩:=Cu6 h;exact⟨l0,_,rfl,.ofIn u⟩) h
 refine⟨l,h1,h2,h3,vs,h5,by rw[h4,h1,Nat.mul_one],fun i hi=>?_⟩;obtain⟨v,h7,h8⟩:=h6 i (by omega);have g0:=Ai7 (k:=0) h7 (by decide);rw[Nat.mul_one] at g0;have e:l.getD i default=l.getD i []:=by simp[List.getD,hi]
 rw[e] at h8;rw[show vs.getD i undef=v from g0];exact h8
theorem Fc0{fuel:Nat}{cs:List Value}{x:DataW H×List MemPlace}(h:DataW.trod enc Tryz.prog w 0 (fun _=>true) true fuel 28 cs=some x):∃t b,cs=C4 t b∧(Lit.int .i64 t).wf=true:=by
 obtain⟨xs,n,rfl,hx,hl,hxl,hg⟩:=DataW.trod_struct Tryz.underlying28 h;have hxl':xs.length=2:=hxl;have e_16uint64:Tryz.prog.cellsOf 26=16:=by kernel_rfl
 have e_int:Tryz.prog.cellsOf 3=1:=by kernel_rfl
 have eN:Tryz.prog.cellsOf 28=17:=by kernel_rfl
 have hl':cs.length=17:=by rw[←eN];exact hl
 have k0:DataW.trod enc Tryz.prog w 0 (fun _=>true) true n 3 ((cs.drop 0).take (Tryz.prog.cellsOf 3))=some (xs[0]'(by omega)):=by
  have:=hg 0 _ rfl;rw[List.getElem?_eq_getElem (by omega:0<xs.length)] at this;exact this
 rw[e_int] at k0;have k1:DataW.trod enc Tryz.prog w 0 (fun _=>true) true n 26 ((cs.drop 1).take (Tryz.prog.cellsOf 26))=some (xs[1]'(by omega)):=by
  have:=hg 1 _ rfl;rw[List.getElem?_eq_getElem (by omega:1<xs.length)] at this;exact this
 rw[e_16uint64] at k1;obtain⟨t,s0,-,wt⟩:=DataW.trod_int Tryz.underlying3 k0;obtain⟨b,s1⟩:=Ev7 k1;have e:cs.drop 0=[.int .i64 t]++(((List.range 16).map fun i=>.int .u64 (qv (b i)))++[]):=S6 (m:=1) s0 rfl (S6 (m:=17) s1 rfl (by rw[List.drop_eq_nil_iff];omega));exact⟨t,b,e.trans (by rw[List.append_nil];rfl),wt⟩
theorem Fc1{fuel:Nat}{cs:List Value}{x:DataW H×List MemPlace}(h:DataW.trod enc Tryz.prog w 0 (fun _=>true) true fuel 46 cs=some x):∃e:Ev,cs=A7 e∧Ae9 w e:=by
 obtain⟨xs,n,rfl,hx,hl,hxl,hg⟩:=DataW.trod_struct Tryz.underlying46 h;have hxl':xs.length=19:=hxl;have e_4int:Tryz.prog.cellsOf 40=4:=by kernel_rfl
 have e_LLuint8:Tryz.prog.cellsOf 35=1:=by kernel_rfl
 have e_LapiEvent:Tryz.prog.cellsOf 44=1:=by kernel_rfl
 have e_LapiSent:Tryz.prog.cellsOf 43=1:=by kernel_rfl
 have e_Luint8:Tryz.prog.cellsOf 22=1:=by kernel_rfl
 have e_int:Tryz.prog.cellsOf 3=1:=by kernel_rfl
 have e_yettapiAsk:Tryz.prog.cellsOf 34=5:=by kernel_rfl
 have e_yettapiHub:Tryz.prog.cellsOf 42=21:=by kernel_rfl
 have e_yettapiRing:Tryz.prog.cellsOf 32=8:=by kernel_rfl
 have e_yettapiStore:Tryz.prog.cellsOf 24=2:=by kernel_rfl
 have e_yettapiWin:Tryz.prog.cellsOf 28=17:=by kernel_rfl
 have eN:Tryz.prog.cellsOf 46=70:=by kernel_rfl
 have hl':cs.length=70:=by rw[←eN];exact hl
 have k0:DataW.trod enc Tryz.prog w 0 (fun _=>true) true n 3 ((cs.drop 0).take (Tryz.prog.cellsOf 3))=some (xs[0]'(by omega)):=by
  have:=hg 0 _ rfl;rw[List.getElem?_eq_getElem (by omega:0<xs.length)] at this;exact this
 rw[e_int] at k0;have k1:DataW.trod enc Tryz.prog w 0 (fun _=>true) true n 22 ((cs.drop 1).take (Tryz.prog.cellsOf 22))=some (xs[1]'(by omega)):=by
  have:=hg 1 _ rfl;rw[List.getElem?_eq_getElem (by omega:1<xs.length)] at this;exact this
 rw[e_Luint8] at k1;have k2:DataW.trod enc Tryz.prog w 0 (fun _=>true) true n 3 ((cs.drop 2).take (Tryz.prog.cellsOf 3))=some (xs[2]'(by omega)):=by
  have:=hg 2 _ rfl;rw[List.getElem?_eq_getElem (by omega:2<xs.length)] at this;exact this
 rw[e_int] at k2;have k3:DataW.trod enc Tryz.prog w 0 (fun _=>true) true n 24 ((cs.drop 3).take (Tryz.prog.cellsOf 24))=some (xs[3]'(by omega)):=by
  have:=hg 3 _ rfl;rw[List.getElem?_eq_getElem (by omega:3<xs.length)] at this;exact this
 rw[e_yettapiStore] at k3;have k4:DataW.trod enc Tryz.prog w 0 (fun _=>true) true n 3 ((cs.drop 5).take (Tryz.prog.cellsOf 3))=some (xs[4]'(by omega)):=by
  have:=hg 4 _ rfl;rw[List.getElem?_eq_getElem (by omega:4<xs.length)] at this;exact this
 rw[e_int] at k4;have k5:DataW.trod enc Tryz.prog w 0 (fun _=>true) true n 3 ((cs.drop 6).take (Tryz.prog.cellsOf 3))=some (xs[5]'(by omega)):=by
  have:=hg 5 _ rfl;rw[List.getElem?_eq_getElem (by omega:5<xs.length)] at this;exact this
 rw[e_int] at k5;have k6:DataW.trod enc Tryz.prog w 0 (fun _=>true) true n 3 ((cs.drop 7).take (Tryz.prog.cellsOf 3))=some (xs[6]'(by omega)):=by
  have:=hg 6 _ rfl;rw[List.getElem?_eq_getElem (by omega:6<xs.length)] at this;exact this
 rw[e_int] at k6;have k7:DataW.trod enc Tryz.prog w 0 (fun _=>true) true n 3 ((cs.drop 8).take (Tryz.prog.cellsOf 3))=some (xs[7]'(by omega)):=by
  have:=hg 7 _ rfl;rw[List.getElem?_eq_getElem (by omega:7<xs.length)] at this;exact this
 rw[e_int] at k7;have k8:DataW.trod enc Tryz.prog w 0 (fun _=>true) true n 3 ((cs.drop 9).take (Tryz.prog.cellsOf 3))=some (xs[8]'(by omega)):=by
  have:=hg 8 _ rfl;rw[List.getElem?_eq_getElem (by omega:8<xs.length)] at this;exact this
 rw[e_int] at k8;have k9:DataW.trod enc Tryz.prog w 0 (fun _=>true) true n 28 ((cs.drop 10).take (Tryz.prog.cellsOf 28))=some (xs[9]'(by omega)):=by
  have:=hg 9 _ rfl;rw[List.getElem?_eq_getElem (by omega:9<xs.length)] at this;exact this
 rw[e_yettapiWin] at k9;have k10:DataW.trod enc Tryz.prog w 0 (fun _=>true) true n 32 ((cs.drop 27).take (Tryz.prog.cellsOf 32))=some (xs[10]'(by omega)):=by
  have:=hg 10 _ rfl;rw[List.getElem?_eq_getElem (by omega:10<xs.length)] at this;exact this
 rw[e_yettapiRing] at k10;have k11:DataW.trod enc Tryz.prog w 0 (fun _=>true) true n 34 ((cs.drop 35).take (Tryz.prog.cellsOf 34))=some (xs[11]'(by omega)):=by
  have:=hg 11 _ rfl;rw[List.getElem?_eq_getElem (by omega:11<xs.length)] at this;exact this
 rw[e_yettapiAsk] at k11;have k12:DataW.trod enc Tryz.prog w 0 (fun _=>true) true n 3 ((cs.drop 40).take (Tryz.prog.cellsOf 3))=some (xs[12]'(by omega)):=by
  have:=hg 12 _ rfl;rw[List.getElem?_eq_getElem (by omega:12<xs.length)] at this;exact this
 rw[e_int] at k12;have k13:DataW.trod enc Tryz.prog w 0 (fun _=>true) true n 3 ((cs.drop 41).take (Tryz.prog.cellsOf 3))=some (xs[13]'(by omega)):=by
  have:=hg 13 _ rfl;rw[List.getElem?_eq_getElem (by omega:13<xs.length)] at this;exact this
 rw[e_int] at k13;have k14:DataW.trod enc Tryz.prog w 0 (fun _=>true) true n 35 ((cs.drop 42).take (Tryz.prog.cellsOf 35))=some (xs[14]'(by omega)):=by
  have:=hg 14 _ rfl;rw[List.getElem?_eq_getElem (by omega:14<xs.length)] at this;exact this
 rw[e_LLuint8] at k14;have k15:DataW.trod enc Tryz.prog w 0 (fun _=>true) true n 42 ((cs.drop 43).take (Tryz.prog.cellsOf 42))=some (xs[15]'(by omega)):=by
  have:=hg 15 _ rfl;rw[List.getElem?_eq_getElem (by omega:15<xs.length)] at this;exact this
 rw[e_yettapiHub] at k15;have k16:DataW.trod enc Tryz.prog w 0 (fun _=>true) true n 43 ((cs.drop 64).take (Tryz.prog.cellsOf 43))=some (xs[16]'(by omega)):=by
  have:=hg 16 _ rfl;rw[List.getElem?_eq_getElem (by omega:16<xs.length)] at this;exact this
 rw[e_LapiSent] at k16;have k17:DataW.trod enc Tryz.prog w 0 (fun _=>true) true n 44 ((cs.drop 65).take (Tryz.prog.cellsOf 44))=some (xs[17]'(by omega)):=by
  have:=hg 17 _ rfl;rw[List.getElem?_eq_getElem (by omega:17<xs.length)] at this;exact this
 rw[e_LapiEvent] at k17;have k18:DataW.trod enc Tryz.prog w 0 (fun _=>true) true n 40 ((cs.drop 66).take (Tryz.prog.cellsOf 40))=some (xs[18]'(by omega)):=by
  have:=hg 18 _ rfl;rw[List.getElem?_eq_getElem (by omega:18<xs.length)] at this;exact this
 rw[e_4int] at k18;obtain⟨v0,s0,-,-⟩:=DataW.trod_int Tryz.underlying3 k0;obtain⟨a1,n1,c1,l1,s1,u1⟩:=Cu6 k1;obtain⟨rfl,u1a,u1b,u1c⟩:=u1;obtain⟨v2,s2,-,-⟩:=DataW.trod_int Tryz.underlying3 k2;obtain⟨a3,n3,c3,l3,b3,m3,d3,k_3,s3,⟨rfl,p0,p1,p2⟩,⟨rfl,q0,q1,q2⟩⟩:=En4 k3;obtain⟨v4,s4,-,-⟩:=DataW.trod_int Tryz.underlying3 k4;obtain⟨v5,s5,-,-⟩:=DataW.trod_int Tryz.underlying3 k5;obtain⟨v6,s6,-,-⟩:=DataW.trod_int Tryz.underlying3 k6;obtain⟨v7,s7,-,-⟩:=DataW.trod_int Tryz.underlying3 k7;obtain⟨v8,s8,-,-⟩:=DataW.trod_int Tryz.underlying3 k8;obtain⟨wt,wb,s9,wwf⟩:=Fc0 k9;obtain⟨r,s10,kc,ko,kp,hc,ho,hp,-⟩:=Ev5 k10;obtain⟨qm0,qm1,qm2,qm3,qa,qn,qc,ql,s11,-,-,-,-,⟨rfl,hq0,hq1,hq2⟩⟩:=Fb6 k11;obtain⟨v12,s12,-,-⟩:=DataW.trod_int Tryz.underlying3 k12;obtain⟨v13,s13,-,-⟩:=DataW.trod_int Tryz.underlying3 k13;obtain⟨a14,n14,c14,s14⟩:=Bg3 Tryz.underlying35 k14;rw[s14] at k14;obtain⟨l14,rfl,z14a,z14b,z14⟩:=Ec7 (enc:=enc) (w:=w) (d:=(xs[14]'(by omega)).1) (ps:=(xs[14]'(by omega)).2) ⟨n,k14⟩;obtain⟨hv,hs,s15,hh⟩:=Fb8 k15;obtain⟨a16,n16,c16,s16⟩:=Bg3 Tryz.underlying43 k16;rw[s16] at k16;obtain⟨l16,rfl,z16a,z16b,z16⟩:=En7 (enc:=enc) (w:=w) (d:=(xs[16]'(by omega)).1) (ps:=(xs[16]'(by omega)).2) ⟨n,k16⟩;obtain⟨a17,n17,c17,s17⟩:=Bg3 Tryz.underlying44 k17;rw[s17] at k17;obtain⟨l17,rfl,z17a,z17b,z17⟩:=Ev8 (enc:=enc) (w:=w) (d:=(xs[17]'(by omega)).1) (ps:=(xs[17]'(by omega)).2) ⟨n,k17⟩;obtain⟨cn0,cn1,cn2,cn3,s18⟩:=Fb9 k18;have e:cs.drop 0=[.int .i64 v0]++([.slice a1 l1.length c1]++([.int .i64 v2]++([.slice a3 l3.length c3,.slice b3 k_3.length d3]++([.int .i64 v4]++([.int .i64 v5]++([.int .i64 v6]++([.int .i64 v7]++([.int .i64 v8]++(C4 wt wb++(r.L++([.int .i64 qm0,.int .i64 qm1,.int .i64 qm2,.int .i64 qm3,.slice qa ql.length qc]++([.int .i64 v12]++([.int .i64 v13]++([.slice a14 l14.length c14]++(hv.L++([.slice a16 l16.length c16]++([.slice a17 l17.length c17]++([.int .i64 cn0,.int .i64 cn1,.int .i64 cn2,.int .i64 cn3]++[])))))))))))))))))):=S6 (m:=1) s0 rfl (S6 (m:=2) s1 rfl (S6 (m:=3) s2 rfl (S6 (m:=5) s3 rfl (S6 (m:=6) s4 rfl (S6 (m:=7) s5 rfl (S6 (m:=8) s6 rfl (S6 (m:=9) s7 rfl (S6 (m:=10) s8 rfl (S6 (m:=27) s9 rfl (S6 (m:=35) s10 rfl (S6 (m:=40) s11 rfl (S6 (m:=41) s12 rfl (S6 (m:=42) s13 rfl (S6 (m:=43) s14 rfl (S6 (m:=64) s15 rfl (S6 (m:=65) s16 rfl (S6 (m:=66) s17 rfl (S6 (m:=70) s18 rfl ((by rw[List.drop_eq_nil_iff];omega:cs.drop 70=[]))))))))))))))))))));refine⟨{id:=v0,k:=⟨a1,c1,l1⟩,ph:=v2,s1:=⟨a3,c3,l3⟩,s2:=⟨b3,d3,k_3⟩,pw:=v4,own:=v5,oth:=v6,seen:=v7,seq:=v8,wt:=wt,wb:=wb,r:=r,kc:=kc,ko:=ko,kp:=kp,q:=⟨qm0,qm1,qm2,qm3,ql⟩,qa:=qa,qc:=qc,stan:=v12,day:=v13,ua:=a14,uc:=c14,u:=l14,h:=hv,hs:=hs,oa:=a16,oc:=c16,o:=l16,ga:=a17,gc:=c17,g:=l17,c0:=cn0,c1:=cn1,c2:=cn2,c3:=cn3},e.trans rfl,?_⟩;exact⟨⟨u1c,u1a,u1b⟩,⟨p2,p0,p1⟩,⟨q2,q0,q1⟩,⟨hc.1,hc.2.2.2,ho.1,ho.2.2.2,hp.1,hp.2.2.2⟩,⟨hc.2.1,hc.2.2.1⟩,⟨ho.2.1,ho.2.2.1⟩,⟨hp.2.1,hp.2.2.1⟩,hq2,⟨hq0,hq1⟩,z14,⟨z14a,z14b⟩,hh,fun i hi=>Nat.le_trans (hh i hi).le (hh i hi).cap,z16,⟨z16a,z16b⟩,z17,⟨z17a,z17b⟩,by simp[Lit.wf,IntKind.min,IntKind.max,IntKind.bits,IntKind.signed] at wwf;omega⟩
theorem Ec8{fuel:Nat}{cs:List Value}{x:DataW H×List MemPlace}(h:DataW.trod enc Tryz.prog w 0 (fun _=>true) true fuel 49 cs=some x):∃(i f:Bool) (ta:Option Addr) (tc:Nat) (es:List Ent),cs=[.bool i,.slice ta es.length tc,.bool f]∧X6 w ta es∧es.length≤tc∧tc≤maxLen:=by
 obtain⟨xs,n,rfl,hx,hl,hxl,hg⟩:=DataW.trod_struct Tryz.underlying49 h;have hxl':xs.length=3:=hxl;have e_LapiEntry:Tryz.prog.cellsOf 47=1:=by kernel_rfl
 have e_bool:Tryz.prog.cellsOf 4=1:=by kernel_rfl
 have eN:Tryz.prog.cellsOf 49=3:=by kernel_rfl
 have hl':cs.length=3:=by rw[←eN];exact hl
 have k0:DataW.trod enc Tryz.prog w 0 (fun _=>true) true n 4 ((cs.drop 0).take (Tryz.prog.cellsOf 4))=some (xs[0]'(by omega)):=by
  have:=hg 0 _ rfl;rw[List.getElem?_eq_getElem (by omega:0<xs.length)] at this;exact this
 rw[e_bool] at k0;have k1:DataW.trod enc Tryz.prog w 0 (fun _=>true) true n 47 ((cs.drop 1).take (Tryz.prog.cellsOf 47))=some (xs[1]'(by omega)):=by
  have:=hg 1 _ rfl;rw[List.getElem?_eq_getElem (by omega:1<xs.length)] at this;exact this
 rw[e_LapiEntry] at k1;have k2:DataW.trod enc Tryz.prog w 0 (fun _=>true) true n 4 ((cs.drop 2).take (Tryz.prog.cellsOf 4))=some (xs[2]'(by omega)):=by
  have:=hg 2 _ rfl;rw[List.getElem?_eq_getElem (by omega:2<xs.length)] at this;exact this
 rw[e_bool] at k2;obtain⟨i,s0,-⟩:=DataW.trod_bool Tryz.underlying4 k0;obtain⟨a1,n1,c1,s1⟩:=Bg3 Tryz.underlying47 k1;rw[s1] at k1;obtain⟨es,rfl,z1,z2,z3⟩:=En8 (enc:=enc) (w:=w) (d:=(xs[1]'(by omega)).1) (ps:=(xs[1]'(by omega)).2) ⟨n,k1⟩;obtain⟨f,s2,-⟩:=DataW.trod_bool Tryz.underlying4 k2;have e:cs.drop 0=[.bool i]++([.slice a1 es.length c1]++([.bool f]++[])):=S6 (m:=1) s0 rfl (S6 (m:=2) s1 rfl (S6 (m:=3) s2 rfl (by rw[List.drop_eq_nil_iff];omega)));exact⟨i,f,a1,c1,es,e.trans rfl,z3,z1,z2⟩
theorem Ev9{fuel:Nat}{cs:List Value}{x:DataW H×List MemPlace}(h:DataW.trod enc Tryz.prog w 0 (fun _=>true) true fuel 51 cs=some x):∃s:Sv,cs=A6 s∧An2 w s:=by
 obtain⟨xs,n,rfl,hx,hl,hxl,hg⟩:=DataW.trod_struct Tryz.underlying51 h;have hxl':xs.length=2:=hxl;have e_yettapiEnd:Tryz.prog.cellsOf 46=70:=by kernel_rfl
 have e_yettapiProv:Tryz.prog.cellsOf 49=3:=by kernel_rfl
 have eN:Tryz.prog.cellsOf 51=73:=by kernel_rfl
 have hl':cs.length=73:=by rw[←eN];exact hl
 have k0:DataW.trod enc Tryz.prog w 0 (fun _=>true) true n 46 ((cs.drop 0).take (Tryz.prog.cellsOf 46))=some (xs[0]'(by omega)):=by
  have:=hg 0 _ rfl;rw[List.getElem?_eq_getElem (by omega:0<xs.length)] at this;exact this
 rw[e_yettapiEnd] at k0;have k1:DataW.trod enc Tryz.prog w 0 (fun _=>true) true n 49 ((cs.drop 70).take (Tryz.prog.cellsOf 49))=some (xs[1]'(by omega)):=by
  have:=hg 1 _ rfl;rw[List.getElem?_eq_getElem (by omega:1<xs.length)] at this;exact this
 rw[e_yettapiProv] at k1;obtain⟨e,s0,he⟩:=Fc1 k0;obtain⟨i,f,ta,tc,es,s1,hp,h1,h2⟩:=Ec8 k1;have e':cs.drop 0=A7 e++([.bool i,.slice ta es.length tc,.bool f]++[]):=S6 (m:=70) s0 rfl (S6 (m:=73) s1 rfl (by rw[List.drop_eq_nil_iff];omega));exact⟨⟨e,i,f,ta,tc,es⟩,e'.trans (by rw[List.append_nil];rfl),he,hp,h1,h2⟩
theorem Ew0{r:Reach}{b0:Nat}{v:Value}{d:DataW H}{p:List MemPlace}(hv:Value.okWide Tryz.prog w r b0 51 v)(h:DataW.Trod enc Tryz.prog w 0 (fun _=>true) true 51 v d p):∃s:Sv,v=.agg (A6 s).toArray∧An2 w s:=by
 obtain⟨⟨cs⟩,rfl,hsz⟩:=okWide_struct Tryz.underlying51 hv;obtain⟨fuel,hf⟩:=h;obtain⟨s,h1,h2⟩:=Ev9 hf;have h1':cs=A6 s:=h1;exact⟨s,by rw[h1'],h2⟩
end
theorem Cs2(_t:True)(W:World)(hks:M9 W)(s:Sv)(hs:An2 W s)(a:Option Addr)(n c:Nat)(l:List UInt8)(u:Ad1 W a n c l):
 Calls Tryz.prog 6 #[.agg (A6 s).toArray,.slice a n c] W (D9 W true):=by
 obtain⟨rfl,h1,h2,h3⟩:=u;exact Co3 s a c l W hs ⟨h1,h2⟩ h3 hks
end Go.Proofs.YtadpiemjgfndgaaGreatDoor
