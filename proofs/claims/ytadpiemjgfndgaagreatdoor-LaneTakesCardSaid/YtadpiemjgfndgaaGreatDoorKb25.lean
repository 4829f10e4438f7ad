/- Proved here, for use further on: LfB LfC LfD. Conditions: none but those each theorem names. -/
import Derived.Test.YtadpiemjgfndgaaGreatDoorKb00
import Derived.Test.YtadpiemjgfndgaaGreatDoorKb24
import Derived.Test.YtadpiemjgfndgaaGreatDoorKb20
import Derived.Test.YtadpiemjgfndgaaGreatDoorKb12
import Derived.Test.YtadpiemjgfndgaaGreatDoorKb18
import Derived.Test.YtadpiemjgfndgaaGreatDoorKb21
import Derived.Test.YtadpiemjgfndgaaGreatDoorKb10
import Derived.Test.YtadpiemjgfndgaaGreatDoorKb19
set_option linter.unusedSimpArgs false
set_option linter.unusedVariables false
set_option maxRecDepth 100000
set_option maxHeartbeats 8000000
namespace Go.Proofs.YtadpiemjgfndgaaGreatDoor
open Go.RowKit
theorem Fm3{w W:World}{a b c d:List Value}{A B C D:TypeId}(h:(((w.alloc (.cells a.toArray A)).alloc (.cells b.toArray B)).alloc (.cells c.toArray C)).alloc (.cells d.toArray D)=W):A6 A W w.heap.size a∧A6 B W (w.heap.size+1) b∧A6 C W (w.heap.size+1+1) c∧A6 D W (w.heap.size+1+1+1) d∧Below w.heap.size w W:=by
 obtain⟨h1,h2,h3,hb⟩:=Cm8 (rfl:((w.alloc (.cells a.toArray A)).alloc (.cells b.toArray B)).alloc (.cells c.toArray C)=_);subst h;refine⟨h1.up (ba _ _),h2.up (ba _ _),h3.up (ba _ _),?_,bta hb _⟩;have:=A6.new (((w.alloc (.cells a.toArray A)).alloc (.cells b.toArray B)).alloc (.cells c.toArray C)) d D
 rwa [I9,I9,I9] at this
theorem Bv1{P:Program}{c:Code}{Q:Exit→Act→World→Prop}{a:Act}{w:World}(h:c.wp P (fun e a w=>e=.normal∧Q .normal a w) a w):c.wp P Q a w:=
 Code.wp_mono (fun e a w h=>by obtain⟨rfl,h⟩:=h;exact h) h
theorem Dj6{s:Sv}{bl:List UInt8}{p:Pd}(hp:pdF bl=p)(h:Ev0 s bl):okR bl∧V6 s.e p.k p.d p.e0 p.e1 p.g=false∧Aj8 s p=true:=by
 subst hp;exact h
theorem Bh5(s:Sv)(bda:Option Addr)(bdc:Nat)(bl:List UInt8)(w:World)(h:O0 (fun _=>True) w s)(hr:Z6 s.e=true)(hes:s.es.length≤1000)(hc:bl.length≤bdc)(hcm:bdc≤maxLen)(hbl:A4 w bda bl)(hks:Q5 w):
 Calls Tryz.prog 19 #[.agg (A5 s).toArray,.slice bda bl.length bdc] w (Be9 w s bl):=by
 obtain⟨p,hp⟩:∃p,pdF bl=p:=⟨_,rfl⟩;have HP:=Lh hp;have f:=At5 hr;have HW:=Lh (Ct4 s bl p hp);have SZ:=Lh (show ∀S:Sv,(Tryz.prog.info? 51).map (·.size)=some (A5 S).length from fun S=>by rw[D5];exact J8);have SV:=Lh X9;have SW:=Lh (show ∀t c,(Tryz.prog.info? 28).map (·.size)=some (D0 t c).length from fun t c=>by rw[F8];exact S0);have SR:=Lh Ab4;have HOp:=Lh (fun(n4:Nat) (W:World) (B4:A6 51 W n4 (A5 s)) (hb:Below w.heap.size w W)=>(show Calls Tryz.prog 61 #[.pointer (some ⟨n4,0,none⟩),.slice bda bl.length bdc] W (Cd8 n4 W s bl) from Ch7 n4 s bda bdc bl W B4 (h.mono hb) hr hes hc hcm (hbl.mono hb) (hks.mono hb)));have HMk:=Lh (fun W=>(Ct2 s.e.wt s.e.wb p.q f.win).1 W);have HTu:=Lh (fun W=>Ep9 s.e.r W);have HKd:=Lh (fun(hok:okR bl)=>show p.k=1∨p.k=2 from by
  have hm:=hok.2.may;subst hp;have h1:=hm.k1;have h2:=hm.k2;show I2 bl 0 1=1∨I2 bl 0 1=2;omega)
 have HYw:=Lh (fun hy=>Dj6 (s:=s) hp hy);unfold Cd8 at HOp;rw[hp] at HOp;have hmf:∀(fn:Fn) (first cap:Array Value) (w:World),(Instr.makeFunc fn first cap).run Tryz.prog w=.ok (.func fn first cap) w:=fun _ _ _ _=>rfl;clear h hr hes hc hcm hbl f hks
 go_enter_defers Tryz.func19,Tryz.ntmps19
 go_upto_region 1 with(fail)
 generalize hW:World.alloc (World.alloc (World.alloc (World.alloc w _) _) _) _=W;obtain⟨B2,B4,B5,B6,hb⟩:=Fm3 (a:=A5 s) (b:=I6) (c:=G8) (d:=[.int .i64 0]) hW;clear hW;have B2:=Lh B2;have B4:=Lh B4;have B5:=Lh B5;have B6:=Lh B6;have G:=Lh hb;have N2_4:=Lh (show w.heap.size≠w.heap.size+1 by omega);have N4_5:=Lh (show w.heap.size+1≠w.heap.size+1+1 by omega);have N4_6:=Lh (show w.heap.size+1≠w.heap.size+1+1+1 by omega);have N5_6:=Lh (show w.heap.size+1+1≠w.heap.size+1+1+1 by omega);have L4:=Lh (show w.heap.size≤w.heap.size+1 by omega);have L5:=Lh (show w.heap.size≤w.heap.size+1+1 by omega);have L6:=Lh (show w.heap.size≤w.heap.size+1+1+1 by omega);clear hb;generalize w.heap.size+1+1+1=n6 at B6 N4_6 N5_6 L6 ⊢;generalize w.heap.size+1+1=n5 at B5 N4_5 N5_6 L5 ⊢;generalize w.heap.size+1=n4 at B4 N2_4 N4_5 N4_6 L4 ⊢;generalize w.heap.size=n2 at B2 N2_4 ⊢;go_wp2_with (first
  | (refine F2 51 (.tmp 2) rfl ?_;refine C4 51 (.tmp 2) n2 rfl rfl rfl B2.out.blk Tryz.underlying51 rfl (SZ.out _) ?_)
  | (refine D8 51 (.tmp 4) (.tmp 9) rfl ?_;have hq:=B4.out;refine G9 51 (.tmp 4) (.tmp 9) n4 rfl rfl rfl rfl B4.out (SZ.out _) (by rw[J0,D5]) (J2 _) ?_;intro w1 hB hK;replace B2:=Lh (B2.out.kp hK N2_4.out);replace B5:=Lh (B5.out.kp hK N4_5.out.symm);replace B6:=Lh (B6.out.kp hK N4_6.out.symm);replace B4:=Lh hB;replace G:=Lh (hK.below G.out L4.out);clear hB hK hq))
 clear B2 N2_4;refine(HOp.out n4 _ B4.out G.out).mono ?_;rintro x w2 ⟨hK,(⟨S,E,rfl,hB,hT,hE⟩ | ⟨a1,c1,a2,c2,rfl,hB,hY,l1,l2,q1,q2⟩)⟩
 case inl=>
  replace B4:=Lh hB;replace B5:=Lh (B5.out.kp hK N4_5.out.symm);replace B6:=Lh (B6.out.kp hK N4_6.out.symm);replace G:=Lh (hK.below G.out L4.out);have HT:=Lh hT;have HE:=Lh hE;clear hB hK hT hE HW HMk HTu HKd HYw HOp
  (try go_wp2_with fail)
  (try simp only[C6,Act.put,List.setIfInBounds_toArray,List.set_cons_zero,List.set_cons_succ])
  refine leaves_cons (f:=60) (args:=#[.pointer (some ⟨n4,0,none⟩),.pointer (some ⟨n5,0,none⟩),.pointer (some ⟨n6,0,none⟩)]) (by simp) (by simp[go_sem]) ?_;refine(Bq1 (S) (G8) n4 n5 n6 0 E [] w _ B4.out B5.out B6.out rfl N4_5.out N4_6.out N5_6.out L4.out L5.out L6.out G.out).mono ?_;rintro e u' w9 ⟨rfl,rfl,hB4,hB5,hB6,hG⟩;simp only[settle,List.dropWhile];exact⟨_,Aq2 rfl _ _ n4 n5 n6 rfl rfl rfl hB4.blk Tryz.underlying51 rfl (SZ.out _) hB5.blk Tryz.underlying65 rfl SV.out (hB6.blk.cell 0 (Nat.zero_lt_succ _)) Tryz.underlying54 rfl,As3 HT.out HE.out hG⟩
 obtain⟨hok,hst,hy⟩:=HYw.out hY;have OK:=Lh hok;have ST:=Lh hst;have YY:=Lh hy;have C1:=Lh l1;have C2:=Lh l2;have QB:=Lh q1;have QT:=Lh q2;replace B4:=Lh hB;replace B5:=Lh (B5.out.kp hK N4_5.out.symm);replace B6:=Lh (B6.out.kp hK N4_6.out.symm);replace G:=Lh (hK.below G.out L4.out);clear hB hK hY hok hst hy l1 l2 q1 q2 HOp HYw hmf;go_upto_region 4 with(refine D8 65 (.tmp 5) (.tmp 12) rfl ?_;have hq:=B5.out;refine G9 65 (.tmp 5) (.tmp 12) n5 (cs:=I7 p.k p.d p.e0 p.e1 p.g p.q (.slice a1 p.b.length c1) (.slice a2 p.t.length c2)) rfl rfl rfl rfl B5.out SV.out rfl rfl ?_;intro w3 hB hK;replace B4:=Lh (B4.out.kp hK N4_5.out);replace B6:=Lh (B6.out.kp hK N5_6.out.symm);replace QB:=Lh (A4.kp8 QB.out hq.blk (by rfl) hK);replace QT:=Lh (A4.kp8 QT.out hq.blk (by rfl) hK);replace B5:=Lh hB;replace G:=Lh (hK.below G.out L5.out);clear hB hK hq)
 obtain⟨v0,v1,v2,v3,v4,v5,v6,v7⟩:=I4 B5.out.blk;clear v1 v2 v3 v4 v6 v7;rcases HKd.out OK.out with hk | hk
 ·have hk1:((p.k:Int)==1)=true:=by rw[hk];rfl
  have hk2:((p.k:Int) != 2)=true:=by rw[hk];rfl
  clear hk;have HX:=Lh (HW.out.setup OK.out ST.out YY.out hk1);clear HW HMk HTu HKd;go_upto_region 5 with(fail)
  clear hk1 hk2 v0 v5;refine Bv1 ?_;refine Di6 (s:=P9 s p) (D:=I7 p.k p.d p.e0 p.e1 p.g p.q (.slice a1 p.b.length c1) (.slice a2 p.t.length c2)) (c6:=0) (w0:=w) (b1:=p.b) (b2:=p.t) (Nat.le_refl _) rfl rfl rfl (fun _ _ _ _ _ h=>nomatch h.1) B4.out B5.out B6.out N4_5.out N4_6.out N5_6.out L6.out L4.out L5.out G.out QB.out QT.out rfl rfl SV.out ?_;intro x16 x17 wE hB4 hB5 hB6 hQB hQT hG;refine⟨rfl,?_⟩
  (try simp only[C6,Act.put,List.setIfInBounds_toArray,List.set_cons_zero,List.set_cons_succ])
  clear B4 B5 B6 QB QT G;go_wp2_with fail
  (try simp only[C6,Act.put,List.setIfInBounds_toArray,List.set_cons_zero,List.set_cons_succ])
  refine leaves_cons (f:=60) (args:=#[.pointer (some ⟨n4,0,none⟩),.pointer (some ⟨n5,0,none⟩),.pointer (some ⟨n6,0,none⟩)]) (by simp) (by simp[go_sem]) ?_;refine(Ba2 ⟨n4,0,none⟩ ⟨n5,0,none⟩ ⟨n6,0,none⟩ _).mono ?_;rintro e u' w9 ⟨rfl,rfl,rfl⟩;simp only[settle];exact⟨_,Aq2 rfl _ _ n4 n5 n6 rfl rfl rfl hB4.blk Tryz.underlying51 rfl (SZ.out _) hB5.blk Tryz.underlying65 rfl SV.out (hB6.blk.cell 0 (Nat.zero_lt_succ _)) Tryz.underlying54 rfl,As4 HP.out HX.out hG C1.out C2.out hQB hQT⟩
 ·have hk1:((p.k:Int)==1)=false:=by rw[hk];rfl
  have hk2:((p.k:Int) != 2)=false:=by rw[hk];rfl
  clear hk;have HOld:=Lh (HW.out.old OK.out ST.out YY.out hk1);have HGo:=Lh (HW.out.gone OK.out ST.out YY.out hk1);clear HW;go_wp2_with (refine F2 28 (.tmp 20) rfl ?_;refine C8 28 (.tmp 20) n4 10 (by first | rfl | simp[Region.wanted,yielded]) rfl rfl B4.out.blk.siteIn.at_w Tryz.underlying28 rfl (SW.out _ _) ?_)
  refine(HMk.out _).mono ?_;rintro x w10 ⟨rfl,hb⟩;replace B4:=Lh (B4.out.up hb);replace B5:=Lh (B5.out.up hb);replace B6:=Lh (B6.out.up hb);replace QB:=Lh (A4.up8 QB.out hb);replace QT:=Lh (A4.up8 QT.out hb);replace G:=Lh (bt G.out hb);clear hb HMk v0 v5 hk2;have HWd:=Lh (show Ar3 (A5 (P9 s p)) 10 (D0 (Ac7 s.e.wt s.e.wb p.q).1 (Ac7 s.e.wt s.e.wb p.q).2.1)=A5 (X8 (P9 s p) p.q) from Bw7 (P9 s p) _ _);generalize Ac7 s.e.wt s.e.wb p.q=mk at HWd HOld HGo ⊢;obtain⟨mt,mc,me⟩:=mk;go_upto_region 7 with(refine D8 28 _ _ rfl ?_;refine G9 28 _ _ _ rfl rfl rfl rfl (A6.new _ _ _) (SW.out _ _) (by rw[F8];rfl) (Ax0 _ _) ?_;intro w11 hBn hK;have B7:=Lh hBn;have N4_7:=Lh (Nat.ne_of_lt B4.out.blk.lt);have N5_7:=Lh (Nat.ne_of_lt B5.out.blk.lt);have N6_7:=Lh (Nat.ne_of_lt B6.out.blk.lt);replace B4:=Lh ((B4.out.up (ba _ _)).kp hK N4_7.out);replace B5:=Lh ((B5.out.up (ba _ _)).kp hK N5_7.out);replace B6:=Lh ((B6.out.up (ba _ _)).kp hK N6_7.out);replace QB:=Lh (A4.up8 QB.out (hK.below (ba _ _) (Nat.le_refl _)));replace QT:=Lh (A4.up8 QT.out (hK.below (ba _ _) (Nat.le_refl _)));have L7:=Lh G.out.size;replace G:=Lh (hK.below (bt G.out (ba _ _)) G.out.size);clear hBn hK)
  generalize w10.heap.size=n7 at B7 N4_7 N5_7 N6_7 ⊢;go_wp2_with fail
  rcases hm:(me==0) with _ | _
  ·have HX:=Lh (HOld.out hm);clear HOld HGo HTu HWd;refine(Ah3 6 _).mono ?_;rintro x w13 ⟨rfl,rfl⟩
   (try go_wp2_with fail)
   (try simp only[C6,Act.put,List.setIfInBounds_toArray,List.set_cons_zero,List.set_cons_succ])
   refine leaves_cons (f:=60) (args:=#[.pointer (some ⟨n4,0,none⟩),.pointer (some ⟨n5,0,none⟩),.pointer (some ⟨n6,0,none⟩)]) (by simp) (by simp[go_sem]) ?_;refine(Bq1 (P9 s p) (I7 p.k p.d p.e0 p.e1 p.g p.q (.slice a1 p.b.length c1) (.slice a2 p.t.length c2)) n4 n5 n6 0 6 [] w _ B4.out B5.out B6.out rfl N4_5.out N4_6.out N5_6.out L4.out L5.out L6.out G.out).mono ?_;rintro e u' w9 ⟨rfl,rfl,hB4,hB5,hB6,hG⟩;simp only[settle,List.dropWhile];exact⟨_,Aq2 rfl _ _ n4 n5 n6 rfl rfl rfl hB4.blk Tryz.underlying51 rfl (SZ.out _) hB5.blk Tryz.underlying65 rfl SV.out (hB6.blk.cell 0 (Nat.zero_lt_succ _)) Tryz.underlying54 rfl,As3 HX.out (by decide) hG⟩
  have HX:=Lh (HGo.out hm);clear HOld HGo;refine(Ay1 6 _).mono ?_;rintro x w13 ⟨rfl,rfl⟩;go_upto_region 9 with(first
  | (refine F2 28 (.tmp 7) rfl ?_;refine C4 28 (.tmp 7) n7 rfl rfl rfl B7.out.blk Tryz.underlying28 rfl (SW.out _ _) ?_)
  | (refine D8 28 (.tmp 32) (.tmp 30) rfl ?_;have hq:=B4.out;refine Y9 28 (.tmp 32) (.tmp 30) n4 10 (cs:=D0 mt mc) rfl rfl rfl rfl B4.out (by rw[D5,F8];decide) (SW.out _ _) (Ax0 _ _) (HWd.out) ?_;intro w12 hB hK;replace B5:=Lh (B5.out.kp hK N4_5.out.symm);replace B6:=Lh (B6.out.kp hK N4_6.out.symm);replace B7:=Lh (B7.out.kp hK N4_7.out.symm);replace QB:=Lh (A4.kp8 QB.out hq.blk (R6 _) hK);replace QT:=Lh (A4.kp8 QT.out hq.blk (R6 _) hK);replace B4:=Lh hB;replace G:=Lh (hK.below G.out L4.out);clear hB hK hq))
  clear B7 N4_7 N5_7 N6_7 L7 HWd hm;have gp:=B4.out.blk.siteIn.pno;have g2:=B4.out.blk.siteIn.ph;obtain⟨v0,v1,v2,v3,v4,v5,v6,v7⟩:=I4 B5.out.blk;clear v0 v1 v2 v3 v5 v6 v7;have HGt:=Lh (show Bc5 (P9 s p) p=bif ((p.g:Int)==s.e.r.p.no)&&(s.e.ph != 4) then(X8 (P9 s p) p.q).on (At6 (X8 (P9 s p) p.q).e) else X8 (P9 s p) p.q from rfl);have gp':_=some (Value.int .i64 s.e.r.p.no):=gp;have g2':_=some (Value.int .i64 s.e.ph):=g2;clear gp g2 hk1;rcases hg1:((p.g:Int)==s.e.r.p.no) with _ | _
  ·replace HX:=Lh (show U9 s bl=(X8 (P9 s p) p.q,0) by rw[HX.out,HGt.out,hg1];rfl);clear HGt HTu;go_upto_region 11 with(fail)
   clear hg1 gp' g2' v4;refine Bv1 ?_;refine Bk7 (s:=X8 (P9 s p) p.q) (D:=I7 p.k p.d p.e0 p.e1 p.g p.q (.slice a1 p.b.length c1) (.slice a2 p.t.length c2)) (c6:=0) (w0:=w) (b1:=p.b) (b2:=p.t) (Nat.le_refl _) rfl rfl rfl (fun _ _ _ _ _ h=>nomatch h.1) B4.out B5.out B6.out N4_5.out N4_6.out N5_6.out L6.out L4.out L5.out G.out QB.out QT.out rfl rfl SV.out ?_;intro x56 x57 wE hB4 hB5 hB6 hQB hQT hG;refine⟨rfl,?_⟩
   (try simp only[C6,Act.put,List.setIfInBounds_toArray,List.set_cons_zero,List.set_cons_succ])
   clear B4 B5 B6 QB QT G;go_wp2_with fail
   (try simp only[C6,Act.put,List.setIfInBounds_toArray,List.set_cons_zero,List.set_cons_succ])
   refine leaves_cons (f:=60) (args:=#[.pointer (some ⟨n4,0,none⟩),.pointer (some ⟨n5,0,none⟩),.pointer (some ⟨n6,0,none⟩)]) (by simp) (by simp[go_sem]) ?_;refine(Ba2 ⟨n4,0,none⟩ ⟨n5,0,none⟩ ⟨n6,0,none⟩ _).mono ?_;rintro e u' w9 ⟨rfl,rfl,rfl⟩;simp only[settle];exact⟨_,Aq2 rfl _ _ n4 n5 n6 rfl rfl rfl hB4.blk Tryz.underlying51 rfl (SZ.out _) hB5.blk Tryz.underlying65 rfl SV.out (hB6.blk.cell 0 (Nat.zero_lt_succ _)) Tryz.underlying54 rfl,As4 HP.out HX.out hG C1.out C2.out hQB hQT⟩
  rcases hg2:(s.e.ph != 4) with _ | _
  ·replace HX:=Lh (show U9 s bl=(X8 (P9 s p) p.q,0) by rw[HX.out,HGt.out,hg1,hg2];rfl);clear HGt HTu;go_upto_region 11 with(fail)
   clear hg1 gp' g2' v4 hg2;refine Bv1 ?_;refine Bk7 (s:=X8 (P9 s p) p.q) (D:=I7 p.k p.d p.e0 p.e1 p.g p.q (.slice a1 p.b.length c1) (.slice a2 p.t.length c2)) (c6:=0) (w0:=w) (b1:=p.b) (b2:=p.t) (Nat.le_refl _) rfl rfl rfl (fun _ _ _ _ _ h=>nomatch h.1) B4.out B5.out B6.out N4_5.out N4_6.out N5_6.out L6.out L4.out L5.out G.out QB.out QT.out rfl rfl SV.out ?_;intro x56 x57 wE hB4 hB5 hB6 hQB hQT hG;refine⟨rfl,?_⟩
   (try simp only[C6,Act.put,List.setIfInBounds_toArray,List.set_cons_zero,List.set_cons_succ])
   clear B4 B5 B6 QB QT G;go_wp2_with fail
   (try simp only[C6,Act.put,List.setIfInBounds_toArray,List.set_cons_zero,List.set_cons_succ])
   refine leaves_cons (f:=60) (args:=#[.pointer (some ⟨n4,0,none⟩),.pointer (some ⟨n5,0,none⟩),.pointer (some ⟨n6,0,none⟩)]) (by simp) (by simp[go_sem]) ?_;refine(Ba2 ⟨n4,0,none⟩ ⟨n5,0,none⟩ ⟨n6,0,none⟩ _).mono ?_;rintro e u' w9 ⟨rfl,rfl,rfl⟩;simp only[settle];exact⟨_,Aq2 rfl _ _ n4 n5 n6 rfl rfl rfl hB4.blk Tryz.underlying51 rfl (SZ.out _) hB5.blk Tryz.underlying65 rfl SV.out (hB6.blk.cell 0 (Nat.zero_lt_succ _)) Tryz.underlying54 rfl,As4 HP.out HX.out hG C1.out C2.out hQB hQT⟩
  replace HX:=Lh (show U9 s bl=((X8 (P9 s p) p.q).on (At6 (X8 (P9 s p) p.q).e),0) by rw[HX.out,HGt.out,hg1,hg2];rfl);clear HGt;go_wp2_with (refine F2 32 (.tmp 49) rfl ?_;refine C8 32 (.tmp 49) n4 27 (by first | rfl | simp[Region.wanted,yielded]) rfl rfl B4.out.blk.siteIn.at_r Tryz.underlying32 rfl SR.out ?_)
  refine(HTu.out _).mono ?_;rintro x w14 ⟨rfl,hb⟩;clear v4 gp' g2' hg1 hg2;replace B4:=Lh (B4.out.up hb);replace B5:=Lh (B5.out.up hb);replace B6:=Lh (B6.out.up hb);replace QB:=Lh (A4.up8 QB.out hb);replace QT:=Lh (A4.up8 QT.out hb);replace G:=Lh (bt G.out hb);clear hb HTu;go_upto_region 11 with(refine D8 32 (.tmp 55) (.tmp 52) rfl ?_;have hq:=B4.out;refine Y9 32 (.tmp 55) (.tmp 52) n4 27 (cs:=(Aw1 s.e.r).1.L) rfl rfl rfl rfl B4.out (by rw[D5];exact(by decide:27+8≤73)) SR.out (by rfl) (Cd2 (X8 (P9 s p) p.q)) ?_;intro w15 hB hK;replace B5:=Lh (B5.out.kp hK N4_5.out.symm);replace B6:=Lh (B6.out.kp hK N4_6.out.symm);replace QB:=Lh (A4.kp8 QB.out hq.blk (R6 _) hK);replace QT:=Lh (A4.kp8 QT.out hq.blk (R6 _) hK);replace B4:=Lh hB;replace G:=Lh (hK.below G.out L4.out);clear hB hK hq)
  refine Bv1 ?_;refine Bk7 (s:=(X8 (P9 s p) p.q).on (At6 (X8 (P9 s p) p.q).e)) (D:=I7 p.k p.d p.e0 p.e1 p.g p.q (.slice a1 p.b.length c1) (.slice a2 p.t.length c2)) (c6:=0) (w0:=w) (b1:=p.b) (b2:=p.t) (Nat.le_refl _) rfl rfl rfl (fun _ _ _ _ _ h=>nomatch h.1) B4.out B5.out B6.out N4_5.out N4_6.out N5_6.out L6.out L4.out L5.out G.out QB.out QT.out rfl rfl SV.out ?_;intro x56 x57 wE hB4 hB5 hB6 hQB hQT hG;refine⟨rfl,?_⟩
  (try simp only[C6,Act.put,List.setIfInBounds_toArray,List.set_cons_zero,List.set_cons_succ])
  clear B4 B5 B6 QB QT G;go_wp2_with fail
  (try simp only[C6,Act.put,List.setIfInBounds_toArray,List.set_cons_zero,List.set_cons_succ])
  refine leaves_cons (f:=60) (args:=#[.pointer (some ⟨n4,0,none⟩),.pointer (some ⟨n5,0,none⟩),.pointer (some ⟨n6,0,none⟩)]) (by simp) (by simp[go_sem]) ?_;refine(Ba2 ⟨n4,0,none⟩ ⟨n5,0,none⟩ ⟨n6,0,none⟩ _).mono ?_;rintro e u' w9 ⟨rfl,rfl,rfl⟩;simp only[settle];exact⟨_,Aq2 rfl _ _ n4 n5 n6 rfl rfl rfl hB4.blk Tryz.underlying51 rfl (SZ.out _) hB5.blk Tryz.underlying65 rfl SV.out (hB6.blk.cell 0 (Nat.zero_lt_succ _)) Tryz.underlying54 rfl,As4 HP.out HX.out hG C1.out C2.out hQB hQT⟩
def At9(a b:Ev):Bool:=(a.wt==b.wt)&&(List.range 16).all fun i=>a.wb i==b.wb i
def Aq3(a b:Ev):Bool:=(a.c0==b.c0)&&((a.c1==b.c1)&&((a.c2==b.c2)&&(a.c3==b.c3)))
def Ax2(a b:Ev):Bool:=(a.id==b.id)&&((a.ph==b.ph)&&((a.pw==b.pw)&&((a.own==b.own)&&((a.oth==b.oth)&&((a.seen==b.seen)&&((a.seq==b.seq)&&((a.stan==b.stan)&&((a.day==b.day)))))))))
def Ak3(a b:Ev):Bool:=Av5 a.s1.l a.s2.l b.s1.l b.s2.l&&(U1 a.r b.r a.kc a.ko a.kp b.kc b.ko b.kp&&(Af1 a.q b.q&&(decide (a.u=b.u)&&(Ag9 a.h a.hs b.h b.hs&&(decide (a.o=b.o)&&(decide (a.g=b.g)&&((a.k.l==b.k.l)&&(At9 a b&&(Aq3 a b&&Ax2 a b)))))))))
abbrev Ac0(e:Ev):List Value:=[.int .i64 e.c0,.int .i64 e.c1,.int .i64 e.c2,.int .i64 e.c3]
theorem Ef4(a b:Ev)(w:World):(Op.equalIn 10000 40 (.agg (Ac0 a).toArray) (.agg (Ac0 b).toArray)).run Tryz.prog w=.ok (Aq3 a b) w:=by
 obtain⟨i,hi⟩:=Option.isSome_iff_exists.1 (show(Tryz.prog.info? 3).isSome=true by kernel_rfl);rw[run_equalIn_array w 9999 _ _ Tryz.underlying40 hi];have hc:Tryz.prog.cellsOf 3=1:=by kernel_rfl
 rw[hc];have p0:=fun(z:Ev)=>run_part_plain (P:=Tryz.prog) w (e:=3) (xs:=(Ac0 z).toArray) (off:=0) (by kernel_rfl) rfl;have p1:=fun(z:Ev)=>run_part_plain (P:=Tryz.prog) w (e:=3) (xs:=(Ac0 z).toArray) (off:=1) (by kernel_rfl) rfl;have p2:=fun(z:Ev)=>run_part_plain (P:=Tryz.prog) w (e:=3) (xs:=(Ac0 z).toArray) (off:=2) (by kernel_rfl) rfl;have p3:=fun(z:Ev)=>run_part_plain (P:=Tryz.prog) w (e:=3) (xs:=(Ac0 z).toArray) (off:=3) (by kernel_rfl) rfl;have q:=fun(z z':Int)=>run_equalIn_int (P:=Tryz.prog) w 9998 3 .i64 .i64 z z' Tryz.underlying3;have e:(List.range 4)=[0,1,2,3]:=by decide
 rw[e];unfold Aq3;cases h0:(a.c0==b.c0)<;>cases h1:(a.c1==b.c1)<;>cases h2:(a.c2==b.c2)<;>cases h3:(a.c3==b.c3)<;>simp[Op.eqItems,Sem.run_bind,p0,p1,p2,p3,q,h0,h1,h2,h3]
theorem Da6(a b:Ev)(w:World):(Op.equalIn 10000 28 (.agg (D0 a.wt a.wb).toArray) (.agg (D0 b.wt b.wb).toArray)).run Tryz.prog w=.ok (At9 a b) w:=Ca1 _ _ _ _ w
theorem Cm1(a b:Ev)(w:World)(ha:Ae6 w a)(hb:Ae6 w b)(ho:a.o.length≤100000∧b.o.length≤100000)(hg:a.g.length≤100000∧b.g.length≤100000):
 Calls Tryz.prog 27 #[.agg (A8 a).toArray,.agg (A8 b).toArray] w (F9 w (Ak3 a b)):=by
 have P1:=Lh (fun(W:World) (h:Below w.heap.size w W)=>(show Calls Tryz.prog 40 #[.agg #[.slice a.s1.a a.s1.l.length a.s1.c,.slice a.s2.a a.s2.l.length a.s2.c],.agg #[.slice b.s1.a b.s1.l.length b.s1.c,.slice b.s2.a b.s2.l.length b.s2.c]] W (F9 W (Av5 a.s1.l a.s2.l b.s1.l b.s2.l)) from Cl2 _ _ _ _ _ _ W (Ax1 (ha.mono h)) (Ax1 (hb.mono h))));have P2:=Lh (fun(W:World) (h:Below w.heap.size w W)=>(show Calls Tryz.prog 71 #[.agg a.r.L.toArray,.agg b.r.L.toArray] W (F9 W (U1 a.r b.r a.kc a.ko a.kp b.kc b.ko b.kp)) from Ch2 a.r b.r a.kc a.ko a.kp b.kc b.ko b.kp W (ha.r.mono h) (hb.r.mono h)));have P3:=Lh (fun(W:World) (h:Below w.heap.size w W)=>(show Calls Tryz.prog 72 #[.agg (M9 a.q a.qa a.qc).toArray,.agg (M9 b.q b.qa b.qc).toArray] W (F9 W (Af1 a.q b.q)) from Dc3 a.q b.q a.qa b.qa a.qc b.qc W (Nat.le_trans ha.ql.1 ha.ql.2) (Nat.le_trans hb.ql.1 hb.ql.2) (ha.q.mono h) (hb.q.mono h)));have P4:=Lh (fun(W:World) (h:Below w.heap.size w W)=>(show Calls Tryz.prog 73 #[.slice a.ua a.u.length a.uc,.slice b.ua b.u.length b.uc] W (F9 W (decide (a.u=b.u))) from Df8 a.ua b.ua a.uc b.uc a.u b.u (Nat.le_trans ha.ul.1 ha.ul.2) (Nat.le_trans hb.ul.1 hb.ul.2) W (ha.u.mono h) (hb.u.mono h)));have P5:=Lh (fun(W:World) (h:Below w.heap.size w W)=>(show Calls Tryz.prog 41 #[.agg a.h.L.toArray,.agg b.h.L.toArray] W (F9 W (Ag9 a.h a.hs b.h b.hs)) from Cg6 a.h b.h a.hs b.hs W (ha.h.mono h) (hb.h.mono h)));have P6:=Lh (fun(W:World) (h:Below w.heap.size w W)=>Cu1 a.oa b.oa a.oc b.oc a.o b.o W ho.1 ho.2 (ha.o.mono h) (hb.o.mono h));have P7:=Lh (fun(W:World) (h:Below w.heap.size w W)=>Cm0 a.ga b.ga a.gc b.gc a.g b.g W hg.1 hg.2 (ha.g.mono h) (hb.g.mono h));have P8:=Lh (fun(W:World) (h:Below w.heap.size w W)=>(show Calls Tryz.prog 25 #[.slice a.k.a a.k.l.length a.k.c,.slice b.k.a b.k.l.length b.k.c] W fun e w'=>e=.returned (.bool (a.k.l==b.k.l))∧W=w' from Y8 a.k.a b.k.a _ a.k.c _ b.k.c a.k.l b.k.l W rfl rfl (ha.k.b.mono h) (hb.k.b.mono h)));have Z9:=Lh (Da6 a b);have Z10:=Lh (Ef4 a b);have HF:=Lh (show Ak3 a b=(Av5 a.s1.l a.s2.l b.s1.l b.s2.l&&(U1 a.r b.r a.kc a.ko a.kp b.kc b.ko b.kp&&(Af1 a.q b.q&&(decide (a.u=b.u)&&(Ag9 a.h a.hs b.h b.hs&&(decide (a.o=b.o)&&(decide (a.g=b.g)&&((a.k.l==b.k.l)&&(At9 a b&&(Aq3 a b&&Ax2 a b)))))))))) from rfl);have HI:=Lh (show Ax2 a b=((a.id==b.id)&&((a.ph==b.ph)&&((a.pw==b.pw)&&((a.own==b.own)&&((a.oth==b.oth)&&((a.seen==b.seen)&&((a.seq==b.seq)&&((a.stan==b.stan)&&((a.day==b.day)))))))))) from rfl);have SS:=Lh Au9;have SR:=Lh Ab4;have SA:=Lh (show(Tryz.prog.info? 34).map (·.size)=some (M9 a.q a.qa a.qc).length from Bb5);have SH:=Lh (show(Tryz.prog.info? 42).map (·.size)=some a.h.L.length by kernel_rfl);have SW:=Lh (show ∀t c,(Tryz.prog.info? 28).map (·.size)=some (D0 t c).length from fun t c=>by rw[F8];exact S0);have S4:=Lh Bo7;unfold F9 at P1 P2 P3 P4 P5 P6 P7;generalize Ak3 a b=R at HF ⊢;generalize Av5 a.s1.l a.s2.l b.s1.l b.s2.l=s1 at P1 HF;generalize U1 a.r b.r a.kc a.ko a.kp b.kc b.ko b.kp=s2 at P2 HF;generalize Af1 a.q b.q=s3 at P3 HF;generalize decide (a.u=b.u)=s4 at P4 HF;generalize Ag9 a.h a.hs b.h b.hs=s5 at P5 HF;generalize decide (a.o=b.o)=s6 at P6 HF;generalize decide (a.g=b.g)=s7 at P7 HF;generalize (a.k.l==b.k.l)=s8 at P8 HF;generalize At9 a b=s9 at Z9 HF;generalize Aq3 a b=s10 at Z10 HF;clear ha hb ho hg;go_enter Tryz.func27,Tryz.ntmps27
 go_upto_region 1 with(fail)
 generalize hW:World.alloc (World.alloc w _) _=W;obtain⟨B2,B3,hb⟩:=Ac1 (a:=A8 a) (b:=A8 b) hW;clear hW;have B2:=Lh B2;have B3:=Lh B3;have G:=Lh hb;clear hb;generalize w.heap.size+1=n3 at B3 ⊢;generalize hn2:w.heap.size=n2 at B2 ⊢;clear hn2;have y2:W.cell? ⟨n2,3,none⟩=some (.slice a.s1.a a.s1.l.length a.s1.c):=B2.out.blk.endIn.cell 3 (by decide);have z2:W.cell? ⟨n2,4,none⟩=some (.slice a.s2.a a.s2.l.length a.s2.c):=B2.out.blk.endIn.cell 4 (by decide);have y3:W.cell? ⟨n3,3,none⟩=some (.slice b.s1.a b.s1.l.length b.s1.c):=B3.out.blk.endIn.cell 3 (by decide);have z3:W.cell? ⟨n3,4,none⟩=some (.slice b.s2.a b.s2.l.length b.s2.c):=B3.out.blk.endIn.cell 4 (by decide);go_wp2_with fail
 refine(P1.out _ G.out).mono ?_;rintro x w1 ⟨rfl,hb⟩;replace B2:=Lh (B2.out.up hb);replace B3:=Lh (B3.out.up hb);replace G:=Lh (bt G.out hb);clear hb P1 y2 y3 z2 z3;go_wp2_with (first
  | (refine F2 32 (.tmp 17) rfl ?_;refine C8 32 (.tmp 17) n2 27 (by first | rfl | simp[Region.wanted,yielded]) rfl rfl B2.out.blk.endIn.at_r Tryz.underlying32 rfl SR.out ?_)
  | (refine F2 32 (.tmp 19) rfl ?_;refine C8 32 (.tmp 19) n3 27 (by first | rfl | simp[Region.wanted,yielded]) rfl rfl B3.out.blk.endIn.at_r Tryz.underlying32 rfl SR.out ?_))
 refine(P2.out _ G.out).mono ?_;rintro x w2 ⟨rfl,hb⟩;replace B2:=Lh (B2.out.up hb);replace B3:=Lh (B3.out.up hb);replace G:=Lh (bt G.out hb);clear hb P2;go_wp2_with (first
  | (refine F2 34 (.tmp 22) rfl ?_;refine C8 34 (.tmp 22) n2 35 (by first | rfl | simp[Region.wanted,yielded]) rfl rfl B2.out.blk.endIn.at_q Tryz.underlying34 rfl SA.out ?_)
  | (refine F2 34 (.tmp 24) rfl ?_;refine C8 34 (.tmp 24) n3 35 (by first | rfl | simp[Region.wanted,yielded]) rfl rfl B3.out.blk.endIn.at_q Tryz.underlying34 rfl SA.out ?_))
 refine(P3.out _ G.out).mono ?_;rintro x w3 ⟨rfl,hb⟩;replace B2:=Lh (B2.out.up hb);replace B3:=Lh (B3.out.up hb);replace G:=Lh (bt G.out hb);clear hb P3;have y2:=B2.out.blk.endIn.u;have y3:=B3.out.blk.endIn.u;go_wp2_with fail
 refine(P4.out _ G.out).mono ?_;rintro x w4 ⟨rfl,hb⟩;replace B2:=Lh (B2.out.up hb);replace B3:=Lh (B3.out.up hb);replace G:=Lh (bt G.out hb);clear hb P4 y2 y3;go_wp2_with (first
  | (refine F2 42 (.tmp 32) rfl ?_;refine C8 42 (.tmp 32) n2 43 (by first | rfl | simp[Region.wanted,yielded]) rfl rfl B2.out.blk.endIn.at_h Tryz.underlying42 rfl SH.out ?_)
  | (refine F2 42 (.tmp 34) rfl ?_;refine C8 42 (.tmp 34) n3 43 (by first | rfl | simp[Region.wanted,yielded]) rfl rfl B3.out.blk.endIn.at_h Tryz.underlying42 rfl SH.out ?_))
 refine(P5.out _ G.out).mono ?_;rintro x w5 ⟨rfl,hb⟩;replace B2:=Lh (B2.out.up hb);replace B3:=Lh (B3.out.up hb);replace G:=Lh (bt G.out hb);clear hb P5;have y2:=B2.out.blk.endIn.o;have y3:=B3.out.blk.endIn.o;go_wp2_with fail
 refine(P6.out _ G.out).mono ?_;rintro x w6 ⟨rfl,hb⟩;replace B2:=Lh (B2.out.up hb);replace B3:=Lh (B3.out.up hb);replace G:=Lh (bt G.out hb);clear hb P6 y2 y3;have y2:=B2.out.blk.endIn.g;have y3:=B3.out.blk.endIn.g;go_wp2_with fail
 refine(P7.out _ G.out).mono ?_;rintro x w7 ⟨rfl,hb⟩;replace B2:=Lh (B2.out.up hb);replace B3:=Lh (B3.out.up hb);replace G:=Lh (bt G.out hb);clear hb P7 y2 y3;have k2:=B2.out.blk.endIn.k;have k3:=B3.out.blk.endIn.k;go_upto_region 8 with(fail)
 rcases s1 with _ | _
 ·have hR:R=false:=by rw[HF.out];rfl
  subst hR;go_wp2_with fail
  go_ret;exact⟨rfl,G.out⟩
 rcases s2 with _ | _
 ·have hR:R=false:=by rw[HF.out];rfl
  subst hR;go_wp2_with fail
  go_ret;exact⟨rfl,G.out⟩
 rcases s3 with _ | _
 ·have hR:R=false:=by rw[HF.out];rfl
  subst hR;go_wp2_with fail
  go_ret;exact⟨rfl,G.out⟩
 rcases s4 with _ | _
 ·have hR:R=false:=by rw[HF.out];rfl
  subst hR;go_wp2_with fail
  go_ret;exact⟨rfl,G.out⟩
 rcases s5 with _ | _
 ·have hR:R=false:=by rw[HF.out];rfl
  subst hR;go_wp2_with fail
  go_ret;exact⟨rfl,G.out⟩
 rcases s6 with _ | _
 ·have hR:R=false:=by rw[HF.out];rfl
  subst hR;go_wp2_with fail
  go_ret;exact⟨rfl,G.out⟩
 rcases s7 with _ | _
 ·have hR:R=false:=by rw[HF.out];rfl
  subst hR;go_wp2_with fail
  go_ret;exact⟨rfl,G.out⟩
 rcases s8 with _ | _
 ·have hR:R=false:=by rw[HF.out];rfl
  subst hR;go_wp2_with fail
  refine(P8.out _ G.out).mono ?_;rintro x w8 ⟨rfl,rfl⟩;have hz:=Z9.out;have hz4:=Z10.out;go_wp2_with (first
  | (refine F2 28 (.tmp 82) rfl ?_;refine C8 28 (.tmp 82) n2 10 (by first | rfl | simp[Region.wanted,yielded]) rfl rfl B2.out.blk.endIn.at_w Tryz.underlying28 rfl (SW.out _ _) ?_)
  | (refine F2 28 (.tmp 84) rfl ?_;refine C8 28 (.tmp 84) n3 10 (by first | rfl | simp[Region.wanted,yielded]) rfl rfl B3.out.blk.endIn.at_w Tryz.underlying28 rfl (SW.out _ _) ?_)
  | (refine F2 40 (.tmp 89) rfl ?_;refine C8 40 (.tmp 89) n2 66 (by first | rfl | simp[Region.wanted,yielded]) rfl rfl B2.out.blk.endIn.at_c Tryz.underlying40 rfl S4.out ?_)
  | (refine F2 40 (.tmp 91) rfl ?_;refine C8 40 (.tmp 91) n3 66 (by first | rfl | simp[Region.wanted,yielded]) rfl rfl B3.out.blk.endIn.at_c Tryz.underlying40 rfl S4.out ?_))
  go_ret;exact⟨rfl,G.out⟩
 rcases s9 with _ | _
 ·have hR:R=false:=by rw[HF.out];rfl
  subst hR;go_wp2_with fail
  refine(P8.out _ G.out).mono ?_;rintro x w8 ⟨rfl,rfl⟩;have hz:=Z9.out;have hz4:=Z10.out;go_wp2_with (first
  | (refine F2 28 (.tmp 82) rfl ?_;refine C8 28 (.tmp 82) n2 10 (by first | rfl | simp[Region.wanted,yielded]) rfl rfl B2.out.blk.endIn.at_w Tryz.underlying28 rfl (SW.out _ _) ?_)
  | (refine F2 28 (.tmp 84) rfl ?_;refine C8 28 (.tmp 84) n3 10 (by first | rfl | simp[Region.wanted,yielded]) rfl rfl B3.out.blk.endIn.at_w Tryz.underlying28 rfl (SW.out _ _) ?_)
  | (refine F2 40 (.tmp 89) rfl ?_;refine C8 40 (.tmp 89) n2 66 (by first | rfl | simp[Region.wanted,yielded]) rfl rfl B2.out.blk.endIn.at_c Tryz.underlying40 rfl S4.out ?_)
  | (refine F2 40 (.tmp 91) rfl ?_;refine C8 40 (.tmp 91) n3 66 (by first | rfl | simp[Region.wanted,yielded]) rfl rfl B3.out.blk.endIn.at_c Tryz.underlying40 rfl S4.out ?_))
  go_ret;exact⟨rfl,G.out⟩
 rcases s10 with _ | _
 ·have hR:R=false:=by rw[HF.out];rfl
  subst hR;go_wp2_with fail
  refine(P8.out _ G.out).mono ?_;rintro x w8 ⟨rfl,rfl⟩;have hz:=Z9.out;have hz4:=Z10.out;go_wp2_with (first
  | (refine F2 28 (.tmp 82) rfl ?_;refine C8 28 (.tmp 82) n2 10 (by first | rfl | simp[Region.wanted,yielded]) rfl rfl B2.out.blk.endIn.at_w Tryz.underlying28 rfl (SW.out _ _) ?_)
  | (refine F2 28 (.tmp 84) rfl ?_;refine C8 28 (.tmp 84) n3 10 (by first | rfl | simp[Region.wanted,yielded]) rfl rfl B3.out.blk.endIn.at_w Tryz.underlying28 rfl (SW.out _ _) ?_)
  | (refine F2 40 (.tmp 89) rfl ?_;refine C8 40 (.tmp 89) n2 66 (by first | rfl | simp[Region.wanted,yielded]) rfl rfl B2.out.blk.endIn.at_c Tryz.underlying40 rfl S4.out ?_)
  | (refine F2 40 (.tmp 91) rfl ?_;refine C8 40 (.tmp 91) n3 66 (by first | rfl | simp[Region.wanted,yielded]) rfl rfl B3.out.blk.endIn.at_c Tryz.underlying40 rfl S4.out ?_))
  go_ret;exact⟨rfl,G.out⟩
 have HR:=Lh (show R=Ax2 a b by rw[HF.out];rfl);clear HF;go_wp2_with fail
 refine(P8.out _ G.out).mono ?_;rintro x w8 ⟨rfl,rfl⟩;have hz:=Z9.out;have hz4:=Z10.out;go_upto_region 10 with(first
  | (refine F2 28 (.tmp 82) rfl ?_;refine C8 28 (.tmp 82) n2 10 (by first | rfl | simp[Region.wanted,yielded]) rfl rfl B2.out.blk.endIn.at_w Tryz.underlying28 rfl (SW.out _ _) ?_)
  | (refine F2 28 (.tmp 84) rfl ?_;refine C8 28 (.tmp 84) n3 10 (by first | rfl | simp[Region.wanted,yielded]) rfl rfl B3.out.blk.endIn.at_w Tryz.underlying28 rfl (SW.out _ _) ?_)
  | (refine F2 40 (.tmp 89) rfl ?_;refine C8 40 (.tmp 89) n2 66 (by first | rfl | simp[Region.wanted,yielded]) rfl rfl B2.out.blk.endIn.at_c Tryz.underlying40 rfl S4.out ?_)
  | (refine F2 40 (.tmp 91) rfl ?_;refine C8 40 (.tmp 91) n3 66 (by first | rfl | simp[Region.wanted,yielded]) rfl rfl B3.out.blk.endIn.at_c Tryz.underlying40 rfl S4.out ?_))
 clear hz hz4 Z9 Z10 P8 k2 k3;have x_id:=B2.out.blk.endIn.id;have z_id:=B3.out.blk.endIn.id;have x_ph:=B2.out.blk.endIn.ph;have z_ph:=B3.out.blk.endIn.ph;have x_pw:=B2.out.blk.endIn.pw;have z_pw:=B3.out.blk.endIn.pw;have x_own:=B2.out.blk.endIn.own;have z_own:=B3.out.blk.endIn.own;have x_oth:=B2.out.blk.endIn.oth;have z_oth:=B3.out.blk.endIn.oth;have x_seen:=B2.out.blk.endIn.seen;have z_seen:=B3.out.blk.endIn.seen;have x_seq:=B2.out.blk.endIn.seq;have z_seq:=B3.out.blk.endIn.seq;have x_stan:=B2.out.blk.endIn.stan;have z_stan:=B3.out.blk.endIn.stan;have x_day:=B2.out.blk.endIn.day;have z_day:=B3.out.blk.endIn.day;rcases hq0:(a.id==b.id) with _ | _
 ·have hR:R=false:=by rw[HR.out,HI.out,hq0];rfl
  subst hR;go_wp2_with fail
  go_ret;exact⟨rfl,G.out⟩
 rcases hq1:(a.ph==b.ph) with _ | _
 ·have hR:R=false:=by rw[HR.out,HI.out,hq0,hq1];rfl
  subst hR;go_wp2_with fail
  go_ret;exact⟨rfl,G.out⟩
 rcases hq2:(a.pw==b.pw) with _ | _
 ·have hR:R=false:=by rw[HR.out,HI.out,hq0,hq1,hq2];rfl
  subst hR;go_wp2_with fail
  go_ret;exact⟨rfl,G.out⟩
 rcases hq3:(a.own==b.own) with _ | _
 ·have hR:R=false:=by rw[HR.out,HI.out,hq0,hq1,hq2,hq3];rfl
  subst hR;go_wp2_with fail
  go_ret;exact⟨rfl,G.out⟩
 rcases hq4:(a.oth==b.oth) with _ | _
 ·have hR:R=false:=by rw[HR.out,HI.out,hq0,hq1,hq2,hq3,hq4];rfl
  subst hR;go_wp2_with fail
  go_ret;exact⟨rfl,G.out⟩
 rcases hq5:(a.seen==b.seen) with _ | _
 ·have hR:R=false:=by rw[HR.out,HI.out,hq0,hq1,hq2,hq3,hq4,hq5];rfl
  subst hR;go_wp2_with fail
  go_ret;exact⟨rfl,G.out⟩
 rcases hq6:(a.seq==b.seq) with _ | _
 ·have hR:R=false:=by rw[HR.out,HI.out,hq0,hq1,hq2,hq3,hq4,hq5,hq6];rfl
  subst hR;go_wp2_with fail
  go_ret;exact⟨rfl,G.out⟩
 rcases hq7:(a.stan==b.stan) with _ | _
 ·have hR:R=false:=by rw[HR.out,HI.out,hq0,hq1,hq2,hq3,hq4,hq5,hq6,hq7];rfl
  subst hR;go_wp2_with fail
  go_ret;exact⟨rfl,G.out⟩
 have hR:R=(a.day==b.day):=by rw[HR.out,HI.out,hq0,hq1,hq2,hq3,hq4,hq5,hq6,hq7];rfl
 go_wp2_with fail
 go_ret;exact⟨by rw[hR];rfl,G.out⟩
theorem Dj7(x y:(Int×List UInt8))(p q:Option Addr)(c d:Nat)(w:World)(hx:A4 w p x.2)(hy:A4 w q y.2):
 Calls Tryz.prog 100 #[.agg #[.int .i64 x.1,.slice p x.2.length c],.agg #[.int .i64 y.1,.slice q y.2.length d]] w (F9 w (Ak9 x y)):=by
 have K:=Lh (fun(W:World) (h:Below w.heap.size w W)=>(show Calls Tryz.prog 101 #[.slice p x.2.length c,.slice q y.2.length d] W fun e w'=>e=.returned (.bool (x.2==y.2))∧W=w' from Ag3 p q _ c _ d x.2 y.2 W rfl rfl (hx.mono h) (hy.mono h)));have HX:=Lh (show Ak9 x y=((x.1==y.1)&&(x.2==y.2)) from rfl);generalize Ak9 x y=R at HX ⊢;generalize (x.2==y.2)=r at HX K;clear hx hy;have hb:=Lh (bta (ba w (.cells #[.int .i64 x.1,.slice p x.2.length c] 77)) (.cells #[.int .i64 y.1,.slice q y.2.length d] 77));rcases hq0:(x.1==y.1) with _ | _
 ·have hR:R=false:=by
   rw[HX.out]
   revert hq0
   clear K HX hb;generalize (x.1==y.1)=b1
   revert b1 r;decide
  subst hR
  skip
  skip
  go_enter Tryz.func100,Tryz.ntmps100
  go_wp2_with fail
  go_ret;exact⟨rfl,hb.out⟩
 have hR:R=r:=by
  rw[HX.out]
  revert hq0
  clear K HX hb;generalize (x.1==y.1)=b1
  revert b1 r;decide
 subst hR;go_enter Tryz.func100,Tryz.ntmps100
 go_wp2_with fail
 refine(K.out _ hb.out).mono ?_;rintro e w2 ⟨rfl,rfl⟩;rcases R with _ | _;all_goals
  go_wp2_with fail
  go_ret;exact⟨rfl,hb.out⟩
theorem Dj8(x y:Gt)(p q:Option Addr)(c d:Nat)(w:World)(hx:A4 w p x.b)(hy:A4 w q y.b):
 Calls Tryz.prog 102 #[.agg #[.int .i64 x.kind,.int .i64 x.e0,.int .i64 x.e1,.int .i64 x.seq,.slice p x.b.length c],.agg #[.int .i64 y.kind,.int .i64 y.e0,.int .i64 y.e1,.int .i64 y.seq,.slice q y.b.length d]] w (F9 w (Ai3 x y)):=by
 have K:=Lh (fun(W:World) (h:Below w.heap.size w W)=>(show Calls Tryz.prog 101 #[.slice p x.b.length c,.slice q y.b.length d] W fun e w'=>e=.returned (.bool (x.b==y.b))∧W=w' from Ag3 p q _ c _ d x.b y.b W rfl rfl (hx.mono h) (hy.mono h)));have HX:=Lh (show Ai3 x y=((x.kind==y.kind)&&((x.e0==y.e0)&&((x.e1==y.e1)&&((x.seq==y.seq)&&(x.b==y.b))))) from rfl);generalize Ai3 x y=R at HX ⊢;generalize (x.b==y.b)=r at HX K;clear hx hy;have hb:=Lh (bta (ba w (.cells #[.int .i64 x.kind,.int .i64 x.e0,.int .i64 x.e1,.int .i64 x.seq,.slice p x.b.length c] 103)) (.cells #[.int .i64 y.kind,.int .i64 y.e0,.int .i64 y.e1,.int .i64 y.seq,.slice q y.b.length d] 103));rcases hq0:(x.kind==y.kind) with _ | _
 ·have hR:R=false:=by
   rw[HX.out]
   revert hq0
   clear K HX hb;generalize (x.kind==y.kind)=b_kind;generalize (x.e0==y.e0)=b_e0;generalize (x.e1==y.e1)=b_e1;generalize (x.seq==y.seq)=b_seq
   revert b_kind b_e0 b_e1 b_seq r;decide
  subst hR
  skip
  skip
  go_enter Tryz.func102,Tryz.ntmps102
  go_wp2_with fail
  go_ret;exact⟨rfl,hb.out⟩
 rcases hq1:((x.e0==y.e0)&&(x.e1==y.e1)) with _ | _
 ·have hR:R=false:=by
   rw[HX.out]
   revert hq0 hq1
   clear K HX hb;generalize (x.kind==y.kind)=b_kind;generalize (x.e0==y.e0)=b_e0;generalize (x.e1==y.e1)=b_e1;generalize (x.seq==y.seq)=b_seq
   revert b_kind b_e0 b_e1 b_seq r;decide
  subst hR;have hp:=fun W=>(Ap4 (.tmp 12) (.tmp 14) x.e0 x.e1 y.e0 y.e1 W).2;rw[hq1] at hp;go_enter Tryz.func102,Tryz.ntmps102
  go_wp2_with fail
  go_ret;exact⟨rfl,hb.out⟩
 have hp:=fun W=>(Ap4 (.tmp 12) (.tmp 14) x.e0 x.e1 y.e0 y.e1 W).2;rw[hq1] at hp;rcases hq2:(x.seq==y.seq) with _ | _
 ·have hR:R=false:=by
   rw[HX.out]
   revert hq0 hq1 hq2
   clear K HX hb;generalize (x.kind==y.kind)=b_kind;generalize (x.e0==y.e0)=b_e0;generalize (x.e1==y.e1)=b_e1;generalize (x.seq==y.seq)=b_seq
   revert b_kind b_e0 b_e1 b_seq r;decide
  subst hR
  skip
  skip
  go_enter Tryz.func102,Tryz.ntmps102
  go_wp2_with fail
  go_ret;exact⟨rfl,hb.out⟩
 have hR:R=r:=by
  rw[HX.out]
  revert hq0 hq1 hq2
  clear K HX hb hp;generalize (x.kind==y.kind)=b_kind;generalize (x.e0==y.e0)=b_e0;generalize (x.e1==y.e1)=b_e1;generalize (x.seq==y.seq)=b_seq
  revert b_kind b_e0 b_e1 b_seq r;decide
 subst hR;go_enter Tryz.func102,Tryz.ntmps102
 go_wp2_with fail
 refine(K.out _ hb.out).mono ?_;rintro e w2 ⟨rfl,rfl⟩;rcases R with _ | _;all_goals
  go_wp2_with fail
  go_ret;exact⟨rfl,hb.out⟩
theorem Dj9(a b:Option Addr)(c d:Nat)(es es2:List (Int×List UInt8))(w:World)(h1:es.length≤100000)(h2:es2.length≤100000)(hE:Ad9 w a es)(hE2:Ad9 w b es2):
 Calls Tryz.prog 109 #[.slice a es.length c,.slice b es2.length d,.func (.func 100) #[] #[]] w (F9 w (decide (es=es2))):=by
 by_cases hne:es.length=es2.length
 ·have hd:((es.length:Int) != (es2.length:Int))=false:=by simp[hne]
  have HE:=Lh hE;have HE2:=Lh hE2;have Hne:=Lh hne;have HQ:=Lh (fun h=>Ba5 (z:=(0,[])) (l:=es) (m:=es2) hne h);obtain⟨R,hR⟩:∃R,R=decide (es=es2):=⟨_,rfl⟩;have HR:=Lh hR;rw[←hR];clear hE hE2 hne hR;go_enter Tryz.func109,Tryz.ntmps109
  go_wp2_with fail
  go_loopw [17] (fun v wr=>∃k:Nat,k≤es.length∧v=.int .i64 (k:Int)∧(∀j,j<k→es.getD j (0,[])=es2.getD j (0,[]))∧Below w.heap.size w wr) (fun v _=>es.length-(intOf v).toNat)
  case atStart=>exact⟨0,Nat.zero_le _,rfl,fun j hj=>absurd hj (by omega),Below.refl _ _⟩
  case round=>
   obtain⟨k,hk,rfl,hno,hG⟩:=hrel;have Hno:=Lh hno;have G:=Lh hG;by_cases hlt:k<es.length
   ·obtain⟨g1,o1,rfl,hg1,hcs1⟩:=(HE.out.mono hG).cell (by omega);obtain⟨g2,o2,rfl,hg2,hcs2⟩:=(HE2.out.mono hG).cell (by have:=Hne.out;omega);obtain⟨p0,c0,x0,x1,l0,m0,b0⟩:=hcs1 k hlt;obtain⟨q0,d0,y0,y1,s0,t0,u0⟩:=hcs2 k (by have:=Hne.out;omega);obtain⟨e1,he1⟩:∃e,e=es.getD k (0,[]):=⟨_,rfl⟩;obtain⟨e2,he2⟩:∃e,e=es2.getD k (0,[]):=⟨_,rfl⟩;rw[←he1] at x0 x1 b0;rw[←he2] at y0 y1 u0;have K:=Lh (fun(W:World) (h:Below wr.heap.size wr W)=>(show Calls Tryz.prog 100 #[.agg #[.int .i64 e1.1,.slice p0 e1.2.length c0],.agg #[.int .i64 e2.1,.slice q0 e2.2.length d0]] W (F9 W (Ak9 e1 e2)) from Dj7 e1 e2 p0 q0 c0 d0 W (b0.mono h) (u0.mono h)));have HF:=Lh (Bx1 (x:=e1) (y:=e2));have hi1:(k:Int)<(es.length:Int):=by omega
    have hi2:(k:Int)<(es2.length:Int):=by have:=Hne.out;omega
    have hi0:(0:Int)≤(k:Int):=by omega
    have He1:=Lh he1;have He2:=Lh he2;clear hcs1 hcs2 l0 m0 b0 s0 t0 u0 hno hG he1 he2;generalize Ak9 e1 e2=q at HF K;have hbA:=ba wr (.cells #[.int .i64 e1.1,.slice p0 e1.2.length c0] 77);have z0:=(hbA.cell (p:=⟨g2,o2+k*2,none⟩) hg2).trans y0;have z1:=(hbA.cell (p:=⟨g2,o2+k*2+1,none⟩) hg2).trans y1;have HbA:=Lh hbA;clear hbA;rcases q with _ | _
    ·go_wp2_with fail
     refine(K.out _ (bta (ba wr _) _)).mono ?_;rintro e w2 ⟨rfl,hb2⟩;go_wp2_with fail
     go_ret;refine⟨?_,bt (bt G.out (bta (ba wr _) _)) hb2⟩;have:R=false:=by
      rw[HR.out,decide_eq_false];intro h;have h2:=HF.out.2 (by rw[He1.out,He2.out,h]);cases h2
     rw[this];rfl
    ·go_wp2_with fail
     refine(K.out _ (bta (ba wr _) _)).mono ?_;rintro e w2 ⟨rfl,hb2⟩;go_wp2_with fail
     exact⟨⟨k+1,by omega,by go_num,fun j hj=>by
      rcases Nat.lt_or_ge j k with h | h
      ·exact Hno.out j h
      ·rw[show j=k by omega,←He1.out,←He2.out];exact HF.out.1 (by first | rfl | trivial),bt (bt G.out (bta (ba wr _) _)) hb2⟩,by simp[intOf];omega⟩
   ·obtain rfl:k=es.length:=by omega
    go_wp2_with fail
    go_ret;refine⟨?_,G.out⟩;have:R=true:=by rw[HR.out,decide_eq_true];exact HQ.out Hno.out
    rw[this];rfl
 ·have hd:((es.length:Int) != (es2.length:Int))=true:=by rw[bne_iff_ne];omega
  have HR:=Lh (show decide (es=es2)=false from decide_eq_false fun h=>hne (by rw[h]));clear hE hE2 hne;go_enter Tryz.func109,Tryz.ntmps109
  go_wp2_with fail
  go_ret;exact⟨by rw[HR.out];rfl,Below.refl _ _⟩
theorem Dk0(a b:Option Addr)(c d:Nat)(es es2:List Gt)(w:World)(h1:es.length≤100000)(h2:es2.length≤100000)(hE:Aj0 w a es)(hE2:Aj0 w b es2):
 Calls Tryz.prog 110 #[.slice a es.length c,.slice b es2.length d,.func (.func 102) #[] #[]] w (F9 w (decide (es=es2))):=by
 by_cases hne:es.length=es2.length
 ·have hd:((es.length:Int) != (es2.length:Int))=false:=by simp[hne]
  have HE:=Lh hE;have HE2:=Lh hE2;have Hne:=Lh hne;have HQ:=Lh (fun h=>Ba5 (z:=default) (l:=es) (m:=es2) hne h);obtain⟨R,hR⟩:∃R,R=decide (es=es2):=⟨_,rfl⟩;have HR:=Lh hR;rw[←hR];clear hE hE2 hne hR;go_enter Tryz.func110,Tryz.ntmps110
  go_wp2_with fail
  go_loopw [17] (fun v wr=>∃k:Nat,k≤es.length∧v=.int .i64 (k:Int)∧(∀j,j<k→es.getD j default=es2.getD j default)∧Below w.heap.size w wr) (fun v _=>es.length-(intOf v).toNat)
  case atStart=>exact⟨0,Nat.zero_le _,rfl,fun j hj=>absurd hj (by omega),Below.refl _ _⟩
  case round=>
   obtain⟨k,hk,rfl,hno,hG⟩:=hrel;have Hno:=Lh hno;have G:=Lh hG;by_cases hlt:k<es.length
   ·obtain⟨g1,o1,rfl,hg1,hcs1⟩:=(HE.out.mono hG).cell (by omega);obtain⟨g2,o2,rfl,hg2,hcs2⟩:=(HE2.out.mono hG).cell (by have:=Hne.out;omega);obtain⟨p0,c0,x0,x1,x2,x3,x4,l0,m0,b0⟩:=hcs1 k hlt;obtain⟨q0,d0,y0,y1,y2,y3,y4,s0,t0,u0⟩:=hcs2 k (by have:=Hne.out;omega);obtain⟨e1,he1⟩:∃e,e=es.getD k default:=⟨_,rfl⟩;obtain⟨e2,he2⟩:∃e,e=es2.getD k default:=⟨_,rfl⟩;rw[←he1] at x0 x1 x2 x3 x4 b0;rw[←he2] at y0 y1 y2 y3 y4 u0;have K:=Lh (fun(W:World) (h:Below wr.heap.size wr W)=>(show Calls Tryz.prog 102 #[.agg #[.int .i64 e1.kind,.int .i64 e1.e0,.int .i64 e1.e1,.int .i64 e1.seq,.slice p0 e1.b.length c0],.agg #[.int .i64 e2.kind,.int .i64 e2.e0,.int .i64 e2.e1,.int .i64 e2.seq,.slice q0 e2.b.length d0]] W (F9 W (Ai3 e1 e2)) from Dj8 e1 e2 p0 q0 c0 d0 W (b0.mono h) (u0.mono h)));have HF:=Lh (Cd9 (x:=e1) (y:=e2));have hi1:(k:Int)<(es.length:Int):=by omega
    have hi2:(k:Int)<(es2.length:Int):=by have:=Hne.out;omega
    have hi0:(0:Int)≤(k:Int):=by omega
    have He1:=Lh he1;have He2:=Lh he2;clear hcs1 hcs2 l0 m0 b0 s0 t0 u0 hno hG he1 he2;generalize Ai3 e1 e2=q at HF K;have hbA:=ba wr (.cells #[.int .i64 e1.kind,.int .i64 e1.e0,.int .i64 e1.e1,.int .i64 e1.seq,.slice p0 e1.b.length c0] 103);have z0:=(hbA.cell (p:=⟨g2,o2+k*5,none⟩) hg2).trans y0;have z1:=(hbA.cell (p:=⟨g2,o2+k*5+1,none⟩) hg2).trans y1;have z2:=(hbA.cell (p:=⟨g2,o2+k*5+2,none⟩) hg2).trans y2;have z3:=(hbA.cell (p:=⟨g2,o2+k*5+3,none⟩) hg2).trans y3;have z4:=(hbA.cell (p:=⟨g2,o2+k*5+4,none⟩) hg2).trans y4;have HbA:=Lh hbA;clear hbA;rcases q with _ | _
    ·go_wp2_with fail
     refine(K.out _ (bta (ba wr _) _)).mono ?_;rintro e w2 ⟨rfl,hb2⟩;go_wp2_with fail
     go_ret;refine⟨?_,bt (bt G.out (bta (ba wr _) _)) hb2⟩;have:R=false:=by
      rw[HR.out,decide_eq_false];intro h;have h2:=HF.out.2 (by rw[He1.out,He2.out,h]);cases h2
     rw[this];rfl
    ·go_wp2_with fail
     refine(K.out _ (bta (ba wr _) _)).mono ?_;rintro e w2 ⟨rfl,hb2⟩;go_wp2_with fail
     exact⟨⟨k+1,by omega,by go_num,fun j hj=>by
      rcases Nat.lt_or_ge j k with h | h
      ·exact Hno.out j h
      ·rw[show j=k by omega,←He1.out,←He2.out];exact HF.out.1 (by first | rfl | trivial),bt (bt G.out (bta (ba wr _) _)) hb2⟩,by simp[intOf];omega⟩
   ·obtain rfl:k=es.length:=by omega
    go_wp2_with fail
    go_ret;refine⟨?_,G.out⟩;have:R=true:=by rw[HR.out,decide_eq_true];exact HQ.out Hno.out
    rw[this];rfl
 ·have hd:((es.length:Int) != (es2.length:Int))=true:=by rw[bne_iff_ne];omega
  have HR:=Lh (show decide (es=es2)=false from decide_eq_false fun h=>hne (by rw[h]));clear hE hE2 hne;go_enter Tryz.func110,Tryz.ntmps110
  go_wp2_with fail
  go_ret;exact⟨by rw[HR.out];rfl,Below.refl _ _⟩
theorem Dk1(a b:Option Addr)(c d:Nat)(es es2:List (List UInt8))(w:World)(h1:es.length≤maxLen)(h2:es2.length≤maxLen)(hE:Y3 w a es)(hE2:Y3 w b es2):
 Calls Tryz.prog 107 #[.slice a es.length c,.slice b es2.length d,.func (.func 101) #[] #[]] w (F9 w (decide (es=es2))):=by
 unfold maxLen at h1 h2;by_cases hne:es.length=es2.length
 ·have hd:((es.length:Int) != (es2.length:Int))=false:=by simp[hne]
  have HE:=Lh hE;have HE2:=Lh hE2;have Hne:=Lh hne;have HQ:=Lh (fun h=>Ba5 (z:=[]) (l:=es) (m:=es2) hne h);obtain⟨R,hR⟩:∃R,R=decide (es=es2):=⟨_,rfl⟩;have HR:=Lh hR;rw[←hR];clear hE hE2 hne hR;go_enter Tryz.func107,Tryz.ntmps107
  go_wp2_with fail
  go_loopw [17] (fun v wr=>∃k:Nat,k≤es.length∧v=.int .i64 (k:Int)∧(∀j,j<k→es.getD j []=es2.getD j [])∧wr=w) (fun v _=>es.length-(intOf v).toNat)
  case atStart=>exact⟨0,Nat.zero_le _,rfl,fun j hj=>absurd hj (by omega),rfl⟩
  case round=>
   obtain⟨k,hk,rfl,hno,rfl⟩:=hrel;have Hno:=Lh hno;by_cases hlt:k<es.length
   ·obtain⟨g1,o1,p0,c0,rfl,hg1,x0,-,-,b0⟩:=HE.out.row k hlt;obtain⟨g2,o2,q0,d0,rfl,hg2,y0,-,-,u0⟩:=HE2.out.row k (by have:=Hne.out;omega);obtain⟨e1,he1⟩:∃e,e=es.getD k []:=⟨_,rfl⟩;obtain⟨e2,he2⟩:∃e,e=es2.getD k []:=⟨_,rfl⟩;rw[←he1] at x0 b0;rw[←he2] at y0 u0;have K:=Lh (show Calls Tryz.prog 101 #[.slice p0 e1.length c0,.slice q0 e2.length d0] wr fun e w'=>e=.returned (.bool (e1==e2))∧wr=w' from Ag3 p0 q0 _ c0 _ d0 e1 e2 wr rfl rfl b0 u0);have HF:=Lh (show(e1==e2)=true↔e1=e2 from beq_iff_eq);have hi1:(k:Int)<(es.length:Int):=by omega
    have hi2:(k:Int)<(es2.length:Int):=by have:=Hne.out;omega
    have hi0:(0:Int)≤(k:Int):=by omega
    have He1:=Lh he1;have He2:=Lh he2;clear b0 u0 hno he1 he2;generalize (e1==e2)=q at HF K;rcases q with _ | _
    ·go_wp2_with fail
     refine K.out.mono ?_;rintro e w2 ⟨rfl,rfl⟩;go_wp2_with fail
     go_ret;refine⟨?_,Below.refl _ _⟩;have:R=false:=by
      rw[HR.out,decide_eq_false];intro h;have h2:=HF.out.2 (by rw[He1.out,He2.out,h]);cases h2
     rw[this];rfl
    ·go_wp2_with fail
     refine K.out.mono ?_;rintro e w2 ⟨rfl,rfl⟩;go_wp2_with fail
     exact⟨⟨k+1,by omega,by go_num,fun j hj=>by
      rcases Nat.lt_or_ge j k with h | h
      ·exact Hno.out j h
      ·rw[show j=k by omega,←He1.out,←He2.out];exact HF.out.1 (by first | rfl | trivial),by trivial⟩,by simp[intOf];omega⟩
   ·obtain rfl:k=es.length:=by omega
    go_wp2_with fail
    go_ret;refine⟨?_,Below.refl _ _⟩;have:R=true:=by rw[HR.out,decide_eq_true];exact HQ.out Hno.out
    rw[this];rfl
 ·have hd:((es.length:Int) != (es2.length:Int))=true:=by rw[bne_iff_ne];omega
  have HR:=Lh (show decide (es=es2)=false from decide_eq_false fun h=>hne (by rw[h]));clear hE hE2 hne;go_enter Tryz.func107,Tryz.ntmps107
  go_wp2_with fail
  go_ret;exact⟨by rw[HR.out];rfl,Below.refl _ _⟩
theorem Dk2(a:Option Addr)(c:Nat)(l:List Bool)(w:World)(h1:l.length≤1000)(hE:At w a (l.map Value.bool)):
 Calls Tryz.prog 191 #[.slice a l.length c,.bool false] w fun e w'=>(∃i:Int,e=.returned (.int .i64 i)∧decide (0≤i)=!(l.all id))∧w=w':=by
 have HE:=Lh hE;clear hE;go_enter Tryz.func191,Tryz.ntmps191
 go_wp2_with fail
 go_loopw [8] (fun v wr=>∃k:Nat,k≤l.length∧v=.int .i64 (k:Int)∧(∀j,j<k→l.getD j true=true)∧wr=w) (fun v _=>l.length-(intOf v).toNat)
 case atStart=>exact⟨0,Nat.zero_le _,rfl,fun j hj=>absurd hj (by omega),rfl⟩
 case round=>
  obtain⟨k,hk,rfl,hno,rfl⟩:=hrel;have Hno:=Lh hno;by_cases hlt:k<l.length
  ·rcases HE.out with h0 | ⟨g,o,rfl,hg,hc⟩
   ·rw[List.map_eq_nil_iff] at h0;rw[h0] at hlt;simp at hlt
   have x0:wr.cell? ⟨g,o+k,none⟩=some (.bool (l.getD k true)):=by
    rw[hc k (by simpa using hlt)];simp[List.getD_eq_getElem?_getD,hlt]
   have hi1:(k:Int)<(l.length:Int):=by omega
   have hi0:(0:Int)≤(k:Int):=by omega
   rcases hb:l.getD k true with _ | _
   ·rw[hb] at x0;have HX:=Lh (show l.all id=false from by
     rw[Bool.eq_false_iff];intro h;have:=List.all_eq_true.1 h (l.getD k true) (by
      rw[List.getD_eq_getElem?_getD,List.getElem?_eq_getElem hlt];exact List.getElem_mem hlt)
     rw[hb] at this;exact absurd this (by decide))
    clear hc hno hb;go_wp2_with fail
    go_ret;exact⟨⟨(k:Int),by first | rfl | (congr;go_num),by rw[HX.out];exact decide_eq_true (by omega)⟩,rfl⟩
   ·rw[hb] at x0;have Hb:=Lh hb;clear hc hno hb;go_wp2_with fail
    exact⟨⟨k+1,by omega,by go_num,fun j hj=>by
     rcases Nat.lt_or_ge j k with h | h
     ·exact Hno.out j h
     ·rw[show j=k by omega];exact Hb.out,by trivial⟩,by simp[intOf];omega⟩
  ·obtain rfl:k=l.length:=by omega
   have HX:=Lh (show l.all id=true from List.all_eq_true.2 fun x hx=>by
    obtain⟨j,hj,rfl⟩:=List.mem_iff_getElem.1 hx;have:=hno j hj;rw[List.getD_eq_getElem?_getD,List.getElem?_eq_getElem hj] at this;exact this)
   clear hno;go_wp2_with fail
   go_ret;exact⟨⟨-1,rfl,by rw[HX.out];rfl⟩,rfl⟩
theorem Es8(a:Option Addr)(c:Nat)(l:List Bool)(w:World)(h1:l.length≤1000)(hE:At w a (l.map Value.bool)):
 Calls Tryz.prog 103 #[.slice a l.length c] w fun e w'=>e=.returned (.bool (l.all id))∧w=w':=by
 have H:=Lh (Dk2 a c l w h1 hE);clear hE;go_enter Tryz.func103,Tryz.ntmps103
 go_wp2_with fail
 go_enter Tryz.func165,Tryz.ntmps165
 go_wp2_with fail
 refine H.out.mono ?_;rintro e w2 ⟨⟨i,rfl,hi⟩,rfl⟩;rcases hl:l.all id with _ | _
 ·rw[hl] at hi;have hi0:0≤i:=of_decide_eq_true hi;go_wp2_with fail
  first
  | (go_ret;exact⟨by rw[hl];rfl,rfl⟩)
  | (go_wp2_with fail;go_ret;exact⟨by rw[hl];rfl,rfl⟩)
 ·rw[hl] at hi;have hi0:¬0≤i:=of_decide_eq_false hi;go_wp2_with fail
  first
  | (go_ret;exact⟨by rw[hl];rfl,rfl⟩)
  | (go_wp2_with fail;go_ret;exact⟨by rw[hl];rfl,rfl⟩)
end Go.Proofs.YtadpiemjgfndgaaGreatDoor
