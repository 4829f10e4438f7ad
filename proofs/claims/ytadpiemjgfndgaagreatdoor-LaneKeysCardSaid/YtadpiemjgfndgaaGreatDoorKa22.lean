/- Proved here, for use further on: LeZ LfA LfB LfC LfD. Conditions: none but those each theorem names. -/
import Derived.Test.YtadpiemjgfndgaaGreatDoorKa00
import Derived.Test.YtadpiemjgfndgaaGreatDoorKa21
import Derived.Test.YtadpiemjgfndgaaGreatDoorKa18
import Derived.Test.YtadpiemjgfndgaaGreatDoorKa19
import Derived.Test.YtadpiemjgfndgaaGreatDoorKa11
import Derived.Test.YtadpiemjgfndgaaGreatDoorKa16
import Derived.Deep.DeepCutAuto
import Derived.Test.YtadpiemjgfndgaaGreatDoorKa17
import Derived.Test.YtadpiemjgfndgaaGreatDoorKa20
import Derived.Test.YtadpiemjgfndgaaGreatDoorKa10
set_option linter.unusedSimpArgs false
set_option linter.unusedVariables false
set_option maxRecDepth 100000
set_option maxHeartbeats 8000000
namespace Go.Proofs.YtadpiemjgfndgaaGreatDoor
open Go.RowKit
theorem Kp.tr{b:Nat}{w0 w1 w2:World}(h:Kp b w0 w1)(k:Kp b w1 w2):Kp b w0 w2:=
 ⟨k.os.trans h.os,k.tape.trans h.tape,k.output.trans h.output,Nat.le_trans h.size k.size,fun g hg hn=>(k.blk g (Nat.lt_of_lt_of_le hg h.size) hn).trans (h.blk g hg hn)⟩
theorem Kp.own{b c:Nat}{w0 w1 w2:World}(h:Kp b w0 w1)(k:Kp c w1 w2)(hc:w0.heap.size≤c):Kp b w0 w2:=
 ⟨k.os.trans h.os,k.tape.trans h.tape,k.output.trans h.output,Nat.le_trans h.size k.size,fun g hg hn=>(k.blk g (Nat.lt_of_lt_of_le hg h.size) (Nat.ne_of_lt (Nat.lt_of_lt_of_le hg hc))).trans (h.blk g hg hn)⟩
def Ec9(s:Sv)(bl:List UInt8):Prop:=okR bl∧U0 s.e (pdF bl).k (pdF bl).d (pdF bl).e0 (pdF bl).e1 (pdF bl).g=false∧Aj2 s (pdF bl)=true
def Bs9(n4:Nat)(w:World)(s:Sv)(bl:List UInt8)(x:Ending)(w':World):Prop:=
 Kp n4 w w'∧((∃S E,x=.panicked [{v:=.iface 54 (.int .i64 E),recovered:=false}]∧A5 51 w' n4 (A6 S)∧V5 s bl=(Aj1 S E,E)∧E≠0)∨
  (∃a1 c1 a2 c2,x=.returned (.agg (I1 (pdF bl).k (pdF bl).d (pdF bl).e0 (pdF bl).e1 (pdF bl).g (pdF bl).q (.slice a1 (pdF bl).b.length c1) (.slice a2 (pdF bl).t.length c2)).toArray)∧A5 51 w' n4 (A6 (X6 s (pdF bl)))∧Ec9 s bl∧
    ((pdF bl).b.length≤c1∧c1≤maxLen)∧((pdF bl).t.length≤c2∧c2≤maxLen)∧A4 w' a1 (pdF bl).b∧A4 w' a2 (pdF bl).t))
theorem Ag1{n4:Nat}{w w':World}{s S:Sv}{bl:List UInt8}{E:Int}(hk:Kp n4 w w')(hB:A5 51 w' n4 (A6 S))(hT:V5 s bl=(Aj1 S E,E))(hE:E≠0):
 Bs9 n4 w s bl (.panicked [{v:=.iface 54 (.int .i64 E),recovered:=false}]) w':=⟨hk,.inl ⟨S,E,rfl,hB,hT,hE⟩⟩
theorem Ch9{n4:Nat}{w w':World}{s:Sv}{bl:List UInt8}{p:Pd}(hp:pdF bl=p)(hk:Kp n4 w w')(hB:A5 51 w' n4 (A6 (X6 s p)))(h0:okR bl)(h1:U0 s.e p.k p.d p.e0 p.e1 p.g=false)(h2:Aj2 s p=true){a1 a2:Option Addr}{c1 c2:Nat}
 (k1:p.b.length≤c1∧c1≤maxLen) (k2:p.t.length≤c2∧c2≤maxLen) (hb1:A4 w' a1 p.b) (hb2:A4 w' a2 p.t):
 Bs9 n4 w s bl (.returned (.agg (I1 p.k p.d p.e0 p.e1 p.g p.q (.slice a1 p.b.length c1) (.slice a2 p.t.length c2)).toArray)) w':=by
 subst hp;exact⟨hk,.inr ⟨a1,c1,a2,c2,rfl,hB,⟨h0,h1,h2⟩,k1,k2,hb1,hb2⟩⟩
theorem Bv8(n4:Nat)(s:Sv)(bda:Option Addr)(bdc:Nat)(bl:List UInt8)(w:World)(B4:A5 51 w n4 (A6 s))(h:J1 (fun _=>True) w s)(hr:Ad6 s.e=true)(hes:s.es.length≤1000)(hc:bl.length≤bdc)(hcm:bdc≤maxLen)(hbl:A4 w bda bl)(hks:I9 w):
 Calls Tryz.prog 61 #[.pointer (some ⟨n4,0,none⟩),.slice bda bl.length bdc] w (Bs9 n4 w s bl):=by
 obtain⟨p,hp⟩:∃p,pdF bl=p:=⟨_,rfl⟩;have HP:=Lh hp;have f:=At4 hr;have HW:=Lh (Cu6 s bl p hp);have SZ:=Lh (show ∀S:Sv,(Tryz.prog.info? 51).map (·.size)=some (A6 S).length from fun S=>by rw[D7];exact M8);have SV:=Lh Ab1;have SP:=Lh Af6;have HRd:=Lh (fun(W:World) (hb:Below w.heap.size w W)=>Ch2 bda bdc bl hc hcm W (hbl.mono hb));have HBs:=Lh (fun(W:World) (hb:Below w.heap.size w W)=>(Ax7 s.e.k.a s.e.k.c s.e.k.l (by have:=f.k;omega) W (h.e.k.b.mono hb) (hks.mono hb)));have HIn:=Lh (fun(hok:okR bl) (W:World) (a1 t1:Option Addr) (c1 m tc:Nat) (hb1:A4 W a1 p.b)=>(show Calls Tryz.prog 122 #[Bh1 p.k p.d p.e0 p.e1 p.g p.q (.slice a1 p.b.length c1) (.slice t1 m tc)] W (Ax1 W (inT p)) from by
  have hm:=hok.2.may;have:Ah5 p.k p.d p.e0 p.e1 p.g p.q p.b.length:=by subst hp;exact hm
  exact Bn3 p.k p.d p.e0 p.e1 p.g p.q a1 t1 c1 m tc p.b this W hb1))
 have HCk:=Lh (fun(hok:okR bl) (W:World) (hb:Below w.heap.size w W) (ka ia ta:Option Addr) (kn kc ic tc:Nat) (key:List UInt8) (hkn:kn=key.length) (hkl:key.length≤32) (hkt:Ap1 s.e p=key) (hka:A4 W ka key) (hia:A4 W ia (inT p)) (hta:A4 W ta p.t)=>
  (show Calls Tryz.prog 134 #[.agg #[.bool s.i,.slice s.ta s.es.length s.tc,.bool s.f],.slice ka kn kc,.slice ia (inT p).length ic,.slice ta p.t.length tc] W (Cr1 W s.i (Bh6 s.f s.es (Ap1 s.e p) (inT p) p.t) s.ta s.es.length s.tc (Aj2 s p)) from by
  subst hkn;have hx:Bn9 s.i s.es (Ap1 s.e p) (inT p) p.t=Aj2 s p:=rfl;rw[←hx,hkt];exact Dl5 s.i s.f s.ta ka ia ta s.tc kc ic tc s.es key (inT p) p.t W hes (h.p.ents.mono hb) (by omega) (by
   have hm:=hok.2.may;have:Ah5 p.k p.d p.e0 p.e1 p.g p.q p.b.length:=by subst hp;exact hm
   have h1:=this.n2;unfold inT;rw[Bc1];omega) (by subst hp;show(Ad8 bl).length≤100000;rw[Bn4 bl (by have:=hok.1.1;omega)];decide) hka hia hta (hks.mono hb)))
 have HKf:=Lh (fun(W:World) (hb:Below w.heap.size w W)=>Ch1 (h.e.mono hb) p.g);have HKl:=Lh (Do7 h.e f.ring p.g);have HKd:=Lh (fun(hok:okR bl)=>show p.k=1∨p.k=2 from by
  have hm:=hok.2.may;subst hp;have h1:=hm.k1;have h2:=hm.k2;show F8 bl 0 1=1∨F8 bl 0 1=2;omega)
 unfold Ax1 at HIn;unfold Ak3 at HBs;unfold Cu1 at HRd;rw[hp] at HRd;have N4lt:=Lh B4.blk.lt;have B4:=Lh B4;clear h hr hes hc hcm hbl f hks;go_enter Tryz.func61,Tryz.ntmps61
 go_upto_region 1 with(fail)
 generalize hW:World.alloc w _=W;have B3:=Lh (show A5 65 W w.heap.size F7 by rw[←hW];exact A5.new w F7 _);have G:=Lh (show Below w.heap.size w W by rw[←hW];exact ba w _);replace B4:=Lh (show A5 51 W n4 (A6 s) by rw[←hW];exact B4.out.up (ba w _));clear hW;have N3_4:=Lh (show w.heap.size≠n4 from Nat.ne_of_gt N4lt.out);generalize hn3:w.heap.size=n3 at B3 N3_4 ⊢;have L3:=Lh (show w.heap.size≤n3 by omega);clear hn3;go_wp2_with fail
 refine(HRd.out _ G.out).mono ?_;rintro x w1 (⟨hk,a1,c1,a2,c2,rfl,l1,l2,q1,q2,hb⟩ | ⟨hk,why,hw,rfl,hb⟩)
 case inr=>
  have HX:=Lh (HW.out.form hk);replace B3:=Lh (B3.out.up hb);replace B4:=Lh (B4.out.up hb);replace G:=Lh (bt G.out hb);clear hb hk HW HRd HBs HIn HCk HKf HKl HKd;go_upto_region 2 with(refine D9 65 _ _ rfl ?_;refine G8 65 _ _ _ (cs:=F7) rfl rfl rfl rfl (A5.new _ _ _) SV.out rfl rfl ?_;intro w2 hBn hK;have B5:=Lh hBn;have N3_5:=Lh (Nat.ne_of_lt B3.out.blk.lt);have N4_5:=Lh (Nat.ne_of_lt B4.out.blk.lt);replace B3:=Lh ((B3.out.up (ba _ _)).kp hK N3_5.out);replace B4:=Lh ((B4.out.up (ba _ _)).kp hK N4_5.out);have L5:=Lh G.out.size;replace G:=Lh (hK.below (bt G.out (ba _ _)) G.out.size);clear hBn hK)
  go_wp2_with fail
  refine(Ac2 2 _).mono ?_;rintro x w3 ⟨rfl,rfl⟩
  (try go_wp2_with fail)
  exact⟨rfl,Ag1 (Kp.of G.out) B4.out HX.out (by decide)⟩
 have OK:=Lh hk;have C1:=Lh l1;have C2:=Lh l2;have QB:=Lh q1;have QT:=Lh q2;replace B3:=Lh (B3.out.up hb);replace B4:=Lh (B4.out.up hb);replace G:=Lh (bt G.out hb);clear hb hk l1 l2 q1 q2 HRd;go_upto_region 2 with(refine D9 65 _ _ rfl ?_;refine G8 65 _ _ _ (cs:=I1 p.k p.d p.e0 p.e1 p.g p.q (.slice a1 p.b.length c1) (.slice a2 p.t.length c2)) rfl rfl rfl rfl (A5.new _ _ _) SV.out rfl rfl ?_;intro w2 hBn hK;have B5:=Lh hBn;have N3_5:=Lh (Nat.ne_of_lt B3.out.blk.lt);have N4_5:=Lh (Nat.ne_of_lt B4.out.blk.lt);replace B3:=Lh ((B3.out.up (ba _ _)).kp hK N3_5.out);replace B4:=Lh ((B4.out.up (ba _ _)).kp hK N4_5.out);replace QB:=Lh (A4.up8 QB.out (hK.below (ba _ _) (Nat.le_refl _)));replace QT:=Lh (A4.up8 QT.out (hK.below (ba _ _) (Nat.le_refl _)));have L5:=Lh G.out.size;replace G:=Lh (hK.below (bt G.out (ba _ _)) G.out.size);clear hBn hK)
 generalize w1.heap.size=n5 at B5 N3_5 N4_5 ⊢;clear L5;go_wp2_with fail
 refine(Aq1 2 _).mono ?_;rintro x w3 ⟨rfl,rfl⟩;go_upto_region 3 with(fail)
 rcases hs1:((p.d:Int)==wrap64 (1-s.e.id)) with _ | _
 case false=>
  have hst:U0 s.e p.k p.d p.e0 p.e1 p.g=true:=by unfold U0;rw[bne,hs1];rfl
  have HX:=Lh (HW.out.stray OK.out hst);refine Ea7 (s:=s) (k:=p.k) (d:=p.d) (e0:=p.e0) (e1:=p.e1) (g:=p.g) (q:=p.q) (Nat.le_refl _) rfl rfl (fun _ _ d _ _ h=>by cases d<;>exact h) B4.out B5.out hs1 ?_;intro a' w' hd hb;exact⟨hd,Ag1 (Kp.of (bt G.out hb)) (B4.out.up hb) HX.out (by decide)⟩
 rcases hs2:(s.e.ph != 7) with _ | _
 case false=>
  have h7:(s.e.ph==7)=true:=by simpa [bne] using hs2
  have hst:U0 s.e p.k p.d p.e0 p.e1 p.g=true:=by unfold U0;rw[bne,hs1,h7];rfl
  have HX:=Lh (HW.out.stray OK.out hst);refine Ea8 (s:=s) (k:=p.k) (d:=p.d) (e0:=p.e0) (e1:=p.e1) (g:=p.g) (q:=p.q) (Nat.le_refl _) rfl rfl (fun _ _ d _ _ h=>by cases d<;>exact h) B4.out B5.out hs1 hs2 ?_;intro a' w' hd hb;exact⟨hd,Ag1 (Kp.of (bt G.out hb)) (B4.out.up hb) HX.out (by decide)⟩
 rcases hs3:(s.e.ph != 8) with _ | _
 case false=>
  have h7:(s.e.ph==7)=false:=by simpa [bne] using hs2
  have h8:(s.e.ph==8)=true:=by simpa [bne] using hs3
  have hst:U0 s.e p.k p.d p.e0 p.e1 p.g=true:=by unfold U0;rw[bne,hs1,h7,h8];rfl
  have HX:=Lh (HW.out.stray OK.out hst);refine Ea9 (s:=s) (k:=p.k) (d:=p.d) (e0:=p.e0) (e1:=p.e1) (g:=p.g) (q:=p.q) (Nat.le_refl _) rfl rfl (fun _ _ d _ _ h=>by cases d<;>exact h) B4.out B5.out hs1 hs2 hs3 ?_;intro a' w' hd hb;exact⟨hd,Ag1 (Kp.of (bt G.out hb)) (B4.out.up hb) HX.out (by decide)⟩
 have HS:=Lh (show U0 s.e p.k p.d p.e0 p.e1 p.g=(bif (p.k:Int)==1 then false else(!V4 s.e.ph) || ((!(J2 s.e.r p.g).2) || (((p.e0:Int) != (C7 s.e).1) || ((p.e1:Int) != (C7 s.e).2)))) from by
  have h7:(s.e.ph==7)=false:=by simpa [bne] using hs2
  have h8:(s.e.ph==8)=false:=by simpa [bne] using hs3
  unfold U0;rw[bne,hs1,h7,h8];rfl)
 refine Eb0 (s:=s) (k:=p.k) (d:=p.d) (e0:=p.e0) (e1:=p.e1) (g:=p.g) (q:=p.q) (Nat.le_refl _) rfl rfl (fun _ _ d _ _ h=>by cases d<;>exact h) B4.out B5.out hs1 hs2 hs3 ?_;intro x22 x23 x24 x25 x26 x27 x28 x29 x30 x31 x32 x33 x34 x35 x36 x37 x38 x39 x40 x41 x42 x43 x44 x45 x46 x47 w4 hb;clear hs1 hs2 hs3;replace B3:=Lh (B3.out.up hb);replace B4:=Lh (B4.out.up hb);replace B5:=Lh (B5.out.up hb);replace QB:=Lh (A4.up8 QB.out hb);replace QT:=Lh (A4.up8 QT.out hb);replace G:=Lh (bt G.out hb);clear hb;simp only[B9,Act.put,List.setIfInBounds_toArray,List.set_cons_zero,List.set_cons_succ];have gk:=B4.out.blk.siteIn.k;go_wp2_with fail
 refine(HBs.out _ G.out).mono ?_;rintro x w5 ⟨kb,kbc,rfl,hkc,hkb,hb⟩;have QK:=Lh hkb;replace B3:=Lh (B3.out.up hb);replace B4:=Lh (B4.out.up hb);replace B5:=Lh (B5.out.up hb);replace QB:=Lh (A4.up8 QB.out hb);replace QT:=Lh (A4.up8 QT.out hb);replace G:=Lh (bt G.out hb);clear hb hkc hkb gk HBs;obtain⟨v0,v1,v2,v3,v4,v5,v6,v7⟩:=Q0 B5.out.blk;clear v1 v2 v3 v4 v5 v6 v7;rcases HKd.out OK.out with hk | hk
 ·have hk1:((p.k:Int)==1)=true:=by rw[hk];rfl
  have hk2:((p.k:Int)==2)=false:=by rw[hk];rfl
  clear hk;have KT:=Lh (show Ap1 s.e p=Am4 s.e.k.l by unfold Ap1;rw[hk2];rfl);have ST:=Lh (show U0 s.e p.k p.d p.e0 p.e1 p.g=false by rw[HS.out,hk1];rfl);clear HS HKf HKl hk1;go_wp2_with (refine I2 65 (.tmp 5) rfl ?_;refine A8 65 (.tmp 5) n5 rfl rfl rfl B5.out.blk Tryz.underlying65 rfl SV.out ?_)
  refine(HIn.out OK.out _ _ _ _ _ _ QB.out).mono ?_;rintro x w8 ⟨ia,ic,rfl,hO,hb⟩;have QI:=Lh (show A4 w8 ia (inT p) from(At0 hO.own).at);replace QK:=Lh (A4.up8 QK.out hb);replace B3:=Lh (B3.out.up hb);replace B4:=Lh (B4.out.up hb);replace B5:=Lh (B5.out.up hb);replace QB:=Lh (A4.up8 QB.out hb);replace QT:=Lh (A4.up8 QT.out hb);replace G:=Lh (bt G.out hb);clear hb hO HIn hk2 v0;go_upto_region 10 with(fail)
  refine Ch8 (s:=s) (k:=p.k) (d:=p.d) (e0:=p.e0) (e1:=p.e1) (g:=p.g) (q:=p.q) (cf:=Bh6 s.f s.es (Ap1 s.e p) (inT p) p.t) (yb:=Aj2 s p) (Nat.le_refl _) rfl rfl rfl rfl (fun _ _ d _ _ h=>by cases d<;>exact h) B4.out B5.out (fun u hu=>HCk.out OK.out u (bt G.out hu) _ _ _ _ _ _ _ (Am4 s.e.k.l) (Av0 _).symm (by rw[Av0];decide) KT.out (A4.up8 QK.out hu) (A4.up8 QI.out hu) (A4.up8 QT.out hu)) ?_;intro x95 x96 x97 x98 x99 x100 x101 x102 x103 x94 x104 x105 n12 w10 hB12 hL12 hb;have B12:=Lh hB12;clear hB12 hL12 HCk QI KT QK;replace B3:=Lh (B3.out.up hb);replace B4:=Lh (B4.out.up hb);replace B5:=Lh (B5.out.up hb);replace QB:=Lh (A4.up8 QB.out hb);replace QT:=Lh (A4.up8 QT.out hb);replace G:=Lh (bt G.out hb);clear hb;simp only[B9,Act.put,List.setIfInBounds_toArray,List.set_cons_zero,List.set_cons_succ];have L4:=Lh (show w.heap.size≤w.heap.size from Nat.le_refl _);go_upto_region 12 with(first
  | (refine I2 49 (.tmp 12) rfl ?_;refine A8 49 (.tmp 12) n12 rfl rfl rfl B12.out.blk Tryz.underlying49 rfl SP.out ?_)
  | (refine D9 49 (.tmp 109) (.tmp 107) rfl ?_;have hq:=B4.out;refine Y3 49 (.tmp 109) (.tmp 107) n4 70 (cs:=[.bool s.i,.slice s.ta s.es.length s.tc,.bool (Bh6 s.f s.es (Ap1 s.e p) (inT p) p.t)]) rfl rfl rfl rfl B4.out (by rw[D7];exact(by decide:70+3≤73)) SP.out rfl (Bm2 s s.i _ s.ta s.tc s.es) ?_;intro w11 hB hK;replace B3:=Lh (B3.out.kp hK N3_4.out);replace B5:=Lh (B5.out.kp hK N4_5.out.symm);replace QB:=Lh (A4.kp8 QB.out hq.blk (Q4 _) hK);replace QT:=Lh (A4.kp8 QT.out hq.blk (Q4 _) hK);replace B4:=Lh hB;have K4:=Lh ((Kp.of G.out).tr hK);clear hB hK hq))
  replace B4:=Lh (show A5 51 _ n4 (A6 (X6 s p)) from B4.out);clear B12 L4 G;go_wp2_with fail
  rcases hy:Aj2 s p with _ | _
  ·have HX:=Lh (HW.out.tag OK.out ST.out hy);refine(Ac2 5 _).mono ?_;rintro x w13 ⟨rfl,rfl⟩
   (try go_wp2_with fail)
   exact⟨rfl,Ag1 K4.out B4.out HX.out (by decide)⟩
  have HY:=Lh hy;clear hy;refine(Aq1 5 _).mono ?_;rintro x w13 ⟨rfl,rfl⟩;go_wp2_with (first
  | (refine I2 65 (.tmp 5) rfl ?_;refine A8 65 (.tmp 5) n5 rfl rfl rfl B5.out.blk Tryz.underlying65 rfl SV.out ?_)
  | (refine D9 65 (.tmp 4) _ rfl ?_;have hq:=B3.out;refine G8 65 (.tmp 4) _ n3 (cs:=I1 p.k p.d p.e0 p.e1 p.g p.q (.slice a1 p.b.length c1) (.slice a2 p.t.length c2)) rfl rfl rfl rfl B3.out SV.out rfl rfl ?_;intro w14 hB hK;replace B4:=Lh (B4.out.kp hK N3_4.out.symm);replace B5:=Lh (B5.out.kp hK N3_5.out.symm);replace QB:=Lh (A4.kp8 QB.out hq.blk (by rfl) hK);replace QT:=Lh (A4.kp8 QT.out hq.blk (by rfl) hK);replace B3:=Lh hB;replace K4:=Lh (K4.out.own hK L3.out);clear hB hK hq))
  (try simp only[Act.put,List.setIfInBounds_toArray,List.set_cons_zero,List.set_cons_succ])
  refine bodyPost_ret (K5 rfl _ _ n3 (cs:=I1 p.k p.d p.e0 p.e1 p.g p.q (.slice a1 p.b.length c1) (.slice a2 p.t.length c2)) rfl B3.out.blk Tryz.underlying65 rfl SV.out) rfl ?_;exact Ch9 HP.out K4.out B4.out OK.out ST.out HY.out C1.out C2.out QB.out QT.out
 ·have hk1:((p.k:Int)==1)=false:=by rw[hk];rfl
  have hk2:((p.k:Int)==2)=true:=by rw[hk];rfl
  clear hk;have KT:=Lh (show Ap1 s.e p=Bf2 s.e p.g by unfold Ap1;rw[hk2];rfl);clear QK;go_upto_region 6 with(fail)
  clear hk2 v0;refine Eh3 (s:=s) (k:=p.k) (d:=p.d) (e0:=p.e0) (e1:=p.e1) (g:=p.g) (q:=p.q) (Nat.le_refl _) rfl rfl (fun _ _ d _ _ h=>by cases d<;>exact h) B4.out B5.out ?_;intro x58 x59 x60 x61 x62 x63 x64 x65 x57 x66 x67 w6 hb;replace B3:=Lh (B3.out.up hb);replace B4:=Lh (B4.out.up hb);replace B5:=Lh (B5.out.up hb);replace QB:=Lh (A4.up8 QB.out hb);replace QT:=Lh (A4.up8 QT.out hb);replace G:=Lh (bt G.out hb);clear hb;simp only[B9,Act.put,List.setIfInBounds_toArray,List.set_cons_zero,List.set_cons_succ];go_upto_region 7 with(fail)
  rcases hl:V4 s.e.ph with _ | _
  case false=>
   have hst:U0 s.e p.k p.d p.e0 p.e1 p.g=true:=by rw[HS.out,hk1,hl];rfl
   have HX:=Lh (HW.out.stray OK.out hst);refine Eb1 (s:=s) (k:=p.k) (d:=p.d) (e0:=p.e0) (e1:=p.e1) (g:=p.g) (q:=p.q) (Nat.le_refl _) rfl rfl (fun _ _ d _ _ h=>by cases d<;>exact h) B4.out B5.out (fun W=>by have:=Ae6 s.e.ph W;rw[hl] at this;exact this) ?_;intro a' w' hd hb;exact⟨hd,Ag1 (Kp.of (bt G.out hb)) (B4.out.up hb) HX.out (by decide)⟩
  rcases hpr:(((p.e0:Int)==(C7 s.e).1)&&((p.e1:Int)==(C7 s.e).2)) with _ | _
  case false=>
   have hst:U0 s.e p.k p.d p.e0 p.e1 p.g=true:=by
    rw[HS.out,hk1,hl,bne,bne];generalize ((p.e0:Int)==(C7 s.e).1)=x at hpr ⊢;generalize ((p.e1:Int)==(C7 s.e).2)=y at hpr ⊢
    revert hpr;cases x<;>cases y<;>simp
   have HX:=Lh (HW.out.stray OK.out hst);refine Eb2 (s:=s) (k:=p.k) (d:=p.d) (e0:=p.e0) (e1:=p.e1) (g:=p.g) (q:=p.q) (Nat.le_refl _) rfl rfl (fun _ _ d _ _ h=>by cases d<;>exact h) B4.out B5.out (fun W=>by have:=Ae6 s.e.ph W;rw[hl] at this;exact this) hpr ?_;intro a' w' hd hb;exact⟨hd,Ag1 (Kp.of (bt G.out hb)) (B4.out.up hb) HX.out (by decide)⟩
  rcases hf:(J2 s.e.r p.g).2 with _ | _
  case false=>
   have hst:U0 s.e p.k p.d p.e0 p.e1 p.g=true:=by rw[HS.out,hk1,hl,hf];rfl
   have HX:=Lh (HW.out.stray OK.out hst);refine Eb3 (s:=s) (k:=p.k) (d:=p.d) (e0:=p.e0) (e1:=p.e1) (g:=p.g) (q:=p.q) (Nat.le_refl _) rfl rfl rfl (fun _ _ d _ _ h=>by cases d<;>exact h) B4.out B5.out (fun W=>by have:=Ae6 s.e.ph W;rw[hl] at this;exact this) hpr ?_;intro a' w' hd hb;exact⟨hd,Ag1 (Kp.of (bt G.out hb)) (B4.out.up hb) HX.out (by decide)⟩
  have ST:=Lh (show U0 s.e p.k p.d p.e0 p.e1 p.g=false from by
   rw[HS.out,hk1,hl,hf,bne,bne];generalize ((p.e0:Int)==(C7 s.e).1)=x at hpr ⊢;generalize ((p.e1:Int)==(C7 s.e).2)=y at hpr ⊢
   revert hpr;cases x<;>cases y<;>simp)
  refine Eb4 (s:=s) (k:=p.k) (d:=p.d) (e0:=p.e0) (e1:=p.e1) (g:=p.g) (q:=p.q) (Nat.le_refl _) rfl rfl rfl (fun _ _ d _ _ h=>by cases d<;>exact h) B4.out B5.out (fun W=>by have:=Ae6 s.e.ph W;rw[hl] at this;exact this) hpr ?_;intro x68 x69 x70 x71 x72 x73 x74 x75 x76 x77 x78 x79 x80 x81 x82 x83 x84 x85 x86 x87 w7 hb;clear hl hpr hf HS hk1;replace B3:=Lh (B3.out.up hb);replace B4:=Lh (B4.out.up hb);replace B5:=Lh (B5.out.up hb);replace QB:=Lh (A4.up8 QB.out hb);replace QT:=Lh (A4.up8 QT.out hb);replace G:=Lh (bt G.out hb);clear hb;simp only[B9,Act.put,List.setIfInBounds_toArray,List.set_cons_zero,List.set_cons_succ];go_wp2_with (refine I2 65 (.tmp 5) rfl ?_;refine A8 65 (.tmp 5) n5 rfl rfl rfl B5.out.blk Tryz.underlying65 rfl SV.out ?_)
  refine(HIn.out OK.out _ _ _ _ _ _ QB.out).mono ?_;rintro x w8 ⟨ia,ic,rfl,hO,hb⟩;have QI:=Lh (show A4 w8 ia (inT p) from(At0 hO.own).at);replace B3:=Lh (B3.out.up hb);replace B4:=Lh (B4.out.up hb);replace B5:=Lh (B5.out.up hb);replace QB:=Lh (A4.up8 QB.out hb);replace QT:=Lh (A4.up8 QT.out hb);replace G:=Lh (bt G.out hb);clear hb hO HIn;go_upto_region 10 with(fail)
  refine Ch8 (s:=s) (k:=p.k) (d:=p.d) (e0:=p.e0) (e1:=p.e1) (g:=p.g) (q:=p.q) (cf:=Bh6 s.f s.es (Ap1 s.e p) (inT p) p.t) (yb:=Aj2 s p) (Nat.le_refl _) rfl rfl rfl rfl (fun _ _ d _ _ h=>by cases d<;>exact h) B4.out B5.out (fun u hu=>HCk.out OK.out u (bt G.out hu) _ _ _ _ _ _ _ (Bf2 s.e p.g) (HKf.out u (bt G.out hu)).2.1 HKl.out KT.out (HKf.out u (bt G.out hu)).1 (A4.up8 QI.out hu) (A4.up8 QT.out hu)) ?_;intro x95 x96 x97 x98 x99 x100 x101 x102 x103 x94 x104 x105 n12 w10 hB12 hL12 hb;have B12:=Lh hB12;clear hB12 hL12 HCk QI KT HKf HKl;replace B3:=Lh (B3.out.up hb);replace B4:=Lh (B4.out.up hb);replace B5:=Lh (B5.out.up hb);replace QB:=Lh (A4.up8 QB.out hb);replace QT:=Lh (A4.up8 QT.out hb);replace G:=Lh (bt G.out hb);clear hb;simp only[B9,Act.put,List.setIfInBounds_toArray,List.set_cons_zero,List.set_cons_succ];have L4:=Lh (show w.heap.size≤w.heap.size from Nat.le_refl _);go_upto_region 12 with(first
  | (refine I2 49 (.tmp 12) rfl ?_;refine A8 49 (.tmp 12) n12 rfl rfl rfl B12.out.blk Tryz.underlying49 rfl SP.out ?_)
  | (refine D9 49 (.tmp 109) (.tmp 107) rfl ?_;have hq:=B4.out;refine Y3 49 (.tmp 109) (.tmp 107) n4 70 (cs:=[.bool s.i,.slice s.ta s.es.length s.tc,.bool (Bh6 s.f s.es (Ap1 s.e p) (inT p) p.t)]) rfl rfl rfl rfl B4.out (by rw[D7];exact(by decide:70+3≤73)) SP.out rfl (Bm2 s s.i _ s.ta s.tc s.es) ?_;intro w11 hB hK;replace B3:=Lh (B3.out.kp hK N3_4.out);replace B5:=Lh (B5.out.kp hK N4_5.out.symm);replace QB:=Lh (A4.kp8 QB.out hq.blk (Q4 _) hK);replace QT:=Lh (A4.kp8 QT.out hq.blk (Q4 _) hK);replace B4:=Lh hB;have K4:=Lh ((Kp.of G.out).tr hK);clear hB hK hq))
  replace B4:=Lh (show A5 51 _ n4 (A6 (X6 s p)) from B4.out);clear B12 L4 G;go_wp2_with fail
  rcases hy:Aj2 s p with _ | _
  ·have HX:=Lh (HW.out.tag OK.out ST.out hy);refine(Ac2 5 _).mono ?_;rintro x w13 ⟨rfl,rfl⟩
   (try go_wp2_with fail)
   exact⟨rfl,Ag1 K4.out B4.out HX.out (by decide)⟩
  have HY:=Lh hy;clear hy;refine(Aq1 5 _).mono ?_;rintro x w13 ⟨rfl,rfl⟩;go_wp2_with (first
  | (refine I2 65 (.tmp 5) rfl ?_;refine A8 65 (.tmp 5) n5 rfl rfl rfl B5.out.blk Tryz.underlying65 rfl SV.out ?_)
  | (refine D9 65 (.tmp 4) _ rfl ?_;have hq:=B3.out;refine G8 65 (.tmp 4) _ n3 (cs:=I1 p.k p.d p.e0 p.e1 p.g p.q (.slice a1 p.b.length c1) (.slice a2 p.t.length c2)) rfl rfl rfl rfl B3.out SV.out rfl rfl ?_;intro w14 hB hK;replace B4:=Lh (B4.out.kp hK N3_4.out.symm);replace B5:=Lh (B5.out.kp hK N3_5.out.symm);replace QB:=Lh (A4.kp8 QB.out hq.blk (by rfl) hK);replace QT:=Lh (A4.kp8 QT.out hq.blk (by rfl) hK);replace B3:=Lh hB;replace K4:=Lh (K4.out.own hK L3.out);clear hB hK hq))
  (try simp only[Act.put,List.setIfInBounds_toArray,List.set_cons_zero,List.set_cons_succ])
  refine bodyPost_ret (K5 rfl _ _ n3 (cs:=I1 p.k p.d p.e0 p.e1 p.g p.q (.slice a1 p.b.length c1) (.slice a2 p.t.length c2)) rfl B3.out.blk Tryz.underlying65 rfl SV.out) rfl ?_;exact Ch9 HP.out K4.out B4.out OK.out ST.out HY.out C1.out C2.out QB.out QT.out
theorem Ad0.cell{w:World}{a:Option Addr}{l:List (Int×List UInt8)}(h:Ad0 w a l)(h0:0<l.length):
 ∃g off,a=some ⟨g,off,none⟩∧g<w.heap.size∧∀j,j<l.length→∃p c,w.cell? ⟨g,off+j*2,none⟩=some (.int .i64 (l.getD j (0,[])).1)∧w.cell? ⟨g,off+j*2+1,none⟩=some (.slice p (l.getD j (0,[])).2.length c)∧
  (l.getD j (0,[])).2.length≤c∧c≤maxLen∧A4 w p (l.getD j (0,[])).2:=by
 obtain⟨vs,h1,h2,h3⟩:=h;rcases h2 with h | ⟨g,off,rfl,hlt,hc⟩
 ·rw[h,List.length_nil] at h1;omega
 refine⟨g,off,rfl,hlt,fun j hj=>?_⟩;obtain⟨e0,⟨p1,c1,e1,l1,m1,b1⟩⟩:=h3 j hj;exact⟨p1,c1,by rw[hc _ (by omega),e0],by rw[Nat.add_assoc,hc _ (by omega),e1],l1,m1,b1⟩
theorem Ah8.cell{w:World}{a:Option Addr}{l:List Gt}(h:Ah8 w a l)(h0:0<l.length):
 ∃g off,a=some ⟨g,off,none⟩∧g<w.heap.size∧∀j,j<l.length→∃p c,w.cell? ⟨g,off+j*5,none⟩=some (.int .i64 (l.getD j default).kind)∧w.cell? ⟨g,off+j*5+1,none⟩=some (.int .i64 (l.getD j default).e0)∧w.cell? ⟨g,off+j*5+2,none⟩=some (.int .i64 (l.getD j default).e1)∧w.cell? ⟨g,off+j*5+3,none⟩=some (.int .i64 (l.getD j default).seq)∧w.cell? ⟨g,off+j*5+4,none⟩=some (.slice p (l.getD j default).b.length c)∧
  (l.getD j default).b.length≤c∧c≤maxLen∧A4 w p (l.getD j default).b:=by
 obtain⟨vs,h1,h2,h3⟩:=h;rcases h2 with h | ⟨g,off,rfl,hlt,hc⟩
 ·rw[h,List.length_nil] at h1;omega
 refine⟨g,off,rfl,hlt,fun j hj=>?_⟩;obtain⟨e0,e1,e2,e3,⟨p1,c1,e4,l1,m1,b1⟩⟩:=h3 j hj;exact⟨p1,c1,by rw[hc _ (by omega),e0],by rw[Nat.add_assoc,hc _ (by omega),e1],by rw[Nat.add_assoc,hc _ (by omega),e2],by rw[Nat.add_assoc,hc _ (by omega),e3],by rw[Nat.add_assoc,hc _ (by omega),e4],l1,m1,b1⟩
theorem Bf6{α:Type}{z:α}{l m:List α}(hl:l.length=m.length)(h:∀j,j<l.length→l.getD j z=m.getD j z):l=m:=by
 apply List.ext_getElem hl;intro j h1 h2;have:=h j h1
 simpa [List.getD,h1,h2] using this
def Ap2(x y:Int×List UInt8):Bool:=(x.1==y.1)&&(x.2==y.2)
theorem Cl3{x y:Int×List UInt8}:Ap2 x y=true↔x=y:=by
 unfold Ap2;rw[Bool.and_eq_true,beq_iff_eq,beq_iff_eq];exact⟨fun h=>Prod.ext h.1 h.2,fun h=>by rw[h];exact⟨rfl,rfl⟩⟩
def At5(x y:Gt):Bool:=(x.kind==y.kind)&&((x.e0==y.e0)&&((x.e1==y.e1)&&((x.seq==y.seq)&&(x.b==y.b))))
theorem Cv0{x y:Gt}:At5 x y=true↔x=y:=by
 unfold At5;cases x;cases y
 simp only[Bool.and_eq_true,beq_iff_eq,Gt.mk.injEq]
theorem Es4{w W:World}{a b c d:List Value}{A B C D:TypeId}(h:(((w.alloc (.cells a.toArray A)).alloc (.cells b.toArray B)).alloc (.cells c.toArray C)).alloc (.cells d.toArray D)=W):A5 A W w.heap.size a∧A5 B W (w.heap.size+1) b∧A5 C W (w.heap.size+1+1) c∧A5 D W (w.heap.size+1+1+1) d∧Below w.heap.size w W:=by
 obtain⟨h1,h2,h3,hb⟩:=Cs8 (rfl:((w.alloc (.cells a.toArray A)).alloc (.cells b.toArray B)).alloc (.cells c.toArray C)=_);subst h;refine⟨h1.up (ba _ _),h2.up (ba _ _),h3.up (ba _ _),?_,bta hb _⟩;have:=A5.new (((w.alloc (.cells a.toArray A)).alloc (.cells b.toArray B)).alloc (.cells c.toArray C)) d D
 rwa [I0,I0,I0] at this
theorem Bk8{P:Program}{c:Code}{Q:Exit→Act→World→Prop}{a:Act}{w:World}(h:c.wp P (fun e a w=>e=.normal∧Q .normal a w) a w):c.wp P Q a w:=
 Code.wp_mono (fun e a w h=>by obtain⟨rfl,h⟩:=h;exact h) h
theorem Cv1{s:Sv}{bl:List UInt8}{p:Pd}(hp:pdF bl=p)(h:Ec9 s bl):okR bl∧U0 s.e p.k p.d p.e0 p.e1 p.g=false∧Aj2 s p=true:=by
 subst hp;exact h
theorem Bi4(s:Sv)(bda:Option Addr)(bdc:Nat)(bl:List UInt8)(w:World)(h:J1 (fun _=>True) w s)(hr:Ad6 s.e=true)(hes:s.es.length≤1000)(hc:bl.length≤bdc)(hcm:bdc≤maxLen)(hbl:A4 w bda bl)(hks:I9 w):
 Calls Tryz.prog 19 #[.agg (A6 s).toArray,.slice bda bl.length bdc] w (Bf4 w s bl):=by
 obtain⟨p,hp⟩:∃p,pdF bl=p:=⟨_,rfl⟩;have HP:=Lh hp;have f:=At4 hr;have HW:=Lh (Cu6 s bl p hp);have SZ:=Lh (show ∀S:Sv,(Tryz.prog.info? 51).map (·.size)=some (A6 S).length from fun S=>by rw[D7];exact M8);have SV:=Lh Ab1;have SW:=Lh (show ∀t c,(Tryz.prog.info? 28).map (·.size)=some (C4 t c).length from fun t c=>by rw[D5];exact N6);have SR:=Lh Ac7;have HOp:=Lh (fun(n4:Nat) (W:World) (B4:A5 51 W n4 (A6 s)) (hb:Below w.heap.size w W)=>(show Calls Tryz.prog 61 #[.pointer (some ⟨n4,0,none⟩),.slice bda bl.length bdc] W (Bs9 n4 W s bl) from Bv8 n4 s bda bdc bl W B4 (h.mono hb) hr hes hc hcm (hbl.mono hb) (hks.mono hb)));have HMk:=Lh (fun W=>(Ea1 s.e.wt s.e.wb p.q f.win).1 W);have HTu:=Lh (fun W=>Dy9 s.e.r W);have HKd:=Lh (fun(hok:okR bl)=>show p.k=1∨p.k=2 from by
  have hm:=hok.2.may;subst hp;have h1:=hm.k1;have h2:=hm.k2;show F8 bl 0 1=1∨F8 bl 0 1=2;omega)
 have HYw:=Lh (fun hy=>Cv1 (s:=s) hp hy);unfold Bs9 at HOp;rw[hp] at HOp;have hmf:∀(fn:Fn) (first cap:Array Value) (w:World),(Instr.makeFunc fn first cap).run Tryz.prog w=.ok (.func fn first cap) w:=fun _ _ _ _=>rfl;clear h hr hes hc hcm hbl f hks
 go_enter_defers Tryz.func19,Tryz.ntmps19
 go_upto_region 1 with(fail)
 generalize hW:World.alloc (World.alloc (World.alloc (World.alloc w _) _) _) _=W;obtain⟨B2,B4,B5,B6,hb⟩:=Es4 (a:=A6 s) (b:=I5) (c:=F7) (d:=[.int .i64 0]) hW;clear hW;have B2:=Lh B2;have B4:=Lh B4;have B5:=Lh B5;have B6:=Lh B6;have G:=Lh hb;have N2_4:=Lh (show w.heap.size≠w.heap.size+1 by omega);have N4_5:=Lh (show w.heap.size+1≠w.heap.size+1+1 by omega);have N4_6:=Lh (show w.heap.size+1≠w.heap.size+1+1+1 by omega);have N5_6:=Lh (show w.heap.size+1+1≠w.heap.size+1+1+1 by omega);have L4:=Lh (show w.heap.size≤w.heap.size+1 by omega);have L5:=Lh (show w.heap.size≤w.heap.size+1+1 by omega);have L6:=Lh (show w.heap.size≤w.heap.size+1+1+1 by omega);clear hb;generalize w.heap.size+1+1+1=n6 at B6 N4_6 N5_6 L6 ⊢;generalize w.heap.size+1+1=n5 at B5 N4_5 N5_6 L5 ⊢;generalize w.heap.size+1=n4 at B4 N2_4 N4_5 N4_6 L4 ⊢;generalize w.heap.size=n2 at B2 N2_4 ⊢;go_wp2_with (first
  | (refine I2 51 (.tmp 2) rfl ?_;refine A8 51 (.tmp 2) n2 rfl rfl rfl B2.out.blk Tryz.underlying51 rfl (SZ.out _) ?_)
  | (refine D9 51 (.tmp 4) (.tmp 9) rfl ?_;have hq:=B4.out;refine G8 51 (.tmp 4) (.tmp 9) n4 rfl rfl rfl rfl B4.out (SZ.out _) (by rw[J6,D7]) (K9 _) ?_;intro w1 hB hK;replace B2:=Lh (B2.out.kp hK N2_4.out);replace B5:=Lh (B5.out.kp hK N4_5.out.symm);replace B6:=Lh (B6.out.kp hK N4_6.out.symm);replace B4:=Lh hB;replace G:=Lh (hK.below G.out L4.out);clear hB hK hq))
 clear B2 N2_4;refine(HOp.out n4 _ B4.out G.out).mono ?_;rintro x w2 ⟨hK,(⟨S,E,rfl,hB,hT,hE⟩ | ⟨a1,c1,a2,c2,rfl,hB,hY,l1,l2,q1,q2⟩)⟩
 case inl=>
  replace B4:=Lh hB;replace B5:=Lh (B5.out.kp hK N4_5.out.symm);replace B6:=Lh (B6.out.kp hK N4_6.out.symm);replace G:=Lh (hK.below G.out L4.out);have HT:=Lh hT;have HE:=Lh hE;clear hB hK hT hE HW HMk HTu HKd HYw HOp
  (try go_wp2_with fail)
  (try simp only[B9,Act.put,List.setIfInBounds_toArray,List.set_cons_zero,List.set_cons_succ])
  refine leaves_cons (f:=60) (args:=#[.pointer (some ⟨n4,0,none⟩),.pointer (some ⟨n5,0,none⟩),.pointer (some ⟨n6,0,none⟩)]) (by simp) (by simp[go_sem]) ?_;refine(Bg2 (S) (F7) n4 n5 n6 0 E [] w _ B4.out B5.out B6.out rfl N4_5.out N4_6.out N5_6.out L4.out L5.out L6.out G.out).mono ?_;rintro e u' w9 ⟨rfl,rfl,hB4,hB5,hB6,hG⟩;simp only[settle,List.dropWhile];exact⟨_,Ak0 rfl _ _ n4 n5 n6 rfl rfl rfl hB4.blk Tryz.underlying51 rfl (SZ.out _) hB5.blk Tryz.underlying65 rfl SV.out (hB6.blk.cell 0 (Nat.zero_lt_succ _)) Tryz.underlying54 rfl,By7 HT.out HE.out hG⟩
 obtain⟨hok,hst,hy⟩:=HYw.out hY;have OK:=Lh hok;have ST:=Lh hst;have YY:=Lh hy;have C1:=Lh l1;have C2:=Lh l2;have QB:=Lh q1;have QT:=Lh q2;replace B4:=Lh hB;replace B5:=Lh (B5.out.kp hK N4_5.out.symm);replace B6:=Lh (B6.out.kp hK N4_6.out.symm);replace G:=Lh (hK.below G.out L4.out);clear hB hK hY hok hst hy l1 l2 q1 q2 HOp HYw hmf;go_upto_region 4 with(refine D9 65 (.tmp 5) (.tmp 12) rfl ?_;have hq:=B5.out;refine G8 65 (.tmp 5) (.tmp 12) n5 (cs:=I1 p.k p.d p.e0 p.e1 p.g p.q (.slice a1 p.b.length c1) (.slice a2 p.t.length c2)) rfl rfl rfl rfl B5.out SV.out rfl rfl ?_;intro w3 hB hK;replace B4:=Lh (B4.out.kp hK N4_5.out);replace B6:=Lh (B6.out.kp hK N5_6.out.symm);replace QB:=Lh (A4.kp8 QB.out hq.blk (by rfl) hK);replace QT:=Lh (A4.kp8 QT.out hq.blk (by rfl) hK);replace B5:=Lh hB;replace G:=Lh (hK.below G.out L5.out);clear hB hK hq)
 obtain⟨v0,v1,v2,v3,v4,v5,v6,v7⟩:=Q0 B5.out.blk;clear v1 v2 v3 v4 v6 v7;rcases HKd.out OK.out with hk | hk
 ·have hk1:((p.k:Int)==1)=true:=by rw[hk];rfl
  have hk2:((p.k:Int) != 2)=true:=by rw[hk];rfl
  clear hk;have HX:=Lh (HW.out.setup OK.out ST.out YY.out hk1);clear HW HMk HTu HKd;go_upto_region 5 with(fail)
  clear hk1 hk2 v0 v5;refine Bk8 ?_;refine Cu2 (s:=X6 s p) (D:=I1 p.k p.d p.e0 p.e1 p.g p.q (.slice a1 p.b.length c1) (.slice a2 p.t.length c2)) (c6:=0) (w0:=w) (b1:=p.b) (b2:=p.t) (Nat.le_refl _) rfl rfl rfl (fun _ _ _ _ _ h=>nomatch h.1) B4.out B5.out B6.out N4_5.out N4_6.out N5_6.out L6.out L4.out L5.out G.out QB.out QT.out rfl rfl SV.out ?_;intro x16 x17 wE hB4 hB5 hB6 hQB hQT hG;refine⟨rfl,?_⟩
  (try simp only[B9,Act.put,List.setIfInBounds_toArray,List.set_cons_zero,List.set_cons_succ])
  clear B4 B5 B6 QB QT G;go_wp2_with fail
  (try simp only[B9,Act.put,List.setIfInBounds_toArray,List.set_cons_zero,List.set_cons_succ])
  refine leaves_cons (f:=60) (args:=#[.pointer (some ⟨n4,0,none⟩),.pointer (some ⟨n5,0,none⟩),.pointer (some ⟨n6,0,none⟩)]) (by simp) (by simp[go_sem]) ?_;refine(As0 ⟨n4,0,none⟩ ⟨n5,0,none⟩ ⟨n6,0,none⟩ _).mono ?_;rintro e u' w9 ⟨rfl,rfl,rfl⟩;simp only[settle];exact⟨_,Ak0 rfl _ _ n4 n5 n6 rfl rfl rfl hB4.blk Tryz.underlying51 rfl (SZ.out _) hB5.blk Tryz.underlying65 rfl SV.out (hB6.blk.cell 0 (Nat.zero_lt_succ _)) Tryz.underlying54 rfl,Bf5 HP.out HX.out hG C1.out C2.out hQB hQT⟩
 ·have hk1:((p.k:Int)==1)=false:=by rw[hk];rfl
  have hk2:((p.k:Int) != 2)=false:=by rw[hk];rfl
  clear hk;have HOld:=Lh (HW.out.old OK.out ST.out YY.out hk1);have HGo:=Lh (HW.out.gone OK.out ST.out YY.out hk1);clear HW;go_wp2_with (refine I2 28 (.tmp 20) rfl ?_;refine F9 28 (.tmp 20) n4 10 (by first | rfl | simp[Region.wanted,yielded]) rfl rfl B4.out.blk.siteIn.at_w Tryz.underlying28 rfl (SW.out _ _) ?_)
  refine(HMk.out _).mono ?_;rintro x w10 ⟨rfl,hb⟩;replace B4:=Lh (B4.out.up hb);replace B5:=Lh (B5.out.up hb);replace B6:=Lh (B6.out.up hb);replace QB:=Lh (A4.up8 QB.out hb);replace QT:=Lh (A4.up8 QT.out hb);replace G:=Lh (bt G.out hb);clear hb HMk v0 v5 hk2;have HWd:=Lh (show Am8 (A6 (X6 s p)) 10 (C4 (Aa0 s.e.wt s.e.wb p.q).1 (Aa0 s.e.wt s.e.wb p.q).2.1)=A6 (Af9 (X6 s p) p.q) from Ck7 (X6 s p) _ _);generalize Aa0 s.e.wt s.e.wb p.q=mk at HWd HOld HGo ⊢;obtain⟨mt,mc,me⟩:=mk;go_upto_region 7 with(refine D9 28 _ _ rfl ?_;refine G8 28 _ _ _ rfl rfl rfl rfl (A5.new _ _ _) (SW.out _ _) (by rw[D5];rfl) (Ax5 _ _) ?_;intro w11 hBn hK;have B7:=Lh hBn;have N4_7:=Lh (Nat.ne_of_lt B4.out.blk.lt);have N5_7:=Lh (Nat.ne_of_lt B5.out.blk.lt);have N6_7:=Lh (Nat.ne_of_lt B6.out.blk.lt);replace B4:=Lh ((B4.out.up (ba _ _)).kp hK N4_7.out);replace B5:=Lh ((B5.out.up (ba _ _)).kp hK N5_7.out);replace B6:=Lh ((B6.out.up (ba _ _)).kp hK N6_7.out);replace QB:=Lh (A4.up8 QB.out (hK.below (ba _ _) (Nat.le_refl _)));replace QT:=Lh (A4.up8 QT.out (hK.below (ba _ _) (Nat.le_refl _)));have L7:=Lh G.out.size;replace G:=Lh (hK.below (bt G.out (ba _ _)) G.out.size);clear hBn hK)
  generalize w10.heap.size=n7 at B7 N4_7 N5_7 N6_7 ⊢;go_wp2_with fail
  rcases hm:(me==0) with _ | _
  ·have HX:=Lh (HOld.out hm);clear HOld HGo HTu HWd;refine(Ac2 6 _).mono ?_;rintro x w13 ⟨rfl,rfl⟩
   (try go_wp2_with fail)
   (try simp only[B9,Act.put,List.setIfInBounds_toArray,List.set_cons_zero,List.set_cons_succ])
   refine leaves_cons (f:=60) (args:=#[.pointer (some ⟨n4,0,none⟩),.pointer (some ⟨n5,0,none⟩),.pointer (some ⟨n6,0,none⟩)]) (by simp) (by simp[go_sem]) ?_;refine(Bg2 (X6 s p) (I1 p.k p.d p.e0 p.e1 p.g p.q (.slice a1 p.b.length c1) (.slice a2 p.t.length c2)) n4 n5 n6 0 6 [] w _ B4.out B5.out B6.out rfl N4_5.out N4_6.out N5_6.out L4.out L5.out L6.out G.out).mono ?_;rintro e u' w9 ⟨rfl,rfl,hB4,hB5,hB6,hG⟩;simp only[settle,List.dropWhile];exact⟨_,Ak0 rfl _ _ n4 n5 n6 rfl rfl rfl hB4.blk Tryz.underlying51 rfl (SZ.out _) hB5.blk Tryz.underlying65 rfl SV.out (hB6.blk.cell 0 (Nat.zero_lt_succ _)) Tryz.underlying54 rfl,By7 HX.out (by decide) hG⟩
  have HX:=Lh (HGo.out hm);clear HOld HGo;refine(Aq1 6 _).mono ?_;rintro x w13 ⟨rfl,rfl⟩;go_upto_region 9 with(first
  | (refine I2 28 (.tmp 7) rfl ?_;refine A8 28 (.tmp 7) n7 rfl rfl rfl B7.out.blk Tryz.underlying28 rfl (SW.out _ _) ?_)
  | (refine D9 28 (.tmp 32) (.tmp 30) rfl ?_;have hq:=B4.out;refine Y3 28 (.tmp 32) (.tmp 30) n4 10 (cs:=C4 mt mc) rfl rfl rfl rfl B4.out (by rw[D7,D5];decide) (SW.out _ _) (Ax5 _ _) (HWd.out) ?_;intro w12 hB hK;replace B5:=Lh (B5.out.kp hK N4_5.out.symm);replace B6:=Lh (B6.out.kp hK N4_6.out.symm);replace B7:=Lh (B7.out.kp hK N4_7.out.symm);replace QB:=Lh (A4.kp8 QB.out hq.blk (Q4 _) hK);replace QT:=Lh (A4.kp8 QT.out hq.blk (Q4 _) hK);replace B4:=Lh hB;replace G:=Lh (hK.below G.out L4.out);clear hB hK hq))
  clear B7 N4_7 N5_7 N6_7 L7 HWd hm;have gp:=B4.out.blk.siteIn.pno;have g2:=B4.out.blk.siteIn.ph;obtain⟨v0,v1,v2,v3,v4,v5,v6,v7⟩:=Q0 B5.out.blk;clear v0 v1 v2 v3 v5 v6 v7;have HGt:=Lh (show Bf3 (X6 s p) p=bif ((p.g:Int)==s.e.r.p.no)&&(s.e.ph != 4) then(Af9 (X6 s p) p.q).on (Ba3 (Af9 (X6 s p) p.q).e) else Af9 (X6 s p) p.q from rfl);have gp':_=some (Value.int .i64 s.e.r.p.no):=gp;have g2':_=some (Value.int .i64 s.e.ph):=g2;clear gp g2 hk1;rcases hg1:((p.g:Int)==s.e.r.p.no) with _ | _
  ·replace HX:=Lh (show V5 s bl=(Af9 (X6 s p) p.q,0) by rw[HX.out,HGt.out,hg1];rfl);clear HGt HTu;go_upto_region 11 with(fail)
   clear hg1 gp' g2' v4;refine Bk8 ?_;refine Bb1 (s:=Af9 (X6 s p) p.q) (D:=I1 p.k p.d p.e0 p.e1 p.g p.q (.slice a1 p.b.length c1) (.slice a2 p.t.length c2)) (c6:=0) (w0:=w) (b1:=p.b) (b2:=p.t) (Nat.le_refl _) rfl rfl rfl (fun _ _ _ _ _ h=>nomatch h.1) B4.out B5.out B6.out N4_5.out N4_6.out N5_6.out L6.out L4.out L5.out G.out QB.out QT.out rfl rfl SV.out ?_;intro x56 x57 wE hB4 hB5 hB6 hQB hQT hG;refine⟨rfl,?_⟩
   (try simp only[B9,Act.put,List.setIfInBounds_toArray,List.set_cons_zero,List.set_cons_succ])
   clear B4 B5 B6 QB QT G;go_wp2_with fail
   (try simp only[B9,Act.put,List.setIfInBounds_toArray,List.set_cons_zero,List.set_cons_succ])
   refine leaves_cons (f:=60) (args:=#[.pointer (some ⟨n4,0,none⟩),.pointer (some ⟨n5,0,none⟩),.pointer (some ⟨n6,0,none⟩)]) (by simp) (by simp[go_sem]) ?_;refine(As0 ⟨n4,0,none⟩ ⟨n5,0,none⟩ ⟨n6,0,none⟩ _).mono ?_;rintro e u' w9 ⟨rfl,rfl,rfl⟩;simp only[settle];exact⟨_,Ak0 rfl _ _ n4 n5 n6 rfl rfl rfl hB4.blk Tryz.underlying51 rfl (SZ.out _) hB5.blk Tryz.underlying65 rfl SV.out (hB6.blk.cell 0 (Nat.zero_lt_succ _)) Tryz.underlying54 rfl,Bf5 HP.out HX.out hG C1.out C2.out hQB hQT⟩
  rcases hg2:(s.e.ph != 4) with _ | _
  ·replace HX:=Lh (show V5 s bl=(Af9 (X6 s p) p.q,0) by rw[HX.out,HGt.out,hg1,hg2];rfl);clear HGt HTu;go_upto_region 11 with(fail)
   clear hg1 gp' g2' v4 hg2;refine Bk8 ?_;refine Bb1 (s:=Af9 (X6 s p) p.q) (D:=I1 p.k p.d p.e0 p.e1 p.g p.q (.slice a1 p.b.length c1) (.slice a2 p.t.length c2)) (c6:=0) (w0:=w) (b1:=p.b) (b2:=p.t) (Nat.le_refl _) rfl rfl rfl (fun _ _ _ _ _ h=>nomatch h.1) B4.out B5.out B6.out N4_5.out N4_6.out N5_6.out L6.out L4.out L5.out G.out QB.out QT.out rfl rfl SV.out ?_;intro x56 x57 wE hB4 hB5 hB6 hQB hQT hG;refine⟨rfl,?_⟩
   (try simp only[B9,Act.put,List.setIfInBounds_toArray,List.set_cons_zero,List.set_cons_succ])
   clear B4 B5 B6 QB QT G;go_wp2_with fail
   (try simp only[B9,Act.put,List.setIfInBounds_toArray,List.set_cons_zero,List.set_cons_succ])
   refine leaves_cons (f:=60) (args:=#[.pointer (some ⟨n4,0,none⟩),.pointer (some ⟨n5,0,none⟩),.pointer (some ⟨n6,0,none⟩)]) (by simp) (by simp[go_sem]) ?_;refine(As0 ⟨n4,0,none⟩ ⟨n5,0,none⟩ ⟨n6,0,none⟩ _).mono ?_;rintro e u' w9 ⟨rfl,rfl,rfl⟩;simp only[settle];exact⟨_,Ak0 rfl _ _ n4 n5 n6 rfl rfl rfl hB4.blk Tryz.underlying51 rfl (SZ.out _) hB5.blk Tryz.underlying65 rfl SV.out (hB6.blk.cell 0 (Nat.zero_lt_succ _)) Tryz.underlying54 rfl,Bf5 HP.out HX.out hG C1.out C2.out hQB hQT⟩
  replace HX:=Lh (show V5 s bl=((Af9 (X6 s p) p.q).on (Ba3 (Af9 (X6 s p) p.q).e),0) by rw[HX.out,HGt.out,hg1,hg2];rfl);clear HGt;go_wp2_with (refine I2 32 (.tmp 49) rfl ?_;refine F9 32 (.tmp 49) n4 27 (by first | rfl | simp[Region.wanted,yielded]) rfl rfl B4.out.blk.siteIn.at_r Tryz.underlying32 rfl SR.out ?_)
  refine(HTu.out _).mono ?_;rintro x w14 ⟨rfl,hb⟩;clear v4 gp' g2' hg1 hg2;replace B4:=Lh (B4.out.up hb);replace B5:=Lh (B5.out.up hb);replace B6:=Lh (B6.out.up hb);replace QB:=Lh (A4.up8 QB.out hb);replace QT:=Lh (A4.up8 QT.out hb);replace G:=Lh (bt G.out hb);clear hb HTu;go_upto_region 11 with(refine D9 32 (.tmp 55) (.tmp 52) rfl ?_;have hq:=B4.out;refine Y3 32 (.tmp 55) (.tmp 52) n4 27 (cs:=(Be7 s.e.r).1.L) rfl rfl rfl rfl B4.out (by rw[D7];exact(by decide:27+8≤73)) SR.out (by rfl) (Cu0 (Af9 (X6 s p) p.q)) ?_;intro w15 hB hK;replace B5:=Lh (B5.out.kp hK N4_5.out.symm);replace B6:=Lh (B6.out.kp hK N4_6.out.symm);replace QB:=Lh (A4.kp8 QB.out hq.blk (Q4 _) hK);replace QT:=Lh (A4.kp8 QT.out hq.blk (Q4 _) hK);replace B4:=Lh hB;replace G:=Lh (hK.below G.out L4.out);clear hB hK hq)
  refine Bk8 ?_;refine Bb1 (s:=(Af9 (X6 s p) p.q).on (Ba3 (Af9 (X6 s p) p.q).e)) (D:=I1 p.k p.d p.e0 p.e1 p.g p.q (.slice a1 p.b.length c1) (.slice a2 p.t.length c2)) (c6:=0) (w0:=w) (b1:=p.b) (b2:=p.t) (Nat.le_refl _) rfl rfl rfl (fun _ _ _ _ _ h=>nomatch h.1) B4.out B5.out B6.out N4_5.out N4_6.out N5_6.out L6.out L4.out L5.out G.out QB.out QT.out rfl rfl SV.out ?_;intro x56 x57 wE hB4 hB5 hB6 hQB hQT hG;refine⟨rfl,?_⟩
  (try simp only[B9,Act.put,List.setIfInBounds_toArray,List.set_cons_zero,List.set_cons_succ])
  clear B4 B5 B6 QB QT G;go_wp2_with fail
  (try simp only[B9,Act.put,List.setIfInBounds_toArray,List.set_cons_zero,List.set_cons_succ])
  refine leaves_cons (f:=60) (args:=#[.pointer (some ⟨n4,0,none⟩),.pointer (some ⟨n5,0,none⟩),.pointer (some ⟨n6,0,none⟩)]) (by simp) (by simp[go_sem]) ?_;refine(As0 ⟨n4,0,none⟩ ⟨n5,0,none⟩ ⟨n6,0,none⟩ _).mono ?_;rintro e u' w9 ⟨rfl,rfl,rfl⟩;simp only[settle];exact⟨_,Ak0 rfl _ _ n4 n5 n6 rfl rfl rfl hB4.blk Tryz.underlying51 rfl (SZ.out _) hB5.blk Tryz.underlying65 rfl SV.out (hB6.blk.cell 0 (Nat.zero_lt_succ _)) Tryz.underlying54 rfl,Bf5 HP.out HX.out hG C1.out C2.out hQB hQT⟩
def At6(a b:Ev):Bool:=(a.wt==b.wt)&&(List.range 16).all fun i=>a.wb i==b.wb i
def Aq2(a b:Ev):Bool:=(a.c0==b.c0)&&((a.c1==b.c1)&&((a.c2==b.c2)&&(a.c3==b.c3)))
def Bf7(a b:Ev):Bool:=(a.id==b.id)&&((a.ph==b.ph)&&((a.pw==b.pw)&&((a.own==b.own)&&((a.oth==b.oth)&&((a.seen==b.seen)&&((a.seq==b.seq)&&((a.stan==b.stan)&&((a.day==b.day)))))))))
def At7(a b:Ev):Bool:=Be3 a.s1.l a.s2.l b.s1.l b.s2.l&&(Q8 a.r b.r a.kc a.ko a.kp b.kc b.ko b.kp&&(An7 a.q b.q&&(decide (a.u=b.u)&&(Ar6 a.h a.hs b.h b.hs&&(decide (a.o=b.o)&&(decide (a.g=b.g)&&((a.k.l==b.k.l)&&(At6 a b&&(Aq2 a b&&Bf7 a b)))))))))
abbrev U8(e:Ev):List Value:=[.int .i64 e.c0,.int .i64 e.c1,.int .i64 e.c2,.int .i64 e.c3]
theorem En8(a b:Ev)(w:World):(Op.equalIn 10000 40 (.agg (U8 a).toArray) (.agg (U8 b).toArray)).run Tryz.prog w=.ok (Aq2 a b) w:=by
 obtain⟨i,hi⟩:=Option.isSome_iff_exists.1 (show(Tryz.prog.info? 3).isSome=true by kernel_rfl);rw[run_equalIn_array w 9999 _ _ Tryz.underlying40 hi];have hc:Tryz.prog.cellsOf 3=1:=by kernel_rfl
 rw[hc];have p0:=fun(z:Ev)=>run_part_plain (P:=Tryz.prog) w (e:=3) (xs:=(U8 z).toArray) (off:=0) (by kernel_rfl) rfl;have p1:=fun(z:Ev)=>run_part_plain (P:=Tryz.prog) w (e:=3) (xs:=(U8 z).toArray) (off:=1) (by kernel_rfl) rfl;have p2:=fun(z:Ev)=>run_part_plain (P:=Tryz.prog) w (e:=3) (xs:=(U8 z).toArray) (off:=2) (by kernel_rfl) rfl;have p3:=fun(z:Ev)=>run_part_plain (P:=Tryz.prog) w (e:=3) (xs:=(U8 z).toArray) (off:=3) (by kernel_rfl) rfl;have q:=fun(z z':Int)=>run_equalIn_int (P:=Tryz.prog) w 9998 3 .i64 .i64 z z' Tryz.underlying3;have e:(List.range 4)=[0,1,2,3]:=by decide
 rw[e];unfold Aq2;cases h0:(a.c0==b.c0)<;>cases h1:(a.c1==b.c1)<;>cases h2:(a.c2==b.c2)<;>cases h3:(a.c3==b.c3)<;>simp[Op.eqItems,Sem.run_bind,p0,p1,p2,p3,q,h0,h1,h2,h3]
theorem Eh4(a b:Ev)(w:World):(Op.equalIn 10000 28 (.agg (C4 a.wt a.wb).toArray) (.agg (C4 b.wt b.wb).toArray)).run Tryz.prog w=.ok (At6 a b) w:=Bq0 _ _ _ _ w
theorem Cv2(x y:(Int×List UInt8))(p q:Option Addr)(c d:Nat)(w:World)(hx:A4 w p x.2)(hy:A4 w q y.2):
 Calls Tryz.prog 100 #[.agg #[.int .i64 x.1,.slice p x.2.length c],.agg #[.int .i64 y.1,.slice q y.2.length d]] w (G6 w (Ap2 x y)):=by
 have K:=Lh (fun(W:World) (h:Below w.heap.size w W)=>(show Calls Tryz.prog 101 #[.slice p x.2.length c,.slice q y.2.length d] W fun e w'=>e=.returned (.bool (x.2==y.2))∧W=w' from Ab4 p q _ c _ d x.2 y.2 W rfl rfl (hx.mono h) (hy.mono h)));have HX:=Lh (show Ap2 x y=((x.1==y.1)&&(x.2==y.2)) from rfl);generalize Ap2 x y=R at HX ⊢;generalize (x.2==y.2)=r at HX K;clear hx hy;have hb:=Lh (bta (ba w (.cells #[.int .i64 x.1,.slice p x.2.length c] 77)) (.cells #[.int .i64 y.1,.slice q y.2.length d] 77));rcases hq0:(x.1==y.1) with _ | _
 ·have hR:R=false:=by
   rw[HX.out]
   revert hq0
   clear K HX hb;generalize (x.1==y.1)=b1
   revert b1 r;decide
  subst hR
  skip
  skip
  go_enter Tryz.func100,Tryz.ntmps100
  go_wp2_with fail
  go_ret;exact⟨rfl,hb.out⟩
 have hR:R=r:=by
  rw[HX.out]
  revert hq0
  clear K HX hb;generalize (x.1==y.1)=b1
  revert b1 r;decide
 subst hR;go_enter Tryz.func100,Tryz.ntmps100
 go_wp2_with fail
 refine(K.out _ hb.out).mono ?_;rintro e w2 ⟨rfl,rfl⟩;rcases R with _ | _;all_goals
  go_wp2_with fail
  go_ret;exact⟨rfl,hb.out⟩
theorem Cv3(x y:Gt)(p q:Option Addr)(c d:Nat)(w:World)(hx:A4 w p x.b)(hy:A4 w q y.b):
 Calls Tryz.prog 102 #[.agg #[.int .i64 x.kind,.int .i64 x.e0,.int .i64 x.e1,.int .i64 x.seq,.slice p x.b.length c],.agg #[.int .i64 y.kind,.int .i64 y.e0,.int .i64 y.e1,.int .i64 y.seq,.slice q y.b.length d]] w (G6 w (At5 x y)):=by
 have K:=Lh (fun(W:World) (h:Below w.heap.size w W)=>(show Calls Tryz.prog 101 #[.slice p x.b.length c,.slice q y.b.length d] W fun e w'=>e=.returned (.bool (x.b==y.b))∧W=w' from Ab4 p q _ c _ d x.b y.b W rfl rfl (hx.mono h) (hy.mono h)));have HX:=Lh (show At5 x y=((x.kind==y.kind)&&((x.e0==y.e0)&&((x.e1==y.e1)&&((x.seq==y.seq)&&(x.b==y.b))))) from rfl);generalize At5 x y=R at HX ⊢;generalize (x.b==y.b)=r at HX K;clear hx hy;have hb:=Lh (bta (ba w (.cells #[.int .i64 x.kind,.int .i64 x.e0,.int .i64 x.e1,.int .i64 x.seq,.slice p x.b.length c] 103)) (.cells #[.int .i64 y.kind,.int .i64 y.e0,.int .i64 y.e1,.int .i64 y.seq,.slice q y.b.length d] 103));rcases hq0:(x.kind==y.kind) with _ | _
 ·have hR:R=false:=by
   rw[HX.out]
   revert hq0
   clear K HX hb;generalize (x.kind==y.kind)=b_kind;generalize (x.e0==y.e0)=b_e0;generalize (x.e1==y.e1)=b_e1;generalize (x.seq==y.seq)=b_seq
   revert b_kind b_e0 b_e1 b_seq r;decide
  subst hR
  skip
  skip
  go_enter Tryz.func102,Tryz.ntmps102
  go_wp2_with fail
  go_ret;exact⟨rfl,hb.out⟩
 rcases hq1:((x.e0==y.e0)&&(x.e1==y.e1)) with _ | _
 ·have hR:R=false:=by
   rw[HX.out]
   revert hq0 hq1
   clear K HX hb;generalize (x.kind==y.kind)=b_kind;generalize (x.e0==y.e0)=b_e0;generalize (x.e1==y.e1)=b_e1;generalize (x.seq==y.seq)=b_seq
   revert b_kind b_e0 b_e1 b_seq r;decide
  subst hR;have hp:=fun W=>(Ah0 (.tmp 12) (.tmp 14) x.e0 x.e1 y.e0 y.e1 W).2;rw[hq1] at hp;go_enter Tryz.func102,Tryz.ntmps102
  go_wp2_with fail
  go_ret;exact⟨rfl,hb.out⟩
 have hp:=fun W=>(Ah0 (.tmp 12) (.tmp 14) x.e0 x.e1 y.e0 y.e1 W).2;rw[hq1] at hp;rcases hq2:(x.seq==y.seq) with _ | _
 ·have hR:R=false:=by
   rw[HX.out]
   revert hq0 hq1 hq2
   clear K HX hb;generalize (x.kind==y.kind)=b_kind;generalize (x.e0==y.e0)=b_e0;generalize (x.e1==y.e1)=b_e1;generalize (x.seq==y.seq)=b_seq
   revert b_kind b_e0 b_e1 b_seq r;decide
  subst hR
  skip
  skip
  go_enter Tryz.func102,Tryz.ntmps102
  go_wp2_with fail
  go_ret;exact⟨rfl,hb.out⟩
 have hR:R=r:=by
  rw[HX.out]
  revert hq0 hq1 hq2
  clear K HX hb hp;generalize (x.kind==y.kind)=b_kind;generalize (x.e0==y.e0)=b_e0;generalize (x.e1==y.e1)=b_e1;generalize (x.seq==y.seq)=b_seq
  revert b_kind b_e0 b_e1 b_seq r;decide
 subst hR;go_enter Tryz.func102,Tryz.ntmps102
 go_wp2_with fail
 refine(K.out _ hb.out).mono ?_;rintro e w2 ⟨rfl,rfl⟩;rcases R with _ | _;all_goals
  go_wp2_with fail
  go_ret;exact⟨rfl,hb.out⟩
theorem Cv4(a b:Option Addr)(c d:Nat)(es es2:List (Int×List UInt8))(w:World)(h1:es.length≤100000)(h2:es2.length≤100000)(hE:Ad0 w a es)(hE2:Ad0 w b es2):
 Calls Tryz.prog 109 #[.slice a es.length c,.slice b es2.length d,.func (.func 100) #[] #[]] w (G6 w (decide (es=es2))):=by
 by_cases hne:es.length=es2.length
 ·have hd:((es.length:Int) != (es2.length:Int))=false:=by simp[hne]
  have HE:=Lh hE;have HE2:=Lh hE2;have Hne:=Lh hne;have HQ:=Lh (fun h=>Bf6 (z:=(0,[])) (l:=es) (m:=es2) hne h);obtain⟨R,hR⟩:∃R,R=decide (es=es2):=⟨_,rfl⟩;have HR:=Lh hR;rw[←hR];clear hE hE2 hne hR;go_enter Tryz.func109,Tryz.ntmps109
  go_wp2_with fail
  go_loopw [17] (fun v wr=>∃k:Nat,k≤es.length∧v=.int .i64 (k:Int)∧(∀j,j<k→es.getD j (0,[])=es2.getD j (0,[]))∧Below w.heap.size w wr) (fun v _=>es.length-(intOf v).toNat)
  case atStart=>exact⟨0,Nat.zero_le _,rfl,fun j hj=>absurd hj (by omega),Below.refl _ _⟩
  case round=>
   obtain⟨k,hk,rfl,hno,hG⟩:=hrel;have Hno:=Lh hno;have G:=Lh hG;by_cases hlt:k<es.length
   ·obtain⟨g1,o1,rfl,hg1,hcs1⟩:=(HE.out.mono hG).cell (by omega);obtain⟨g2,o2,rfl,hg2,hcs2⟩:=(HE2.out.mono hG).cell (by have:=Hne.out;omega);obtain⟨p0,c0,x0,x1,l0,m0,b0⟩:=hcs1 k hlt;obtain⟨q0,d0,y0,y1,s0,t0,u0⟩:=hcs2 k (by have:=Hne.out;omega);obtain⟨e1,he1⟩:∃e,e=es.getD k (0,[]):=⟨_,rfl⟩;obtain⟨e2,he2⟩:∃e,e=es2.getD k (0,[]):=⟨_,rfl⟩;rw[←he1] at x0 x1 b0;rw[←he2] at y0 y1 u0;have K:=Lh (fun(W:World) (h:Below wr.heap.size wr W)=>(show Calls Tryz.prog 100 #[.agg #[.int .i64 e1.1,.slice p0 e1.2.length c0],.agg #[.int .i64 e2.1,.slice q0 e2.2.length d0]] W (G6 W (Ap2 e1 e2)) from Cv2 e1 e2 p0 q0 c0 d0 W (b0.mono h) (u0.mono h)));have HF:=Lh (Cl3 (x:=e1) (y:=e2));have hi1:(k:Int)<(es.length:Int):=by omega
    have hi2:(k:Int)<(es2.length:Int):=by have:=Hne.out;omega
    have hi0:(0:Int)≤(k:Int):=by omega
    have He1:=Lh he1;have He2:=Lh he2;clear hcs1 hcs2 l0 m0 b0 s0 t0 u0 hno hG he1 he2;generalize Ap2 e1 e2=q at HF K;have hbA:=ba wr (.cells #[.int .i64 e1.1,.slice p0 e1.2.length c0] 77);have z0:=(hbA.cell (p:=⟨g2,o2+k*2,none⟩) hg2).trans y0;have z1:=(hbA.cell (p:=⟨g2,o2+k*2+1,none⟩) hg2).trans y1;have HbA:=Lh hbA;clear hbA;rcases q with _ | _
    ·go_wp2_with fail
     refine(K.out _ (bta (ba wr _) _)).mono ?_;rintro e w2 ⟨rfl,hb2⟩;go_wp2_with fail
     go_ret;refine⟨?_,bt (bt G.out (bta (ba wr _) _)) hb2⟩;have:R=false:=by
      rw[HR.out,decide_eq_false];intro h;have h2:=HF.out.2 (by rw[He1.out,He2.out,h]);cases h2
     rw[this];rfl
    ·go_wp2_with fail
     refine(K.out _ (bta (ba wr _) _)).mono ?_;rintro e w2 ⟨rfl,hb2⟩;go_wp2_with fail
     exact⟨⟨k+1,by omega,by go_num,fun j hj=>by
      rcases Nat.lt_or_ge j k with h | h
      ·exact Hno.out j h
      ·rw[show j=k by omega,←He1.out,←He2.out];exact HF.out.1 (by first | rfl | trivial),bt (bt G.out (bta (ba wr _) _)) hb2⟩,by simp[intOf];omega⟩
   ·obtain rfl:k=es.length:=by omega
    go_wp2_with fail
    go_ret;refine⟨?_,G.out⟩;have:R=true:=by rw[HR.out,decide_eq_true];exact HQ.out Hno.out
    rw[this];rfl
 ·have hd:((es.length:Int) != (es2.length:Int))=true:=by rw[bne_iff_ne];omega
  have HR:=Lh (show decide (es=es2)=false from decide_eq_false fun h=>hne (by rw[h]));clear hE hE2 hne;go_enter Tryz.func109,Tryz.ntmps109
  go_wp2_with fail
  go_ret;exact⟨by rw[HR.out];rfl,Below.refl _ _⟩
theorem Cv5(a b:Option Addr)(c d:Nat)(es es2:List Gt)(w:World)(h1:es.length≤100000)(h2:es2.length≤100000)(hE:Ah8 w a es)(hE2:Ah8 w b es2):
 Calls Tryz.prog 110 #[.slice a es.length c,.slice b es2.length d,.func (.func 102) #[] #[]] w (G6 w (decide (es=es2))):=by
 by_cases hne:es.length=es2.length
 ·have hd:((es.length:Int) != (es2.length:Int))=false:=by simp[hne]
  have HE:=Lh hE;have HE2:=Lh hE2;have Hne:=Lh hne;have HQ:=Lh (fun h=>Bf6 (z:=default) (l:=es) (m:=es2) hne h);obtain⟨R,hR⟩:∃R,R=decide (es=es2):=⟨_,rfl⟩;have HR:=Lh hR;rw[←hR];clear hE hE2 hne hR;go_enter Tryz.func110,Tryz.ntmps110
  go_wp2_with fail
  go_loopw [17] (fun v wr=>∃k:Nat,k≤es.length∧v=.int .i64 (k:Int)∧(∀j,j<k→es.getD j default=es2.getD j default)∧Below w.heap.size w wr) (fun v _=>es.length-(intOf v).toNat)
  case atStart=>exact⟨0,Nat.zero_le _,rfl,fun j hj=>absurd hj (by omega),Below.refl _ _⟩
  case round=>
   obtain⟨k,hk,rfl,hno,hG⟩:=hrel;have Hno:=Lh hno;have G:=Lh hG;by_cases hlt:k<es.length
   ·obtain⟨g1,o1,rfl,hg1,hcs1⟩:=(HE.out.mono hG).cell (by omega);obtain⟨g2,o2,rfl,hg2,hcs2⟩:=(HE2.out.mono hG).cell (by have:=Hne.out;omega);obtain⟨p0,c0,x0,x1,x2,x3,x4,l0,m0,b0⟩:=hcs1 k hlt;obtain⟨q0,d0,y0,y1,y2,y3,y4,s0,t0,u0⟩:=hcs2 k (by have:=Hne.out;omega);obtain⟨e1,he1⟩:∃e,e=es.getD k default:=⟨_,rfl⟩;obtain⟨e2,he2⟩:∃e,e=es2.getD k default:=⟨_,rfl⟩;rw[←he1] at x0 x1 x2 x3 x4 b0;rw[←he2] at y0 y1 y2 y3 y4 u0;have K:=Lh (fun(W:World) (h:Below wr.heap.size wr W)=>(show Calls Tryz.prog 102 #[.agg #[.int .i64 e1.kind,.int .i64 e1.e0,.int .i64 e1.e1,.int .i64 e1.seq,.slice p0 e1.b.length c0],.agg #[.int .i64 e2.kind,.int .i64 e2.e0,.int .i64 e2.e1,.int .i64 e2.seq,.slice q0 e2.b.length d0]] W (G6 W (At5 e1 e2)) from Cv3 e1 e2 p0 q0 c0 d0 W (b0.mono h) (u0.mono h)));have HF:=Lh (Cv0 (x:=e1) (y:=e2));have hi1:(k:Int)<(es.length:Int):=by omega
    have hi2:(k:Int)<(es2.length:Int):=by have:=Hne.out;omega
    have hi0:(0:Int)≤(k:Int):=by omega
    have He1:=Lh he1;have He2:=Lh he2;clear hcs1 hcs2 l0 m0 b0 s0 t0 u0 hno hG he1 he2;generalize At5 e1 e2=q at HF K;have hbA:=ba wr (.cells #[.int .i64 e1.kind,.int .i64 e1.e0,.int .i64 e1.e1,.int .i64 e1.seq,.slice p0 e1.b.length c0] 103);have z0:=(hbA.cell (p:=⟨g2,o2+k*5,none⟩) hg2).trans y0;have z1:=(hbA.cell (p:=⟨g2,o2+k*5+1,none⟩) hg2).trans y1;have z2:=(hbA.cell (p:=⟨g2,o2+k*5+2,none⟩) hg2).trans y2;have z3:=(hbA.cell (p:=⟨g2,o2+k*5+3,none⟩) hg2).trans y3;have z4:=(hbA.cell (p:=⟨g2,o2+k*5+4,none⟩) hg2).trans y4;have HbA:=Lh hbA;clear hbA;rcases q with _ | _
    ·go_wp2_with fail
     refine(K.out _ (bta (ba wr _) _)).mono ?_;rintro e w2 ⟨rfl,hb2⟩;go_wp2_with fail
     go_ret;refine⟨?_,bt (bt G.out (bta (ba wr _) _)) hb2⟩;have:R=false:=by
      rw[HR.out,decide_eq_false];intro h;have h2:=HF.out.2 (by rw[He1.out,He2.out,h]);cases h2
     rw[this];rfl
    ·go_wp2_with fail
     refine(K.out _ (bta (ba wr _) _)).mono ?_;rintro e w2 ⟨rfl,hb2⟩;go_wp2_with fail
     exact⟨⟨k+1,by omega,by go_num,fun j hj=>by
      rcases Nat.lt_or_ge j k with h | h
      ·exact Hno.out j h
      ·rw[show j=k by omega,←He1.out,←He2.out];exact HF.out.1 (by first | rfl | trivial),bt (bt G.out (bta (ba wr _) _)) hb2⟩,by simp[intOf];omega⟩
   ·obtain rfl:k=es.length:=by omega
    go_wp2_with fail
    go_ret;refine⟨?_,G.out⟩;have:R=true:=by rw[HR.out,decide_eq_true];exact HQ.out Hno.out
    rw[this];rfl
 ·have hd:((es.length:Int) != (es2.length:Int))=true:=by rw[bne_iff_ne];omega
  have HR:=Lh (show decide (es=es2)=false from decide_eq_false fun h=>hne (by rw[h]));clear hE hE2 hne;go_enter Tryz.func110,Tryz.ntmps110
  go_wp2_with fail
  go_ret;exact⟨by rw[HR.out];rfl,Below.refl _ _⟩
theorem Cv6(a b:Option Addr)(c d:Nat)(es es2:List (List UInt8))(w:World)(h1:es.length≤maxLen)(h2:es2.length≤maxLen)(hE:W6 w a es)(hE2:W6 w b es2):
 Calls Tryz.prog 107 #[.slice a es.length c,.slice b es2.length d,.func (.func 101) #[] #[]] w (G6 w (decide (es=es2))):=by
 unfold maxLen at h1 h2;by_cases hne:es.length=es2.length
 ·have hd:((es.length:Int) != (es2.length:Int))=false:=by simp[hne]
  have HE:=Lh hE;have HE2:=Lh hE2;have Hne:=Lh hne;have HQ:=Lh (fun h=>Bf6 (z:=[]) (l:=es) (m:=es2) hne h);obtain⟨R,hR⟩:∃R,R=decide (es=es2):=⟨_,rfl⟩;have HR:=Lh hR;rw[←hR];clear hE hE2 hne hR;go_enter Tryz.func107,Tryz.ntmps107
  go_wp2_with fail
  go_loopw [17] (fun v wr=>∃k:Nat,k≤es.length∧v=.int .i64 (k:Int)∧(∀j,j<k→es.getD j []=es2.getD j [])∧wr=w) (fun v _=>es.length-(intOf v).toNat)
  case atStart=>exact⟨0,Nat.zero_le _,rfl,fun j hj=>absurd hj (by omega),rfl⟩
  case round=>
   obtain⟨k,hk,rfl,hno,rfl⟩:=hrel;have Hno:=Lh hno;by_cases hlt:k<es.length
   ·obtain⟨g1,o1,p0,c0,rfl,hg1,x0,-,-,b0⟩:=HE.out.row k hlt;obtain⟨g2,o2,q0,d0,rfl,hg2,y0,-,-,u0⟩:=HE2.out.row k (by have:=Hne.out;omega);obtain⟨e1,he1⟩:∃e,e=es.getD k []:=⟨_,rfl⟩;obtain⟨e2,he2⟩:∃e,e=es2.getD k []:=⟨_,rfl⟩;rw[←he1] at x0 b0;rw[←he2] at y0 u0;have K:=Lh (show Calls Tryz.prog 101 #[.slice p0 e1.length c0,.slice q0 e2.length d0] wr fun e w'=>e=.returned (.bool (e1==e2))∧wr=w' from Ab4 p0 q0 _ c0 _ d0 e1 e2 wr rfl rfl b0 u0);have HF:=Lh (show(e1==e2)=true↔e1=e2 from beq_iff_eq);have hi1:(k:Int)<(es.length:Int):=by omega
    have hi2:(k:Int)<(es2.length:Int):=by have:=Hne.out;omega
    have hi0:(0:Int)≤(k:Int):=by omega
    have He1:=Lh he1;have He2:=Lh he2;clear b0 u0 hno he1 he2;generalize (e1==e2)=q at HF K;rcases q with _ | _
    ·go_wp2_with fail
     refine K.out.mono ?_;rintro e w2 ⟨rfl,rfl⟩;go_wp2_with fail
     go_ret;refine⟨?_,Below.refl _ _⟩;have:R=false:=by
      rw[HR.out,decide_eq_false];intro h;have h2:=HF.out.2 (by rw[He1.out,He2.out,h]);cases h2
     rw[this];rfl
    ·go_wp2_with fail
     refine K.out.mono ?_;rintro e w2 ⟨rfl,rfl⟩;go_wp2_with fail
     exact⟨⟨k+1,by omega,by go_num,fun j hj=>by
      rcases Nat.lt_or_ge j k with h | h
      ·exact Hno.out j h
      ·rw[show j=k by omega,←He1.out,←He2.out];exact HF.out.1 (by first | rfl | trivial),by trivial⟩,by simp[intOf];omega⟩
   ·obtain rfl:k=es.length:=by omega
    go_wp2_with fail
    go_ret;refine⟨?_,Below.refl _ _⟩;have:R=true:=by rw[HR.out,decide_eq_true];exact HQ.out Hno.out
    rw[this];rfl
 ·have hd:((es.length:Int) != (es2.length:Int))=true:=by rw[bne_iff_ne];omega
  have HR:=Lh (show decide (es=es2)=false from decide_eq_false fun h=>hne (by rw[h]));clear hE hE2 hne;go_enter Tryz.func107,Tryz.ntmps107
  go_wp2_with fail
  go_ret;exact⟨by rw[HR.out];rfl,Below.refl _ _⟩
theorem Cv7(a:Option Addr)(c:Nat)(l:List Bool)(w:World)(h1:l.length≤1000)(hE:At w a (l.map Value.bool)):
 Calls Tryz.prog 191 #[.slice a l.length c,.bool false] w fun e w'=>(∃i:Int,e=.returned (.int .i64 i)∧decide (0≤i)=!(l.all id))∧w=w':=by
 have HE:=Lh hE;clear hE;go_enter Tryz.func191,Tryz.ntmps191
 go_wp2_with fail
 go_loopw [8] (fun v wr=>∃k:Nat,k≤l.length∧v=.int .i64 (k:Int)∧(∀j,j<k→l.getD j true=true)∧wr=w) (fun v _=>l.length-(intOf v).toNat)
 case atStart=>exact⟨0,Nat.zero_le _,rfl,fun j hj=>absurd hj (by omega),rfl⟩
 case round=>
  obtain⟨k,hk,rfl,hno,rfl⟩:=hrel;have Hno:=Lh hno;by_cases hlt:k<l.length
  ·rcases HE.out with h0 | ⟨g,o,rfl,hg,hc⟩
   ·rw[List.map_eq_nil_iff] at h0;rw[h0] at hlt;simp at hlt
   have x0:wr.cell? ⟨g,o+k,none⟩=some (.bool (l.getD k true)):=by
    rw[hc k (by simpa using hlt)];simp[List.getD_eq_getElem?_getD,hlt]
   have hi1:(k:Int)<(l.length:Int):=by omega
   have hi0:(0:Int)≤(k:Int):=by omega
   rcases hb:l.getD k true with _ | _
   ·rw[hb] at x0;have HX:=Lh (show l.all id=false from by
     rw[Bool.eq_false_iff];intro h;have:=List.all_eq_true.1 h (l.getD k true) (by
      rw[List.getD_eq_getElem?_getD,List.getElem?_eq_getElem hlt];exact List.getElem_mem hlt)
     rw[hb] at this;exact absurd this (by decide))
    clear hc hno hb;go_wp2_with fail
    go_ret;exact⟨⟨(k:Int),by first | rfl | (congr;go_num),by rw[HX.out];exact decide_eq_true (by omega)⟩,rfl⟩
   ·rw[hb] at x0;have Hb:=Lh hb;clear hc hno hb;go_wp2_with fail
    exact⟨⟨k+1,by omega,by go_num,fun j hj=>by
     rcases Nat.lt_or_ge j k with h | h
     ·exact Hno.out j h
     ·rw[show j=k by omega];exact Hb.out,by trivial⟩,by simp[intOf];omega⟩
  ·obtain rfl:k=l.length:=by omega
   have HX:=Lh (show l.all id=true from List.all_eq_true.2 fun x hx=>by
    obtain⟨j,hj,rfl⟩:=List.mem_iff_getElem.1 hx;have:=hno j hj;rw[List.getD_eq_getElem?_getD,List.getElem?_eq_getElem hj] at this;exact this)
   clear hno;go_wp2_with fail
   go_ret;exact⟨⟨-1,rfl,by rw[HX.out];rfl⟩,rfl⟩
theorem Eb6(a:Option Addr)(c:Nat)(l:List Bool)(w:World)(h1:l.length≤1000)(hE:At w a (l.map Value.bool)):
 Calls Tryz.prog 103 #[.slice a l.length c] w fun e w'=>e=.returned (.bool (l.all id))∧w=w':=by
 have H:=Lh (Cv7 a c l w h1 hE);clear hE;go_enter Tryz.func103,Tryz.ntmps103
 go_wp2_with fail
 go_enter Tryz.func165,Tryz.ntmps165
 go_wp2_with fail
 refine H.out.mono ?_;rintro e w2 ⟨⟨i,rfl,hi⟩,rfl⟩;rcases hl:l.all id with _ | _
 ·rw[hl] at hi;have hi0:0≤i:=of_decide_eq_true hi;go_wp2_with fail
  first
  | (go_ret;exact⟨by rw[hl];rfl,rfl⟩)
  | (go_wp2_with fail;go_ret;exact⟨by rw[hl];rfl,rfl⟩)
 ·rw[hl] at hi;have hi0:¬0≤i:=of_decide_eq_false hi;go_wp2_with fail
  first
  | (go_ret;exact⟨by rw[hl];rfl,rfl⟩)
  | (go_wp2_with fail;go_ret;exact⟨by rw[hl];rfl,rfl⟩)
end Go.Proofs.YtadpiemjgfndgaaGreatDoor
