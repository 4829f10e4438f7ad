/- Proved here, for use further on: LeP LeQ LeS LeT LeU LeV LeW LeX. Conditions: none but those each theorem names. -/
import Derived.Test.YtadpiemjgfndgaaGreatDoorKc00
import Derived.Test.YtadpiemjgfndgaaGreatDoorKc21
import Derived.LoopN
import Derived.WalkSmall
import Derived.Test.YtadpiemjgfndgaaGreatDoorKc05
import Derived.Test.YtadpiemjgfndgaaGreatDoorKc11
import Derived.Deep.RegionHeld3
import Derived.Test.YtadpiemjgfndgaaGreatDoorKc12
import Derived.Test.YtadpiemjgfndgaaGreatDoorKc18
import Derived.Defers
import Derived.Recover
set_option linter.unusedSimpArgs false
set_option linter.unusedVariables false
set_option maxRecDepth 100000
set_option maxHeartbeats 8000000
namespace Go.Proofs.YtadpiemjgfndgaaGreatDoor
open Go.RowKit
theorem Cl0{x:Int}(h0:0≤x+1)(h1:x+1≤9223372036854775807):IntKind.i64.wrap (x+1)=x+1:=by
 obtain⟨n,hn⟩:∃n:Nat,x+1=n:=⟨(x+1).toNat,by omega⟩;rw[hn];exact Bd3 n (by omega)
theorem J5.seq{q:Nat→Prop}{w:World}{S:Sv}(h:J5 q w S):J5 q w (Aq2 S):=
 ⟨⟨h.e.k,h.e.s1,h.e.s2,h.e.r,h.e.rc,h.e.ro,h.e.rp,h.e.q,h.e.ql,h.e.u,h.e.ul,h.e.h,h.e.hl,h.e.o,h.e.ol,h.e.g,h.e.gl,h.e.wt⟩,h.p,h.pl⟩
theorem Bg4(s:Sv)(bda:Option Addr)(bdc:Nat)(bl:List UInt8)(w:World)(qq:Nat→Prop)(hq:∀g,w.heap.size≤g→qq g)(h:J5 qq w s)(hr:X8 s.e=true)(hes:s.es.length≤900)(hn:s.e.o.length≤1000)(hbl:A4 w bda bl)(hks:Q4 w):
 Calls Tryz.prog 16 #[.agg (A5 s).toArray,.slice bda bl.length bdc] w (Ag1 qq w (Af6 s bl)):=by
 have SZ:=Lh (show ∀S:Sv,(Tryz.prog.info? 51).map (·.size)=some (A5 S).length from fun S=>by rw[D9];exact M6);have SE:=Lh (show ∀E:Ev,(Tryz.prog.info? 46).map (·.size)=some (A8 E).length from fun E=>by rw[I1];exact Q1);have HS:=Lh h;have HQ:=Lh hq;have HR:=Lh (Al7 hr);have HE:=Lh (fun(z1:U7 s.e.ph=true) (z2:Q5 bl.length=true) (q2:Nat→Prop) (u:World) (hb:Below w.heap.size w u) (hc:∀g,u.heap.size≤g→q2 g) (hc2:∀g,g<w.heap.size→qq g→q2 g)=>
  (show Calls Tryz.prog 56 #[.agg (A5 s).toArray,.agg #[.int .i64 2,.int .i64 s.e.id,.int .i64 (C8 s.e).1,.int .i64 (C8 s.e).2,.int .i64 s.e.r.c.no,.int .i64 s.e.seq,.slice bda bl.length bdc,.slice none 0 0],.slice s.e.r.c.a s.e.r.c.len s.e.r.c.cap] u (Ag1 q2 u (Ai3 s s.e.kc (Bj1 s bl))) from by
  have f:=Al7 hr;have b:=Bl2 z2;have pb:=Bc4 (e:=s.e) f.id f.own f.oth;have cu:=f.cur z1;have kl:s.e.kc.length=32:=by rw[←h.e.r.lc];exact cu.2.2
  have k2:=Br9 s 2 s.e.id.toNat (C8 s.e).1.toNat (C8 s.e).2.toNat s.e.r.c.no.toNat s.e.seq.toNat bda bdc bl s.e.r.c.a s.e.r.c.cap s.e.kc u q2 hc ((h.to hc2).mono hb) ⟨by decide,by decide,by have:=f.id;omega,by omega,by omega,by omega,by have:=f.seq;omega,b.1,b.2⟩ (hbl.mono hb) (h.e.r.c.mono hb) (by omega) (by rw[←h.e.r.lc];exact h.e.rc) f.nx hes hn (hks.mono hb);rw[←h.e.r.lc,Ac7 f.id.1,Ac7 pb.1.1,Ac7 pb.2.1,Ac7 (show 0≤s.e.r.c.no by omega),Ac7 f.seq.1] at k2;exact k2))
 have HBad:=Lh (fun(hz:Q5 bl.length=false)=>(show Af6 s bl s 1 from .inl ⟨hz,rfl,rfl⟩));have HOff:=Lh (fun(hz:Q5 bl.length=true) (hl:U7 s.e.ph=false)=>(show Af6 s bl s 7 from .inr ⟨hz,.inl ⟨hl,rfl,rfl⟩⟩));have HSp:=Lh (fun(hz:Q5 bl.length=true) (hl:U7 s.e.ph=true) (hs:s.e.seq=4611686018427387904)=>(show Af6 s bl s 10 from .inr ⟨hz,.inr ⟨hl,.inl ⟨hs,rfl,rfl⟩⟩⟩));have HOk:=Lh (fun(hz:Q5 bl.length=true) (hl:U7 s.e.ph=true) (hs:s.e.seq<4611686018427387904) S1 E (hR:Ai3 s s.e.kc (Bj1 s bl) S1 E)=>(show Af6 s bl (bif E==0 then Aq2 S1 else S1) E from .inr ⟨hz,.inr ⟨hl,.inr ⟨hs,S1,hR,rfl⟩⟩⟩));have HLk:=Lh (fun W=>Ak5 s.e.ph W);have HF:=Lh (fun W=>Bp7 bda bl.length bdc W);clear h hq hr hes hn hbl hks;go_enter Tryz.func16,Tryz.ntmps16
 go_upto_region 1 with(fail)
 generalize hW:World.alloc (World.alloc w _) _=W;obtain⟨B3,B6,hb⟩:=Al2 (a:=A5 s) (b:=I4) hW;clear hW;have B3:=Lh B3;have B6:=Lh B6;have G:=Lh hb;have N36:=Lh (show w.heap.size≠w.heap.size+1 by omega);have L3:=Lh (show w.heap.size≤w.heap.size by omega);have L6:=Lh (show w.heap.size≤w.heap.size+1 by omega);clear hb;generalize w.heap.size+1=n6 at B6 N36 L6 ⊢;generalize hn3:w.heap.size=n3 at B3 N36 ⊢;replace L3:=Lh (show w.heap.size≤n3 by omega);clear hn3;go_upto_region 2 with(first
  | (refine F7 46 (.tmp 9) rfl ?_;refine C9 46 (.tmp 9) n3 0 (by first | rfl | simp[Region.wanted,yielded]) rfl rfl B3.out.blk.atE Tryz.underlying46 rfl (SE.out _) ?_)
  | (refine F8 46 _ _ rfl ?_;refine I0 46 _ _ _ rfl rfl rfl rfl (A6.new _ _ _) (SE.out _) (by rw[I1];rfl) (Ai6 _) ?_;intro w5 hB8 hK;have B8:=Lh hB8;have N8:=Lh (show n3≠W.heap.size∧n6≠W.heap.size from⟨Nat.ne_of_lt B3.out.blk.lt,Nat.ne_of_lt B6.out.blk.lt⟩);replace B3:=Lh ((B3.out.up (ba _ _)).kp hK N8.out.1);replace B6:=Lh ((B6.out.up (ba _ _)).kp hK N8.out.2);have L8:=Lh G.out.size;replace G:=Lh (hK.below (bt G.out (ba _ _)) G.out.size);clear hB8 hK))
 generalize W.heap.size=n8 at B8 N8 L8 ⊢;go_wp2_with fail
 refine(HF.out _).mono ?_;rintro x w2 ⟨rfl,rfl⟩;clear HF;rcases hz2:Q5 bl.length with _ | _
 ·have HBd:=Lh (HBad.out hz2);clear hz2 HE HOk HBad HOff HSp HLk;go_wp2_with (first
   | (refine F7 51 (.tmp 2) rfl ?_;refine C4 51 (.tmp 2) n3 rfl rfl rfl B3.out.blk Tryz.underlying51 rfl (SZ.out _) ?_)
   | (refine F8 51 _ _ rfl ?_;refine I0 51 _ _ n6 rfl rfl rfl rfl B6.out (SZ.out _) (by rw[I7,D9]) (J2 _) ?_;intro w3 hB hK;replace B6:=Lh hB;replace G:=Lh (hK.below G.out L6.out);clear hB hK))
  (try simp only[Act.put,List.setIfInBounds_toArray,List.set_cons_zero,List.set_cons_succ])
  refine bodyPost_ret (F2 rfl _ _ n6 (cs:=A5 s) rfl _ rfl B6.out.blk Tryz.underlying51 rfl (SZ.out _)) rfl ?_;exact⟨s,1,rfl,HBd.out,HS.out.mono G.out,G.out⟩
 replace HOff:=Lh (HOff.out hz2);replace HSp:=Lh (HSp.out hz2);replace HOk:=Lh (HOk.out hz2);have Hz2:=Lh hz2;clear HBad hz2;have gp:=B8.out.blk.endIn.ph;go_wp2_with fail
 refine(HLk.out _).mono ?_;rintro x w2 ⟨rfl,rfl⟩;clear HLk gp;rcases hz1:U7 s.e.ph with _ | _
 ·have HBd:=Lh (HOff.out hz1);clear hz1 HE HOk HOff HSp;go_wp2_with (first
   | (refine F7 51 (.tmp 2) rfl ?_;refine C4 51 (.tmp 2) n3 rfl rfl rfl B3.out.blk Tryz.underlying51 rfl (SZ.out _) ?_)
   | (refine F8 51 _ _ rfl ?_;refine I0 51 _ _ n6 rfl rfl rfl rfl B6.out (SZ.out _) (by rw[I7,D9]) (J2 _) ?_;intro w3 hB hK;replace B6:=Lh hB;replace G:=Lh (hK.below G.out L6.out);clear hB hK))
  (try simp only[Act.put,List.setIfInBounds_toArray,List.set_cons_zero,List.set_cons_succ])
  refine bodyPost_ret (F2 rfl _ _ n6 (cs:=A5 s) rfl _ rfl B6.out.blk Tryz.underlying51 rfl (SZ.out _)) rfl ?_;exact⟨s,7,rfl,HBd.out,HS.out.mono G.out,G.out⟩
 replace HSp:=Lh (HSp.out hz1);replace HOk:=Lh (HOk.out hz1);replace HE:=Lh (HE.out hz1 Hz2.out);clear HOff hz1;have gs:=B8.out.blk.endIn.seq;by_cases hz3:s.e.seq=4611686018427387904
 ·have HBd:=Lh (HSp.out hz3);rw[hz3] at gs;clear hz3 HE HOk HSp;go_wp2_with (first
   | (refine F7 51 (.tmp 2) rfl ?_;refine C4 51 (.tmp 2) n3 rfl rfl rfl B3.out.blk Tryz.underlying51 rfl (SZ.out _) ?_)
   | (refine F8 51 _ _ rfl ?_;refine I0 51 _ _ n6 rfl rfl rfl rfl B6.out (SZ.out _) (by rw[I7,D9]) (J2 _) ?_;intro w3 hB hK;replace B6:=Lh hB;replace G:=Lh (hK.below G.out L6.out);clear hB hK))
  (try simp only[Act.put,List.setIfInBounds_toArray,List.set_cons_zero,List.set_cons_succ])
  refine bodyPost_ret (F2 rfl _ _ n6 (cs:=A5 s) rfl _ rfl B6.out.blk Tryz.underlying51 rfl (SZ.out _)) rfl ?_;exact⟨s,10,rfl,HBd.out,HS.out.mono G.out,G.out⟩
 have e3:(s.e.seq==4611686018427387904)=false:=by rw[beq_eq_false_iff_ne];exact hz3
 have h3:s.e.seq<4611686018427387904:=by have:=HR.out.seq;omega
 replace HOk:=Lh (HOk.out h3);have H3:=Lh h3;clear hz3 HSp h3;go_upto_region 8 with(fail)
 clear e3 gs;generalize hWr:w5=Wr at *;clear hWr;have Q6:=Lh (show ∀g,Wr.heap.size≤g→qq g∧g≠n6 from fun g hg=>⟨HQ.out g (Nat.le_trans G.out.size hg),Nat.ne_of_gt (Nat.lt_of_lt_of_le B6.out.blk.lt hg)⟩);refine Di3 (qq:=fun g=>qq g∧g≠n6) (R0:=Ai3 s s.e.kc (Bj1 s bl)) (Nat.le_refl _) rfl rfl (fun _ _ d _ _ h=>by cases d<;>exact h) B3.out rfl B8.out Q6.out (fun q2 u hu hc hc2=>HE.out q2 u (bt G.out hu) hc (fun g hg hp=>hc2 g (Nat.lt_of_lt_of_le hg G.out.size) ⟨hp,Nat.ne_of_lt (Nat.lt_of_lt_of_le hg L6.out)⟩)) ?_;intro x28 x29 x30 x31 x32 x33 x34 x35 x36 x37 x38 x39 x40 x41 x42 x43 x44 x45 x27 x46 x47 z S9 E9 w9 hB7 hLz hR hSQ hG;simp only[C6,Act.put,List.setIfInBounds_toArray,List.set_cons_zero,List.set_cons_succ];have B7:=Lh hB7;have R9:=Lh (HOk.out S9 E9 hR);have SQ:=Lh hSQ;have LZ:=Lh (show w.heap.size≤z from Nat.le_trans G.out.size hLz);have NZ:=Lh (show n6≠z from Nat.ne_of_lt (Nat.lt_of_lt_of_le B6.out.blk.lt hLz));replace B6:=Lh (B6.out.up hG);replace G:=Lh (bt G.out hG);have HC:=Lh (show E9=11∨(E9=0∧S9.e.seq=s.e.seq) from by
  rcases hR with⟨_,_,rfl⟩ | ⟨c,ta,tc,oa,oc,_,rfl,rfl⟩
  ·exact .inl rfl
  ·exact .inr ⟨rfl,rfl⟩)
 clear hB7 hR hSQ hG hLz HOk HE;rcases HC.out with rfl | ⟨rfl,hsq⟩
 ·go_wp2_with (first
   | (refine F7 51 (.tmp 7) rfl ?_;refine C4 51 (.tmp 7) z rfl rfl rfl B7.out.blk Tryz.underlying51 rfl (SZ.out _) ?_)
   | (refine F8 51 _ _ rfl ?_;refine I0 51 _ _ n6 rfl rfl rfl rfl B6.out (SZ.out _) (by rw[I7,D9]) (J2 _) ?_;intro w3 hB hK;replace SQ:=Lh (SQ.out.k8 (B6.out.k8 (by rfl) hK) fun g hg=>hg.1.2);replace B6:=Lh hB;replace G:=Lh (hK.below G.out L6.out);clear hB hK))
  (try simp only[Act.put,List.setIfInBounds_toArray,List.set_cons_zero,List.set_cons_succ])
  refine bodyPost_ret (F2 rfl _ _ n6 (cs:=A5 S9) rfl _ rfl B6.out.blk Tryz.underlying51 rfl (SZ.out _)) rfl ?_;exact⟨S9,11,rfl,R9.out,SQ.out.to (fun g hg hp=>hp.1.1),G.out⟩
 ·have gs:=B7.out.blk.siteIn.seq;have hw:IntKind.i64.wrap (S9.e.seq+1)=S9.e.seq+1:=Cl0 (by have:=HR.out.seq;omega) (by have:=HR.out.seq;have:=H3.out;omega);clear hsq;go_wp2_with (first
   | (refine F8 3 (.tmp 55) (.tmp 53) rfl ?_;refine S7 3 (.tmp 55) (.tmp 53) z 9 rfl rfl rfl rfl B7.out (by rw[D9];decide) (by kernel_rfl) rfl (Bp1 S9 (S9.e.seq+1)) ?_;intro w3 hB hK;replace SQ:=Lh (SQ.out.k8 (B7.out.k8 (Q3 _) hK) fun g hg=>hg.2);replace B7:=Lh hB;replace B6:=Lh (B6.out.kp hK NZ.out);replace G:=Lh (hK.below G.out LZ.out);clear hB hK gs)
   | (refine F7 51 (.tmp 7) rfl ?_;refine C4 51 (.tmp 7) z rfl rfl rfl B7.out.blk Tryz.underlying51 rfl (SZ.out _) ?_)
   | (refine F8 51 _ _ rfl ?_;refine I0 51 _ _ n6 rfl rfl rfl rfl B6.out (SZ.out _) (by rw[I7,D9]) (J2 _) ?_;intro w3 hB hK;replace SQ:=Lh (SQ.out.k8 (B6.out.k8 (by rfl) hK) fun g hg=>hg.1.2);replace B6:=Lh hB;replace G:=Lh (hK.below G.out L6.out);clear hB hK))
  (try simp only[Act.put,List.setIfInBounds_toArray,List.set_cons_zero,List.set_cons_succ])
  refine bodyPost_ret (F2 rfl _ _ n6 (cs:=A5 (Aq2 S9)) rfl _ rfl B6.out.blk Tryz.underlying51 rfl (SZ.out _)) rfl ?_;exact⟨Aq2 S9,0,rfl,R9.out,(SQ.out.to (fun g hg hp=>hp.1.1)).seq,G.out⟩
theorem Cy6(s:Sv)(bda:Option Addr)(bdc:Nat)(bl:List UInt8)(w:World)(qq:Nat→Prop)(hq:∀g,w.heap.size≤g→qq g)(h:J5 qq w s)(hr:X8 s.e=true)(hes:s.es.length≤900)(hn:s.e.o.length≤1000)(hbl:A4 w bda bl):
 Calls Tryz.prog 17 #[.agg (A5 s).toArray,.slice bda bl.length bdc] w (Ag1 qq w (Af6 s bl)):=by
 have SZ:=Lh (show ∀S:Sv,(Tryz.prog.info? 51).map (·.size)=some (A5 S).length from fun S=>by rw[D9];exact M6);have SE:=Lh (show ∀E:Ev,(Tryz.prog.info? 46).map (·.size)=some (A8 E).length from fun E=>by rw[I1];exact Q1);have HS:=Lh h;have HQ:=Lh hq;have HR:=Lh (Al7 hr);have HE:=Lh (fun(z1:U7 s.e.ph=true) (z2:Q5 bl.length=true) (q2:Nat→Prop) (u:World) (hb:Below w.heap.size w u) (hc:∀g,u.heap.size≤g→q2 g) (hc2:∀g,g<w.heap.size→qq g→q2 g)=>
  (show Calls Tryz.prog 58 #[.agg (A5 s).toArray,.agg #[.int .i64 2,.int .i64 s.e.id,.int .i64 (C8 s.e).1,.int .i64 (C8 s.e).2,.int .i64 s.e.r.c.no,.int .i64 s.e.seq,.slice bda bl.length bdc,.slice none 0 0],.slice s.e.r.c.a s.e.r.c.len s.e.r.c.cap] u (Ag1 q2 u (Ai3 s s.e.kc (Bj1 s bl))) from by
  have f:=Al7 hr;have b:=Bl2 z2;have pb:=Bc4 (e:=s.e) f.id f.own f.oth;have cu:=f.cur z1;have kl:s.e.kc.length=32:=by rw[←h.e.r.lc];exact cu.2.2
  have k2:=Bw1 s 2 s.e.id.toNat (C8 s.e).1.toNat (C8 s.e).2.toNat s.e.r.c.no.toNat s.e.seq.toNat bda bdc bl s.e.r.c.a s.e.r.c.cap s.e.kc u q2 hc ((h.to hc2).mono hb) ⟨by decide,by decide,by have:=f.id;omega,by omega,by omega,by omega,by have:=f.seq;omega,b.1,b.2⟩ (hbl.mono hb) (h.e.r.c.mono hb) (by omega) (by rw[←h.e.r.lc];exact h.e.rc) f.nx hes hn;rw[←h.e.r.lc,Ac7 f.id.1,Ac7 pb.1.1,Ac7 pb.2.1,Ac7 (show 0≤s.e.r.c.no by omega),Ac7 f.seq.1] at k2;exact k2))
 have HBad:=Lh (fun(hz:Q5 bl.length=false)=>(show Af6 s bl s 1 from .inl ⟨hz,rfl,rfl⟩));have HOff:=Lh (fun(hz:Q5 bl.length=true) (hl:U7 s.e.ph=false)=>(show Af6 s bl s 7 from .inr ⟨hz,.inl ⟨hl,rfl,rfl⟩⟩));have HSp:=Lh (fun(hz:Q5 bl.length=true) (hl:U7 s.e.ph=true) (hs:s.e.seq=4611686018427387904)=>(show Af6 s bl s 10 from .inr ⟨hz,.inr ⟨hl,.inl ⟨hs,rfl,rfl⟩⟩⟩));have HOk:=Lh (fun(hz:Q5 bl.length=true) (hl:U7 s.e.ph=true) (hs:s.e.seq<4611686018427387904) S1 E (hR:Ai3 s s.e.kc (Bj1 s bl) S1 E)=>(show Af6 s bl (bif E==0 then Aq2 S1 else S1) E from .inr ⟨hz,.inr ⟨hl,.inr ⟨hs,S1,hR,rfl⟩⟩⟩));have HLk:=Lh (fun W=>Bp3 s.e.ph W);clear h hq hr hes hn hbl;go_enter Tryz.func17,Tryz.ntmps17
 go_upto_region 1 with(fail)
 generalize hW:World.alloc (World.alloc w _) _=W;obtain⟨B3,B6,hb⟩:=Al2 (a:=A5 s) (b:=I4) hW;clear hW;have B3:=Lh B3;have B6:=Lh B6;have G:=Lh hb;have N36:=Lh (show w.heap.size≠w.heap.size+1 by omega);have L3:=Lh (show w.heap.size≤w.heap.size by omega);have L6:=Lh (show w.heap.size≤w.heap.size+1 by omega);clear hb;generalize w.heap.size+1=n6 at B6 N36 L6 ⊢;generalize hn3:w.heap.size=n3 at B3 N36 ⊢;replace L3:=Lh (show w.heap.size≤n3 by omega);clear hn3;by_cases hz2:¬(1≤bl.length∧bl.length≤900)
 ·have HBd:=Lh (HBad.out (by unfold Q5;exact decide_eq_false hz2));clear HE HOk HBad HOff HSp HLk;by_cases a1:(bl.length:Int)<1
  ·clear hz2;go_wp2_with (first
    | (refine F7 51 (.tmp 2) rfl ?_;refine C4 51 (.tmp 2) n3 rfl rfl rfl B3.out.blk Tryz.underlying51 rfl (SZ.out _) ?_)
    | (refine F8 51 _ _ rfl ?_;refine I0 51 _ _ n6 rfl rfl rfl rfl B6.out (SZ.out _) (by rw[I7,D9]) (J2 _) ?_;intro w3 hB hK;replace B6:=Lh hB;replace G:=Lh (hK.below G.out L6.out);clear hB hK))
   (try simp only[Act.put,List.setIfInBounds_toArray,List.set_cons_zero,List.set_cons_succ])
   refine bodyPost_ret (F2 rfl _ _ n6 (cs:=A5 s) rfl _ rfl B6.out.blk Tryz.underlying51 rfl (SZ.out _)) rfl ?_;exact⟨s,1,rfl,HBd.out,HS.out.mono G.out,G.out⟩
  ·have a2:(900:Int)<(bl.length:Int):=by omega
   clear hz2;go_wp2_with (first
    | (refine F7 51 (.tmp 2) rfl ?_;refine C4 51 (.tmp 2) n3 rfl rfl rfl B3.out.blk Tryz.underlying51 rfl (SZ.out _) ?_)
    | (refine F8 51 _ _ rfl ?_;refine I0 51 _ _ n6 rfl rfl rfl rfl B6.out (SZ.out _) (by rw[I7,D9]) (J2 _) ?_;intro w3 hB hK;replace B6:=Lh hB;replace G:=Lh (hK.below G.out L6.out);clear hB hK))
   (try simp only[Act.put,List.setIfInBounds_toArray,List.set_cons_zero,List.set_cons_succ])
   refine bodyPost_ret (F2 rfl _ _ n6 (cs:=A5 s) rfl _ rfl B6.out.blk Tryz.underlying51 rfl (SZ.out _)) rfl ?_;exact⟨s,1,rfl,HBd.out,HS.out.mono G.out,G.out⟩
 replace hz2:1≤bl.length∧bl.length≤900:=by omega
 have a1:¬(bl.length:Int)<1:=by omega
 have a2:¬(900:Int)<(bl.length:Int):=by omega
 replace hz2:Q5 bl.length=true:=by unfold Q5;exact decide_eq_true hz2
 replace HOff:=Lh (HOff.out hz2);replace HSp:=Lh (HSp.out hz2);replace HOk:=Lh (HOk.out hz2);have Hz2:=Lh hz2;clear HBad hz2;have gp:=B3.out.blk.siteIn.ph;go_wp2_with fail
 refine(HLk.out _).mono ?_;rintro x w2 ⟨rfl,rfl⟩;clear HLk gp;rcases hz1:U7 s.e.ph with _ | _
 ·have HBd:=Lh (HOff.out hz1);clear hz1 HE HOk HOff HSp;go_wp2_with (first
   | (refine F7 51 (.tmp 2) rfl ?_;refine C4 51 (.tmp 2) n3 rfl rfl rfl B3.out.blk Tryz.underlying51 rfl (SZ.out _) ?_)
   | (refine F8 51 _ _ rfl ?_;refine I0 51 _ _ n6 rfl rfl rfl rfl B6.out (SZ.out _) (by rw[I7,D9]) (J2 _) ?_;intro w3 hB hK;replace B6:=Lh hB;replace G:=Lh (hK.below G.out L6.out);clear hB hK))
  (try simp only[Act.put,List.setIfInBounds_toArray,List.set_cons_zero,List.set_cons_succ])
  refine bodyPost_ret (F2 rfl _ _ n6 (cs:=A5 s) rfl _ rfl B6.out.blk Tryz.underlying51 rfl (SZ.out _)) rfl ?_;exact⟨s,7,rfl,HBd.out,HS.out.mono G.out,G.out⟩
 replace HSp:=Lh (HSp.out hz1);replace HOk:=Lh (HOk.out hz1);replace HE:=Lh (HE.out hz1 Hz2.out);clear HOff hz1;have gs:=B3.out.blk.siteIn.seq;by_cases hz3:s.e.seq=4611686018427387904
 ·have HBd:=Lh (HSp.out hz3);rw[hz3] at gs;clear hz3 HE HOk HSp;go_wp2_with (first
   | (refine F7 51 (.tmp 2) rfl ?_;refine C4 51 (.tmp 2) n3 rfl rfl rfl B3.out.blk Tryz.underlying51 rfl (SZ.out _) ?_)
   | (refine F8 51 _ _ rfl ?_;refine I0 51 _ _ n6 rfl rfl rfl rfl B6.out (SZ.out _) (by rw[I7,D9]) (J2 _) ?_;intro w3 hB hK;replace B6:=Lh hB;replace G:=Lh (hK.below G.out L6.out);clear hB hK))
  (try simp only[Act.put,List.setIfInBounds_toArray,List.set_cons_zero,List.set_cons_succ])
  refine bodyPost_ret (F2 rfl _ _ n6 (cs:=A5 s) rfl _ rfl B6.out.blk Tryz.underlying51 rfl (SZ.out _)) rfl ?_;exact⟨s,10,rfl,HBd.out,HS.out.mono G.out,G.out⟩
 have e3:(s.e.seq==4611686018427387904)=false:=by rw[beq_eq_false_iff_ne];exact hz3
 have h3:s.e.seq<4611686018427387904:=by have:=HR.out.seq;omega
 replace HOk:=Lh (HOk.out h3);have H3:=Lh h3;clear hz3 HSp h3;go_upto_region 8 with(fail)
 clear e3 gs a1 a2;generalize hWr:W=Wr at *;clear hWr;have Q6:=Lh (show ∀g,Wr.heap.size≤g→qq g∧g≠n6 from fun g hg=>⟨HQ.out g (Nat.le_trans G.out.size hg),Nat.ne_of_gt (Nat.lt_of_lt_of_le B6.out.blk.lt hg)⟩);refine Di5 (qq:=fun g=>qq g∧g≠n6) (R0:=Ai3 s s.e.kc (Bj1 s bl)) (Nat.le_refl _) rfl rfl (fun _ _ d _ _ h=>by cases d<;>exact h) B3.out Q6.out (fun q2 u hu hc hc2=>HE.out q2 u (bt G.out hu) hc (fun g hg hp=>hc2 g (Nat.lt_of_lt_of_le hg G.out.size) ⟨hp,Nat.ne_of_lt (Nat.lt_of_lt_of_le hg L6.out)⟩)) ?_;intro x31 x32 x33 x34 x35 x36 x37 x38 x39 x40 x41 x42 x43 x44 x45 x46 x47 x48 x49 x50 x51 x52 x53 x30 x54 x55 z S9 E9 w9 hB7 hLz hR hSQ hG;simp only[C6,Act.put,List.setIfInBounds_toArray,List.set_cons_zero,List.set_cons_succ];have B7:=Lh hB7;have R9:=Lh (HOk.out S9 E9 hR);have SQ:=Lh hSQ;have LZ:=Lh (show w.heap.size≤z from Nat.le_trans G.out.size hLz);have NZ:=Lh (show n6≠z from Nat.ne_of_lt (Nat.lt_of_lt_of_le B6.out.blk.lt hLz));replace B6:=Lh (B6.out.up hG);replace G:=Lh (bt G.out hG);have HC:=Lh (show E9=11∨(E9=0∧S9.e.seq=s.e.seq) from by
  rcases hR with⟨_,_,rfl⟩ | ⟨c,ta,tc,oa,oc,_,rfl,rfl⟩
  ·exact .inl rfl
  ·exact .inr ⟨rfl,rfl⟩)
 clear hB7 hR hSQ hG hLz HOk HE;rcases HC.out with rfl | ⟨rfl,hsq⟩
 ·go_wp2_with (first
   | (refine F7 51 (.tmp 7) rfl ?_;refine C4 51 (.tmp 7) z rfl rfl rfl B7.out.blk Tryz.underlying51 rfl (SZ.out _) ?_)
   | (refine F8 51 _ _ rfl ?_;refine I0 51 _ _ n6 rfl rfl rfl rfl B6.out (SZ.out _) (by rw[I7,D9]) (J2 _) ?_;intro w3 hB hK;replace SQ:=Lh (SQ.out.k8 (B6.out.k8 (by rfl) hK) fun g hg=>hg.1.2);replace B6:=Lh hB;replace G:=Lh (hK.below G.out L6.out);clear hB hK))
  (try simp only[Act.put,List.setIfInBounds_toArray,List.set_cons_zero,List.set_cons_succ])
  refine bodyPost_ret (F2 rfl _ _ n6 (cs:=A5 S9) rfl _ rfl B6.out.blk Tryz.underlying51 rfl (SZ.out _)) rfl ?_;exact⟨S9,11,rfl,R9.out,SQ.out.to (fun g hg hp=>hp.1.1),G.out⟩
 ·have gs:=B7.out.blk.siteIn.seq;have hw:IntKind.i64.wrap (S9.e.seq+1)=S9.e.seq+1:=Cl0 (by have:=HR.out.seq;omega) (by have:=HR.out.seq;have:=H3.out;omega);clear hsq;go_wp2_with (first
   | (refine F8 3 (.tmp 63) (.tmp 61) rfl ?_;refine S7 3 (.tmp 63) (.tmp 61) z 9 rfl rfl rfl rfl B7.out (by rw[D9];decide) (by kernel_rfl) rfl (Bp1 S9 (S9.e.seq+1)) ?_;intro w3 hB hK;replace SQ:=Lh (SQ.out.k8 (B7.out.k8 (Q3 _) hK) fun g hg=>hg.2);replace B7:=Lh hB;replace B6:=Lh (B6.out.kp hK NZ.out);replace G:=Lh (hK.below G.out LZ.out);clear hB hK gs)
   | (refine F7 51 (.tmp 7) rfl ?_;refine C4 51 (.tmp 7) z rfl rfl rfl B7.out.blk Tryz.underlying51 rfl (SZ.out _) ?_)
   | (refine F8 51 _ _ rfl ?_;refine I0 51 _ _ n6 rfl rfl rfl rfl B6.out (SZ.out _) (by rw[I7,D9]) (J2 _) ?_;intro w3 hB hK;replace SQ:=Lh (SQ.out.k8 (B6.out.k8 (by rfl) hK) fun g hg=>hg.1.2);replace B6:=Lh hB;replace G:=Lh (hK.below G.out L6.out);clear hB hK))
  (try simp only[Act.put,List.setIfInBounds_toArray,List.set_cons_zero,List.set_cons_succ])
  refine bodyPost_ret (F2 rfl _ _ n6 (cs:=A5 (Aq2 S9)) rfl _ rfl B6.out.blk Tryz.underlying51 rfl (SZ.out _)) rfl ?_;exact⟨Aq2 S9,0,rfl,R9.out,(SQ.out.to (fun g hg hp=>hp.1.1)).seq,G.out⟩
theorem Bg5(a b c d:Value)(w:World):(Instr.index 140 (.agg #[a,b,c,d]) (.int .i64 0)).run Tryz.prog w=.ok a w:=by kernel_rfl
theorem Bg6(a b c d:Value)(w:World):(Instr.index 140 (.agg #[a,b,c,d]) (.int .i64 1)).run Tryz.prog w=.ok b w:=by kernel_rfl
theorem Bg7(a b c d:Value)(w:World):(Instr.index 140 (.agg #[a,b,c,d]) (.int .i64 2)).run Tryz.prog w=.ok c w:=by kernel_rfl
theorem Bg8(a b c d:Value)(w:World):(Instr.index 140 (.agg #[a,b,c,d]) (.int .i64 3)).run Tryz.prog w=.ok d w:=by kernel_rfl
def Aq3(s:Sv)(b:Int):Sv:=
 if b=2 then s.on (s.e.s_c0 (wrap64 (s.e.c0+1))) else if b=5 then s.on (s.e.s_c1 (wrap64 (s.e.c1+1)))
 else if b=6 then s.on (s.e.s_c2 (wrap64 (s.e.c2+1))) else if b=13 then s.on (s.e.s_c3 (wrap64 (s.e.c3+1))) else s
theorem J5.bump{q:Nat→Prop}{w:World}{S:Sv}(h:J5 q w S)(b:Int):J5 q w (Aq3 S b):=by
 unfold Aq3;repeat' split
 all_goals first | exact h | exact⟨⟨h.e.k,h.e.s1,h.e.s2,h.e.r,h.e.rc,h.e.ro,h.e.rp,h.e.q,h.e.ql,h.e.u,h.e.ul,h.e.h,h.e.hl,h.e.o,h.e.ol,h.e.g,h.e.gl,h.e.wt⟩,h.p,h.pl⟩
theorem Di6(s:Sv)(w:World):
 Calls Tryz.prog 22 #[.agg (A5 s).toArray,.int .i64 2] w fun x w'=>x=.returned (.agg (A5 (s.on (s.e.s_c0 (wrap64 (s.e.c0+1))))).toArray)∧Below w.heap.size w w':=by
 have SZ:=Lh (show ∀S:Sv,(Tryz.prog.info? 51).map (·.size)=some (A5 S).length from fun S=>by rw[D9];exact M6);go_enter Tryz.func22,Tryz.ntmps22
 go_upto_region 1 with(fail)
 generalize hW:World.alloc (World.alloc w _) _=W;obtain⟨B3,B6,hb⟩:=Al2 (a:=A5 s) (b:=I4) hW;clear hW;have B3:=Lh B3;have B6:=Lh B6;have G:=Lh hb;have N36:=Lh (show w.heap.size≠w.heap.size+1 by omega);have L3:=Lh (show w.heap.size≤w.heap.size by omega);have L6:=Lh (show w.heap.size≤w.heap.size+1 by omega);clear hb;generalize w.heap.size+1=n6 at B6 N36 L6 ⊢;generalize hn3:w.heap.size=n3 at B3 N36 ⊢;replace L3:=Lh (show w.heap.size≤n3 by omega);clear hn3;have gc0:=B3.out.blk.siteIn.c0;have hi0:=Bg5;have hi1:=Bg6;have hi2:=Bg7;have hi3:=Bg8;go_wp2_with fail
 refine wp_loop_rounds 5 ?_;rw[rounds_succ];go_wp2_with (first
  | (refine F8 3 (.tmp 23) (.tmp 20) rfl ?_;refine F8 3 (.tmp 23) (.tmp 20) rfl ?_;refine S7 3 (.tmp 23) (.tmp 20) n3 66 rfl rfl rfl rfl B3.out (by rw[D9];decide) (by kernel_rfl) rfl (Cs1 s (wrap64 (s.e.c0+1))) ?_;intro w3 hB hK;replace B6:=Lh (B6.out.kp hK N36.out.symm);replace B3:=Lh hB;replace G:=Lh (hK.below G.out L3.out);clear hB hK gc0))
 rw[rounds_succ];go_wp2_with fail
 rw[rounds_succ];go_wp2_with fail
 rw[rounds_succ];go_wp2_with fail
 rw[rounds_succ];go_wp2_with (first
  | (refine F7 51 (.tmp 2) rfl ?_;refine F7 51 (.tmp 2) rfl ?_;refine C4 51 (.tmp 2) n3 rfl rfl rfl B3.out.blk Tryz.underlying51 rfl (SZ.out _) ?_)
  | (refine F8 51 _ _ rfl ?_;refine F8 51 _ _ rfl ?_;refine I0 51 _ _ n6 rfl rfl rfl rfl B6.out (SZ.out _) (by rw[I7,D9]) (J2 _) ?_;intro w3 hB hK;replace B6:=Lh hB;replace G:=Lh (hK.below G.out L6.out);clear hB hK))
 (try simp only[Act.put,List.setIfInBounds_toArray,List.set_cons_zero,List.set_cons_succ])
 refine bodyPost_ret (O3 rfl _ _ n6 (cs:=A5 (s.on (s.e.s_c0 (wrap64 (s.e.c0+1))))) rfl B6.out.blk Tryz.underlying51 rfl (SZ.out _)) rfl ?_;exact⟨rfl,G.out⟩
theorem Di7(s:Sv)(w:World):
 Calls Tryz.prog 22 #[.agg (A5 s).toArray,.int .i64 5] w fun x w'=>x=.returned (.agg (A5 (s.on (s.e.s_c1 (wrap64 (s.e.c1+1))))).toArray)∧Below w.heap.size w w':=by
 have SZ:=Lh (show ∀S:Sv,(Tryz.prog.info? 51).map (·.size)=some (A5 S).length from fun S=>by rw[D9];exact M6);go_enter Tryz.func22,Tryz.ntmps22
 go_upto_region 1 with(fail)
 generalize hW:World.alloc (World.alloc w _) _=W;obtain⟨B3,B6,hb⟩:=Al2 (a:=A5 s) (b:=I4) hW;clear hW;have B3:=Lh B3;have B6:=Lh B6;have G:=Lh hb;have N36:=Lh (show w.heap.size≠w.heap.size+1 by omega);have L3:=Lh (show w.heap.size≤w.heap.size by omega);have L6:=Lh (show w.heap.size≤w.heap.size+1 by omega);clear hb;generalize w.heap.size+1=n6 at B6 N36 L6 ⊢;generalize hn3:w.heap.size=n3 at B3 N36 ⊢;replace L3:=Lh (show w.heap.size≤n3 by omega);clear hn3;have gc1:=B3.out.blk.siteIn.c1;have hi0:=Bg5;have hi1:=Bg6;have hi2:=Bg7;have hi3:=Bg8;go_wp2_with fail
 refine wp_loop_rounds 5 ?_;rw[rounds_succ];go_wp2_with fail
 rw[rounds_succ];go_wp2_with (first
  | (refine F8 3 (.tmp 23) (.tmp 20) rfl ?_;refine F8 3 (.tmp 23) (.tmp 20) rfl ?_;refine S7 3 (.tmp 23) (.tmp 20) n3 67 rfl rfl rfl rfl B3.out (by rw[D9];decide) (by kernel_rfl) rfl (Cs2 s (wrap64 (s.e.c1+1))) ?_;intro w3 hB hK;replace B6:=Lh (B6.out.kp hK N36.out.symm);replace B3:=Lh hB;replace G:=Lh (hK.below G.out L3.out);clear hB hK gc1))
 rw[rounds_succ];go_wp2_with fail
 rw[rounds_succ];go_wp2_with fail
 rw[rounds_succ];go_wp2_with (first
  | (refine F7 51 (.tmp 2) rfl ?_;refine F7 51 (.tmp 2) rfl ?_;refine C4 51 (.tmp 2) n3 rfl rfl rfl B3.out.blk Tryz.underlying51 rfl (SZ.out _) ?_)
  | (refine F8 51 _ _ rfl ?_;refine F8 51 _ _ rfl ?_;refine I0 51 _ _ n6 rfl rfl rfl rfl B6.out (SZ.out _) (by rw[I7,D9]) (J2 _) ?_;intro w3 hB hK;replace B6:=Lh hB;replace G:=Lh (hK.below G.out L6.out);clear hB hK))
 (try simp only[Act.put,List.setIfInBounds_toArray,List.set_cons_zero,List.set_cons_succ])
 refine bodyPost_ret (O3 rfl _ _ n6 (cs:=A5 (s.on (s.e.s_c1 (wrap64 (s.e.c1+1))))) rfl B6.out.blk Tryz.underlying51 rfl (SZ.out _)) rfl ?_;exact⟨rfl,G.out⟩
theorem Di8(s:Sv)(w:World):
 Calls Tryz.prog 22 #[.agg (A5 s).toArray,.int .i64 6] w fun x w'=>x=.returned (.agg (A5 (s.on (s.e.s_c2 (wrap64 (s.e.c2+1))))).toArray)∧Below w.heap.size w w':=by
 have SZ:=Lh (show ∀S:Sv,(Tryz.prog.info? 51).map (·.size)=some (A5 S).length from fun S=>by rw[D9];exact M6);go_enter Tryz.func22,Tryz.ntmps22
 go_upto_region 1 with(fail)
 generalize hW:World.alloc (World.alloc w _) _=W;obtain⟨B3,B6,hb⟩:=Al2 (a:=A5 s) (b:=I4) hW;clear hW;have B3:=Lh B3;have B6:=Lh B6;have G:=Lh hb;have N36:=Lh (show w.heap.size≠w.heap.size+1 by omega);have L3:=Lh (show w.heap.size≤w.heap.size by omega);have L6:=Lh (show w.heap.size≤w.heap.size+1 by omega);clear hb;generalize w.heap.size+1=n6 at B6 N36 L6 ⊢;generalize hn3:w.heap.size=n3 at B3 N36 ⊢;replace L3:=Lh (show w.heap.size≤n3 by omega);clear hn3;have gc2:=B3.out.blk.siteIn.c2;have hi0:=Bg5;have hi1:=Bg6;have hi2:=Bg7;have hi3:=Bg8;go_wp2_with fail
 refine wp_loop_rounds 5 ?_;rw[rounds_succ];go_wp2_with fail
 rw[rounds_succ];go_wp2_with fail
 rw[rounds_succ];go_wp2_with (first
  | (refine F8 3 (.tmp 23) (.tmp 20) rfl ?_;refine F8 3 (.tmp 23) (.tmp 20) rfl ?_;refine S7 3 (.tmp 23) (.tmp 20) n3 68 rfl rfl rfl rfl B3.out (by rw[D9];decide) (by kernel_rfl) rfl (Cs3 s (wrap64 (s.e.c2+1))) ?_;intro w3 hB hK;replace B6:=Lh (B6.out.kp hK N36.out.symm);replace B3:=Lh hB;replace G:=Lh (hK.below G.out L3.out);clear hB hK gc2))
 rw[rounds_succ];go_wp2_with fail
 rw[rounds_succ];go_wp2_with (first
  | (refine F7 51 (.tmp 2) rfl ?_;refine F7 51 (.tmp 2) rfl ?_;refine C4 51 (.tmp 2) n3 rfl rfl rfl B3.out.blk Tryz.underlying51 rfl (SZ.out _) ?_)
  | (refine F8 51 _ _ rfl ?_;refine F8 51 _ _ rfl ?_;refine I0 51 _ _ n6 rfl rfl rfl rfl B6.out (SZ.out _) (by rw[I7,D9]) (J2 _) ?_;intro w3 hB hK;replace B6:=Lh hB;replace G:=Lh (hK.below G.out L6.out);clear hB hK))
 (try simp only[Act.put,List.setIfInBounds_toArray,List.set_cons_zero,List.set_cons_succ])
 refine bodyPost_ret (O3 rfl _ _ n6 (cs:=A5 (s.on (s.e.s_c2 (wrap64 (s.e.c2+1))))) rfl B6.out.blk Tryz.underlying51 rfl (SZ.out _)) rfl ?_;exact⟨rfl,G.out⟩
theorem Di9(s:Sv)(w:World):
 Calls Tryz.prog 22 #[.agg (A5 s).toArray,.int .i64 13] w fun x w'=>x=.returned (.agg (A5 (s.on (s.e.s_c3 (wrap64 (s.e.c3+1))))).toArray)∧Below w.heap.size w w':=by
 have SZ:=Lh (show ∀S:Sv,(Tryz.prog.info? 51).map (·.size)=some (A5 S).length from fun S=>by rw[D9];exact M6);go_enter Tryz.func22,Tryz.ntmps22
 go_upto_region 1 with(fail)
 generalize hW:World.alloc (World.alloc w _) _=W;obtain⟨B3,B6,hb⟩:=Al2 (a:=A5 s) (b:=I4) hW;clear hW;have B3:=Lh B3;have B6:=Lh B6;have G:=Lh hb;have N36:=Lh (show w.heap.size≠w.heap.size+1 by omega);have L3:=Lh (show w.heap.size≤w.heap.size by omega);have L6:=Lh (show w.heap.size≤w.heap.size+1 by omega);clear hb;generalize w.heap.size+1=n6 at B6 N36 L6 ⊢;generalize hn3:w.heap.size=n3 at B3 N36 ⊢;replace L3:=Lh (show w.heap.size≤n3 by omega);clear hn3;have gc3:=B3.out.blk.siteIn.c3;have hi0:=Bg5;have hi1:=Bg6;have hi2:=Bg7;have hi3:=Bg8;go_wp2_with fail
 refine wp_loop_rounds 5 ?_;rw[rounds_succ];go_wp2_with fail
 rw[rounds_succ];go_wp2_with fail
 rw[rounds_succ];go_wp2_with fail
 rw[rounds_succ];go_wp2_with (first
  | (refine F8 3 (.tmp 23) (.tmp 20) rfl ?_;refine F8 3 (.tmp 23) (.tmp 20) rfl ?_;refine S7 3 (.tmp 23) (.tmp 20) n3 69 rfl rfl rfl rfl B3.out (by rw[D9];decide) (by kernel_rfl) rfl (Cs4 s (wrap64 (s.e.c3+1))) ?_;intro w3 hB hK;replace B6:=Lh (B6.out.kp hK N36.out.symm);replace B3:=Lh hB;replace G:=Lh (hK.below G.out L3.out);clear hB hK gc3))
 rw[rounds_succ];go_wp2_with (first
  | (refine F7 51 (.tmp 2) rfl ?_;refine F7 51 (.tmp 2) rfl ?_;refine C4 51 (.tmp 2) n3 rfl rfl rfl B3.out.blk Tryz.underlying51 rfl (SZ.out _) ?_)
  | (refine F8 51 _ _ rfl ?_;refine F8 51 _ _ rfl ?_;refine I0 51 _ _ n6 rfl rfl rfl rfl B6.out (SZ.out _) (by rw[I7,D9]) (J2 _) ?_;intro w3 hB hK;replace B6:=Lh hB;replace G:=Lh (hK.below G.out L6.out);clear hB hK))
 (try simp only[Act.put,List.setIfInBounds_toArray,List.set_cons_zero,List.set_cons_succ])
 refine bodyPost_ret (O3 rfl _ _ n6 (cs:=A5 (s.on (s.e.s_c3 (wrap64 (s.e.c3+1))))) rfl B6.out.blk Tryz.underlying51 rfl (SZ.out _)) rfl ?_;exact⟨rfl,G.out⟩
theorem Dj0(s:Sv)(b:Int)(h0:(2==b)=false)(h1:(5==b)=false)(h2:(6==b)=false)(h3:(13==b)=false)(w:World):
 Calls Tryz.prog 22 #[.agg (A5 s).toArray,.int .i64 b] w fun x w'=>x=.returned (.agg (A5 (s)).toArray)∧Below w.heap.size w w':=by
 have SZ:=Lh (show ∀S:Sv,(Tryz.prog.info? 51).map (·.size)=some (A5 S).length from fun S=>by rw[D9];exact M6);go_enter Tryz.func22,Tryz.ntmps22
 go_upto_region 1 with(fail)
 generalize hW:World.alloc (World.alloc w _) _=W;obtain⟨B3,B6,hb⟩:=Al2 (a:=A5 s) (b:=I4) hW;clear hW;have B3:=Lh B3;have B6:=Lh B6;have G:=Lh hb;have N36:=Lh (show w.heap.size≠w.heap.size+1 by omega);have L3:=Lh (show w.heap.size≤w.heap.size by omega);have L6:=Lh (show w.heap.size≤w.heap.size+1 by omega);clear hb;generalize w.heap.size+1=n6 at B6 N36 L6 ⊢;generalize hn3:w.heap.size=n3 at B3 N36 ⊢;replace L3:=Lh (show w.heap.size≤n3 by omega);clear hn3;have hi0:=Bg5;have hi1:=Bg6;have hi2:=Bg7;have hi3:=Bg8;go_wp2_with fail
 refine wp_loop_rounds 5 ?_;rw[rounds_succ];go_wp2_with fail
 rw[rounds_succ];go_wp2_with fail
 rw[rounds_succ];go_wp2_with fail
 rw[rounds_succ];go_wp2_with fail
 rw[rounds_succ];go_wp2_with (first
  | (refine F7 51 (.tmp 2) rfl ?_;refine F7 51 (.tmp 2) rfl ?_;refine C4 51 (.tmp 2) n3 rfl rfl rfl B3.out.blk Tryz.underlying51 rfl (SZ.out _) ?_)
  | (refine F8 51 _ _ rfl ?_;refine F8 51 _ _ rfl ?_;refine I0 51 _ _ n6 rfl rfl rfl rfl B6.out (SZ.out _) (by rw[I7,D9]) (J2 _) ?_;intro w3 hB hK;replace B6:=Lh hB;replace G:=Lh (hK.below G.out L6.out);clear hB hK))
 (try simp only[Act.put,List.setIfInBounds_toArray,List.set_cons_zero,List.set_cons_succ])
 refine bodyPost_ret (O3 rfl _ _ n6 (cs:=A5 (s)) rfl B6.out.blk Tryz.underlying51 rfl (SZ.out _)) rfl ?_;exact⟨rfl,G.out⟩
theorem Cm1(s:Sv)(b:Int)(w:World):Calls Tryz.prog 22 #[.agg (A5 s).toArray,.int .i64 b] w fun x w'=>x=.returned (.agg (A5 (Aq3 s b)).toArray)∧Below w.heap.size w w':=by
 unfold Aq3;split
 ·rename_i h;subst h;exact Di6 s w
 split
 ·rename_i h;subst h;exact Di7 s w
 split
 ·rename_i h;subst h;exact Di8 s w
 split
 ·rename_i h;subst h;exact Di9 s w
 ·exact Dj0 s b (by simp only[beq_eq_false_iff_ne,ne_eq];omega) (by simp only[beq_eq_false_iff_ne,ne_eq];omega) (by simp only[beq_eq_false_iff_ne,ne_eq];omega) (by simp only[beq_eq_false_iff_ne,ne_eq];omega) w
def Z0(e:Ev)(k d e0 e1 g:Int):Bool:=
 bif (d != wrap64 (1-e.id)) || ((e.ph==7) || (e.ph==8)) then true else bif k==1 then false
 else(!U7 e.ph) || ((!(P9 e.r g).2) || ((e0 != (C8 e).1) || (e1 != (C8 e).2)))
theorem Ay1(n:Int)(w:World):Calls Tryz.prog 63 #[.bool true,.int .i64 n] w fun x w'=>x=.returned (.tuple #[])∧w=w':=by
 have hmi:∀(w:World),(Instr.makeInterface 54 (.int .i64 n)).run Tryz.prog w=.ok (.iface 54 (.int .i64 n)) w:=fun w=>by kernel_rfl
 go_enter Tryz.func63,Tryz.ntmps63
 have hp:∀(w:World),(Instr.panic (.iface 54 (.int .i64 n))).run Tryz.prog w=.halt (.panic (.iface 54 (.int .i64 n))) w:=fun w=>by kernel_rfl
 go_wp2_with fail
 first | (go_end0;exact⟨rfl,rfl⟩) | exact⟨rfl,rfl⟩ | exact⟨rfl,rfl,rfl⟩
theorem Ah3(n:Int)(w:World):Calls Tryz.prog 63 #[.bool false,.int .i64 n] w fun x w'=>x=.panicked [{v:=.iface 54 (.int .i64 n),recovered:=false}]∧w=w':=by
 have hmi:∀(w:World),(Instr.makeInterface 54 (.int .i64 n)).run Tryz.prog w=.ok (.iface 54 (.int .i64 n)) w:=fun w=>by kernel_rfl
 go_enter Tryz.func63,Tryz.ntmps63
 have hp:∀(w:World),(Instr.panic (.iface 54 (.int .i64 n))).run Tryz.prog w=.halt (.panic (.iface 54 (.int .i64 n))) w:=fun w=>by kernel_rfl
 go_wp2_with fail
 first | (go_end0;exact⟨rfl,rfl⟩) | exact⟨rfl,rfl⟩ | exact⟨rfl,rfl,rfl⟩
structure Pd where
 k:Nat
 d:Nat
 e0:Nat
 e1:Nat
 g:Nat
 q:Nat
 b:List UInt8
 t:List UInt8
def pdF(l:List UInt8):Pd:=⟨I3 l 0 1,I3 l 1 1,I3 l 2 8,I3 l 10 8,I3 l 18 4,I3 l 22 8,Ab5 l,Aj5 l⟩
def okR(l:List UInt8):Prop:=(47≤l.length∧l.length≤946)∧Am9 l
instance (l:List UInt8):Decidable (okR l):=by unfold okR Am9;infer_instance
def Af0(top:Int)(b:Nat→UInt64)(n:Int):Int×(Nat→UInt64)×Int:=
 if n<0∨4611686018427387904<n then(top,b,1) else if Af7 top b n then(((max top.toNat (n.toNat+1):Nat):Int),Bc0 top.toNat n.toNat b,0) else(top,b,6)
theorem Er6(top:Int)(b:Nat→UInt64)(n:Int)(hr:Ac4 top b):
 (∀w,Calls Tryz.prog 62 #[.agg (D5 top b).toArray,.int .i64 n] w fun x w'=>x=.returned (.tuple #[.agg (D5 (Af0 top b n).1 (Af0 top b n).2.1).toArray,.int .i64 (Af0 top b n).2.2])∧Below w.heap.size w w')∧
 (∀w,Calls Tryz.prog 68 #[.agg (D5 top b).toArray,.int .i64 n] w fun x w'=>x=.returned (.tuple #[.agg (D5 (Af0 top b n).1 (Af0 top b n).2.1).toArray,.int .i64 (Af0 top b n).2.2])∧Below w.heap.size w w'):=by
 obtain⟨⟨h0,h1⟩,h2,-⟩:=hr;unfold Af0;by_cases hn:n<0∨4611686018427387904<n
 ·rw[if_pos hn];exact⟨fun w=>Ek5 top b n hn w,fun w=>Db9 top b n hn w⟩
 rw[if_neg hn];by_cases hf:Af7 top b n
 ·rw[if_pos hf];obtain⟨T,rfl⟩:∃T:Nat,top=T:=⟨top.toNat,by omega⟩;obtain⟨k,rfl⟩:∃k:Nat,n=k:=⟨n.toNat,by omega⟩;have hT:T≤4611686018427387905:=by omega
  have hk:k≤4611686018427387904:=by omega
  simp only[Int.toNat_natCast];refine⟨fun w=>Ev8 T k b hT hk hf w,fun w=>?_⟩;have h:=Dy8 T k b hT hk hf w;obtain⟨⟨a1,a2,a3⟩,a4⟩:=hf;rw[Dc1 _ (Bc0 T k b) _ (fun i hi=>Dx7 T k b (fun p hp hpt=>h2 p hp (by omega)) (by omega) (by rcases a4 with a4 | a4;exact .inl (by omega);exact .inr (by simpa using a4)) i hi)];exact h
 ·rw[if_neg hf];exact⟨fun w=>Ek6 top b n ⟨h0,h1⟩ (by omega) (by omega) hf w,fun w=>Dc0 top b n ⟨h0,h1⟩ (by omega) (by omega) hf w⟩
theorem Cy7(top:Int)(b:Nat→UInt64)(n:Int)(h:-9223372036854775808≤top∧top≤9223372036854775807)(hr:Ac4 top b):-9223372036854775808≤(Af0 top b n).1∧(Af0 top b n).1≤9223372036854775807:=by
 obtain⟨⟨h0,h1⟩,-,-⟩:=hr;unfold Af0;split
 ·exact h
 split
 ·simp only;omega
 ·exact h
def Bo3(e:Ev)(no:Int):List UInt8:=bif Ac6 no e.r.c then e.kc else bif Ac6 no e.r.o then e.ko else bif Ac6 no e.r.p then e.kp else[]
theorem Ct7{q:Nat→Prop}{w:World}{e:Ev}(h:X9 q w e)(no:Int):
 A4 w (P9 e.r no).1.a (Bo3 e no)∧(P9 e.r no).1.len=(Bo3 e no).length∧(P9 e.r no).1.len≤(P9 e.r no).1.cap∧(P9 e.r no).1.cap≤maxLen:=by
 unfold P9 Bo3;cases Ac6 no e.r.c
 ·cases Ac6 no e.r.o
  ·cases Ac6 no e.r.p
   ·exact⟨.inl rfl,rfl,Nat.le_refl _,Nat.zero_le _⟩
   ·exact⟨h.r.p,h.r.lp,h.rp.1,h.rp.2⟩
  ·exact⟨h.r.o,h.r.lo,h.ro.1,h.ro.2⟩
 ·exact⟨h.r.c,h.r.lc,h.rc.1,h.rc.2⟩
def Ax5(e:Ev)(p:Pd):List UInt8:=bif ((p.k:Int)==2) then Bo3 e p.g else Ae5 e.k.l
def inT(p:Pd):List UInt8:=inF p.k p.d p.e0 p.e1 p.g p.q p.b
def Ac8(s:Sv)(p:Pd):Sv:=s.l_p s.i (Br0 s.f s.es (Ax5 s.e p) (inT p) p.t) s.ta s.tc s.es
def Aq4(s:Sv)(p:Pd):Bool:=Bx4 s.i s.es (Ax5 s.e p) (inT p) p.t
def Bj2(e:Ev):Ev:=bif U9 e.r.p then e else{e with r:=⟨e.r.p,e.r.c,G0,16,e.r.t⟩,kc:=e.kp,ko:=e.kc,kp:=[]}
theorem Dj1(s:Sv):Av1 (A5 s) 27 ((Bn5 s.e.r).1.L)=A5 (s.on (Bj2 s.e)):=by
 rw[Cx7];unfold Bn5 Bj2;cases U9 s.e.r.p<;>rfl
theorem X9.turn{q:Nat→Prop}{w:World}{e:Ev}(h:X9 q w e):X9 q w (Bj2 e):=by
 unfold Bj2;cases U9 e.r.p
 ·exact⟨h.k,h.s1,h.s2,⟨h.r.lp,h.r.p,h.r.lc,h.r.c,rfl,.inl rfl⟩,h.rp,h.rc,⟨Nat.le_refl _,Nat.zero_le _⟩,h.q,h.ql,h.u,h.ul,h.h,h.hl,h.o,h.ol,h.g,h.gl,h.wt⟩
 ·exact h
def Am4(s:Sv)(n:Int):Sv:=s.on (s.e.l_w (Af0 s.e.wt s.e.wb n).1 (Af0 s.e.wt s.e.wb n).2.1)
def Bo4(s:Sv)(p:Pd):Sv:=bif ((p.g:Int)==s.e.r.p.no)&&(s.e.ph != 4) then(Am4 s p.q).on (Bj2 (Am4 s p.q).e) else Am4 s p.q
def Ab6(s:Sv)(l:List UInt8):Sv×Int:=
 bif !decide (okR l) then(Aq3 s 2,2)
 else bif Z0 s.e (pdF l).k (pdF l).d (pdF l).e0 (pdF l).e1 (pdF l).g then(Aq3 s 13,13)
 else bif !Aq4 s (pdF l) then(Aq3 (Ac8 s (pdF l)) 5,5)
 else bif (((pdF l).k:Int)==1) then(Ac8 s (pdF l),0)
 else bif (Af0 s.e.wt s.e.wb (pdF l).q).2.2 != 0 then(Aq3 (Ac8 s (pdF l)) 6,6) else(Bo4 (Ac8 s (pdF l)) (pdF l),0)
theorem J5.chk{q:Nat→Prop}{w:World}{s:Sv}(h:J5 q w s)(p:Pd):J5 q w (Ac8 s p):=⟨h.e,h.p,h.pl⟩
theorem J5.wind{q:Nat→Prop}{w:World}{s:Sv}(h:J5 q w s)(hr:Ac4 s.e.wt s.e.wb)(n:Int):J5 q w (Am4 s n):=
 ⟨⟨h.e.k,h.e.s1,h.e.s2,h.e.r,h.e.rc,h.e.ro,h.e.rp,h.e.q,h.e.ql,h.e.u,h.e.ul,h.e.h,h.e.hl,h.e.o,h.e.ol,h.e.g,h.e.gl,Cy7 _ _ _ h.e.wt hr⟩,h.p,h.pl⟩
theorem J5.gone{q:Nat→Prop}{w:World}{s:Sv}(h:J5 q w s)(hr:Ac4 s.e.wt s.e.wb)(p:Pd):J5 q w (Bo4 s p):=by
 unfold Bo4;cases((p.g:Int)==s.e.r.p.no)&&(s.e.ph != 4)
 ·exact h.wind hr _
 ·exact⟨(h.wind hr _).e.turn,(h.wind hr p.q).p,(h.wind hr p.q).pl⟩
theorem J5.take{q:Nat→Prop}{w:World}{s:Sv}(h:J5 q w s)(hr:Ac4 s.e.wt s.e.wb)(l:List UInt8):J5 q w (Ab6 s l).1:=by
 unfold Ab6;cases decide (okR l)
 ·exact h.bump 2
 cases Z0 s.e (pdF l).k (pdF l).d (pdF l).e0 (pdF l).e1 (pdF l).g
 ·cases Aq4 s (pdF l)
  ·exact(h.chk _).bump 5
  ·cases(((pdF l).k:Int)==1)
   ·cases(Af0 s.e.wt s.e.wb (pdF l).q).2.2 != 0
    ·exact(h.chk _).gone hr _
    ·exact(h.chk _).bump 6
   ·exact h.chk _
 ·exact h.bump 13
def Dj2(w:World)(E:Int)(p:Pd)(v:Value):Prop:=
 (E≠0∧v=.agg I2.toArray)∨(E=0∧∃a1 c1 a2 c2,v=Bd4 p.k p.d p.e0 p.e1 p.g p.q (.slice a1 p.b.length c1) (.slice a2 p.t.length c2)∧(p.b.length≤c1∧c1≤maxLen)∧(p.t.length≤c2∧c2≤maxLen)∧A4 w a1 p.b∧A4 w a2 p.t)
def Bo5(w:World)(s:Sv)(l:List UInt8)(x:Ending)(w':World):Prop:=
 ∃v,x=.returned (.tuple #[.agg (A5 (Ab6 s l).1).toArray,v,.int .i64 (Ab6 s l).2])∧Dj2 w' (Ab6 s l).2 (pdF l) v∧Below w.heap.size w w'
def Dj3(w:World)(l:List UInt8)(x:Ending)(w':World):Prop:=
 (okR l∧∃a1 c1 a2 c2,x=.returned (.tuple #[Bd4 (pdF l).k (pdF l).d (pdF l).e0 (pdF l).e1 (pdF l).g (pdF l).q (.slice a1 (pdF l).b.length c1) (.slice a2 (pdF l).t.length c2),.int .i64 0])∧((pdF l).b.length≤c1∧c1≤maxLen)∧((pdF l).t.length≤c2∧c2≤maxLen)∧A4 w' a1 (pdF l).b∧A4 w' a2 (pdF l).t∧Below w.heap.size w w')
 ∨(¬okR l∧∃why:Int,(why==0)=false∧x=.returned (.tuple #[.agg I2.toArray,.int .i64 why])∧Below w.heap.size w w')
theorem Ee1{w:World}{l:List UInt8}(h1:47≤l.length)(h2:l.length≤946){x:Ending}{w':World}
 (h:(Am9 l→Ea8 w (I3 l 0 1) (I3 l 1 1) (I3 l 2 8) (I3 l 10 8) (I3 l 18 4) (I3 l 22 8) (Ab5 l) (Aj5 l) x w')∧(¬Am9 l→Cm7 w 2 x w')):Dj3 w l x w':=by
 by_cases hg:Am9 l
 ·obtain⟨a1,c1,a2,c2,k1,k2,k3,k4,k5,k6,k7,k8⟩:=h.1 hg;exact .inl ⟨⟨⟨h1,h2⟩,hg⟩,a1,c1,a2,c2,k1,⟨k2,k3⟩,⟨k4,k5⟩,k6,k7,k8⟩
 ·exact .inr ⟨fun k=>hg k.2,2,rfl,(h.2 hg).1,(h.2 hg).2⟩
theorem Ct8(a:Option Addr)(c:Nat)(l:List UInt8)(hc:l.length≤c)(hcm:c≤maxLen)(w:World)(hl:A4 w a l):
 Calls Tryz.prog 132 #[.slice a l.length c] w (Dj3 w l):=by
 by_cases h1:l.length<47
 ·exact(De4 a c l h1 w).mono fun x w' h=>.inr ⟨fun k=>by have:=k.1.1;omega,3,rfl,h.1,h.2⟩
 by_cases h2:946<l.length
 ·exact(Ea7 a c l h2 (by omega) w).mono fun x w' h=>.inr ⟨fun k=>by have:=k.1.2;omega,4,rfl,h.1,h.2⟩
 exact(En2 a c l (by omega) (by omega) hc hcm w hl).mono fun x w' h=>Ee1 (by omega) (by omega) h
theorem Ez2(w:World):(Instr.build 65 #[]).run Tryz.prog w=.ok (.agg I2.toArray) w:=by kernel_rfl
theorem A6.atAll{T:TypeId}{w:World}{b:Nat}{L:List Value}(h:A6 T w b L):w.rangeAt b 0 L:=fun j v hj=>by
 have hjl:j<L.length:=(List.getElem?_eq_some_iff.1 hj).1;rw[h.blk.cell (0+j) (by omega),Nat.zero_add,List.getD_eq_getElem?_getD,hj];rfl
noncomputable def Ba2:{ops:Array Oper//(Tryz.f19.body.bind (M8 5))=some (.region 5 ops true)}:=⟨_,rfl⟩
abbrev Ao9:List Nat:=[16,17]
theorem Ee2:opx Ba2.1 2=some (.store 51 (.tmp 4) (.tmp 16),none,none):=by kernel_rfl
theorem Ee3:opx Ba2.1 3=some (.store 65 (.tmp 5) (.tmp 17),none,none):=by kernel_rfl
theorem Ee4:opx Ba2.1 4=some (.store 54 (.tmp 6) (.const (Value.int IntKind.i64 0)),none,none):=by kernel_rfl
theorem Dj4{s:Sv}{D:List Value}{n4 n5 n6:Nat}{c6:Int}{w0:World}{a1 a2:Option Addr}{b1 b2:List UInt8}{a:Act}{w:World}{Q:Exit→Act→World→Prop}(hsz:58≤a.tmps.size)
 (e4:a.tmps.getD 4 undef=.pointer (some ⟨n4,0,none⟩)) (e5:a.tmps.getD 5 undef=.pointer (some ⟨n5,0,none⟩)) (e6:a.tmps.getD 6 undef=.pointer (some ⟨n6,0,none⟩))
 (hP:∀c a d v w,Q (.panic c) (Act.put a d v) w→Q (.panic c) a w) (B4:A6 51 w n4 (A5 s)) (B5:A6 65 w n5 D) (B6:A6 54 w n6 [.int .i64 c6]) (N45:n4≠n5) (N46:n4≠n6) (N56:n5≠n6) (L6:w0.heap.size≤n6) (L4:w0.heap.size≤n4) (L5:w0.heap.size≤n5) (G:Below w0.heap.size w0 w) (QB:A4 w a1 b1) (QT:A4 w a2 b2)
 (hD1:D.all (·.oneCell')=true) (hD8:D.all no8=true) (env_len:(Tryz.prog.info? 65).map (·.size)=some D.length)
 (hQ:∀{x16 x17} w',A6 51 w' n4 (A5 s)→A6 65 w' n5 D→A6 54 w' n6 [.int .i64 0]→A4 w' a1 b1→A4 w' a2 b2→Below w0.heap.size w0 w'→Q .normal (C6 a Ao9 [x16,x17]) w'):
 (Code.region 5 Ba2.1 true).wp Tryz.prog Q a w:=by
 have site_len:(Tryz.prog.info? 51).map (·.size)=some (A5 s).length:=by rw[D9];exact M6
 have bd0:∀{u:World},Below w0.heap.size w0 u→Below w0.heap.size w0 u.drew:=fun h=>bt h (bd _);have hB48:(A5 s).all no8=true:=Q3 _;have hB58:D.all no8=true:=hD8;have hB68:[Value.int .i64 c6].all no8=true:=rfl;have rG:Rgn Ba2.1 Ao9 a Q:=⟨fun k hk=>Nat.lt_of_lt_of_le ((by decide:∀k∈Ao9,k<58) k hk) hsz,by kernel_rfl,hP⟩;have hb:=rG.b;obtain⟨i,h0⟩:=U8 a Ao9;let S:World→Prop:=fun w'=>A6 51 w' n4 (A5 s)∧A6 65 w' n5 D;refine wp_region_held_drew (S:=S) (by kernel_rfl) (⟨B4.up (bd _),B5.up (bd _)⟩) fun hHeld=>?_;have N2_3_4:∀(u:World) (G:Below w0.heap.size w0 u) (B4:A6 51 u n4 (A5 s)) (B5:A6 65 u n5 (D)) (B6:A6 54 u n6 ([i6 0])) (QB:A4 u a1 b1) (QT:A4 u a2 b2),wpAnyH Tryz.prog .any Ba2.1 Q S 0 (lm 5 31) (C6 a Ao9 [.agg (A5 s).toArray,.agg (D).toArray]) u:=by
  intro u G B4 B5 B6 QB QT;refine T4 ?_;exact hQ _ B4 B5 B6 QB QT G
 have N2_3:∀(u:World) (G:Below w0.heap.size w0 u) (B4:A6 51 u n4 (A5 s)) (B5:A6 65 u n5 (D)) (B6:A6 54 u n6 [i6 c6]) (QB:A4 u a1 b1) (QT:A4 u a2 b2),wpAnyH Tryz.prog .any Ba2.1 Q S 1 (lm 5 15) (C6 a Ao9 [.agg (A5 s).toArray,.agg (D).toArray]) u:=by
  intro u G B4 B5 B6 QB QT;refine D7 [4] (D0 rG Ee4 ?_ AllReadyH.nil);intro o hp hd;refine Bj0 54 (.tmp 6) (.const (i6 0)) hp n6 0 (rG.ev e6) rfl B6.blk (Nat.zero_lt_succ _) (by kernel_rfl) rfl ?_;exact Ab3 rG [] hd ⟨(B4.kp ((Kp.refl n6 u).set 0 _) N46),(B5.kp ((Kp.refl n6 u).set 0 _) N56)⟩ trivial (N2_3_4 _  (((Kp.refl n6 u).set 0 _).below G L6) (B4.kp ((Kp.refl n6 u).set 0 _) N46) (B5.kp ((Kp.refl n6 u).set 0 _) N56) (B6.set 0 _) (A4.kp8 QB B6.blk hB68 ((Kp.refl n6 u).set 0 _)) (A4.kp8 QT B6.blk hB68 ((Kp.refl n6 u).set 0 _)))
 have N2:∀(u:World) (G:Below w0.heap.size w0 u) (B4:A6 51 u n4 (A5 s)) (B5:A6 65 u n5 D) (B6:A6 54 u n6 [i6 c6]) (QB:A4 u a1 b1) (QT:A4 u a2 b2),wpAnyH Tryz.prog .any Ba2.1 Q S 2 (lm 5 7) (C6 a Ao9 [.agg (A5 s).toArray,.agg (D).toArray]) u:=by
  intro u G B4 B5 B6 QB QT;refine D7 [3] (D0 rG Ee3 ?_ AllReadyH.nil);intro o hp hd;refine Y3 65 (.tmp 5) (.tmp 17) hp n5 (rG.ev e5) rG.ev B5 env_len rfl hD1 ?_;exact Ab3 rG [] hd ⟨(B4.kp ((Kp.refl n5 u).row _) N45),(B5.row _)⟩ trivial (N2_3 _  (((Kp.refl n5 u).row _).below G L5) (B4.kp ((Kp.refl n5 u).row _) N45) (B5.row _) (B6.kp ((Kp.refl n5 u).row _) N56.symm) (A4.kp8 QB B5.blk (hB58) ((Kp.refl n5 u).row _)) (A4.kp8 QT B5.blk (hB58) ((Kp.refl n5 u).row _)))
 have N0:∀(u:World) (G:Below w0.heap.size w0 u) (B4:A6 51 u n4 (A5 s)) (B5:A6 65 u n5 D) (B6:A6 54 u n6 [i6 c6]) (QB:A4 u a1 b1) (QT:A4 u a2 b2),wpAnyH Tryz.prog .any Ba2.1 Q S 3 (lm 5 3) (C6 a Ao9 [.agg (A5 s).toArray,.agg (D).toArray]) u:=by
  intro u G B4 B5 B6 QB QT;refine D7 [2] (D0 rG Ee2 ?_ AllReadyH.nil);intro o hp hd;refine Y3 51 (.tmp 4) (.tmp 16) hp n4 (rG.ev e4) rG.ev B4 site_len rfl (J2 _) ?_;exact Ab3 rG [] hd ⟨(B4.row _),(B5.kp ((Kp.refl n4 u).row _) N45.symm)⟩ trivial (N2 _  (((Kp.refl n4 u).row _).below G L4) (B4.row _) (B5.kp ((Kp.refl n4 u).row _) N45.symm) (B6.kp ((Kp.refl n4 u).row _) N46.symm) (A4.kp8 QB B4.blk (hB48) ((Kp.refl n4 u).row _)) (A4.kp8 QT B4.blk (hB48) ((Kp.refl n4 u).row _)))
 exact M5 5 rG [(0,16,.agg (A5 s).toArray),(1,17,.agg (D).toArray)] h0 ⟨B4.up (bd _),B5.up (bd _)⟩ ⟨S0 (cs:=A5 s) rfl (fun w hw=>hw.1.atAll) site_len e4,S0 (cs:=D) rfl (fun w hw=>hw.2.atAll) env_len e5,trivial⟩ (N0 _  (bd0 G) (B4.up (bd _)) (B5.up (bd _)) (B6.up (bd _)) (QB.mono (bd _)) (QT.mono (bd _)))
noncomputable def Au7:{ops:Array Oper//(Tryz.f19.body.bind (M8 11))=some (.region 11 ops true)}:=⟨_,rfl⟩
abbrev Am5:List Nat:=[56,57]
theorem Dj5:opx Au7.1 2=some (.store 51 (.tmp 4) (.tmp 56),none,none):=by kernel_rfl
theorem Dj6:opx Au7.1 3=some (.store 65 (.tmp 5) (.tmp 57),none,none):=by kernel_rfl
theorem Dj7:opx Au7.1 4=some (.store 54 (.tmp 6) (.const (Value.int IntKind.i64 0)),none,none):=by kernel_rfl
theorem Bk1{s:Sv}{D:List Value}{n4 n5 n6:Nat}{c6:Int}{w0:World}{a1 a2:Option Addr}{b1 b2:List UInt8}{a:Act}{w:World}{Q:Exit→Act→World→Prop}(hsz:58≤a.tmps.size)
 (e4:a.tmps.getD 4 undef=.pointer (some ⟨n4,0,none⟩)) (e5:a.tmps.getD 5 undef=.pointer (some ⟨n5,0,none⟩)) (e6:a.tmps.getD 6 undef=.pointer (some ⟨n6,0,none⟩))
 (hP:∀c a d v w,Q (.panic c) (Act.put a d v) w→Q (.panic c) a w) (B4:A6 51 w n4 (A5 s)) (B5:A6 65 w n5 D) (B6:A6 54 w n6 [.int .i64 c6]) (N45:n4≠n5) (N46:n4≠n6) (N56:n5≠n6) (L6:w0.heap.size≤n6) (L4:w0.heap.size≤n4) (L5:w0.heap.size≤n5) (G:Below w0.heap.size w0 w) (QB:A4 w a1 b1) (QT:A4 w a2 b2)
 (hD1:D.all (·.oneCell')=true) (hD8:D.all no8=true) (env_len:(Tryz.prog.info? 65).map (·.size)=some D.length)
 (hQ:∀{x56 x57} w',A6 51 w' n4 (A5 s)→A6 65 w' n5 D→A6 54 w' n6 [.int .i64 0]→A4 w' a1 b1→A4 w' a2 b2→Below w0.heap.size w0 w'→Q .normal (C6 a Am5 [x56,x57]) w'):
 (Code.region 11 Au7.1 true).wp Tryz.prog Q a w:=by
 have site_len:(Tryz.prog.info? 51).map (·.size)=some (A5 s).length:=by rw[D9];exact M6
 have bd0:∀{u:World},Below w0.heap.size w0 u→Below w0.heap.size w0 u.drew:=fun h=>bt h (bd _);have hB48:(A5 s).all no8=true:=Q3 _;have hB58:D.all no8=true:=hD8;have hB68:[Value.int .i64 c6].all no8=true:=rfl;have rG:Rgn Au7.1 Am5 a Q:=⟨fun k hk=>Nat.lt_of_lt_of_le ((by decide:∀k∈Am5,k<58) k hk) hsz,by kernel_rfl,hP⟩;have hb:=rG.b;obtain⟨i,h0⟩:=U8 a Am5;let S:World→Prop:=fun w'=>A6 51 w' n4 (A5 s)∧A6 65 w' n5 D;refine wp_region_held_drew (S:=S) (by kernel_rfl) (⟨B4.up (bd _),B5.up (bd _)⟩) fun hHeld=>?_;have N2_3_4:∀(u:World) (G:Below w0.heap.size w0 u) (B4:A6 51 u n4 (A5 s)) (B5:A6 65 u n5 (D)) (B6:A6 54 u n6 ([i6 0])) (QB:A4 u a1 b1) (QT:A4 u a2 b2),wpAnyH Tryz.prog .any Au7.1 Q S 0 (lm 5 31) (C6 a Am5 [.agg (A5 s).toArray,.agg (D).toArray]) u:=by
  intro u G B4 B5 B6 QB QT;refine T4 ?_;exact hQ _ B4 B5 B6 QB QT G
 have N2_3:∀(u:World) (G:Below w0.heap.size w0 u) (B4:A6 51 u n4 (A5 s)) (B5:A6 65 u n5 (D)) (B6:A6 54 u n6 [i6 c6]) (QB:A4 u a1 b1) (QT:A4 u a2 b2),wpAnyH Tryz.prog .any Au7.1 Q S 1 (lm 5 15) (C6 a Am5 [.agg (A5 s).toArray,.agg (D).toArray]) u:=by
  intro u G B4 B5 B6 QB QT;refine D7 [4] (D0 rG Dj7 ?_ AllReadyH.nil);intro o hp hd;refine Bj0 54 (.tmp 6) (.const (i6 0)) hp n6 0 (rG.ev e6) rfl B6.blk (Nat.zero_lt_succ _) (by kernel_rfl) rfl ?_;exact Ab3 rG [] hd ⟨(B4.kp ((Kp.refl n6 u).set 0 _) N46),(B5.kp ((Kp.refl n6 u).set 0 _) N56)⟩ trivial (N2_3_4 _  (((Kp.refl n6 u).set 0 _).below G L6) (B4.kp ((Kp.refl n6 u).set 0 _) N46) (B5.kp ((Kp.refl n6 u).set 0 _) N56) (B6.set 0 _) (A4.kp8 QB B6.blk hB68 ((Kp.refl n6 u).set 0 _)) (A4.kp8 QT B6.blk hB68 ((Kp.refl n6 u).set 0 _)))
 have N2:∀(u:World) (G:Below w0.heap.size w0 u) (B4:A6 51 u n4 (A5 s)) (B5:A6 65 u n5 D) (B6:A6 54 u n6 [i6 c6]) (QB:A4 u a1 b1) (QT:A4 u a2 b2),wpAnyH Tryz.prog .any Au7.1 Q S 2 (lm 5 7) (C6 a Am5 [.agg (A5 s).toArray,.agg (D).toArray]) u:=by
  intro u G B4 B5 B6 QB QT;refine D7 [3] (D0 rG Dj6 ?_ AllReadyH.nil);intro o hp hd;refine Y3 65 (.tmp 5) (.tmp 57) hp n5 (rG.ev e5) rG.ev B5 env_len rfl hD1 ?_;exact Ab3 rG [] hd ⟨(B4.kp ((Kp.refl n5 u).row _) N45),(B5.row _)⟩ trivial (N2_3 _  (((Kp.refl n5 u).row _).below G L5) (B4.kp ((Kp.refl n5 u).row _) N45) (B5.row _) (B6.kp ((Kp.refl n5 u).row _) N56.symm) (A4.kp8 QB B5.blk (hB58) ((Kp.refl n5 u).row _)) (A4.kp8 QT B5.blk (hB58) ((Kp.refl n5 u).row _)))
 have N0:∀(u:World) (G:Below w0.heap.size w0 u) (B4:A6 51 u n4 (A5 s)) (B5:A6 65 u n5 D) (B6:A6 54 u n6 [i6 c6]) (QB:A4 u a1 b1) (QT:A4 u a2 b2),wpAnyH Tryz.prog .any Au7.1 Q S 3 (lm 5 3) (C6 a Am5 [.agg (A5 s).toArray,.agg (D).toArray]) u:=by
  intro u G B4 B5 B6 QB QT;refine D7 [2] (D0 rG Dj5 ?_ AllReadyH.nil);intro o hp hd;refine Y3 51 (.tmp 4) (.tmp 56) hp n4 (rG.ev e4) rG.ev B4 site_len rfl (J2 _) ?_;exact Ab3 rG [] hd ⟨(B4.row _),(B5.kp ((Kp.refl n4 u).row _) N45.symm)⟩ trivial (N2 _  (((Kp.refl n4 u).row _).below G L4) (B4.row _) (B5.kp ((Kp.refl n4 u).row _) N45.symm) (B6.kp ((Kp.refl n4 u).row _) N46.symm) (A4.kp8 QB B4.blk (hB48) ((Kp.refl n4 u).row _)) (A4.kp8 QT B4.blk (hB48) ((Kp.refl n4 u).row _)))
 exact M5 5 rG [(0,56,.agg (A5 s).toArray),(1,57,.agg (D).toArray)] h0 ⟨B4.up (bd _),B5.up (bd _)⟩ ⟨S0 (cs:=A5 s) rfl (fun w hw=>hw.1.atAll) site_len e4,S0 (cs:=D) rfl (fun w hw=>hw.2.atAll) env_len e5,trivial⟩ (N0 _  (bd0 G) (B4.up (bd _)) (B5.up (bd _)) (B6.up (bd _)) (QB.mono (bd _)) (QT.mono (bd _)))
theorem A4.up8{w w':World}{a:Option Addr}{l:List UInt8}(h:A4 w a l)(hb:Below w.heap.size w w'):A4 w' a l:=h.mono hb
theorem Cl1{s:Sv}{bl:List UInt8}{S:Sv}{E:Int}{w w':World}(hT:Ab6 s bl=(S,E))(hE:E≠0)(hb:Below w.heap.size w w'):
 Bo5 w s bl (.returned (.tuple #[.agg (A5 S).toArray,.agg I2.toArray,.int .i64 E])) w':=by
 unfold Bo5;rw[hT];exact⟨_,rfl,.inl ⟨hE,rfl⟩,hb⟩
theorem Bo6{s:Sv}{bl:List UInt8}{S:Sv}{p:Pd}(hp:pdF bl=p){w w':World}(hT:Ab6 s bl=(S,0))(hb:Below w.heap.size w w'){a1 a2:Option Addr}{c1 c2:Nat}
 (h1:p.b.length≤c1∧c1≤maxLen) (h2:p.t.length≤c2∧c2≤maxLen) (hb1:A4 w' a1 p.b) (hb2:A4 w' a2 p.t):
 Bo5 w s bl (.returned (.tuple #[.agg (A5 S).toArray,.agg (J1 p.k p.d p.e0 p.e1 p.g p.q (.slice a1 p.b.length c1) (.slice a2 p.t.length c2)).toArray,.int .i64 0])) w':=by
 unfold Bo5;rw[hT,hp];exact⟨_,rfl,.inr ⟨rfl,a1,c1,a2,c2,rfl,h1,h2,hb1,hb2⟩,hb⟩
structure Fn7 (s:Sv) (bl:List UInt8) (p:Pd):Prop where
 form:¬okR bl→Ab6 s bl=(Aq3 s 2,2)
 stray:okR bl→Z0 s.e p.k p.d p.e0 p.e1 p.g=true→Ab6 s bl=(Aq3 s 13,13)
 tag:okR bl→Z0 s.e p.k p.d p.e0 p.e1 p.g=false→Aq4 s p=false→Ab6 s bl=(Aq3 (Ac8 s p) 5,5)
 setup:okR bl→Z0 s.e p.k p.d p.e0 p.e1 p.g=false→Aq4 s p=true→((p.k:Int)==1)=true→Ab6 s bl=(Ac8 s p,0)
 old:okR bl→Z0 s.e p.k p.d p.e0 p.e1 p.g=false→Aq4 s p=true→((p.k:Int)==1)=false→((Af0 s.e.wt s.e.wb p.q).2.2==0)=false→Ab6 s bl=(Aq3 (Ac8 s p) 6,6)
 gone:okR bl→Z0 s.e p.k p.d p.e0 p.e1 p.g=false→Aq4 s p=true→((p.k:Int)==1)=false→((Af0 s.e.wt s.e.wb p.q).2.2==0)=true→Ab6 s bl=(Bo4 (Ac8 s p) p,0)
theorem Dj8(s:Sv)(bl:List UInt8)(p:Pd)(hp:pdF bl=p):Fn7 s bl p:=by
 subst hp;constructor
 ·intro h;unfold Ab6;simp only[decide_eq_false h,Bool.not_false,cond_true]
 ·intro h h1;unfold Ab6;simp only[decide_eq_true h,Bool.not_true,cond_false,h1,cond_true]
 ·intro h h1 h2;unfold Ab6;simp only[decide_eq_true h,Bool.not_true,cond_false,h1,h2,Bool.not_false,cond_true]
 ·intro h h1 h2 h3;unfold Ab6;simp only[decide_eq_true h,Bool.not_true,cond_false,h1,h2,h3,cond_true]
 ·intro h h1 h2 h3 h4;unfold Ab6;simp only[decide_eq_true h,Bool.not_true,cond_false,h1,h2,h3,bne,h4,Bool.not_false,cond_true]
 ·intro h h1 h2 h3 h4;unfold Ab6;simp only[decide_eq_true h,Bool.not_true,cond_false,h1,h2,h3,bne,h4]
theorem Ct9{g:G}(h:U9 g=true∨Ah1 g=true):g.len≤32:=by
 unfold U9 Ah1 at h;simp only[Bool.and_eq_true,decide_eq_true_eq,beq_iff_eq] at h;omega
theorem Ee5{e:Ev}(h:Ao2 e=true):(U9 e.r.c=true∨Ah1 e.r.c=true)∧(U9 e.r.o=true∨Ah1 e.r.o=true)∧(U9 e.r.p=true∨Ah1 e.r.p=true):=by
 unfold Ao2 Af3 Aj1 Bx9 Cn2 at h;simp only[Bool.or_eq_true,Bool.and_eq_true] at h;rcases h with h | h
 ·exact⟨.inl h.1,.inl h.2.1,.inl h.2.2.1⟩
 ·refine⟨.inr h.1,?_,h.2.2.1.imp id fun h=>h.1⟩;have h2:=h.2.1;cases hn:U9 e.r.o
  ·rw[hn] at h2;simp only[cond_false,Bool.and_eq_true] at h2;exact .inr h2.1
  ·exact .inl rfl
theorem Ee6{q:Nat→Prop}{w:World}{e:Ev}(h:X9 q w e)(hr:Ao2 e=true)(no:Int):(Bo3 e no).length≤32:=by
 rw[←(Ct7 h no).2.1];obtain⟨h1,h2,h3⟩:=Ee5 hr;unfold P9;cases Ac6 no e.r.c
 ·cases Ac6 no e.r.o
  ·cases Ac6 no e.r.p
   ·exact Nat.zero_le _
   ·exact Ct9 h3
  ·exact Ct9 h2
 ·exact Ct9 h1
theorem Ba3(a b c:Addr)(w:World):
 CallsD Tryz.prog 60 #[.pointer (some a),.pointer (some b),.pointer (some c)] .returning w fun e u' w'=>e=.returned (.tuple #[])∧u'=.returning∧w'=w:=by
 refine callsD_of_wpS Tryz.func60 rfl fun c₀ cs hu=>?_;apply wpS_seq;apply wpS_region;simp[wpOpsS,go_sem,recoverD,hu,Tryz.ntmps60,Exit.thenS];refine wpS_of_wp ?_;go_wp2_with fail
 cases c₀
 simp_all [Exit.inBlock,Exit.then,bodyPostS,results,Tryz.results60]
theorem Er7(E:Int)(w:World):(Instr.typeAssert (.iface 54 (.int .i64 E)) 20 54 true).run Tryz.prog w=.ok (.tuple #[.int .i64 E,.bool true]) w:=by kernel_rfl
theorem By8{P:Program}{w:World}{b o:Nat}{ty:TypeId}{v:Value}{d:TypeDesc}(hu:P.underlying ty=some d)(hd:d.isRow=false)(hc:w.cell? ⟨b,o,none⟩=some v):
 (loadVar ty ⟨b,o,none⟩).run P w=.ok v w:=by
 have hagg:(isAgg ty).run P w=.ok false w:=by
  unfold isAgg;rw[Sem.run_bind,run_underlying hu w];cases d<;>simp_all [TypeDesc.isRow]
 simp[loadVar,Sem.run_bind,hagg,hc]
theorem Ar8{P:Program}{fn:Func}{p r u:Tmp}{ty tz tx:TypeId}(h:fn.results=#[.cell p ty,.cell r tz,.cell u tx])(tmps:Array Value)(w:World)(g g2 g3:Nat){cs ds:List Value}{v:Value}{d d2 d3:TypeDesc}
 (hp:tmps.getD p undef=.pointer (some ⟨g,0,none⟩)) (hp2:tmps.getD r undef=.pointer (some ⟨g2,0,none⟩)) (hp3:tmps.getD u undef=.pointer (some ⟨g3,0,none⟩)) (hb:Blk w g cs) (hu:P.underlying ty=some d) (hd:(match d with | .struct _ | .array _ _=>true | _=>false)=true) (hi:(P.info? ty).map (·.size)=some cs.length)
 (hb2:Blk w g2 ds) (hu2:P.underlying tz=some d2) (hd2:(match d2 with | .struct _ | .array _ _=>true | _=>false)=true) (hi2:(P.info? tz).map (·.size)=some ds.length) (hc3:w.cell? ⟨g3,0,none⟩=some v) (hu3:P.underlying tx=some d3) (hd3:d3.isRow=false):
 (results fn tmps).run P w=.ok (.tuple #[.agg cs.toArray,.agg ds.toArray,v]) w:=by
 obtain⟨T,hg⟩:=hb;obtain⟨T2,hg2⟩:=hb2;have h1:=run_loadVar_row (P:=P) w g T ty cs.toArray _ d hg hu hd (by simpa using hi);have h2:=run_loadVar_row (P:=P) w g2 T2 tz ds.toArray _ d2 hg2 hu2 hd2 (by simpa using hi2);have h3:=By8 (P:=P) hu3 hd3 hc3;have e:(results fn tmps).run P w=((asAddr (tmps.getD p undef)).run P w).andThen fun a w₁=>((loadVar ty a).run P w₁).andThen fun v' w₂=>((asAddr (tmps.getD r undef)).run P w₂).andThen fun a2 w₃=>((loadVar tz a2).run P w₃).andThen fun v3 w₄=>((asAddr (tmps.getD u undef)).run P w₄).andThen fun a3 w₅=>((loadVar tx a3).run P w₅).andThen fun v4 w₆=>.ok (.tuple #[v',v3,v4]) w₆:=by
  simp only[results,h];simp[Sem.run_bind,Result.andThen]
 rw[e,hp,hp2,hp3];simp[asAddr,h1,h2,h3]
theorem Ez3(E:Int)(w:World):(binOp BinOp.eql 20 (.iface 54 (.int .i64 E)) .nilIface).run Tryz.prog w=.ok (.bool false) w:=by kernel_rfl
theorem Bp5(s:Sv)(D:List Value)(n4 n5 n6:Nat)(c6 E:Int)(older:List PanicEntry)(w0 w:World)(B4:A6 51 w n4 (A5 s))(B5:A6 65 w n5 D)(B6:A6 54 w n6 [.int .i64 c6])(hDl:D.length=8)
 (N4_5:n4≠n5) (N4_6:n4≠n6) (N5_6:n5≠n6) (L4:w0.heap.size≤n4) (L5:w0.heap.size≤n5) (L6:w0.heap.size≤n6) (G:Below w0.heap.size w0 w):
 CallsD Tryz.prog 60 #[.pointer (some ⟨n4,0,none⟩),.pointer (some ⟨n5,0,none⟩),.pointer (some ⟨n6,0,none⟩)] (.panicking ({v:=.iface 54 (.int .i64 E),recovered:=false}::older)) w fun e u' w'=>
  e=.returned (.tuple #[])∧u'=.panicking ({v:=.iface 54 (.int .i64 E),recovered:=true}::older)∧A6 51 w' n4 (A5 (Aq3 s E))∧A6 65 w' n5 I2∧A6 54 w' n6 [.int .i64 E]∧Below w0.heap.size w0 w':=by
 have SZ:=Lh (show ∀S:Sv,(Tryz.prog.info? 51).map (·.size)=some (A5 S).length from fun S=>by rw[D9];exact M6);have SV:=Lh Ad2;have B4:=Lh B4;have B5:=Lh B5;have B6:=Lh B6;have G:=Lh G;have N4_5:=Lh N4_5;have N4_6:=Lh N4_6;have N5_6:=Lh N5_6;have L4:=Lh L4;have L5:=Lh L5;have L6:=Lh L6;have DL:=Lh hDl;have HCt:=Lh (fun W=>Cm1 s E W);clear hDl;refine callsD_of_wpS Tryz.func60 rfl fun c₀ cs hu=>?_;apply wpS_seq;apply wpS_region;simp[wpOpsS,go_sem,recoverD,hu,Tryz.ntmps60,Exit.thenS];refine wpS_of_wp ?_;change Code.wp _ _ _ {tmps:=#[Value.pointer (some ⟨n4,0,none⟩),Value.pointer (some ⟨n5,0,none⟩),Value.pointer (some ⟨n6,0,none⟩),undef,undef,undef,(Value.iface 54 (Value.int .i64 E)),undef,undef,undef,undef,undef,undef,undef,undef,undef,undef],defers:=[]} w;have hta:=Er7 E;have hen:=Ez3 E;go_wp2_with (refine F7 51 (.tmp 0) rfl ?_;refine C4 51 (.tmp 0) n4 rfl rfl rfl B4.out.blk Tryz.underlying51 rfl (SZ.out _) ?_)
 refine(HCt.out _).mono ?_;rintro x wC ⟨rfl,hb⟩;replace B4:=Lh (B4.out.up hb);replace B5:=Lh (B5.out.up hb);replace B6:=Lh (B6.out.up hb);replace G:=Lh (bt G.out hb);clear hb;have hbe:=Ez2;go_wp2_with (first
  | (refine F8 51 (.tmp 0) _ rfl ?_;go_must (refine I0 51 (.tmp 0) _ n4 rfl rfl rfl rfl B4.out (SZ.out _) (by rw[D9,D9]) (J2 _) ?_;intro wD hB hK;replace B5:=Lh (B5.out.kp hK N4_5.out.symm);replace B6:=Lh (B6.out.kp hK N4_6.out.symm);replace B4:=Lh hB;replace G:=Lh (hK.below G.out L4.out);clear hB hK))
  | (refine F8 65 (.tmp 1) _ rfl ?_;go_must (refine I0 65 (.tmp 1) _ n5 (cs:=I2) rfl rfl rfl rfl B5.out SV.out DL.out rfl ?_;intro wE hB hK;replace B4:=Lh (B4.out.kp hK N4_5.out);replace B6:=Lh (B6.out.kp hK N5_6.out.symm);replace B5:=Lh hB;replace G:=Lh (hK.below G.out L5.out);clear hB hK))
  | (refine F8 54 (.tmp 2) _ rfl ?_;go_must (refine S7 54 (.tmp 2) _ n6 0 rfl rfl rfl rfl B6.out (Nat.zero_lt_succ _) (by kernel_rfl) rfl rfl ?_;intro wF hB hK;replace B4:=Lh (B4.out.kp hK N4_6.out);replace B5:=Lh (B5.out.kp hK N5_6.out);replace B6:=Lh hB;replace G:=Lh (hK.below G.out L6.out);clear hB hK)))
 have R:=Lh (And.intro B4.out (And.intro B5.out (And.intro B6.out G.out)));clear B4 B5 B6 G;simp[Exit.inBlock,Exit.then,bodyPostS,results,Tryz.results60];exact R.out
end Go.Proofs.YtadpiemjgfndgaaGreatDoor
