/- Proved here, for use further on: LeP LeQ LeS LeT LeU LeV LeW LeX. Conditions: none but those each theorem names. -/
import Derived.Test.YtadpiemjgfndgaaGreatDoorKg00
import Derived.Test.YtadpiemjgfndgaaGreatDoorKg20
import Derived.LoopN
import Derived.WalkSmall
import Derived.Test.YtadpiemjgfndgaaGreatDoorKg05
import Derived.Test.YtadpiemjgfndgaaGreatDoorKg11
import Derived.Deep.RegionHeld3
import Derived.Test.YtadpiemjgfndgaaGreatDoorKg12
import Derived.Test.YtadpiemjgfndgaaGreatDoorKg18
import Derived.Defers
import Derived.Recover
set_option linter.unusedSimpArgs false
set_option linter.unusedVariables false
set_option maxRecDepth 100000
set_option maxHeartbeats 8000000
namespace Go.Proofs.YtadpiemjgfndgaaGreatDoor
open Go.RowKit
theorem Dx0{x:Int}(h0:0≤x+1)(h1:x+1≤9223372036854775807):IntKind.i64.wrap (x+1)=x+1:=by
 obtain⟨n,hn⟩:∃n:Nat,x+1=n:=⟨(x+1).toNat,by omega⟩;rw[hn];exact Ba0 n (by omega)
theorem J9.seq{q:Nat→Prop}{w:World}{S:Sv}(h:J9 q w S):J9 q w (Bq3 S):=
 ⟨⟨h.e.k,h.e.s1,h.e.s2,h.e.r,h.e.rc,h.e.ro,h.e.rp,h.e.q,h.e.ql,h.e.u,h.e.ul,h.e.h,h.e.hl,h.e.o,h.e.ol,h.e.g,h.e.gl,h.e.wt⟩,h.p,h.pl⟩
theorem Bo8(s:Sv)(bda:Option Addr)(bdc:Nat)(bl:List UInt8)(w:World)(qq:Nat→Prop)(hq:∀g,w.heap.size≤g→qq g)(h:J9 qq w s)(hr:R1 s.e=true)(hes:s.es.length≤900)(hn:s.e.o.length≤1000)(hbl:A4 w bda bl)(hks:M9 w):
 Calls Tryz.prog 16 #[.agg (A6 s).toArray,.slice bda bl.length bdc] w (Au6 qq w (Ao5 s bl)):=by
 have SZ:=Lh (show ∀S:Sv,(Tryz.prog.info? 51).map (·.size)=some (A6 S).length from fun S=>by rw[D8];exact R6);have SE:=Lh (show ∀E:Ev,(Tryz.prog.info? 46).map (·.size)=some (A7 E).length from fun E=>by rw[G6];exact O2);have HS:=Lh h;have HQ:=Lh hq;have HR:=Lh (An7 hr);have HE:=Lh (fun(z1:T4 s.e.ph=true) (z2:U7 bl.length=true) (q2:Nat→Prop) (u:World) (hb:Below w.heap.size w u) (hc:∀g,u.heap.size≤g→q2 g) (hc2:∀g,g<w.heap.size→qq g→q2 g)=>
  (show Calls Tryz.prog 56 #[.agg (A6 s).toArray,.agg #[.int .i64 2,.int .i64 s.e.id,.int .i64 (A9 s.e).1,.int .i64 (A9 s.e).2,.int .i64 s.e.r.c.no,.int .i64 s.e.seq,.slice bda bl.length bdc,.slice none 0 0],.slice s.e.r.c.a s.e.r.c.len s.e.r.c.cap] u (Au6 q2 u (Bb0 s s.e.kc (By3 s bl))) from by
  have f:=An7 hr;have b:=Ct8 z2;have pb:=Bs4 (e:=s.e) f.id f.own f.oth;have cu:=f.cur z1;have kl:s.e.kc.length=32:=by rw[←h.e.r.lc];exact cu.2.2
  have k2:=Bo6 s 2 s.e.id.toNat (A9 s.e).1.toNat (A9 s.e).2.toNat s.e.r.c.no.toNat s.e.seq.toNat bda bdc bl s.e.r.c.a s.e.r.c.cap s.e.kc u q2 hc ((h.to hc2).mono hb) ⟨by decide,by decide,by have:=f.id;omega,by omega,by omega,by omega,by have:=f.seq;omega,b.1,b.2⟩ (hbl.mono hb) (h.e.r.c.mono hb) (by omega) (by rw[←h.e.r.lc];exact h.e.rc) f.nx hes hn (hks.mono hb);rw[←h.e.r.lc,Ap5 f.id.1,Ap5 pb.1.1,Ap5 pb.2.1,Ap5 (show 0≤s.e.r.c.no by omega),Ap5 f.seq.1] at k2;exact k2))
 have HBad:=Lh (fun(hz:U7 bl.length=false)=>(show Ao5 s bl s 1 from .inl ⟨hz,rfl,rfl⟩));have HOff:=Lh (fun(hz:U7 bl.length=true) (hl:T4 s.e.ph=false)=>(show Ao5 s bl s 7 from .inr ⟨hz,.inl ⟨hl,rfl,rfl⟩⟩));have HSp:=Lh (fun(hz:U7 bl.length=true) (hl:T4 s.e.ph=true) (hs:s.e.seq=4611686018427387904)=>(show Ao5 s bl s 10 from .inr ⟨hz,.inr ⟨hl,.inl ⟨hs,rfl,rfl⟩⟩⟩));have HOk:=Lh (fun(hz:U7 bl.length=true) (hl:T4 s.e.ph=true) (hs:s.e.seq<4611686018427387904) S1 E (hR:Bb0 s s.e.kc (By3 s bl) S1 E)=>(show Ao5 s bl (bif E==0 then Bq3 S1 else S1) E from .inr ⟨hz,.inr ⟨hl,.inr ⟨hs,S1,hR,rfl⟩⟩⟩));have HLk:=Lh (fun W=>Ai3 s.e.ph W);have HF:=Lh (fun W=>Bm3 bda bl.length bdc W);clear h hq hr hes hn hbl hks;go_enter Tryz.func16,Tryz.ntmps16
 go_upto_region 1 with(fail)
 generalize hW:World.alloc (World.alloc w _) _=W;obtain⟨B3,B6,hb⟩:=Aj6 (a:=A6 s) (b:=I7) hW;clear hW;have B3:=Lh B3;have B6:=Lh B6;have G:=Lh hb;have N36:=Lh (show w.heap.size≠w.heap.size+1 by omega);have L3:=Lh (show w.heap.size≤w.heap.size by omega);have L6:=Lh (show w.heap.size≤w.heap.size+1 by omega);clear hb;generalize w.heap.size+1=n6 at B6 N36 L6 ⊢;generalize hn3:w.heap.size=n3 at B3 N36 ⊢;replace L3:=Lh (show w.heap.size≤n3 by omega);clear hn3;go_upto_region 2 with(first
  | (refine I2 46 (.tmp 9) rfl ?_;refine D5 46 (.tmp 9) n3 0 (by first | rfl | simp[Region.wanted,yielded]) rfl rfl B3.out.blk.atE Tryz.underlying46 rfl (SE.out _) ?_)
  | (refine G8 46 _ _ rfl ?_;refine I4 46 _ _ _ rfl rfl rfl rfl (A5.new _ _ _) (SE.out _) (by rw[G6];rfl) (Ag4 _) ?_;intro w5 hB8 hK;have B8:=Lh hB8;have N8:=Lh (show n3≠W.heap.size∧n6≠W.heap.size from⟨Nat.ne_of_lt B3.out.blk.lt,Nat.ne_of_lt B6.out.blk.lt⟩);replace B3:=Lh ((B3.out.up (ba _ _)).kp hK N8.out.1);replace B6:=Lh ((B6.out.up (ba _ _)).kp hK N8.out.2);have L8:=Lh G.out.size;replace G:=Lh (hK.below (bt G.out (ba _ _)) G.out.size);clear hB8 hK))
 generalize W.heap.size=n8 at B8 N8 L8 ⊢;go_wp2_with fail
 refine(HF.out _).mono ?_;rintro x w2 ⟨rfl,rfl⟩;clear HF;rcases hz2:U7 bl.length with _ | _
 ·have HBd:=Lh (HBad.out hz2);clear hz2 HE HOk HBad HOff HSp HLk;go_wp2_with (first
   | (refine I2 51 (.tmp 2) rfl ?_;refine C6 51 (.tmp 2) n3 rfl rfl rfl B3.out.blk Tryz.underlying51 rfl (SZ.out _) ?_)
   | (refine G8 51 _ _ rfl ?_;refine I4 51 _ _ n6 rfl rfl rfl rfl B6.out (SZ.out _) (by rw[M5,D8]) (Q3 _) ?_;intro w3 hB hK;replace B6:=Lh hB;replace G:=Lh (hK.below G.out L6.out);clear hB hK))
  (try simp only[Act.put,List.setIfInBounds_toArray,List.set_cons_zero,List.set_cons_succ])
  refine bodyPost_ret (F6 rfl _ _ n6 (cs:=A6 s) rfl _ rfl B6.out.blk Tryz.underlying51 rfl (SZ.out _)) rfl ?_;exact⟨s,1,rfl,HBd.out,HS.out.mono G.out,G.out⟩
 replace HOff:=Lh (HOff.out hz2);replace HSp:=Lh (HSp.out hz2);replace HOk:=Lh (HOk.out hz2);have Hz2:=Lh hz2;clear HBad hz2;have gp:=B8.out.blk.endIn.ph;go_wp2_with fail
 refine(HLk.out _).mono ?_;rintro x w2 ⟨rfl,rfl⟩;clear HLk gp;rcases hz1:T4 s.e.ph with _ | _
 ·have HBd:=Lh (HOff.out hz1);clear hz1 HE HOk HOff HSp;go_wp2_with (first
   | (refine I2 51 (.tmp 2) rfl ?_;refine C6 51 (.tmp 2) n3 rfl rfl rfl B3.out.blk Tryz.underlying51 rfl (SZ.out _) ?_)
   | (refine G8 51 _ _ rfl ?_;refine I4 51 _ _ n6 rfl rfl rfl rfl B6.out (SZ.out _) (by rw[M5,D8]) (Q3 _) ?_;intro w3 hB hK;replace B6:=Lh hB;replace G:=Lh (hK.below G.out L6.out);clear hB hK))
  (try simp only[Act.put,List.setIfInBounds_toArray,List.set_cons_zero,List.set_cons_succ])
  refine bodyPost_ret (F6 rfl _ _ n6 (cs:=A6 s) rfl _ rfl B6.out.blk Tryz.underlying51 rfl (SZ.out _)) rfl ?_;exact⟨s,7,rfl,HBd.out,HS.out.mono G.out,G.out⟩
 replace HSp:=Lh (HSp.out hz1);replace HOk:=Lh (HOk.out hz1);replace HE:=Lh (HE.out hz1 Hz2.out);clear HOff hz1;have gs:=B8.out.blk.endIn.seq;by_cases hz3:s.e.seq=4611686018427387904
 ·have HBd:=Lh (HSp.out hz3);rw[hz3] at gs;clear hz3 HE HOk HSp;go_wp2_with (first
   | (refine I2 51 (.tmp 2) rfl ?_;refine C6 51 (.tmp 2) n3 rfl rfl rfl B3.out.blk Tryz.underlying51 rfl (SZ.out _) ?_)
   | (refine G8 51 _ _ rfl ?_;refine I4 51 _ _ n6 rfl rfl rfl rfl B6.out (SZ.out _) (by rw[M5,D8]) (Q3 _) ?_;intro w3 hB hK;replace B6:=Lh hB;replace G:=Lh (hK.below G.out L6.out);clear hB hK))
  (try simp only[Act.put,List.setIfInBounds_toArray,List.set_cons_zero,List.set_cons_succ])
  refine bodyPost_ret (F6 rfl _ _ n6 (cs:=A6 s) rfl _ rfl B6.out.blk Tryz.underlying51 rfl (SZ.out _)) rfl ?_;exact⟨s,10,rfl,HBd.out,HS.out.mono G.out,G.out⟩
 have e3:(s.e.seq==4611686018427387904)=false:=by rw[beq_eq_false_iff_ne];exact hz3
 have h3:s.e.seq<4611686018427387904:=by have:=HR.out.seq;omega
 replace HOk:=Lh (HOk.out h3);have H3:=Lh h3;clear hz3 HSp h3;go_upto_region 8 with(fail)
 clear e3 gs;generalize hWr:w5=Wr at *;clear hWr;have Q6:=Lh (show ∀g,Wr.heap.size≤g→qq g∧g≠n6 from fun g hg=>⟨HQ.out g (Nat.le_trans G.out.size hg),Nat.ne_of_gt (Nat.lt_of_lt_of_le B6.out.blk.lt hg)⟩);refine Db0 (qq:=fun g=>qq g∧g≠n6) (R0:=Bb0 s s.e.kc (By3 s bl)) (Nat.le_refl _) rfl rfl (fun _ _ d _ _ h=>by cases d<;>exact h) B3.out rfl B8.out Q6.out (fun q2 u hu hc hc2=>HE.out q2 u (bt G.out hu) hc (fun g hg hp=>hc2 g (Nat.lt_of_lt_of_le hg G.out.size) ⟨hp,Nat.ne_of_lt (Nat.lt_of_lt_of_le hg L6.out)⟩)) ?_;intro x28 x29 x30 x31 x32 x33 x34 x35 x36 x37 x38 x39 x40 x41 x42 x43 x44 x45 x27 x46 x47 z S9 E9 w9 hB7 hLz hR hSQ hG;simp only[B9,Act.put,List.setIfInBounds_toArray,List.set_cons_zero,List.set_cons_succ];have B7:=Lh hB7;have R9:=Lh (HOk.out S9 E9 hR);have SQ:=Lh hSQ;have LZ:=Lh (show w.heap.size≤z from Nat.le_trans G.out.size hLz);have NZ:=Lh (show n6≠z from Nat.ne_of_lt (Nat.lt_of_lt_of_le B6.out.blk.lt hLz));replace B6:=Lh (B6.out.up hG);replace G:=Lh (bt G.out hG);have HC:=Lh (show E9=11∨(E9=0∧S9.e.seq=s.e.seq) from by
  rcases hR with⟨_,_,rfl⟩ | ⟨c,ta,tc,oa,oc,_,rfl,rfl⟩
  ·exact .inl rfl
  ·exact .inr ⟨rfl,rfl⟩)
 clear hB7 hR hSQ hG hLz HOk HE;rcases HC.out with rfl | ⟨rfl,hsq⟩
 ·go_wp2_with (first
   | (refine I2 51 (.tmp 7) rfl ?_;refine C6 51 (.tmp 7) z rfl rfl rfl B7.out.blk Tryz.underlying51 rfl (SZ.out _) ?_)
   | (refine G8 51 _ _ rfl ?_;refine I4 51 _ _ n6 rfl rfl rfl rfl B6.out (SZ.out _) (by rw[M5,D8]) (Q3 _) ?_;intro w3 hB hK;replace SQ:=Lh (SQ.out.k8 (B6.out.k8 (by rfl) hK) fun g hg=>hg.1.2);replace B6:=Lh hB;replace G:=Lh (hK.below G.out L6.out);clear hB hK))
  (try simp only[Act.put,List.setIfInBounds_toArray,List.set_cons_zero,List.set_cons_succ])
  refine bodyPost_ret (F6 rfl _ _ n6 (cs:=A6 S9) rfl _ rfl B6.out.blk Tryz.underlying51 rfl (SZ.out _)) rfl ?_;exact⟨S9,11,rfl,R9.out,SQ.out.to (fun g hg hp=>hp.1.1),G.out⟩
 ·have gs:=B7.out.blk.siteIn.seq;have hw:IntKind.i64.wrap (S9.e.seq+1)=S9.e.seq+1:=Dx0 (by have:=HR.out.seq;omega) (by have:=HR.out.seq;have:=H3.out;omega);clear hsq;go_wp2_with (first
   | (refine G8 3 (.tmp 55) (.tmp 53) rfl ?_;refine S5 3 (.tmp 55) (.tmp 53) z 9 rfl rfl rfl rfl B7.out (by rw[D8];decide) (by kernel_rfl) rfl (Ce9 S9 (S9.e.seq+1)) ?_;intro w3 hB hK;replace SQ:=Lh (SQ.out.k8 (B7.out.k8 (V6 _) hK) fun g hg=>hg.2);replace B7:=Lh hB;replace B6:=Lh (B6.out.kp hK NZ.out);replace G:=Lh (hK.below G.out LZ.out);clear hB hK gs)
   | (refine I2 51 (.tmp 7) rfl ?_;refine C6 51 (.tmp 7) z rfl rfl rfl B7.out.blk Tryz.underlying51 rfl (SZ.out _) ?_)
   | (refine G8 51 _ _ rfl ?_;refine I4 51 _ _ n6 rfl rfl rfl rfl B6.out (SZ.out _) (by rw[M5,D8]) (Q3 _) ?_;intro w3 hB hK;replace SQ:=Lh (SQ.out.k8 (B6.out.k8 (by rfl) hK) fun g hg=>hg.1.2);replace B6:=Lh hB;replace G:=Lh (hK.below G.out L6.out);clear hB hK))
  (try simp only[Act.put,List.setIfInBounds_toArray,List.set_cons_zero,List.set_cons_succ])
  refine bodyPost_ret (F6 rfl _ _ n6 (cs:=A6 (Bq3 S9)) rfl _ rfl B6.out.blk Tryz.underlying51 rfl (SZ.out _)) rfl ?_;exact⟨Bq3 S9,0,rfl,R9.out,(SQ.out.to (fun g hg hp=>hp.1.1)).seq,G.out⟩
theorem Bd4(a b c d:Value)(w:World):(Instr.index 140 (.agg #[a,b,c,d]) (.int .i64 0)).run Tryz.prog w=.ok a w:=by kernel_rfl
theorem Bd5(a b c d:Value)(w:World):(Instr.index 140 (.agg #[a,b,c,d]) (.int .i64 1)).run Tryz.prog w=.ok b w:=by kernel_rfl
theorem Bd6(a b c d:Value)(w:World):(Instr.index 140 (.agg #[a,b,c,d]) (.int .i64 2)).run Tryz.prog w=.ok c w:=by kernel_rfl
theorem Bd7(a b c d:Value)(w:World):(Instr.index 140 (.agg #[a,b,c,d]) (.int .i64 3)).run Tryz.prog w=.ok d w:=by kernel_rfl
def Ah1(s:Sv)(b:Int):Sv:=
 if b=2 then s.on (s.e.s_c0 (wrap64 (s.e.c0+1))) else if b=5 then s.on (s.e.s_c1 (wrap64 (s.e.c1+1)))
 else if b=6 then s.on (s.e.s_c2 (wrap64 (s.e.c2+1))) else if b=13 then s.on (s.e.s_c3 (wrap64 (s.e.c3+1))) else s
theorem J9.bump{q:Nat→Prop}{w:World}{S:Sv}(h:J9 q w S)(b:Int):J9 q w (Ah1 S b):=by
 unfold Ah1;repeat' split
 all_goals first | exact h | exact⟨⟨h.e.k,h.e.s1,h.e.s2,h.e.r,h.e.rc,h.e.ro,h.e.rp,h.e.q,h.e.ql,h.e.u,h.e.ul,h.e.h,h.e.hl,h.e.o,h.e.ol,h.e.g,h.e.gl,h.e.wt⟩,h.p,h.pl⟩
theorem Db1(s:Sv)(w:World):
 Calls Tryz.prog 22 #[.agg (A6 s).toArray,.int .i64 2] w fun x w'=>x=.returned (.agg (A6 (s.on (s.e.s_c0 (wrap64 (s.e.c0+1))))).toArray)∧Below w.heap.size w w':=by
 have SZ:=Lh (show ∀S:Sv,(Tryz.prog.info? 51).map (·.size)=some (A6 S).length from fun S=>by rw[D8];exact R6);go_enter Tryz.func22,Tryz.ntmps22
 go_upto_region 1 with(fail)
 generalize hW:World.alloc (World.alloc w _) _=W;obtain⟨B3,B6,hb⟩:=Aj6 (a:=A6 s) (b:=I7) hW;clear hW;have B3:=Lh B3;have B6:=Lh B6;have G:=Lh hb;have N36:=Lh (show w.heap.size≠w.heap.size+1 by omega);have L3:=Lh (show w.heap.size≤w.heap.size by omega);have L6:=Lh (show w.heap.size≤w.heap.size+1 by omega);clear hb;generalize w.heap.size+1=n6 at B6 N36 L6 ⊢;generalize hn3:w.heap.size=n3 at B3 N36 ⊢;replace L3:=Lh (show w.heap.size≤n3 by omega);clear hn3;have gc0:=B3.out.blk.siteIn.c0;have hi0:=Bd4;have hi1:=Bd5;have hi2:=Bd6;have hi3:=Bd7;go_wp2_with fail
 refine wp_loop_rounds 5 ?_;rw[rounds_succ];go_wp2_with (first
  | (refine G8 3 (.tmp 23) (.tmp 20) rfl ?_;refine G8 3 (.tmp 23) (.tmp 20) rfl ?_;refine S5 3 (.tmp 23) (.tmp 20) n3 66 rfl rfl rfl rfl B3.out (by rw[D8];decide) (by kernel_rfl) rfl (Cl4 s (wrap64 (s.e.c0+1))) ?_;intro w3 hB hK;replace B6:=Lh (B6.out.kp hK N36.out.symm);replace B3:=Lh hB;replace G:=Lh (hK.below G.out L3.out);clear hB hK gc0))
 rw[rounds_succ];go_wp2_with fail
 rw[rounds_succ];go_wp2_with fail
 rw[rounds_succ];go_wp2_with fail
 rw[rounds_succ];go_wp2_with (first
  | (refine I2 51 (.tmp 2) rfl ?_;refine I2 51 (.tmp 2) rfl ?_;refine C6 51 (.tmp 2) n3 rfl rfl rfl B3.out.blk Tryz.underlying51 rfl (SZ.out _) ?_)
  | (refine G8 51 _ _ rfl ?_;refine G8 51 _ _ rfl ?_;refine I4 51 _ _ n6 rfl rfl rfl rfl B6.out (SZ.out _) (by rw[M5,D8]) (Q3 _) ?_;intro w3 hB hK;replace B6:=Lh hB;replace G:=Lh (hK.below G.out L6.out);clear hB hK))
 (try simp only[Act.put,List.setIfInBounds_toArray,List.set_cons_zero,List.set_cons_succ])
 refine bodyPost_ret (M0 rfl _ _ n6 (cs:=A6 (s.on (s.e.s_c0 (wrap64 (s.e.c0+1))))) rfl B6.out.blk Tryz.underlying51 rfl (SZ.out _)) rfl ?_;exact⟨rfl,G.out⟩
theorem Db2(s:Sv)(w:World):
 Calls Tryz.prog 22 #[.agg (A6 s).toArray,.int .i64 5] w fun x w'=>x=.returned (.agg (A6 (s.on (s.e.s_c1 (wrap64 (s.e.c1+1))))).toArray)∧Below w.heap.size w w':=by
 have SZ:=Lh (show ∀S:Sv,(Tryz.prog.info? 51).map (·.size)=some (A6 S).length from fun S=>by rw[D8];exact R6);go_enter Tryz.func22,Tryz.ntmps22
 go_upto_region 1 with(fail)
 generalize hW:World.alloc (World.alloc w _) _=W;obtain⟨B3,B6,hb⟩:=Aj6 (a:=A6 s) (b:=I7) hW;clear hW;have B3:=Lh B3;have B6:=Lh B6;have G:=Lh hb;have N36:=Lh (show w.heap.size≠w.heap.size+1 by omega);have L3:=Lh (show w.heap.size≤w.heap.size by omega);have L6:=Lh (show w.heap.size≤w.heap.size+1 by omega);clear hb;generalize w.heap.size+1=n6 at B6 N36 L6 ⊢;generalize hn3:w.heap.size=n3 at B3 N36 ⊢;replace L3:=Lh (show w.heap.size≤n3 by omega);clear hn3;have gc1:=B3.out.blk.siteIn.c1;have hi0:=Bd4;have hi1:=Bd5;have hi2:=Bd6;have hi3:=Bd7;go_wp2_with fail
 refine wp_loop_rounds 5 ?_;rw[rounds_succ];go_wp2_with fail
 rw[rounds_succ];go_wp2_with (first
  | (refine G8 3 (.tmp 23) (.tmp 20) rfl ?_;refine G8 3 (.tmp 23) (.tmp 20) rfl ?_;refine S5 3 (.tmp 23) (.tmp 20) n3 67 rfl rfl rfl rfl B3.out (by rw[D8];decide) (by kernel_rfl) rfl (Cl5 s (wrap64 (s.e.c1+1))) ?_;intro w3 hB hK;replace B6:=Lh (B6.out.kp hK N36.out.symm);replace B3:=Lh hB;replace G:=Lh (hK.below G.out L3.out);clear hB hK gc1))
 rw[rounds_succ];go_wp2_with fail
 rw[rounds_succ];go_wp2_with fail
 rw[rounds_succ];go_wp2_with (first
  | (refine I2 51 (.tmp 2) rfl ?_;refine I2 51 (.tmp 2) rfl ?_;refine C6 51 (.tmp 2) n3 rfl rfl rfl B3.out.blk Tryz.underlying51 rfl (SZ.out _) ?_)
  | (refine G8 51 _ _ rfl ?_;refine G8 51 _ _ rfl ?_;refine I4 51 _ _ n6 rfl rfl rfl rfl B6.out (SZ.out _) (by rw[M5,D8]) (Q3 _) ?_;intro w3 hB hK;replace B6:=Lh hB;replace G:=Lh (hK.below G.out L6.out);clear hB hK))
 (try simp only[Act.put,List.setIfInBounds_toArray,List.set_cons_zero,List.set_cons_succ])
 refine bodyPost_ret (M0 rfl _ _ n6 (cs:=A6 (s.on (s.e.s_c1 (wrap64 (s.e.c1+1))))) rfl B6.out.blk Tryz.underlying51 rfl (SZ.out _)) rfl ?_;exact⟨rfl,G.out⟩
theorem Db3(s:Sv)(w:World):
 Calls Tryz.prog 22 #[.agg (A6 s).toArray,.int .i64 6] w fun x w'=>x=.returned (.agg (A6 (s.on (s.e.s_c2 (wrap64 (s.e.c2+1))))).toArray)∧Below w.heap.size w w':=by
 have SZ:=Lh (show ∀S:Sv,(Tryz.prog.info? 51).map (·.size)=some (A6 S).length from fun S=>by rw[D8];exact R6);go_enter Tryz.func22,Tryz.ntmps22
 go_upto_region 1 with(fail)
 generalize hW:World.alloc (World.alloc w _) _=W;obtain⟨B3,B6,hb⟩:=Aj6 (a:=A6 s) (b:=I7) hW;clear hW;have B3:=Lh B3;have B6:=Lh B6;have G:=Lh hb;have N36:=Lh (show w.heap.size≠w.heap.size+1 by omega);have L3:=Lh (show w.heap.size≤w.heap.size by omega);have L6:=Lh (show w.heap.size≤w.heap.size+1 by omega);clear hb;generalize w.heap.size+1=n6 at B6 N36 L6 ⊢;generalize hn3:w.heap.size=n3 at B3 N36 ⊢;replace L3:=Lh (show w.heap.size≤n3 by omega);clear hn3;have gc2:=B3.out.blk.siteIn.c2;have hi0:=Bd4;have hi1:=Bd5;have hi2:=Bd6;have hi3:=Bd7;go_wp2_with fail
 refine wp_loop_rounds 5 ?_;rw[rounds_succ];go_wp2_with fail
 rw[rounds_succ];go_wp2_with fail
 rw[rounds_succ];go_wp2_with (first
  | (refine G8 3 (.tmp 23) (.tmp 20) rfl ?_;refine G8 3 (.tmp 23) (.tmp 20) rfl ?_;refine S5 3 (.tmp 23) (.tmp 20) n3 68 rfl rfl rfl rfl B3.out (by rw[D8];decide) (by kernel_rfl) rfl (Cl6 s (wrap64 (s.e.c2+1))) ?_;intro w3 hB hK;replace B6:=Lh (B6.out.kp hK N36.out.symm);replace B3:=Lh hB;replace G:=Lh (hK.below G.out L3.out);clear hB hK gc2))
 rw[rounds_succ];go_wp2_with fail
 rw[rounds_succ];go_wp2_with (first
  | (refine I2 51 (.tmp 2) rfl ?_;refine I2 51 (.tmp 2) rfl ?_;refine C6 51 (.tmp 2) n3 rfl rfl rfl B3.out.blk Tryz.underlying51 rfl (SZ.out _) ?_)
  | (refine G8 51 _ _ rfl ?_;refine G8 51 _ _ rfl ?_;refine I4 51 _ _ n6 rfl rfl rfl rfl B6.out (SZ.out _) (by rw[M5,D8]) (Q3 _) ?_;intro w3 hB hK;replace B6:=Lh hB;replace G:=Lh (hK.below G.out L6.out);clear hB hK))
 (try simp only[Act.put,List.setIfInBounds_toArray,List.set_cons_zero,List.set_cons_succ])
 refine bodyPost_ret (M0 rfl _ _ n6 (cs:=A6 (s.on (s.e.s_c2 (wrap64 (s.e.c2+1))))) rfl B6.out.blk Tryz.underlying51 rfl (SZ.out _)) rfl ?_;exact⟨rfl,G.out⟩
theorem Db4(s:Sv)(w:World):
 Calls Tryz.prog 22 #[.agg (A6 s).toArray,.int .i64 13] w fun x w'=>x=.returned (.agg (A6 (s.on (s.e.s_c3 (wrap64 (s.e.c3+1))))).toArray)∧Below w.heap.size w w':=by
 have SZ:=Lh (show ∀S:Sv,(Tryz.prog.info? 51).map (·.size)=some (A6 S).length from fun S=>by rw[D8];exact R6);go_enter Tryz.func22,Tryz.ntmps22
 go_upto_region 1 with(fail)
 generalize hW:World.alloc (World.alloc w _) _=W;obtain⟨B3,B6,hb⟩:=Aj6 (a:=A6 s) (b:=I7) hW;clear hW;have B3:=Lh B3;have B6:=Lh B6;have G:=Lh hb;have N36:=Lh (show w.heap.size≠w.heap.size+1 by omega);have L3:=Lh (show w.heap.size≤w.heap.size by omega);have L6:=Lh (show w.heap.size≤w.heap.size+1 by omega);clear hb;generalize w.heap.size+1=n6 at B6 N36 L6 ⊢;generalize hn3:w.heap.size=n3 at B3 N36 ⊢;replace L3:=Lh (show w.heap.size≤n3 by omega);clear hn3;have gc3:=B3.out.blk.siteIn.c3;have hi0:=Bd4;have hi1:=Bd5;have hi2:=Bd6;have hi3:=Bd7;go_wp2_with fail
 refine wp_loop_rounds 5 ?_;rw[rounds_succ];go_wp2_with fail
 rw[rounds_succ];go_wp2_with fail
 rw[rounds_succ];go_wp2_with fail
 rw[rounds_succ];go_wp2_with (first
  | (refine G8 3 (.tmp 23) (.tmp 20) rfl ?_;refine G8 3 (.tmp 23) (.tmp 20) rfl ?_;refine S5 3 (.tmp 23) (.tmp 20) n3 69 rfl rfl rfl rfl B3.out (by rw[D8];decide) (by kernel_rfl) rfl (Cl7 s (wrap64 (s.e.c3+1))) ?_;intro w3 hB hK;replace B6:=Lh (B6.out.kp hK N36.out.symm);replace B3:=Lh hB;replace G:=Lh (hK.below G.out L3.out);clear hB hK gc3))
 rw[rounds_succ];go_wp2_with (first
  | (refine I2 51 (.tmp 2) rfl ?_;refine I2 51 (.tmp 2) rfl ?_;refine C6 51 (.tmp 2) n3 rfl rfl rfl B3.out.blk Tryz.underlying51 rfl (SZ.out _) ?_)
  | (refine G8 51 _ _ rfl ?_;refine G8 51 _ _ rfl ?_;refine I4 51 _ _ n6 rfl rfl rfl rfl B6.out (SZ.out _) (by rw[M5,D8]) (Q3 _) ?_;intro w3 hB hK;replace B6:=Lh hB;replace G:=Lh (hK.below G.out L6.out);clear hB hK))
 (try simp only[Act.put,List.setIfInBounds_toArray,List.set_cons_zero,List.set_cons_succ])
 refine bodyPost_ret (M0 rfl _ _ n6 (cs:=A6 (s.on (s.e.s_c3 (wrap64 (s.e.c3+1))))) rfl B6.out.blk Tryz.underlying51 rfl (SZ.out _)) rfl ?_;exact⟨rfl,G.out⟩
theorem Db5(s:Sv)(b:Int)(h0:(2==b)=false)(h1:(5==b)=false)(h2:(6==b)=false)(h3:(13==b)=false)(w:World):
 Calls Tryz.prog 22 #[.agg (A6 s).toArray,.int .i64 b] w fun x w'=>x=.returned (.agg (A6 (s)).toArray)∧Below w.heap.size w w':=by
 have SZ:=Lh (show ∀S:Sv,(Tryz.prog.info? 51).map (·.size)=some (A6 S).length from fun S=>by rw[D8];exact R6);go_enter Tryz.func22,Tryz.ntmps22
 go_upto_region 1 with(fail)
 generalize hW:World.alloc (World.alloc w _) _=W;obtain⟨B3,B6,hb⟩:=Aj6 (a:=A6 s) (b:=I7) hW;clear hW;have B3:=Lh B3;have B6:=Lh B6;have G:=Lh hb;have N36:=Lh (show w.heap.size≠w.heap.size+1 by omega);have L3:=Lh (show w.heap.size≤w.heap.size by omega);have L6:=Lh (show w.heap.size≤w.heap.size+1 by omega);clear hb;generalize w.heap.size+1=n6 at B6 N36 L6 ⊢;generalize hn3:w.heap.size=n3 at B3 N36 ⊢;replace L3:=Lh (show w.heap.size≤n3 by omega);clear hn3;have hi0:=Bd4;have hi1:=Bd5;have hi2:=Bd6;have hi3:=Bd7;go_wp2_with fail
 refine wp_loop_rounds 5 ?_;rw[rounds_succ];go_wp2_with fail
 rw[rounds_succ];go_wp2_with fail
 rw[rounds_succ];go_wp2_with fail
 rw[rounds_succ];go_wp2_with fail
 rw[rounds_succ];go_wp2_with (first
  | (refine I2 51 (.tmp 2) rfl ?_;refine I2 51 (.tmp 2) rfl ?_;refine C6 51 (.tmp 2) n3 rfl rfl rfl B3.out.blk Tryz.underlying51 rfl (SZ.out _) ?_)
  | (refine G8 51 _ _ rfl ?_;refine G8 51 _ _ rfl ?_;refine I4 51 _ _ n6 rfl rfl rfl rfl B6.out (SZ.out _) (by rw[M5,D8]) (Q3 _) ?_;intro w3 hB hK;replace B6:=Lh hB;replace G:=Lh (hK.below G.out L6.out);clear hB hK))
 (try simp only[Act.put,List.setIfInBounds_toArray,List.set_cons_zero,List.set_cons_succ])
 refine bodyPost_ret (M0 rfl _ _ n6 (cs:=A6 (s)) rfl B6.out.blk Tryz.underlying51 rfl (SZ.out _)) rfl ?_;exact⟨rfl,G.out⟩
theorem Cf5(s:Sv)(b:Int)(w:World):Calls Tryz.prog 22 #[.agg (A6 s).toArray,.int .i64 b] w fun x w'=>x=.returned (.agg (A6 (Ah1 s b)).toArray)∧Below w.heap.size w w':=by
 unfold Ah1;split
 ·rename_i h;subst h;exact Db1 s w
 split
 ·rename_i h;subst h;exact Db2 s w
 split
 ·rename_i h;subst h;exact Db3 s w
 split
 ·rename_i h;subst h;exact Db4 s w
 ·exact Db5 s b (by simp only[beq_eq_false_iff_ne,ne_eq];omega) (by simp only[beq_eq_false_iff_ne,ne_eq];omega) (by simp only[beq_eq_false_iff_ne,ne_eq];omega) (by simp only[beq_eq_false_iff_ne,ne_eq];omega) w
def U1(e:Ev)(k d e0 e1 g:Int):Bool:=
 bif (d != wrap64 (1-e.id)) || ((e.ph==7) || (e.ph==8)) then true else bif k==1 then false
 else(!T4 e.ph) || ((!(I8 e.r g).2) || ((e0 != (A9 e).1) || (e1 != (A9 e).2)))
theorem Au7(n:Int)(w:World):Calls Tryz.prog 63 #[.bool true,.int .i64 n] w fun x w'=>x=.returned (.tuple #[])∧w=w':=by
 have hmi:∀(w:World),(Instr.makeInterface 54 (.int .i64 n)).run Tryz.prog w=.ok (.iface 54 (.int .i64 n)) w:=fun w=>by kernel_rfl
 go_enter Tryz.func63,Tryz.ntmps63
 have hp:∀(w:World),(Instr.panic (.iface 54 (.int .i64 n))).run Tryz.prog w=.halt (.panic (.iface 54 (.int .i64 n))) w:=fun w=>by kernel_rfl
 go_wp2_with fail
 first | (go_end0;exact⟨rfl,rfl⟩) | exact⟨rfl,rfl⟩ | exact⟨rfl,rfl,rfl⟩
theorem Af3(n:Int)(w:World):Calls Tryz.prog 63 #[.bool false,.int .i64 n] w fun x w'=>x=.panicked [{v:=.iface 54 (.int .i64 n),recovered:=false}]∧w=w':=by
 have hmi:∀(w:World),(Instr.makeInterface 54 (.int .i64 n)).run Tryz.prog w=.ok (.iface 54 (.int .i64 n)) w:=fun w=>by kernel_rfl
 go_enter Tryz.func63,Tryz.ntmps63
 have hp:∀(w:World),(Instr.panic (.iface 54 (.int .i64 n))).run Tryz.prog w=.halt (.panic (.iface 54 (.int .i64 n))) w:=fun w=>by kernel_rfl
 go_wp2_with fail
 first | (go_end0;exact⟨rfl,rfl⟩) | exact⟨rfl,rfl⟩ | exact⟨rfl,rfl,rfl⟩
structure Pd where
 k:Nat
 d:Nat
 e0:Nat
 e1:Nat
 g:Nat
 q:Nat
 b:List UInt8
 t:List UInt8
def pdF(l:List UInt8):Pd:=⟨I1 l 0 1,I1 l 1 1,I1 l 2 8,I1 l 10 8,I1 l 18 4,I1 l 22 8,Aa7 l,Ag7 l⟩
def okR(l:List UInt8):Prop:=(47≤l.length∧l.length≤946)∧Ak2 l
instance (l:List UInt8):Decidable (okR l):=by unfold okR Ak2;infer_instance
def U2(top:Int)(b:Nat→UInt64)(n:Int):Int×(Nat→UInt64)×Int:=
 if n<0∨4611686018427387904<n then(top,b,1) else if Y8 top b n then(((max top.toNat (n.toNat+1):Nat):Int),Am1 top.toNat n.toNat b,0) else(top,b,6)
theorem Ek5(top:Int)(b:Nat→UInt64)(n:Int)(hr:Y0 top b):
 (∀w,Calls Tryz.prog 62 #[.agg (C4 top b).toArray,.int .i64 n] w fun x w'=>x=.returned (.tuple #[.agg (C4 (U2 top b n).1 (U2 top b n).2.1).toArray,.int .i64 (U2 top b n).2.2])∧Below w.heap.size w w')∧
 (∀w,Calls Tryz.prog 68 #[.agg (C4 top b).toArray,.int .i64 n] w fun x w'=>x=.returned (.tuple #[.agg (C4 (U2 top b n).1 (U2 top b n).2.1).toArray,.int .i64 (U2 top b n).2.2])∧Below w.heap.size w w'):=by
 obtain⟨⟨h0,h1⟩,h2,-⟩:=hr;unfold U2;by_cases hn:n<0∨4611686018427387904<n
 ·rw[if_pos hn];exact⟨fun w=>Ed3 top b n hn w,fun w=>Cv4 top b n hn w⟩
 rw[if_neg hn];by_cases hf:Y8 top b n
 ·rw[if_pos hf];obtain⟨T,rfl⟩:∃T:Nat,top=T:=⟨top.toNat,by omega⟩;obtain⟨k,rfl⟩:∃k:Nat,n=k:=⟨n.toNat,by omega⟩;have hT:T≤4611686018427387905:=by omega
  have hk:k≤4611686018427387904:=by omega
  simp only[Int.toNat_natCast];refine⟨fun w=>Ep1 T k b hT hk hf w,fun w=>?_⟩;have h:=Dr3 T k b hT hk hf w;obtain⟨⟨a1,a2,a3⟩,a4⟩:=hf;rw[Cv6 _ (Am1 T k b) _ (fun i hi=>Dq2 T k b (fun p hp hpt=>h2 p hp (by omega)) (by omega) (by rcases a4 with a4 | a4;exact .inl (by omega);exact .inr (by simpa using a4)) i hi)];exact h
 ·rw[if_neg hf];exact⟨fun w=>Ed4 top b n ⟨h0,h1⟩ (by omega) (by omega) hf w,fun w=>Cv5 top b n ⟨h0,h1⟩ (by omega) (by omega) hf w⟩
theorem Cr6(top:Int)(b:Nat→UInt64)(n:Int)(h:-9223372036854775808≤top∧top≤9223372036854775807)(hr:Y0 top b):-9223372036854775808≤(U2 top b n).1∧(U2 top b n).1≤9223372036854775807:=by
 obtain⟨⟨h0,h1⟩,-,-⟩:=hr;unfold U2;split
 ·exact h
 split
 ·simp only;omega
 ·exact h
def Aw7(e:Ev)(no:Int):List UInt8:=bif Y9 no e.r.c then e.kc else bif Y9 no e.r.o then e.ko else bif Y9 no e.r.p then e.kp else[]
theorem Bu8{q:Nat→Prop}{w:World}{e:Ev}(h:X7 q w e)(no:Int):
 A4 w (I8 e.r no).1.a (Aw7 e no)∧(I8 e.r no).1.len=(Aw7 e no).length∧(I8 e.r no).1.len≤(I8 e.r no).1.cap∧(I8 e.r no).1.cap≤maxLen:=by
 unfold I8 Aw7;cases Y9 no e.r.c
 ·cases Y9 no e.r.o
  ·cases Y9 no e.r.p
   ·exact⟨.inl rfl,rfl,Nat.le_refl _,Nat.zero_le _⟩
   ·exact⟨h.r.p,h.r.lp,h.rp.1,h.rp.2⟩
  ·exact⟨h.r.o,h.r.lo,h.ro.1,h.ro.2⟩
 ·exact⟨h.r.c,h.r.lc,h.rc.1,h.rc.2⟩
def Ah2(e:Ev)(p:Pd):List UInt8:=bif ((p.k:Int)==2) then Aw7 e p.g else Ag9 e.k.l
def inT(p:Pd):List UInt8:=inF p.k p.d p.e0 p.e1 p.g p.q p.b
def V8(s:Sv)(p:Pd):Sv:=s.l_p s.i (Bg7 s.f s.es (Ah2 s.e p) (inT p) p.t) s.ta s.tc s.es
def Ai5(s:Sv)(p:Pd):Bool:=Bn4 s.i s.es (Ah2 s.e p) (inT p) p.t
def As9(e:Ev):Ev:=bif S7 e.r.p then e else{e with r:=⟨e.r.p,e.r.c,G0,16,e.r.t⟩,kc:=e.kp,ko:=e.kc,kp:=[]}
theorem Db6(s:Sv):Ar1 (A6 s) 27 ((Bk5 s.e.r).1.L)=A6 (s.on (As9 s.e)):=by
 rw[Cq9];unfold Bk5 As9;cases S7 s.e.r.p<;>rfl
theorem X7.turn{q:Nat→Prop}{w:World}{e:Ev}(h:X7 q w e):X7 q w (As9 e):=by
 unfold As9;cases S7 e.r.p
 ·exact⟨h.k,h.s1,h.s2,⟨h.r.lp,h.r.p,h.r.lc,h.r.c,rfl,.inl rfl⟩,h.rp,h.rc,⟨Nat.le_refl _,Nat.zero_le _⟩,h.q,h.ql,h.u,h.ul,h.h,h.hl,h.o,h.ol,h.g,h.gl,h.wt⟩
 ·exact h
def Ah3(s:Sv)(n:Int):Sv:=s.on (s.e.l_w (U2 s.e.wt s.e.wb n).1 (U2 s.e.wt s.e.wb n).2.1)
def Ah4(s:Sv)(p:Pd):Sv:=bif ((p.g:Int)==s.e.r.p.no)&&(s.e.ph != 4) then(Ah3 s p.q).on (As9 (Ah3 s p.q).e) else Ah3 s p.q
def T6(s:Sv)(l:List UInt8):Sv×Int:=
 bif !decide (okR l) then(Ah1 s 2,2)
 else bif U1 s.e (pdF l).k (pdF l).d (pdF l).e0 (pdF l).e1 (pdF l).g then(Ah1 s 13,13)
 else bif !Ai5 s (pdF l) then(Ah1 (V8 s (pdF l)) 5,5)
 else bif (((pdF l).k:Int)==1) then(V8 s (pdF l),0)
 else bif (U2 s.e.wt s.e.wb (pdF l).q).2.2 != 0 then(Ah1 (V8 s (pdF l)) 6,6) else(Ah4 (V8 s (pdF l)) (pdF l),0)
theorem J9.chk{q:Nat→Prop}{w:World}{s:Sv}(h:J9 q w s)(p:Pd):J9 q w (V8 s p):=⟨h.e,h.p,h.pl⟩
theorem J9.wind{q:Nat→Prop}{w:World}{s:Sv}(h:J9 q w s)(hr:Y0 s.e.wt s.e.wb)(n:Int):J9 q w (Ah3 s n):=
 ⟨⟨h.e.k,h.e.s1,h.e.s2,h.e.r,h.e.rc,h.e.ro,h.e.rp,h.e.q,h.e.ql,h.e.u,h.e.ul,h.e.h,h.e.hl,h.e.o,h.e.ol,h.e.g,h.e.gl,Cr6 _ _ _ h.e.wt hr⟩,h.p,h.pl⟩
theorem J9.gone{q:Nat→Prop}{w:World}{s:Sv}(h:J9 q w s)(hr:Y0 s.e.wt s.e.wb)(p:Pd):J9 q w (Ah4 s p):=by
 unfold Ah4;cases((p.g:Int)==s.e.r.p.no)&&(s.e.ph != 4)
 ·exact h.wind hr _
 ·exact⟨(h.wind hr _).e.turn,(h.wind hr p.q).p,(h.wind hr p.q).pl⟩
theorem J9.take{q:Nat→Prop}{w:World}{s:Sv}(h:J9 q w s)(hr:Y0 s.e.wt s.e.wb)(l:List UInt8):J9 q w (T6 s l).1:=by
 unfold T6;cases decide (okR l)
 ·exact h.bump 2
 cases U1 s.e (pdF l).k (pdF l).d (pdF l).e0 (pdF l).e1 (pdF l).g
 ·cases Ai5 s (pdF l)
  ·exact(h.chk _).bump 5
  ·cases(((pdF l).k:Int)==1)
   ·cases(U2 s.e.wt s.e.wb (pdF l).q).2.2 != 0
    ·exact(h.chk _).gone hr _
    ·exact(h.chk _).bump 6
   ·exact h.chk _
 ·exact h.bump 13
def Db7(w:World)(E:Int)(p:Pd)(v:Value):Prop:=
 (E≠0∧v=.agg I0.toArray)∨(E=0∧∃a1 c1 a2 c2,v=Bg6 p.k p.d p.e0 p.e1 p.g p.q (.slice a1 p.b.length c1) (.slice a2 p.t.length c2)∧(p.b.length≤c1∧c1≤maxLen)∧(p.t.length≤c2∧c2≤maxLen)∧A4 w a1 p.b∧A4 w a2 p.t)
def Bf9(w:World)(s:Sv)(l:List UInt8)(x:Ending)(w':World):Prop:=
 ∃v,x=.returned (.tuple #[.agg (A6 (T6 s l).1).toArray,v,.int .i64 (T6 s l).2])∧Db7 w' (T6 s l).2 (pdF l) v∧Below w.heap.size w w'
def Db8(w:World)(l:List UInt8)(x:Ending)(w':World):Prop:=
 (okR l∧∃a1 c1 a2 c2,x=.returned (.tuple #[Bg6 (pdF l).k (pdF l).d (pdF l).e0 (pdF l).e1 (pdF l).g (pdF l).q (.slice a1 (pdF l).b.length c1) (.slice a2 (pdF l).t.length c2),.int .i64 0])∧((pdF l).b.length≤c1∧c1≤maxLen)∧((pdF l).t.length≤c2∧c2≤maxLen)∧A4 w' a1 (pdF l).b∧A4 w' a2 (pdF l).t∧Below w.heap.size w w')
 ∨(¬okR l∧∃why:Int,(why==0)=false∧x=.returned (.tuple #[.agg I0.toArray,.int .i64 why])∧Below w.heap.size w w')
theorem Dx1{w:World}{l:List UInt8}(h1:47≤l.length)(h2:l.length≤946){x:Ending}{w':World}
 (h:(Ak2 l→Dt3 w (I1 l 0 1) (I1 l 1 1) (I1 l 2 8) (I1 l 10 8) (I1 l 18 4) (I1 l 22 8) (Aa7 l) (Ag7 l) x w')∧(¬Ak2 l→Cf7 w 2 x w')):Db8 w l x w':=by
 by_cases hg:Ak2 l
 ·obtain⟨a1,c1,a2,c2,k1,k2,k3,k4,k5,k6,k7,k8⟩:=h.1 hg;exact .inl ⟨⟨⟨h1,h2⟩,hg⟩,a1,c1,a2,c2,k1,⟨k2,k3⟩,⟨k4,k5⟩,k6,k7,k8⟩
 ·exact .inr ⟨fun k=>hg k.2,2,rfl,(h.2 hg).1,(h.2 hg).2⟩
theorem Cm8(a:Option Addr)(c:Nat)(l:List UInt8)(hc:l.length≤c)(hcm:c≤maxLen)(w:World)(hl:A4 w a l):
 Calls Tryz.prog 132 #[.slice a l.length c] w (Db8 w l):=by
 by_cases h1:l.length<47
 ·exact(Cx9 a c l h1 w).mono fun x w' h=>.inr ⟨fun k=>by have:=k.1.1;omega,3,rfl,h.1,h.2⟩
 by_cases h2:946<l.length
 ·exact(Dt2 a c l h2 (by omega) w).mono fun x w' h=>.inr ⟨fun k=>by have:=k.1.2;omega,4,rfl,h.1,h.2⟩
 exact(Eg0 a c l (by omega) (by omega) hc hcm w hl).mono fun x w' h=>Dx1 (by omega) (by omega) h
theorem Es6(w:World):(Instr.build 65 #[]).run Tryz.prog w=.ok (.agg I0.toArray) w:=by kernel_rfl
theorem A5.atAll{T:TypeId}{w:World}{b:Nat}{L:List Value}(h:A5 T w b L):w.rangeAt b 0 L:=fun j v hj=>by
 have hjl:j<L.length:=(List.getElem?_eq_some_iff.1 hj).1;rw[h.blk.cell (0+j) (by omega),Nat.zero_add,List.getD_eq_getElem?_getD,hj];rfl
noncomputable def Aw8:{ops:Array Oper//(Tryz.f19.body.bind (M8 5))=some (.region 5 ops true)}:=⟨_,rfl⟩
abbrev Al7:List Nat:=[16,17]
theorem Dx2:opx Aw8.1 2=some (.store 51 (.tmp 4) (.tmp 16),none,none):=by kernel_rfl
theorem Dx3:opx Aw8.1 3=some (.store 65 (.tmp 5) (.tmp 17),none,none):=by kernel_rfl
theorem Dx4:opx Aw8.1 4=some (.store 54 (.tmp 6) (.const (Value.int IntKind.i64 0)),none,none):=by kernel_rfl
theorem Db9{s:Sv}{D:List Value}{n4 n5 n6:Nat}{c6:Int}{w0:World}{a1 a2:Option Addr}{b1 b2:List UInt8}{a:Act}{w:World}{Q:Exit→Act→World→Prop}(hsz:58≤a.tmps.size)
 (e4:a.tmps.getD 4 undef=.pointer (some ⟨n4,0,none⟩)) (e5:a.tmps.getD 5 undef=.pointer (some ⟨n5,0,none⟩)) (e6:a.tmps.getD 6 undef=.pointer (some ⟨n6,0,none⟩))
 (hP:∀c a d v w,Q (.panic c) (Act.put a d v) w→Q (.panic c) a w) (B4:A5 51 w n4 (A6 s)) (B5:A5 65 w n5 D) (B6:A5 54 w n6 [.int .i64 c6]) (N45:n4≠n5) (N46:n4≠n6) (N56:n5≠n6) (L6:w0.heap.size≤n6) (L4:w0.heap.size≤n4) (L5:w0.heap.size≤n5) (G:Below w0.heap.size w0 w) (QB:A4 w a1 b1) (QT:A4 w a2 b2)
 (hD1:D.all (·.oneCell')=true) (hD8:D.all no8=true) (env_len:(Tryz.prog.info? 65).map (·.size)=some D.length)
 (hQ:∀{x16 x17} w',A5 51 w' n4 (A6 s)→A5 65 w' n5 D→A5 54 w' n6 [.int .i64 0]→A4 w' a1 b1→A4 w' a2 b2→Below w0.heap.size w0 w'→Q .normal (B9 a Al7 [x16,x17]) w'):
 (Code.region 5 Aw8.1 true).wp Tryz.prog Q a w:=by
 have site_len:(Tryz.prog.info? 51).map (·.size)=some (A6 s).length:=by rw[D8];exact R6
 have bd0:∀{u:World},Below w0.heap.size w0 u→Below w0.heap.size w0 u.drew:=fun h=>bt h (bd _);have hB48:(A6 s).all no8=true:=V6 _;have hB58:D.all no8=true:=hD8;have hB68:[Value.int .i64 c6].all no8=true:=rfl;have rG:Rgn Aw8.1 Al7 a Q:=⟨fun k hk=>Nat.lt_of_lt_of_le ((by decide:∀k∈Al7,k<58) k hk) hsz,by kernel_rfl,hP⟩;have hb:=rG.b;obtain⟨i,h0⟩:=Z9 a Al7;let S:World→Prop:=fun w'=>A5 51 w' n4 (A6 s)∧A5 65 w' n5 D;refine wp_region_held_drew (S:=S) (by kernel_rfl) (⟨B4.up (bd _),B5.up (bd _)⟩) fun hHeld=>?_;have N2_3_4:∀(u:World) (G:Below w0.heap.size w0 u) (B4:A5 51 u n4 (A6 s)) (B5:A5 65 u n5 (D)) (B6:A5 54 u n6 ([i6 0])) (QB:A4 u a1 b1) (QT:A4 u a2 b2),wpAnyH Tryz.prog .any Aw8.1 Q S 0 (lm 5 31) (B9 a Al7 [.agg (A6 s).toArray,.agg (D).toArray]) u:=by
  intro u G B4 B5 B6 QB QT;refine W4 ?_;exact hQ _ B4 B5 B6 QB QT G
 have N2_3:∀(u:World) (G:Below w0.heap.size w0 u) (B4:A5 51 u n4 (A6 s)) (B5:A5 65 u n5 (D)) (B6:A5 54 u n6 [i6 c6]) (QB:A4 u a1 b1) (QT:A4 u a2 b2),wpAnyH Tryz.prog .any Aw8.1 Q S 1 (lm 5 15) (B9 a Al7 [.agg (A6 s).toArray,.agg (D).toArray]) u:=by
  intro u G B4 B5 B6 QB QT;refine C8 [4] (C7 rG Dx4 ?_ AllReadyH.nil);intro o hp hd;refine Bf8 54 (.tmp 6) (.const (i6 0)) hp n6 0 (rG.ev e6) rfl B6.blk (Nat.zero_lt_succ _) (by kernel_rfl) rfl ?_;exact Ab6 rG [] hd ⟨(B4.kp ((Kp.refl n6 u).set 0 _) N46),(B5.kp ((Kp.refl n6 u).set 0 _) N56)⟩ trivial (N2_3_4 _  (((Kp.refl n6 u).set 0 _).below G L6) (B4.kp ((Kp.refl n6 u).set 0 _) N46) (B5.kp ((Kp.refl n6 u).set 0 _) N56) (B6.set 0 _) (A4.kp8 QB B6.blk hB68 ((Kp.refl n6 u).set 0 _)) (A4.kp8 QT B6.blk hB68 ((Kp.refl n6 u).set 0 _)))
 have N2:∀(u:World) (G:Below w0.heap.size w0 u) (B4:A5 51 u n4 (A6 s)) (B5:A5 65 u n5 D) (B6:A5 54 u n6 [i6 c6]) (QB:A4 u a1 b1) (QT:A4 u a2 b2),wpAnyH Tryz.prog .any Aw8.1 Q S 2 (lm 5 7) (B9 a Al7 [.agg (A6 s).toArray,.agg (D).toArray]) u:=by
  intro u G B4 B5 B6 QB QT;refine C8 [3] (C7 rG Dx3 ?_ AllReadyH.nil);intro o hp hd;refine Aa9 65 (.tmp 5) (.tmp 17) hp n5 (rG.ev e5) rG.ev B5 env_len rfl hD1 ?_;exact Ab6 rG [] hd ⟨(B4.kp ((Kp.refl n5 u).row _) N45),(B5.row _)⟩ trivial (N2_3 _  (((Kp.refl n5 u).row _).below G L5) (B4.kp ((Kp.refl n5 u).row _) N45) (B5.row _) (B6.kp ((Kp.refl n5 u).row _) N56.symm) (A4.kp8 QB B5.blk (hB58) ((Kp.refl n5 u).row _)) (A4.kp8 QT B5.blk (hB58) ((Kp.refl n5 u).row _)))
 have N0:∀(u:World) (G:Below w0.heap.size w0 u) (B4:A5 51 u n4 (A6 s)) (B5:A5 65 u n5 D) (B6:A5 54 u n6 [i6 c6]) (QB:A4 u a1 b1) (QT:A4 u a2 b2),wpAnyH Tryz.prog .any Aw8.1 Q S 3 (lm 5 3) (B9 a Al7 [.agg (A6 s).toArray,.agg (D).toArray]) u:=by
  intro u G B4 B5 B6 QB QT;refine C8 [2] (C7 rG Dx2 ?_ AllReadyH.nil);intro o hp hd;refine Aa9 51 (.tmp 4) (.tmp 16) hp n4 (rG.ev e4) rG.ev B4 site_len rfl (Q3 _) ?_;exact Ab6 rG [] hd ⟨(B4.row _),(B5.kp ((Kp.refl n4 u).row _) N45.symm)⟩ trivial (N2 _  (((Kp.refl n4 u).row _).below G L4) (B4.row _) (B5.kp ((Kp.refl n4 u).row _) N45.symm) (B6.kp ((Kp.refl n4 u).row _) N46.symm) (A4.kp8 QB B4.blk (hB48) ((Kp.refl n4 u).row _)) (A4.kp8 QT B4.blk (hB48) ((Kp.refl n4 u).row _)))
 exact O3 5 rG [(0,16,.agg (A6 s).toArray),(1,17,.agg (D).toArray)] h0 ⟨B4.up (bd _),B5.up (bd _)⟩ ⟨Q2 (cs:=A6 s) rfl (fun w hw=>hw.1.atAll) site_len e4,Q2 (cs:=D) rfl (fun w hw=>hw.2.atAll) env_len e5,trivial⟩ (N0 _  (bd0 G) (B4.up (bd _)) (B5.up (bd _)) (B6.up (bd _)) (QB.mono (bd _)) (QT.mono (bd _)))
noncomputable def Aq8:{ops:Array Oper//(Tryz.f19.body.bind (M8 11))=some (.region 11 ops true)}:=⟨_,rfl⟩
abbrev Aj8:List Nat:=[56,57]
theorem Dc0:opx Aq8.1 2=some (.store 51 (.tmp 4) (.tmp 56),none,none):=by kernel_rfl
theorem Dc1:opx Aq8.1 3=some (.store 65 (.tmp 5) (.tmp 57),none,none):=by kernel_rfl
theorem Dc2:opx Aq8.1 4=some (.store 54 (.tmp 6) (.const (Value.int IntKind.i64 0)),none,none):=by kernel_rfl
theorem Bg9{s:Sv}{D:List Value}{n4 n5 n6:Nat}{c6:Int}{w0:World}{a1 a2:Option Addr}{b1 b2:List UInt8}{a:Act}{w:World}{Q:Exit→Act→World→Prop}(hsz:58≤a.tmps.size)
 (e4:a.tmps.getD 4 undef=.pointer (some ⟨n4,0,none⟩)) (e5:a.tmps.getD 5 undef=.pointer (some ⟨n5,0,none⟩)) (e6:a.tmps.getD 6 undef=.pointer (some ⟨n6,0,none⟩))
 (hP:∀c a d v w,Q (.panic c) (Act.put a d v) w→Q (.panic c) a w) (B4:A5 51 w n4 (A6 s)) (B5:A5 65 w n5 D) (B6:A5 54 w n6 [.int .i64 c6]) (N45:n4≠n5) (N46:n4≠n6) (N56:n5≠n6) (L6:w0.heap.size≤n6) (L4:w0.heap.size≤n4) (L5:w0.heap.size≤n5) (G:Below w0.heap.size w0 w) (QB:A4 w a1 b1) (QT:A4 w a2 b2)
 (hD1:D.all (·.oneCell')=true) (hD8:D.all no8=true) (env_len:(Tryz.prog.info? 65).map (·.size)=some D.length)
 (hQ:∀{x56 x57} w',A5 51 w' n4 (A6 s)→A5 65 w' n5 D→A5 54 w' n6 [.int .i64 0]→A4 w' a1 b1→A4 w' a2 b2→Below w0.heap.size w0 w'→Q .normal (B9 a Aj8 [x56,x57]) w'):
 (Code.region 11 Aq8.1 true).wp Tryz.prog Q a w:=by
 have site_len:(Tryz.prog.info? 51).map (·.size)=some (A6 s).length:=by rw[D8];exact R6
 have bd0:∀{u:World},Below w0.heap.size w0 u→Below w0.heap.size w0 u.drew:=fun h=>bt h (bd _);have hB48:(A6 s).all no8=true:=V6 _;have hB58:D.all no8=true:=hD8;have hB68:[Value.int .i64 c6].all no8=true:=rfl;have rG:Rgn Aq8.1 Aj8 a Q:=⟨fun k hk=>Nat.lt_of_lt_of_le ((by decide:∀k∈Aj8,k<58) k hk) hsz,by kernel_rfl,hP⟩;have hb:=rG.b;obtain⟨i,h0⟩:=Z9 a Aj8;let S:World→Prop:=fun w'=>A5 51 w' n4 (A6 s)∧A5 65 w' n5 D;refine wp_region_held_drew (S:=S) (by kernel_rfl) (⟨B4.up (bd _),B5.up (bd _)⟩) fun hHeld=>?_;have N2_3_4:∀(u:World) (G:Below w0.heap.size w0 u) (B4:A5 51 u n4 (A6 s)) (B5:A5 65 u n5 (D)) (B6:A5 54 u n6 ([i6 0])) (QB:A4 u a1 b1) (QT:A4 u a2 b2),wpAnyH Tryz.prog .any Aq8.1 Q S 0 (lm 5 31) (B9 a Aj8 [.agg (A6 s).toArray,.agg (D).toArray]) u:=by
  intro u G B4 B5 B6 QB QT;refine W4 ?_;exact hQ _ B4 B5 B6 QB QT G
 have N2_3:∀(u:World) (G:Below w0.heap.size w0 u) (B4:A5 51 u n4 (A6 s)) (B5:A5 65 u n5 (D)) (B6:A5 54 u n6 [i6 c6]) (QB:A4 u a1 b1) (QT:A4 u a2 b2),wpAnyH Tryz.prog .any Aq8.1 Q S 1 (lm 5 15) (B9 a Aj8 [.agg (A6 s).toArray,.agg (D).toArray]) u:=by
  intro u G B4 B5 B6 QB QT;refine C8 [4] (C7 rG Dc2 ?_ AllReadyH.nil);intro o hp hd;refine Bf8 54 (.tmp 6) (.const (i6 0)) hp n6 0 (rG.ev e6) rfl B6.blk (Nat.zero_lt_succ _) (by kernel_rfl) rfl ?_;exact Ab6 rG [] hd ⟨(B4.kp ((Kp.refl n6 u).set 0 _) N46),(B5.kp ((Kp.refl n6 u).set 0 _) N56)⟩ trivial (N2_3_4 _  (((Kp.refl n6 u).set 0 _).below G L6) (B4.kp ((Kp.refl n6 u).set 0 _) N46) (B5.kp ((Kp.refl n6 u).set 0 _) N56) (B6.set 0 _) (A4.kp8 QB B6.blk hB68 ((Kp.refl n6 u).set 0 _)) (A4.kp8 QT B6.blk hB68 ((Kp.refl n6 u).set 0 _)))
 have N2:∀(u:World) (G:Below w0.heap.size w0 u) (B4:A5 51 u n4 (A6 s)) (B5:A5 65 u n5 D) (B6:A5 54 u n6 [i6 c6]) (QB:A4 u a1 b1) (QT:A4 u a2 b2),wpAnyH Tryz.prog .any Aq8.1 Q S 2 (lm 5 7) (B9 a Aj8 [.agg (A6 s).toArray,.agg (D).toArray]) u:=by
  intro u G B4 B5 B6 QB QT;refine C8 [3] (C7 rG Dc1 ?_ AllReadyH.nil);intro o hp hd;refine Aa9 65 (.tmp 5) (.tmp 57) hp n5 (rG.ev e5) rG.ev B5 env_len rfl hD1 ?_;exact Ab6 rG [] hd ⟨(B4.kp ((Kp.refl n5 u).row _) N45),(B5.row _)⟩ trivial (N2_3 _  (((Kp.refl n5 u).row _).below G L5) (B4.kp ((Kp.refl n5 u).row _) N45) (B5.row _) (B6.kp ((Kp.refl n5 u).row _) N56.symm) (A4.kp8 QB B5.blk (hB58) ((Kp.refl n5 u).row _)) (A4.kp8 QT B5.blk (hB58) ((Kp.refl n5 u).row _)))
 have N0:∀(u:World) (G:Below w0.heap.size w0 u) (B4:A5 51 u n4 (A6 s)) (B5:A5 65 u n5 D) (B6:A5 54 u n6 [i6 c6]) (QB:A4 u a1 b1) (QT:A4 u a2 b2),wpAnyH Tryz.prog .any Aq8.1 Q S 3 (lm 5 3) (B9 a Aj8 [.agg (A6 s).toArray,.agg (D).toArray]) u:=by
  intro u G B4 B5 B6 QB QT;refine C8 [2] (C7 rG Dc0 ?_ AllReadyH.nil);intro o hp hd;refine Aa9 51 (.tmp 4) (.tmp 56) hp n4 (rG.ev e4) rG.ev B4 site_len rfl (Q3 _) ?_;exact Ab6 rG [] hd ⟨(B4.row _),(B5.kp ((Kp.refl n4 u).row _) N45.symm)⟩ trivial (N2 _  (((Kp.refl n4 u).row _).below G L4) (B4.row _) (B5.kp ((Kp.refl n4 u).row _) N45.symm) (B6.kp ((Kp.refl n4 u).row _) N46.symm) (A4.kp8 QB B4.blk (hB48) ((Kp.refl n4 u).row _)) (A4.kp8 QT B4.blk (hB48) ((Kp.refl n4 u).row _)))
 exact O3 5 rG [(0,56,.agg (A6 s).toArray),(1,57,.agg (D).toArray)] h0 ⟨B4.up (bd _),B5.up (bd _)⟩ ⟨Q2 (cs:=A6 s) rfl (fun w hw=>hw.1.atAll) site_len e4,Q2 (cs:=D) rfl (fun w hw=>hw.2.atAll) env_len e5,trivial⟩ (N0 _  (bd0 G) (B4.up (bd _)) (B5.up (bd _)) (B6.up (bd _)) (QB.mono (bd _)) (QT.mono (bd _)))
theorem A4.up8{w w':World}{a:Option Addr}{l:List UInt8}(h:A4 w a l)(hb:Below w.heap.size w w'):A4 w' a l:=h.mono hb
theorem Ce5{s:Sv}{bl:List UInt8}{S:Sv}{E:Int}{w w':World}(hT:T6 s bl=(S,E))(hE:E≠0)(hb:Below w.heap.size w w'):
 Bf9 w s bl (.returned (.tuple #[.agg (A6 S).toArray,.agg I0.toArray,.int .i64 E])) w':=by
 unfold Bf9;rw[hT];exact⟨_,rfl,.inl ⟨hE,rfl⟩,hb⟩
theorem Bl1{s:Sv}{bl:List UInt8}{S:Sv}{p:Pd}(hp:pdF bl=p){w w':World}(hT:T6 s bl=(S,0))(hb:Below w.heap.size w w'){a1 a2:Option Addr}{c1 c2:Nat}
 (h1:p.b.length≤c1∧c1≤maxLen) (h2:p.t.length≤c2∧c2≤maxLen) (hb1:A4 w' a1 p.b) (hb2:A4 w' a2 p.t):
 Bf9 w s bl (.returned (.tuple #[.agg (A6 S).toArray,.agg (I5 p.k p.d p.e0 p.e1 p.g p.q (.slice a1 p.b.length c1) (.slice a2 p.t.length c2)).toArray,.int .i64 0])) w':=by
 unfold Bf9;rw[hT,hp];exact⟨_,rfl,.inr ⟨rfl,a1,c1,a2,c2,rfl,h1,h2,hb1,hb2⟩,hb⟩
structure Fi0 (s:Sv) (bl:List UInt8) (p:Pd):Prop where
 form:¬okR bl→T6 s bl=(Ah1 s 2,2)
 stray:okR bl→U1 s.e p.k p.d p.e0 p.e1 p.g=true→T6 s bl=(Ah1 s 13,13)
 tag:okR bl→U1 s.e p.k p.d p.e0 p.e1 p.g=false→Ai5 s p=false→T6 s bl=(Ah1 (V8 s p) 5,5)
 setup:okR bl→U1 s.e p.k p.d p.e0 p.e1 p.g=false→Ai5 s p=true→((p.k:Int)==1)=true→T6 s bl=(V8 s p,0)
 old:okR bl→U1 s.e p.k p.d p.e0 p.e1 p.g=false→Ai5 s p=true→((p.k:Int)==1)=false→((U2 s.e.wt s.e.wb p.q).2.2==0)=false→T6 s bl=(Ah1 (V8 s p) 6,6)
 gone:okR bl→U1 s.e p.k p.d p.e0 p.e1 p.g=false→Ai5 s p=true→((p.k:Int)==1)=false→((U2 s.e.wt s.e.wb p.q).2.2==0)=true→T6 s bl=(Ah4 (V8 s p) p,0)
theorem Dc3(s:Sv)(bl:List UInt8)(p:Pd)(hp:pdF bl=p):Fi0 s bl p:=by
 subst hp;constructor
 ·intro h;unfold T6;simp only[decide_eq_false h,Bool.not_false,cond_true]
 ·intro h h1;unfold T6;simp only[decide_eq_true h,Bool.not_true,cond_false,h1,cond_true]
 ·intro h h1 h2;unfold T6;simp only[decide_eq_true h,Bool.not_true,cond_false,h1,h2,Bool.not_false,cond_true]
 ·intro h h1 h2 h3;unfold T6;simp only[decide_eq_true h,Bool.not_true,cond_false,h1,h2,h3,cond_true]
 ·intro h h1 h2 h3 h4;unfold T6;simp only[decide_eq_true h,Bool.not_true,cond_false,h1,h2,h3,bne,h4,Bool.not_false,cond_true]
 ·intro h h1 h2 h3 h4;unfold T6;simp only[decide_eq_true h,Bool.not_true,cond_false,h1,h2,h3,bne,h4]
theorem Cm9{g:G}(h:S7 g=true∨Ad3 g=true):g.len≤32:=by
 unfold S7 Ad3 at h;simp only[Bool.and_eq_true,decide_eq_true_eq,beq_iff_eq] at h;omega
theorem Dx5{e:Ev}(h:Aj5 e=true):(S7 e.r.c=true∨Ad3 e.r.c=true)∧(S7 e.r.o=true∨Ad3 e.r.o=true)∧(S7 e.r.p=true∨Ad3 e.r.p=true):=by
 unfold Aj5 Ab0 Af9 Bo0 Bp8 at h;simp only[Bool.or_eq_true,Bool.and_eq_true] at h;rcases h with h | h
 ·exact⟨.inl h.1,.inl h.2.1,.inl h.2.2.1⟩
 ·refine⟨.inr h.1,?_,h.2.2.1.imp id fun h=>h.1⟩;have h2:=h.2.1;cases hn:S7 e.r.o
  ·rw[hn] at h2;simp only[cond_false,Bool.and_eq_true] at h2;exact .inr h2.1
  ·exact .inl rfl
theorem Dx6{q:Nat→Prop}{w:World}{e:Ev}(h:X7 q w e)(hr:Aj5 e=true)(no:Int):(Aw7 e no).length≤32:=by
 rw[←(Bu8 h no).2.1];obtain⟨h1,h2,h3⟩:=Dx5 hr;unfold I8;cases Y9 no e.r.c
 ·cases Y9 no e.r.o
  ·cases Y9 no e.r.p
   ·exact Nat.zero_le _
   ·exact Cm9 h3
  ·exact Cm9 h2
 ·exact Cm9 h1
theorem Aw9(a b c:Addr)(w:World):
 CallsD Tryz.prog 60 #[.pointer (some a),.pointer (some b),.pointer (some c)] .returning w fun e u' w'=>e=.returned (.tuple #[])∧u'=.returning∧w'=w:=by
 refine callsD_of_wpS Tryz.func60 rfl fun c₀ cs hu=>?_;apply wpS_seq;apply wpS_region;simp[wpOpsS,go_sem,recoverD,hu,Tryz.ntmps60,Exit.thenS];refine wpS_of_wp ?_;go_wp2_with fail
 cases c₀
 simp_all [Exit.inBlock,Exit.then,bodyPostS,results,Tryz.results60]
theorem Ek6(E:Int)(w:World):(Instr.typeAssert (.iface 54 (.int .i64 E)) 20 54 true).run Tryz.prog w=.ok (.tuple #[.int .i64 E,.bool true]) w:=by kernel_rfl
theorem Bu9{P:Program}{w:World}{b o:Nat}{ty:TypeId}{v:Value}{d:TypeDesc}(hu:P.underlying ty=some d)(hd:d.isRow=false)(hc:w.cell? ⟨b,o,none⟩=some v):
 (loadVar ty ⟨b,o,none⟩).run P w=.ok v w:=by
 have hagg:(isAgg ty).run P w=.ok false w:=by
  unfold isAgg;rw[Sem.run_bind,run_underlying hu w];cases d<;>simp_all [TypeDesc.isRow]
 simp[loadVar,Sem.run_bind,hagg,hc]
theorem An8{P:Program}{fn:Func}{p r u:Tmp}{ty tz tx:TypeId}(h:fn.results=#[.cell p ty,.cell r tz,.cell u tx])(tmps:Array Value)(w:World)(g g2 g3:Nat){cs ds:List Value}{v:Value}{d d2 d3:TypeDesc}
 (hp:tmps.getD p undef=.pointer (some ⟨g,0,none⟩)) (hp2:tmps.getD r undef=.pointer (some ⟨g2,0,none⟩)) (hp3:tmps.getD u undef=.pointer (some ⟨g3,0,none⟩)) (hb:Blk w g cs) (hu:P.underlying ty=some d) (hd:(match d with | .struct _ | .array _ _=>true | _=>false)=true) (hi:(P.info? ty).map (·.size)=some cs.length)
 (hb2:Blk w g2 ds) (hu2:P.underlying tz=some d2) (hd2:(match d2 with | .struct _ | .array _ _=>true | _=>false)=true) (hi2:(P.info? tz).map (·.size)=some ds.length) (hc3:w.cell? ⟨g3,0,none⟩=some v) (hu3:P.underlying tx=some d3) (hd3:d3.isRow=false):
 (results fn tmps).run P w=.ok (.tuple #[.agg cs.toArray,.agg ds.toArray,v]) w:=by
 obtain⟨T,hg⟩:=hb;obtain⟨T2,hg2⟩:=hb2;have h1:=run_loadVar_row (P:=P) w g T ty cs.toArray _ d hg hu hd (by simpa using hi);have h2:=run_loadVar_row (P:=P) w g2 T2 tz ds.toArray _ d2 hg2 hu2 hd2 (by simpa using hi2);have h3:=Bu9 (P:=P) hu3 hd3 hc3;have e:(results fn tmps).run P w=((asAddr (tmps.getD p undef)).run P w).andThen fun a w₁=>((loadVar ty a).run P w₁).andThen fun v' w₂=>((asAddr (tmps.getD r undef)).run P w₂).andThen fun a2 w₃=>((loadVar tz a2).run P w₃).andThen fun v3 w₄=>((asAddr (tmps.getD u undef)).run P w₄).andThen fun a3 w₅=>((loadVar tx a3).run P w₅).andThen fun v4 w₆=>.ok (.tuple #[v',v3,v4]) w₆:=by
  simp only[results,h];simp[Sem.run_bind,Result.andThen]
 rw[e,hp,hp2,hp3];simp[asAddr,h1,h2,h3]
theorem Es7(E:Int)(w:World):(binOp BinOp.eql 20 (.iface 54 (.int .i64 E)) .nilIface).run Tryz.prog w=.ok (.bool false) w:=by kernel_rfl
theorem Bm1(s:Sv)(D:List Value)(n4 n5 n6:Nat)(c6 E:Int)(older:List PanicEntry)(w0 w:World)(B4:A5 51 w n4 (A6 s))(B5:A5 65 w n5 D)(B6:A5 54 w n6 [.int .i64 c6])(hDl:D.length=8)
 (N4_5:n4≠n5) (N4_6:n4≠n6) (N5_6:n5≠n6) (L4:w0.heap.size≤n4) (L5:w0.heap.size≤n5) (L6:w0.heap.size≤n6) (G:Below w0.heap.size w0 w):
 CallsD Tryz.prog 60 #[.pointer (some ⟨n4,0,none⟩),.pointer (some ⟨n5,0,none⟩),.pointer (some ⟨n6,0,none⟩)] (.panicking ({v:=.iface 54 (.int .i64 E),recovered:=false}::older)) w fun e u' w'=>
  e=.returned (.tuple #[])∧u'=.panicking ({v:=.iface 54 (.int .i64 E),recovered:=true}::older)∧A5 51 w' n4 (A6 (Ah1 s E))∧A5 65 w' n5 I0∧A5 54 w' n6 [.int .i64 E]∧Below w0.heap.size w0 w':=by
 have SZ:=Lh (show ∀S:Sv,(Tryz.prog.info? 51).map (·.size)=some (A6 S).length from fun S=>by rw[D8];exact R6);have SV:=Lh Ac0;have B4:=Lh B4;have B5:=Lh B5;have B6:=Lh B6;have G:=Lh G;have N4_5:=Lh N4_5;have N4_6:=Lh N4_6;have N5_6:=Lh N5_6;have L4:=Lh L4;have L5:=Lh L5;have L6:=Lh L6;have DL:=Lh hDl;have HCt:=Lh (fun W=>Cf5 s E W);clear hDl;refine callsD_of_wpS Tryz.func60 rfl fun c₀ cs hu=>?_;apply wpS_seq;apply wpS_region;simp[wpOpsS,go_sem,recoverD,hu,Tryz.ntmps60,Exit.thenS];refine wpS_of_wp ?_;change Code.wp _ _ _ {tmps:=#[Value.pointer (some ⟨n4,0,none⟩),Value.pointer (some ⟨n5,0,none⟩),Value.pointer (some ⟨n6,0,none⟩),undef,undef,undef,(Value.iface 54 (Value.int .i64 E)),undef,undef,undef,undef,undef,undef,undef,undef,undef,undef],defers:=[]} w;have hta:=Ek6 E;have hen:=Es7 E;go_wp2_with (refine I2 51 (.tmp 0) rfl ?_;refine C6 51 (.tmp 0) n4 rfl rfl rfl B4.out.blk Tryz.underlying51 rfl (SZ.out _) ?_)
 refine(HCt.out _).mono ?_;rintro x wC ⟨rfl,hb⟩;replace B4:=Lh (B4.out.up hb);replace B5:=Lh (B5.out.up hb);replace B6:=Lh (B6.out.up hb);replace G:=Lh (bt G.out hb);clear hb;have hbe:=Es6;go_wp2_with (first
  | (refine G8 51 (.tmp 0) _ rfl ?_;go_must (refine I4 51 (.tmp 0) _ n4 rfl rfl rfl rfl B4.out (SZ.out _) (by rw[D8,D8]) (Q3 _) ?_;intro wD hB hK;replace B5:=Lh (B5.out.kp hK N4_5.out.symm);replace B6:=Lh (B6.out.kp hK N4_6.out.symm);replace B4:=Lh hB;replace G:=Lh (hK.below G.out L4.out);clear hB hK))
  | (refine G8 65 (.tmp 1) _ rfl ?_;go_must (refine I4 65 (.tmp 1) _ n5 (cs:=I0) rfl rfl rfl rfl B5.out SV.out DL.out rfl ?_;intro wE hB hK;replace B4:=Lh (B4.out.kp hK N4_5.out);replace B6:=Lh (B6.out.kp hK N5_6.out.symm);replace B5:=Lh hB;replace G:=Lh (hK.below G.out L5.out);clear hB hK))
  | (refine G8 54 (.tmp 2) _ rfl ?_;go_must (refine S5 54 (.tmp 2) _ n6 0 rfl rfl rfl rfl B6.out (Nat.zero_lt_succ _) (by kernel_rfl) rfl rfl ?_;intro wF hB hK;replace B4:=Lh (B4.out.kp hK N4_6.out);replace B5:=Lh (B5.out.kp hK N5_6.out);replace B6:=Lh hB;replace G:=Lh (hK.below G.out L6.out);clear hB hK)))
 have R:=Lh (And.intro B4.out (And.intro B5.out (And.intro B6.out G.out)));clear B4 B5 B6 G;simp[Exit.inBlock,Exit.then,bodyPostS,results,Tryz.results60];exact R.out
end Go.Proofs.YtadpiemjgfndgaaGreatDoor
