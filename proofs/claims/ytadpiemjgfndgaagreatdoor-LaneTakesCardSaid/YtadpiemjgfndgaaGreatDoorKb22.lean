/- Proved here, for use further on: LeP LeQ LeR LeS LeT LeU. Conditions: none but those each theorem names. -/
import Derived.Test.YtadpiemjgfndgaaGreatDoorKb00
import Derived.Test.YtadpiemjgfndgaaGreatDoorKb21
import Derived.LoopN
import Derived.WalkSmall
import Derived.Test.YtadpiemjgfndgaaGreatDoorKb05
import Derived.Test.YtadpiemjgfndgaaGreatDoorKb11
import Derived.Test.YtadpiemjgfndgaaGreatDoorKb12
import Derived.Test.YtadpiemjgfndgaaGreatDoorKb19
set_option linter.unusedSimpArgs false
set_option linter.unusedVariables false
set_option maxRecDepth 100000
set_option maxHeartbeats 8000000
namespace Go.Proofs.YtadpiemjgfndgaaGreatDoor
open Go.RowKit
theorem Ed1{x:Int}(h0:0≤x+1)(h1:x+1≤9223372036854775807):IntKind.i64.wrap (x+1)=x+1:=by
 obtain⟨n,hn⟩:∃n:Nat,x+1=n:=⟨(x+1).toNat,by omega⟩;rw[hn];exact Bd5 n (by omega)
theorem O0.seq{q:Nat→Prop}{w:World}{S:Sv}(h:O0 q w S):O0 q w (Bu6 S):=
 ⟨⟨h.e.k,h.e.s1,h.e.s2,h.e.r,h.e.rc,h.e.ro,h.e.rp,h.e.q,h.e.ql,h.e.u,h.e.ul,h.e.h,h.e.hl,h.e.o,h.e.ol,h.e.g,h.e.gl,h.e.wt⟩,h.p,h.pl⟩
theorem Bt0(s:Sv)(bda:Option Addr)(bdc:Nat)(bl:List UInt8)(w:World)(qq:Nat→Prop)(hq:∀g,w.heap.size≤g→qq g)(h:O0 qq w s)(hr:Z6 s.e=true)(hes:s.es.length≤900)(hn:s.e.o.length≤1000)(hbl:A4 w bda bl)(hks:Q5 w):
 Calls Tryz.prog 16 #[.agg (A5 s).toArray,.slice bda bl.length bdc] w (Ay0 qq w (Ar0 s bl)):=by
 have SZ:=Lh (show ∀S:Sv,(Tryz.prog.info? 51).map (·.size)=some (A5 S).length from fun S=>by rw[D5];exact J8);have SE:=Lh (show ∀E:Ev,(Tryz.prog.info? 46).map (·.size)=some (A8 E).length from fun E=>by rw[I3];exact Q3);have HS:=Lh h;have HQ:=Lh hq;have HR:=Lh (At5 hr);have HE:=Lh (fun(z1:X7 s.e.ph=true) (z2:V7 bl.length=true) (q2:Nat→Prop) (u:World) (hb:Below w.heap.size w u) (hc:∀g,u.heap.size≤g→q2 g) (hc2:∀g,g<w.heap.size→qq g→q2 g)=>
  (show Calls Tryz.prog 56 #[.agg (A5 s).toArray,.agg #[.int .i64 2,.int .i64 s.e.id,.int .i64 (D9 s.e).1,.int .i64 (D9 s.e).2,.int .i64 s.e.r.c.no,.int .i64 s.e.seq,.slice bda bl.length bdc,.slice none 0 0],.slice s.e.r.c.a s.e.r.c.len s.e.r.c.cap] u (Ay0 q2 u (Be7 s s.e.kc (Cd1 s bl))) from by
  have f:=At5 hr;have b:=Da4 z2;have pb:=Bx0 (e:=s.e) f.id f.own f.oth;have cu:=f.cur z1;have kl:s.e.kc.length=32:=by rw[←h.e.r.lc];exact cu.2.2
  have k2:=Bs8 s 2 s.e.id.toNat (D9 s.e).1.toNat (D9 s.e).2.toNat s.e.r.c.no.toNat s.e.seq.toNat bda bdc bl s.e.r.c.a s.e.r.c.cap s.e.kc u q2 hc ((h.to hc2).mono hb) ⟨by decide,by decide,by have:=f.id;omega,by omega,by omega,by omega,by have:=f.seq;omega,b.1,b.2⟩ (hbl.mono hb) (h.e.r.c.mono hb) (by omega) (by rw[←h.e.r.lc];exact h.e.rc) f.nx hes hn (hks.mono hb);rw[←h.e.r.lc,As2 f.id.1,As2 pb.1.1,As2 pb.2.1,As2 (show 0≤s.e.r.c.no by omega),As2 f.seq.1] at k2;exact k2))
 have HBad:=Lh (fun(hz:V7 bl.length=false)=>(show Ar0 s bl s 1 from .inl ⟨hz,rfl,rfl⟩));have HOff:=Lh (fun(hz:V7 bl.length=true) (hl:X7 s.e.ph=false)=>(show Ar0 s bl s 7 from .inr ⟨hz,.inl ⟨hl,rfl,rfl⟩⟩));have HSp:=Lh (fun(hz:V7 bl.length=true) (hl:X7 s.e.ph=true) (hs:s.e.seq=4611686018427387904)=>(show Ar0 s bl s 10 from .inr ⟨hz,.inr ⟨hl,.inl ⟨hs,rfl,rfl⟩⟩⟩));have HOk:=Lh (fun(hz:V7 bl.length=true) (hl:X7 s.e.ph=true) (hs:s.e.seq<4611686018427387904) S1 E (hR:Be7 s s.e.kc (Cd1 s bl) S1 E)=>(show Ar0 s bl (bif E==0 then Bu6 S1 else S1) E from .inr ⟨hz,.inr ⟨hl,.inr ⟨hs,S1,hR,rfl⟩⟩⟩));have HLk:=Lh (fun W=>Ak7 s.e.ph W);have HF:=Lh (fun W=>Bq4 bda bl.length bdc W);clear h hq hr hes hn hbl hks;go_enter Tryz.func16,Tryz.ntmps16
 go_upto_region 1 with(fail)
 generalize hW:World.alloc (World.alloc w _) _=W;obtain⟨B3,B6,hb⟩:=Ac1 (a:=A5 s) (b:=I6) hW;clear hW;have B3:=Lh B3;have B6:=Lh B6;have G:=Lh hb;have N36:=Lh (show w.heap.size≠w.heap.size+1 by omega);have L3:=Lh (show w.heap.size≤w.heap.size by omega);have L6:=Lh (show w.heap.size≤w.heap.size+1 by omega);clear hb;generalize w.heap.size+1=n6 at B6 N36 L6 ⊢;generalize hn3:w.heap.size=n3 at B3 N36 ⊢;replace L3:=Lh (show w.heap.size≤n3 by omega);clear hn3;go_upto_region 2 with(first
  | (refine F2 46 (.tmp 9) rfl ?_;refine C8 46 (.tmp 9) n3 0 (by first | rfl | simp[Region.wanted,yielded]) rfl rfl B3.out.blk.atE Tryz.underlying46 rfl (SE.out _) ?_)
  | (refine D8 46 _ _ rfl ?_;refine G9 46 _ _ _ rfl rfl rfl rfl (A6.new _ _ _) (SE.out _) (by rw[I3];rfl) (Ai5 _) ?_;intro w5 hB8 hK;have B8:=Lh hB8;have N8:=Lh (show n3≠W.heap.size∧n6≠W.heap.size from⟨Nat.ne_of_lt B3.out.blk.lt,Nat.ne_of_lt B6.out.blk.lt⟩);replace B3:=Lh ((B3.out.up (ba _ _)).kp hK N8.out.1);replace B6:=Lh ((B6.out.up (ba _ _)).kp hK N8.out.2);have L8:=Lh G.out.size;replace G:=Lh (hK.below (bt G.out (ba _ _)) G.out.size);clear hB8 hK))
 generalize W.heap.size=n8 at B8 N8 L8 ⊢;go_wp2_with fail
 refine(HF.out _).mono ?_;rintro x w2 ⟨rfl,rfl⟩;clear HF;rcases hz2:V7 bl.length with _ | _
 ·have HBd:=Lh (HBad.out hz2);clear hz2 HE HOk HBad HOff HSp HLk;go_wp2_with (first
   | (refine F2 51 (.tmp 2) rfl ?_;refine C4 51 (.tmp 2) n3 rfl rfl rfl B3.out.blk Tryz.underlying51 rfl (SZ.out _) ?_)
   | (refine D8 51 _ _ rfl ?_;refine G9 51 _ _ n6 rfl rfl rfl rfl B6.out (SZ.out _) (by rw[J0,D5]) (J2 _) ?_;intro w3 hB hK;replace B6:=Lh hB;replace G:=Lh (hK.below G.out L6.out);clear hB hK))
  (try simp only[Act.put,List.setIfInBounds_toArray,List.set_cons_zero,List.set_cons_succ])
  refine bodyPost_ret (G6 rfl _ _ n6 (cs:=A5 s) rfl _ rfl B6.out.blk Tryz.underlying51 rfl (SZ.out _)) rfl ?_;exact⟨s,1,rfl,HBd.out,HS.out.mono G.out,G.out⟩
 replace HOff:=Lh (HOff.out hz2);replace HSp:=Lh (HSp.out hz2);replace HOk:=Lh (HOk.out hz2);have Hz2:=Lh hz2;clear HBad hz2;have gp:=B8.out.blk.endIn.ph;go_wp2_with fail
 refine(HLk.out _).mono ?_;rintro x w2 ⟨rfl,rfl⟩;clear HLk gp;rcases hz1:X7 s.e.ph with _ | _
 ·have HBd:=Lh (HOff.out hz1);clear hz1 HE HOk HOff HSp;go_wp2_with (first
   | (refine F2 51 (.tmp 2) rfl ?_;refine C4 51 (.tmp 2) n3 rfl rfl rfl B3.out.blk Tryz.underlying51 rfl (SZ.out _) ?_)
   | (refine D8 51 _ _ rfl ?_;refine G9 51 _ _ n6 rfl rfl rfl rfl B6.out (SZ.out _) (by rw[J0,D5]) (J2 _) ?_;intro w3 hB hK;replace B6:=Lh hB;replace G:=Lh (hK.below G.out L6.out);clear hB hK))
  (try simp only[Act.put,List.setIfInBounds_toArray,List.set_cons_zero,List.set_cons_succ])
  refine bodyPost_ret (G6 rfl _ _ n6 (cs:=A5 s) rfl _ rfl B6.out.blk Tryz.underlying51 rfl (SZ.out _)) rfl ?_;exact⟨s,7,rfl,HBd.out,HS.out.mono G.out,G.out⟩
 replace HSp:=Lh (HSp.out hz1);replace HOk:=Lh (HOk.out hz1);replace HE:=Lh (HE.out hz1 Hz2.out);clear HOff hz1;have gs:=B8.out.blk.endIn.seq;by_cases hz3:s.e.seq=4611686018427387904
 ·have HBd:=Lh (HSp.out hz3);rw[hz3] at gs;clear hz3 HE HOk HSp;go_wp2_with (first
   | (refine F2 51 (.tmp 2) rfl ?_;refine C4 51 (.tmp 2) n3 rfl rfl rfl B3.out.blk Tryz.underlying51 rfl (SZ.out _) ?_)
   | (refine D8 51 _ _ rfl ?_;refine G9 51 _ _ n6 rfl rfl rfl rfl B6.out (SZ.out _) (by rw[J0,D5]) (J2 _) ?_;intro w3 hB hK;replace B6:=Lh hB;replace G:=Lh (hK.below G.out L6.out);clear hB hK))
  (try simp only[Act.put,List.setIfInBounds_toArray,List.set_cons_zero,List.set_cons_succ])
  refine bodyPost_ret (G6 rfl _ _ n6 (cs:=A5 s) rfl _ rfl B6.out.blk Tryz.underlying51 rfl (SZ.out _)) rfl ?_;exact⟨s,10,rfl,HBd.out,HS.out.mono G.out,G.out⟩
 have e3:(s.e.seq==4611686018427387904)=false:=by rw[beq_eq_false_iff_ne];exact hz3
 have h3:s.e.seq<4611686018427387904:=by have:=HR.out.seq;omega
 replace HOk:=Lh (HOk.out h3);have H3:=Lh h3;clear hz3 HSp h3;go_upto_region 8 with(fail)
 clear e3 gs;generalize hWr:w5=Wr at *;clear hWr;have Q6:=Lh (show ∀g,Wr.heap.size≤g→qq g∧g≠n6 from fun g hg=>⟨HQ.out g (Nat.le_trans G.out.size hg),Nat.ne_of_gt (Nat.lt_of_lt_of_le B6.out.blk.lt hg)⟩);refine Dh5 (qq:=fun g=>qq g∧g≠n6) (R0:=Be7 s s.e.kc (Cd1 s bl)) (Nat.le_refl _) rfl rfl (fun _ _ d _ _ h=>by cases d<;>exact h) B3.out rfl B8.out Q6.out (fun q2 u hu hc hc2=>HE.out q2 u (bt G.out hu) hc (fun g hg hp=>hc2 g (Nat.lt_of_lt_of_le hg G.out.size) ⟨hp,Nat.ne_of_lt (Nat.lt_of_lt_of_le hg L6.out)⟩)) ?_;intro x28 x29 x30 x31 x32 x33 x34 x35 x36 x37 x38 x39 x40 x41 x42 x43 x44 x45 x27 x46 x47 z S9 E9 w9 hB7 hLz hR hSQ hG;simp only[C6,Act.put,List.setIfInBounds_toArray,List.set_cons_zero,List.set_cons_succ];have B7:=Lh hB7;have R9:=Lh (HOk.out S9 E9 hR);have SQ:=Lh hSQ;have LZ:=Lh (show w.heap.size≤z from Nat.le_trans G.out.size hLz);have NZ:=Lh (show n6≠z from Nat.ne_of_lt (Nat.lt_of_lt_of_le B6.out.blk.lt hLz));replace B6:=Lh (B6.out.up hG);replace G:=Lh (bt G.out hG);have HC:=Lh (show E9=11∨(E9=0∧S9.e.seq=s.e.seq) from by
  rcases hR with⟨_,_,rfl⟩ | ⟨c,ta,tc,oa,oc,_,rfl,rfl⟩
  ·exact .inl rfl
  ·exact .inr ⟨rfl,rfl⟩)
 clear hB7 hR hSQ hG hLz HOk HE;rcases HC.out with rfl | ⟨rfl,hsq⟩
 ·go_wp2_with (first
   | (refine F2 51 (.tmp 7) rfl ?_;refine C4 51 (.tmp 7) z rfl rfl rfl B7.out.blk Tryz.underlying51 rfl (SZ.out _) ?_)
   | (refine D8 51 _ _ rfl ?_;refine G9 51 _ _ n6 rfl rfl rfl rfl B6.out (SZ.out _) (by rw[J0,D5]) (J2 _) ?_;intro w3 hB hK;replace SQ:=Lh (SQ.out.k8 (B6.out.k8 (by rfl) hK) fun g hg=>hg.1.2);replace B6:=Lh hB;replace G:=Lh (hK.below G.out L6.out);clear hB hK))
  (try simp only[Act.put,List.setIfInBounds_toArray,List.set_cons_zero,List.set_cons_succ])
  refine bodyPost_ret (G6 rfl _ _ n6 (cs:=A5 S9) rfl _ rfl B6.out.blk Tryz.underlying51 rfl (SZ.out _)) rfl ?_;exact⟨S9,11,rfl,R9.out,SQ.out.to (fun g hg hp=>hp.1.1),G.out⟩
 ·have gs:=B7.out.blk.siteIn.seq;have hw:IntKind.i64.wrap (S9.e.seq+1)=S9.e.seq+1:=Ed1 (by have:=HR.out.seq;omega) (by have:=HR.out.seq;have:=H3.out;omega);clear hsq;go_wp2_with (first
   | (refine D8 3 (.tmp 55) (.tmp 53) rfl ?_;refine S7 3 (.tmp 55) (.tmp 53) z 9 rfl rfl rfl rfl B7.out (by rw[D5];decide) (by kernel_rfl) rfl (Cl5 S9 (S9.e.seq+1)) ?_;intro w3 hB hK;replace SQ:=Lh (SQ.out.k8 (B7.out.k8 (R6 _) hK) fun g hg=>hg.2);replace B7:=Lh hB;replace B6:=Lh (B6.out.kp hK NZ.out);replace G:=Lh (hK.below G.out LZ.out);clear hB hK gs)
   | (refine F2 51 (.tmp 7) rfl ?_;refine C4 51 (.tmp 7) z rfl rfl rfl B7.out.blk Tryz.underlying51 rfl (SZ.out _) ?_)
   | (refine D8 51 _ _ rfl ?_;refine G9 51 _ _ n6 rfl rfl rfl rfl B6.out (SZ.out _) (by rw[J0,D5]) (J2 _) ?_;intro w3 hB hK;replace SQ:=Lh (SQ.out.k8 (B6.out.k8 (by rfl) hK) fun g hg=>hg.1.2);replace B6:=Lh hB;replace G:=Lh (hK.below G.out L6.out);clear hB hK))
  (try simp only[Act.put,List.setIfInBounds_toArray,List.set_cons_zero,List.set_cons_succ])
  refine bodyPost_ret (G6 rfl _ _ n6 (cs:=A5 (Bu6 S9)) rfl _ rfl B6.out.blk Tryz.underlying51 rfl (SZ.out _)) rfl ?_;exact⟨Bu6 S9,0,rfl,R9.out,(SQ.out.to (fun g hg hp=>hp.1.1)).seq,G.out⟩
theorem Bh0(a b c d:Value)(w:World):(Instr.index 140 (.agg #[a,b,c,d]) (.int .i64 0)).run Tryz.prog w=.ok a w:=by kernel_rfl
theorem Bh1(a b c d:Value)(w:World):(Instr.index 140 (.agg #[a,b,c,d]) (.int .i64 1)).run Tryz.prog w=.ok b w:=by kernel_rfl
theorem Bh2(a b c d:Value)(w:World):(Instr.index 140 (.agg #[a,b,c,d]) (.int .i64 2)).run Tryz.prog w=.ok c w:=by kernel_rfl
theorem Bh3(a b c d:Value)(w:World):(Instr.index 140 (.agg #[a,b,c,d]) (.int .i64 3)).run Tryz.prog w=.ok d w:=by kernel_rfl
def Ac2(s:Sv)(b:Int):Sv:=
 if b=2 then s.on (s.e.s_c0 (wrap64 (s.e.c0+1))) else if b=5 then s.on (s.e.s_c1 (wrap64 (s.e.c1+1)))
 else if b=6 then s.on (s.e.s_c2 (wrap64 (s.e.c2+1))) else if b=13 then s.on (s.e.s_c3 (wrap64 (s.e.c3+1))) else s
theorem O0.bump{q:Nat→Prop}{w:World}{S:Sv}(h:O0 q w S)(b:Int):O0 q w (Ac2 S b):=by
 unfold Ac2;repeat' split
 all_goals first | exact h | exact⟨⟨h.e.k,h.e.s1,h.e.s2,h.e.r,h.e.rc,h.e.ro,h.e.rp,h.e.q,h.e.ql,h.e.u,h.e.ul,h.e.h,h.e.hl,h.e.o,h.e.ol,h.e.g,h.e.gl,h.e.wt⟩,h.p,h.pl⟩
theorem Dh6(s:Sv)(w:World):
 Calls Tryz.prog 22 #[.agg (A5 s).toArray,.int .i64 2] w fun x w'=>x=.returned (.agg (A5 (s.on (s.e.s_c0 (wrap64 (s.e.c0+1))))).toArray)∧Below w.heap.size w w':=by
 have SZ:=Lh (show ∀S:Sv,(Tryz.prog.info? 51).map (·.size)=some (A5 S).length from fun S=>by rw[D5];exact J8);go_enter Tryz.func22,Tryz.ntmps22
 go_upto_region 1 with(fail)
 generalize hW:World.alloc (World.alloc w _) _=W;obtain⟨B3,B6,hb⟩:=Ac1 (a:=A5 s) (b:=I6) hW;clear hW;have B3:=Lh B3;have B6:=Lh B6;have G:=Lh hb;have N36:=Lh (show w.heap.size≠w.heap.size+1 by omega);have L3:=Lh (show w.heap.size≤w.heap.size by omega);have L6:=Lh (show w.heap.size≤w.heap.size+1 by omega);clear hb;generalize w.heap.size+1=n6 at B6 N36 L6 ⊢;generalize hn3:w.heap.size=n3 at B3 N36 ⊢;replace L3:=Lh (show w.heap.size≤n3 by omega);clear hn3;have gc0:=B3.out.blk.siteIn.c0;have hi0:=Bh0;have hi1:=Bh1;have hi2:=Bh2;have hi3:=Bh3;go_wp2_with fail
 refine wp_loop_rounds 5 ?_;rw[rounds_succ];go_wp2_with (first
  | (refine D8 3 (.tmp 23) (.tmp 20) rfl ?_;refine D8 3 (.tmp 23) (.tmp 20) rfl ?_;refine S7 3 (.tmp 23) (.tmp 20) n3 66 rfl rfl rfl rfl B3.out (by rw[D5];decide) (by kernel_rfl) rfl (Bs1 s (wrap64 (s.e.c0+1))) ?_;intro w3 hB hK;replace B6:=Lh (B6.out.kp hK N36.out.symm);replace B3:=Lh hB;replace G:=Lh (hK.below G.out L3.out);clear hB hK gc0))
 rw[rounds_succ];go_wp2_with fail
 rw[rounds_succ];go_wp2_with fail
 rw[rounds_succ];go_wp2_with fail
 rw[rounds_succ];go_wp2_with (first
  | (refine F2 51 (.tmp 2) rfl ?_;refine F2 51 (.tmp 2) rfl ?_;refine C4 51 (.tmp 2) n3 rfl rfl rfl B3.out.blk Tryz.underlying51 rfl (SZ.out _) ?_)
  | (refine D8 51 _ _ rfl ?_;refine D8 51 _ _ rfl ?_;refine G9 51 _ _ n6 rfl rfl rfl rfl B6.out (SZ.out _) (by rw[J0,D5]) (J2 _) ?_;intro w3 hB hK;replace B6:=Lh hB;replace G:=Lh (hK.below G.out L6.out);clear hB hK))
 (try simp only[Act.put,List.setIfInBounds_toArray,List.set_cons_zero,List.set_cons_succ])
 refine bodyPost_ret (J9 rfl _ _ n6 (cs:=A5 (s.on (s.e.s_c0 (wrap64 (s.e.c0+1))))) rfl B6.out.blk Tryz.underlying51 rfl (SZ.out _)) rfl ?_;exact⟨rfl,G.out⟩
theorem Dh7(s:Sv)(w:World):
 Calls Tryz.prog 22 #[.agg (A5 s).toArray,.int .i64 5] w fun x w'=>x=.returned (.agg (A5 (s.on (s.e.s_c1 (wrap64 (s.e.c1+1))))).toArray)∧Below w.heap.size w w':=by
 have SZ:=Lh (show ∀S:Sv,(Tryz.prog.info? 51).map (·.size)=some (A5 S).length from fun S=>by rw[D5];exact J8);go_enter Tryz.func22,Tryz.ntmps22
 go_upto_region 1 with(fail)
 generalize hW:World.alloc (World.alloc w _) _=W;obtain⟨B3,B6,hb⟩:=Ac1 (a:=A5 s) (b:=I6) hW;clear hW;have B3:=Lh B3;have B6:=Lh B6;have G:=Lh hb;have N36:=Lh (show w.heap.size≠w.heap.size+1 by omega);have L3:=Lh (show w.heap.size≤w.heap.size by omega);have L6:=Lh (show w.heap.size≤w.heap.size+1 by omega);clear hb;generalize w.heap.size+1=n6 at B6 N36 L6 ⊢;generalize hn3:w.heap.size=n3 at B3 N36 ⊢;replace L3:=Lh (show w.heap.size≤n3 by omega);clear hn3;have gc1:=B3.out.blk.siteIn.c1;have hi0:=Bh0;have hi1:=Bh1;have hi2:=Bh2;have hi3:=Bh3;go_wp2_with fail
 refine wp_loop_rounds 5 ?_;rw[rounds_succ];go_wp2_with fail
 rw[rounds_succ];go_wp2_with (first
  | (refine D8 3 (.tmp 23) (.tmp 20) rfl ?_;refine D8 3 (.tmp 23) (.tmp 20) rfl ?_;refine S7 3 (.tmp 23) (.tmp 20) n3 67 rfl rfl rfl rfl B3.out (by rw[D5];decide) (by kernel_rfl) rfl (Bs2 s (wrap64 (s.e.c1+1))) ?_;intro w3 hB hK;replace B6:=Lh (B6.out.kp hK N36.out.symm);replace B3:=Lh hB;replace G:=Lh (hK.below G.out L3.out);clear hB hK gc1))
 rw[rounds_succ];go_wp2_with fail
 rw[rounds_succ];go_wp2_with fail
 rw[rounds_succ];go_wp2_with (first
  | (refine F2 51 (.tmp 2) rfl ?_;refine F2 51 (.tmp 2) rfl ?_;refine C4 51 (.tmp 2) n3 rfl rfl rfl B3.out.blk Tryz.underlying51 rfl (SZ.out _) ?_)
  | (refine D8 51 _ _ rfl ?_;refine D8 51 _ _ rfl ?_;refine G9 51 _ _ n6 rfl rfl rfl rfl B6.out (SZ.out _) (by rw[J0,D5]) (J2 _) ?_;intro w3 hB hK;replace B6:=Lh hB;replace G:=Lh (hK.below G.out L6.out);clear hB hK))
 (try simp only[Act.put,List.setIfInBounds_toArray,List.set_cons_zero,List.set_cons_succ])
 refine bodyPost_ret (J9 rfl _ _ n6 (cs:=A5 (s.on (s.e.s_c1 (wrap64 (s.e.c1+1))))) rfl B6.out.blk Tryz.underlying51 rfl (SZ.out _)) rfl ?_;exact⟨rfl,G.out⟩
theorem Dh8(s:Sv)(w:World):
 Calls Tryz.prog 22 #[.agg (A5 s).toArray,.int .i64 6] w fun x w'=>x=.returned (.agg (A5 (s.on (s.e.s_c2 (wrap64 (s.e.c2+1))))).toArray)∧Below w.heap.size w w':=by
 have SZ:=Lh (show ∀S:Sv,(Tryz.prog.info? 51).map (·.size)=some (A5 S).length from fun S=>by rw[D5];exact J8);go_enter Tryz.func22,Tryz.ntmps22
 go_upto_region 1 with(fail)
 generalize hW:World.alloc (World.alloc w _) _=W;obtain⟨B3,B6,hb⟩:=Ac1 (a:=A5 s) (b:=I6) hW;clear hW;have B3:=Lh B3;have B6:=Lh B6;have G:=Lh hb;have N36:=Lh (show w.heap.size≠w.heap.size+1 by omega);have L3:=Lh (show w.heap.size≤w.heap.size by omega);have L6:=Lh (show w.heap.size≤w.heap.size+1 by omega);clear hb;generalize w.heap.size+1=n6 at B6 N36 L6 ⊢;generalize hn3:w.heap.size=n3 at B3 N36 ⊢;replace L3:=Lh (show w.heap.size≤n3 by omega);clear hn3;have gc2:=B3.out.blk.siteIn.c2;have hi0:=Bh0;have hi1:=Bh1;have hi2:=Bh2;have hi3:=Bh3;go_wp2_with fail
 refine wp_loop_rounds 5 ?_;rw[rounds_succ];go_wp2_with fail
 rw[rounds_succ];go_wp2_with fail
 rw[rounds_succ];go_wp2_with (first
  | (refine D8 3 (.tmp 23) (.tmp 20) rfl ?_;refine D8 3 (.tmp 23) (.tmp 20) rfl ?_;refine S7 3 (.tmp 23) (.tmp 20) n3 68 rfl rfl rfl rfl B3.out (by rw[D5];decide) (by kernel_rfl) rfl (Bs3 s (wrap64 (s.e.c2+1))) ?_;intro w3 hB hK;replace B6:=Lh (B6.out.kp hK N36.out.symm);replace B3:=Lh hB;replace G:=Lh (hK.below G.out L3.out);clear hB hK gc2))
 rw[rounds_succ];go_wp2_with fail
 rw[rounds_succ];go_wp2_with (first
  | (refine F2 51 (.tmp 2) rfl ?_;refine F2 51 (.tmp 2) rfl ?_;refine C4 51 (.tmp 2) n3 rfl rfl rfl B3.out.blk Tryz.underlying51 rfl (SZ.out _) ?_)
  | (refine D8 51 _ _ rfl ?_;refine D8 51 _ _ rfl ?_;refine G9 51 _ _ n6 rfl rfl rfl rfl B6.out (SZ.out _) (by rw[J0,D5]) (J2 _) ?_;intro w3 hB hK;replace B6:=Lh hB;replace G:=Lh (hK.below G.out L6.out);clear hB hK))
 (try simp only[Act.put,List.setIfInBounds_toArray,List.set_cons_zero,List.set_cons_succ])
 refine bodyPost_ret (J9 rfl _ _ n6 (cs:=A5 (s.on (s.e.s_c2 (wrap64 (s.e.c2+1))))) rfl B6.out.blk Tryz.underlying51 rfl (SZ.out _)) rfl ?_;exact⟨rfl,G.out⟩
theorem Dh9(s:Sv)(w:World):
 Calls Tryz.prog 22 #[.agg (A5 s).toArray,.int .i64 13] w fun x w'=>x=.returned (.agg (A5 (s.on (s.e.s_c3 (wrap64 (s.e.c3+1))))).toArray)∧Below w.heap.size w w':=by
 have SZ:=Lh (show ∀S:Sv,(Tryz.prog.info? 51).map (·.size)=some (A5 S).length from fun S=>by rw[D5];exact J8);go_enter Tryz.func22,Tryz.ntmps22
 go_upto_region 1 with(fail)
 generalize hW:World.alloc (World.alloc w _) _=W;obtain⟨B3,B6,hb⟩:=Ac1 (a:=A5 s) (b:=I6) hW;clear hW;have B3:=Lh B3;have B6:=Lh B6;have G:=Lh hb;have N36:=Lh (show w.heap.size≠w.heap.size+1 by omega);have L3:=Lh (show w.heap.size≤w.heap.size by omega);have L6:=Lh (show w.heap.size≤w.heap.size+1 by omega);clear hb;generalize w.heap.size+1=n6 at B6 N36 L6 ⊢;generalize hn3:w.heap.size=n3 at B3 N36 ⊢;replace L3:=Lh (show w.heap.size≤n3 by omega);clear hn3;have gc3:=B3.out.blk.siteIn.c3;have hi0:=Bh0;have hi1:=Bh1;have hi2:=Bh2;have hi3:=Bh3;go_wp2_with fail
 refine wp_loop_rounds 5 ?_;rw[rounds_succ];go_wp2_with fail
 rw[rounds_succ];go_wp2_with fail
 rw[rounds_succ];go_wp2_with fail
 rw[rounds_succ];go_wp2_with (first
  | (refine D8 3 (.tmp 23) (.tmp 20) rfl ?_;refine D8 3 (.tmp 23) (.tmp 20) rfl ?_;refine S7 3 (.tmp 23) (.tmp 20) n3 69 rfl rfl rfl rfl B3.out (by rw[D5];decide) (by kernel_rfl) rfl (Bs4 s (wrap64 (s.e.c3+1))) ?_;intro w3 hB hK;replace B6:=Lh (B6.out.kp hK N36.out.symm);replace B3:=Lh hB;replace G:=Lh (hK.below G.out L3.out);clear hB hK gc3))
 rw[rounds_succ];go_wp2_with (first
  | (refine F2 51 (.tmp 2) rfl ?_;refine F2 51 (.tmp 2) rfl ?_;refine C4 51 (.tmp 2) n3 rfl rfl rfl B3.out.blk Tryz.underlying51 rfl (SZ.out _) ?_)
  | (refine D8 51 _ _ rfl ?_;refine D8 51 _ _ rfl ?_;refine G9 51 _ _ n6 rfl rfl rfl rfl B6.out (SZ.out _) (by rw[J0,D5]) (J2 _) ?_;intro w3 hB hK;replace B6:=Lh hB;replace G:=Lh (hK.below G.out L6.out);clear hB hK))
 (try simp only[Act.put,List.setIfInBounds_toArray,List.set_cons_zero,List.set_cons_succ])
 refine bodyPost_ret (J9 rfl _ _ n6 (cs:=A5 (s.on (s.e.s_c3 (wrap64 (s.e.c3+1))))) rfl B6.out.blk Tryz.underlying51 rfl (SZ.out _)) rfl ?_;exact⟨rfl,G.out⟩
theorem Di0(s:Sv)(b:Int)(h0:(2==b)=false)(h1:(5==b)=false)(h2:(6==b)=false)(h3:(13==b)=false)(w:World):
 Calls Tryz.prog 22 #[.agg (A5 s).toArray,.int .i64 b] w fun x w'=>x=.returned (.agg (A5 (s)).toArray)∧Below w.heap.size w w':=by
 have SZ:=Lh (show ∀S:Sv,(Tryz.prog.info? 51).map (·.size)=some (A5 S).length from fun S=>by rw[D5];exact J8);go_enter Tryz.func22,Tryz.ntmps22
 go_upto_region 1 with(fail)
 generalize hW:World.alloc (World.alloc w _) _=W;obtain⟨B3,B6,hb⟩:=Ac1 (a:=A5 s) (b:=I6) hW;clear hW;have B3:=Lh B3;have B6:=Lh B6;have G:=Lh hb;have N36:=Lh (show w.heap.size≠w.heap.size+1 by omega);have L3:=Lh (show w.heap.size≤w.heap.size by omega);have L6:=Lh (show w.heap.size≤w.heap.size+1 by omega);clear hb;generalize w.heap.size+1=n6 at B6 N36 L6 ⊢;generalize hn3:w.heap.size=n3 at B3 N36 ⊢;replace L3:=Lh (show w.heap.size≤n3 by omega);clear hn3;have hi0:=Bh0;have hi1:=Bh1;have hi2:=Bh2;have hi3:=Bh3;go_wp2_with fail
 refine wp_loop_rounds 5 ?_;rw[rounds_succ];go_wp2_with fail
 rw[rounds_succ];go_wp2_with fail
 rw[rounds_succ];go_wp2_with fail
 rw[rounds_succ];go_wp2_with fail
 rw[rounds_succ];go_wp2_with (first
  | (refine F2 51 (.tmp 2) rfl ?_;refine F2 51 (.tmp 2) rfl ?_;refine C4 51 (.tmp 2) n3 rfl rfl rfl B3.out.blk Tryz.underlying51 rfl (SZ.out _) ?_)
  | (refine D8 51 _ _ rfl ?_;refine D8 51 _ _ rfl ?_;refine G9 51 _ _ n6 rfl rfl rfl rfl B6.out (SZ.out _) (by rw[J0,D5]) (J2 _) ?_;intro w3 hB hK;replace B6:=Lh hB;replace G:=Lh (hK.below G.out L6.out);clear hB hK))
 (try simp only[Act.put,List.setIfInBounds_toArray,List.set_cons_zero,List.set_cons_succ])
 refine bodyPost_ret (J9 rfl _ _ n6 (cs:=A5 (s)) rfl B6.out.blk Tryz.underlying51 rfl (SZ.out _)) rfl ?_;exact⟨rfl,G.out⟩
theorem Bq0(s:Sv)(b:Int)(w:World):Calls Tryz.prog 22 #[.agg (A5 s).toArray,.int .i64 b] w fun x w'=>x=.returned (.agg (A5 (Ac2 s b)).toArray)∧Below w.heap.size w w':=by
 unfold Ac2;split
 ·rename_i h;subst h;exact Dh6 s w
 split
 ·rename_i h;subst h;exact Dh7 s w
 split
 ·rename_i h;subst h;exact Dh8 s w
 split
 ·rename_i h;subst h;exact Dh9 s w
 ·exact Di0 s b (by simp only[beq_eq_false_iff_ne,ne_eq];omega) (by simp only[beq_eq_false_iff_ne,ne_eq];omega) (by simp only[beq_eq_false_iff_ne,ne_eq];omega) (by simp only[beq_eq_false_iff_ne,ne_eq];omega) w
theorem Ed2(s:Sv)(w:World):
 Calls Tryz.prog 23 #[.agg (A5 s).toArray,.int .i64 2] w fun x w'=>x=.returned (.agg (A5 (s.on (s.e.s_c0 (wrap64 (s.e.c0+1))))).toArray)∧Below w.heap.size w w':=by
 have SZ:=Lh (show ∀S:Sv,(Tryz.prog.info? 51).map (·.size)=some (A5 S).length from fun S=>by rw[D5];exact J8);go_enter Tryz.func23,Tryz.ntmps23
 go_upto_region 1 with(fail)
 generalize hW:World.alloc (World.alloc w _) _=W;obtain⟨B3,B6,hb⟩:=Ac1 (a:=A5 s) (b:=I6) hW;clear hW;have B3:=Lh B3;have B6:=Lh B6;have G:=Lh hb;have N36:=Lh (show w.heap.size≠w.heap.size+1 by omega);have L3:=Lh (show w.heap.size≤w.heap.size by omega);have L6:=Lh (show w.heap.size≤w.heap.size+1 by omega);clear hb;generalize w.heap.size+1=n6 at B6 N36 L6 ⊢;generalize hn3:w.heap.size=n3 at B3 N36 ⊢;replace L3:=Lh (show w.heap.size≤n3 by omega);clear hn3;go_upto_region 2 with(fail)
 generalize hW2:World.alloc W _=W2;obtain⟨BI,hb2⟩:=Cc7 W [.int .i64 2,.int .i64 5,.int .i64 6,.int .i64 13] 3 hW2;clear hW2;have BI:=Lh BI;have N3I:=Lh (show n3≠W.heap.size from Nat.ne_of_lt B3.out.blk.lt);have N6I:=Lh (show n6≠W.heap.size from Nat.ne_of_lt B6.out.blk.lt);replace B3:=Lh (B3.out.up hb2);replace B6:=Lh (B6.out.up hb2);replace G:=Lh (bt G.out hb2);clear hb2;generalize W.heap.size=nI at BI N3I N6I ⊢;have ha0:=BI.out.blk.cell 0 (by decide);have ha1:=BI.out.blk.cell 1 (by decide);have ha2:=BI.out.blk.cell 2 (by decide);have ha3:=BI.out.blk.cell 3 (by decide);simp only[List.getD_cons_zero,List.getD_cons_succ] at ha0 ha1 ha2 ha3;have gc0:=B3.out.blk.siteIn.c0;go_wp2_with fail
 refine wp_loop_rounds 5 ?_;rw[rounds_succ];go_wp2_with (first
  | (refine D8 3 (.tmp 27) (.tmp 24) rfl ?_;refine D8 3 (.tmp 27) (.tmp 24) rfl ?_;refine S7 3 (.tmp 27) (.tmp 24) n3 66 rfl rfl rfl rfl B3.out (by rw[D5];decide) (by kernel_rfl) rfl (Bs1 s (wrap64 (s.e.c0+1))) ?_;intro w3 hB hK;replace B6:=Lh (B6.out.kp hK N36.out.symm);replace B3:=Lh hB;replace G:=Lh (hK.below G.out L3.out);replace BI:=Lh (BI.out.kp hK N3I.out.symm);clear ha0 ha1 ha2 ha3;have ha0:=BI.out.blk.cell 0 (by decide);have ha1:=BI.out.blk.cell 1 (by decide);have ha2:=BI.out.blk.cell 2 (by decide);have ha3:=BI.out.blk.cell 3 (by decide);simp only[List.getD_cons_zero,List.getD_cons_succ] at ha0 ha1 ha2 ha3;clear hB hK gc0))
 rw[rounds_succ];go_wp2_with fail
 rw[rounds_succ];go_wp2_with fail
 rw[rounds_succ];go_wp2_with fail
 rw[rounds_succ];go_wp2_with (first
  | (refine F2 51 (.tmp 2) rfl ?_;refine F2 51 (.tmp 2) rfl ?_;refine C4 51 (.tmp 2) n3 rfl rfl rfl B3.out.blk Tryz.underlying51 rfl (SZ.out _) ?_)
  | (refine D8 51 _ _ rfl ?_;refine D8 51 _ _ rfl ?_;refine G9 51 _ _ n6 rfl rfl rfl rfl B6.out (SZ.out _) (by rw[J0,D5]) (J2 _) ?_;intro w3 hB hK;replace B6:=Lh hB;replace G:=Lh (hK.below G.out L6.out);clear hB hK))
 (try simp only[Act.put,List.setIfInBounds_toArray,List.set_cons_zero,List.set_cons_succ])
 refine bodyPost_ret (J9 rfl _ _ n6 (cs:=A5 (s.on (s.e.s_c0 (wrap64 (s.e.c0+1))))) rfl B6.out.blk Tryz.underlying51 rfl (SZ.out _)) rfl ?_;exact⟨rfl,G.out⟩
theorem Ed3(s:Sv)(w:World):
 Calls Tryz.prog 23 #[.agg (A5 s).toArray,.int .i64 5] w fun x w'=>x=.returned (.agg (A5 (s.on (s.e.s_c1 (wrap64 (s.e.c1+1))))).toArray)∧Below w.heap.size w w':=by
 have SZ:=Lh (show ∀S:Sv,(Tryz.prog.info? 51).map (·.size)=some (A5 S).length from fun S=>by rw[D5];exact J8);go_enter Tryz.func23,Tryz.ntmps23
 go_upto_region 1 with(fail)
 generalize hW:World.alloc (World.alloc w _) _=W;obtain⟨B3,B6,hb⟩:=Ac1 (a:=A5 s) (b:=I6) hW;clear hW;have B3:=Lh B3;have B6:=Lh B6;have G:=Lh hb;have N36:=Lh (show w.heap.size≠w.heap.size+1 by omega);have L3:=Lh (show w.heap.size≤w.heap.size by omega);have L6:=Lh (show w.heap.size≤w.heap.size+1 by omega);clear hb;generalize w.heap.size+1=n6 at B6 N36 L6 ⊢;generalize hn3:w.heap.size=n3 at B3 N36 ⊢;replace L3:=Lh (show w.heap.size≤n3 by omega);clear hn3;go_upto_region 2 with(fail)
 generalize hW2:World.alloc W _=W2;obtain⟨BI,hb2⟩:=Cc7 W [.int .i64 2,.int .i64 5,.int .i64 6,.int .i64 13] 3 hW2;clear hW2;have BI:=Lh BI;have N3I:=Lh (show n3≠W.heap.size from Nat.ne_of_lt B3.out.blk.lt);have N6I:=Lh (show n6≠W.heap.size from Nat.ne_of_lt B6.out.blk.lt);replace B3:=Lh (B3.out.up hb2);replace B6:=Lh (B6.out.up hb2);replace G:=Lh (bt G.out hb2);clear hb2;generalize W.heap.size=nI at BI N3I N6I ⊢;have ha0:=BI.out.blk.cell 0 (by decide);have ha1:=BI.out.blk.cell 1 (by decide);have ha2:=BI.out.blk.cell 2 (by decide);have ha3:=BI.out.blk.cell 3 (by decide);simp only[List.getD_cons_zero,List.getD_cons_succ] at ha0 ha1 ha2 ha3;have gc1:=B3.out.blk.siteIn.c1;go_wp2_with fail
 refine wp_loop_rounds 5 ?_;rw[rounds_succ];go_wp2_with fail
 rw[rounds_succ];go_wp2_with (first
  | (refine D8 3 (.tmp 27) (.tmp 24) rfl ?_;refine D8 3 (.tmp 27) (.tmp 24) rfl ?_;refine S7 3 (.tmp 27) (.tmp 24) n3 67 rfl rfl rfl rfl B3.out (by rw[D5];decide) (by kernel_rfl) rfl (Bs2 s (wrap64 (s.e.c1+1))) ?_;intro w3 hB hK;replace B6:=Lh (B6.out.kp hK N36.out.symm);replace B3:=Lh hB;replace G:=Lh (hK.below G.out L3.out);replace BI:=Lh (BI.out.kp hK N3I.out.symm);clear ha0 ha1 ha2 ha3;have ha0:=BI.out.blk.cell 0 (by decide);have ha1:=BI.out.blk.cell 1 (by decide);have ha2:=BI.out.blk.cell 2 (by decide);have ha3:=BI.out.blk.cell 3 (by decide);simp only[List.getD_cons_zero,List.getD_cons_succ] at ha0 ha1 ha2 ha3;clear hB hK gc1))
 rw[rounds_succ];go_wp2_with fail
 rw[rounds_succ];go_wp2_with fail
 rw[rounds_succ];go_wp2_with (first
  | (refine F2 51 (.tmp 2) rfl ?_;refine F2 51 (.tmp 2) rfl ?_;refine C4 51 (.tmp 2) n3 rfl rfl rfl B3.out.blk Tryz.underlying51 rfl (SZ.out _) ?_)
  | (refine D8 51 _ _ rfl ?_;refine D8 51 _ _ rfl ?_;refine G9 51 _ _ n6 rfl rfl rfl rfl B6.out (SZ.out _) (by rw[J0,D5]) (J2 _) ?_;intro w3 hB hK;replace B6:=Lh hB;replace G:=Lh (hK.below G.out L6.out);clear hB hK))
 (try simp only[Act.put,List.setIfInBounds_toArray,List.set_cons_zero,List.set_cons_succ])
 refine bodyPost_ret (J9 rfl _ _ n6 (cs:=A5 (s.on (s.e.s_c1 (wrap64 (s.e.c1+1))))) rfl B6.out.blk Tryz.underlying51 rfl (SZ.out _)) rfl ?_;exact⟨rfl,G.out⟩
theorem Ed4(s:Sv)(w:World):
 Calls Tryz.prog 23 #[.agg (A5 s).toArray,.int .i64 6] w fun x w'=>x=.returned (.agg (A5 (s.on (s.e.s_c2 (wrap64 (s.e.c2+1))))).toArray)∧Below w.heap.size w w':=by
 have SZ:=Lh (show ∀S:Sv,(Tryz.prog.info? 51).map (·.size)=some (A5 S).length from fun S=>by rw[D5];exact J8);go_enter Tryz.func23,Tryz.ntmps23
 go_upto_region 1 with(fail)
 generalize hW:World.alloc (World.alloc w _) _=W;obtain⟨B3,B6,hb⟩:=Ac1 (a:=A5 s) (b:=I6) hW;clear hW;have B3:=Lh B3;have B6:=Lh B6;have G:=Lh hb;have N36:=Lh (show w.heap.size≠w.heap.size+1 by omega);have L3:=Lh (show w.heap.size≤w.heap.size by omega);have L6:=Lh (show w.heap.size≤w.heap.size+1 by omega);clear hb;generalize w.heap.size+1=n6 at B6 N36 L6 ⊢;generalize hn3:w.heap.size=n3 at B3 N36 ⊢;replace L3:=Lh (show w.heap.size≤n3 by omega);clear hn3;go_upto_region 2 with(fail)
 generalize hW2:World.alloc W _=W2;obtain⟨BI,hb2⟩:=Cc7 W [.int .i64 2,.int .i64 5,.int .i64 6,.int .i64 13] 3 hW2;clear hW2;have BI:=Lh BI;have N3I:=Lh (show n3≠W.heap.size from Nat.ne_of_lt B3.out.blk.lt);have N6I:=Lh (show n6≠W.heap.size from Nat.ne_of_lt B6.out.blk.lt);replace B3:=Lh (B3.out.up hb2);replace B6:=Lh (B6.out.up hb2);replace G:=Lh (bt G.out hb2);clear hb2;generalize W.heap.size=nI at BI N3I N6I ⊢;have ha0:=BI.out.blk.cell 0 (by decide);have ha1:=BI.out.blk.cell 1 (by decide);have ha2:=BI.out.blk.cell 2 (by decide);have ha3:=BI.out.blk.cell 3 (by decide);simp only[List.getD_cons_zero,List.getD_cons_succ] at ha0 ha1 ha2 ha3;have gc2:=B3.out.blk.siteIn.c2;go_wp2_with fail
 refine wp_loop_rounds 5 ?_;rw[rounds_succ];go_wp2_with fail
 rw[rounds_succ];go_wp2_with fail
 rw[rounds_succ];go_wp2_with (first
  | (refine D8 3 (.tmp 27) (.tmp 24) rfl ?_;refine D8 3 (.tmp 27) (.tmp 24) rfl ?_;refine S7 3 (.tmp 27) (.tmp 24) n3 68 rfl rfl rfl rfl B3.out (by rw[D5];decide) (by kernel_rfl) rfl (Bs3 s (wrap64 (s.e.c2+1))) ?_;intro w3 hB hK;replace B6:=Lh (B6.out.kp hK N36.out.symm);replace B3:=Lh hB;replace G:=Lh (hK.below G.out L3.out);replace BI:=Lh (BI.out.kp hK N3I.out.symm);clear ha0 ha1 ha2 ha3;have ha0:=BI.out.blk.cell 0 (by decide);have ha1:=BI.out.blk.cell 1 (by decide);have ha2:=BI.out.blk.cell 2 (by decide);have ha3:=BI.out.blk.cell 3 (by decide);simp only[List.getD_cons_zero,List.getD_cons_succ] at ha0 ha1 ha2 ha3;clear hB hK gc2))
 rw[rounds_succ];go_wp2_with fail
 rw[rounds_succ];go_wp2_with (first
  | (refine F2 51 (.tmp 2) rfl ?_;refine F2 51 (.tmp 2) rfl ?_;refine C4 51 (.tmp 2) n3 rfl rfl rfl B3.out.blk Tryz.underlying51 rfl (SZ.out _) ?_)
  | (refine D8 51 _ _ rfl ?_;refine D8 51 _ _ rfl ?_;refine G9 51 _ _ n6 rfl rfl rfl rfl B6.out (SZ.out _) (by rw[J0,D5]) (J2 _) ?_;intro w3 hB hK;replace B6:=Lh hB;replace G:=Lh (hK.below G.out L6.out);clear hB hK))
 (try simp only[Act.put,List.setIfInBounds_toArray,List.set_cons_zero,List.set_cons_succ])
 refine bodyPost_ret (J9 rfl _ _ n6 (cs:=A5 (s.on (s.e.s_c2 (wrap64 (s.e.c2+1))))) rfl B6.out.blk Tryz.underlying51 rfl (SZ.out _)) rfl ?_;exact⟨rfl,G.out⟩
theorem Ed5(s:Sv)(w:World):
 Calls Tryz.prog 23 #[.agg (A5 s).toArray,.int .i64 13] w fun x w'=>x=.returned (.agg (A5 (s.on (s.e.s_c3 (wrap64 (s.e.c3+1))))).toArray)∧Below w.heap.size w w':=by
 have SZ:=Lh (show ∀S:Sv,(Tryz.prog.info? 51).map (·.size)=some (A5 S).length from fun S=>by rw[D5];exact J8);go_enter Tryz.func23,Tryz.ntmps23
 go_upto_region 1 with(fail)
 generalize hW:World.alloc (World.alloc w _) _=W;obtain⟨B3,B6,hb⟩:=Ac1 (a:=A5 s) (b:=I6) hW;clear hW;have B3:=Lh B3;have B6:=Lh B6;have G:=Lh hb;have N36:=Lh (show w.heap.size≠w.heap.size+1 by omega);have L3:=Lh (show w.heap.size≤w.heap.size by omega);have L6:=Lh (show w.heap.size≤w.heap.size+1 by omega);clear hb;generalize w.heap.size+1=n6 at B6 N36 L6 ⊢;generalize hn3:w.heap.size=n3 at B3 N36 ⊢;replace L3:=Lh (show w.heap.size≤n3 by omega);clear hn3;go_upto_region 2 with(fail)
 generalize hW2:World.alloc W _=W2;obtain⟨BI,hb2⟩:=Cc7 W [.int .i64 2,.int .i64 5,.int .i64 6,.int .i64 13] 3 hW2;clear hW2;have BI:=Lh BI;have N3I:=Lh (show n3≠W.heap.size from Nat.ne_of_lt B3.out.blk.lt);have N6I:=Lh (show n6≠W.heap.size from Nat.ne_of_lt B6.out.blk.lt);replace B3:=Lh (B3.out.up hb2);replace B6:=Lh (B6.out.up hb2);replace G:=Lh (bt G.out hb2);clear hb2;generalize W.heap.size=nI at BI N3I N6I ⊢;have ha0:=BI.out.blk.cell 0 (by decide);have ha1:=BI.out.blk.cell 1 (by decide);have ha2:=BI.out.blk.cell 2 (by decide);have ha3:=BI.out.blk.cell 3 (by decide);simp only[List.getD_cons_zero,List.getD_cons_succ] at ha0 ha1 ha2 ha3;have gc3:=B3.out.blk.siteIn.c3;go_wp2_with fail
 refine wp_loop_rounds 5 ?_;rw[rounds_succ];go_wp2_with fail
 rw[rounds_succ];go_wp2_with fail
 rw[rounds_succ];go_wp2_with fail
 rw[rounds_succ];go_wp2_with (first
  | (refine D8 3 (.tmp 27) (.tmp 24) rfl ?_;refine D8 3 (.tmp 27) (.tmp 24) rfl ?_;refine S7 3 (.tmp 27) (.tmp 24) n3 69 rfl rfl rfl rfl B3.out (by rw[D5];decide) (by kernel_rfl) rfl (Bs4 s (wrap64 (s.e.c3+1))) ?_;intro w3 hB hK;replace B6:=Lh (B6.out.kp hK N36.out.symm);replace B3:=Lh hB;replace G:=Lh (hK.below G.out L3.out);replace BI:=Lh (BI.out.kp hK N3I.out.symm);clear ha0 ha1 ha2 ha3;have ha0:=BI.out.blk.cell 0 (by decide);have ha1:=BI.out.blk.cell 1 (by decide);have ha2:=BI.out.blk.cell 2 (by decide);have ha3:=BI.out.blk.cell 3 (by decide);simp only[List.getD_cons_zero,List.getD_cons_succ] at ha0 ha1 ha2 ha3;clear hB hK gc3))
 rw[rounds_succ];go_wp2_with (first
  | (refine F2 51 (.tmp 2) rfl ?_;refine F2 51 (.tmp 2) rfl ?_;refine C4 51 (.tmp 2) n3 rfl rfl rfl B3.out.blk Tryz.underlying51 rfl (SZ.out _) ?_)
  | (refine D8 51 _ _ rfl ?_;refine D8 51 _ _ rfl ?_;refine G9 51 _ _ n6 rfl rfl rfl rfl B6.out (SZ.out _) (by rw[J0,D5]) (J2 _) ?_;intro w3 hB hK;replace B6:=Lh hB;replace G:=Lh (hK.below G.out L6.out);clear hB hK))
 (try simp only[Act.put,List.setIfInBounds_toArray,List.set_cons_zero,List.set_cons_succ])
 refine bodyPost_ret (J9 rfl _ _ n6 (cs:=A5 (s.on (s.e.s_c3 (wrap64 (s.e.c3+1))))) rfl B6.out.blk Tryz.underlying51 rfl (SZ.out _)) rfl ?_;exact⟨rfl,G.out⟩
theorem Ed6(s:Sv)(b:Int)(h0:(2==b)=false)(h1:(5==b)=false)(h2:(6==b)=false)(h3:(13==b)=false)(w:World):
 Calls Tryz.prog 23 #[.agg (A5 s).toArray,.int .i64 b] w fun x w'=>x=.returned (.agg (A5 (s)).toArray)∧Below w.heap.size w w':=by
 have SZ:=Lh (show ∀S:Sv,(Tryz.prog.info? 51).map (·.size)=some (A5 S).length from fun S=>by rw[D5];exact J8);go_enter Tryz.func23,Tryz.ntmps23
 go_upto_region 1 with(fail)
 generalize hW:World.alloc (World.alloc w _) _=W;obtain⟨B3,B6,hb⟩:=Ac1 (a:=A5 s) (b:=I6) hW;clear hW;have B3:=Lh B3;have B6:=Lh B6;have G:=Lh hb;have N36:=Lh (show w.heap.size≠w.heap.size+1 by omega);have L3:=Lh (show w.heap.size≤w.heap.size by omega);have L6:=Lh (show w.heap.size≤w.heap.size+1 by omega);clear hb;generalize w.heap.size+1=n6 at B6 N36 L6 ⊢;generalize hn3:w.heap.size=n3 at B3 N36 ⊢;replace L3:=Lh (show w.heap.size≤n3 by omega);clear hn3;go_upto_region 2 with(fail)
 generalize hW2:World.alloc W _=W2;obtain⟨BI,hb2⟩:=Cc7 W [.int .i64 2,.int .i64 5,.int .i64 6,.int .i64 13] 3 hW2;clear hW2;have BI:=Lh BI;have N3I:=Lh (show n3≠W.heap.size from Nat.ne_of_lt B3.out.blk.lt);have N6I:=Lh (show n6≠W.heap.size from Nat.ne_of_lt B6.out.blk.lt);replace B3:=Lh (B3.out.up hb2);replace B6:=Lh (B6.out.up hb2);replace G:=Lh (bt G.out hb2);clear hb2;generalize W.heap.size=nI at BI N3I N6I ⊢;have ha0:=BI.out.blk.cell 0 (by decide);have ha1:=BI.out.blk.cell 1 (by decide);have ha2:=BI.out.blk.cell 2 (by decide);have ha3:=BI.out.blk.cell 3 (by decide);simp only[List.getD_cons_zero,List.getD_cons_succ] at ha0 ha1 ha2 ha3;go_wp2_with fail
 refine wp_loop_rounds 5 ?_;rw[rounds_succ];go_wp2_with fail
 rw[rounds_succ];go_wp2_with fail
 rw[rounds_succ];go_wp2_with fail
 rw[rounds_succ];go_wp2_with fail
 rw[rounds_succ];go_wp2_with (first
  | (refine F2 51 (.tmp 2) rfl ?_;refine F2 51 (.tmp 2) rfl ?_;refine C4 51 (.tmp 2) n3 rfl rfl rfl B3.out.blk Tryz.underlying51 rfl (SZ.out _) ?_)
  | (refine D8 51 _ _ rfl ?_;refine D8 51 _ _ rfl ?_;refine G9 51 _ _ n6 rfl rfl rfl rfl B6.out (SZ.out _) (by rw[J0,D5]) (J2 _) ?_;intro w3 hB hK;replace B6:=Lh hB;replace G:=Lh (hK.below G.out L6.out);clear hB hK))
 (try simp only[Act.put,List.setIfInBounds_toArray,List.set_cons_zero,List.set_cons_succ])
 refine bodyPost_ret (J9 rfl _ _ n6 (cs:=A5 (s)) rfl B6.out.blk Tryz.underlying51 rfl (SZ.out _)) rfl ?_;exact⟨rfl,G.out⟩
theorem Bt1(s:Sv)(b:Int)(w:World):Calls Tryz.prog 23 #[.agg (A5 s).toArray,.int .i64 b] w fun x w'=>x=.returned (.agg (A5 (Ac2 s b)).toArray)∧Below w.heap.size w w':=by
 unfold Ac2;split
 ·rename_i h;subst h;exact Ed2 s w
 split
 ·rename_i h;subst h;exact Ed3 s w
 split
 ·rename_i h;subst h;exact Ed4 s w
 split
 ·rename_i h;subst h;exact Ed5 s w
 ·exact Ed6 s b (by simp only[beq_eq_false_iff_ne,ne_eq];omega) (by simp only[beq_eq_false_iff_ne,ne_eq];omega) (by simp only[beq_eq_false_iff_ne,ne_eq];omega) (by simp only[beq_eq_false_iff_ne,ne_eq];omega) w
def V6(e:Ev)(k d e0 e1 g:Int):Bool:=
 bif (d != wrap64 (1-e.id)) || ((e.ph==7) || (e.ph==8)) then true else bif k==1 then false
 else(!X7 e.ph) || ((!(J4 e.r g).2) || ((e0 != (D9 e).1) || (e1 != (D9 e).2)))
theorem Ay1(n:Int)(w:World):Calls Tryz.prog 63 #[.bool true,.int .i64 n] w fun x w'=>x=.returned (.tuple #[])∧w=w':=by
 have hmi:∀(w:World),(Instr.makeInterface 54 (.int .i64 n)).run Tryz.prog w=.ok (.iface 54 (.int .i64 n)) w:=fun w=>by kernel_rfl
 go_enter Tryz.func63,Tryz.ntmps63
 have hp:∀(w:World),(Instr.panic (.iface 54 (.int .i64 n))).run Tryz.prog w=.halt (.panic (.iface 54 (.int .i64 n))) w:=fun w=>by kernel_rfl
 go_wp2_with fail
 first | (go_end0;exact⟨rfl,rfl⟩) | exact⟨rfl,rfl⟩ | exact⟨rfl,rfl,rfl⟩
theorem Ah3(n:Int)(w:World):Calls Tryz.prog 63 #[.bool false,.int .i64 n] w fun x w'=>x=.panicked [{v:=.iface 54 (.int .i64 n),recovered:=false}]∧w=w':=by
 have hmi:∀(w:World),(Instr.makeInterface 54 (.int .i64 n)).run Tryz.prog w=.ok (.iface 54 (.int .i64 n)) w:=fun w=>by kernel_rfl
 go_enter Tryz.func63,Tryz.ntmps63
 have hp:∀(w:World),(Instr.panic (.iface 54 (.int .i64 n))).run Tryz.prog w=.halt (.panic (.iface 54 (.int .i64 n))) w:=fun w=>by kernel_rfl
 go_wp2_with fail
 first | (go_end0;exact⟨rfl,rfl⟩) | exact⟨rfl,rfl⟩ | exact⟨rfl,rfl,rfl⟩
theorem Ct1(e:Ev)(k d e0 e1 g q:Int)(vb vt:Value)(w:World):
 Calls Tryz.prog 66 #[.agg (A8 e).toArray,.agg (I7 k d e0 e1 g q vb vt).toArray] w fun x w'=>x=.returned (.bool (V6 e k d e0 e1 g))∧Below w.heap.size w w':=by
 have SE:=Lh (show(Tryz.prog.info? 46).map (·.size)=some (A8 e).length by rw[I3];exact Q3);have SP:=Lh Ax7;have SR:=Lh (show(Tryz.prog.info? 32).map (·.size)=some e.r.L.length by kernel_rfl);have HP:=Lh (fun W=>Cx5 e W);have HL:=Lh (fun W=>Bp9 e.ph W);have HFi:=Lh (fun W=>Bw2 e.r g W);have HF:=Lh (show V6 e k d e0 e1 g=(bif (d != wrap64 (1-e.id)) || ((e.ph==7) || (e.ph==8)) then true else bif k==1 then false
  else(!X7 e.ph) || ((!(J4 e.r g).2) || ((e0 != (D9 e).1) || (e1 != (D9 e).2)))) from rfl)
 generalize V6 e k d e0 e1 g=z at HF ⊢;generalize D9 e=pp at HP HF;generalize X7 e.ph=l at HL HF;generalize J4 e.r g=fg at HFi HF;obtain⟨p0,p1⟩:=pp;obtain⟨⟨fa,fl,fc,fn⟩,fb⟩:=fg;go_enter Tryz.func66,Tryz.ntmps66
 go_upto_region 1 with(fail)
 generalize hW:World.alloc (World.alloc w _) _=W;obtain⟨B2,B3,hb⟩:=Ac1 (a:=A8 e) (b:=I7 k d e0 e1 g q vb vt) hW;clear hW;have B2:=Lh B2;have G:=Lh hb;have C3:=Lh B3;clear hb B3;have L2:=Lh (show w.heap.size≤w.heap.size by omega);generalize w.heap.size+1=n3 at C3 ⊢;generalize hn2:w.heap.size=n2 at B2 ⊢;clear hn2;have g0:=B2.out.blk.endIn.id;have g2:=B2.out.blk.endIn.ph;obtain⟨v0,v1,v2,v3,v4,v5,v6,v7⟩:=I4 C3.out.blk;clear v5 v6 v7;rcases hb1:(d != wrap64 (1-e.id)) with _ | _
 case true=>
  have HF2:=Lh (show z=true by rw[HF.out,hb1];rfl);clear HF;go_wp2_with fail
  go_ret;exact⟨by first | exact I5 HF2.out.symm | (rw[HF2.out];rfl),G.out⟩
 rcases hb2:(e.ph==7) with _ | _
 case true=>
  have HF2:=Lh (show z=true by rw[HF.out,hb1,hb2];rfl);clear HF;go_wp2_with fail
  go_ret;exact⟨by first | exact I5 HF2.out.symm | (rw[HF2.out];rfl),G.out⟩
 rcases hb3:(e.ph==8) with _ | _
 case true=>
  have HF2:=Lh (show z=true by rw[HF.out,hb1,hb2,hb3];rfl);clear HF;go_wp2_with fail
  go_ret;exact⟨by first | exact I5 HF2.out.symm | (rw[HF2.out];rfl),G.out⟩
 rcases hb4:(k==1) with _ | _
 case true=>
  have HF2:=Lh (show z=false by rw[HF.out,hb1,hb2,hb3,hb4];rfl);clear HF;go_wp2_with fail
  go_ret;exact⟨by first | exact I5 HF2.out.symm | (rw[HF2.out];rfl),G.out⟩
 replace HF:=Lh (show z=((!l) || ((!fb) || ((e0 != p0) || (e1 != p1)))) by rw[HF.out,hb1,hb2,hb3,hb4];rfl);go_wp2_with (refine F2 46 (.tmp 2) rfl ?_;refine F2 46 (.tmp 2) rfl ?_;refine C4 46 (.tmp 2) n2 rfl rfl rfl B2.out.blk Tryz.underlying46 rfl SE.out ?_)
 refine(HP.out _).mono ?_;rintro x w2 ⟨rfl,hb⟩;clear HP g0 g2 v0 v1 v2 v3 v4;replace B2:=Lh (B2.out.up hb);replace C3:=Lh (C3.out.up hb);replace G:=Lh (bt G.out hb);clear hb;go_upto_region 6 with(refine D8 63 _ _ rfl ?_;refine D8 63 _ _ rfl ?_;refine G9 63 _ _ _ rfl rfl rfl rfl (A6.new _ _ _) SP.out rfl (by rfl) ?_;intro w5 hB hK;have B5:=Lh hB;have N5:=Lh (show n2≠w2.heap.size∧n3≠w2.heap.size from⟨Nat.ne_of_lt B2.out.blk.lt,Nat.ne_of_lt C3.out.blk.lt⟩);replace G:=Lh (hK.below (bta G.out _) G.out.size);replace B2:=Lh ((B2.out.up (ba _ _)).kp hK N5.out.1);replace C3:=Lh ((C3.out.up (ba _ _)).kp hK N5.out.2);clear hB hK N5)
 generalize w2.heap.size=n5 at B5 ⊢;have g2:=B2.out.blk.endIn.ph;go_wp2_with fail
 refine(HL.out _).mono ?_;rintro x w6 ⟨rfl,rfl⟩;clear HL g2;obtain⟨v0,v1,v2,v3,v4,v5,v6,v7⟩:=I4 C3.out.blk;clear v0 v1 v5 v6 v7;go_wp2_with (refine F2 32 (.tmp 34) rfl ?_;refine F2 32 (.tmp 34) rfl ?_;refine C8 32 (.tmp 34) n2 27 (by first | rfl | simp[Region.wanted,yielded]) rfl rfl B2.out.blk.endIn.at_r Tryz.underlying32 rfl SR.out ?_)
 refine(HFi.out _).mono ?_;rintro x w7 ⟨rfl,hb⟩;clear HFi v2 v3 v4;replace B5:=Lh (B5.out.up hb);replace C3:=Lh (C3.out.up hb);replace G:=Lh (bt G.out hb);clear hb B2;obtain⟨v0,v1,v2,v3,v4,v5,v6,v7⟩:=I4 C3.out.blk;clear v0 v1 v4 v5 v6 v7;have c0:=B5.out.blk.cell 0 (Nat.zero_lt_succ _);have c1:=B5.out.blk.cell 1 (by exact Nat.lt_succ_self 1);simp only[List.getD_cons_zero,List.getD_cons_succ] at c0 c1;clear B5 C3;rcases l with _ | _
 ·have HF2:=Lh (show z=true by rw[HF.out];rfl);clear HF;go_wp2_with fail
  go_ret;exact⟨by first | exact I5 HF2.out.symm | (rw[HF2.out];rfl),G.out⟩
 rcases fb with _ | _
 ·have HF2:=Lh (show z=true by rw[HF.out];rfl);clear HF;go_wp2_with fail
  go_ret;exact⟨by first | exact I5 HF2.out.symm | (rw[HF2.out];rfl),G.out⟩
 rcases hb5:(e0 != p0) with _ | _
 case true=>
  have HF2:=Lh (show z=true by rw[HF.out,hb5];rfl);clear HF;go_wp2_with fail
  go_ret;exact⟨by first | exact I5 HF2.out.symm | (rw[HF2.out];rfl),G.out⟩
 have HF2:=Lh (show z=(e1 != p1) by rw[HF.out,hb5];rfl);clear HF;go_wp2_with fail
 go_ret;exact⟨by first | exact I5 HF2.out.symm | (rw[HF2.out];rfl),G.out⟩
structure Pd where
 k:Nat
 d:Nat
 e0:Nat
 e1:Nat
 g:Nat
 q:Nat
 b:List UInt8
 t:List UInt8
def pdF(l:List UInt8):Pd:=⟨I2 l 0 1,I2 l 1 1,I2 l 2 8,I2 l 10 8,I2 l 18 4,I2 l 22 8,U4 l,Ab6 l⟩
def okR(l:List UInt8):Prop:=(47≤l.length∧l.length≤946)∧Ag0 l
instance (l:List UInt8):Decidable (okR l):=by unfold okR Ag0;infer_instance
def Ac7(top:Int)(b:Nat→UInt64)(n:Int):Int×(Nat→UInt64)×Int:=
 if n<0∨4611686018427387904<n then(top,b,1) else if Af3 top b n then(((max top.toNat (n.toNat+1):Nat):Int),Bb9 top.toNat n.toNat b,0) else(top,b,6)
theorem Ct2(top:Int)(b:Nat→UInt64)(n:Int)(hr:Ad0 top b):
 (∀w,Calls Tryz.prog 62 #[.agg (D0 top b).toArray,.int .i64 n] w fun x w'=>x=.returned (.tuple #[.agg (D0 (Ac7 top b n).1 (Ac7 top b n).2.1).toArray,.int .i64 (Ac7 top b n).2.2])∧Below w.heap.size w w')∧
 (∀w,Calls Tryz.prog 68 #[.agg (D0 top b).toArray,.int .i64 n] w fun x w'=>x=.returned (.tuple #[.agg (D0 (Ac7 top b n).1 (Ac7 top b n).2.1).toArray,.int .i64 (Ac7 top b n).2.2])∧Below w.heap.size w w'):=by
 obtain⟨⟨h0,h1⟩,h2,-⟩:=hr;unfold Ac7;by_cases hn:n<0∨4611686018427387904<n
 ·rw[if_pos hn];exact⟨fun w=>Ek0 top b n hn w,fun w=>Db9 top b n hn w⟩
 rw[if_neg hn];by_cases hf:Af3 top b n
 ·rw[if_pos hf];obtain⟨T,rfl⟩:∃T:Nat,top=T:=⟨top.toNat,by omega⟩;obtain⟨k,rfl⟩:∃k:Nat,n=k:=⟨n.toNat,by omega⟩;have hT:T≤4611686018427387905:=by omega
  have hk:k≤4611686018427387904:=by omega
  simp only[Int.toNat_natCast];refine⟨fun w=>Ev5 T k b hT hk hf w,fun w=>?_⟩;have h:=Dx6 T k b hT hk hf w;obtain⟨⟨a1,a2,a3⟩,a4⟩:=hf;rw[Dc1 _ (Bb9 T k b) _ (fun i hi=>Dw5 T k b (fun p hp hpt=>h2 p hp (by omega)) (by omega) (by rcases a4 with a4 | a4;exact .inl (by omega);exact .inr (by simpa using a4)) i hi)];exact h
 ·rw[if_neg hf];exact⟨fun w=>Ek1 top b n ⟨h0,h1⟩ (by omega) (by omega) hf w,fun w=>Dc0 top b n ⟨h0,h1⟩ (by omega) (by omega) hf w⟩
theorem Cy1(top:Int)(b:Nat→UInt64)(n:Int)(h:-9223372036854775808≤top∧top≤9223372036854775807)(hr:Ad0 top b):-9223372036854775808≤(Ac7 top b n).1∧(Ac7 top b n).1≤9223372036854775807:=by
 obtain⟨⟨h0,h1⟩,-,-⟩:=hr;unfold Ac7;split
 ·exact h
 split
 ·simp only;omega
 ·exact h
def Be8(e:Ev)(no:Int):List UInt8:=bif Aa7 no e.r.c then e.kc else bif Aa7 no e.r.o then e.ko else bif Aa7 no e.r.p then e.kp else[]
theorem Bz5{q:Nat→Prop}{w:World}{e:Ev}(h:Z0 q w e)(no:Int):
 A4 w (J4 e.r no).1.a (Be8 e no)∧(J4 e.r no).1.len=(Be8 e no).length∧(J4 e.r no).1.len≤(J4 e.r no).1.cap∧(J4 e.r no).1.cap≤maxLen:=by
 unfold J4 Be8;cases Aa7 no e.r.c
 ·cases Aa7 no e.r.o
  ·cases Aa7 no e.r.p
   ·exact⟨.inl rfl,rfl,Nat.le_refl _,Nat.zero_le _⟩
   ·exact⟨h.r.p,h.r.lp,h.rp.1,h.rp.2⟩
  ·exact⟨h.r.o,h.r.lo,h.ro.1,h.ro.2⟩
 ·exact⟨h.r.c,h.r.lc,h.rc.1,h.rc.2⟩
def Ai6(e:Ev)(p:Pd):List UInt8:=bif ((p.k:Int)==2) then Be8 e p.g else An3 e.k.l
def inT(p:Pd):List UInt8:=inF p.k p.d p.e0 p.e1 p.g p.q p.b
def P9(s:Sv)(p:Pd):Sv:=s.l_p s.i (Az3 s.f s.es (Ai6 s.e p) (inT p) p.t) s.ta s.tc s.es
def Aj8(s:Sv)(p:Pd):Bool:=Bg2 s.i s.es (Ai6 s.e p) (inT p) p.t
def At6(e:Ev):Ev:=bif U3 e.r.p then e else{e with r:=⟨e.r.p,e.r.c,G0,16,e.r.t⟩,kc:=e.kp,ko:=e.kc,kp:=[]}
theorem Cd2(s:Sv):Ar3 (A5 s) 27 ((Aw1 s.e.r).1.L)=A5 (s.on (At6 s.e)):=by
 rw[Cx4];unfold Aw1 At6;cases U3 s.e.r.p<;>rfl
theorem Z0.turn{q:Nat→Prop}{w:World}{e:Ev}(h:Z0 q w e):Z0 q w (At6 e):=by
 unfold At6;cases U3 e.r.p
 ·exact⟨h.k,h.s1,h.s2,⟨h.r.lp,h.r.p,h.r.lc,h.r.c,rfl,.inl rfl⟩,h.rp,h.rc,⟨Nat.le_refl _,Nat.zero_le _⟩,h.q,h.ql,h.u,h.ul,h.h,h.hl,h.o,h.ol,h.g,h.gl,h.wt⟩
 ·exact h
def X8(s:Sv)(n:Int):Sv:=s.on (s.e.l_w (Ac7 s.e.wt s.e.wb n).1 (Ac7 s.e.wt s.e.wb n).2.1)
def Bc5(s:Sv)(p:Pd):Sv:=bif ((p.g:Int)==s.e.r.p.no)&&(s.e.ph != 4) then(X8 s p.q).on (At6 (X8 s p.q).e) else X8 s p.q
def U9(s:Sv)(l:List UInt8):Sv×Int:=
 bif !decide (okR l) then(Ac2 s 2,2)
 else bif V6 s.e (pdF l).k (pdF l).d (pdF l).e0 (pdF l).e1 (pdF l).g then(Ac2 s 13,13)
 else bif !Aj8 s (pdF l) then(Ac2 (P9 s (pdF l)) 5,5)
 else bif (((pdF l).k:Int)==1) then(P9 s (pdF l),0)
 else bif (Ac7 s.e.wt s.e.wb (pdF l).q).2.2 != 0 then(Ac2 (P9 s (pdF l)) 6,6) else(Bc5 (P9 s (pdF l)) (pdF l),0)
theorem O0.chk{q:Nat→Prop}{w:World}{s:Sv}(h:O0 q w s)(p:Pd):O0 q w (P9 s p):=⟨h.e,h.p,h.pl⟩
theorem O0.wind{q:Nat→Prop}{w:World}{s:Sv}(h:O0 q w s)(hr:Ad0 s.e.wt s.e.wb)(n:Int):O0 q w (X8 s n):=
 ⟨⟨h.e.k,h.e.s1,h.e.s2,h.e.r,h.e.rc,h.e.ro,h.e.rp,h.e.q,h.e.ql,h.e.u,h.e.ul,h.e.h,h.e.hl,h.e.o,h.e.ol,h.e.g,h.e.gl,Cy1 _ _ _ h.e.wt hr⟩,h.p,h.pl⟩
theorem O0.gone{q:Nat→Prop}{w:World}{s:Sv}(h:O0 q w s)(hr:Ad0 s.e.wt s.e.wb)(p:Pd):O0 q w (Bc5 s p):=by
 unfold Bc5;cases((p.g:Int)==s.e.r.p.no)&&(s.e.ph != 4)
 ·exact h.wind hr _
 ·exact⟨(h.wind hr _).e.turn,(h.wind hr p.q).p,(h.wind hr p.q).pl⟩
theorem O0.take{q:Nat→Prop}{w:World}{s:Sv}(h:O0 q w s)(hr:Ad0 s.e.wt s.e.wb)(l:List UInt8):O0 q w (U9 s l).1:=by
 unfold U9;cases decide (okR l)
 ·exact h.bump 2
 cases V6 s.e (pdF l).k (pdF l).d (pdF l).e0 (pdF l).e1 (pdF l).g
 ·cases Aj8 s (pdF l)
  ·exact(h.chk _).bump 5
  ·cases(((pdF l).k:Int)==1)
   ·cases(Ac7 s.e.wt s.e.wb (pdF l).q).2.2 != 0
    ·exact(h.chk _).gone hr _
    ·exact(h.chk _).bump 6
   ·exact h.chk _
 ·exact h.bump 13
def Di1(w:World)(E:Int)(p:Pd)(v:Value):Prop:=
 (E≠0∧v=.agg G8.toArray)∨(E=0∧∃a1 c1 a2 c2,v=Az0 p.k p.d p.e0 p.e1 p.g p.q (.slice a1 p.b.length c1) (.slice a2 p.t.length c2)∧(p.b.length≤c1∧c1≤maxLen)∧(p.t.length≤c2∧c2≤maxLen)∧A4 w a1 p.b∧A4 w a2 p.t)
def Be9(w:World)(s:Sv)(l:List UInt8)(x:Ending)(w':World):Prop:=
 ∃v,x=.returned (.tuple #[.agg (A5 (U9 s l).1).toArray,v,.int .i64 (U9 s l).2])∧Di1 w' (U9 s l).2 (pdF l) v∧Below w.heap.size w w'
def Cd3(w:World)(l:List UInt8)(x:Ending)(w':World):Prop:=
 (okR l∧∃a1 c1 a2 c2,x=.returned (.tuple #[Az0 (pdF l).k (pdF l).d (pdF l).e0 (pdF l).e1 (pdF l).g (pdF l).q (.slice a1 (pdF l).b.length c1) (.slice a2 (pdF l).t.length c2),.int .i64 0])∧((pdF l).b.length≤c1∧c1≤maxLen)∧((pdF l).t.length≤c2∧c2≤maxLen)∧A4 w' a1 (pdF l).b∧A4 w' a2 (pdF l).t∧Below w.heap.size w w')
 ∨(¬okR l∧∃why:Int,(why==0)=false∧x=.returned (.tuple #[.agg G8.toArray,.int .i64 why])∧Below w.heap.size w w')
theorem Ck6{w:World}{l:List UInt8}(h1:47≤l.length)(h2:l.length≤946){x:Ending}{w':World}
 (h:(Ag0 l→Cq1 w (I2 l 0 1) (I2 l 1 1) (I2 l 2 8) (I2 l 10 8) (I2 l 18 4) (I2 l 22 8) (U4 l) (Ab6 l) x w')∧(¬Ag0 l→Bn9 w 2 x w')):Cd3 w l x w':=by
 by_cases hg:Ag0 l
 ·obtain⟨a1,c1,a2,c2,k1,k2,k3,k4,k5,k6,k7,k8⟩:=h.1 hg;exact .inl ⟨⟨⟨h1,h2⟩,hg⟩,a1,c1,a2,c2,k1,⟨k2,k3⟩,⟨k4,k5⟩,k6,k7,k8⟩
 ·exact .inr ⟨fun k=>hg k.2,2,rfl,(h.2 hg).1,(h.2 hg).2⟩
theorem Ct3(a:Option Addr)(c:Nat)(l:List UInt8)(hc:l.length≤c)(hcm:c≤maxLen)(w:World)(hl:A4 w a l):
 Calls Tryz.prog 132 #[.slice a l.length c] w (Cd3 w l):=by
 by_cases h1:l.length<47
 ·exact(De4 a c l h1 w).mono fun x w' h=>.inr ⟨fun k=>by have:=k.1.1;omega,3,rfl,h.1,h.2⟩
 by_cases h2:946<l.length
 ·exact(Dz5 a c l h2 (by omega) w).mono fun x w' h=>.inr ⟨fun k=>by have:=k.1.2;omega,4,rfl,h.1,h.2⟩
 exact(Em7 a c l (by omega) (by omega) hc hcm w hl).mono fun x w' h=>Ck6 (by omega) (by omega) h
theorem Cy2(a:Option Addr)(c:Nat)(l:List UInt8)(hc:l.length≤c)(hcm:c≤maxLen)(w:World)(hl:A4 w a l):
 Calls Tryz.prog 65 #[.slice a l.length c] w (Cd3 w l):=by
 by_cases h1:l.length<47
 ·exact(Cl1 a c l h1 w).mono fun x w' h=>.inr ⟨fun k=>by have:=k.1.1;omega,3,rfl,h.1,h.2⟩
 by_cases h2:946<l.length
 ·exact(Cq4 a c l h2 (by omega) w).mono fun x w' h=>.inr ⟨fun k=>by have:=k.1.2;omega,4,rfl,h.1,h.2⟩
 exact(Cw3 a c l (by omega) (by omega) hc hcm w hl).mono fun x w' h=>Ck6 (by omega) (by omega) h
theorem Ac8{P:Program}{fn:Func}{p r u:Tmp}{ty tz:TypeId}(h:fn.results=#[.cell p ty,.cell r tz,.tmp u])(tmps:Array Value)(w:World)(g g2:Nat){cs ds:List Value}{d d2:TypeDesc}
 (hp:tmps.getD p undef=.pointer (some ⟨g,0,none⟩)) (hp2:tmps.getD r undef=.pointer (some ⟨g2,0,none⟩)) (v2:Value) (hv:tmps.getD u undef=v2) (hb:Blk w g cs) (hu:P.underlying ty=some d) (hd:(match d with | .struct _ | .array _ _=>true | _=>false)=true) (hi:(P.info? ty).map (·.size)=some cs.length)
 (hb2:Blk w g2 ds) (hu2:P.underlying tz=some d2) (hd2:(match d2 with | .struct _ | .array _ _=>true | _=>false)=true) (hi2:(P.info? tz).map (·.size)=some ds.length):
 (results fn tmps).run P w=.ok (.tuple #[.agg cs.toArray,.agg ds.toArray,v2]) w:=by
 obtain⟨T,hg⟩:=hb;obtain⟨T2,hg2⟩:=hb2;have h1:=run_loadVar_row (P:=P) w g T ty cs.toArray _ d hg hu hd (by simpa using hi);have h2:=run_loadVar_row (P:=P) w g2 T2 tz ds.toArray _ d2 hg2 hu2 hd2 (by simpa using hi2);have e:(results fn tmps).run P w=((asAddr (tmps.getD p undef)).run P w).andThen fun a w₁=>((loadVar ty a).run P w₁).andThen fun v' w₂=>((asAddr (tmps.getD r undef)).run P w₂).andThen fun a2 w₃=>((loadVar tz a2).run P w₃).andThen fun v3 w₄=>.ok (.tuple #[v',v3,tmps.getD u undef]) w₄:=by
  simp only[results,h];simp[Sem.run_bind,Result.andThen]
 rw[e,hp,hp2,hv];simp[asAddr,h1,h2]
theorem Bf6(w:World):(Instr.build 65 #[]).run Tryz.prog w=.ok (.agg G8.toArray) w:=by kernel_rfl
theorem A6.atAll{T:TypeId}{w:World}{b:Nat}{L:List Value}(h:A6 T w b L):w.rangeAt b 0 L:=fun j v hj=>by
 have hjl:j<L.length:=(List.getElem?_eq_some_iff.1 hj).1;rw[h.blk.cell (0+j) (by omega),Nat.zero_add,List.getD_eq_getElem?_getD,hj];rfl
noncomputable def Bb6:{ops:Array Oper//(Tryz.f20.body.bind (M8 17))=some (.region 17 ops true)}:=⟨_,rfl⟩
abbrev Ap2:List Nat:=[81,82,6]
theorem Di2:opx Bb6.1 2=some (.store 51 (.tmp 4) (.tmp 81),none,none):=by kernel_rfl
theorem Di3:opx Bb6.1 3=some (.store 65 (.tmp 5) (.tmp 82),none,none):=by kernel_rfl
theorem Cy3{s:Sv}{D:List Value}{n2 n4 n5 n7:Nat}{w0:World}{a1 a2:Option Addr}{b1 b2:List UInt8}{a:Act}{w:World}{Q:Exit→Act→World→Prop}(hsz:126≤a.tmps.size)
 (e2:a.tmps.getD 2 undef=.pointer (some ⟨n2,0,none⟩)) (e4:a.tmps.getD 4 undef=.pointer (some ⟨n4,0,none⟩)) (e5:a.tmps.getD 5 undef=.pointer (some ⟨n5,0,none⟩)) (e7:a.tmps.getD 7 undef=.pointer (some ⟨n7,0,none⟩))
 (hP:∀c a d v w,Q (.panic c) (Act.put a d v) w→Q (.panic c) a w) (B2:A6 51 w n2 (A5 s)) (B7:A6 65 w n7 D) (B4:A6 51 w n4 I6) (B5:A6 65 w n5 G8) (N24:n2≠n4) (N25:n2≠n5) (N45:n4≠n5) (N47:n4≠n7) (N57:n5≠n7) (hDl:G8.length=D.length) (L4:w0.heap.size≤n4) (L5:w0.heap.size≤n5) (G:Below w0.heap.size w0 w) (QB:A4 w a1 b1) (QT:A4 w a2 b2)
 (hD1:D.all (·.oneCell')=true) (hD8:D.all no8=true) (env_len:(Tryz.prog.info? 65).map (·.size)=some D.length)
 (hQ:∀{x81 x82} w',A6 51 w' n4 (A5 s)→A6 65 w' n5 D→A4 w' a1 b1→A4 w' a2 b2→Below w0.heap.size w0 w'→Q .normal (C6 a Ap2 [x81,x82,.int .i64 0]) w'):
 (Code.region 17 Bb6.1 true).wp Tryz.prog Q a w:=by
 have site_len:(Tryz.prog.info? 51).map (·.size)=some (A5 s).length:=by rw[D5];exact J8
 have bd0:∀{u:World},Below w0.heap.size w0 u→Below w0.heap.size w0 u.drew:=fun h=>bt h (bd _);have hB48:I6.all no8=true:=by rfl
 have hB58:G8.all no8=true:=by rfl
 have rG:Rgn Bb6.1 Ap2 a Q:=⟨fun k hk=>Nat.lt_of_lt_of_le ((by decide:∀k∈Ap2,k<126) k hk) hsz,by kernel_rfl,hP⟩;have hb:=rG.b;obtain⟨i,h0⟩:=U5 a Ap2;let S:World→Prop:=fun w'=>A6 51 w' n2 (A5 s)∧A6 65 w' n7 D;refine wp_region_held_drew (S:=S) (by kernel_rfl) (⟨B2.up (bd _),B7.up (bd _)⟩) fun hHeld=>?_;have N2_3:∀(u:World) (G:Below w0.heap.size w0 u) (S2:A6 51 u n2 (A5 s)∧A6 65 u n7 D) (B4:A6 51 u n4 (A5 s)) (B5:A6 65 u n5 (D)) (QB:A4 u a1 b1) (QT:A4 u a2 b2),wpAnyH Tryz.prog .any Bb6.1 Q S 0 (lm 5 31) (C6 a Ap2 [.agg (A5 s).toArray,.agg (D).toArray,i6 0]) u:=by
  intro u G S2 B4 B5 QB QT;refine S8 ?_;exact hQ _ B4 B5 QB QT G
 have N2:∀(u:World) (G:Below w0.heap.size w0 u) (S2:A6 51 u n2 (A5 s)∧A6 65 u n7 D) (B4:A6 51 u n4 (A5 s)) (B5:A6 65 u n5 G8) (QB:A4 u a1 b1) (QT:A4 u a2 b2),wpAnyH Tryz.prog .any Bb6.1 Q S 2 (lm 5 7) (C6 a Ap2 [.agg (A5 s).toArray,.agg (D).toArray,i 6]) u:=by
  intro u G S2 B4 B5 QB QT;refine D7 [3] (C9 rG Di3 ?_ AllReadyH.nil);intro o hp hd;refine X6 65 (.tmp 5) (.tmp 82) hp n5 (rG.ev e5) rG.ev B5 env_len hDl hD1 ?_;exact Aa1 rG [(4,6,i6 0)] hd ⟨S2.1.kp ((Kp.refl n5 u).row _) N25,S2.2.kp ((Kp.refl n5 u).row _) N57.symm⟩ ⟨Aj2 rfl,trivial⟩ (N2_3 _  (((Kp.refl n5 u).row _).below G L5) ⟨S2.1.kp ((Kp.refl n5 u).row _) N25,S2.2.kp ((Kp.refl n5 u).row _) N57.symm⟩ (B4.kp ((Kp.refl n5 u).row _) N45) (B5.row _) (A4.kp8 QB B5.blk (hB58) ((Kp.refl n5 u).row _)) (A4.kp8 QT B5.blk (hB58) ((Kp.refl n5 u).row _)))
 have N0:∀(u:World) (G:Below w0.heap.size w0 u) (S2:A6 51 u n2 (A5 s)∧A6 65 u n7 D) (B4:A6 51 u n4 I6) (B5:A6 65 u n5 G8) (QB:A4 u a1 b1) (QT:A4 u a2 b2),wpAnyH Tryz.prog .any Bb6.1 Q S 3 (lm 5 3) (C6 a Ap2 [.agg (A5 s).toArray,.agg (D).toArray,i 6]) u:=by
  intro u G S2 B4 B5 QB QT;refine D7 [2] (C9 rG Di2 ?_ AllReadyH.nil);intro o hp hd;refine X6 51 (.tmp 4) (.tmp 81) hp n4 (rG.ev e4) rG.ev B4 site_len (by rw[J0,D5]) (J2 _) ?_;exact Aa1 rG [] hd ⟨S2.1.kp ((Kp.refl n4 u).row _) N24,S2.2.kp ((Kp.refl n4 u).row _) N47.symm⟩ trivial (N2 _  (((Kp.refl n4 u).row _).below G L4) ⟨S2.1.kp ((Kp.refl n4 u).row _) N24,S2.2.kp ((Kp.refl n4 u).row _) N47.symm⟩ (B4.row _) (B5.kp ((Kp.refl n4 u).row _) N45.symm) (A4.kp8 QB B4.blk (hB48) ((Kp.refl n4 u).row _)) (A4.kp8 QT B4.blk (hB48) ((Kp.refl n4 u).row _)))
 exact M0 5 rG [(0,81,.agg (A5 s).toArray),(1,82,.agg (D).toArray)] h0 ⟨B2.up (bd _),B7.up (bd _)⟩ ⟨O2 (cs:=A5 s) rfl (fun w hw=>hw.1.atAll) site_len e2,O2 (cs:=D) rfl (fun w hw=>hw.2.atAll) env_len e7,trivial⟩ (N0 _  (bd0 G) ⟨B2.up (bd _),B7.up (bd _)⟩ (B4.up (bd _)) (B5.up (bd _)) (QB.mono (bd _)) (QT.mono (bd _)))
noncomputable def Bb7:{ops:Array Oper//(Tryz.f20.body.bind (M8 25))=some (.region 25 ops true)}:=⟨_,rfl⟩
abbrev Ap3:List Nat:=[124,125,6]
theorem Di4:opx Bb7.1 2=some (.store 51 (.tmp 4) (.tmp 124),none,none):=by kernel_rfl
theorem Di5:opx Bb7.1 3=some (.store 65 (.tmp 5) (.tmp 125),none,none):=by kernel_rfl
theorem Bk6{s:Sv}{D:List Value}{n2 n4 n5 n7:Nat}{w0:World}{a1 a2:Option Addr}{b1 b2:List UInt8}{a:Act}{w:World}{Q:Exit→Act→World→Prop}(hsz:126≤a.tmps.size)
 (e2:a.tmps.getD 2 undef=.pointer (some ⟨n2,0,none⟩)) (e4:a.tmps.getD 4 undef=.pointer (some ⟨n4,0,none⟩)) (e5:a.tmps.getD 5 undef=.pointer (some ⟨n5,0,none⟩)) (e7:a.tmps.getD 7 undef=.pointer (some ⟨n7,0,none⟩))
 (hP:∀c a d v w,Q (.panic c) (Act.put a d v) w→Q (.panic c) a w) (B2:A6 51 w n2 (A5 s)) (B7:A6 65 w n7 D) (B4:A6 51 w n4 I6) (B5:A6 65 w n5 G8) (N24:n2≠n4) (N25:n2≠n5) (N45:n4≠n5) (N47:n4≠n7) (N57:n5≠n7) (hDl:G8.length=D.length) (L4:w0.heap.size≤n4) (L5:w0.heap.size≤n5) (G:Below w0.heap.size w0 w) (QB:A4 w a1 b1) (QT:A4 w a2 b2)
 (hD1:D.all (·.oneCell')=true) (hD8:D.all no8=true) (env_len:(Tryz.prog.info? 65).map (·.size)=some D.length)
 (hQ:∀{x124 x125} w',A6 51 w' n4 (A5 s)→A6 65 w' n5 D→A4 w' a1 b1→A4 w' a2 b2→Below w0.heap.size w0 w'→Q .normal (C6 a Ap3 [x124,x125,.int .i64 0]) w'):
 (Code.region 25 Bb7.1 true).wp Tryz.prog Q a w:=by
 have site_len:(Tryz.prog.info? 51).map (·.size)=some (A5 s).length:=by rw[D5];exact J8
 have bd0:∀{u:World},Below w0.heap.size w0 u→Below w0.heap.size w0 u.drew:=fun h=>bt h (bd _);have hB48:I6.all no8=true:=by rfl
 have hB58:G8.all no8=true:=by rfl
 have rG:Rgn Bb7.1 Ap3 a Q:=⟨fun k hk=>Nat.lt_of_lt_of_le ((by decide:∀k∈Ap3,k<126) k hk) hsz,by kernel_rfl,hP⟩;have hb:=rG.b;obtain⟨i,h0⟩:=U5 a Ap3;let S:World→Prop:=fun w'=>A6 51 w' n2 (A5 s)∧A6 65 w' n7 D;refine wp_region_held_drew (S:=S) (by kernel_rfl) (⟨B2.up (bd _),B7.up (bd _)⟩) fun hHeld=>?_;have N2_3:∀(u:World) (G:Below w0.heap.size w0 u) (S2:A6 51 u n2 (A5 s)∧A6 65 u n7 D) (B4:A6 51 u n4 (A5 s)) (B5:A6 65 u n5 (D)) (QB:A4 u a1 b1) (QT:A4 u a2 b2),wpAnyH Tryz.prog .any Bb7.1 Q S 0 (lm 5 31) (C6 a Ap3 [.agg (A5 s).toArray,.agg (D).toArray,i6 0]) u:=by
  intro u G S2 B4 B5 QB QT;refine S8 ?_;exact hQ _ B4 B5 QB QT G
 have N2:∀(u:World) (G:Below w0.heap.size w0 u) (S2:A6 51 u n2 (A5 s)∧A6 65 u n7 D) (B4:A6 51 u n4 (A5 s)) (B5:A6 65 u n5 G8) (QB:A4 u a1 b1) (QT:A4 u a2 b2),wpAnyH Tryz.prog .any Bb7.1 Q S 2 (lm 5 7) (C6 a Ap3 [.agg (A5 s).toArray,.agg (D).toArray,i 6]) u:=by
  intro u G S2 B4 B5 QB QT;refine D7 [3] (C9 rG Di5 ?_ AllReadyH.nil);intro o hp hd;refine X6 65 (.tmp 5) (.tmp 125) hp n5 (rG.ev e5) rG.ev B5 env_len hDl hD1 ?_;exact Aa1 rG [(4,6,i6 0)] hd ⟨S2.1.kp ((Kp.refl n5 u).row _) N25,S2.2.kp ((Kp.refl n5 u).row _) N57.symm⟩ ⟨Aj2 rfl,trivial⟩ (N2_3 _  (((Kp.refl n5 u).row _).below G L5) ⟨S2.1.kp ((Kp.refl n5 u).row _) N25,S2.2.kp ((Kp.refl n5 u).row _) N57.symm⟩ (B4.kp ((Kp.refl n5 u).row _) N45) (B5.row _) (A4.kp8 QB B5.blk (hB58) ((Kp.refl n5 u).row _)) (A4.kp8 QT B5.blk (hB58) ((Kp.refl n5 u).row _)))
 have N0:∀(u:World) (G:Below w0.heap.size w0 u) (S2:A6 51 u n2 (A5 s)∧A6 65 u n7 D) (B4:A6 51 u n4 I6) (B5:A6 65 u n5 G8) (QB:A4 u a1 b1) (QT:A4 u a2 b2),wpAnyH Tryz.prog .any Bb7.1 Q S 3 (lm 5 3) (C6 a Ap3 [.agg (A5 s).toArray,.agg (D).toArray,i 6]) u:=by
  intro u G S2 B4 B5 QB QT;refine D7 [2] (C9 rG Di4 ?_ AllReadyH.nil);intro o hp hd;refine X6 51 (.tmp 4) (.tmp 124) hp n4 (rG.ev e4) rG.ev B4 site_len (by rw[J0,D5]) (J2 _) ?_;exact Aa1 rG [] hd ⟨S2.1.kp ((Kp.refl n4 u).row _) N24,S2.2.kp ((Kp.refl n4 u).row _) N47.symm⟩ trivial (N2 _  (((Kp.refl n4 u).row _).below G L4) ⟨S2.1.kp ((Kp.refl n4 u).row _) N24,S2.2.kp ((Kp.refl n4 u).row _) N47.symm⟩ (B4.row _) (B5.kp ((Kp.refl n4 u).row _) N45.symm) (A4.kp8 QB B4.blk (hB48) ((Kp.refl n4 u).row _)) (A4.kp8 QT B4.blk (hB48) ((Kp.refl n4 u).row _)))
 exact M0 5 rG [(0,124,.agg (A5 s).toArray),(1,125,.agg (D).toArray)] h0 ⟨B2.up (bd _),B7.up (bd _)⟩ ⟨O2 (cs:=A5 s) rfl (fun w hw=>hw.1.atAll) site_len e2,O2 (cs:=D) rfl (fun w hw=>hw.2.atAll) env_len e7,trivial⟩ (N0 _  (bd0 G) ⟨B2.up (bd _),B7.up (bd _)⟩ (B4.up (bd _)) (B5.up (bd _)) (QB.mono (bd _)) (QT.mono (bd _)))
noncomputable def Ba1:{ops:Array Oper//(Tryz.f19.body.bind (M8 5))=some (.region 5 ops true)}:=⟨_,rfl⟩
abbrev Ao0:List Nat:=[16,17]
theorem Ed7:opx Ba1.1 2=some (.store 51 (.tmp 4) (.tmp 16),none,none):=by kernel_rfl
theorem Ed8:opx Ba1.1 3=some (.store 65 (.tmp 5) (.tmp 17),none,none):=by kernel_rfl
theorem Ed9:opx Ba1.1 4=some (.store 54 (.tmp 6) (.const (Value.int IntKind.i64 0)),none,none):=by kernel_rfl
theorem Di6{s:Sv}{D:List Value}{n4 n5 n6:Nat}{c6:Int}{w0:World}{a1 a2:Option Addr}{b1 b2:List UInt8}{a:Act}{w:World}{Q:Exit→Act→World→Prop}(hsz:58≤a.tmps.size)
 (e4:a.tmps.getD 4 undef=.pointer (some ⟨n4,0,none⟩)) (e5:a.tmps.getD 5 undef=.pointer (some ⟨n5,0,none⟩)) (e6:a.tmps.getD 6 undef=.pointer (some ⟨n6,0,none⟩))
 (hP:∀c a d v w,Q (.panic c) (Act.put a d v) w→Q (.panic c) a w) (B4:A6 51 w n4 (A5 s)) (B5:A6 65 w n5 D) (B6:A6 54 w n6 [.int .i64 c6]) (N45:n4≠n5) (N46:n4≠n6) (N56:n5≠n6) (L6:w0.heap.size≤n6) (L4:w0.heap.size≤n4) (L5:w0.heap.size≤n5) (G:Below w0.heap.size w0 w) (QB:A4 w a1 b1) (QT:A4 w a2 b2)
 (hD1:D.all (·.oneCell')=true) (hD8:D.all no8=true) (env_len:(Tryz.prog.info? 65).map (·.size)=some D.length)
 (hQ:∀{x16 x17} w',A6 51 w' n4 (A5 s)→A6 65 w' n5 D→A6 54 w' n6 [.int .i64 0]→A4 w' a1 b1→A4 w' a2 b2→Below w0.heap.size w0 w'→Q .normal (C6 a Ao0 [x16,x17]) w'):
 (Code.region 5 Ba1.1 true).wp Tryz.prog Q a w:=by
 have site_len:(Tryz.prog.info? 51).map (·.size)=some (A5 s).length:=by rw[D5];exact J8
 have bd0:∀{u:World},Below w0.heap.size w0 u→Below w0.heap.size w0 u.drew:=fun h=>bt h (bd _);have hB48:(A5 s).all no8=true:=R6 _;have hB58:D.all no8=true:=hD8;have hB68:[Value.int .i64 c6].all no8=true:=rfl;have rG:Rgn Ba1.1 Ao0 a Q:=⟨fun k hk=>Nat.lt_of_lt_of_le ((by decide:∀k∈Ao0,k<58) k hk) hsz,by kernel_rfl,hP⟩;have hb:=rG.b;obtain⟨i,h0⟩:=U5 a Ao0;let S:World→Prop:=fun w'=>A6 51 w' n4 (A5 s)∧A6 65 w' n5 D;refine wp_region_held_drew (S:=S) (by kernel_rfl) (⟨B4.up (bd _),B5.up (bd _)⟩) fun hHeld=>?_;have N2_3_4:∀(u:World) (G:Below w0.heap.size w0 u) (B4:A6 51 u n4 (A5 s)) (B5:A6 65 u n5 (D)) (B6:A6 54 u n6 ([i6 0])) (QB:A4 u a1 b1) (QT:A4 u a2 b2),wpAnyH Tryz.prog .any Ba1.1 Q S 0 (lm 5 31) (C6 a Ao0 [.agg (A5 s).toArray,.agg (D).toArray]) u:=by
  intro u G B4 B5 B6 QB QT;refine S8 ?_;exact hQ _ B4 B5 B6 QB QT G
 have N2_3:∀(u:World) (G:Below w0.heap.size w0 u) (B4:A6 51 u n4 (A5 s)) (B5:A6 65 u n5 (D)) (B6:A6 54 u n6 [i6 c6]) (QB:A4 u a1 b1) (QT:A4 u a2 b2),wpAnyH Tryz.prog .any Ba1.1 Q S 1 (lm 5 15) (C6 a Ao0 [.agg (A5 s).toArray,.agg (D).toArray]) u:=by
  intro u G B4 B5 B6 QB QT;refine D7 [4] (C9 rG Ed9 ?_ AllReadyH.nil);intro o hp hd;refine Bj7 54 (.tmp 6) (.const (i6 0)) hp n6 0 (rG.ev e6) rfl B6.blk (Nat.zero_lt_succ _) (by kernel_rfl) rfl ?_;exact Aa1 rG [] hd ⟨(B4.kp ((Kp.refl n6 u).set 0 _) N46),(B5.kp ((Kp.refl n6 u).set 0 _) N56)⟩ trivial (N2_3_4 _  (((Kp.refl n6 u).set 0 _).below G L6) (B4.kp ((Kp.refl n6 u).set 0 _) N46) (B5.kp ((Kp.refl n6 u).set 0 _) N56) (B6.set 0 _) (A4.kp8 QB B6.blk hB68 ((Kp.refl n6 u).set 0 _)) (A4.kp8 QT B6.blk hB68 ((Kp.refl n6 u).set 0 _)))
 have N2:∀(u:World) (G:Below w0.heap.size w0 u) (B4:A6 51 u n4 (A5 s)) (B5:A6 65 u n5 D) (B6:A6 54 u n6 [i6 c6]) (QB:A4 u a1 b1) (QT:A4 u a2 b2),wpAnyH Tryz.prog .any Ba1.1 Q S 2 (lm 5 7) (C6 a Ao0 [.agg (A5 s).toArray,.agg (D).toArray]) u:=by
  intro u G B4 B5 B6 QB QT;refine D7 [3] (C9 rG Ed8 ?_ AllReadyH.nil);intro o hp hd;refine X6 65 (.tmp 5) (.tmp 17) hp n5 (rG.ev e5) rG.ev B5 env_len rfl hD1 ?_;exact Aa1 rG [] hd ⟨(B4.kp ((Kp.refl n5 u).row _) N45),(B5.row _)⟩ trivial (N2_3 _  (((Kp.refl n5 u).row _).below G L5) (B4.kp ((Kp.refl n5 u).row _) N45) (B5.row _) (B6.kp ((Kp.refl n5 u).row _) N56.symm) (A4.kp8 QB B5.blk (hB58) ((Kp.refl n5 u).row _)) (A4.kp8 QT B5.blk (hB58) ((Kp.refl n5 u).row _)))
 have N0:∀(u:World) (G:Below w0.heap.size w0 u) (B4:A6 51 u n4 (A5 s)) (B5:A6 65 u n5 D) (B6:A6 54 u n6 [i6 c6]) (QB:A4 u a1 b1) (QT:A4 u a2 b2),wpAnyH Tryz.prog .any Ba1.1 Q S 3 (lm 5 3) (C6 a Ao0 [.agg (A5 s).toArray,.agg (D).toArray]) u:=by
  intro u G B4 B5 B6 QB QT;refine D7 [2] (C9 rG Ed7 ?_ AllReadyH.nil);intro o hp hd;refine X6 51 (.tmp 4) (.tmp 16) hp n4 (rG.ev e4) rG.ev B4 site_len rfl (J2 _) ?_;exact Aa1 rG [] hd ⟨(B4.row _),(B5.kp ((Kp.refl n4 u).row _) N45.symm)⟩ trivial (N2 _  (((Kp.refl n4 u).row _).below G L4) (B4.row _) (B5.kp ((Kp.refl n4 u).row _) N45.symm) (B6.kp ((Kp.refl n4 u).row _) N46.symm) (A4.kp8 QB B4.blk (hB48) ((Kp.refl n4 u).row _)) (A4.kp8 QT B4.blk (hB48) ((Kp.refl n4 u).row _)))
 exact M0 5 rG [(0,16,.agg (A5 s).toArray),(1,17,.agg (D).toArray)] h0 ⟨B4.up (bd _),B5.up (bd _)⟩ ⟨O2 (cs:=A5 s) rfl (fun w hw=>hw.1.atAll) site_len e4,O2 (cs:=D) rfl (fun w hw=>hw.2.atAll) env_len e5,trivial⟩ (N0 _  (bd0 G) (B4.up (bd _)) (B5.up (bd _)) (B6.up (bd _)) (QB.mono (bd _)) (QT.mono (bd _)))
noncomputable def At7:{ops:Array Oper//(Tryz.f19.body.bind (M8 11))=some (.region 11 ops true)}:=⟨_,rfl⟩
abbrev Am2:List Nat:=[56,57]
theorem Di7:opx At7.1 2=some (.store 51 (.tmp 4) (.tmp 56),none,none):=by kernel_rfl
theorem Di8:opx At7.1 3=some (.store 65 (.tmp 5) (.tmp 57),none,none):=by kernel_rfl
theorem Di9:opx At7.1 4=some (.store 54 (.tmp 6) (.const (Value.int IntKind.i64 0)),none,none):=by kernel_rfl
theorem Bk7{s:Sv}{D:List Value}{n4 n5 n6:Nat}{c6:Int}{w0:World}{a1 a2:Option Addr}{b1 b2:List UInt8}{a:Act}{w:World}{Q:Exit→Act→World→Prop}(hsz:58≤a.tmps.size)
 (e4:a.tmps.getD 4 undef=.pointer (some ⟨n4,0,none⟩)) (e5:a.tmps.getD 5 undef=.pointer (some ⟨n5,0,none⟩)) (e6:a.tmps.getD 6 undef=.pointer (some ⟨n6,0,none⟩))
 (hP:∀c a d v w,Q (.panic c) (Act.put a d v) w→Q (.panic c) a w) (B4:A6 51 w n4 (A5 s)) (B5:A6 65 w n5 D) (B6:A6 54 w n6 [.int .i64 c6]) (N45:n4≠n5) (N46:n4≠n6) (N56:n5≠n6) (L6:w0.heap.size≤n6) (L4:w0.heap.size≤n4) (L5:w0.heap.size≤n5) (G:Below w0.heap.size w0 w) (QB:A4 w a1 b1) (QT:A4 w a2 b2)
 (hD1:D.all (·.oneCell')=true) (hD8:D.all no8=true) (env_len:(Tryz.prog.info? 65).map (·.size)=some D.length)
 (hQ:∀{x56 x57} w',A6 51 w' n4 (A5 s)→A6 65 w' n5 D→A6 54 w' n6 [.int .i64 0]→A4 w' a1 b1→A4 w' a2 b2→Below w0.heap.size w0 w'→Q .normal (C6 a Am2 [x56,x57]) w'):
 (Code.region 11 At7.1 true).wp Tryz.prog Q a w:=by
 have site_len:(Tryz.prog.info? 51).map (·.size)=some (A5 s).length:=by rw[D5];exact J8
 have bd0:∀{u:World},Below w0.heap.size w0 u→Below w0.heap.size w0 u.drew:=fun h=>bt h (bd _);have hB48:(A5 s).all no8=true:=R6 _;have hB58:D.all no8=true:=hD8;have hB68:[Value.int .i64 c6].all no8=true:=rfl;have rG:Rgn At7.1 Am2 a Q:=⟨fun k hk=>Nat.lt_of_lt_of_le ((by decide:∀k∈Am2,k<58) k hk) hsz,by kernel_rfl,hP⟩;have hb:=rG.b;obtain⟨i,h0⟩:=U5 a Am2;let S:World→Prop:=fun w'=>A6 51 w' n4 (A5 s)∧A6 65 w' n5 D;refine wp_region_held_drew (S:=S) (by kernel_rfl) (⟨B4.up (bd _),B5.up (bd _)⟩) fun hHeld=>?_;have N2_3_4:∀(u:World) (G:Below w0.heap.size w0 u) (B4:A6 51 u n4 (A5 s)) (B5:A6 65 u n5 (D)) (B6:A6 54 u n6 ([i6 0])) (QB:A4 u a1 b1) (QT:A4 u a2 b2),wpAnyH Tryz.prog .any At7.1 Q S 0 (lm 5 31) (C6 a Am2 [.agg (A5 s).toArray,.agg (D).toArray]) u:=by
  intro u G B4 B5 B6 QB QT;refine S8 ?_;exact hQ _ B4 B5 B6 QB QT G
 have N2_3:∀(u:World) (G:Below w0.heap.size w0 u) (B4:A6 51 u n4 (A5 s)) (B5:A6 65 u n5 (D)) (B6:A6 54 u n6 [i6 c6]) (QB:A4 u a1 b1) (QT:A4 u a2 b2),wpAnyH Tryz.prog .any At7.1 Q S 1 (lm 5 15) (C6 a Am2 [.agg (A5 s).toArray,.agg (D).toArray]) u:=by
  intro u G B4 B5 B6 QB QT;refine D7 [4] (C9 rG Di9 ?_ AllReadyH.nil);intro o hp hd;refine Bj7 54 (.tmp 6) (.const (i6 0)) hp n6 0 (rG.ev e6) rfl B6.blk (Nat.zero_lt_succ _) (by kernel_rfl) rfl ?_;exact Aa1 rG [] hd ⟨(B4.kp ((Kp.refl n6 u).set 0 _) N46),(B5.kp ((Kp.refl n6 u).set 0 _) N56)⟩ trivial (N2_3_4 _  (((Kp.refl n6 u).set 0 _).below G L6) (B4.kp ((Kp.refl n6 u).set 0 _) N46) (B5.kp ((Kp.refl n6 u).set 0 _) N56) (B6.set 0 _) (A4.kp8 QB B6.blk hB68 ((Kp.refl n6 u).set 0 _)) (A4.kp8 QT B6.blk hB68 ((Kp.refl n6 u).set 0 _)))
 have N2:∀(u:World) (G:Below w0.heap.size w0 u) (B4:A6 51 u n4 (A5 s)) (B5:A6 65 u n5 D) (B6:A6 54 u n6 [i6 c6]) (QB:A4 u a1 b1) (QT:A4 u a2 b2),wpAnyH Tryz.prog .any At7.1 Q S 2 (lm 5 7) (C6 a Am2 [.agg (A5 s).toArray,.agg (D).toArray]) u:=by
  intro u G B4 B5 B6 QB QT;refine D7 [3] (C9 rG Di8 ?_ AllReadyH.nil);intro o hp hd;refine X6 65 (.tmp 5) (.tmp 57) hp n5 (rG.ev e5) rG.ev B5 env_len rfl hD1 ?_;exact Aa1 rG [] hd ⟨(B4.kp ((Kp.refl n5 u).row _) N45),(B5.row _)⟩ trivial (N2_3 _  (((Kp.refl n5 u).row _).below G L5) (B4.kp ((Kp.refl n5 u).row _) N45) (B5.row _) (B6.kp ((Kp.refl n5 u).row _) N56.symm) (A4.kp8 QB B5.blk (hB58) ((Kp.refl n5 u).row _)) (A4.kp8 QT B5.blk (hB58) ((Kp.refl n5 u).row _)))
 have N0:∀(u:World) (G:Below w0.heap.size w0 u) (B4:A6 51 u n4 (A5 s)) (B5:A6 65 u n5 D) (B6:A6 54 u n6 [i6 c6]) (QB:A4 u a1 b1) (QT:A4 u a2 b2),wpAnyH Tryz.prog .any At7.1 Q S 3 (lm 5 3) (C6 a Am2 [.agg (A5 s).toArray,.agg (D).toArray]) u:=by
  intro u G B4 B5 B6 QB QT;refine D7 [2] (C9 rG Di7 ?_ AllReadyH.nil);intro o hp hd;refine X6 51 (.tmp 4) (.tmp 56) hp n4 (rG.ev e4) rG.ev B4 site_len rfl (J2 _) ?_;exact Aa1 rG [] hd ⟨(B4.row _),(B5.kp ((Kp.refl n4 u).row _) N45.symm)⟩ trivial (N2 _  (((Kp.refl n4 u).row _).below G L4) (B4.row _) (B5.kp ((Kp.refl n4 u).row _) N45.symm) (B6.kp ((Kp.refl n4 u).row _) N46.symm) (A4.kp8 QB B4.blk (hB48) ((Kp.refl n4 u).row _)) (A4.kp8 QT B4.blk (hB48) ((Kp.refl n4 u).row _)))
 exact M0 5 rG [(0,56,.agg (A5 s).toArray),(1,57,.agg (D).toArray)] h0 ⟨B4.up (bd _),B5.up (bd _)⟩ ⟨O2 (cs:=A5 s) rfl (fun w hw=>hw.1.atAll) site_len e4,O2 (cs:=D) rfl (fun w hw=>hw.2.atAll) env_len e5,trivial⟩ (N0 _  (bd0 G) (B4.up (bd _)) (B5.up (bd _)) (B6.up (bd _)) (QB.mono (bd _)) (QT.mono (bd _)))
end Go.Proofs.YtadpiemjgfndgaaGreatDoor
