/- Proved here, for use further on: LfF LfH LfG LfI. Conditions: none but those each theorem names. -/
import Derived.Test.YtadpiemjgfndgaaGreatDoorKi00
import Derived.Test.YtadpiemjgfndgaaGreatDoorKi23
import Derived.Test.YtadpiemjgfndgaaGreatDoorKi12
import Derived.Test.YtadpiemjgfndgaaGreatDoorKi08
import Derived.Test.YtadpiemjgfndgaaGreatDoorKi16
import Derived.Test.YtadpiemjgfndgaaGreatDoorKi21
import Derived.Test.YtadpiemjgfndgaaGreatDoorKi20
import Derived.Test.YtadpiemjgfndgaaGreatDoorKi13
import Derived.Test.YtadpiemjgfndgaaGreatDoorKi17
import Derived.Test.YtadpiemjgfndgaaGreatDoorKi18
set_option linter.unusedSimpArgs false
set_option linter.unusedVariables false
set_option maxRecDepth 100000
set_option maxHeartbeats 8000000
namespace Go.Proofs.YtadpiemjgfndgaaGreatDoor
open Go.RowKit
def Ar7(s t:Sv):Bool:=Ai8 s.e t.e&&Bm7 s.i s.f s.es t.i t.f t.es
theorem Cc1(s t:Sv)(w:World)(hs:Ae6 w s)(ht:Ae6 w t)(ho:s.e.o.length≤100000∧t.e.o.length≤100000)(hg:s.e.g.length≤100000∧t.e.g.length≤100000)(hes:s.es.length≤100000∧t.es.length≤100000):
 Calls Tryz.prog 18 #[.agg (A4 s).toArray,.agg (A4 t).toArray] w (F6 w (Ar7 s t)):=by
 have P1:=Lh (fun(W:World) (h:Below w.heap.size w W)=>Bo8 s.e t.e W (hs.e.mono h) (ht.e.mono h) ho hg);have P2:=Lh (fun(W:World) (h:Below w.heap.size w W)=>Cp3 s.i s.f t.i t.f s.ta t.ta s.tc t.tc s.es t.es W hes.1 hes.2 (hs.p.mono h) (ht.p.mono h));have HF:=Lh (show Ar7 s t=(Ai8 s.e t.e&&Bm7 s.i s.f s.es t.i t.f t.es) from rfl);have SE:=Lh (show ∀E:Ev,(Tryz.prog.info? 46).map (·.size)=some (A7 E).length from fun E=>by rw[F9];exact L9);have SQ:=Lh Ae0;unfold F6 at P1 P2;generalize Ar7 s t=R at HF ⊢;generalize Ai8 s.e t.e=s1 at P1 HF;generalize Bm7 s.i s.f s.es t.i t.f t.es=s2 at P2 HF;clear hs ht ho hg hes;go_enter Tryz.func18,Tryz.ntmps18
 go_upto_region 1 with(fail)
 generalize hW:World.alloc (World.alloc w _) _=W;obtain⟨B2,B3,hb⟩:=Al0 (a:=A4 s) (b:=A4 t) hW;clear hW;have B2:=Lh B2;have B3:=Lh B3;have G:=Lh hb;clear hb;generalize w.heap.size+1=n3 at B3 ⊢;generalize hn2:w.heap.size=n2 at B2 ⊢;clear hn2;go_wp2_with (first
  | (refine G6 46 (.tmp 7) rfl ?_;refine D0 46 (.tmp 7) n2 0 (by first | rfl | simp[Region.wanted,yielded]) rfl rfl B2.out.blk.atE Tryz.underlying46 rfl (SE.out _) ?_)
  | (refine G6 46 (.tmp 9) rfl ?_;refine D0 46 (.tmp 9) n3 0 (by first | rfl | simp[Region.wanted,yielded]) rfl rfl B3.out.blk.atE Tryz.underlying46 rfl (SE.out _) ?_))
 refine(P1.out _ G.out).mono ?_;rintro x w1 ⟨rfl,hb⟩;replace B2:=Lh (B2.out.up hb);replace B3:=Lh (B3.out.up hb);replace G:=Lh (bt G.out hb);clear hb P1;go_wp2_with (first
  | (refine G6 49 (.tmp 12) rfl ?_;refine D0 49 (.tmp 12) n2 70 (by first | rfl | simp[Region.wanted,yielded]) rfl rfl B2.out.blk.atP Tryz.underlying49 rfl SQ.out ?_)
  | (refine G6 49 (.tmp 14) rfl ?_;refine D0 49 (.tmp 14) n3 70 (by first | rfl | simp[Region.wanted,yielded]) rfl rfl B3.out.blk.atP Tryz.underlying49 rfl SQ.out ?_))
 refine(P2.out _ G.out).mono ?_;rintro x w2 ⟨rfl,hb⟩;replace G:=Lh (bt G.out hb);clear hb P2 B2 B3;rcases s1 with _ | _
 ·have hR:R=false:=by rw[HF.out];rfl
  subst hR;go_wp2_with fail
  go_ret;exact⟨rfl,G.out⟩
 have hR:R=s2:=by rw[HF.out];rfl
 subst hR;go_wp2_with fail
 go_ret;exact⟨rfl,G.out⟩
theorem Cc2(e:Ev)(w:World):Calls Tryz.prog 28 #[.agg (A7 e).toArray] w fun x w'=>x=.returned (.agg (A7 e.l_c0).toArray)∧Below w.heap.size w w':=by
 have SE:=Lh (show ∀E:Ev,(Tryz.prog.info? 46).map (·.size)=some (A7 E).length from fun E=>by rw[F9];exact L9);have hbe:∀W:World,(Instr.build 40 #[]).run Tryz.prog W=.ok (.agg ([.int .i64 0,.int .i64 0,.int .i64 0,.int .i64 0]:List Value).toArray) W:=fun W=>by kernel_rfl
 go_enter Tryz.func28,Tryz.ntmps28
 go_upto_region 1 with(fail)
 generalize hW:World.alloc (World.alloc w _) _=W;obtain⟨B1,B2,hb⟩:=Al0 (a:=A7 e) (b:=X5) hW;clear hW;have B1:=Lh B1;have B2:=Lh B2;have G:=Lh hb;have N:=Lh (show w.heap.size≠w.heap.size+1 by omega);have L1:=Lh (show w.heap.size≤w.heap.size by omega);have L2:=Lh (show w.heap.size≤w.heap.size+1 by omega);clear hb;generalize w.heap.size+1=n2 at B2 N L2 ⊢;generalize hn1:w.heap.size=n1 at B1 N ⊢;replace L1:=Lh (show w.heap.size≤n1 by omega);clear hn1;go_upto_region 2 with(refine G9 40 (.tmp 4) (.tmp 3) rfl ?_;refine Aa0 40 (.tmp 4) (.tmp 3) n1 66 (cs:=[.int .i64 0,.int .i64 0,.int .i64 0,.int .i64 0]) rfl rfl rfl rfl B1.out (by rw[F9];decide) Bd6 rfl (Cv6 e) ?_;intro w1 hB hK;replace B1:=Lh hB;replace B2:=Lh (B2.out.kp hK N.out.symm);replace G:=Lh (hK.below G.out L1.out);clear hB hK)
 go_wp2_with (first
  | (refine G6 46 (.tmp 1) rfl ?_;refine D5 46 (.tmp 1) n1 rfl rfl rfl B1.out.blk Tryz.underlying46 rfl (SE.out _) ?_)
  | (refine G9 46 (.tmp 2) (.tmp 5) rfl ?_;refine I9 46 (.tmp 2) (.tmp 5) n2 (cs:=A7 e.l_c0) rfl rfl rfl rfl B2.out (SE.out _) (by rw[F9];exact Ac1) (Ad6 _) ?_;intro w2 hB hK;replace B2:=Lh hB;replace G:=Lh (hK.below G.out L2.out);clear hB hK))
 (try simp only[Act.put,List.setIfInBounds_toArray,List.set_cons_zero,List.set_cons_succ])
 refine bodyPost_ret (M5 rfl _ _ n2 (cs:=A7 e.l_c0) rfl B2.out.blk Tryz.underlying46 rfl (SE.out _)) rfl ?_;exact⟨rfl,G.out⟩
def Ar8(e:Ev):Bool:=decide (∀j,j<e.o.length→(e.o.getD j (0,[])).2.length≤1100)
def Ar9(e:Ev):Bool:=decide (∀j,j<e.g.length→(e.g.getD j default).b.length≤1000)
def By4(e:Ev):Bool:=Bf2 e.s1.l e.s2.l&&(Cf1 e.r&&(Bn0 e.h&&(decide (e.k.l.length≤100)&&(decide (e.q.body.length≤1000)&&(decide (Ag5 e.u≤9000)&&(decide (e.o.length≤20)&&(decide (e.g.length≤40)&&(Ar8 e&&Ar9 e))))))))
theorem Cs3(e:Ev)(w:World)(h:Ab8 w e):Calls Tryz.prog 37 #[.agg (A7 e).toArray] w (F6 w (By4 e)):=by
 have P1:=Lh (fun(W:World) (hb:Below w.heap.size w W)=>(show Calls Tryz.prog 87 #[.agg #[.slice e.s1.a e.s1.l.length e.s1.c,.slice e.s2.a e.s2.l.length e.s2.c]] W (F6 W (Bf2 e.s1.l e.s2.l)) from Dy6 _ _ _ W (Aw2 (h.mono hb))));have P2:=Lh (fun(W:World)=>(show Calls Tryz.prog 88 #[.agg e.r.L.toArray] W (F6 W (Cf1 e.r)) from De2 e.r W));have P3:=Lh (fun(W:World)=>(show Calls Tryz.prog 89 #[.agg e.h.L.toArray] W (F6 W (Bn0 e.h)) from En4 e.h h.hl W));have P4:=Lh (fun(W:World) (hb:Below w.heap.size w W)=>(show Calls Tryz.prog 90 #[.slice e.ua e.u.length e.uc,.int .i64 9000] W fun x w'=>x=.returned (.int .i64 (if Ag5 e.u≤9000 then(Ag5 e.u:Int) else 9001))∧w'=W from Ek0 e.ua e.uc e.u 9000 W (by decide) (Nat.le_trans h.ul.1 h.ul.2) (h.u.mono hb)));have HO:=Lh (fun(W:World) (hb:Below w.heap.size w W)=>h.o.mono hb);have HG:=Lh (fun(W:World) (hb:Below w.heap.size w W)=>h.g.mono hb);have hol:=h.ol;have hgl:=h.gl;unfold maxLen at hol hgl;have HF:=Lh (show By4 e=(Bf2 e.s1.l e.s2.l&&(Cf1 e.r&&(Bn0 e.h&&(decide (e.k.l.length≤100)&&(decide (e.q.body.length≤1000)&&(decide (Ag5 e.u≤9000)&&(decide (e.o.length≤20)&&(decide (e.g.length≤40)&&(Ar8 e&&Ar9 e))))))))) from rfl);have HFo:=Lh (show Ar8 e=decide (∀j,j<e.o.length→(e.o.getD j (0,[])).2.length≤1100) from rfl);have HFg:=Lh (show Ar9 e=decide (∀j,j<e.g.length→(e.g.getD j default).b.length≤1000) from rfl);have SR:=Lh Aa6;have SH:=Lh (show(Tryz.prog.info? 42).map (·.size)=some e.h.L.length by kernel_rfl);unfold F6 at P1 P2 P3;generalize By4 e=R at HF ⊢;generalize Bf2 e.s1.l e.s2.l=s1 at P1 HF;generalize Cf1 e.r=s2 at P2 HF;generalize Bn0 e.h=s3 at P3 HF;obtain⟨V,hV⟩:∃V:Int,V=(if Ag5 e.u≤9000 then(Ag5 e.u:Int) else 9001):=⟨_,rfl⟩;rw[←hV] at P4;have hV2:decide (Ag5 e.u≤9000)=decide (V≤9000):=by
  by_cases hh:Ag5 e.u≤9000
  ·rw[decide_eq_true hh,decide_eq_true (by rw[hV,if_pos hh];omega)]
  ·rw[decide_eq_false hh,decide_eq_false (by rw[hV,if_neg hh];omega)]
 rw[hV2] at HF;clear h hV hV2;go_enter Tryz.func37,Tryz.ntmps37
 go_upto_region 1 with(fail)
 generalize hW:World.alloc w _=W;have B1:=Lh (show A6 46 W w.heap.size (A7 e) by rw[←hW];exact A6.new w (A7 e) _);have G:=Lh (show Below w.heap.size w W by rw[←hW];exact ba w _);clear hW;generalize hn1:w.heap.size=n1 at B1 ⊢;clear hn1;have y2:W.cell? ⟨n1,3,none⟩=some (.slice e.s1.a e.s1.l.length e.s1.c):=B1.out.blk.endIn.cell 3 (by decide);have z2:W.cell? ⟨n1,4,none⟩=some (.slice e.s2.a e.s2.l.length e.s2.c):=B1.out.blk.endIn.cell 4 (by decide);go_wp2_with fail
 refine(P1.out _ G.out).mono ?_;rintro x w1 ⟨rfl,hb⟩;replace B1:=Lh (B1.out.up hb);replace G:=Lh (bt G.out hb);clear hb P1 y2 z2;go_wp2_with (refine G6 32 (.tmp 11) rfl ?_;refine D0 32 (.tmp 11) n1 27 (by first | rfl | simp[Region.wanted,yielded]) rfl rfl B1.out.blk.endIn.at_r Tryz.underlying32 rfl SR.out ?_)
 refine(P2.out _).mono ?_;rintro x w2 ⟨rfl,hb⟩;replace B1:=Lh (B1.out.up hb);replace G:=Lh (bt G.out hb);clear hb P2;go_wp2_with (refine G6 42 (.tmp 14) rfl ?_;refine D0 42 (.tmp 14) n1 43 (by first | rfl | simp[Region.wanted,yielded]) rfl rfl B1.out.blk.endIn.at_h Tryz.underlying42 rfl SH.out ?_)
 refine(P3.out _).mono ?_;rintro x w3 ⟨rfl,hb⟩;replace B1:=Lh (B1.out.up hb);replace G:=Lh (bt G.out hb);clear hb P3;go_upto_region 4 with(fail)
 have ck:=B1.out.blk.endIn.k;have cq:=B1.out.blk.endIn.qbody;have cu:=B1.out.blk.endIn.u;have co:=B1.out.blk.endIn.o;have cg:=B1.out.blk.endIn.g;rcases s1 with _ | _
 ·have hR:R=false:=by rw[HF.out];rfl
  subst hR;go_wp2_with fail
  go_ret;exact⟨rfl,G.out⟩
 rcases s2 with _ | _
 ·have hR:R=false:=by rw[HF.out];rfl
  subst hR;go_wp2_with fail
  go_ret;exact⟨rfl,G.out⟩
 rcases s3 with _ | _
 ·have hR:R=false:=by rw[HF.out];rfl
  subst hR;go_wp2_with fail
  go_ret;exact⟨rfl,G.out⟩
 replace HF:=Lh (show R=(decide (e.k.l.length≤100)&&(decide (e.q.body.length≤1000)&&(decide (V≤9000)&&(decide (e.o.length≤20)&&(decide (e.g.length≤40)&&(Ar8 e&&Ar9 e)))))) by rw[HF.out];rfl);by_cases h0:e.k.l.length≤100;rotate_left
 ·have hR:R=false:=by rw[HF.out,decide_eq_false h0];rfl
  subst hR;have hd0:(100:Int)<(e.k.l.length:Int):=by omega
  clear h0;go_wp2_with fail
  go_ret;exact⟨rfl,G.out⟩
 have hd0:¬(100:Int)<(e.k.l.length:Int):=by omega
 replace HF:=Lh (show R=(decide (e.q.body.length≤1000)&&(decide (V≤9000)&&(decide (e.o.length≤20)&&(decide (e.g.length≤40)&&(Ar8 e&&(Ar9 e)))))) by rw[HF.out,decide_eq_true h0];rfl);by_cases h1:e.q.body.length≤1000;rotate_left
 ·have hR:R=false:=by rw[HF.out,decide_eq_false h1];rfl
  subst hR;have hd1:(1000:Int)<(e.q.body.length:Int):=by omega
  clear h1;go_wp2_with fail
  go_ret;exact⟨rfl,G.out⟩
 have hd1:¬(1000:Int)<(e.q.body.length:Int):=by omega
 replace HF:=Lh (show R=(decide (V≤9000)&&(decide (e.o.length≤20)&&(decide (e.g.length≤40)&&(Ar8 e&&(Ar9 e))))) by rw[HF.out,decide_eq_true h1];rfl);by_cases h2:V≤9000;rotate_left
 ·have hR:R=false:=by rw[HF.out,decide_eq_false h2];rfl
  subst hR;have hd2:(9000:Int)<V:=by omega
  clear h2;go_wp2_with fail
  refine(P4.out _ G.out).mono ?_;rintro x w4 ⟨rfl,rfl⟩;go_wp2_with fail
  go_ret;exact⟨rfl,G.out⟩
 have hd2:¬(9000:Int)<V:=by omega
 replace HF:=Lh (show R=(decide (e.o.length≤20)&&(decide (e.g.length≤40)&&(Ar8 e&&(Ar9 e)))) by rw[HF.out,decide_eq_true h2];rfl);by_cases h3:e.o.length≤20;rotate_left
 ·have hR:R=false:=by rw[HF.out,decide_eq_false h3];rfl
  subst hR;have hd3:(20:Int)<(e.o.length:Int):=by omega
  clear h3;go_wp2_with fail
  refine(P4.out _ G.out).mono ?_;rintro x w4 ⟨rfl,rfl⟩;go_wp2_with fail
  go_ret;exact⟨rfl,G.out⟩
 have hd3:¬(20:Int)<(e.o.length:Int):=by omega
 replace HF:=Lh (show R=(decide (e.g.length≤40)&&(Ar8 e&&(Ar9 e))) by rw[HF.out,decide_eq_true h3];rfl);by_cases h4:e.g.length≤40;rotate_left
 ·have hR:R=false:=by rw[HF.out,decide_eq_false h4];rfl
  subst hR;have hd4:(40:Int)<(e.g.length:Int):=by omega
  clear h4;go_wp2_with fail
  refine(P4.out _ G.out).mono ?_;rintro x w4 ⟨rfl,rfl⟩;go_wp2_with fail
  go_ret;exact⟨rfl,G.out⟩
 have hd4:¬(40:Int)<(e.g.length:Int):=by omega
 replace HF:=Lh (show R=(Ar8 e&&(Ar9 e)) by rw[HF.out,decide_eq_true h4];rfl);go_wp2_with fail
 refine(P4.out _ G.out).mono ?_;rintro x w4 ⟨rfl,rfl⟩;go_upto_region 7 with(fail)
 clear ck cq cu hd0 hd1 hd2 hd3 hd4 h0 h1 h2 P4
 go_loopw [6] (fun v wr=>wr=w4∧∃j:Nat,j≤e.o.length∧v=.int .i64 (j:Int)∧∀t,t<j→(e.o.getD t (0,[])).2.length≤1100) (fun v _=>e.o.length-(intOf v).toNat)
 case atStart=>exact⟨rfl,0,Nat.zero_le _,rfl,fun t ht=>absurd ht (by omega)⟩
 case round=>
  obtain⟨rfl,j,hj,rfl,hno⟩:=hrel;have Hno:=Lh hno;clear hno;by_cases hlt:j<e.o.length
  ·obtain⟨g,off,hga,hg,hcs⟩:=(HO.out _ G.out).cell (by omega);obtain⟨p0,c0,x0,x1,-,-,-⟩:=hcs j hlt;have hd1:(j:Int)<(e.o.length:Int):=by omega
   have hd0:(0:Int)≤(j:Int):=by omega
   rw[hga] at co;obtain⟨n0,hn0⟩:∃n,n=(e.o.getD j (0,[])).2.length:=⟨_,rfl⟩;rw[←hn0] at x1;have Hn0:=Lh hn0;clear hcs hn0 x0;by_cases h0:n0≤1100
   ·have hd2:¬(1100:Int)<(n0:Int):=by omega
    go_wp2_with fail
    exact⟨⟨by trivial,j+1,by omega,by go_num,fun t ht=>by
     rcases Nat.lt_or_ge t j with h | h
     ·exact Hno.out t h
     ·rw[show t=j by omega,←Hn0.out];exact h0⟩,by simp[intOf];omega⟩
   ·have hd2:(1100:Int)<(n0:Int):=by omega
    have hRf:R=false:=by
     have hq:Ar8 e=false:=by
      rw[HFo.out,decide_eq_false];intro h;have:=h j hlt;rw[←Hn0.out] at this;omega
     rw[HF.out,hq];rfl
    subst hRf;go_wp2_with fail
    go_ret;exact⟨rfl,G.out⟩
  ·obtain rfl:j=e.o.length:=by omega
   replace HF:=Lh (show R=Ar9 e by rw[HF.out,show Ar8 e=true from by rw[HFo.out,decide_eq_true];exact Hno.out];rfl);clear Hno HFo HO;go_upto_region 12 with(fail)
   go_loopw [7] (fun v wq=>wq=wr∧∃j:Nat,j≤e.g.length∧v=.int .i64 (j:Int)∧∀t,t<j→(e.g.getD t default).b.length≤1000) (fun v _=>e.g.length-(intOf v).toNat)
   case atStart=>exact⟨rfl,0,Nat.zero_le _,rfl,fun t ht=>absurd ht (by omega)⟩
   case round=>
    obtain⟨rfl,j,hj,rfl,hno⟩:=hrel;have Hno:=Lh hno;clear hno;by_cases hlt:j<e.g.length
    ·obtain⟨g,off,hga,hg,hcs⟩:=(HG.out _ G.out).cell (by omega);obtain⟨p0,c0,x0,x1,x2,x3,x4,-,-,-⟩:=hcs j hlt;have hd1:(j:Int)<(e.g.length:Int):=by omega
     have hd0:(0:Int)≤(j:Int):=by omega
     rw[hga] at cg;obtain⟨n0,hn0⟩:∃n,n=(e.g.getD j default).b.length:=⟨_,rfl⟩;rw[←hn0] at x4;have Hn0:=Lh hn0;clear hcs hn0 x0 x1 x2 x3;by_cases h0:n0≤1000
     ·have hd2:¬(1000:Int)<(n0:Int):=by omega
      go_wp2_with fail
      exact⟨⟨by trivial,j+1,by omega,by go_num,fun t ht=>by
       rcases Nat.lt_or_ge t j with h | h
       ·exact Hno.out t h
       ·rw[show t=j by omega,←Hn0.out];exact h0⟩,by simp[intOf];omega⟩
     ·have hd2:(1000:Int)<(n0:Int):=by omega
      have hRf:R=false:=by
       have hq:Ar9 e=false:=by
        rw[HFg.out,decide_eq_false];intro h;have:=h j hlt;rw[←Hn0.out] at this;omega
       rw[HF.out,hq]
      subst hRf;go_wp2_with fail
      go_ret;exact⟨rfl,G.out⟩
    ·obtain rfl:j=e.g.length:=by omega
     have hRt:R=true:=by rw[HF.out,HFg.out,decide_eq_true];exact Hno.out
     subst hRt;go_wp2_with fail
     go_ret;exact⟨rfl,G.out⟩
def Cf9(s:Sv):Bool:=By4 s.e&&(decide (Bw7 s.es 40)&&M4 s.e)
theorem Ds9(s:Sv)(w:World)(h:Ae6 w s):Calls Tryz.prog 13 #[.agg (A4 s).toArray] w (F6 w (Cf9 s)):=by
 have P1:=Lh (fun(W:World) (hb:Below w.heap.size w W)=>Cs3 s.e W (h.e.mono hb));have P2:=Lh (fun(W:World) (hb:Below w.heap.size w W)=>Dd1 s.i s.f s.ta s.tc 40 s.es W (Nat.le_trans h.pl.1 h.pl.2) (by decide) (h.p.mono hb));have P3:=Lh (fun(W:World) (hb:Below w.heap.size w W)=>Cb0 s.e W (h.e.mono hb));have HF:=Lh (show Cf9 s=(By4 s.e&&(decide (Bw7 s.es 40)&&M4 s.e)) from rfl);have SE:=Lh (show ∀E:Ev,(Tryz.prog.info? 46).map (·.size)=some (A7 E).length from fun E=>by rw[F9];exact L9);have SQ:=Lh Ae0;unfold F6 at P1 P2 P3;generalize Cf9 s=R at HF ⊢;generalize By4 s.e=s1 at P1 HF;generalize decide (Bw7 s.es 40)=s2 at P2 HF;generalize M4 s.e=s3 at P3 HF;clear h;go_enter Tryz.func13,Tryz.ntmps13
 go_upto_region 1 with(fail)
 generalize hW:World.alloc w _=W;have B1:=Lh (show A6 51 W w.heap.size (A4 s) by rw[←hW];exact A6.new w (A4 s) _);have G:=Lh (show Below w.heap.size w W by rw[←hW];exact ba w _);clear hW;generalize hn1:w.heap.size=n1 at B1 ⊢;clear hn1;go_wp2_with (refine G6 46 (.tmp 5) rfl ?_;refine D0 46 (.tmp 5) n1 0 (by first | rfl | simp[Region.wanted,yielded]) rfl rfl B1.out.blk.atE Tryz.underlying46 rfl (SE.out _) ?_)
 refine(P1.out _ G.out).mono ?_;rintro x w1 ⟨rfl,hb⟩;replace B1:=Lh (B1.out.up hb);replace G:=Lh (bt G.out hb);clear hb P1;go_wp2_with (refine G6 49 (.tmp 8) rfl ?_;refine D0 49 (.tmp 8) n1 70 (by first | rfl | simp[Region.wanted,yielded]) rfl rfl B1.out.blk.atP Tryz.underlying49 rfl SQ.out ?_)
 refine(P2.out _ G.out).mono ?_;rintro x w2 ⟨rfl,hb⟩;replace B1:=Lh (B1.out.up hb);replace G:=Lh (bt G.out hb);clear hb P2;rcases s1 with _ | _
 ·have hR:R=false:=by rw[HF.out];rfl
  subst hR;go_wp2_with fail
  go_ret;exact⟨rfl,G.out⟩
 rcases s2 with _ | _
 ·have hR:R=false:=by rw[HF.out];rfl
  subst hR;go_wp2_with fail
  go_ret;exact⟨rfl,G.out⟩
 have hR:R=s3:=by rw[HF.out];rfl
 subst hR;go_wp2_with (refine G6 46 (.tmp 16) rfl ?_;refine D0 46 (.tmp 16) n1 0 (by first | rfl | simp[Region.wanted,yielded]) rfl rfl B1.out.blk.atE Tryz.underlying46 rfl (SE.out _) ?_)
 refine(P3.out _ G.out).mono ?_;rintro x w3 ⟨rfl,hb⟩;go_wp2_with fail
 go_ret;exact⟨rfl,bt G.out hb⟩
theorem Cs4{k d e0 e1 g q:Nat}{bl t:List UInt8}(h:Ak6 k d e0 e1 g q bl.length)(ht:t.length=16):okR (inF k d e0 e1 g q bl++t)∧pdF (inF k d e0 e1 g q bl++t)=⟨k,d,e0,e1,g,q,bl,t⟩:=by
 obtain⟨q1,q2,q3,q4,q5,q6⟩:=h.nums bl t _ rfl;obtain⟨b1,b2,b3⟩:=Co6 k d e0 e1 g q bl t ht;refine⟨⟨?_,h.good t ht⟩,?_⟩
 ·rw[b3];have h1:=h.n1;have h2:=h.n2;omega
 ·unfold pdF;rw[q1,q2,q3,q4,q5,q6,b1,b2]
def Am1:List UInt8:=List.replicate 32 0
theorem Bn9:Am1.length=32:=by kernel_rfl
abbrev exR(b:Option Addr)(cb:Nat):Rg:=⟨⟨1,b,32,cb⟩,G0,G0,0,1⟩
def exE(k s1 s2:Sl)(r:Rg)(kc:List UInt8)(h:Hv):Ev:=
 {id:=0,k:=k,ph:=3,s1:=s1,s2:=s2,pw:=-1,own:=3,oth:=4,seen:=4,seq:=0,wt:=0,wb:=J5,r:=r,kc:=kc,ko:=[],kp:=[],q:=⟨0,0,0,0,[]⟩,qa:=none,qc:=0,stan:=0,day:=0,ua:=none,uc:=0,u:=[],h:=h,hs:=Eo0,oa:=none,oc:=0,o:=[],ga:=none,gc:=0,g:=[],c0:=0,c1:=0,c2:=0,c3:=0}
def twE(e:Ev):Ev:={e with id:=1,own:=4,oth:=3}
def M8:Hv:=(Bf4 T7 0).1
theorem Dt0:Bf4 T7 0=(M8,0):=Prod.ext rfl (by kernel_rfl)
theorem Ev5:Ae2 M8=some 0:=by kernel_rfl
section
variable {k s1 s2:Sl} {b:Option Addr} {cb:Nat} {K:List UInt8}
theorem Bj0{e:Ev}(h1:Bf9 e=true)(h2:Ag6 e.s1.l e.s2.l=true)(h3:Ay6 e=true)(h4:Ak9 e=true)(h5:Ah9 e.q=true)(h6:Q7 e.h e.hs=true)(h7:e.k.l.length=32)(h8:Z6 e=true)(h9:U5 e=true):M4 e=true:=by
 unfold M4 Ar1;rw[h1,h2,h3,h4,h5,h6,h7,h8,h9];rfl
theorem Bo0(h1:s1.l=At6 1)(h2:s2.l=Ao1):Ag6 s1.l s2.l=true:=Dc6.2 ⟨by rw[h1,Bw4],by rw[h2];rfl⟩
theorem Cg0(e:Ev)(h:e.wt=0)(hb:e.wb=J5):Ay6 e=true:=by
 unfold Ay6;rw[h,hb,decide_eq_true_eq];exact⟨⟨by decide,by decide⟩,fun p _ _=>Af2 p,.inl rfl⟩
theorem Cj0(hk:k.l=Am1)(h1:s1.l=At6 1)(h2:s2.l=Ao1):M4 (exE k s1 s2 (exR b cb) K M8)=true:=
 Bj0 (by kernel_rfl) (Bo0 h1 h2) (Cg0 _ rfl rfl) (by kernel_rfl) (by kernel_rfl) (by kernel_rfl) (by show k.l.length=32;rw[hk,Bn9]) (by kernel_rfl) (by kernel_rfl)
theorem Ef7(hk:k.l=Am1)(h1:s1.l=At6 1)(h2:s2.l=Ao1):M4 (twE (exE k s1 s2 (exR b cb) K M8))=true:=
 Bj0 (by kernel_rfl) (Bo0 h1 h2) (Cg0 _ rfl rfl) (by kernel_rfl) (by kernel_rfl) (by kernel_rfl) (by show k.l.length=32;rw[hk,Bn9]) (by kernel_rfl) (by kernel_rfl)
def exI:List UInt8:=inF 2 0 3 4 1 0 [7]
def exX(K:List UInt8):List UInt8:=exI++Z5 K exI
theorem Cy5:Ak6 2 0 3 4 1 0 [(7:UInt8)].length:=by constructor<;>decide
theorem Ef8:okR (exX K):=(Cs4 Cy5 (Ak7 K exI)).1
theorem Ao4:pdF (exX K)=⟨2,0,3,4,1,0,[7],Z5 K exI⟩:=(Cs4 Cy5 (Ak7 K exI)).2
def exT(e:Ev)(f:Bool)(ta:Option Addr)(tc:Nat)(K:List UInt8):Sv:=⟨e,true,f,ta,tc,Ap7 [] K exI⟩
theorem Fg9(e:Ev)(f:Bool)(ta:Option Addr)(tc:Nat)(hk:Ap4 e (pdF (exX K))=K):Al8 (exT e f ta tc K) (pdF (exX K))=true:=by
 unfold Al8;show Bw6 true (Ap7 [] K exI) (Ap4 e (pdF (exX K))) (inT (pdF (exX K))) (pdF (exX K)).t=true;rw[hk,Ao4];exact Bm8 true _ K exI (Bq3 [] K exI)
theorem Er4(f:Bool)(ta:Option Addr)(tc:Nat):X6 (exT (twE (exE k s1 s2 (exR b cb) K M8)) f ta tc K) (exX K)=(Bd9 (Aa7 (exT (twE (exE k s1 s2 (exR b cb) K M8)) f ta tc K) (pdF (exX K))) (pdF (exX K)),0):=by
 have hw:=By0 (exT (twE (exE k s1 s2 (exR b cb) K M8)) f ta tc K) (exX K) _ rfl;have hy:=Fg9 (K:=K) (twE (exE k s1 s2 (exR b cb) K M8)) f ta tc (by rw[Ao4];kernel_rfl);have hs:U0 (twE (exE k s1 s2 (exR b cb) K M8)) (pdF (exX K)).k (pdF (exX K)).d (pdF (exX K)).e0 (pdF (exX K)).e1 (pdF (exX K)).g=false:=by rw[Ao4];kernel_rfl
 exact hw.gone Ef8 hs hy (by rw[Ao4];rfl) (by rw[Ao4];kernel_rfl)
def Am2(k s1 s2:Sl)(b:Option Addr)(cb:Nat)(K:List UInt8)(f:Bool)(ta:Option Addr)(tc:Nat):Sv:=Bd9 (Aa7 (exT (twE (exE k s1 s2 (exR b cb) K M8)) f ta tc K) (pdF (exX K))) (pdF (exX K))
theorem Fa2:decide (V7 (R7 0 J5 0).1 (R7 0 J5 0).2.1)=true:=by kernel_rfl
theorem Br4(f:Bool)(ta:Option Addr)(tc:Nat):(Am2 k s1 s2 b cb K f ta tc).e=(twE (exE k s1 s2 (exR b cb) K M8)).l_w (R7 0 J5 0).1 (R7 0 J5 0).2.1:=by
 unfold Am2;rw[Ao4];kernel_rfl
theorem Dt1(hk:k.l=Am1)(h1:s1.l=At6 1)(h2:s2.l=Ao1)(f:Bool)(ta:Option Addr)(tc:Nat):M4 (Am2 k s1 s2 b cb K f ta tc).e=true:=by
 rw[Br4];exact Bj0 (by kernel_rfl) (Bo0 h1 h2) Fa2 (by kernel_rfl) (by kernel_rfl) (by kernel_rfl) (by show k.l.length=32;rw[hk,Bn9]) (by kernel_rfl) (by kernel_rfl)
theorem Cs5(f:Bool)(ta:Option Addr)(tc:Nat):(Am2 k s1 s2 b cb K f ta tc).i=true∧(Am2 k s1 s2 b cb K f ta tc).es=Ap7 [] K exI:=by
 unfold Am2;rw[Ao4];exact⟨by kernel_rfl,rfl⟩
theorem Er5(f:Bool)(ta:Option Addr)(tc:Nat):∃S:Sv,X6 (Am2 k s1 s2 b cb K f ta tc) (exX K)=(S,6)∧S.e.c2=1:=by
 have hw:=By0 (Am2 k s1 s2 b cb K f ta tc) (exX K) _ rfl;have hy:Al8 (Am2 k s1 s2 b cb K f ta tc) (pdF (exX K))=true:=by
  unfold Al8;rw[(Cs5 f ta tc).1,(Cs5 f ta tc).2,Br4,Ao4];exact Bm8 true _ K exI (Bq3 [] K exI)
 have hs:U0 (Am2 k s1 s2 b cb K f ta tc).e (pdF (exX K)).k (pdF (exX K)).d (pdF (exX K)).e0 (pdF (exX K)).e1 (pdF (exX K)).g=false:=by rw[Br4,Ao4];kernel_rfl
 refine⟨_,hw.old Ef8 hs hy (by rw[Ao4];rfl) (by rw[Br4,Ao4];kernel_rfl),?_⟩;show wrap64 ((Am2 k s1 s2 b cb K f ta tc).e.c2+1)=1;rw[Br4];kernel_rfl
theorem Cy6(a:Option Addr)(c:Nat):Ay7 (exE k s1 s2 (exR b cb) K M8) 0 a c=Bl0 (De8 (exE k s1 s2 (exR b cb) K M8) a c ⟨5,3,4,0,[]⟩) 0:=by kernel_rfl
theorem Ef9(hk:k.l=Am1)(h1:s1.l=At6 1)(h2:s2.l=Ao1)(a:Option Addr)(c:Nat):M4 (Ay7 (exE k s1 s2 (exR b cb) K M8) 0 a c)=true:=by
 rw[Cy6];exact Bj0 (by kernel_rfl) (Bo0 h1 h2) (Cg0 _ rfl rfl) (by kernel_rfl) (by kernel_rfl) (by kernel_rfl) (by show k.l.length=32;rw[hk,Bn9]) (by kernel_rfl) (by kernel_rfl)
theorem Fa3(a:Option Addr)(c:Nat):(Ay7 (exE k s1 s2 (exR b cb) K M8) 0 a c).g.length=1∧(Ay7 (exE k s1 s2 (exR b cb) K M8) 0 a c).o=[]∧Q3 (Ay7 (exE k s1 s2 (exR b cb) K M8) 0 a c).ph=false∧Ae2 (Ay7 (exE k s1 s2 (exR b cb) K M8) 0 a c).h=some 0:=by
 rw[Cy6];exact⟨rfl,rfl,by kernel_rfl,by kernel_rfl⟩
end
def Bl3:Ev:=
 {id:=0,k:=⟨none,0,[]⟩,ph:=0,s1:=⟨none,0,[]⟩,s2:=⟨none,0,[]⟩,pw:=0,own:=0,oth:=0,seen:=0,seq:=0,wt:=0,wb:=J5,r:=R0,kc:=[],ko:=[],kp:=[],q:=⟨0,0,0,0,[]⟩,qa:=none,qc:=0,stan:=0,day:=0,ua:=none,uc:=0,u:=[],h:=T7,hs:=Eo0,oa:=none,oc:=0,o:=[],ga:=none,gc:=0,g:=[],c0:=0,c1:=0,c2:=0,c3:=0}
theorem Cs6:M4 Bl3=false:=by
 unfold M4;rw[show(Bl3.k.l.length==32)=false by kernel_rfl];simp
theorem Eg0(w:World):Ab8 w Bl3:=
 ⟨⟨.inl rfl,Nat.le_refl _,Nat.zero_le _⟩,⟨.inl rfl,Nat.le_refl _,Nat.zero_le _⟩,⟨.inl rfl,Nat.le_refl _,Nat.zero_le _⟩,Bx7 w,⟨Nat.le_refl _,Nat.zero_le _⟩,⟨Nat.le_refl _,Nat.zero_le _⟩,⟨Nat.le_refl _,Nat.zero_le _⟩,.inl rfl,⟨Nat.le_refl _,Nat.zero_le _⟩,Ah1.at (Ah1.nil (fun _=>True) w _),⟨Nat.le_refl _,Nat.zero_le _⟩,Ev1 T7 w (fun i hi=>rfl),fun i hi=>Nat.zero_le _,Ab3.nil w _,⟨Nat.le_refl _,Nat.zero_le _⟩,Ae5.nil w _,⟨Nat.le_refl _,Nat.zero_le _⟩,by decide⟩
theorem Fa4(w:World):(Instr.build 42 #[]).run Tryz.prog w=.ok (.agg T7.L.toArray) w:=by kernel_rfl
theorem Fo6(w:World):(Instr.makeSlice 22 (.int .i64 32) (.int .i64 32)).run Tryz.prog w=.ok (.slice (some ⟨w.heap.size,0,none⟩) 32 32) (w.alloc (.cells (B8s Am1).toArray 5)):=Bk2 V3 w .i64 .i64 32 (by decide) (by decide) rfl
theorem Cy7(w:World):(Instr.build 63 #[(0,.int .i64 3),(1,.int .i64 4)]).run Tryz.prog w=.ok (.agg #[.int .i64 3,.int .i64 4]) w:=by kernel_rfl
theorem Eg1:∀w,(Instr.alloc 46 true (.tuple #[])).run Tryz.prog w=.ok (.pointer (some ⟨w.heap.size,0,none⟩)) (w.alloc (.cells X5.toArray 46)):=fun w=>by kernel_rfl
structure At4 (w:World) (s t:Sl) (l m:List UInt8):Prop where
 h1:Aq9 w s
 h2:Aq9 w t
 e1:s.l=l
 e2:t.l=m
theorem At4.up{w w':World}{s t:Sl}{l m:List UInt8}(h:At4 w s t l m)(hb:Below w.heap.size w w'):At4 w' s t l m:=⟨h.h1.mono hb,h.h2.mono hb,h.e1,h.e2⟩
theorem At4.k8{w w':World}{b:Nat}{s t:Sl}{l m:List UInt8}(h:At4 w s t l m)(k:K8 b w w'):At4 w' s t l m:=⟨Aq9.k8 h.h1 k,Aq9.k8 h.h2 k,h.e1,h.e2⟩
theorem Cw4(w:World):Calls Tryz.prog 120 #[] w fun x w'=>∃s t:Sl,x=.returned (.agg #[.slice s.a s.l.length s.c,.slice t.a t.l.length t.c])∧At4 w' s t (At6 1) Ao1∧Below w.heap.size w w':=
 (Cp0 w).mono fun x w' h=>by
   obtain⟨v,h1,⟨a,c,b,d,h2,h3,h4,h5,h6⟩,hb⟩:=h;exact⟨⟨a,c,At6 1⟩,⟨b,d,Ao1⟩,by rw[h1,h2],⟨⟨h5,h3.1,h3.2⟩,⟨h6,h4.1,h4.2⟩,rfl,rfl⟩,hb⟩
noncomputable def tw4:{ops:Array Oper//(Tryz.f52.body.bind (K7 4))=some (.region 4 ops true)}:=⟨_,rfl⟩
abbrev Az2:List Nat:=[22,23,24,25,26,7]
theorem Eg2:opx tw4.1 1=some (.call {callee:=.value (.func 120),args:=#[],argTypes:=#[]},some 23,none):=by kernel_rfl
theorem Eg3:opx tw4.1 5=some (.alloc 46,some 7,none):=by kernel_rfl
theorem Fh0:opx tw4.1 6=some (.store 46 (.tmp 7) (.tmp 26),none,none):=by kernel_rfl
theorem Fa5{kk:Sl}{rg:Rg}{kc:List UInt8}{hv:Hv}{L1 L2:List UInt8}{n3 n5:Nat}{a:Act}{w:World}{Q:Exit→Act→World→Prop}(hsz:33≤a.tmps.size)
 (e2:a.tmps.getD 2 undef=.slice kk.a kk.l.length kk.c) (e3:a.tmps.getD 3 undef=.pointer (some ⟨n3,0,none⟩)) (e5:a.tmps.getD 5 undef=.pointer (some ⟨n5,0,none⟩))
 (hP:∀c a d v w,Q (.panic c) (Act.put a d v) w→Q (.panic c) a w) (B3:A6 32 w n3 rg.L) (B5:A6 42 w n5 hv.L)
 (HN:∀u,Calls Tryz.prog 120 #[] u fun x w'=>∃s1_ s2_,x=.returned (.agg #[.slice s1_.a s1_.l.length s1_.c,.slice s2_.a s2_.l.length s2_.c])∧At4 w' s1_ s2_ L1 L2∧Below u.heap.size u w')
 (hQ:∀{x22 x23 x24 x25 x26} z s1_ s2_ w',At4 w' s1_ s2_ L1 L2→A6 46 w' z (A7 (exE kk s1_ s2_ rg kc hv))→w.heap.size≤z→Below w.heap.size w w'→Q .normal (C4 a Az2 [x22,x23,x24,x25,x26,.pointer (some ⟨z,0,none⟩)]) w'):
 (Code.region 4 tw4.1 true).wp Tryz.prog Q a w:=by
 have rG:Rgn tw4.1 Az2 a Q:=⟨fun k hk=>Nat.lt_of_lt_of_le ((by decide:∀k∈Az2,k<33) k hk) hsz,by kernel_rfl,hP⟩;have hb:=rG.b;obtain⟨i,h0⟩:=S5 a Az2;let S:World→Prop:=fun w'=>A6 32 w' n3 rg.L∧A6 42 w' n5 hv.L;refine wp_region_held_drew (S:=S) (by kernel_rfl) (⟨B3.up (bd _),B5.up (bd _)⟩) fun hHeld=>?_;have N1_5_6:∀(u:World) (s1_:Sl) (s2_:Sl) (z:Nat) (G:Below w.heap.size w u) (ST:At4 u s1_ s2_ L1 L2) (B7:A6 46 u z (A7 (exE kk s1_ s2_ rg kc hv))) (Lz:w.heap.size≤z),wpAnyH Tryz.prog .any tw4.1 Q S 0 (lm 7 127) (C4 a Az2 [.slice kk.a kk.l.length kk.c,.agg #[.slice s1_.a s1_.l.length s1_.c,.slice s2_.a s2_.l.length s2_.c],.agg (rg.L).toArray,.agg (hv.L).toArray,.agg (A7 (exE kk s1_ s2_ rg kc hv)).toArray,pt z 0]) u:=by
  intro u s1_ s2_ z G ST B7 Lz;refine Q0 ?_;exact hQ _ _ _ _ ST B7 Lz G
 have N1_5:∀(u:World) (s1_:Sl) (s2_:Sl) (z:Nat) (G:Below w.heap.size w u) (ST:At4 u s1_ s2_ L1 L2) (Z:A6 46 u z X5) (Lz:w.heap.size≤z),wpAnyH Tryz.prog .any tw4.1 Q S 1 (lm 7 63) (C4 a Az2 [.slice kk.a kk.l.length kk.c,.agg #[.slice s1_.a s1_.l.length s1_.c,.slice s2_.a s2_.l.length s2_.c],.agg (rg.L).toArray,.agg (hv.L).toArray,.agg (A7 (exE kk s1_ s2_ rg kc hv)).toArray,pt z 0]) u:=by
  intro u s1_ s2_ z G ST Z Lz;refine C8 [6] (C6 rG Fh0 ?_ AllReadyH.nil);intro o hp hd;refine T4 46 (.tmp 7) (.tmp 26) hp z (cs:=A7 (exE kk s1_ s2_ rg kc hv)) rG.ev rG.ev Z (by rw[F9];exact L9) (by rw[Ac1,F9]) (Ad6 _) ?_;exact V4 rG [] hd ⟨(B3.up G).rowOther z (Nat.ne_of_lt (Nat.lt_of_lt_of_le B3.blk.lt Lz)) _,(B5.up G).rowOther z (Nat.ne_of_lt (Nat.lt_of_lt_of_le B5.blk.lt Lz)) _⟩ trivial (N1_5_6 _ _ _ _ (D7 G Lz _) (ST.k8 (Z.k8 (by rfl) ((Kp.refl _ _).row _))) (Z.row _) Lz)
 have N1:∀(u:World) (s1_:Sl) (s2_:Sl) (G:Below w.heap.size w u) (ST:At4 u s1_ s2_ L1 L2),wpAnyH Tryz.prog .any tw4.1 Q S 2 (lm 7 31) (C4 a Az2 [.slice kk.a kk.l.length kk.c,.agg #[.slice s1_.a s1_.l.length s1_.c,.slice s2_.a s2_.l.length s2_.c],.agg (rg.L).toArray,.agg (hv.L).toArray,.agg (A7 (exE kk s1_ s2_ rg kc hv)).toArray,i 7]) u:=by
  intro u s1_ s2_ G ST;refine C8 [5] (C6 rG Eg3 ?_ AllReadyH.nil);intro o hp hd;refine I3 46 hp Eg1 ?_;exact F2 rG [] hd ⟨B3.up (bt G (ba _ _)),B5.up (bt G (ba _ _))⟩ trivial (N1_5 _ _ _ _ (bt G (ba _ _)) (ST.up (ba _ _)) (A6.new u X5 _) G.size)
 have N5:∀(u:World) (z:Nat) (G:Below w.heap.size w u) (Z:A6 46 u z X5) (Lz:w.heap.size≤z),wpAnyH Tryz.prog .any tw4.1 Q S 3 (lm 7 45) (C4 a Az2 [.slice kk.a kk.l.length kk.c,i 23,.agg (rg.L).toArray,.agg (hv.L).toArray,i 26,pt z 0]) u:=by
  intro u z G Z Lz;refine C8 [1] (C6 rG Eg2 ?_ AllReadyH.nil);intro o hp hd;refine J1 hp (by simp only[List.map_toArray,List.map_nil]) (HN u) ?_;rintro x u1 ⟨s1_,s2_,rfl,hst,hb1⟩;refine⟨_,rfl,?_⟩;exact F2 rG [(4,26,.agg (A7 (exE kk s1_ s2_ rg kc hv)).toArray)] hd ⟨B3.up (bt G hb1),B5.up (bt G hb1)⟩ ⟨Ah8 #[(1,.slice kk.a kk.l.length kk.c),(2,i6 3),(3,.agg #[.slice s1_.a s1_.l.length s1_.c,.slice s2_.a s2_.l.length s2_.c]),(4,i6 (-1)),(5,i6 3),(6,i6 4),(7,i6 4),(10,.agg (rg.L).toArray),(15,.agg (hv.L).toArray)] rfl,trivial⟩ (N1_5 _ _ _ _ (bt G hb1) hst (Z.up hb1) Lz)
 have N0:∀(u:World) (G:Below w.heap.size w u),wpAnyH Tryz.prog .any tw4.1 Q S 4 (lm 7 13) (C4 a Az2 [.slice kk.a kk.l.length kk.c,i 23,.agg (rg.L).toArray,.agg (hv.L).toArray,i 26,i 7]) u:=by
  intro u G;refine C8 [1,5] (C6 rG Eg2 ?_ (C6 rG Eg3 ?_ AllReadyH.nil))
  ·intro o hp hd;refine J1 hp (by simp only[List.map_toArray,List.map_nil]) (HN u) ?_;rintro x u1 ⟨s1_,s2_,rfl,hst,hb1⟩;refine⟨_,rfl,?_⟩;exact F2 rG [(4,26,.agg (A7 (exE kk s1_ s2_ rg kc hv)).toArray)] hd ⟨B3.up (bt G hb1),B5.up (bt G hb1)⟩ ⟨Ah8 #[(1,.slice kk.a kk.l.length kk.c),(2,i6 3),(3,.agg #[.slice s1_.a s1_.l.length s1_.c,.slice s2_.a s2_.l.length s2_.c]),(4,i6 (-1)),(5,i6 3),(6,i6 4),(7,i6 4),(10,.agg (rg.L).toArray),(15,.agg (hv.L).toArray)] rfl,trivial⟩ (N1 _ _ _ (bt G hb1) hst)
  intro o hp hd;refine I3 46 hp Eg1 ?_;exact F2 rG [] hd ⟨B3.up (bt G (ba _ _)),B5.up (bt G (ba _ _))⟩ trivial (N5 _ _ (bt G (ba _ _)) (A6.new u X5 _) G.size)
 exact J8 7 rG [(0,22,.slice kk.a kk.l.length kk.c),(2,24,.agg (rg.L).toArray),(3,25,.agg (hv.L).toArray)] h0 ⟨B3.up (bd _),B5.up (bd _)⟩ ⟨A9 rfl e2,O1 (cs:=rg.L) rfl (fun w hw=>hw.1.atAll) Aa6 e3,O1 (cs:=hv.L) rfl (fun w hw=>hw.2.atAll) (by kernel_rfl) e5,trivial⟩ (N0 _  (bd w))
noncomputable def tw9:{ops:Array Oper//(Tryz.f52.body.bind (K7 9))=some (.region 9 ops true)}:=⟨_,rfl⟩
abbrev Bg7:List Nat:=[31,32]
theorem Fh1:opx tw9.1 2=some (.store 46 (.tmp 0) (.tmp 31),none,none):=by kernel_rfl
theorem Fh2:opx tw9.1 3=some (.store 46 (.tmp 1) (.tmp 32),none,none):=by kernel_rfl
theorem Fa6{A B:Ev}{n0 n1 n7 n8:Nat}{w0:World}{a:Act}{w:World}{Q:Exit→Act→World→Prop}(hsz:33≤a.tmps.size)
 (e0:a.tmps.getD 0 undef=.pointer (some ⟨n0,0,none⟩)) (e1:a.tmps.getD 1 undef=.pointer (some ⟨n1,0,none⟩)) (e7:a.tmps.getD 7 undef=.pointer (some ⟨n7,0,none⟩)) (e8:a.tmps.getD 8 undef=.pointer (some ⟨n8,0,none⟩))
 (hP:∀c a d v w,Q (.panic c) (Act.put a d v) w→Q (.panic c) a w) (B0:A6 46 w n0 X5) (B1:A6 46 w n1 X5) (B7:A6 46 w n7 (A7 A)) (B8:A6 46 w n8 (A7 B))
 (N01:n0≠n1) (N07:n0≠n7) (N08:n0≠n8) (N17:n1≠n7) (N18:n1≠n8) (L0:w0.heap.size≤n0) (L1:w0.heap.size≤n1) (G:Below w0.heap.size w0 w) (EA:W8 (fun _=>False) w A)
 (hQ:∀{x31 x32} w',A6 46 w' n0 (A7 A)→A6 46 w' n1 (A7 B)→W8 (fun _=>False) w' A→Below w0.heap.size w0 w'→Q .normal (C4 a Bg7 [x31,x32]) w'):
 (Code.region 9 tw9.1 true).wp Tryz.prog Q a w:=by
 have rG:Rgn tw9.1 Bg7 a Q:=⟨fun k hk=>Nat.lt_of_lt_of_le ((by decide:∀k∈Bg7,k<33) k hk) hsz,by kernel_rfl,hP⟩;have hb:=rG.b;obtain⟨i,h0⟩:=S5 a Bg7;let S:World→Prop:=fun w'=>A6 46 w' n7 (A7 A)∧A6 46 w' n8 (A7 B);refine wp_region_held_drew (S:=S) (by kernel_rfl) (⟨B7.up (bd _),B8.up (bd _)⟩) fun hHeld=>?_;have N2_3:∀(u:World) (G:Below w0.heap.size w0 u) (S2:A6 46 u n7 (A7 A)∧A6 46 u n8 (A7 B)) (B0:A6 46 u n0 (A7 A)) (B1:A6 46 u n1 (A7 B)) (EA:W8 (fun _=>False) u A),wpAnyH Tryz.prog .any tw9.1 Q S 0 (lm 4 15) (C4 a Bg7 [.agg (A7 A).toArray,.agg (A7 B).toArray]) u:=by
  intro u G S2 B0 B1 EA;refine Q0 ?_;exact hQ _ B0 B1 EA G
 have N2:∀(u:World) (G:Below w0.heap.size w0 u) (S2:A6 46 u n7 (A7 A)∧A6 46 u n8 (A7 B)) (B0:A6 46 u n0 (A7 A)) (B1:A6 46 u n1 X5) (EA:W8 (fun _=>False) u A),wpAnyH Tryz.prog .any tw9.1 Q S 1 (lm 4 7) (C4 a Bg7 [.agg (A7 A).toArray,.agg (A7 B).toArray]) u:=by
  intro u G S2 B0 B1 EA;refine C8 [3] (C6 rG Fh2 ?_ AllReadyH.nil);intro o hp hd;refine T4 46 (.tmp 1) (.tmp 32) hp n1 (rG.ev e1) rG.ev B1 (by rw[F9];exact L9) (by rw[Ac1,F9]) (Ad6 _) ?_;exact V4 rG [] hd ⟨S2.1.kp ((Kp.refl n1 u).row _) N17.symm,S2.2.kp ((Kp.refl n1 u).row _) N18.symm⟩ trivial (N2_3 _  (((Kp.refl n1 u).row _).below G L1) ⟨S2.1.kp ((Kp.refl n1 u).row _) N17.symm,S2.2.kp ((Kp.refl n1 u).row _) N18.symm⟩ (B0.kp ((Kp.refl n1 u).row _) N01) (B1.row _) (EA.k8 (B1.k8 (by rfl) ((Kp.refl n1 u).row _)) fun g hg=>hg.elim))
 have N0:∀(u:World) (G:Below w0.heap.size w0 u) (S2:A6 46 u n7 (A7 A)∧A6 46 u n8 (A7 B)) (B0:A6 46 u n0 X5) (B1:A6 46 u n1 X5) (EA:W8 (fun _=>False) u A),wpAnyH Tryz.prog .any tw9.1 Q S 2 (lm 4 3) (C4 a Bg7 [.agg (A7 A).toArray,.agg (A7 B).toArray]) u:=by
  intro u G S2 B0 B1 EA;refine C8 [2] (C6 rG Fh1 ?_ AllReadyH.nil);intro o hp hd;refine T4 46 (.tmp 0) (.tmp 31) hp n0 (rG.ev e0) rG.ev B0 (by rw[F9];exact L9) (by rw[Ac1,F9]) (Ad6 _) ?_;exact V4 rG [] hd ⟨S2.1.kp ((Kp.refl n0 u).row _) N07.symm,S2.2.kp ((Kp.refl n0 u).row _) N08.symm⟩ trivial (N2 _  (((Kp.refl n0 u).row _).below G L0) ⟨S2.1.kp ((Kp.refl n0 u).row _) N07.symm,S2.2.kp ((Kp.refl n0 u).row _) N08.symm⟩ (B0.row _) (B1.kp ((Kp.refl n0 u).row _) N01.symm) (EA.k8 (B0.k8 (by rfl) ((Kp.refl n0 u).row _)) fun g hg=>hg.elim))
 exact J8 4 rG [(0,31,.agg (A7 A).toArray),(1,32,.agg (A7 B).toArray)] h0 ⟨B7.up (bd _),B8.up (bd _)⟩ ⟨O1 (cs:=A7 A) rfl (fun w hw=>hw.1.atAll) (by rw[F9];exact L9) e7,O1 (cs:=A7 B) rfl (fun w hw=>hw.2.atAll) (by rw[F9];exact L9) e8,trivial⟩ (N0 _  (bt G (bd _)) ⟨B7.up (bd _),B8.up (bd _)⟩ (B0.up (bd _)) (B1.up (bd _)) (EA.mono (bd _)))
theorem Dt2{P:Program}{fn:Func}{p r:Tmp}{ty tz:TypeId}(h:fn.results=#[.cell p ty,.cell r tz])(tmps:Array Value)(w:World)(g g2:Nat){cs ds:List Value}{d d2:TypeDesc}
 (hp:tmps.getD p undef=.pointer (some ⟨g,0,none⟩)) (hp2:tmps.getD r undef=.pointer (some ⟨g2,0,none⟩)) (hb:Blk w g cs) (hu:P.underlying ty=some d) (hd:(match d with | .struct _ | .array _ _=>true | _=>false)=true) (hi:(P.info? ty).map (·.size)=some cs.length)
 (hb2:Blk w g2 ds) (hu2:P.underlying tz=some d2) (hd2:(match d2 with | .struct _ | .array _ _=>true | _=>false)=true) (hi2:(P.info? tz).map (·.size)=some ds.length):
 (results fn tmps).run P w=.ok (.tuple #[.agg cs.toArray,.agg ds.toArray]) w:=by
 obtain⟨T,hg⟩:=hb;obtain⟨T2,hg2⟩:=hb2;have h1:=run_loadVar_row (P:=P) w g T ty cs.toArray _ d hg hu hd (by simpa using hi);have h2:=run_loadVar_row (P:=P) w g2 T2 tz ds.toArray _ d2 hg2 hu2 hd2 (by simpa using hi2);have e:(results fn tmps).run P w=((asAddr (tmps.getD p undef)).run P w).andThen fun a w₁=>((loadVar ty a).run P w₁).andThen fun v' w₂=>((asAddr (tmps.getD r undef)).run P w₂).andThen fun a2 w₃=>((loadVar tz a2).run P w₃).andThen fun v3 w₄=>.ok (.tuple #[v',v3]) w₄:=by
  simp only[results,h];simp[Sem.run_bind,Result.andThen]
 rw[e,hp,hp2];simp[asAddr,h1,h2]
def Fm8(w:World)(x:Ending)(w':World):Prop:=
 ∃k s1 s2 b cb,x=.returned (.tuple #[.agg (A7 (exE k s1 s2 ⟨⟨1,b,32,cb⟩,G0,G0,0,1⟩ (Bf7 Am1 3 4 1 []) M8)).toArray,.agg (A7 (twE (exE k s1 s2 ⟨⟨1,b,32,cb⟩,G0,G0,0,1⟩ (Bf7 Am1 3 4 1 []) M8))).toArray])∧
  W8 (fun _=>False) w' (exE k s1 s2 ⟨⟨1,b,32,cb⟩,G0,G0,0,1⟩ (Bf7 Am1 3 4 1 []) M8)∧k.l=Am1∧s1.l=At6 1∧s2.l=Ao1∧Below w.heap.size w w'
theorem Fh3{w:World}{k s1 s2:Sl}{b:Option Addr}{cb:Nat}{K:List UInt8}(hk:Aq9 w k)(hs:At4 w s1 s2 (At6 1) Ao1)(hb:A5 w b K)(hKl:K.length=32)(hc:32≤cb∧cb≤maxLen):W8 (fun _=>False) w (exE k s1 s2 ⟨⟨1,b,32,cb⟩,G0,G0,0,1⟩ K M8):=
 ⟨hk,hs.h1,hs.h2,⟨hKl.symm,hb,rfl,.inl rfl,rfl,.inl rfl⟩,hc,⟨Nat.le_refl _,Nat.zero_le _⟩,⟨Nat.le_refl _,Nat.zero_le _⟩,.inl rfl,⟨Nat.le_refl _,Nat.zero_le _⟩,Ah1.nil _ w _,⟨Nat.le_refl _,Nat.zero_le _⟩,Ev1 M8 w (by
   intro i hi;rcases(by omega:i=0∨i=1∨i=2∨i=3) with rfl | rfl | rfl | rfl<;>kernel_rfl),fun i hi=>by
   rcases(by omega:i=0∨i=1∨i=2∨i=3) with rfl | rfl | rfl | rfl<;>exact Nat.zero_le _,⟨[],rfl,.inl rfl,fun i hi=>absurd hi (Nat.not_lt_zero i)⟩,⟨Nat.le_refl _,Nat.zero_le _⟩,⟨[],rfl,.inl rfl,fun i hi=>absurd hi (Nat.not_lt_zero i)⟩,⟨Nat.le_refl _,Nat.zero_le _⟩,(by decide:(-9223372036854775808:Int)≤0∧(0:Int)≤9223372036854775807)⟩
theorem Eg4(w:World):Calls Tryz.prog 52 #[] w (Fm8 w):=by
 have HK:=Lh (fun(W:World) (a:Option Addr) (ha:A5 W a Am1)=>(show Calls Tryz.prog 47 #[.slice a 32 32,.agg #[.int .i64 3,.int .i64 4],.int .i64 1,.slice none 0 0] W (Au7 W (Bf7 Am1 3 4 1 [])) from Ea2 a none 32 0 Am1 [] 3 4 1 (by decide) (by decide) ⟨Nat.le_refl _,Nat.zero_le _⟩ (by decide) (by decide) (by decide) W ha (.inl rfl)));have HN:=Lh (fun(W:World) (b:Option Addr) (cb:Nat)=>(show Calls Tryz.prog 118 #[.slice b 32 cb] W fun x w'=>x=.returned (.tuple #[.agg (Rg.L ⟨⟨1,b,32,cb⟩,G0,G0,0,1⟩).toArray,.int .i64 0])∧Below W.heap.size W w' from Cj6 ⟨0,b,32,cb⟩ W));have HR:=Lh (fun(W:World)=>(show Calls Tryz.prog 119 #[.agg T7.L.toArray,.int .i64 0] W fun x w'=>x=.returned (.tuple #[.agg M8.L.toArray,.int .i64 0])∧Below W.heap.size W w' from by
  have h:=Cp5 T7 0 W;rw[Dt0] at h;exact h))
 have SE:=Lh (show ∀E:Ev,(Tryz.prog.info? 46).map (·.size)=some (A7 E).length from fun E=>by rw[F9];exact L9);have SR:=Lh Aa6;have SH:=Lh (show(Tryz.prog.info? 42).map (·.size)=some M8.L.length by kernel_rfl);have hm:=Fo6;have hp:=Cy7;have hh:=Fa4;unfold Au7 at HK;go_enter Tryz.func52,Tryz.ntmps52
 go_upto_region 1 with(fail)
 generalize hW:World.alloc (World.alloc w _) _=W;obtain⟨B0,B1,hb⟩:=Al0 (a:=X5) (b:=X5) hW;clear hW;have B0:=Lh B0;have B1:=Lh B1;have G:=Lh hb;clear hb;have N01:=Lh (show w.heap.size≠w.heap.size+1 by omega);have L0:=Lh (show w.heap.size≤w.heap.size by omega);have L1:=Lh (show w.heap.size≤w.heap.size+1 by omega);generalize w.heap.size+1=n1 at B1 N01 L1 ⊢;generalize hn0:w.heap.size=n0 at B0 N01 ⊢;replace L0:=Lh (show w.heap.size≤n0 by omega);clear hn0;go_upto_region 2 with(fail)
 generalize hW2:World.alloc W _=W2;have QK:=Lh (show A5 W2 (some ⟨W.heap.size,0,none⟩) Am1 from by rw[←hW2];exact S8 W (B8s Am1) _);have hb:Below W.heap.size W W2:=by rw[←hW2];exact ba W _
 clear hW2;replace B0:=Lh (B0.out.up hb);replace B1:=Lh (B1.out.up hb);replace G:=Lh (bt G.out hb);clear hb;generalize (some ⟨W.heap.size,0,none⟩:Option Addr)=ka at QK ⊢;go_wp2_with fail
 refine(HK.out _ _ QK.out).mono ?_;rintro x w3 ⟨b,cb,rfl,hc,hkb,hb⟩;have C:=Lh hc;have QB:=Lh hkb;replace B0:=Lh (B0.out.up hb);replace B1:=Lh (B1.out.up hb);replace G:=Lh (bt G.out hb);replace QK:=Lh (A5.up8 QK.out hb);clear hb hc hkb HK;go_wp2_with fail
 refine(HN.out _ _ _).mono ?_;rintro x w4 ⟨rfl,hb⟩;replace B0:=Lh (B0.out.up hb);replace B1:=Lh (B1.out.up hb);replace G:=Lh (bt G.out hb);replace QK:=Lh (A5.up8 QK.out hb);replace QB:=Lh (A5.up8 QB.out hb);clear hb HN;go_upto_region 3 with(refine G9 32 _ _ rfl ?_;refine I9 32 _ _ _ (cs:=Rg.L ⟨⟨1,b,32,cb⟩,G0,G0,0,1⟩) rfl rfl rfl rfl (A6.new _ _ _) SR.out rfl (by rfl) ?_;intro w5 hBn hK;have B3:=Lh hBn;have N0_3:=Lh (Nat.ne_of_lt B0.out.blk.lt);have N1_3:=Lh (Nat.ne_of_lt B1.out.blk.lt);replace B0:=Lh ((B0.out.up (ba _ _)).kp hK N0_3.out);replace B1:=Lh ((B1.out.up (ba _ _)).kp hK N1_3.out);replace QK:=Lh (A5.up8 QK.out (hK.below (ba _ _) (Nat.le_refl _)));replace QB:=Lh (A5.up8 QB.out (hK.below (ba _ _) (Nat.le_refl _)));have L3:=Lh G.out.size;replace G:=Lh (hK.below (bt G.out (ba _ _)) G.out.size);clear hBn hK)
 generalize w4.heap.size=n3 at B3 ⊢;clear N0_3 N1_3 L3;go_wp2_with fail
 refine(HR.out _).mono ?_;rintro x w6 ⟨rfl,hb⟩;replace B0:=Lh (B0.out.up hb);replace B1:=Lh (B1.out.up hb);replace B3:=Lh (B3.out.up hb);replace G:=Lh (bt G.out hb);replace QK:=Lh (A5.up8 QK.out hb);replace QB:=Lh (A5.up8 QB.out hb);clear hb HR;go_upto_region 4 with(refine G9 42 _ _ rfl ?_;refine I9 42 _ _ _ (cs:=M8.L) rfl rfl rfl rfl (A6.new _ _ _) SH.out rfl (by rfl) ?_;intro w7 hBn hK;have B5:=Lh hBn;have N0_5:=Lh (Nat.ne_of_lt B0.out.blk.lt);have N1_5:=Lh (Nat.ne_of_lt B1.out.blk.lt);have N3_5:=Lh (Nat.ne_of_lt B3.out.blk.lt);replace B0:=Lh ((B0.out.up (ba _ _)).kp hK N0_5.out);replace B1:=Lh ((B1.out.up (ba _ _)).kp hK N1_5.out);replace B3:=Lh ((B3.out.up (ba _ _)).kp hK N3_5.out);replace QK:=Lh (A5.up8 QK.out (hK.below (ba _ _) (Nat.le_refl _)));replace QB:=Lh (A5.up8 QB.out (hK.below (ba _ _) (Nat.le_refl _)));have L5:=Lh G.out.size;replace G:=Lh (hK.below (bt G.out (ba _ _)) G.out.size);clear hBn hK)
 generalize w6.heap.size=n5 at B5 ⊢;clear N0_5 N1_5 N3_5 L5;refine Fa5 (kk:=⟨ka,32,Am1⟩) (rg:=⟨⟨1,b,32,cb⟩,G0,G0,0,1⟩) (kc:=Bf7 Am1 3 4 1 []) (hv:=M8) (L1:=At6 1) (L2:=Ao1) (Nat.le_refl _) rfl rfl rfl (fun _ _ d _ _ h=>by cases d<;>exact h) B3.out B5.out (fun u=>Cw4 u) ?_;intro x22 x23 x24 x25 x26 n7 s1 s2 w8 hst hB7 hL7 hb;have ST:=Lh hst;have B7:=Lh hB7;have L7:=Lh (show w.heap.size≤n7 from Nat.le_trans G.out.size hL7);have N07:=Lh (show n0≠n7 from Nat.ne_of_lt (Nat.lt_of_lt_of_le B0.out.blk.lt hL7));have N17:=Lh (show n1≠n7 from Nat.ne_of_lt (Nat.lt_of_lt_of_le B1.out.blk.lt hL7));replace B0:=Lh (B0.out.up hb);replace B1:=Lh (B1.out.up hb);replace G:=Lh (bt G.out hb);replace QK:=Lh (A5.up8 QK.out hb);replace QB:=Lh (A5.up8 QB.out hb);clear hb hst hB7 hL7 B3 B5;simp only[C4,Act.put,List.setIfInBounds_toArray,List.set_cons_zero,List.set_cons_succ];have EA:=Lh (Fh3 (k:=⟨ka,32,Am1⟩) ⟨QK.out,Nat.le_refl _,(by decide:32≤maxLen)⟩ ST.out QB.out (Eo4 _ _ _ _ _) C.out);have Fs:=Lh (And.intro ST.out.e1 ST.out.e2);clear ST QK QB C;obtain⟨A,hA⟩:∃A,A=exE ⟨ka,32,Am1⟩ s1 s2 ⟨⟨1,b,32,cb⟩,G0,G0,0,1⟩ (Bf7 Am1 3 4 1 []) M8:=⟨_,rfl⟩;rw[←hA] at B7 EA;have HA:=Lh hA;clear hA;go_upto_region 6 with(first
  | (refine G6 46 (.tmp 7) rfl ?_;refine D5 46 (.tmp 7) n7 rfl rfl rfl B7.out.blk Tryz.underlying46 rfl (SE.out _) ?_)
  | (refine G9 46 _ _ rfl ?_;refine I9 46 _ _ _ (cs:=A7 A) rfl rfl rfl rfl (A6.new _ _ _) (SE.out _) (by rw[F9];exact Ac1) (Ad6 _) ?_;intro w9 hBn hK;have B8:=Lh hBn;have N08:=Lh (Nat.ne_of_lt B0.out.blk.lt);have N18:=Lh (Nat.ne_of_lt B1.out.blk.lt);have N78:=Lh (Nat.ne_of_lt B7.out.blk.lt);replace B0:=Lh ((B0.out.up (ba _ _)).kp hK N08.out);replace B1:=Lh ((B1.out.up (ba _ _)).kp hK N18.out);replace B7:=Lh ((B7.out.up (ba _ _)).kp hK N78.out);replace EA:=Lh (EA.out.mono (hK.below (ba _ _) (Nat.le_refl _)));have L8:=Lh G.out.size;replace G:=Lh (hK.below (bt G.out (ba _ _)) G.out.size);clear hBn hK))
 generalize w8.heap.size=n8 at B8 N08 N18 N78 L8 ⊢;go_upto_region 9 with(first
  | (refine G9 3 (.tmp 28) (.const (.int .i64 1)) rfl ?_;refine Q4 3 (.tmp 28) (.const (.int .i64 1)) n8 0 (v:=.int .i64 1) rfl rfl rfl rfl B8.out (by rw[F9];decide) (by kernel_rfl) rfl (Bu9 _ 1) ?_;intro wa hB hK;replace B7:=Lh (B7.out.kp hK N78.out);replace B0:=Lh (B0.out.kp hK N08.out);replace B1:=Lh (B1.out.kp hK N18.out);replace EA:=Lh (EA.out.k8 (B8.out.k8 (Bn5 _) hK) fun g hg=>hg.elim);replace B8:=Lh hB;replace G:=Lh (hK.below G.out L8.out);clear hB hK)
  | (refine G9 3 (.tmp 29) (.const (.int .i64 4)) rfl ?_;refine Q4 3 (.tmp 29) (.const (.int .i64 4)) n8 6 (v:=.int .i64 4) rfl rfl rfl rfl B8.out (by rw[F9];decide) (by kernel_rfl) rfl (Ay5 _ 4) ?_;intro wb hB hK;replace B7:=Lh (B7.out.kp hK N78.out);replace B0:=Lh (B0.out.kp hK N08.out);replace B1:=Lh (B1.out.kp hK N18.out);replace EA:=Lh (EA.out.k8 (B8.out.k8 (Bn5 _) hK) fun g hg=>hg.elim);replace B8:=Lh hB;replace G:=Lh (hK.below G.out L8.out);clear hB hK)
  | (refine G9 3 (.tmp 30) (.const (.int .i64 3)) rfl ?_;refine Q4 3 (.tmp 30) (.const (.int .i64 3)) n8 7 (v:=.int .i64 3) rfl rfl rfl rfl B8.out (by rw[F9];decide) (by kernel_rfl) rfl (Ar0 _ 3) ?_;intro wc hB hK;replace B7:=Lh (B7.out.kp hK N78.out);replace B0:=Lh (B0.out.kp hK N08.out);replace B1:=Lh (B1.out.kp hK N18.out);replace EA:=Lh (EA.out.k8 (B8.out.k8 (Bn5 _) hK) fun g hg=>hg.elim);replace B8:=Lh hB;replace G:=Lh (hK.below G.out L8.out);clear hB hK))
 refine Fa6 (A:=A) (B:=twE A) (w0:=w) (Nat.le_refl _) rfl rfl rfl rfl (fun _ _ d _ _ h=>by cases d<;>exact h) B0.out B1.out B7.out B8.out N01.out N07.out N08.out N17.out N18.out L0.out L1.out G.out EA.out ?_;intro x31 x32 wd hB0 hB1 hEA hG;simp only[C4,Act.put,List.setIfInBounds_toArray,List.set_cons_zero,List.set_cons_succ];clear B0 B1 B7 B8 G EA;go_wp2_with fail
 (try simp only[Act.put,List.setIfInBounds_toArray,List.set_cons_zero,List.set_cons_succ])
 refine bodyPost_ret (Dt2 rfl _ _ n0 n1 (cs:=A7 A) (ds:=A7 (twE A)) rfl rfl hB0.blk Tryz.underlying46 rfl (SE.out _) hB1.blk Tryz.underlying46 rfl (SE.out _)) rfl ?_;rw[HA.out] at hEA ⊢;exact⟨_,_,_,_,_,rfl,hEA,rfl,Fs.out.1,Fs.out.2,hG⟩
def Af0(e:Ev):Sv:=⟨e,true,false,none,0,[]⟩
def Dt3(e:Ev)(K:List UInt8)(ta:Option Addr)(tc:Nat)(oa:Option Addr)(oc:Nat):Sv:=Bd7 (Bn6 (Af0 e) K exI 0 ta tc oa oc)
section
variable {k s1 s2:Sl} {b:Option Addr} {cb:Nat} {K:List UInt8}
theorem Fa7{S:Sv}{E:Int}(h:Am4 (Af0 (exE k s1 s2 (exR b cb) K M8)) [7] S E):E=0∧∃ta tc oa oc,S=Dt3 (exE k s1 s2 (exR b cb) K M8) K ta tc oa oc:=by
 have hI:Aq0 (Af0 (exE k s1 s2 (exR b cb) K M8)) [7]=exI:=rfl;unfold Am4 at h;rw[hI] at h;rcases h with⟨h,-⟩ | ⟨-,⟨h,-⟩ | ⟨-,⟨h,-⟩ | ⟨-,S1,hE,hS⟩⟩⟩
 ·exact absurd h (by decide)
 ·have:Q3 (Af0 (exE k s1 s2 (exR b cb) K M8)).e.ph=true:=by kernel_rfl
  rw[this] at h;cases h
 ·exact absurd h (show ¬(0:Int)=4611686018427387904 by decide)
 ·rcases hE with⟨hp,-⟩ | ⟨c,ta,tc,oa,oc,hp,h1,rfl⟩
  ·have:Ae2 (Af0 (exE k s1 s2 (exR b cb) K M8)).e.h=some 0:=Ev5;rw[this] at hp;cases hp
  ·have:Ae2 (Af0 (exE k s1 s2 (exR b cb) K M8)).e.h=some 0:=Ev5;rw[this] at hp;obtain rfl:0=c:=Option.some.inj hp;exact⟨rfl,ta,tc,oa,oc,by rw[hS,h1];rfl⟩
theorem Fa8:exI.length=31:=by unfold exI;rw[Bk6];rfl
theorem Cg1:(exX K).length=47:=by unfold exX;rw[List.length_append,Fa8,Ak7]
theorem Fa9:W5 J2 (Ac4 (exX K))=(J2,[exX K]):=by
 have hl:K6 (Ac4 (exX K))=47:=by
  unfold K6 Ac4;rw[Cg1];rfl
 have:=Ci2 0 (Ac4 (exX K)) (by rw[hl];decide) (by rw[hl];decide) (by rw[hl,Aq6,Cg1]);exact this
theorem Fh4(e:Ev)(ta:Option Addr)(tc:Nat)(oa:Option Addr)(oc:Nat)(ho:e.o=[]):(Dt3 e K ta tc oa oc).e.o=[(0,Ac4 (exX K))]:=by
 show e.o++[(((0:Nat):Int),Ac4 (exI++Z5 K exI))]=_;rw[ho];rfl
end
def Fh5(w:World)(X:List UInt8)(x:Ending)(w':World):Prop:=
 ∃(f:Fv) (g o c:Nat) (p:Option Addr) (pc:Nat),x=.returned (.tuple #[f.v,.slice (some ⟨g,o,none⟩) 1 c])∧g<w'.heap.size∧w'.cell? ⟨g,o,none⟩=some (.slice p X.length pc)∧(X.length≤pc∧pc≤maxLen)∧A5 w' p X∧Below w.heap.size w w'
theorem Er6(a:Option Addr)(cap:Nat)(K:List UInt8)(w:World)(h:A5 w a (Ac4 (exX K))):
 Calls Tryz.prog 24 #[Ak8.v,.slice a (Ac4 (exX K)).length cap] w (Fh5 w (exX K)):=
 (Bu5 Ak8 J2 a cap (Ac4 (exX K)) w 0 (Nat.zero_le _) (.inl rfl) (Aj3 w) (by kernel_rfl) h (by rw[Aq6,Cg1];decide)).mono fun x w' hx=>by
   rw[Fa9] at hx;obtain⟨f,a2,c,vs,h1,h2,h3,h4,h5,hb⟩:=hx;have hR:V6 w' a2 [exX K]:=⟨vs,h4.at,h5.of⟩;obtain⟨g,o,p,pc,rfl,hg,hc,hl,hm,hB⟩:=hR.row 0 (Nat.zero_lt_succ _);exact⟨f,g,o,c,p,pc,h1,hg,hc,⟨hl,hm⟩,hB,hb⟩
end Go.Proofs.YtadpiemjgfndgaaGreatDoor
