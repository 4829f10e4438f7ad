/- Proved here, for use further on: LfF LfH LfG LfI. Conditions: none but those each theorem names. -/
import Derived.Test.YtadpiemjgfndgaaGreatDoorKe00
import Derived.Test.YtadpiemjgfndgaaGreatDoorKe23
import Derived.Test.YtadpiemjgfndgaaGreatDoorKe12
import Derived.Test.YtadpiemjgfndgaaGreatDoorKe08
import Derived.Test.YtadpiemjgfndgaaGreatDoorKe16
import Derived.Test.YtadpiemjgfndgaaGreatDoorKe21
import Derived.Test.YtadpiemjgfndgaaGreatDoorKe20
import Derived.Test.YtadpiemjgfndgaaGreatDoorKe13
import Derived.Test.YtadpiemjgfndgaaGreatDoorKe17
import Derived.Test.YtadpiemjgfndgaaGreatDoorKe18
set_option linter.unusedSimpArgs false
set_option linter.unusedVariables false
set_option maxRecDepth 100000
set_option maxHeartbeats 8000000
namespace Go.Proofs.YtadpiemjgfndgaaGreatDoor
open Go.RowKit
def Aq8(s t:Sv):Bool:=Ai4 s.e t.e&&Bm2 s.i s.f s.es t.i t.f t.es
theorem Cb0(s t:Sv)(w:World)(hs:Ae2 w s)(ht:Ae2 w t)(ho:s.e.o.length≤100000∧t.e.o.length≤100000)(hg:s.e.g.length≤100000∧t.e.g.length≤100000)(hes:s.es.length≤100000∧t.es.length≤100000):
 Calls Tryz.prog 18 #[.agg (A6 s).toArray,.agg (A6 t).toArray] w (F6 w (Aq8 s t)):=by
 have P1:=Lh (fun(W:World) (h:Below w.heap.size w W)=>Bo2 s.e t.e W (hs.e.mono h) (ht.e.mono h) ho hg);have P2:=Lh (fun(W:World) (h:Below w.heap.size w W)=>Cn1 s.i s.f t.i t.f s.ta t.ta s.tc t.tc s.es t.es W hes.1 hes.2 (hs.p.mono h) (ht.p.mono h));have HF:=Lh (show Aq8 s t=(Ai4 s.e t.e&&Bm2 s.i s.f s.es t.i t.f t.es) from rfl);have SE:=Lh (show ∀E:Ev,(Tryz.prog.info? 46).map (·.size)=some (A7 E).length from fun E=>by rw[G6];exact K6);have SQ:=Lh Ag3;unfold F6 at P1 P2;generalize Aq8 s t=R at HF ⊢;generalize Ai4 s.e t.e=s1 at P1 HF;generalize Bm2 s.i s.f s.es t.i t.f t.es=s2 at P2 HF;clear hs ht ho hg hes;go_enter Tryz.func18,Tryz.ntmps18
 go_upto_region 1 with(fail)
 generalize hW:World.alloc (World.alloc w _) _=W;obtain⟨B2,B3,hb⟩:=Ag8 (a:=A6 s) (b:=A6 t) hW;clear hW;have B2:=Lh B2;have B3:=Lh B3;have G:=Lh hb;clear hb;generalize w.heap.size+1=n3 at B3 ⊢;generalize hn2:w.heap.size=n2 at B2 ⊢;clear hn2;go_wp2_with (first
  | (refine F7 46 (.tmp 7) rfl ?_;refine C7 46 (.tmp 7) n2 0 (by first | rfl | simp[Region.wanted,yielded]) rfl rfl B2.out.blk.atE Tryz.underlying46 rfl (SE.out _) ?_)
  | (refine F7 46 (.tmp 9) rfl ?_;refine C7 46 (.tmp 9) n3 0 (by first | rfl | simp[Region.wanted,yielded]) rfl rfl B3.out.blk.atE Tryz.underlying46 rfl (SE.out _) ?_))
 refine(P1.out _ G.out).mono ?_;rintro x w1 ⟨rfl,hb⟩;replace B2:=Lh (B2.out.up hb);replace B3:=Lh (B3.out.up hb);replace G:=Lh (bt G.out hb);clear hb P1;go_wp2_with (first
  | (refine F7 49 (.tmp 12) rfl ?_;refine C7 49 (.tmp 12) n2 70 (by first | rfl | simp[Region.wanted,yielded]) rfl rfl B2.out.blk.atP Tryz.underlying49 rfl SQ.out ?_)
  | (refine F7 49 (.tmp 14) rfl ?_;refine C7 49 (.tmp 14) n3 70 (by first | rfl | simp[Region.wanted,yielded]) rfl rfl B3.out.blk.atP Tryz.underlying49 rfl SQ.out ?_))
 refine(P2.out _ G.out).mono ?_;rintro x w2 ⟨rfl,hb⟩;replace G:=Lh (bt G.out hb);clear hb P2 B2 B3;rcases s1 with _ | _
 ·have hR:R=false:=by rw[HF.out];rfl
  subst hR;go_wp2_with fail
  go_ret;exact⟨rfl,G.out⟩
 have hR:R=s2:=by rw[HF.out];rfl
 subst hR;go_wp2_with fail
 go_ret;exact⟨rfl,G.out⟩
theorem Bn3(e:Ev)(w:World):Calls Tryz.prog 28 #[.agg (A7 e).toArray] w fun x w'=>x=.returned (.agg (A7 e.l_c0).toArray)∧Below w.heap.size w w':=by
 have SE:=Lh (show ∀E:Ev,(Tryz.prog.info? 46).map (·.size)=some (A7 E).length from fun E=>by rw[G6];exact K6);have hbe:∀W:World,(Instr.build 40 #[]).run Tryz.prog W=.ok (.agg ([.int .i64 0,.int .i64 0,.int .i64 0,.int .i64 0]:List Value).toArray) W:=fun W=>by kernel_rfl
 go_enter Tryz.func28,Tryz.ntmps28
 go_upto_region 1 with(fail)
 generalize hW:World.alloc (World.alloc w _) _=W;obtain⟨B1,B2,hb⟩:=Ag8 (a:=A7 e) (b:=X8) hW;clear hW;have B1:=Lh B1;have B2:=Lh B2;have G:=Lh hb;have N:=Lh (show w.heap.size≠w.heap.size+1 by omega);have L1:=Lh (show w.heap.size≤w.heap.size by omega);have L2:=Lh (show w.heap.size≤w.heap.size+1 by omega);clear hb;generalize w.heap.size+1=n2 at B2 N L2 ⊢;generalize hn1:w.heap.size=n1 at B1 N ⊢;replace L1:=Lh (show w.heap.size≤n1 by omega);clear hn1;go_upto_region 2 with(refine G9 40 (.tmp 4) (.tmp 3) rfl ?_;refine Ab0 40 (.tmp 4) (.tmp 3) n1 66 (cs:=[.int .i64 0,.int .i64 0,.int .i64 0,.int .i64 0]) rfl rfl rfl rfl B1.out (by rw[G6];decide) Bc1 rfl (Ct6 e) ?_;intro w1 hB hK;replace B1:=Lh hB;replace B2:=Lh (B2.out.kp hK N.out.symm);replace G:=Lh (hK.below G.out L1.out);clear hB hK)
 go_wp2_with (first
  | (refine F7 46 (.tmp 1) rfl ?_;refine C8 46 (.tmp 1) n1 rfl rfl rfl B1.out.blk Tryz.underlying46 rfl (SE.out _) ?_)
  | (refine G9 46 (.tmp 2) (.tmp 5) rfl ?_;refine I4 46 (.tmp 2) (.tmp 5) n2 (cs:=A7 e.l_c0) rfl rfl rfl rfl B2.out (SE.out _) (by rw[G6];exact Ac5) (Ae6 _) ?_;intro w2 hB hK;replace B2:=Lh hB;replace G:=Lh (hK.below G.out L2.out);clear hB hK))
 (try simp only[Act.put,List.setIfInBounds_toArray,List.set_cons_zero,List.set_cons_succ])
 refine bodyPost_ret (N6 rfl _ _ n2 (cs:=A7 e.l_c0) rfl B2.out.blk Tryz.underlying46 rfl (SE.out _)) rfl ?_;exact⟨rfl,G.out⟩
def Aq9(e:Ev):Bool:=decide (∀j,j<e.o.length→(e.o.getD j (0,[])).2.length≤1100)
def Ar0(e:Ev):Bool:=decide (∀j,j<e.g.length→(e.g.getD j default).b.length≤1000)
def Bx2(e:Ev):Bool:=Bd5 e.s1.l e.s2.l&&(Cd6 e.r&&(Bm4 e.h&&(decide (e.k.l.length≤100)&&(decide (e.q.body.length≤1000)&&(decide (Ag1 e.u≤9000)&&(decide (e.o.length≤20)&&(decide (e.g.length≤40)&&(Aq9 e&&Ar0 e))))))))
theorem Cq3(e:Ev)(w:World)(h:Ac3 w e):Calls Tryz.prog 37 #[.agg (A7 e).toArray] w (F6 w (Bx2 e)):=by
 have P1:=Lh (fun(W:World) (hb:Below w.heap.size w W)=>(show Calls Tryz.prog 87 #[.agg #[.slice e.s1.a e.s1.l.length e.s1.c,.slice e.s2.a e.s2.l.length e.s2.c]] W (F6 W (Bd5 e.s1.l e.s2.l)) from Dw6 _ _ _ W (Av3 (h.mono hb))));have P2:=Lh (fun(W:World)=>(show Calls Tryz.prog 88 #[.agg e.r.L.toArray] W (F6 W (Cd6 e.r)) from Dc1 e.r W));have P3:=Lh (fun(W:World)=>(show Calls Tryz.prog 89 #[.agg e.h.L.toArray] W (F6 W (Bm4 e.h)) from El6 e.h h.hl W));have P4:=Lh (fun(W:World) (hb:Below w.heap.size w W)=>(show Calls Tryz.prog 90 #[.slice e.ua e.u.length e.uc,.int .i64 9000] W fun x w'=>x=.returned (.int .i64 (if Ag1 e.u≤9000 then(Ag1 e.u:Int) else 9001))∧w'=W from Ei2 e.ua e.uc e.u 9000 W (by decide) (Nat.le_trans h.ul.1 h.ul.2) (h.u.mono hb)));have HO:=Lh (fun(W:World) (hb:Below w.heap.size w W)=>h.o.mono hb);have HG:=Lh (fun(W:World) (hb:Below w.heap.size w W)=>h.g.mono hb);have hol:=h.ol;have hgl:=h.gl;unfold maxLen at hol hgl;have HF:=Lh (show Bx2 e=(Bd5 e.s1.l e.s2.l&&(Cd6 e.r&&(Bm4 e.h&&(decide (e.k.l.length≤100)&&(decide (e.q.body.length≤1000)&&(decide (Ag1 e.u≤9000)&&(decide (e.o.length≤20)&&(decide (e.g.length≤40)&&(Aq9 e&&Ar0 e))))))))) from rfl);have HFo:=Lh (show Aq9 e=decide (∀j,j<e.o.length→(e.o.getD j (0,[])).2.length≤1100) from rfl);have HFg:=Lh (show Ar0 e=decide (∀j,j<e.g.length→(e.g.getD j default).b.length≤1000) from rfl);have SR:=Lh Aa5;have SH:=Lh (show(Tryz.prog.info? 42).map (·.size)=some e.h.L.length by kernel_rfl);unfold F6 at P1 P2 P3;generalize Bx2 e=R at HF ⊢;generalize Bd5 e.s1.l e.s2.l=s1 at P1 HF;generalize Cd6 e.r=s2 at P2 HF;generalize Bm4 e.h=s3 at P3 HF;obtain⟨V,hV⟩:∃V:Int,V=(if Ag1 e.u≤9000 then(Ag1 e.u:Int) else 9001):=⟨_,rfl⟩;rw[←hV] at P4;have hV2:decide (Ag1 e.u≤9000)=decide (V≤9000):=by
  by_cases hh:Ag1 e.u≤9000
  ·rw[decide_eq_true hh,decide_eq_true (by rw[hV,if_pos hh];omega)]
  ·rw[decide_eq_false hh,decide_eq_false (by rw[hV,if_neg hh];omega)]
 rw[hV2] at HF;clear h hV hV2;go_enter Tryz.func37,Tryz.ntmps37
 go_upto_region 1 with(fail)
 generalize hW:World.alloc w _=W;have B1:=Lh (show A5 46 W w.heap.size (A7 e) by rw[←hW];exact A5.new w (A7 e) _);have G:=Lh (show Below w.heap.size w W by rw[←hW];exact ba w _);clear hW;generalize hn1:w.heap.size=n1 at B1 ⊢;clear hn1;have y2:W.cell? ⟨n1,3,none⟩=some (.slice e.s1.a e.s1.l.length e.s1.c):=B1.out.blk.endIn.cell 3 (by decide);have z2:W.cell? ⟨n1,4,none⟩=some (.slice e.s2.a e.s2.l.length e.s2.c):=B1.out.blk.endIn.cell 4 (by decide);go_wp2_with fail
 refine(P1.out _ G.out).mono ?_;rintro x w1 ⟨rfl,hb⟩;replace B1:=Lh (B1.out.up hb);replace G:=Lh (bt G.out hb);clear hb P1 y2 z2;go_wp2_with (refine F7 32 (.tmp 11) rfl ?_;refine C7 32 (.tmp 11) n1 27 (by first | rfl | simp[Region.wanted,yielded]) rfl rfl B1.out.blk.endIn.at_r Tryz.underlying32 rfl SR.out ?_)
 refine(P2.out _).mono ?_;rintro x w2 ⟨rfl,hb⟩;replace B1:=Lh (B1.out.up hb);replace G:=Lh (bt G.out hb);clear hb P2;go_wp2_with (refine F7 42 (.tmp 14) rfl ?_;refine C7 42 (.tmp 14) n1 43 (by first | rfl | simp[Region.wanted,yielded]) rfl rfl B1.out.blk.endIn.at_h Tryz.underlying42 rfl SH.out ?_)
 refine(P3.out _).mono ?_;rintro x w3 ⟨rfl,hb⟩;replace B1:=Lh (B1.out.up hb);replace G:=Lh (bt G.out hb);clear hb P3;go_upto_region 4 with(fail)
 have ck:=B1.out.blk.endIn.k;have cq:=B1.out.blk.endIn.qbody;have cu:=B1.out.blk.endIn.u;have co:=B1.out.blk.endIn.o;have cg:=B1.out.blk.endIn.g;rcases s1 with _ | _
 ·have hR:R=false:=by rw[HF.out];rfl
  subst hR;go_wp2_with fail
  go_ret;exact⟨rfl,G.out⟩
 rcases s2 with _ | _
 ·have hR:R=false:=by rw[HF.out];rfl
  subst hR;go_wp2_with fail
  go_ret;exact⟨rfl,G.out⟩
 rcases s3 with _ | _
 ·have hR:R=false:=by rw[HF.out];rfl
  subst hR;go_wp2_with fail
  go_ret;exact⟨rfl,G.out⟩
 replace HF:=Lh (show R=(decide (e.k.l.length≤100)&&(decide (e.q.body.length≤1000)&&(decide (V≤9000)&&(decide (e.o.length≤20)&&(decide (e.g.length≤40)&&(Aq9 e&&Ar0 e)))))) by rw[HF.out];rfl);by_cases h0:e.k.l.length≤100;rotate_left
 ·have hR:R=false:=by rw[HF.out,decide_eq_false h0];rfl
  subst hR;have hd0:(100:Int)<(e.k.l.length:Int):=by omega
  clear h0;go_wp2_with fail
  go_ret;exact⟨rfl,G.out⟩
 have hd0:¬(100:Int)<(e.k.l.length:Int):=by omega
 replace HF:=Lh (show R=(decide (e.q.body.length≤1000)&&(decide (V≤9000)&&(decide (e.o.length≤20)&&(decide (e.g.length≤40)&&(Aq9 e&&(Ar0 e)))))) by rw[HF.out,decide_eq_true h0];rfl);by_cases h1:e.q.body.length≤1000;rotate_left
 ·have hR:R=false:=by rw[HF.out,decide_eq_false h1];rfl
  subst hR;have hd1:(1000:Int)<(e.q.body.length:Int):=by omega
  clear h1;go_wp2_with fail
  go_ret;exact⟨rfl,G.out⟩
 have hd1:¬(1000:Int)<(e.q.body.length:Int):=by omega
 replace HF:=Lh (show R=(decide (V≤9000)&&(decide (e.o.length≤20)&&(decide (e.g.length≤40)&&(Aq9 e&&(Ar0 e))))) by rw[HF.out,decide_eq_true h1];rfl);by_cases h2:V≤9000;rotate_left
 ·have hR:R=false:=by rw[HF.out,decide_eq_false h2];rfl
  subst hR;have hd2:(9000:Int)<V:=by omega
  clear h2;go_wp2_with fail
  refine(P4.out _ G.out).mono ?_;rintro x w4 ⟨rfl,rfl⟩;go_wp2_with fail
  go_ret;exact⟨rfl,G.out⟩
 have hd2:¬(9000:Int)<V:=by omega
 replace HF:=Lh (show R=(decide (e.o.length≤20)&&(decide (e.g.length≤40)&&(Aq9 e&&(Ar0 e)))) by rw[HF.out,decide_eq_true h2];rfl);by_cases h3:e.o.length≤20;rotate_left
 ·have hR:R=false:=by rw[HF.out,decide_eq_false h3];rfl
  subst hR;have hd3:(20:Int)<(e.o.length:Int):=by omega
  clear h3;go_wp2_with fail
  refine(P4.out _ G.out).mono ?_;rintro x w4 ⟨rfl,rfl⟩;go_wp2_with fail
  go_ret;exact⟨rfl,G.out⟩
 have hd3:¬(20:Int)<(e.o.length:Int):=by omega
 replace HF:=Lh (show R=(decide (e.g.length≤40)&&(Aq9 e&&(Ar0 e))) by rw[HF.out,decide_eq_true h3];rfl);by_cases h4:e.g.length≤40;rotate_left
 ·have hR:R=false:=by rw[HF.out,decide_eq_false h4];rfl
  subst hR;have hd4:(40:Int)<(e.g.length:Int):=by omega
  clear h4;go_wp2_with fail
  refine(P4.out _ G.out).mono ?_;rintro x w4 ⟨rfl,rfl⟩;go_wp2_with fail
  go_ret;exact⟨rfl,G.out⟩
 have hd4:¬(40:Int)<(e.g.length:Int):=by omega
 replace HF:=Lh (show R=(Aq9 e&&(Ar0 e)) by rw[HF.out,decide_eq_true h4];rfl);go_wp2_with fail
 refine(P4.out _ G.out).mono ?_;rintro x w4 ⟨rfl,rfl⟩;go_upto_region 7 with(fail)
 clear ck cq cu hd0 hd1 hd2 hd3 hd4 h0 h1 h2 P4
 go_loopw [6] (fun v wr=>wr=w4∧∃j:Nat,j≤e.o.length∧v=.int .i64 (j:Int)∧∀t,t<j→(e.o.getD t (0,[])).2.length≤1100) (fun v _=>e.o.length-(intOf v).toNat)
 case atStart=>exact⟨rfl,0,Nat.zero_le _,rfl,fun t ht=>absurd ht (by omega)⟩
 case round=>
  obtain⟨rfl,j,hj,rfl,hno⟩:=hrel;have Hno:=Lh hno;clear hno;by_cases hlt:j<e.o.length
  ·obtain⟨g,off,hga,hg,hcs⟩:=(HO.out _ G.out).cell (by omega);obtain⟨p0,c0,x0,x1,-,-,-⟩:=hcs j hlt;have hd1:(j:Int)<(e.o.length:Int):=by omega
   have hd0:(0:Int)≤(j:Int):=by omega
   rw[hga] at co;obtain⟨n0,hn0⟩:∃n,n=(e.o.getD j (0,[])).2.length:=⟨_,rfl⟩;rw[←hn0] at x1;have Hn0:=Lh hn0;clear hcs hn0 x0;by_cases h0:n0≤1100
   ·have hd2:¬(1100:Int)<(n0:Int):=by omega
    go_wp2_with fail
    exact⟨⟨by trivial,j+1,by omega,by go_num,fun t ht=>by
     rcases Nat.lt_or_ge t j with h | h
     ·exact Hno.out t h
     ·rw[show t=j by omega,←Hn0.out];exact h0⟩,by simp[intOf];omega⟩
   ·have hd2:(1100:Int)<(n0:Int):=by omega
    have hRf:R=false:=by
     have hq:Aq9 e=false:=by
      rw[HFo.out,decide_eq_false];intro h;have:=h j hlt;rw[←Hn0.out] at this;omega
     rw[HF.out,hq];rfl
    subst hRf;go_wp2_with fail
    go_ret;exact⟨rfl,G.out⟩
  ·obtain rfl:j=e.o.length:=by omega
   replace HF:=Lh (show R=Ar0 e by rw[HF.out,show Aq9 e=true from by rw[HFo.out,decide_eq_true];exact Hno.out];rfl);clear Hno HFo HO;go_upto_region 12 with(fail)
   go_loopw [7] (fun v wq=>wq=wr∧∃j:Nat,j≤e.g.length∧v=.int .i64 (j:Int)∧∀t,t<j→(e.g.getD t default).b.length≤1000) (fun v _=>e.g.length-(intOf v).toNat)
   case atStart=>exact⟨rfl,0,Nat.zero_le _,rfl,fun t ht=>absurd ht (by omega)⟩
   case round=>
    obtain⟨rfl,j,hj,rfl,hno⟩:=hrel;have Hno:=Lh hno;clear hno;by_cases hlt:j<e.g.length
    ·obtain⟨g,off,hga,hg,hcs⟩:=(HG.out _ G.out).cell (by omega);obtain⟨p0,c0,x0,x1,x2,x3,x4,-,-,-⟩:=hcs j hlt;have hd1:(j:Int)<(e.g.length:Int):=by omega
     have hd0:(0:Int)≤(j:Int):=by omega
     rw[hga] at cg;obtain⟨n0,hn0⟩:∃n,n=(e.g.getD j default).b.length:=⟨_,rfl⟩;rw[←hn0] at x4;have Hn0:=Lh hn0;clear hcs hn0 x0 x1 x2 x3;by_cases h0:n0≤1000
     ·have hd2:¬(1000:Int)<(n0:Int):=by omega
      go_wp2_with fail
      exact⟨⟨by trivial,j+1,by omega,by go_num,fun t ht=>by
       rcases Nat.lt_or_ge t j with h | h
       ·exact Hno.out t h
       ·rw[show t=j by omega,←Hn0.out];exact h0⟩,by simp[intOf];omega⟩
     ·have hd2:(1000:Int)<(n0:Int):=by omega
      have hRf:R=false:=by
       have hq:Ar0 e=false:=by
        rw[HFg.out,decide_eq_false];intro h;have:=h j hlt;rw[←Hn0.out] at this;omega
       rw[HF.out,hq]
      subst hRf;go_wp2_with fail
      go_ret;exact⟨rfl,G.out⟩
    ·obtain rfl:j=e.g.length:=by omega
     have hRt:R=true:=by rw[HF.out,HFg.out,decide_eq_true];exact Hno.out
     subst hRt;go_wp2_with fail
     go_ret;exact⟨rfl,G.out⟩
def Ce3(s:Sv):Bool:=Bx2 s.e&&(decide (Bv8 s.es 40)&&K7 s.e)
theorem Dq9(s:Sv)(w:World)(h:Ae2 w s):Calls Tryz.prog 13 #[.agg (A6 s).toArray] w (F6 w (Ce3 s)):=by
 have P1:=Lh (fun(W:World) (hb:Below w.heap.size w W)=>Cq3 s.e W (h.e.mono hb));have P2:=Lh (fun(W:World) (hb:Below w.heap.size w W)=>Db0 s.i s.f s.ta s.tc 40 s.es W (Nat.le_trans h.pl.1 h.pl.2) (by decide) (h.p.mono hb));have P3:=Lh (fun(W:World) (hb:Below w.heap.size w W)=>Ap3 s.e W (h.e.mono hb));have HF:=Lh (show Ce3 s=(Bx2 s.e&&(decide (Bv8 s.es 40)&&K7 s.e)) from rfl);have SE:=Lh (show ∀E:Ev,(Tryz.prog.info? 46).map (·.size)=some (A7 E).length from fun E=>by rw[G6];exact K6);have SQ:=Lh Ag3;unfold F6 at P1 P2 P3;generalize Ce3 s=R at HF ⊢;generalize Bx2 s.e=s1 at P1 HF;generalize decide (Bv8 s.es 40)=s2 at P2 HF;generalize K7 s.e=s3 at P3 HF;clear h;go_enter Tryz.func13,Tryz.ntmps13
 go_upto_region 1 with(fail)
 generalize hW:World.alloc w _=W;have B1:=Lh (show A5 51 W w.heap.size (A6 s) by rw[←hW];exact A5.new w (A6 s) _);have G:=Lh (show Below w.heap.size w W by rw[←hW];exact ba w _);clear hW;generalize hn1:w.heap.size=n1 at B1 ⊢;clear hn1;go_wp2_with (refine F7 46 (.tmp 5) rfl ?_;refine C7 46 (.tmp 5) n1 0 (by first | rfl | simp[Region.wanted,yielded]) rfl rfl B1.out.blk.atE Tryz.underlying46 rfl (SE.out _) ?_)
 refine(P1.out _ G.out).mono ?_;rintro x w1 ⟨rfl,hb⟩;replace B1:=Lh (B1.out.up hb);replace G:=Lh (bt G.out hb);clear hb P1;go_wp2_with (refine F7 49 (.tmp 8) rfl ?_;refine C7 49 (.tmp 8) n1 70 (by first | rfl | simp[Region.wanted,yielded]) rfl rfl B1.out.blk.atP Tryz.underlying49 rfl SQ.out ?_)
 refine(P2.out _ G.out).mono ?_;rintro x w2 ⟨rfl,hb⟩;replace B1:=Lh (B1.out.up hb);replace G:=Lh (bt G.out hb);clear hb P2;rcases s1 with _ | _
 ·have hR:R=false:=by rw[HF.out];rfl
  subst hR;go_wp2_with fail
  go_ret;exact⟨rfl,G.out⟩
 rcases s2 with _ | _
 ·have hR:R=false:=by rw[HF.out];rfl
  subst hR;go_wp2_with fail
  go_ret;exact⟨rfl,G.out⟩
 have hR:R=s3:=by rw[HF.out];rfl
 subst hR;go_wp2_with (refine F7 46 (.tmp 16) rfl ?_;refine C7 46 (.tmp 16) n1 0 (by first | rfl | simp[Region.wanted,yielded]) rfl rfl B1.out.blk.atE Tryz.underlying46 rfl (SE.out _) ?_)
 refine(P3.out _ G.out).mono ?_;rintro x w3 ⟨rfl,hb⟩;go_wp2_with fail
 go_ret;exact⟨rfl,bt G.out hb⟩
theorem Ed8{k d e0 e1 g q:Nat}{bl t:List UInt8}(h:Al7 k d e0 e1 g q bl.length)(ht:t.length=16):okR (inF k d e0 e1 g q bl++t)∧pdF (inF k d e0 e1 g q bl++t)=⟨k,d,e0,e1,g,q,bl,t⟩:=by
 obtain⟨q1,q2,q3,q4,q5,q6⟩:=h.nums bl t _ rfl;obtain⟨b1,b2,b3⟩:=Cm4 k d e0 e1 g q bl t ht;refine⟨⟨?_,h.good t ht⟩,?_⟩
 ·rw[b3];have h1:=h.n1;have h2:=h.n2;omega
 ·unfold pdF;rw[q1,q2,q3,q4,q5,q6,b1,b2]
def Al4:List UInt8:=List.replicate 32 0
theorem Bn4:Al4.length=32:=by kernel_rfl
abbrev exR(b:Option Addr)(cb:Nat):Rg:=⟨⟨1,b,32,cb⟩,G0,G0,0,1⟩
def exE(k s1 s2:Sl)(r:Rg)(kc:List UInt8)(h:Hv):Ev:=
 {id:=0,k:=k,ph:=3,s1:=s1,s2:=s2,pw:=-1,own:=3,oth:=4,seen:=4,seq:=0,wt:=0,wb:=Q5,r:=r,kc:=kc,ko:=[],kp:=[],q:=⟨0,0,0,0,[]⟩,qa:=none,qc:=0,stan:=0,day:=0,ua:=none,uc:=0,u:=[],h:=h,hs:=Em2,oa:=none,oc:=0,o:=[],ga:=none,gc:=0,g:=[],c0:=0,c1:=0,c2:=0,c3:=0}
def twE(e:Ev):Ev:={e with id:=1,own:=4,oth:=3}
def M4:Hv:=(Bd7 T7 0).1
theorem Dr0:Bd7 T7 0=(M4,0):=Prod.ext rfl (by kernel_rfl)
theorem Er7:Ah7 M4=some 0:=by kernel_rfl
section
variable {k s1 s2:Sl} {b:Option Addr} {cb:Nat} {K:List UInt8}
theorem Bh8{e:Ev}(h1:Bi6 e=true)(h2:Ag2 e.s1.l e.s2.l=true)(h3:Ax7 e=true)(h4:Ak2 e=true)(h5:Ah1 e.q=true)(h6:Q7 e.h e.hs=true)(h7:e.k.l.length=32)(h8:Aa0 e=true)(h9:U5 e=true):K7 e=true:=by
 unfold K7 Aq3;rw[h1,h2,h3,h4,h5,h6,h7,h8,h9];rfl
theorem Bn5(h1:s1.l=As6 1)(h2:s2.l=An8):Ag2 s1.l s2.l=true:=Da5.2 ⟨by rw[h1,Bv5],by rw[h2];rfl⟩
theorem Ce4(e:Ev)(h:e.wt=0)(hb:e.wb=Q5):Ax7 e=true:=by
 unfold Ax7;rw[h,hb,decide_eq_true_eq];exact⟨⟨by decide,by decide⟩,fun p _ _=>Am6 p,.inl rfl⟩
theorem Ch0(hk:k.l=Al4)(h1:s1.l=As6 1)(h2:s2.l=An8):K7 (exE k s1 s2 (exR b cb) K M4)=true:=
 Bh8 (by kernel_rfl) (Bn5 h1 h2) (Ce4 _ rfl rfl) (by kernel_rfl) (by kernel_rfl) (by kernel_rfl) (by show k.l.length=32;rw[hk,Bn4]) (by kernel_rfl) (by kernel_rfl)
theorem Ed9(hk:k.l=Al4)(h1:s1.l=As6 1)(h2:s2.l=An8):K7 (twE (exE k s1 s2 (exR b cb) K M4))=true:=
 Bh8 (by kernel_rfl) (Bn5 h1 h2) (Ce4 _ rfl rfl) (by kernel_rfl) (by kernel_rfl) (by kernel_rfl) (by show k.l.length=32;rw[hk,Bn4]) (by kernel_rfl) (by kernel_rfl)
def exI:List UInt8:=inF 2 0 3 4 1 0 [7]
def exX(K:List UInt8):List UInt8:=exI++Ab8 K exI
theorem Cw5:Al7 2 0 3 4 1 0 [(7:UInt8)].length:=by constructor<;>decide
theorem Ee0:okR (exX K):=(Ed8 Cw5 (Ar6 K exI)).1
theorem Ao1:pdF (exX K)=⟨2,0,3,4,1,0,[7],Ab8 K exI⟩:=(Ed8 Cw5 (Ar6 K exI)).2
def exT(e:Ev)(f:Bool)(ta:Option Addr)(tc:Nat)(K:List UInt8):Sv:=⟨e,true,f,ta,tc,Au1 [] K exI⟩
theorem Fc9(e:Ev)(f:Bool)(ta:Option Addr)(tc:Nat)(hk:As7 e (pdF (exX K))=K):Aj6 (exT e f ta tc K) (pdF (exX K))=true:=by
 unfold Aj6;show Bv7 true (Au1 [] K exI) (As7 e (pdF (exX K))) (inT (pdF (exX K))) (pdF (exX K)).t=true;rw[hk,Ao1];exact By7 true _ K exI (Cg0 [] K exI)
theorem Ep6(f:Bool)(ta:Option Addr)(tc:Nat):T6 (exT (twE (exE k s1 s2 (exR b cb) K M4)) f ta tc K) (exX K)=(Ak4 (V5 (exT (twE (exE k s1 s2 (exR b cb) K M4)) f ta tc K) (pdF (exX K))) (pdF (exX K)),0):=by
 have hw:=De5 (exT (twE (exE k s1 s2 (exR b cb) K M4)) f ta tc K) (exX K) _ rfl;have hy:=Fc9 (K:=K) (twE (exE k s1 s2 (exR b cb) K M4)) f ta tc (by rw[Ao1];kernel_rfl);have hs:U2 (twE (exE k s1 s2 (exR b cb) K M4)) (pdF (exX K)).k (pdF (exX K)).d (pdF (exX K)).e0 (pdF (exX K)).e1 (pdF (exX K)).g=false:=by rw[Ao1];kernel_rfl
 exact hw.gone Ee0 hs hy (by rw[Ao1];rfl) (by rw[Ao1];kernel_rfl)
def Al5(k s1 s2:Sl)(b:Option Addr)(cb:Nat)(K:List UInt8)(f:Bool)(ta:Option Addr)(tc:Nat):Sv:=Ak4 (V5 (exT (twE (exE k s1 s2 (exR b cb) K M4)) f ta tc K) (pdF (exX K))) (pdF (exX K))
theorem Ew5:decide (X6 (Y4 0 Q5 0).1 (Y4 0 Q5 0).2.1)=true:=by kernel_rfl
theorem Bq9(f:Bool)(ta:Option Addr)(tc:Nat):(Al5 k s1 s2 b cb K f ta tc).e=(twE (exE k s1 s2 (exR b cb) K M4)).l_w (Y4 0 Q5 0).1 (Y4 0 Q5 0).2.1:=by
 unfold Al5;rw[Ao1];kernel_rfl
theorem Dr1(hk:k.l=Al4)(h1:s1.l=As6 1)(h2:s2.l=An8)(f:Bool)(ta:Option Addr)(tc:Nat):K7 (Al5 k s1 s2 b cb K f ta tc).e=true:=by
 rw[Bq9];exact Bh8 (by kernel_rfl) (Bn5 h1 h2) Ew5 (by kernel_rfl) (by kernel_rfl) (by kernel_rfl) (by show k.l.length=32;rw[hk,Bn4]) (by kernel_rfl) (by kernel_rfl)
theorem Cq4(f:Bool)(ta:Option Addr)(tc:Nat):(Al5 k s1 s2 b cb K f ta tc).i=true∧(Al5 k s1 s2 b cb K f ta tc).es=Au1 [] K exI:=by
 unfold Al5;rw[Ao1];exact⟨by kernel_rfl,rfl⟩
theorem Ep7(f:Bool)(ta:Option Addr)(tc:Nat):∃S:Sv,T6 (Al5 k s1 s2 b cb K f ta tc) (exX K)=(S,6)∧S.e.c2=1:=by
 have hw:=De5 (Al5 k s1 s2 b cb K f ta tc) (exX K) _ rfl;have hy:Aj6 (Al5 k s1 s2 b cb K f ta tc) (pdF (exX K))=true:=by
  unfold Aj6;rw[(Cq4 f ta tc).1,(Cq4 f ta tc).2,Bq9,Ao1];exact By7 true _ K exI (Cg0 [] K exI)
 have hs:U2 (Al5 k s1 s2 b cb K f ta tc).e (pdF (exX K)).k (pdF (exX K)).d (pdF (exX K)).e0 (pdF (exX K)).e1 (pdF (exX K)).g=false:=by rw[Bq9,Ao1];kernel_rfl
 refine⟨_,hw.old Ee0 hs hy (by rw[Ao1];rfl) (by rw[Bq9,Ao1];kernel_rfl),?_⟩;show wrap64 ((Al5 k s1 s2 b cb K f ta tc).e.c2+1)=1;rw[Bq9];kernel_rfl
theorem Cw6(a:Option Addr)(c:Nat):Ax8 (exE k s1 s2 (exR b cb) K M4) 0 a c=Bk1 (Dc7 (exE k s1 s2 (exR b cb) K M4) a c ⟨5,3,4,0,[]⟩) 0:=by kernel_rfl
theorem Ee1(hk:k.l=Al4)(h1:s1.l=As6 1)(h2:s2.l=An8)(a:Option Addr)(c:Nat):K7 (Ax8 (exE k s1 s2 (exR b cb) K M4) 0 a c)=true:=by
 rw[Cw6];exact Bh8 (by kernel_rfl) (Bn5 h1 h2) (Ce4 _ rfl rfl) (by kernel_rfl) (by kernel_rfl) (by kernel_rfl) (by show k.l.length=32;rw[hk,Bn4]) (by kernel_rfl) (by kernel_rfl)
theorem Ew6(a:Option Addr)(c:Nat):(Ax8 (exE k s1 s2 (exR b cb) K M4) 0 a c).g.length=1∧(Ax8 (exE k s1 s2 (exR b cb) K M4) 0 a c).o=[]∧S0 (Ax8 (exE k s1 s2 (exR b cb) K M4) 0 a c).ph=false∧Ah7 (Ax8 (exE k s1 s2 (exR b cb) K M4) 0 a c).h=some 0:=by
 rw[Cw6];exact⟨rfl,rfl,by kernel_rfl,by kernel_rfl⟩
end
def Bk6:Ev:=
 {id:=0,k:=⟨none,0,[]⟩,ph:=0,s1:=⟨none,0,[]⟩,s2:=⟨none,0,[]⟩,pw:=0,own:=0,oth:=0,seen:=0,seq:=0,wt:=0,wb:=Q5,r:=R0,kc:=[],ko:=[],kp:=[],q:=⟨0,0,0,0,[]⟩,qa:=none,qc:=0,stan:=0,day:=0,ua:=none,uc:=0,u:=[],h:=T7,hs:=Em2,oa:=none,oc:=0,o:=[],ga:=none,gc:=0,g:=[],c0:=0,c1:=0,c2:=0,c3:=0}
theorem Cq5:K7 Bk6=false:=by
 unfold K7;rw[show(Bk6.k.l.length==32)=false by kernel_rfl];simp
theorem Ee2(w:World):Ac3 w Bk6:=
 ⟨⟨.inl rfl,Nat.le_refl _,Nat.zero_le _⟩,⟨.inl rfl,Nat.le_refl _,Nat.zero_le _⟩,⟨.inl rfl,Nat.le_refl _,Nat.zero_le _⟩,Bw6 w,⟨Nat.le_refl _,Nat.zero_le _⟩,⟨Nat.le_refl _,Nat.zero_le _⟩,⟨Nat.le_refl _,Nat.zero_le _⟩,.inl rfl,⟨Nat.le_refl _,Nat.zero_le _⟩,Ag7.at (Ag7.nil (fun _=>True) w _),⟨Nat.le_refl _,Nat.zero_le _⟩,Er4 T7 w (fun i hi=>rfl),fun i hi=>Nat.zero_le _,Ac1.nil w _,⟨Nat.le_refl _,Nat.zero_le _⟩,Ah2.nil w _,⟨Nat.le_refl _,Nat.zero_le _⟩,by decide⟩
theorem Ew7(w:World):(Instr.build 42 #[]).run Tryz.prog w=.ok (.agg T7.L.toArray) w:=by kernel_rfl
theorem Fk7(w:World):(Instr.makeSlice 22 (.int .i64 32) (.int .i64 32)).run Tryz.prog w=.ok (.slice (some ⟨w.heap.size,0,none⟩) 32 32) (w.alloc (.cells (B8s Al4).toArray 5)):=Bj3 V6 w .i64 .i64 32 (by decide) (by decide) rfl
theorem Cw7(w:World):(Instr.build 63 #[(0,.int .i64 3),(1,.int .i64 4)]).run Tryz.prog w=.ok (.agg #[.int .i64 3,.int .i64 4]) w:=by kernel_rfl
theorem Ee3:∀w,(Instr.alloc 46 true (.tuple #[])).run Tryz.prog w=.ok (.pointer (some ⟨w.heap.size,0,none⟩)) (w.alloc (.cells X8.toArray 46)):=fun w=>by kernel_rfl
structure As4 (w:World) (s t:Sl) (l m:List UInt8):Prop where
 h1:Aq2 w s
 h2:Aq2 w t
 e1:s.l=l
 e2:t.l=m
theorem As4.up{w w':World}{s t:Sl}{l m:List UInt8}(h:As4 w s t l m)(hb:Below w.heap.size w w'):As4 w' s t l m:=⟨h.h1.mono hb,h.h2.mono hb,h.e1,h.e2⟩
theorem As4.k8{w w':World}{b:Nat}{s t:Sl}{l m:List UInt8}(h:As4 w s t l m)(k:K8 b w w'):As4 w' s t l m:=⟨Aq2.k8 h.h1 k,Aq2.k8 h.h2 k,h.e1,h.e2⟩
theorem Cu3(w:World):Calls Tryz.prog 120 #[] w fun x w'=>∃s t:Sl,x=.returned (.agg #[.slice s.a s.l.length s.c,.slice t.a t.l.length t.c])∧As4 w' s t (As6 1) An8∧Below w.heap.size w w':=
 (Cm8 w).mono fun x w' h=>by
   obtain⟨v,h1,⟨a,c,b,d,h2,h3,h4,h5,h6⟩,hb⟩:=h;exact⟨⟨a,c,As6 1⟩,⟨b,d,An8⟩,by rw[h1,h2],⟨⟨h5,h3.1,h3.2⟩,⟨h6,h4.1,h4.2⟩,rfl,rfl⟩,hb⟩
noncomputable def tw4:{ops:Array Oper//(Tryz.f52.body.bind (L9 4))=some (.region 4 ops true)}:=⟨_,rfl⟩
abbrev Ay3:List Nat:=[22,23,24,25,26,7]
theorem Ee4:opx tw4.1 1=some (.call {callee:=.value (.func 120),args:=#[],argTypes:=#[]},some 23,none):=by kernel_rfl
theorem Ee5:opx tw4.1 5=some (.alloc 46,some 7,none):=by kernel_rfl
theorem Fd0:opx tw4.1 6=some (.store 46 (.tmp 7) (.tmp 26),none,none):=by kernel_rfl
theorem Ew8{kk:Sl}{rg:Rg}{kc:List UInt8}{hv:Hv}{L1 L2:List UInt8}{n3 n5:Nat}{a:Act}{w:World}{Q:Exit→Act→World→Prop}(hsz:33≤a.tmps.size)
 (e2:a.tmps.getD 2 undef=.slice kk.a kk.l.length kk.c) (e3:a.tmps.getD 3 undef=.pointer (some ⟨n3,0,none⟩)) (e5:a.tmps.getD 5 undef=.pointer (some ⟨n5,0,none⟩))
 (hP:∀c a d v w,Q (.panic c) (Act.put a d v) w→Q (.panic c) a w) (B3:A5 32 w n3 rg.L) (B5:A5 42 w n5 hv.L)
 (HN:∀u,Calls Tryz.prog 120 #[] u fun x w'=>∃s1_ s2_,x=.returned (.agg #[.slice s1_.a s1_.l.length s1_.c,.slice s2_.a s2_.l.length s2_.c])∧As4 w' s1_ s2_ L1 L2∧Below u.heap.size u w')
 (hQ:∀{x22 x23 x24 x25 x26} z s1_ s2_ w',As4 w' s1_ s2_ L1 L2→A5 46 w' z (A7 (exE kk s1_ s2_ rg kc hv))→w.heap.size≤z→Below w.heap.size w w'→Q .normal (C4 a Ay3 [x22,x23,x24,x25,x26,.pointer (some ⟨z,0,none⟩)]) w'):
 (Code.region 4 tw4.1 true).wp Tryz.prog Q a w:=by
 have rG:Rgn tw4.1 Ay3 a Q:=⟨fun k hk=>Nat.lt_of_lt_of_le ((by decide:∀k∈Ay3,k<33) k hk) hsz,by kernel_rfl,hP⟩;have hb:=rG.b;obtain⟨i,h0⟩:=T4 a Ay3;let S:World→Prop:=fun w'=>A5 32 w' n3 rg.L∧A5 42 w' n5 hv.L;refine wp_region_held_drew (S:=S) (by kernel_rfl) (⟨B3.up (bd _),B5.up (bd _)⟩) fun hHeld=>?_;have N1_5_6:∀(u:World) (s1_:Sl) (s2_:Sl) (z:Nat) (G:Below w.heap.size w u) (ST:As4 u s1_ s2_ L1 L2) (B7:A5 46 u z (A7 (exE kk s1_ s2_ rg kc hv))) (Lz:w.heap.size≤z),wpAnyH Tryz.prog .any tw4.1 Q S 0 (lm 7 127) (C4 a Ay3 [.slice kk.a kk.l.length kk.c,.agg #[.slice s1_.a s1_.l.length s1_.c,.slice s2_.a s2_.l.length s2_.c],.agg (rg.L).toArray,.agg (hv.L).toArray,.agg (A7 (exE kk s1_ s2_ rg kc hv)).toArray,pt z 0]) u:=by
  intro u s1_ s2_ z G ST B7 Lz;refine Q4 ?_;exact hQ _ _ _ _ ST B7 Lz G
 have N1_5:∀(u:World) (s1_:Sl) (s2_:Sl) (z:Nat) (G:Below w.heap.size w u) (ST:As4 u s1_ s2_ L1 L2) (Z:A5 46 u z X8) (Lz:w.heap.size≤z),wpAnyH Tryz.prog .any tw4.1 Q S 1 (lm 7 63) (C4 a Ay3 [.slice kk.a kk.l.length kk.c,.agg #[.slice s1_.a s1_.l.length s1_.c,.slice s2_.a s2_.l.length s2_.c],.agg (rg.L).toArray,.agg (hv.L).toArray,.agg (A7 (exE kk s1_ s2_ rg kc hv)).toArray,pt z 0]) u:=by
  intro u s1_ s2_ z G ST Z Lz;refine D5 [6] (C9 rG Fd0 ?_ AllReadyH.nil);intro o hp hd;refine Aa3 46 (.tmp 7) (.tmp 26) hp z (cs:=A7 (exE kk s1_ s2_ rg kc hv)) rG.ev rG.ev Z (by rw[G6];exact K6) (by rw[Ac5,G6]) (Ae6 _) ?_;exact Ab6 rG [] hd ⟨(B3.up G).rowOther z (Nat.ne_of_lt (Nat.lt_of_lt_of_le B3.blk.lt Lz)) _,(B5.up G).rowOther z (Nat.ne_of_lt (Nat.lt_of_lt_of_le B5.blk.lt Lz)) _⟩ trivial (N1_5_6 _ _ _ _ (F5 G Lz _) (ST.k8 (Z.k8 (by rfl) ((Kp.refl _ _).row _))) (Z.row _) Lz)
 have N1:∀(u:World) (s1_:Sl) (s2_:Sl) (G:Below w.heap.size w u) (ST:As4 u s1_ s2_ L1 L2),wpAnyH Tryz.prog .any tw4.1 Q S 2 (lm 7 31) (C4 a Ay3 [.slice kk.a kk.l.length kk.c,.agg #[.slice s1_.a s1_.l.length s1_.c,.slice s2_.a s2_.l.length s2_.c],.agg (rg.L).toArray,.agg (hv.L).toArray,.agg (A7 (exE kk s1_ s2_ rg kc hv)).toArray,i 7]) u:=by
  intro u s1_ s2_ G ST;refine D5 [5] (C9 rG Ee5 ?_ AllReadyH.nil);intro o hp hd;refine M8 46 hp Ee3 ?_;exact F9 rG [] hd ⟨B3.up (bt G (ba _ _)),B5.up (bt G (ba _ _))⟩ trivial (N1_5 _ _ _ _ (bt G (ba _ _)) (ST.up (ba _ _)) (A5.new u X8 _) G.size)
 have N5:∀(u:World) (z:Nat) (G:Below w.heap.size w u) (Z:A5 46 u z X8) (Lz:w.heap.size≤z),wpAnyH Tryz.prog .any tw4.1 Q S 3 (lm 7 45) (C4 a Ay3 [.slice kk.a kk.l.length kk.c,i 23,.agg (rg.L).toArray,.agg (hv.L).toArray,i 26,pt z 0]) u:=by
  intro u z G Z Lz;refine D5 [1] (C9 rG Ee4 ?_ AllReadyH.nil);intro o hp hd;refine J7 hp (by simp only[List.map_toArray,List.map_nil]) (HN u) ?_;rintro x u1 ⟨s1_,s2_,rfl,hst,hb1⟩;refine⟨_,rfl,?_⟩;exact F9 rG [(4,26,.agg (A7 (exE kk s1_ s2_ rg kc hv)).toArray)] hd ⟨B3.up (bt G hb1),B5.up (bt G hb1)⟩ ⟨Ai9 #[(1,.slice kk.a kk.l.length kk.c),(2,i6 3),(3,.agg #[.slice s1_.a s1_.l.length s1_.c,.slice s2_.a s2_.l.length s2_.c]),(4,i6 (-1)),(5,i6 3),(6,i6 4),(7,i6 4),(10,.agg (rg.L).toArray),(15,.agg (hv.L).toArray)] rfl,trivial⟩ (N1_5 _ _ _ _ (bt G hb1) hst (Z.up hb1) Lz)
 have N0:∀(u:World) (G:Below w.heap.size w u),wpAnyH Tryz.prog .any tw4.1 Q S 4 (lm 7 13) (C4 a Ay3 [.slice kk.a kk.l.length kk.c,i 23,.agg (rg.L).toArray,.agg (hv.L).toArray,i 26,i 7]) u:=by
  intro u G;refine D5 [1,5] (C9 rG Ee4 ?_ (C9 rG Ee5 ?_ AllReadyH.nil))
  ·intro o hp hd;refine J7 hp (by simp only[List.map_toArray,List.map_nil]) (HN u) ?_;rintro x u1 ⟨s1_,s2_,rfl,hst,hb1⟩;refine⟨_,rfl,?_⟩;exact F9 rG [(4,26,.agg (A7 (exE kk s1_ s2_ rg kc hv)).toArray)] hd ⟨B3.up (bt G hb1),B5.up (bt G hb1)⟩ ⟨Ai9 #[(1,.slice kk.a kk.l.length kk.c),(2,i6 3),(3,.agg #[.slice s1_.a s1_.l.length s1_.c,.slice s2_.a s2_.l.length s2_.c]),(4,i6 (-1)),(5,i6 3),(6,i6 4),(7,i6 4),(10,.agg (rg.L).toArray),(15,.agg (hv.L).toArray)] rfl,trivial⟩ (N1 _ _ _ (bt G hb1) hst)
  intro o hp hd;refine M8 46 hp Ee3 ?_;exact F9 rG [] hd ⟨B3.up (bt G (ba _ _)),B5.up (bt G (ba _ _))⟩ trivial (N5 _ _ (bt G (ba _ _)) (A5.new u X8 _) G.size)
 exact J8 7 rG [(0,22,.slice kk.a kk.l.length kk.c),(2,24,.agg (rg.L).toArray),(3,25,.agg (hv.L).toArray)] h0 ⟨B3.up (bd _),B5.up (bd _)⟩ ⟨A9 rfl e2,P9 (cs:=rg.L) rfl (fun w hw=>hw.1.atAll) Aa5 e3,P9 (cs:=hv.L) rfl (fun w hw=>hw.2.atAll) (by kernel_rfl) e5,trivial⟩ (N0 _  (bd w))
noncomputable def tw9:{ops:Array Oper//(Tryz.f52.body.bind (L9 9))=some (.region 9 ops true)}:=⟨_,rfl⟩
abbrev Bf1:List Nat:=[31,32]
theorem Fd1:opx tw9.1 2=some (.store 46 (.tmp 0) (.tmp 31),none,none):=by kernel_rfl
theorem Fd2:opx tw9.1 3=some (.store 46 (.tmp 1) (.tmp 32),none,none):=by kernel_rfl
theorem Ew9{A B:Ev}{n0 n1 n7 n8:Nat}{w0:World}{a:Act}{w:World}{Q:Exit→Act→World→Prop}(hsz:33≤a.tmps.size)
 (e0:a.tmps.getD 0 undef=.pointer (some ⟨n0,0,none⟩)) (e1:a.tmps.getD 1 undef=.pointer (some ⟨n1,0,none⟩)) (e7:a.tmps.getD 7 undef=.pointer (some ⟨n7,0,none⟩)) (e8:a.tmps.getD 8 undef=.pointer (some ⟨n8,0,none⟩))
 (hP:∀c a d v w,Q (.panic c) (Act.put a d v) w→Q (.panic c) a w) (B0:A5 46 w n0 X8) (B1:A5 46 w n1 X8) (B7:A5 46 w n7 (A7 A)) (B8:A5 46 w n8 (A7 B))
 (N01:n0≠n1) (N07:n0≠n7) (N08:n0≠n8) (N17:n1≠n7) (N18:n1≠n8) (L0:w0.heap.size≤n0) (L1:w0.heap.size≤n1) (G:Below w0.heap.size w0 w) (EA:W6 (fun _=>False) w A)
 (hQ:∀{x31 x32} w',A5 46 w' n0 (A7 A)→A5 46 w' n1 (A7 B)→W6 (fun _=>False) w' A→Below w0.heap.size w0 w'→Q .normal (C4 a Bf1 [x31,x32]) w'):
 (Code.region 9 tw9.1 true).wp Tryz.prog Q a w:=by
 have rG:Rgn tw9.1 Bf1 a Q:=⟨fun k hk=>Nat.lt_of_lt_of_le ((by decide:∀k∈Bf1,k<33) k hk) hsz,by kernel_rfl,hP⟩;have hb:=rG.b;obtain⟨i,h0⟩:=T4 a Bf1;let S:World→Prop:=fun w'=>A5 46 w' n7 (A7 A)∧A5 46 w' n8 (A7 B);refine wp_region_held_drew (S:=S) (by kernel_rfl) (⟨B7.up (bd _),B8.up (bd _)⟩) fun hHeld=>?_;have N2_3:∀(u:World) (G:Below w0.heap.size w0 u) (S2:A5 46 u n7 (A7 A)∧A5 46 u n8 (A7 B)) (B0:A5 46 u n0 (A7 A)) (B1:A5 46 u n1 (A7 B)) (EA:W6 (fun _=>False) u A),wpAnyH Tryz.prog .any tw9.1 Q S 0 (lm 4 15) (C4 a Bf1 [.agg (A7 A).toArray,.agg (A7 B).toArray]) u:=by
  intro u G S2 B0 B1 EA;refine Q4 ?_;exact hQ _ B0 B1 EA G
 have N2:∀(u:World) (G:Below w0.heap.size w0 u) (S2:A5 46 u n7 (A7 A)∧A5 46 u n8 (A7 B)) (B0:A5 46 u n0 (A7 A)) (B1:A5 46 u n1 X8) (EA:W6 (fun _=>False) u A),wpAnyH Tryz.prog .any tw9.1 Q S 1 (lm 4 7) (C4 a Bf1 [.agg (A7 A).toArray,.agg (A7 B).toArray]) u:=by
  intro u G S2 B0 B1 EA;refine D5 [3] (C9 rG Fd2 ?_ AllReadyH.nil);intro o hp hd;refine Aa3 46 (.tmp 1) (.tmp 32) hp n1 (rG.ev e1) rG.ev B1 (by rw[G6];exact K6) (by rw[Ac5,G6]) (Ae6 _) ?_;exact Ab6 rG [] hd ⟨S2.1.kp ((Kp.refl n1 u).row _) N17.symm,S2.2.kp ((Kp.refl n1 u).row _) N18.symm⟩ trivial (N2_3 _  (((Kp.refl n1 u).row _).below G L1) ⟨S2.1.kp ((Kp.refl n1 u).row _) N17.symm,S2.2.kp ((Kp.refl n1 u).row _) N18.symm⟩ (B0.kp ((Kp.refl n1 u).row _) N01) (B1.row _) (EA.k8 (B1.k8 (by rfl) ((Kp.refl n1 u).row _)) fun g hg=>hg.elim))
 have N0:∀(u:World) (G:Below w0.heap.size w0 u) (S2:A5 46 u n7 (A7 A)∧A5 46 u n8 (A7 B)) (B0:A5 46 u n0 X8) (B1:A5 46 u n1 X8) (EA:W6 (fun _=>False) u A),wpAnyH Tryz.prog .any tw9.1 Q S 2 (lm 4 3) (C4 a Bf1 [.agg (A7 A).toArray,.agg (A7 B).toArray]) u:=by
  intro u G S2 B0 B1 EA;refine D5 [2] (C9 rG Fd1 ?_ AllReadyH.nil);intro o hp hd;refine Aa3 46 (.tmp 0) (.tmp 31) hp n0 (rG.ev e0) rG.ev B0 (by rw[G6];exact K6) (by rw[Ac5,G6]) (Ae6 _) ?_;exact Ab6 rG [] hd ⟨S2.1.kp ((Kp.refl n0 u).row _) N07.symm,S2.2.kp ((Kp.refl n0 u).row _) N08.symm⟩ trivial (N2 _  (((Kp.refl n0 u).row _).below G L0) ⟨S2.1.kp ((Kp.refl n0 u).row _) N07.symm,S2.2.kp ((Kp.refl n0 u).row _) N08.symm⟩ (B0.row _) (B1.kp ((Kp.refl n0 u).row _) N01.symm) (EA.k8 (B0.k8 (by rfl) ((Kp.refl n0 u).row _)) fun g hg=>hg.elim))
 exact J8 4 rG [(0,31,.agg (A7 A).toArray),(1,32,.agg (A7 B).toArray)] h0 ⟨B7.up (bd _),B8.up (bd _)⟩ ⟨P9 (cs:=A7 A) rfl (fun w hw=>hw.1.atAll) (by rw[G6];exact K6) e7,P9 (cs:=A7 B) rfl (fun w hw=>hw.2.atAll) (by rw[G6];exact K6) e8,trivial⟩ (N0 _  (bt G (bd _)) ⟨B7.up (bd _),B8.up (bd _)⟩ (B0.up (bd _)) (B1.up (bd _)) (EA.mono (bd _)))
theorem Dr2{P:Program}{fn:Func}{p r:Tmp}{ty tz:TypeId}(h:fn.results=#[.cell p ty,.cell r tz])(tmps:Array Value)(w:World)(g g2:Nat){cs ds:List Value}{d d2:TypeDesc}
 (hp:tmps.getD p undef=.pointer (some ⟨g,0,none⟩)) (hp2:tmps.getD r undef=.pointer (some ⟨g2,0,none⟩)) (hb:Blk w g cs) (hu:P.underlying ty=some d) (hd:(match d with | .struct _ | .array _ _=>true | _=>false)=true) (hi:(P.info? ty).map (·.size)=some cs.length)
 (hb2:Blk w g2 ds) (hu2:P.underlying tz=some d2) (hd2:(match d2 with | .struct _ | .array _ _=>true | _=>false)=true) (hi2:(P.info? tz).map (·.size)=some ds.length):
 (results fn tmps).run P w=.ok (.tuple #[.agg cs.toArray,.agg ds.toArray]) w:=by
 obtain⟨T,hg⟩:=hb;obtain⟨T2,hg2⟩:=hb2;have h1:=run_loadVar_row (P:=P) w g T ty cs.toArray _ d hg hu hd (by simpa using hi);have h2:=run_loadVar_row (P:=P) w g2 T2 tz ds.toArray _ d2 hg2 hu2 hd2 (by simpa using hi2);have e:(results fn tmps).run P w=((asAddr (tmps.getD p undef)).run P w).andThen fun a w₁=>((loadVar ty a).run P w₁).andThen fun v' w₂=>((asAddr (tmps.getD r undef)).run P w₂).andThen fun a2 w₃=>((loadVar tz a2).run P w₃).andThen fun v3 w₄=>.ok (.tuple #[v',v3]) w₄:=by
  simp only[results,h];simp[Sem.run_bind,Result.andThen]
 rw[e,hp,hp2];simp[asAddr,h1,h2]
def Fi9(w:World)(x:Ending)(w':World):Prop:=
 ∃k s1 s2 b cb,x=.returned (.tuple #[.agg (A7 (exE k s1 s2 ⟨⟨1,b,32,cb⟩,G0,G0,0,1⟩ (Be1 Al4 3 4 1 []) M4)).toArray,.agg (A7 (twE (exE k s1 s2 ⟨⟨1,b,32,cb⟩,G0,G0,0,1⟩ (Be1 Al4 3 4 1 []) M4))).toArray])∧
  W6 (fun _=>False) w' (exE k s1 s2 ⟨⟨1,b,32,cb⟩,G0,G0,0,1⟩ (Be1 Al4 3 4 1 []) M4)∧k.l=Al4∧s1.l=As6 1∧s2.l=An8∧Below w.heap.size w w'
theorem Fd3{w:World}{k s1 s2:Sl}{b:Option Addr}{cb:Nat}{K:List UInt8}(hk:Aq2 w k)(hs:As4 w s1 s2 (As6 1) An8)(hb:A4 w b K)(hKl:K.length=32)(hc:32≤cb∧cb≤maxLen):W6 (fun _=>False) w (exE k s1 s2 ⟨⟨1,b,32,cb⟩,G0,G0,0,1⟩ K M4):=
 ⟨hk,hs.h1,hs.h2,⟨hKl.symm,hb,rfl,.inl rfl,rfl,.inl rfl⟩,hc,⟨Nat.le_refl _,Nat.zero_le _⟩,⟨Nat.le_refl _,Nat.zero_le _⟩,.inl rfl,⟨Nat.le_refl _,Nat.zero_le _⟩,Ag7.nil _ w _,⟨Nat.le_refl _,Nat.zero_le _⟩,Er4 M4 w (by
   intro i hi;rcases(by omega:i=0∨i=1∨i=2∨i=3) with rfl | rfl | rfl | rfl<;>kernel_rfl),fun i hi=>by
   rcases(by omega:i=0∨i=1∨i=2∨i=3) with rfl | rfl | rfl | rfl<;>exact Nat.zero_le _,⟨[],rfl,.inl rfl,fun i hi=>absurd hi (Nat.not_lt_zero i)⟩,⟨Nat.le_refl _,Nat.zero_le _⟩,⟨[],rfl,.inl rfl,fun i hi=>absurd hi (Nat.not_lt_zero i)⟩,⟨Nat.le_refl _,Nat.zero_le _⟩,(by decide:(-9223372036854775808:Int)≤0∧(0:Int)≤9223372036854775807)⟩
theorem Ee6(w:World):Calls Tryz.prog 52 #[] w (Fi9 w):=by
 have HK:=Lh (fun(W:World) (a:Option Addr) (ha:A4 W a Al4)=>(show Calls Tryz.prog 47 #[.slice a 32 32,.agg #[.int .i64 3,.int .i64 4],.int .i64 1,.slice none 0 0] W (At7 W (Be1 Al4 3 4 1 [])) from Dy4 a none 32 0 Al4 [] 3 4 1 (by decide) (by decide) ⟨Nat.le_refl _,Nat.zero_le _⟩ (by decide) (by decide) (by decide) W ha (.inl rfl)));have HN:=Lh (fun(W:World) (b:Option Addr) (cb:Nat)=>(show Calls Tryz.prog 118 #[.slice b 32 cb] W fun x w'=>x=.returned (.tuple #[.agg (Rg.L ⟨⟨1,b,32,cb⟩,G0,G0,0,1⟩).toArray,.int .i64 0])∧Below W.heap.size W w' from Ch3 ⟨0,b,32,cb⟩ W));have HR:=Lh (fun(W:World)=>(show Calls Tryz.prog 119 #[.agg T7.L.toArray,.int .i64 0] W fun x w'=>x=.returned (.tuple #[.agg M4.L.toArray,.int .i64 0])∧Below W.heap.size W w' from by
  have h:=Cn4 T7 0 W;rw[Dr0] at h;exact h))
 have SE:=Lh (show ∀E:Ev,(Tryz.prog.info? 46).map (·.size)=some (A7 E).length from fun E=>by rw[G6];exact K6);have SR:=Lh Aa5;have SH:=Lh (show(Tryz.prog.info? 42).map (·.size)=some M4.L.length by kernel_rfl);have hm:=Fk7;have hp:=Cw7;have hh:=Ew7;unfold At7 at HK;go_enter Tryz.func52,Tryz.ntmps52
 go_upto_region 1 with(fail)
 generalize hW:World.alloc (World.alloc w _) _=W;obtain⟨B0,B1,hb⟩:=Ag8 (a:=X8) (b:=X8) hW;clear hW;have B0:=Lh B0;have B1:=Lh B1;have G:=Lh hb;clear hb;have N01:=Lh (show w.heap.size≠w.heap.size+1 by omega);have L0:=Lh (show w.heap.size≤w.heap.size by omega);have L1:=Lh (show w.heap.size≤w.heap.size+1 by omega);generalize w.heap.size+1=n1 at B1 N01 L1 ⊢;generalize hn0:w.heap.size=n0 at B0 N01 ⊢;replace L0:=Lh (show w.heap.size≤n0 by omega);clear hn0;go_upto_region 2 with(fail)
 generalize hW2:World.alloc W _=W2;have QK:=Lh (show A4 W2 (some ⟨W.heap.size,0,none⟩) Al4 from by rw[←hW2];exact S8 W (B8s Al4) _);have hb:Below W.heap.size W W2:=by rw[←hW2];exact ba W _
 clear hW2;replace B0:=Lh (B0.out.up hb);replace B1:=Lh (B1.out.up hb);replace G:=Lh (bt G.out hb);clear hb;generalize (some ⟨W.heap.size,0,none⟩:Option Addr)=ka at QK ⊢;go_wp2_with fail
 refine(HK.out _ _ QK.out).mono ?_;rintro x w3 ⟨b,cb,rfl,hc,hkb,hb⟩;have C:=Lh hc;have QB:=Lh hkb;replace B0:=Lh (B0.out.up hb);replace B1:=Lh (B1.out.up hb);replace G:=Lh (bt G.out hb);replace QK:=Lh (A4.up8 QK.out hb);clear hb hc hkb HK;go_wp2_with fail
 refine(HN.out _ _ _).mono ?_;rintro x w4 ⟨rfl,hb⟩;replace B0:=Lh (B0.out.up hb);replace B1:=Lh (B1.out.up hb);replace G:=Lh (bt G.out hb);replace QK:=Lh (A4.up8 QK.out hb);replace QB:=Lh (A4.up8 QB.out hb);clear hb HN;go_upto_region 3 with(refine G9 32 _ _ rfl ?_;refine I4 32 _ _ _ (cs:=Rg.L ⟨⟨1,b,32,cb⟩,G0,G0,0,1⟩) rfl rfl rfl rfl (A5.new _ _ _) SR.out rfl (by rfl) ?_;intro w5 hBn hK;have B3:=Lh hBn;have N0_3:=Lh (Nat.ne_of_lt B0.out.blk.lt);have N1_3:=Lh (Nat.ne_of_lt B1.out.blk.lt);replace B0:=Lh ((B0.out.up (ba _ _)).kp hK N0_3.out);replace B1:=Lh ((B1.out.up (ba _ _)).kp hK N1_3.out);replace QK:=Lh (A4.up8 QK.out (hK.below (ba _ _) (Nat.le_refl _)));replace QB:=Lh (A4.up8 QB.out (hK.below (ba _ _) (Nat.le_refl _)));have L3:=Lh G.out.size;replace G:=Lh (hK.below (bt G.out (ba _ _)) G.out.size);clear hBn hK)
 generalize w4.heap.size=n3 at B3 ⊢;clear N0_3 N1_3 L3;go_wp2_with fail
 refine(HR.out _).mono ?_;rintro x w6 ⟨rfl,hb⟩;replace B0:=Lh (B0.out.up hb);replace B1:=Lh (B1.out.up hb);replace B3:=Lh (B3.out.up hb);replace G:=Lh (bt G.out hb);replace QK:=Lh (A4.up8 QK.out hb);replace QB:=Lh (A4.up8 QB.out hb);clear hb HR;go_upto_region 4 with(refine G9 42 _ _ rfl ?_;refine I4 42 _ _ _ (cs:=M4.L) rfl rfl rfl rfl (A5.new _ _ _) SH.out rfl (by rfl) ?_;intro w7 hBn hK;have B5:=Lh hBn;have N0_5:=Lh (Nat.ne_of_lt B0.out.blk.lt);have N1_5:=Lh (Nat.ne_of_lt B1.out.blk.lt);have N3_5:=Lh (Nat.ne_of_lt B3.out.blk.lt);replace B0:=Lh ((B0.out.up (ba _ _)).kp hK N0_5.out);replace B1:=Lh ((B1.out.up (ba _ _)).kp hK N1_5.out);replace B3:=Lh ((B3.out.up (ba _ _)).kp hK N3_5.out);replace QK:=Lh (A4.up8 QK.out (hK.below (ba _ _) (Nat.le_refl _)));replace QB:=Lh (A4.up8 QB.out (hK.below (ba _ _) (Nat.le_refl _)));have L5:=Lh G.out.size;replace G:=Lh (hK.below (bt G.out (ba _ _)) G.out.size);clear hBn hK)
 generalize w6.heap.size=n5 at B5 ⊢;clear N0_5 N1_5 N3_5 L5;refine Ew8 (kk:=⟨ka,32,Al4⟩) (rg:=⟨⟨1,b,32,cb⟩,G0,G0,0,1⟩) (kc:=Be1 Al4 3 4 1 []) (hv:=M4) (L1:=As6 1) (L2:=An8) (Nat.le_refl _) rfl rfl rfl (fun _ _ d _ _ h=>by cases d<;>exact h) B3.out B5.out (fun u=>Cu3 u) ?_;intro x22 x23 x24 x25 x26 n7 s1 s2 w8 hst hB7 hL7 hb;have ST:=Lh hst;have B7:=Lh hB7;have L7:=Lh (show w.heap.size≤n7 from Nat.le_trans G.out.size hL7);have N07:=Lh (show n0≠n7 from Nat.ne_of_lt (Nat.lt_of_lt_of_le B0.out.blk.lt hL7));have N17:=Lh (show n1≠n7 from Nat.ne_of_lt (Nat.lt_of_lt_of_le B1.out.blk.lt hL7));replace B0:=Lh (B0.out.up hb);replace B1:=Lh (B1.out.up hb);replace G:=Lh (bt G.out hb);replace QK:=Lh (A4.up8 QK.out hb);replace QB:=Lh (A4.up8 QB.out hb);clear hb hst hB7 hL7 B3 B5;simp only[C4,Act.put,List.setIfInBounds_toArray,List.set_cons_zero,List.set_cons_succ];have EA:=Lh (Fd3 (k:=⟨ka,32,Al4⟩) ⟨QK.out,Nat.le_refl _,(by decide:32≤maxLen)⟩ ST.out QB.out (Em6 _ _ _ _ _) C.out);have Fs:=Lh (And.intro ST.out.e1 ST.out.e2);clear ST QK QB C;obtain⟨A,hA⟩:∃A,A=exE ⟨ka,32,Al4⟩ s1 s2 ⟨⟨1,b,32,cb⟩,G0,G0,0,1⟩ (Be1 Al4 3 4 1 []) M4:=⟨_,rfl⟩;rw[←hA] at B7 EA;have HA:=Lh hA;clear hA;go_upto_region 6 with(first
  | (refine F7 46 (.tmp 7) rfl ?_;refine C8 46 (.tmp 7) n7 rfl rfl rfl B7.out.blk Tryz.underlying46 rfl (SE.out _) ?_)
  | (refine G9 46 _ _ rfl ?_;refine I4 46 _ _ _ (cs:=A7 A) rfl rfl rfl rfl (A5.new _ _ _) (SE.out _) (by rw[G6];exact Ac5) (Ae6 _) ?_;intro w9 hBn hK;have B8:=Lh hBn;have N08:=Lh (Nat.ne_of_lt B0.out.blk.lt);have N18:=Lh (Nat.ne_of_lt B1.out.blk.lt);have N78:=Lh (Nat.ne_of_lt B7.out.blk.lt);replace B0:=Lh ((B0.out.up (ba _ _)).kp hK N08.out);replace B1:=Lh ((B1.out.up (ba _ _)).kp hK N18.out);replace B7:=Lh ((B7.out.up (ba _ _)).kp hK N78.out);replace EA:=Lh (EA.out.mono (hK.below (ba _ _) (Nat.le_refl _)));have L8:=Lh G.out.size;replace G:=Lh (hK.below (bt G.out (ba _ _)) G.out.size);clear hBn hK))
 generalize w8.heap.size=n8 at B8 N08 N18 N78 L8 ⊢;go_upto_region 9 with(first
  | (refine G9 3 (.tmp 28) (.const (.int .i64 1)) rfl ?_;refine S5 3 (.tmp 28) (.const (.int .i64 1)) n8 0 (v:=.int .i64 1) rfl rfl rfl rfl B8.out (by rw[G6];decide) (by kernel_rfl) rfl (Ct3 _ 1) ?_;intro wa hB hK;replace B7:=Lh (B7.out.kp hK N78.out);replace B0:=Lh (B0.out.kp hK N08.out);replace B1:=Lh (B1.out.kp hK N18.out);replace EA:=Lh (EA.out.k8 (B8.out.k8 (Bm9 _) hK) fun g hg=>hg.elim);replace B8:=Lh hB;replace G:=Lh (hK.below G.out L8.out);clear hB hK)
  | (refine G9 3 (.tmp 29) (.const (.int .i64 4)) rfl ?_;refine S5 3 (.tmp 29) (.const (.int .i64 4)) n8 6 (v:=.int .i64 4) rfl rfl rfl rfl B8.out (by rw[G6];decide) (by kernel_rfl) rfl (Be0 _ 4) ?_;intro wb hB hK;replace B7:=Lh (B7.out.kp hK N78.out);replace B0:=Lh (B0.out.kp hK N08.out);replace B1:=Lh (B1.out.kp hK N18.out);replace EA:=Lh (EA.out.k8 (B8.out.k8 (Bm9 _) hK) fun g hg=>hg.elim);replace B8:=Lh hB;replace G:=Lh (hK.below G.out L8.out);clear hB hK)
  | (refine G9 3 (.tmp 30) (.const (.int .i64 3)) rfl ?_;refine S5 3 (.tmp 30) (.const (.int .i64 3)) n8 7 (v:=.int .i64 3) rfl rfl rfl rfl B8.out (by rw[G6];decide) (by kernel_rfl) rfl (Ax6 _ 3) ?_;intro wc hB hK;replace B7:=Lh (B7.out.kp hK N78.out);replace B0:=Lh (B0.out.kp hK N08.out);replace B1:=Lh (B1.out.kp hK N18.out);replace EA:=Lh (EA.out.k8 (B8.out.k8 (Bm9 _) hK) fun g hg=>hg.elim);replace B8:=Lh hB;replace G:=Lh (hK.below G.out L8.out);clear hB hK))
 refine Ew9 (A:=A) (B:=twE A) (w0:=w) (Nat.le_refl _) rfl rfl rfl rfl (fun _ _ d _ _ h=>by cases d<;>exact h) B0.out B1.out B7.out B8.out N01.out N07.out N08.out N17.out N18.out L0.out L1.out G.out EA.out ?_;intro x31 x32 wd hB0 hB1 hEA hG;simp only[C4,Act.put,List.setIfInBounds_toArray,List.set_cons_zero,List.set_cons_succ];clear B0 B1 B7 B8 G EA;go_wp2_with fail
 (try simp only[Act.put,List.setIfInBounds_toArray,List.set_cons_zero,List.set_cons_succ])
 refine bodyPost_ret (Dr2 rfl _ _ n0 n1 (cs:=A7 A) (ds:=A7 (twE A)) rfl rfl hB0.blk Tryz.underlying46 rfl (SE.out _) hB1.blk Tryz.underlying46 rfl (SE.out _)) rfl ?_;rw[HA.out] at hEA ⊢;exact⟨_,_,_,_,_,rfl,hEA,rfl,Fs.out.1,Fs.out.2,hG⟩
def Ae7(e:Ev):Sv:=⟨e,true,false,none,0,[]⟩
def Dr3(e:Ev)(K:List UInt8)(ta:Option Addr)(tc:Nat)(oa:Option Addr)(oc:Nat):Sv:=Bh5 (Bs0 (Ae7 e) K exI 0 ta tc oa oc)
section
variable {k s1 s2:Sl} {b:Option Addr} {cb:Nat} {K:List UInt8}
theorem Ex0{S:Sv}{E:Int}(h:An5 (Ae7 (exE k s1 s2 (exR b cb) K M4)) [7] S E):E=0∧∃ta tc oa oc,S=Dr3 (exE k s1 s2 (exR b cb) K M4) K ta tc oa oc:=by
 have hI:Ca1 (Ae7 (exE k s1 s2 (exR b cb) K M4)) [7]=exI:=rfl;unfold An5 at h;rw[hI] at h;rcases h with⟨h,-⟩ | ⟨-,⟨h,-⟩ | ⟨-,⟨h,-⟩ | ⟨-,S1,hE,hS⟩⟩⟩
 ·exact absurd h (by decide)
 ·have:S0 (Ae7 (exE k s1 s2 (exR b cb) K M4)).e.ph=true:=by kernel_rfl
  rw[this] at h;cases h
 ·exact absurd h (show ¬(0:Int)=4611686018427387904 by decide)
 ·rcases hE with⟨hp,-⟩ | ⟨c,ta,tc,oa,oc,hp,h1,rfl⟩
  ·have:Ah7 (Ae7 (exE k s1 s2 (exR b cb) K M4)).e.h=some 0:=Er7;rw[this] at hp;cases hp
  ·have:Ah7 (Ae7 (exE k s1 s2 (exR b cb) K M4)).e.h=some 0:=Er7;rw[this] at hp;obtain rfl:0=c:=Option.some.inj hp;exact⟨rfl,ta,tc,oa,oc,by rw[hS,h1];rfl⟩
theorem Ex1:exI.length=31:=by unfold exI;rw[Bj7];rfl
theorem Ce5:(exX K).length=47:=by unfold exX;rw[List.length_append,Ex1,Ar6]
theorem Ex2:X5 J3 (An0 (exX K))=(J3,[exX K]):=by
 have hl:J9 (An0 (exX K))=47:=by
  unfold J9 An0;rw[Ce5];rfl
 have:=Dx4 0 (An0 (exX K)) (by rw[hl];decide) (by rw[hl];decide) (by rw[hl,Ba7,Ce5]);exact this
theorem Fd4(e:Ev)(ta:Option Addr)(tc:Nat)(oa:Option Addr)(oc:Nat)(ho:e.o=[]):(Dr3 e K ta tc oa oc).e.o=[(0,An0 (exX K))]:=by
 show e.o++[(((0:Nat):Int),An0 (exI++Ab8 K exI))]=_;rw[ho];rfl
end
def Fd5(w:World)(X:List UInt8)(x:Ending)(w':World):Prop:=
 ∃(f:Fv) (g o c:Nat) (p:Option Addr) (pc:Nat),x=.returned (.tuple #[f.v,.slice (some ⟨g,o,none⟩) 1 c])∧g<w'.heap.size∧w'.cell? ⟨g,o,none⟩=some (.slice p X.length pc)∧(X.length≤pc∧pc≤maxLen)∧A4 w' p X∧Below w.heap.size w w'
theorem Ep8(a:Option Addr)(cap:Nat)(K:List UInt8)(w:World)(h:A4 w a (An0 (exX K))):
 Calls Tryz.prog 24 #[An2.v,.slice a (An0 (exX K)).length cap] w (Fd5 w (exX K)):=
 (Ct0 An2 J3 a cap (An0 (exX K)) w 0 (Nat.zero_le _) (.inl rfl) (Al1 w) (by kernel_rfl) h (by rw[Ba7,Ce5];decide)).mono fun x w' hx=>by
   rw[Ex2] at hx;obtain⟨f,a2,c,vs,h1,h2,h3,h4,h5,hb⟩:=hx;have hR:W5 w' a2 [exX K]:=⟨vs,h4.at,h5.of⟩;obtain⟨g,o,p,pc,rfl,hg,hc,hl,hm,hB⟩:=hR.row 0 (Nat.zero_lt_succ _);exact⟨f,g,o,c,p,pc,h1,hg,hc,⟨hl,hm⟩,hB,hb⟩
end Go.Proofs.YtadpiemjgfndgaaGreatDoor
