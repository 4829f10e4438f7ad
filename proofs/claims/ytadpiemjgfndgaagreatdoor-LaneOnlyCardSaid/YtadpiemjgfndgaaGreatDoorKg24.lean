/- Proved here, for use further on: LfF LfH LfG LfI. Conditions: none but those each theorem names. -/
import Derived.Test.YtadpiemjgfndgaaGreatDoorKg00
import Derived.Test.YtadpiemjgfndgaaGreatDoorKg22
import Derived.Test.YtadpiemjgfndgaaGreatDoorKg12
import Derived.Test.YtadpiemjgfndgaaGreatDoorKg08
import Derived.Test.YtadpiemjgfndgaaGreatDoorKg16
import Derived.Test.YtadpiemjgfndgaaGreatDoorKg21
import Derived.Test.YtadpiemjgfndgaaGreatDoorKg20
import Derived.Test.YtadpiemjgfndgaaGreatDoorKg13
import Derived.Test.YtadpiemjgfndgaaGreatDoorKg17
import Derived.Test.YtadpiemjgfndgaaGreatDoorKg18
set_option linter.unusedSimpArgs false
set_option linter.unusedVariables false
set_option maxRecDepth 100000
set_option maxHeartbeats 8000000
namespace Go.Proofs.YtadpiemjgfndgaaGreatDoor
open Go.RowKit
def Ap6(e:Ev):Bool:=decide (∀j,j<e.o.length→(e.o.getD j (0,[])).2.length≤1100)
def Ap7(e:Ev):Bool:=decide (∀j,j<e.g.length→(e.g.getD j default).b.length≤1000)
def Bv2(e:Ev):Bool:=Bc3 e.s1.l e.s2.l&&(Cb3 e.r&&(Bk4 e.h&&(decide (e.k.l.length≤100)&&(decide (e.q.body.length≤1000)&&(decide (Af7 e.u≤9000)&&(decide (e.o.length≤20)&&(decide (e.g.length≤40)&&(Ap6 e&&Ap7 e))))))))
theorem Cn6(e:Ev)(w:World)(h:Ae9 w e):Calls Tryz.prog 37 #[.agg (A7 e).toArray] w (D9 w (Bv2 e)):=by
 have P1:=Lh (fun(W:World) (hb:Below w.heap.size w W)=>(show Calls Tryz.prog 87 #[.agg #[.slice e.s1.a e.s1.l.length e.s1.c,.slice e.s2.a e.s2.l.length e.s2.c]] W (D9 W (Bc3 e.s1.l e.s2.l)) from Dt6 _ _ _ W (Bd2 (h.mono hb))));have P2:=Lh (fun(W:World)=>(show Calls Tryz.prog 88 #[.agg e.r.L.toArray] W (D9 W (Cb3 e.r)) from Cz9 e.r W));have P3:=Lh (fun(W:World)=>(show Calls Tryz.prog 89 #[.agg e.h.L.toArray] W (D9 W (Bk4 e.h)) from Ei3 e.h h.hl W));have P4:=Lh (fun(W:World) (hb:Below w.heap.size w W)=>(show Calls Tryz.prog 90 #[.slice e.ua e.u.length e.uc,.int .i64 9000] W fun x w'=>x=.returned (.int .i64 (if Af7 e.u≤9000 then(Af7 e.u:Int) else 9001))∧w'=W from Ee8 e.ua e.uc e.u 9000 W (by decide) (Nat.le_trans h.ul.1 h.ul.2) (h.u.mono hb)));have HO:=Lh (fun(W:World) (hb:Below w.heap.size w W)=>h.o.mono hb);have HG:=Lh (fun(W:World) (hb:Below w.heap.size w W)=>h.g.mono hb);have hol:=h.ol;have hgl:=h.gl;unfold maxLen at hol hgl;have HF:=Lh (show Bv2 e=(Bc3 e.s1.l e.s2.l&&(Cb3 e.r&&(Bk4 e.h&&(decide (e.k.l.length≤100)&&(decide (e.q.body.length≤1000)&&(decide (Af7 e.u≤9000)&&(decide (e.o.length≤20)&&(decide (e.g.length≤40)&&(Ap6 e&&Ap7 e))))))))) from rfl);have HFo:=Lh (show Ap6 e=decide (∀j,j<e.o.length→(e.o.getD j (0,[])).2.length≤1100) from rfl);have HFg:=Lh (show Ap7 e=decide (∀j,j<e.g.length→(e.g.getD j default).b.length≤1000) from rfl);have SR:=Lh Ab1;have SH:=Lh (show(Tryz.prog.info? 42).map (·.size)=some e.h.L.length by kernel_rfl);unfold D9 at P1 P2 P3;generalize Bv2 e=R at HF ⊢;generalize Bc3 e.s1.l e.s2.l=s1 at P1 HF;generalize Cb3 e.r=s2 at P2 HF;generalize Bk4 e.h=s3 at P3 HF;obtain⟨V,hV⟩:∃V:Int,V=(if Af7 e.u≤9000 then(Af7 e.u:Int) else 9001):=⟨_,rfl⟩;rw[←hV] at P4;have hV2:decide (Af7 e.u≤9000)=decide (V≤9000):=by
  by_cases hh:Af7 e.u≤9000
  ·rw[decide_eq_true hh,decide_eq_true (by rw[hV,if_pos hh];omega)]
  ·rw[decide_eq_false hh,decide_eq_false (by rw[hV,if_neg hh];omega)]
 rw[hV2] at HF;clear h hV hV2;go_enter Tryz.func37,Tryz.ntmps37
 go_upto_region 1 with(fail)
 generalize hW:World.alloc w _=W;have B1:=Lh (show A5 46 W w.heap.size (A7 e) by rw[←hW];exact A5.new w (A7 e) _);have G:=Lh (show Below w.heap.size w W by rw[←hW];exact ba w _);clear hW;generalize hn1:w.heap.size=n1 at B1 ⊢;clear hn1;have y2:W.cell? ⟨n1,3,none⟩=some (.slice e.s1.a e.s1.l.length e.s1.c):=B1.out.blk.endIn.cell 3 (by decide);have z2:W.cell? ⟨n1,4,none⟩=some (.slice e.s2.a e.s2.l.length e.s2.c):=B1.out.blk.endIn.cell 4 (by decide);go_wp2_with fail
 refine(P1.out _ G.out).mono ?_;rintro x w1 ⟨rfl,hb⟩;replace B1:=Lh (B1.out.up hb);replace G:=Lh (bt G.out hb);clear hb P1 y2 z2;go_wp2_with (refine I2 32 (.tmp 11) rfl ?_;refine D5 32 (.tmp 11) n1 27 (by first | rfl | simp[Region.wanted,yielded]) rfl rfl B1.out.blk.endIn.at_r Tryz.underlying32 rfl SR.out ?_)
 refine(P2.out _).mono ?_;rintro x w2 ⟨rfl,hb⟩;replace B1:=Lh (B1.out.up hb);replace G:=Lh (bt G.out hb);clear hb P2;go_wp2_with (refine I2 42 (.tmp 14) rfl ?_;refine D5 42 (.tmp 14) n1 43 (by first | rfl | simp[Region.wanted,yielded]) rfl rfl B1.out.blk.endIn.at_h Tryz.underlying42 rfl SH.out ?_)
 refine(P3.out _).mono ?_;rintro x w3 ⟨rfl,hb⟩;replace B1:=Lh (B1.out.up hb);replace G:=Lh (bt G.out hb);clear hb P3;go_upto_region 4 with(fail)
 have ck:=B1.out.blk.endIn.k;have cq:=B1.out.blk.endIn.qbody;have cu:=B1.out.blk.endIn.u;have co:=B1.out.blk.endIn.o;have cg:=B1.out.blk.endIn.g;rcases s1 with _ | _
 ·have hR:R=false:=by rw[HF.out];rfl
  subst hR;go_wp2_with fail
  go_ret;exact⟨rfl,G.out⟩
 rcases s2 with _ | _
 ·have hR:R=false:=by rw[HF.out];rfl
  subst hR;go_wp2_with fail
  go_ret;exact⟨rfl,G.out⟩
 rcases s3 with _ | _
 ·have hR:R=false:=by rw[HF.out];rfl
  subst hR;go_wp2_with fail
  go_ret;exact⟨rfl,G.out⟩
 replace HF:=Lh (show R=(decide (e.k.l.length≤100)&&(decide (e.q.body.length≤1000)&&(decide (V≤9000)&&(decide (e.o.length≤20)&&(decide (e.g.length≤40)&&(Ap6 e&&Ap7 e)))))) by rw[HF.out];rfl);by_cases h0:e.k.l.length≤100;rotate_left
 ·have hR:R=false:=by rw[HF.out,decide_eq_false h0];rfl
  subst hR;have hd0:(100:Int)<(e.k.l.length:Int):=by omega
  clear h0;go_wp2_with fail
  go_ret;exact⟨rfl,G.out⟩
 have hd0:¬(100:Int)<(e.k.l.length:Int):=by omega
 replace HF:=Lh (show R=(decide (e.q.body.length≤1000)&&(decide (V≤9000)&&(decide (e.o.length≤20)&&(decide (e.g.length≤40)&&(Ap6 e&&(Ap7 e)))))) by rw[HF.out,decide_eq_true h0];rfl);by_cases h1:e.q.body.length≤1000;rotate_left
 ·have hR:R=false:=by rw[HF.out,decide_eq_false h1];rfl
  subst hR;have hd1:(1000:Int)<(e.q.body.length:Int):=by omega
  clear h1;go_wp2_with fail
  go_ret;exact⟨rfl,G.out⟩
 have hd1:¬(1000:Int)<(e.q.body.length:Int):=by omega
 replace HF:=Lh (show R=(decide (V≤9000)&&(decide (e.o.length≤20)&&(decide (e.g.length≤40)&&(Ap6 e&&(Ap7 e))))) by rw[HF.out,decide_eq_true h1];rfl);by_cases h2:V≤9000;rotate_left
 ·have hR:R=false:=by rw[HF.out,decide_eq_false h2];rfl
  subst hR;have hd2:(9000:Int)<V:=by omega
  clear h2;go_wp2_with fail
  refine(P4.out _ G.out).mono ?_;rintro x w4 ⟨rfl,rfl⟩;go_wp2_with fail
  go_ret;exact⟨rfl,G.out⟩
 have hd2:¬(9000:Int)<V:=by omega
 replace HF:=Lh (show R=(decide (e.o.length≤20)&&(decide (e.g.length≤40)&&(Ap6 e&&(Ap7 e)))) by rw[HF.out,decide_eq_true h2];rfl);by_cases h3:e.o.length≤20;rotate_left
 ·have hR:R=false:=by rw[HF.out,decide_eq_false h3];rfl
  subst hR;have hd3:(20:Int)<(e.o.length:Int):=by omega
  clear h3;go_wp2_with fail
  refine(P4.out _ G.out).mono ?_;rintro x w4 ⟨rfl,rfl⟩;go_wp2_with fail
  go_ret;exact⟨rfl,G.out⟩
 have hd3:¬(20:Int)<(e.o.length:Int):=by omega
 replace HF:=Lh (show R=(decide (e.g.length≤40)&&(Ap6 e&&(Ap7 e))) by rw[HF.out,decide_eq_true h3];rfl);by_cases h4:e.g.length≤40;rotate_left
 ·have hR:R=false:=by rw[HF.out,decide_eq_false h4];rfl
  subst hR;have hd4:(40:Int)<(e.g.length:Int):=by omega
  clear h4;go_wp2_with fail
  refine(P4.out _ G.out).mono ?_;rintro x w4 ⟨rfl,rfl⟩;go_wp2_with fail
  go_ret;exact⟨rfl,G.out⟩
 have hd4:¬(40:Int)<(e.g.length:Int):=by omega
 replace HF:=Lh (show R=(Ap6 e&&(Ap7 e)) by rw[HF.out,decide_eq_true h4];rfl);go_wp2_with fail
 refine(P4.out _ G.out).mono ?_;rintro x w4 ⟨rfl,rfl⟩;go_upto_region 7 with(fail)
 clear ck cq cu hd0 hd1 hd2 hd3 hd4 h0 h1 h2 P4
 go_loopw [6] (fun v wr=>wr=w4∧∃j:Nat,j≤e.o.length∧v=.int .i64 (j:Int)∧∀t,t<j→(e.o.getD t (0,[])).2.length≤1100) (fun v _=>e.o.length-(intOf v).toNat)
 case atStart=>exact⟨rfl,0,Nat.zero_le _,rfl,fun t ht=>absurd ht (by omega)⟩
 case round=>
  obtain⟨rfl,j,hj,rfl,hno⟩:=hrel;have Hno:=Lh hno;clear hno;by_cases hlt:j<e.o.length
  ·obtain⟨g,off,hga,hg,hcs⟩:=(HO.out _ G.out).cell (by omega);obtain⟨p0,c0,x0,x1,-,-,-⟩:=hcs j hlt;have hd1:(j:Int)<(e.o.length:Int):=by omega
   have hd0:(0:Int)≤(j:Int):=by omega
   rw[hga] at co;obtain⟨n0,hn0⟩:∃n,n=(e.o.getD j (0,[])).2.length:=⟨_,rfl⟩;rw[←hn0] at x1;have Hn0:=Lh hn0;clear hcs hn0 x0;by_cases h0:n0≤1100
   ·have hd2:¬(1100:Int)<(n0:Int):=by omega
    go_wp2_with fail
    exact⟨⟨by trivial,j+1,by omega,by go_num,fun t ht=>by
     rcases Nat.lt_or_ge t j with h | h
     ·exact Hno.out t h
     ·rw[show t=j by omega,←Hn0.out];exact h0⟩,by simp[intOf];omega⟩
   ·have hd2:(1100:Int)<(n0:Int):=by omega
    have hRf:R=false:=by
     have hq:Ap6 e=false:=by
      rw[HFo.out,decide_eq_false];intro h;have:=h j hlt;rw[←Hn0.out] at this;omega
     rw[HF.out,hq];rfl
    subst hRf;go_wp2_with fail
    go_ret;exact⟨rfl,G.out⟩
  ·obtain rfl:j=e.o.length:=by omega
   replace HF:=Lh (show R=Ap7 e by rw[HF.out,show Ap6 e=true from by rw[HFo.out,decide_eq_true];exact Hno.out];rfl);clear Hno HFo HO;go_upto_region 12 with(fail)
   go_loopw [7] (fun v wq=>wq=wr∧∃j:Nat,j≤e.g.length∧v=.int .i64 (j:Int)∧∀t,t<j→(e.g.getD t default).b.length≤1000) (fun v _=>e.g.length-(intOf v).toNat)
   case atStart=>exact⟨rfl,0,Nat.zero_le _,rfl,fun t ht=>absurd ht (by omega)⟩
   case round=>
    obtain⟨rfl,j,hj,rfl,hno⟩:=hrel;have Hno:=Lh hno;clear hno;by_cases hlt:j<e.g.length
    ·obtain⟨g,off,hga,hg,hcs⟩:=(HG.out _ G.out).cell (by omega);obtain⟨p0,c0,x0,x1,x2,x3,x4,-,-,-⟩:=hcs j hlt;have hd1:(j:Int)<(e.g.length:Int):=by omega
     have hd0:(0:Int)≤(j:Int):=by omega
     rw[hga] at cg;obtain⟨n0,hn0⟩:∃n,n=(e.g.getD j default).b.length:=⟨_,rfl⟩;rw[←hn0] at x4;have Hn0:=Lh hn0;clear hcs hn0 x0 x1 x2 x3;by_cases h0:n0≤1000
     ·have hd2:¬(1000:Int)<(n0:Int):=by omega
      go_wp2_with fail
      exact⟨⟨by trivial,j+1,by omega,by go_num,fun t ht=>by
       rcases Nat.lt_or_ge t j with h | h
       ·exact Hno.out t h
       ·rw[show t=j by omega,←Hn0.out];exact h0⟩,by simp[intOf];omega⟩
     ·have hd2:(1000:Int)<(n0:Int):=by omega
      have hRf:R=false:=by
       have hq:Ap7 e=false:=by
        rw[HFg.out,decide_eq_false];intro h;have:=h j hlt;rw[←Hn0.out] at this;omega
       rw[HF.out,hq]
      subst hRf;go_wp2_with fail
      go_ret;exact⟨rfl,G.out⟩
    ·obtain rfl:j=e.g.length:=by omega
     have hRt:R=true:=by rw[HF.out,HFg.out,decide_eq_true];exact Hno.out
     subst hRt;go_wp2_with fail
     go_ret;exact⟨rfl,G.out⟩
def Cb9(s:Sv):Bool:=Bv2 s.e&&(decide (Bt7 s.es 40)&&R1 s.e)
theorem Do5(s:Sv)(w:World)(h:An2 w s):Calls Tryz.prog 13 #[.agg (A6 s).toArray] w (D9 w (Cb9 s)):=by
 have P1:=Lh (fun(W:World) (hb:Below w.heap.size w W)=>Cn6 s.e W (h.e.mono hb));have P2:=Lh (fun(W:World) (hb:Below w.heap.size w W)=>Cy9 s.i s.f s.ta s.tc 40 s.es W (Nat.le_trans h.pl.1 h.pl.2) (by decide) (h.p.mono hb));have P3:=Lh (fun(W:World) (hb:Below w.heap.size w W)=>Bx8 s.e W (h.e.mono hb));have HF:=Lh (show Cb9 s=(Bv2 s.e&&(decide (Bt7 s.es 40)&&R1 s.e)) from rfl);have SE:=Lh (show ∀E:Ev,(Tryz.prog.info? 46).map (·.size)=some (A7 E).length from fun E=>by rw[G6];exact O2);have SQ:=Lh Aa1;unfold D9 at P1 P2 P3;generalize Cb9 s=R at HF ⊢;generalize Bv2 s.e=s1 at P1 HF;generalize decide (Bt7 s.es 40)=s2 at P2 HF;generalize R1 s.e=s3 at P3 HF;clear h;go_enter Tryz.func13,Tryz.ntmps13
 go_upto_region 1 with(fail)
 generalize hW:World.alloc w _=W;have B1:=Lh (show A5 51 W w.heap.size (A6 s) by rw[←hW];exact A5.new w (A6 s) _);have G:=Lh (show Below w.heap.size w W by rw[←hW];exact ba w _);clear hW;generalize hn1:w.heap.size=n1 at B1 ⊢;clear hn1;go_wp2_with (refine I2 46 (.tmp 5) rfl ?_;refine D5 46 (.tmp 5) n1 0 (by first | rfl | simp[Region.wanted,yielded]) rfl rfl B1.out.blk.atE Tryz.underlying46 rfl (SE.out _) ?_)
 refine(P1.out _ G.out).mono ?_;rintro x w1 ⟨rfl,hb⟩;replace B1:=Lh (B1.out.up hb);replace G:=Lh (bt G.out hb);clear hb P1;go_wp2_with (refine I2 49 (.tmp 8) rfl ?_;refine D5 49 (.tmp 8) n1 70 (by first | rfl | simp[Region.wanted,yielded]) rfl rfl B1.out.blk.atP Tryz.underlying49 rfl SQ.out ?_)
 refine(P2.out _ G.out).mono ?_;rintro x w2 ⟨rfl,hb⟩;replace B1:=Lh (B1.out.up hb);replace G:=Lh (bt G.out hb);clear hb P2;rcases s1 with _ | _
 ·have hR:R=false:=by rw[HF.out];rfl
  subst hR;go_wp2_with fail
  go_ret;exact⟨rfl,G.out⟩
 rcases s2 with _ | _
 ·have hR:R=false:=by rw[HF.out];rfl
  subst hR;go_wp2_with fail
  go_ret;exact⟨rfl,G.out⟩
 have hR:R=s3:=by rw[HF.out];rfl
 subst hR;go_wp2_with (refine I2 46 (.tmp 16) rfl ?_;refine D5 46 (.tmp 16) n1 0 (by first | rfl | simp[Region.wanted,yielded]) rfl rfl B1.out.blk.atE Tryz.underlying46 rfl (SE.out _) ?_)
 refine(P3.out _ G.out).mono ?_;rintro x w3 ⟨rfl,hb⟩;go_wp2_with fail
 go_ret;exact⟨rfl,bt G.out hb⟩
theorem Ea2{k d e0 e1 g q:Nat}{bl t:List UInt8}(h:Ai8 k d e0 e1 g q bl.length)(ht:t.length=16):okR (inF k d e0 e1 g q bl++t)∧pdF (inF k d e0 e1 g q bl++t)=⟨k,d,e0,e1,g,q,bl,t⟩:=by
 obtain⟨q1,q2,q3,q4,q5,q6⟩:=h.nums bl t _ rfl;obtain⟨b1,b2,b3⟩:=Ck0 k d e0 e1 g q bl t ht;refine⟨⟨?_,h.good t ht⟩,?_⟩
 ·rw[b3];have h1:=h.n1;have h2:=h.n2;omega
 ·unfold pdF;rw[q1,q2,q3,q4,q5,q6,b1,b2]
def Ak7:List UInt8:=List.replicate 32 0
theorem Bl4:Ak7.length=32:=by kernel_rfl
abbrev exR(b:Option Addr)(cb:Nat):Rg:=⟨⟨1,b,32,cb⟩,G0,G0,0,1⟩
def exE(k s1 s2:Sl)(r:Rg)(kc:List UInt8)(h:Hv):Ev:=
 {id:=0,k:=k,ph:=3,s1:=s1,s2:=s2,pw:=-1,own:=3,oth:=4,seen:=4,seq:=0,wt:=0,wb:=Q5,r:=r,kc:=kc,ko:=[],kp:=[],q:=⟨0,0,0,0,[]⟩,qa:=none,qc:=0,stan:=0,day:=0,ua:=none,uc:=0,u:=[],h:=h,hs:=Ei9,oa:=none,oc:=0,o:=[],ga:=none,gc:=0,g:=[],c0:=0,c1:=0,c2:=0,c3:=0}
def twE(e:Ev):Ev:={e with id:=1,own:=4,oth:=3}
def K5:Hv:=(Bc5 U3 0).1
theorem Do6:Bc5 U3 0=(K5,0):=Prod.ext rfl (by kernel_rfl)
theorem Eo7:Ag8 K5=some 0:=by kernel_rfl
section
variable {k s1 s2:Sl} {b:Option Addr} {cb:Nat} {K:List UInt8}
theorem Bg0{e:Ev}(h1:Bk8 e=true)(h2:Af8 e.s1.l e.s2.l=true)(h3:Aw5 e=true)(h4:Aj5 e=true)(h5:Ag5 e.q=true)(h6:S0 e.h e.hs=true)(h7:e.k.l.length=32)(h8:Aa5 e=true)(h9:V9 e=true):R1 e=true:=by
 unfold R1 Ar8;rw[h1,h2,h3,h4,h5,h6,h7,h8,h9];rfl
theorem Bl5(h1:s1.l=Ar3 1)(h2:s2.l=An0):Af8 s1.l s2.l=true:=Cy4.2 ⟨by rw[h1,Bt5],by rw[h2];rfl⟩
theorem Cc0(e:Ev)(h:e.wt=0)(hb:e.wb=Q5):Aw5 e=true:=by
 unfold Aw5;rw[h,hb,decide_eq_true_eq];exact⟨⟨by decide,by decide⟩,fun p _ _=>Am0 p,.inl rfl⟩
theorem Ce6(hk:k.l=Ak7)(h1:s1.l=Ar3 1)(h2:s2.l=An0):R1 (exE k s1 s2 (exR b cb) K K5)=true:=
 Bg0 (by kernel_rfl) (Bl5 h1 h2) (Cc0 _ rfl rfl) (by kernel_rfl) (by kernel_rfl) (by kernel_rfl) (by show k.l.length=32;rw[hk,Bl4]) (by kernel_rfl) (by kernel_rfl)
theorem Ea3(hk:k.l=Ak7)(h1:s1.l=Ar3 1)(h2:s2.l=An0):R1 (twE (exE k s1 s2 (exR b cb) K K5))=true:=
 Bg0 (by kernel_rfl) (Bl5 h1 h2) (Cc0 _ rfl rfl) (by kernel_rfl) (by kernel_rfl) (by kernel_rfl) (by show k.l.length=32;rw[hk,Bl4]) (by kernel_rfl) (by kernel_rfl)
def exI:List UInt8:=inF 2 0 3 4 1 0 [7]
def exX(K:List UInt8):List UInt8:=exI++Aa8 K exI
theorem Cu1:Ai8 2 0 3 4 1 0 [(7:UInt8)].length:=by constructor<;>decide
theorem Ea4:okR (exX K):=(Ea2 Cu1 (Aq4 K exI)).1
theorem An4:pdF (exX K)=⟨2,0,3,4,1,0,[7],Aa8 K exI⟩:=(Ea2 Cu1 (Aq4 K exI)).2
def exT(e:Ev)(f:Bool)(ta:Option Addr)(tc:Nat)(K:List UInt8):Sv:=⟨e,true,f,ta,tc,As5 [] K exI⟩
theorem Fa6(e:Ev)(f:Bool)(ta:Option Addr)(tc:Nat)(hk:Ah2 e (pdF (exX K))=K):Ai5 (exT e f ta tc K) (pdF (exX K))=true:=by
 unfold Ai5;show Bn4 true (As5 [] K exI) (Ah2 e (pdF (exX K))) (inT (pdF (exX K))) (pdF (exX K)).t=true;rw[hk,An4];exact Bw6 true _ K exI (Cd6 [] K exI)
theorem Em2(f:Bool)(ta:Option Addr)(tc:Nat):T6 (exT (twE (exE k s1 s2 (exR b cb) K K5)) f ta tc K) (exX K)=(Ah4 (V8 (exT (twE (exE k s1 s2 (exR b cb) K K5)) f ta tc K) (pdF (exX K))) (pdF (exX K)),0):=by
 have hw:=Dc3 (exT (twE (exE k s1 s2 (exR b cb) K K5)) f ta tc K) (exX K) _ rfl;have hy:=Fa6 (K:=K) (twE (exE k s1 s2 (exR b cb) K K5)) f ta tc (by rw[An4];kernel_rfl);have hs:U1 (twE (exE k s1 s2 (exR b cb) K K5)) (pdF (exX K)).k (pdF (exX K)).d (pdF (exX K)).e0 (pdF (exX K)).e1 (pdF (exX K)).g=false:=by rw[An4];kernel_rfl
 exact hw.gone Ea4 hs hy (by rw[An4];rfl) (by rw[An4];kernel_rfl)
def Ak8(k s1 s2:Sl)(b:Option Addr)(cb:Nat)(K:List UInt8)(f:Bool)(ta:Option Addr)(tc:Nat):Sv:=Ah4 (V8 (exT (twE (exE k s1 s2 (exR b cb) K K5)) f ta tc K) (pdF (exX K))) (pdF (exX K))
theorem Et5:decide (Y0 (U2 0 Q5 0).1 (U2 0 Q5 0).2.1)=true:=by kernel_rfl
theorem Bp0(f:Bool)(ta:Option Addr)(tc:Nat):(Ak8 k s1 s2 b cb K f ta tc).e=(twE (exE k s1 s2 (exR b cb) K K5)).l_w (U2 0 Q5 0).1 (U2 0 Q5 0).2.1:=by
 unfold Ak8;rw[An4];kernel_rfl
theorem Do7(hk:k.l=Ak7)(h1:s1.l=Ar3 1)(h2:s2.l=An0)(f:Bool)(ta:Option Addr)(tc:Nat):R1 (Ak8 k s1 s2 b cb K f ta tc).e=true:=by
 rw[Bp0];exact Bg0 (by kernel_rfl) (Bl5 h1 h2) Et5 (by kernel_rfl) (by kernel_rfl) (by kernel_rfl) (by show k.l.length=32;rw[hk,Bl4]) (by kernel_rfl) (by kernel_rfl)
theorem Cn7(f:Bool)(ta:Option Addr)(tc:Nat):(Ak8 k s1 s2 b cb K f ta tc).i=true∧(Ak8 k s1 s2 b cb K f ta tc).es=As5 [] K exI:=by
 unfold Ak8;rw[An4];exact⟨by kernel_rfl,rfl⟩
theorem Em3(f:Bool)(ta:Option Addr)(tc:Nat):∃S:Sv,T6 (Ak8 k s1 s2 b cb K f ta tc) (exX K)=(S,6)∧S.e.c2=1:=by
 have hw:=Dc3 (Ak8 k s1 s2 b cb K f ta tc) (exX K) _ rfl;have hy:Ai5 (Ak8 k s1 s2 b cb K f ta tc) (pdF (exX K))=true:=by
  unfold Ai5;rw[(Cn7 f ta tc).1,(Cn7 f ta tc).2,Bp0,An4];exact Bw6 true _ K exI (Cd6 [] K exI)
 have hs:U1 (Ak8 k s1 s2 b cb K f ta tc).e (pdF (exX K)).k (pdF (exX K)).d (pdF (exX K)).e0 (pdF (exX K)).e1 (pdF (exX K)).g=false:=by rw[Bp0,An4];kernel_rfl
 refine⟨_,hw.old Ea4 hs hy (by rw[An4];rfl) (by rw[Bp0,An4];kernel_rfl),?_⟩;show wrap64 ((Ak8 k s1 s2 b cb K f ta tc).e.c2+1)=1;rw[Bp0];kernel_rfl
theorem Cu2(a:Option Addr)(c:Nat):Aw6 (exE k s1 s2 (exR b cb) K K5) 0 a c=Bi3 (Da5 (exE k s1 s2 (exR b cb) K K5) a c ⟨5,3,4,0,[]⟩) 0:=by kernel_rfl
theorem Ea5(hk:k.l=Ak7)(h1:s1.l=Ar3 1)(h2:s2.l=An0)(a:Option Addr)(c:Nat):R1 (Aw6 (exE k s1 s2 (exR b cb) K K5) 0 a c)=true:=by
 rw[Cu2];exact Bg0 (by kernel_rfl) (Bl5 h1 h2) (Cc0 _ rfl rfl) (by kernel_rfl) (by kernel_rfl) (by kernel_rfl) (by show k.l.length=32;rw[hk,Bl4]) (by kernel_rfl) (by kernel_rfl)
theorem Et6(a:Option Addr)(c:Nat):(Aw6 (exE k s1 s2 (exR b cb) K K5) 0 a c).g.length=1∧(Aw6 (exE k s1 s2 (exR b cb) K K5) 0 a c).o=[]∧T4 (Aw6 (exE k s1 s2 (exR b cb) K K5) 0 a c).ph=false∧Ag8 (Aw6 (exE k s1 s2 (exR b cb) K K5) 0 a c).h=some 0:=by
 rw[Cu2];exact⟨rfl,rfl,by kernel_rfl,by kernel_rfl⟩
end
def Bi6:Ev:=
 {id:=0,k:=⟨none,0,[]⟩,ph:=0,s1:=⟨none,0,[]⟩,s2:=⟨none,0,[]⟩,pw:=0,own:=0,oth:=0,seen:=0,seq:=0,wt:=0,wb:=Q5,r:=R0,kc:=[],ko:=[],kp:=[],q:=⟨0,0,0,0,[]⟩,qa:=none,qc:=0,stan:=0,day:=0,ua:=none,uc:=0,u:=[],h:=U3,hs:=Ei9,oa:=none,oc:=0,o:=[],ga:=none,gc:=0,g:=[],c0:=0,c1:=0,c2:=0,c3:=0}
theorem Cn8:R1 Bi6=false:=by
 unfold R1;rw[show(Bi6.k.l.length==32)=false by kernel_rfl];simp
theorem Ea6(w:World):Ae9 w Bi6:=
 ⟨⟨.inl rfl,Nat.le_refl _,Nat.zero_le _⟩,⟨.inl rfl,Nat.le_refl _,Nat.zero_le _⟩,⟨.inl rfl,Nat.le_refl _,Nat.zero_le _⟩,Bu5 w,⟨Nat.le_refl _,Nat.zero_le _⟩,⟨Nat.le_refl _,Nat.zero_le _⟩,⟨Nat.le_refl _,Nat.zero_le _⟩,.inl rfl,⟨Nat.le_refl _,Nat.zero_le _⟩,Ag2.at (Ag2.nil (fun _=>True) w _),⟨Nat.le_refl _,Nat.zero_le _⟩,Eo2 U3 w (fun i hi=>rfl),fun i hi=>Nat.zero_le _,Ae0.nil w _,⟨Nat.le_refl _,Nat.zero_le _⟩,Aj4.nil w _,⟨Nat.le_refl _,Nat.zero_le _⟩,by decide⟩
theorem Et7(w:World):(Instr.build 42 #[]).run Tryz.prog w=.ok (.agg U3.L.toArray) w:=by kernel_rfl
theorem Fi1(w:World):(Instr.makeSlice 22 (.int .i64 32) (.int .i64 32)).run Tryz.prog w=.ok (.slice (some ⟨w.heap.size,0,none⟩) 32 32) (w.alloc (.cells (B8s Ak7).toArray 5)):=Bh4 V3 w .i64 .i64 32 (by decide) (by decide) rfl
theorem Cu3(w:World):(Instr.build 63 #[(0,.int .i64 3),(1,.int .i64 4)]).run Tryz.prog w=.ok (.agg #[.int .i64 3,.int .i64 4]) w:=by kernel_rfl
theorem Ea7:∀w,(Instr.alloc 46 true (.tuple #[])).run Tryz.prog w=.ok (.pointer (some ⟨w.heap.size,0,none⟩)) (w.alloc (.cells Aa0.toArray 46)):=fun w=>by kernel_rfl
structure Ar0 (w:World) (s t:Sl) (l m:List UInt8):Prop where
 h1:Ap3 w s
 h2:Ap3 w t
 e1:s.l=l
 e2:t.l=m
theorem Ar0.up{w w':World}{s t:Sl}{l m:List UInt8}(h:Ar0 w s t l m)(hb:Below w.heap.size w w'):Ar0 w' s t l m:=⟨h.h1.mono hb,h.h2.mono hb,h.e1,h.e2⟩
theorem Ar0.k8{w w':World}{b:Nat}{s t:Sl}{l m:List UInt8}(h:Ar0 w s t l m)(k:K8 b w w'):Ar0 w' s t l m:=⟨Ap3.k8 h.h1 k,Ap3.k8 h.h2 k,h.e1,h.e2⟩
theorem Cr9(w:World):Calls Tryz.prog 120 #[] w fun x w'=>∃s t:Sl,x=.returned (.agg #[.slice s.a s.l.length s.c,.slice t.a t.l.length t.c])∧Ar0 w' s t (Ar3 1) An0∧Below w.heap.size w w':=
 (Ck4 w).mono fun x w' h=>by
   obtain⟨v,h1,⟨a,c,b,d,h2,h3,h4,h5,h6⟩,hb⟩:=h;exact⟨⟨a,c,Ar3 1⟩,⟨b,d,An0⟩,by rw[h1,h2],⟨⟨h5,h3.1,h3.2⟩,⟨h6,h4.1,h4.2⟩,rfl,rfl⟩,hb⟩
noncomputable def tw4:{ops:Array Oper//(Tryz.f52.body.bind (M8 4))=some (.region 4 ops true)}:=⟨_,rfl⟩
abbrev Ax1:List Nat:=[22,23,24,25,26,7]
theorem Ea8:opx tw4.1 1=some (.call {callee:=.value (.func 120),args:=#[],argTypes:=#[]},some 23,none):=by kernel_rfl
theorem Ea9:opx tw4.1 5=some (.alloc 46,some 7,none):=by kernel_rfl
theorem Fa7:opx tw4.1 6=some (.store 46 (.tmp 7) (.tmp 26),none,none):=by kernel_rfl
theorem Et8{kk:Sl}{rg:Rg}{kc:List UInt8}{hv:Hv}{L1 L2:List UInt8}{n3 n5:Nat}{a:Act}{w:World}{Q:Exit→Act→World→Prop}(hsz:33≤a.tmps.size)
 (e2:a.tmps.getD 2 undef=.slice kk.a kk.l.length kk.c) (e3:a.tmps.getD 3 undef=.pointer (some ⟨n3,0,none⟩)) (e5:a.tmps.getD 5 undef=.pointer (some ⟨n5,0,none⟩))
 (hP:∀c a d v w,Q (.panic c) (Act.put a d v) w→Q (.panic c) a w) (B3:A5 32 w n3 rg.L) (B5:A5 42 w n5 hv.L)
 (HN:∀u,Calls Tryz.prog 120 #[] u fun x w'=>∃s1_ s2_,x=.returned (.agg #[.slice s1_.a s1_.l.length s1_.c,.slice s2_.a s2_.l.length s2_.c])∧Ar0 w' s1_ s2_ L1 L2∧Below u.heap.size u w')
 (hQ:∀{x22 x23 x24 x25 x26} z s1_ s2_ w',Ar0 w' s1_ s2_ L1 L2→A5 46 w' z (A7 (exE kk s1_ s2_ rg kc hv))→w.heap.size≤z→Below w.heap.size w w'→Q .normal (B9 a Ax1 [x22,x23,x24,x25,x26,.pointer (some ⟨z,0,none⟩)]) w'):
 (Code.region 4 tw4.1 true).wp Tryz.prog Q a w:=by
 have rG:Rgn tw4.1 Ax1 a Q:=⟨fun k hk=>Nat.lt_of_lt_of_le ((by decide:∀k∈Ax1,k<33) k hk) hsz,by kernel_rfl,hP⟩;have hb:=rG.b;obtain⟨i,h0⟩:=Z9 a Ax1;let S:World→Prop:=fun w'=>A5 32 w' n3 rg.L∧A5 42 w' n5 hv.L;refine wp_region_held_drew (S:=S) (by kernel_rfl) (⟨B3.up (bd _),B5.up (bd _)⟩) fun hHeld=>?_;have N1_5_6:∀(u:World) (s1_:Sl) (s2_:Sl) (z:Nat) (G:Below w.heap.size w u) (ST:Ar0 u s1_ s2_ L1 L2) (B7:A5 46 u z (A7 (exE kk s1_ s2_ rg kc hv))) (Lz:w.heap.size≤z),wpAnyH Tryz.prog .any tw4.1 Q S 0 (lm 7 127) (B9 a Ax1 [.slice kk.a kk.l.length kk.c,.agg #[.slice s1_.a s1_.l.length s1_.c,.slice s2_.a s2_.l.length s2_.c],.agg (rg.L).toArray,.agg (hv.L).toArray,.agg (A7 (exE kk s1_ s2_ rg kc hv)).toArray,pt z 0]) u:=by
  intro u s1_ s2_ z G ST B7 Lz;refine W4 ?_;exact hQ _ _ _ _ ST B7 Lz G
 have N1_5:∀(u:World) (s1_:Sl) (s2_:Sl) (z:Nat) (G:Below w.heap.size w u) (ST:Ar0 u s1_ s2_ L1 L2) (Z:A5 46 u z Aa0) (Lz:w.heap.size≤z),wpAnyH Tryz.prog .any tw4.1 Q S 1 (lm 7 63) (B9 a Ax1 [.slice kk.a kk.l.length kk.c,.agg #[.slice s1_.a s1_.l.length s1_.c,.slice s2_.a s2_.l.length s2_.c],.agg (rg.L).toArray,.agg (hv.L).toArray,.agg (A7 (exE kk s1_ s2_ rg kc hv)).toArray,pt z 0]) u:=by
  intro u s1_ s2_ z G ST Z Lz;refine C8 [6] (C7 rG Fa7 ?_ AllReadyH.nil);intro o hp hd;refine Aa9 46 (.tmp 7) (.tmp 26) hp z (cs:=A7 (exE kk s1_ s2_ rg kc hv)) rG.ev rG.ev Z (by rw[G6];exact O2) (by rw[Af2,G6]) (Ag4 _) ?_;exact Ab6 rG [] hd ⟨(B3.up G).rowOther z (Nat.ne_of_lt (Nat.lt_of_lt_of_le B3.blk.lt Lz)) _,(B5.up G).rowOther z (Nat.ne_of_lt (Nat.lt_of_lt_of_le B5.blk.lt Lz)) _⟩ trivial (N1_5_6 _ _ _ _ (D0 G Lz _) (ST.k8 (Z.k8 (by rfl) ((Kp.refl _ _).row _))) (Z.row _) Lz)
 have N1:∀(u:World) (s1_:Sl) (s2_:Sl) (G:Below w.heap.size w u) (ST:Ar0 u s1_ s2_ L1 L2),wpAnyH Tryz.prog .any tw4.1 Q S 2 (lm 7 31) (B9 a Ax1 [.slice kk.a kk.l.length kk.c,.agg #[.slice s1_.a s1_.l.length s1_.c,.slice s2_.a s2_.l.length s2_.c],.agg (rg.L).toArray,.agg (hv.L).toArray,.agg (A7 (exE kk s1_ s2_ rg kc hv)).toArray,i 7]) u:=by
  intro u s1_ s2_ G ST;refine C8 [5] (C7 rG Ea9 ?_ AllReadyH.nil);intro o hp hd;refine M6 46 hp Ea7 ?_;exact F5 rG [] hd ⟨B3.up (bt G (ba _ _)),B5.up (bt G (ba _ _))⟩ trivial (N1_5 _ _ _ _ (bt G (ba _ _)) (ST.up (ba _ _)) (A5.new u Aa0 _) G.size)
 have N5:∀(u:World) (z:Nat) (G:Below w.heap.size w u) (Z:A5 46 u z Aa0) (Lz:w.heap.size≤z),wpAnyH Tryz.prog .any tw4.1 Q S 3 (lm 7 45) (B9 a Ax1 [.slice kk.a kk.l.length kk.c,i 23,.agg (rg.L).toArray,.agg (hv.L).toArray,i 26,pt z 0]) u:=by
  intro u z G Z Lz;refine C8 [1] (C7 rG Ea8 ?_ AllReadyH.nil);intro o hp hd;refine J8 hp (by simp only[List.map_toArray,List.map_nil]) (HN u) ?_;rintro x u1 ⟨s1_,s2_,rfl,hst,hb1⟩;refine⟨_,rfl,?_⟩;exact F5 rG [(4,26,.agg (A7 (exE kk s1_ s2_ rg kc hv)).toArray)] hd ⟨B3.up (bt G hb1),B5.up (bt G hb1)⟩ ⟨Ai4 #[(1,.slice kk.a kk.l.length kk.c),(2,i6 3),(3,.agg #[.slice s1_.a s1_.l.length s1_.c,.slice s2_.a s2_.l.length s2_.c]),(4,i6 (-1)),(5,i6 3),(6,i6 4),(7,i6 4),(10,.agg (rg.L).toArray),(15,.agg (hv.L).toArray)] rfl,trivial⟩ (N1_5 _ _ _ _ (bt G hb1) hst (Z.up hb1) Lz)
 have N0:∀(u:World) (G:Below w.heap.size w u),wpAnyH Tryz.prog .any tw4.1 Q S 4 (lm 7 13) (B9 a Ax1 [.slice kk.a kk.l.length kk.c,i 23,.agg (rg.L).toArray,.agg (hv.L).toArray,i 26,i 7]) u:=by
  intro u G;refine C8 [1,5] (C7 rG Ea8 ?_ (C7 rG Ea9 ?_ AllReadyH.nil))
  ·intro o hp hd;refine J8 hp (by simp only[List.map_toArray,List.map_nil]) (HN u) ?_;rintro x u1 ⟨s1_,s2_,rfl,hst,hb1⟩;refine⟨_,rfl,?_⟩;exact F5 rG [(4,26,.agg (A7 (exE kk s1_ s2_ rg kc hv)).toArray)] hd ⟨B3.up (bt G hb1),B5.up (bt G hb1)⟩ ⟨Ai4 #[(1,.slice kk.a kk.l.length kk.c),(2,i6 3),(3,.agg #[.slice s1_.a s1_.l.length s1_.c,.slice s2_.a s2_.l.length s2_.c]),(4,i6 (-1)),(5,i6 3),(6,i6 4),(7,i6 4),(10,.agg (rg.L).toArray),(15,.agg (hv.L).toArray)] rfl,trivial⟩ (N1 _ _ _ (bt G hb1) hst)
  intro o hp hd;refine M6 46 hp Ea7 ?_;exact F5 rG [] hd ⟨B3.up (bt G (ba _ _)),B5.up (bt G (ba _ _))⟩ trivial (N5 _ _ (bt G (ba _ _)) (A5.new u Aa0 _) G.size)
 exact O3 7 rG [(0,22,.slice kk.a kk.l.length kk.c),(2,24,.agg (rg.L).toArray),(3,25,.agg (hv.L).toArray)] h0 ⟨B3.up (bd _),B5.up (bd _)⟩ ⟨F9 rfl e2,Q2 (cs:=rg.L) rfl (fun w hw=>hw.1.atAll) Ab1 e3,Q2 (cs:=hv.L) rfl (fun w hw=>hw.2.atAll) (by kernel_rfl) e5,trivial⟩ (N0 _  (bd w))
noncomputable def tw9:{ops:Array Oper//(Tryz.f52.body.bind (M8 9))=some (.region 9 ops true)}:=⟨_,rfl⟩
abbrev Be0:List Nat:=[31,32]
theorem Fa8:opx tw9.1 2=some (.store 46 (.tmp 0) (.tmp 31),none,none):=by kernel_rfl
theorem Fa9:opx tw9.1 3=some (.store 46 (.tmp 1) (.tmp 32),none,none):=by kernel_rfl
theorem Et9{A B:Ev}{n0 n1 n7 n8:Nat}{w0:World}{a:Act}{w:World}{Q:Exit→Act→World→Prop}(hsz:33≤a.tmps.size)
 (e0:a.tmps.getD 0 undef=.pointer (some ⟨n0,0,none⟩)) (e1:a.tmps.getD 1 undef=.pointer (some ⟨n1,0,none⟩)) (e7:a.tmps.getD 7 undef=.pointer (some ⟨n7,0,none⟩)) (e8:a.tmps.getD 8 undef=.pointer (some ⟨n8,0,none⟩))
 (hP:∀c a d v w,Q (.panic c) (Act.put a d v) w→Q (.panic c) a w) (B0:A5 46 w n0 Aa0) (B1:A5 46 w n1 Aa0) (B7:A5 46 w n7 (A7 A)) (B8:A5 46 w n8 (A7 B))
 (N01:n0≠n1) (N07:n0≠n7) (N08:n0≠n8) (N17:n1≠n7) (N18:n1≠n8) (L0:w0.heap.size≤n0) (L1:w0.heap.size≤n1) (G:Below w0.heap.size w0 w) (EA:X7 (fun _=>False) w A)
 (hQ:∀{x31 x32} w',A5 46 w' n0 (A7 A)→A5 46 w' n1 (A7 B)→X7 (fun _=>False) w' A→Below w0.heap.size w0 w'→Q .normal (B9 a Be0 [x31,x32]) w'):
 (Code.region 9 tw9.1 true).wp Tryz.prog Q a w:=by
 have rG:Rgn tw9.1 Be0 a Q:=⟨fun k hk=>Nat.lt_of_lt_of_le ((by decide:∀k∈Be0,k<33) k hk) hsz,by kernel_rfl,hP⟩;have hb:=rG.b;obtain⟨i,h0⟩:=Z9 a Be0;let S:World→Prop:=fun w'=>A5 46 w' n7 (A7 A)∧A5 46 w' n8 (A7 B);refine wp_region_held_drew (S:=S) (by kernel_rfl) (⟨B7.up (bd _),B8.up (bd _)⟩) fun hHeld=>?_;have N2_3:∀(u:World) (G:Below w0.heap.size w0 u) (S2:A5 46 u n7 (A7 A)∧A5 46 u n8 (A7 B)) (B0:A5 46 u n0 (A7 A)) (B1:A5 46 u n1 (A7 B)) (EA:X7 (fun _=>False) u A),wpAnyH Tryz.prog .any tw9.1 Q S 0 (lm 4 15) (B9 a Be0 [.agg (A7 A).toArray,.agg (A7 B).toArray]) u:=by
  intro u G S2 B0 B1 EA;refine W4 ?_;exact hQ _ B0 B1 EA G
 have N2:∀(u:World) (G:Below w0.heap.size w0 u) (S2:A5 46 u n7 (A7 A)∧A5 46 u n8 (A7 B)) (B0:A5 46 u n0 (A7 A)) (B1:A5 46 u n1 Aa0) (EA:X7 (fun _=>False) u A),wpAnyH Tryz.prog .any tw9.1 Q S 1 (lm 4 7) (B9 a Be0 [.agg (A7 A).toArray,.agg (A7 B).toArray]) u:=by
  intro u G S2 B0 B1 EA;refine C8 [3] (C7 rG Fa9 ?_ AllReadyH.nil);intro o hp hd;refine Aa9 46 (.tmp 1) (.tmp 32) hp n1 (rG.ev e1) rG.ev B1 (by rw[G6];exact O2) (by rw[Af2,G6]) (Ag4 _) ?_;exact Ab6 rG [] hd ⟨S2.1.kp ((Kp.refl n1 u).row _) N17.symm,S2.2.kp ((Kp.refl n1 u).row _) N18.symm⟩ trivial (N2_3 _  (((Kp.refl n1 u).row _).below G L1) ⟨S2.1.kp ((Kp.refl n1 u).row _) N17.symm,S2.2.kp ((Kp.refl n1 u).row _) N18.symm⟩ (B0.kp ((Kp.refl n1 u).row _) N01) (B1.row _) (EA.k8 (B1.k8 (by rfl) ((Kp.refl n1 u).row _)) fun g hg=>hg.elim))
 have N0:∀(u:World) (G:Below w0.heap.size w0 u) (S2:A5 46 u n7 (A7 A)∧A5 46 u n8 (A7 B)) (B0:A5 46 u n0 Aa0) (B1:A5 46 u n1 Aa0) (EA:X7 (fun _=>False) u A),wpAnyH Tryz.prog .any tw9.1 Q S 2 (lm 4 3) (B9 a Be0 [.agg (A7 A).toArray,.agg (A7 B).toArray]) u:=by
  intro u G S2 B0 B1 EA;refine C8 [2] (C7 rG Fa8 ?_ AllReadyH.nil);intro o hp hd;refine Aa9 46 (.tmp 0) (.tmp 31) hp n0 (rG.ev e0) rG.ev B0 (by rw[G6];exact O2) (by rw[Af2,G6]) (Ag4 _) ?_;exact Ab6 rG [] hd ⟨S2.1.kp ((Kp.refl n0 u).row _) N07.symm,S2.2.kp ((Kp.refl n0 u).row _) N08.symm⟩ trivial (N2 _  (((Kp.refl n0 u).row _).below G L0) ⟨S2.1.kp ((Kp.refl n0 u).row _) N07.symm,S2.2.kp ((Kp.refl n0 u).row _) N08.symm⟩ (B0.row _) (B1.kp ((Kp.refl n0 u).row _) N01.symm) (EA.k8 (B0.k8 (by rfl) ((Kp.refl n0 u).row _)) fun g hg=>hg.elim))
 exact O3 4 rG [(0,31,.agg (A7 A).toArray),(1,32,.agg (A7 B).toArray)] h0 ⟨B7.up (bd _),B8.up (bd _)⟩ ⟨Q2 (cs:=A7 A) rfl (fun w hw=>hw.1.atAll) (by rw[G6];exact O2) e7,Q2 (cs:=A7 B) rfl (fun w hw=>hw.2.atAll) (by rw[G6];exact O2) e8,trivial⟩ (N0 _  (bt G (bd _)) ⟨B7.up (bd _),B8.up (bd _)⟩ (B0.up (bd _)) (B1.up (bd _)) (EA.mono (bd _)))
theorem Do8{P:Program}{fn:Func}{p r:Tmp}{ty tz:TypeId}(h:fn.results=#[.cell p ty,.cell r tz])(tmps:Array Value)(w:World)(g g2:Nat){cs ds:List Value}{d d2:TypeDesc}
 (hp:tmps.getD p undef=.pointer (some ⟨g,0,none⟩)) (hp2:tmps.getD r undef=.pointer (some ⟨g2,0,none⟩)) (hb:Blk w g cs) (hu:P.underlying ty=some d) (hd:(match d with | .struct _ | .array _ _=>true | _=>false)=true) (hi:(P.info? ty).map (·.size)=some cs.length)
 (hb2:Blk w g2 ds) (hu2:P.underlying tz=some d2) (hd2:(match d2 with | .struct _ | .array _ _=>true | _=>false)=true) (hi2:(P.info? tz).map (·.size)=some ds.length):
 (results fn tmps).run P w=.ok (.tuple #[.agg cs.toArray,.agg ds.toArray]) w:=by
 obtain⟨T,hg⟩:=hb;obtain⟨T2,hg2⟩:=hb2;have h1:=run_loadVar_row (P:=P) w g T ty cs.toArray _ d hg hu hd (by simpa using hi);have h2:=run_loadVar_row (P:=P) w g2 T2 tz ds.toArray _ d2 hg2 hu2 hd2 (by simpa using hi2);have e:(results fn tmps).run P w=((asAddr (tmps.getD p undef)).run P w).andThen fun a w₁=>((loadVar ty a).run P w₁).andThen fun v' w₂=>((asAddr (tmps.getD r undef)).run P w₂).andThen fun a2 w₃=>((loadVar tz a2).run P w₃).andThen fun v3 w₄=>.ok (.tuple #[v',v3]) w₄:=by
  simp only[results,h];simp[Sem.run_bind,Result.andThen]
 rw[e,hp,hp2];simp[asAddr,h1,h2]
def Fg3(w:World)(x:Ending)(w':World):Prop:=
 ∃k s1 s2 b cb,x=.returned (.tuple #[.agg (A7 (exE k s1 s2 ⟨⟨1,b,32,cb⟩,G0,G0,0,1⟩ (Bd0 Ak7 3 4 1 []) K5)).toArray,.agg (A7 (twE (exE k s1 s2 ⟨⟨1,b,32,cb⟩,G0,G0,0,1⟩ (Bd0 Ak7 3 4 1 []) K5))).toArray])∧
  X7 (fun _=>False) w' (exE k s1 s2 ⟨⟨1,b,32,cb⟩,G0,G0,0,1⟩ (Bd0 Ak7 3 4 1 []) K5)∧k.l=Ak7∧s1.l=Ar3 1∧s2.l=An0∧Below w.heap.size w w'
theorem Fb0{w:World}{k s1 s2:Sl}{b:Option Addr}{cb:Nat}{K:List UInt8}(hk:Ap3 w k)(hs:Ar0 w s1 s2 (Ar3 1) An0)(hb:A4 w b K)(hKl:K.length=32)(hc:32≤cb∧cb≤maxLen):X7 (fun _=>False) w (exE k s1 s2 ⟨⟨1,b,32,cb⟩,G0,G0,0,1⟩ K K5):=
 ⟨hk,hs.h1,hs.h2,⟨hKl.symm,hb,rfl,.inl rfl,rfl,.inl rfl⟩,hc,⟨Nat.le_refl _,Nat.zero_le _⟩,⟨Nat.le_refl _,Nat.zero_le _⟩,.inl rfl,⟨Nat.le_refl _,Nat.zero_le _⟩,Ag2.nil _ w _,⟨Nat.le_refl _,Nat.zero_le _⟩,Eo2 K5 w (by
   intro i hi;rcases(by omega:i=0∨i=1∨i=2∨i=3) with rfl | rfl | rfl | rfl<;>kernel_rfl),fun i hi=>by
   rcases(by omega:i=0∨i=1∨i=2∨i=3) with rfl | rfl | rfl | rfl<;>exact Nat.zero_le _,⟨[],rfl,.inl rfl,fun i hi=>absurd hi (Nat.not_lt_zero i)⟩,⟨Nat.le_refl _,Nat.zero_le _⟩,⟨[],rfl,.inl rfl,fun i hi=>absurd hi (Nat.not_lt_zero i)⟩,⟨Nat.le_refl _,Nat.zero_le _⟩,(by decide:(-9223372036854775808:Int)≤0∧(0:Int)≤9223372036854775807)⟩
theorem Eb0(w:World):Calls Tryz.prog 52 #[] w (Fg3 w):=by
 have HK:=Lh (fun(W:World) (a:Option Addr) (ha:A4 W a Ak7)=>(show Calls Tryz.prog 47 #[.slice a 32 32,.agg #[.int .i64 3,.int .i64 4],.int .i64 1,.slice none 0 0] W (Aq2 W (Bd0 Ak7 3 4 1 [])) from Dv5 a none 32 0 Ak7 [] 3 4 1 (by decide) (by decide) ⟨Nat.le_refl _,Nat.zero_le _⟩ (by decide) (by decide) (by decide) W ha (.inl rfl)));have HN:=Lh (fun(W:World) (b:Option Addr) (cb:Nat)=>(show Calls Tryz.prog 118 #[.slice b 32 cb] W fun x w'=>x=.returned (.tuple #[.agg (Rg.L ⟨⟨1,b,32,cb⟩,G0,G0,0,1⟩).toArray,.int .i64 0])∧Below W.heap.size W w' from Ce8 ⟨0,b,32,cb⟩ W));have HR:=Lh (fun(W:World)=>(show Calls Tryz.prog 119 #[.agg U3.L.toArray,.int .i64 0] W fun x w'=>x=.returned (.tuple #[.agg K5.L.toArray,.int .i64 0])∧Below W.heap.size W w' from by
  have h:=Ck9 U3 0 W;rw[Do6] at h;exact h))
 have SE:=Lh (show ∀E:Ev,(Tryz.prog.info? 46).map (·.size)=some (A7 E).length from fun E=>by rw[G6];exact O2);have SR:=Lh Ab1;have SH:=Lh (show(Tryz.prog.info? 42).map (·.size)=some K5.L.length by kernel_rfl);have hm:=Fi1;have hp:=Cu3;have hh:=Et7;unfold Aq2 at HK;go_enter Tryz.func52,Tryz.ntmps52
 go_upto_region 1 with(fail)
 generalize hW:World.alloc (World.alloc w _) _=W;obtain⟨B0,B1,hb⟩:=Aj6 (a:=Aa0) (b:=Aa0) hW;clear hW;have B0:=Lh B0;have B1:=Lh B1;have G:=Lh hb;clear hb;have N01:=Lh (show w.heap.size≠w.heap.size+1 by omega);have L0:=Lh (show w.heap.size≤w.heap.size by omega);have L1:=Lh (show w.heap.size≤w.heap.size+1 by omega);generalize w.heap.size+1=n1 at B1 N01 L1 ⊢;generalize hn0:w.heap.size=n0 at B0 N01 ⊢;replace L0:=Lh (show w.heap.size≤n0 by omega);clear hn0;go_upto_region 2 with(fail)
 generalize hW2:World.alloc W _=W2;have QK:=Lh (show A4 W2 (some ⟨W.heap.size,0,none⟩) Ak7 from by rw[←hW2];exact U0 W (B8s Ak7) _);have hb:Below W.heap.size W W2:=by rw[←hW2];exact ba W _
 clear hW2;replace B0:=Lh (B0.out.up hb);replace B1:=Lh (B1.out.up hb);replace G:=Lh (bt G.out hb);clear hb;generalize (some ⟨W.heap.size,0,none⟩:Option Addr)=ka at QK ⊢;go_wp2_with fail
 refine(HK.out _ _ QK.out).mono ?_;rintro x w3 ⟨b,cb,rfl,hc,hkb,hb⟩;have C:=Lh hc;have QB:=Lh hkb;replace B0:=Lh (B0.out.up hb);replace B1:=Lh (B1.out.up hb);replace G:=Lh (bt G.out hb);replace QK:=Lh (A4.up8 QK.out hb);clear hb hc hkb HK;go_wp2_with fail
 refine(HN.out _ _ _).mono ?_;rintro x w4 ⟨rfl,hb⟩;replace B0:=Lh (B0.out.up hb);replace B1:=Lh (B1.out.up hb);replace G:=Lh (bt G.out hb);replace QK:=Lh (A4.up8 QK.out hb);replace QB:=Lh (A4.up8 QB.out hb);clear hb HN;go_upto_region 3 with(refine G8 32 _ _ rfl ?_;refine I4 32 _ _ _ (cs:=Rg.L ⟨⟨1,b,32,cb⟩,G0,G0,0,1⟩) rfl rfl rfl rfl (A5.new _ _ _) SR.out rfl (by rfl) ?_;intro w5 hBn hK;have B3:=Lh hBn;have N0_3:=Lh (Nat.ne_of_lt B0.out.blk.lt);have N1_3:=Lh (Nat.ne_of_lt B1.out.blk.lt);replace B0:=Lh ((B0.out.up (ba _ _)).kp hK N0_3.out);replace B1:=Lh ((B1.out.up (ba _ _)).kp hK N1_3.out);replace QK:=Lh (A4.up8 QK.out (hK.below (ba _ _) (Nat.le_refl _)));replace QB:=Lh (A4.up8 QB.out (hK.below (ba _ _) (Nat.le_refl _)));have L3:=Lh G.out.size;replace G:=Lh (hK.below (bt G.out (ba _ _)) G.out.size);clear hBn hK)
 generalize w4.heap.size=n3 at B3 ⊢;clear N0_3 N1_3 L3;go_wp2_with fail
 refine(HR.out _).mono ?_;rintro x w6 ⟨rfl,hb⟩;replace B0:=Lh (B0.out.up hb);replace B1:=Lh (B1.out.up hb);replace B3:=Lh (B3.out.up hb);replace G:=Lh (bt G.out hb);replace QK:=Lh (A4.up8 QK.out hb);replace QB:=Lh (A4.up8 QB.out hb);clear hb HR;go_upto_region 4 with(refine G8 42 _ _ rfl ?_;refine I4 42 _ _ _ (cs:=K5.L) rfl rfl rfl rfl (A5.new _ _ _) SH.out rfl (by rfl) ?_;intro w7 hBn hK;have B5:=Lh hBn;have N0_5:=Lh (Nat.ne_of_lt B0.out.blk.lt);have N1_5:=Lh (Nat.ne_of_lt B1.out.blk.lt);have N3_5:=Lh (Nat.ne_of_lt B3.out.blk.lt);replace B0:=Lh ((B0.out.up (ba _ _)).kp hK N0_5.out);replace B1:=Lh ((B1.out.up (ba _ _)).kp hK N1_5.out);replace B3:=Lh ((B3.out.up (ba _ _)).kp hK N3_5.out);replace QK:=Lh (A4.up8 QK.out (hK.below (ba _ _) (Nat.le_refl _)));replace QB:=Lh (A4.up8 QB.out (hK.below (ba _ _) (Nat.le_refl _)));have L5:=Lh G.out.size;replace G:=Lh (hK.below (bt G.out (ba _ _)) G.out.size);clear hBn hK)
 generalize w6.heap.size=n5 at B5 ⊢;clear N0_5 N1_5 N3_5 L5;refine Et8 (kk:=⟨ka,32,Ak7⟩) (rg:=⟨⟨1,b,32,cb⟩,G0,G0,0,1⟩) (kc:=Bd0 Ak7 3 4 1 []) (hv:=K5) (L1:=Ar3 1) (L2:=An0) (Nat.le_refl _) rfl rfl rfl (fun _ _ d _ _ h=>by cases d<;>exact h) B3.out B5.out (fun u=>Cr9 u) ?_;intro x22 x23 x24 x25 x26 n7 s1 s2 w8 hst hB7 hL7 hb;have ST:=Lh hst;have B7:=Lh hB7;have L7:=Lh (show w.heap.size≤n7 from Nat.le_trans G.out.size hL7);have N07:=Lh (show n0≠n7 from Nat.ne_of_lt (Nat.lt_of_lt_of_le B0.out.blk.lt hL7));have N17:=Lh (show n1≠n7 from Nat.ne_of_lt (Nat.lt_of_lt_of_le B1.out.blk.lt hL7));replace B0:=Lh (B0.out.up hb);replace B1:=Lh (B1.out.up hb);replace G:=Lh (bt G.out hb);replace QK:=Lh (A4.up8 QK.out hb);replace QB:=Lh (A4.up8 QB.out hb);clear hb hst hB7 hL7 B3 B5;simp only[B9,Act.put,List.setIfInBounds_toArray,List.set_cons_zero,List.set_cons_succ];have EA:=Lh (Fb0 (k:=⟨ka,32,Ak7⟩) ⟨QK.out,Nat.le_refl _,(by decide:32≤maxLen)⟩ ST.out QB.out (Ej3 _ _ _ _ _) C.out);have Fs:=Lh (And.intro ST.out.e1 ST.out.e2);clear ST QK QB C;obtain⟨A,hA⟩:∃A,A=exE ⟨ka,32,Ak7⟩ s1 s2 ⟨⟨1,b,32,cb⟩,G0,G0,0,1⟩ (Bd0 Ak7 3 4 1 []) K5:=⟨_,rfl⟩;rw[←hA] at B7 EA;have HA:=Lh hA;clear hA;go_upto_region 6 with(first
  | (refine I2 46 (.tmp 7) rfl ?_;refine C6 46 (.tmp 7) n7 rfl rfl rfl B7.out.blk Tryz.underlying46 rfl (SE.out _) ?_)
  | (refine G8 46 _ _ rfl ?_;refine I4 46 _ _ _ (cs:=A7 A) rfl rfl rfl rfl (A5.new _ _ _) (SE.out _) (by rw[G6];exact Af2) (Ag4 _) ?_;intro w9 hBn hK;have B8:=Lh hBn;have N08:=Lh (Nat.ne_of_lt B0.out.blk.lt);have N18:=Lh (Nat.ne_of_lt B1.out.blk.lt);have N78:=Lh (Nat.ne_of_lt B7.out.blk.lt);replace B0:=Lh ((B0.out.up (ba _ _)).kp hK N08.out);replace B1:=Lh ((B1.out.up (ba _ _)).kp hK N18.out);replace B7:=Lh ((B7.out.up (ba _ _)).kp hK N78.out);replace EA:=Lh (EA.out.mono (hK.below (ba _ _) (Nat.le_refl _)));have L8:=Lh G.out.size;replace G:=Lh (hK.below (bt G.out (ba _ _)) G.out.size);clear hBn hK))
 generalize w8.heap.size=n8 at B8 N08 N18 N78 L8 ⊢;go_upto_region 9 with(first
  | (refine G8 3 (.tmp 28) (.const (.int .i64 1)) rfl ?_;refine S5 3 (.tmp 28) (.const (.int .i64 1)) n8 0 (v:=.int .i64 1) rfl rfl rfl rfl B8.out (by rw[G6];decide) (by kernel_rfl) rfl (Cq7 _ 1) ?_;intro wa hB hK;replace B7:=Lh (B7.out.kp hK N78.out);replace B0:=Lh (B0.out.kp hK N08.out);replace B1:=Lh (B1.out.kp hK N18.out);replace EA:=Lh (EA.out.k8 (B8.out.k8 (Bk9 _) hK) fun g hg=>hg.elim);replace B8:=Lh hB;replace G:=Lh (hK.below G.out L8.out);clear hB hK)
  | (refine G8 3 (.tmp 29) (.const (.int .i64 4)) rfl ?_;refine S5 3 (.tmp 29) (.const (.int .i64 4)) n8 6 (v:=.int .i64 4) rfl rfl rfl rfl B8.out (by rw[G6];decide) (by kernel_rfl) rfl (Bc9 _ 4) ?_;intro wb hB hK;replace B7:=Lh (B7.out.kp hK N78.out);replace B0:=Lh (B0.out.kp hK N08.out);replace B1:=Lh (B1.out.kp hK N18.out);replace EA:=Lh (EA.out.k8 (B8.out.k8 (Bk9 _) hK) fun g hg=>hg.elim);replace B8:=Lh hB;replace G:=Lh (hK.below G.out L8.out);clear hB hK)
  | (refine G8 3 (.tmp 30) (.const (.int .i64 3)) rfl ?_;refine S5 3 (.tmp 30) (.const (.int .i64 3)) n8 7 (v:=.int .i64 3) rfl rfl rfl rfl B8.out (by rw[G6];decide) (by kernel_rfl) rfl (Aw4 _ 3) ?_;intro wc hB hK;replace B7:=Lh (B7.out.kp hK N78.out);replace B0:=Lh (B0.out.kp hK N08.out);replace B1:=Lh (B1.out.kp hK N18.out);replace EA:=Lh (EA.out.k8 (B8.out.k8 (Bk9 _) hK) fun g hg=>hg.elim);replace B8:=Lh hB;replace G:=Lh (hK.below G.out L8.out);clear hB hK))
 refine Et9 (A:=A) (B:=twE A) (w0:=w) (Nat.le_refl _) rfl rfl rfl rfl (fun _ _ d _ _ h=>by cases d<;>exact h) B0.out B1.out B7.out B8.out N01.out N07.out N08.out N17.out N18.out L0.out L1.out G.out EA.out ?_;intro x31 x32 wd hB0 hB1 hEA hG;simp only[B9,Act.put,List.setIfInBounds_toArray,List.set_cons_zero,List.set_cons_succ];clear B0 B1 B7 B8 G EA;go_wp2_with fail
 (try simp only[Act.put,List.setIfInBounds_toArray,List.set_cons_zero,List.set_cons_succ])
 refine bodyPost_ret (Do8 rfl _ _ n0 n1 (cs:=A7 A) (ds:=A7 (twE A)) rfl rfl hB0.blk Tryz.underlying46 rfl (SE.out _) hB1.blk Tryz.underlying46 rfl (SE.out _)) rfl ?_;rw[HA.out] at hEA ⊢;exact⟨_,_,_,_,_,rfl,hEA,rfl,Fs.out.1,Fs.out.2,hG⟩
def Ae1(e:Ev):Sv:=⟨e,true,false,none,0,[]⟩
def Do9(e:Ev)(K:List UInt8)(ta:Option Addr)(tc:Nat)(oa:Option Addr)(oc:Nat):Sv:=Bq3 (By0 (Ae1 e) K exI 0 ta tc oa oc)
section
variable {k s1 s2:Sl} {b:Option Addr} {cb:Nat} {K:List UInt8}
theorem Eu0{S:Sv}{E:Int}(h:Ao5 (Ae1 (exE k s1 s2 (exR b cb) K K5)) [7] S E):E=0∧∃ta tc oa oc,S=Do9 (exE k s1 s2 (exR b cb) K K5) K ta tc oa oc:=by
 have hI:By3 (Ae1 (exE k s1 s2 (exR b cb) K K5)) [7]=exI:=rfl;unfold Ao5 at h;rw[hI] at h;rcases h with⟨h,-⟩ | ⟨-,⟨h,-⟩ | ⟨-,⟨h,-⟩ | ⟨-,S1,hE,hS⟩⟩⟩
 ·exact absurd h (by decide)
 ·have:T4 (Ae1 (exE k s1 s2 (exR b cb) K K5)).e.ph=true:=by kernel_rfl
  rw[this] at h;cases h
 ·exact absurd h (show ¬(0:Int)=4611686018427387904 by decide)
 ·rcases hE with⟨hp,-⟩ | ⟨c,ta,tc,oa,oc,hp,h1,rfl⟩
  ·have:Ag8 (Ae1 (exE k s1 s2 (exR b cb) K K5)).e.h=some 0:=Eo7;rw[this] at hp;cases hp
  ·have:Ag8 (Ae1 (exE k s1 s2 (exR b cb) K K5)).e.h=some 0:=Eo7;rw[this] at hp;obtain rfl:0=c:=Option.some.inj hp;exact⟨rfl,ta,tc,oa,oc,by rw[hS,h1];rfl⟩
theorem Eu1:exI.length=31:=by unfold exI;rw[Bh8];rfl
theorem Cc1:(exX K).length=47:=by unfold exX;rw[List.length_append,Eu1,Aq4]
theorem Eu2:X8 J1 (Am6 (exX K))=(J1,[exX K]):=by
 have hl:J6 (Am6 (exX K))=47:=by
  unfold J6 Am6;rw[Cc1];rfl
 have:=Du5 0 (Am6 (exX K)) (by rw[hl];decide) (by rw[hl];decide) (by rw[hl,Az7,Cc1]);exact this
theorem Fb1(e:Ev)(ta:Option Addr)(tc:Nat)(oa:Option Addr)(oc:Nat)(ho:e.o=[]):(Do9 e K ta tc oa oc).e.o=[(0,Am6 (exX K))]:=by
 show e.o++[(((0:Nat):Int),Am6 (exI++Aa8 K exI))]=_;rw[ho];rfl
end
def Fb2(w:World)(X:List UInt8)(x:Ending)(w':World):Prop:=
 ∃(f:Fv) (g o c:Nat) (p:Option Addr) (pc:Nat),x=.returned (.tuple #[f.v,.slice (some ⟨g,o,none⟩) 1 c])∧g<w'.heap.size∧w'.cell? ⟨g,o,none⟩=some (.slice p X.length pc)∧(X.length≤pc∧pc≤maxLen)∧A4 w' p X∧Below w.heap.size w w'
theorem Em4(a:Option Addr)(cap:Nat)(K:List UInt8)(w:World)(h:A4 w a (Am6 (exX K))):
 Calls Tryz.prog 24 #[Am8.v,.slice a (Am6 (exX K)).length cap] w (Fb2 w (exX K)):=
 (Cq2 Am8 J1 a cap (Am6 (exX K)) w 0 (Nat.zero_le _) (.inl rfl) (Ak3 w) (by kernel_rfl) h (by rw[Az7,Cc1];decide)).mono fun x w' hx=>by
   rw[Eu2] at hx;obtain⟨f,a2,c,vs,h1,h2,h3,h4,h5,hb⟩:=hx;have hR:X9 w' a2 [exX K]:=⟨vs,h4.at,h5.of⟩;obtain⟨g,o,p,pc,rfl,hg,hc,hl,hm,hB⟩:=hR.row 0 (Nat.zero_lt_succ _);exact⟨f,g,o,c,p,pc,h1,hg,hc,⟨hl,hm⟩,hB,hb⟩
end Go.Proofs.YtadpiemjgfndgaaGreatDoor
