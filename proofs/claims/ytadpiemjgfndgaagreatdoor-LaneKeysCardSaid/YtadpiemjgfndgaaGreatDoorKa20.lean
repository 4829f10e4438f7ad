/- Proved here, for use further on: LeL0 LeL LeN LeO LeP LeQ LeS. Conditions: none but those each theorem names. -/
import Derived.Test.YtadpiemjgfndgaaGreatDoorKa00
import Derived.Test.YtadpiemjgfndgaaGreatDoorKa19
import Derived.Test.YtadpiemjgfndgaaGreatDoorKa16
import Derived.Test.YtadpiemjgfndgaaGreatDoorKa17
import Derived.Test.YtadpiemjgfndgaaGreatDoorKa10
import Derived.Deep.RegionHeld3
import Derived.Deep.DrawnRows
import Derived.Test.YtadpiemjgfndgaaGreatDoorKa13
import Derived.Test.YtadpiemjgfndgaaGreatDoorKa18
import Derived.LoopN
import Derived.WalkSmall
set_option linter.unusedSimpArgs false
set_option linter.unusedVariables false
set_option maxRecDepth 100000
set_option maxHeartbeats 8000000
namespace Go.Proofs.YtadpiemjgfndgaaGreatDoor
open Go.RowKit
theorem D9{ops:Array Oper}{rest:List Oper}{o:Oper}{a:Act}{w:World}{Q:Exit→Act→World→Prop}(ty:TypeId)(x y:Operand)(ho:o.op=.store ty x y)(h:wpList Tryz.prog ops Q (o::rest) a w):wpList Tryz.prog ops Q (o::rest) a w:=h
theorem I2{ops:Array Oper}{rest:List Oper}{o:Oper}{a:Act}{w:World}{Q:Exit→Act→World→Prop}(ty:TypeId)(x:Operand)(ho:o.op=.load ty x)(h:wpList Tryz.prog ops Q (o::rest) a w):wpList Tryz.prog ops Q (o::rest) a w:=h
theorem Dn3{ops:Array Oper}{rest:List Oper}{o:Oper}{a:Act}{w:World}{Q:Exit→Act→World→Prop}(s x:Operand)(t:TypeId)(ho:o.op=.call {callee:=.builtin .append,args:=#[s,x],argTypes:=#[t,t]})(h:wpList Tryz.prog ops Q (o::rest) a w):wpList Tryz.prog ops Q (o::rest) a w:=h
theorem Cg7{ops:Array Oper}{rest:List Oper}{o:Oper}{a:Act}{w:World}{Q:Exit→Act→World→Prop}(s x:Operand)(t:TypeId){e:TypeId}{size bytes:Nat}{z:Value}(hgd:o.guard=Option.none)(ho:o.op=.call {callee:=.builtin .append,args:=#[s,x],argTypes:=#[t,t]})
 (E:Y1 Tryz.prog t e size bytes z) (hby:bytes≤1000) {sa:Option Addr} {n:Nat} (vs:List Value) (hs:a.eval s=.slice sa n n) (hS:At w sa vs) (hvl:vs.length=n*size) (hn:n≤100000) {sp:Addr} {c:Nat} (news:List Value) (hx:a.eval x=.slice (some sp) 1 c) (hX:At w (some sp) news) (hnl:news.length=size) (h1:∀u∈news,u.oneCell'=true)
 (h:∀a' c' w',w'.ownsRow w.heap.size e size (.slice a' (n+1) c') (n+1) (vs++news)→Below w.heap.size w w'→wpList Tryz.prog ops Q rest (a.put o.dst (.slice a' (n+1) c')) w'):wpList Tryz.prog ops Q (o::rest) a w:=by
 obtain⟨a',c',w',hr,hown,hb⟩:=By5 E hby hS hvl hn hX hnl h1 o.type (c:=c);exact Bz5 s x t hgd ho hs hx hr (h a' c' w' hown hb)
theorem Aa8.snoc{q:Nat→Prop}{w w':World}{vs:List Value}{l:List (Int×List UInt8)}{a':Option Addr}{c:Int}{f:List UInt8}{v:Value}(hvl:vs.length=l.length*2)
 (hr:∀i,i<l.length→vs.getD (i*2) undef=.int .i64 (l.getD i (0,[])).1∧Y6 w (vs.getD (i*2+1) undef) (l.getD i (0,[])).2)
 (hb:Below w.heap.size w w') (hA:AtP q w' a' (vs++[.int .i64 c,v])) (hv:Y6 w' v f):Aa8 q w' a' (l++[(c,f)]):=by
 refine⟨_,by rw[List.length_append,List.length_append,hvl];simp;omega,hA,fun i hi=>?_⟩;have g1:∀k,k<vs.length→(vs++[.int .i64 c,v]).getD k undef=vs.getD k undef:=fun k hk=>by
  simp only[List.getD_eq_getElem?_getD,List.getElem?_append_left hk]
 by_cases hl:i<l.length
 ·obtain⟨h0,h1⟩:=hr i hl;have e:(l++[(c,f)]).getD i (0,[])=l.getD i (0,[]):=by simp only[List.getD_eq_getElem?_getD,List.getElem?_append_left hl]
  rw[g1 _ (by omega),g1 _ (by omega),e];exact⟨h0,h1.mono hb⟩
 ·have hi':i=l.length:=by simp at hi;omega
  subst hi';have e:(l++[(c,f)]).getD l.length (0,[])=(c,f):=by simp[List.getD_eq_getElem?_getD]
  have g2:∀k,(vs++[.int .i64 c,v]).getD (l.length*2+k) undef=[Value.int .i64 c,v].getD k undef:=fun k=>by
   rw[←hvl];simp only[List.getD_eq_getElem?_getD,List.getElem?_append_right (Nat.le_add_right _ _),Nat.add_sub_cancel_left]
  rw[e,g2 1,show l.length*2=l.length*2+0 from rfl,g2 0];exact⟨rfl,hv⟩
theorem Cg8(a:Option Addr)(n c:Nat)(hc:n≤c)(w:World):Calls Tryz.prog 126 #[.slice a n c] w fun e w'=>e=.returned (.slice a n n)∧w=w':=by
 have hs:=Bn8 (P:=Tryz.prog) Tryz.underlying43 Dn1 w a n c hc;go_enter Tryz.func126,Tryz.ntmps126
 go_wp2_with fail
 go_ret;exact⟨rfl,rfl⟩
def I5:List Value:=U5++[.bool false,.slice none 0 0,.bool false]
theorem J6:I5.length=73:=by kernel_rfl
theorem Dn4{h:Hv}(hc:Ad9 h=none):Az8 h=(h,0,11):=by unfold Az8;rw[hc]
theorem Dn5{h:Hv}{c:Nat}(hc:Ad9 h=some c):Az8 h=(h.next c,(c:Int),0):=by unfold Az8;rw[hc]
def Bs0(s:Sv)(K I:List UInt8)(c:Nat)(ta:Option Addr)(tc:Nat)(oa:Option Addr)(oc:Nat):Sv:=
 {s with e:={s.e with h:=s.e.h.next c,oa:=oa,oc:=oc,o:=s.e.o++[((c:Int),Ai9 (I++X9 K I))]},ta:=ta,tc:=tc,es:=Ao1 s.es K I}
theorem Ao9.next{w:World}{h:Hv}{f:Nat→Fd}(hh:Ao9 w h f)(c:Nat):Ao9 w (h.next c) f:=hh
theorem S7.sent{q:Nat→Prop}{w:World}{e:Ev}{a:Option Addr}{oc c:Nat}{f:List UInt8}(h:S7 q w e)(hg:Aa8 q w a (e.o++[((c:Int),f)]))(hc:e.o.length+1≤oc∧oc≤maxLen):S7 q w {e with h:=e.h.next c,oa:=a,oc:=oc,o:=e.o++[((c:Int),f)]}:=
 ⟨h.k,h.s1,h.s2,h.r,h.rc,h.ro,h.rp,h.q,h.ql,h.u,h.ul,h.h.next c,h.hl,hg,by rw[List.length_append];exact hc,h.g,h.gl,h.wt⟩
theorem Dn6(s:Sv)(a:Option Addr)(c:Nat)(es:List Ent):Am8 (A6 s) 70 [.bool s.i,.slice a es.length c,.bool s.f]=A6 {s with ta:=a,tc:=c,es:=es}:=by kernel_rfl
theorem Dn7(s:Sv)(a:Option Addr)(c:Nat)(es:List Ent)(h:Hv):Am8 (A6 {s with ta:=a,tc:=c,es:=es}) 43 h.L=A6 {s with e:={s.e with h:=h},ta:=a,tc:=c,es:=es}:=by kernel_rfl
theorem Dn8(s:Sv)(a:Option Addr)(c:Nat)(es:List Ent)(h:Hv)(oa:Option Addr)(oc:Nat)(x:Int×List UInt8):(A6 {s with e:={s.e with h:=h},ta:=a,tc:=c,es:=es}).set 64 (.slice oa (s.e.o.length+1) oc)=A6 {s with e:={s.e with h:=h,oa:=oa,oc:=oc,o:=s.e.o++[x]},ta:=a,tc:=c,es:=es}:=by
 rw[show s.e.o.length+1=(s.e.o++[x]).length by rw[List.length_append];rfl]
 kernel_rfl
theorem Cg9(s:Sv)(k d e0 e1 g q:Int)(vb vt:Value)(vk:Value)(w:World)(hnx:isC s.e.h.nx=true)(hc:Ad9 s.e.h=none):
 Calls Tryz.prog 56 #[.agg (A6 s).toArray,.agg (I1 k d e0 e1 g q vb vt).toArray,vk] w fun r w'=>r=.returned (.tuple #[.agg (A6 s).toArray,.int .i64 11])∧Below w.heap.size w w':=by
 have HPi:=Lh (fun(W:World)=>(show Calls Tryz.prog 121 #[.agg s.e.h.L.toArray] W fun e w'=>e=.returned (.tuple #[.agg s.e.h.L.toArray,.int .i64 0,.int .i64 11])∧Below W.heap.size W w' from by
  have h:=Cf6 s.e.h hnx W;unfold Dy6 at h;rw[Dn4 hc] at h;exact h))
 have SZ:=Lh (show ∀S:Sv,(Tryz.prog.info? 51).map (·.size)=some (A6 S).length from fun S=>by rw[D7];exact M8);have SV:=Lh Ab1;have SH:=Lh Ag8;have SP:=Lh Af6;go_enter Tryz.func56,Tryz.ntmps56
 go_upto_region 1 with(fail)
 generalize hW:World.alloc (World.alloc (World.alloc w _) _) _=W;obtain⟨B3,B4,B6,hb⟩:=Cs8 (a:=A6 s) (b:=I1 k d e0 e1 g q vb vt) (c:=I5) hW;clear hW;have B3:=Lh B3;have B4:=Lh B4;have B6:=Lh B6;have G:=Lh hb;have N:=Lh (show w.heap.size≠w.heap.size+1∧w.heap.size≠w.heap.size+1+1∧w.heap.size+1≠w.heap.size+1+1 by omega);have LO:=Lh (show w.heap.size≤w.heap.size∧w.heap.size≤w.heap.size+1∧w.heap.size≤w.heap.size+1+1 by omega);clear hb;generalize w.heap.size+1+1=n6 at B6 N LO ⊢;generalize w.heap.size+1=n4 at B4 N LO ⊢;generalize hn3:w.heap.size=n3 at B3 N ⊢;replace LO:=Lh (show w.heap.size≤n3∧w.heap.size≤n4∧w.heap.size≤n6 from⟨by omega,LO.out.2.1,LO.out.2.2⟩);clear hn3;go_upto_region 1 with(refine I2 42 (.tmp 19) rfl ?_;refine F9 42 (.tmp 19) n3 43 (by first | rfl | simp[Region.wanted,yielded]) rfl rfl B3.out.blk.siteIn.at_h Tryz.underlying42 rfl SH.out ?_)
 go_wp2_with (refine I2 42 (.tmp 19) rfl ?_;refine F9 42 (.tmp 19) n3 43 (by first | rfl | simp[Region.wanted,yielded]) rfl rfl B3.out.blk.siteIn.at_h Tryz.underlying42 rfl SH.out ?_)
 refine(HPi.out _).mono ?_;rintro x w1 ⟨rfl,hb⟩;replace B3:=Lh (B3.out.up hb);replace B4:=Lh (B4.out.up hb);replace B6:=Lh (B6.out.up hb);replace G:=Lh (bt G.out hb);clear hb HPi;go_wp2_with (first
  | (refine D9 42 _ _ rfl ?_;refine G8 42 _ _ _ rfl rfl rfl rfl (A5.new _ _ _) SH.out rfl rfl ?_;intro w2 hB8 hK;replace B3:=Lh ((B3.out.up (ba _ _)).kp hK (Nat.ne_of_lt B3.out.blk.lt));replace B6:=Lh ((B6.out.up (ba _ _)).kp hK (Nat.ne_of_lt B6.out.blk.lt));replace G:=Lh (hK.below (bt G.out (ba _ _)) G.out.size);clear hB8 hK)
  | (refine I2 51 (.tmp 3) rfl ?_;refine A8 51 (.tmp 3) n3 rfl rfl rfl B3.out.blk Tryz.underlying51 rfl (SZ.out _) ?_)
  | (refine D9 51 _ _ rfl ?_;refine G8 51 _ _ n6 rfl rfl rfl rfl B6.out (SZ.out _) (by rw[J6,D7]) (K9 _) ?_;intro w3 hB hK;replace B6:=Lh hB;replace G:=Lh (hK.below G.out LO.out.2.2);clear hB hK))
 (try simp only[Act.put,List.setIfInBounds_toArray,List.set_cons_zero,List.set_cons_succ])
 refine bodyPost_ret (D6 rfl _ _ n6 (cs:=A6 s) rfl _ rfl B6.out.blk Tryz.underlying51 rfl (SZ.out _)) rfl ?_;exact⟨rfl,G.out⟩
theorem Cl0(s:Sv)(k d e0 e1 g q:Nat)(bda:Option Addr)(bdc:Nat)(bl:List UInt8)(ka:Option Addr)(kc:Nat)(K:List UInt8)(c:Nat)(w:World)(qq:Nat→Prop)(hq:∀g,w.heap.size≤g→qq g)(h:J1 qq w s)(hm:Ah5 k d e0 e1 g q bl.length)(hbl:A4 w bda bl)
 (hK:A4 w ka K) (hKl:K.length≤60) (hkc:K.length≤kc∧kc≤maxLen) (hnx:isC s.e.h.nx=true) (hc:Ad9 s.e.h=some c) (hes:s.es.length≤900) (hn:s.e.o.length≤1000) (hks:I9 w):
 Calls Tryz.prog 56 #[.agg (A6 s).toArray,.agg (I1 k d e0 e1 g q (.slice bda bl.length bdc) (.slice none 0 0)).toArray,.slice ka K.length kc] w fun r w'=>
  ∃ta tc oa oc,r=.returned (.tuple #[.agg (A6 (Bs0 s K (inF k d e0 e1 g q bl) c ta tc oa oc)).toArray,.int .i64 0])∧J1 qq w' (Bs0 s K (inF k d e0 e1 g q bl) c ta tc oa oc)∧Below w.heap.size w w':=by
 obtain⟨I,hI⟩:∃I,I=inF k d e0 e1 g q bl:=⟨_,rfl⟩;obtain⟨T,hT⟩:∃T,T=X9 K I:=⟨_,rfl⟩;obtain⟨L,hL⟩:∃L,L=I++T:=⟨_,rfl⟩;obtain⟨F,hF⟩:∃F,F=Ai9 L:=⟨_,rfl⟩;obtain⟨es2,hes2⟩:∃es2,es2=Ao1 s.es K I:=⟨_,rfl⟩;have hIl:I.length=30+bl.length:=by rw[hI,Bc1]
 have hTl:T.length=16:=by rw[hT,Am2]
 have hLl:L.length=46+bl.length:=by rw[hL,List.length_append,hIl,hTl];omega
 have hFl:F.length=48+bl.length:=by rw[hF,Au9,hLl];omega
 have hbl9:=hm.n2;have hbl1:=hm.n1;have HIn:=Lh (fun(W:World) (hb:Below w.heap.size w W)=>(show Calls Tryz.prog 122 #[.agg (I1 k d e0 e1 g q (.slice bda bl.length bdc) (.slice none 0 0)).toArray] W (Ax1 W I) from hI▸Bn3 k d e0 e1 g q bda none bdc 0 0 bl hm W (hbl.mono hb)));have HTag:=Lh (fun(W:World) (hb:Below w.heap.size w W) (p:Nat→Prop) (hp:∀g,W.heap.size≤g→p g) (hp0:∀g,g<w.heap.size→qq g→p g) (ia:Option Addr) (ic:Nat) (hic:I.length≤ic∧ic≤maxLen) (hI2:A4 W ia I)=>(show Calls Tryz.prog 123 #[.agg #[.bool s.i,.slice s.ta s.es.length s.tc,.bool s.f],.slice ka K.length kc,.slice ia I.length ic] W (Dz5 p W s.i s.f es2 T) from by
  rw[hes2,hT];exact Dz6 s.i s.f s.ta ka ia s.tc kc ic s.es K I W (by omega) h.pl.1 h.pl.2 p hp ((Ad3.weak h.p hp0).up hb) (by omega) (by omega) (hK.mono hb) hI2 (hks.mono hb)))
 have HWr:=Lh (fun(W:World) (hb:Below w.heap.size w W) (ta:Option Addr) (tc:Nat) (hta:A4 W ta T)=>(show Calls Tryz.prog 124 #[.agg (I1 k d e0 e1 g q (.slice bda bl.length bdc) (.slice ta 16 tc)).toArray] W (Ax1 W L) from by
  have k2:=Dv7 k d e0 e1 g q bda ta bdc tc bl T hm hTl W (hbl.mono hb) hta;rw[hTl,←hI,←hL] at k2;exact k2))
 have HPk:=Lh (fun(W:World) (a:Option Addr) (cc:Nat) (hl:A4 W a L)=>(show Calls Tryz.prog 125 #[.slice a L.length cc] W fun e w'=>∃fa fc,e=.returned (.tuple #[.slice fa F.length fc,.int .i64 0])∧(F.length≤fc∧fc≤maxLen)∧A4 w' fa F∧Below W.heap.size W w' from by
  refine(Dx3 a cc L W (by unfold maxLen;omega) hl).mono ?_;rintro e w' ⟨hb,⟨-,a2,c2,rfl,h1,h2,h3⟩ | ⟨hp,-⟩⟩
  ·exact⟨a2,c2,by rw[hF,Au9],⟨by rw[hF,Au9];exact h1,h2⟩,by rw[hF];exact h3,hb⟩
  ·unfold Aw1 at hp;rw[decide_eq_true (show 1≤L.length by omega),decide_eq_true (show L.length≤1024 by omega)] at hp;cases hp))
 have HPi:=Lh (fun(W:World)=>(show Calls Tryz.prog 121 #[.agg s.e.h.L.toArray] W fun e w'=>e=.returned (.tuple #[.agg (s.e.h.next c).L.toArray,.int .i64 (c:Int),.int .i64 0])∧Below W.heap.size W w' from by
  have hh:=Cf6 s.e.h hnx W;unfold Dy6 at hh;rw[Dn5 hc] at hh;exact hh))
 have HFin:=Lh (show ∀ta tc oa oc,Bs0 s K (inF k d e0 e1 g q bl) c ta tc oa oc={s with e:={s.e with h:=s.e.h.next c,oa:=oa,oc:=oc,o:=s.e.o++[((c:Int),F)]},ta:=ta,tc:=tc,es:=es2} from fun ta tc oa oc=>by rw[hF,hL,hT,hes2,hI];rfl);have HS:=Lh h;have HQ:=Lh hq;have Hn:=Lh hn;obtain⟨vs,hvl,hvs,hrows⟩:=h.e.o;have HV:=Lh (And.intro hvl hvs.at);have HRows:=Lh hrows;have HOl:=Lh h.e.ol.1;have HFl:=Lh (show F.length≤1000 by omega);unfold Ax1 at HIn HWr;unfold Dz5 at HTag;clear h hq hm hbl hK hKl hkc hnx hc hes hn hks hI hT hL hF hes2 hIl hTl hLl hFl hbl9 hbl1 hvl hvs hrows;have SZ:=Lh (show ∀S:Sv,(Tryz.prog.info? 51).map (·.size)=some (A6 S).length from fun S=>by rw[D7];exact M8);have SV:=Lh Ab1;have SH:=Lh Ag8;have SP:=Lh Af6;go_enter Tryz.func56,Tryz.ntmps56
 go_upto_region 1 with(fail)
 generalize hW:World.alloc (World.alloc (World.alloc w _) _) _=W;obtain⟨B3,B4,B6,hb⟩:=Cs8 (a:=A6 s) (b:=I1 k d e0 e1 g q (.slice bda bl.length bdc) (.slice none 0 0)) (c:=I5) hW;clear hW;have B3:=Lh B3;have B4:=Lh B4;have B6:=Lh B6;have G:=Lh hb;have N:=Lh (show w.heap.size≠w.heap.size+1∧w.heap.size≠w.heap.size+1+1∧w.heap.size+1≠w.heap.size+1+1 by omega);have LO:=Lh (show w.heap.size≤w.heap.size∧w.heap.size≤w.heap.size+1∧w.heap.size≤w.heap.size+1+1 by omega);clear hb;generalize w.heap.size+1+1=n6 at B6 N LO ⊢;generalize w.heap.size+1=n4 at B4 N LO ⊢;generalize hn3:w.heap.size=n3 at B3 N ⊢;replace LO:=Lh (show w.heap.size≤n3∧w.heap.size≤n4∧w.heap.size≤n6 from⟨by omega,LO.out.2.1,LO.out.2.2⟩);clear hn3;go_wp2_with (refine I2 42 (.tmp 19) rfl ?_;refine F9 42 (.tmp 19) n3 43 (by first | rfl | simp[Region.wanted,yielded]) rfl rfl B3.out.blk.siteIn.at_h Tryz.underlying42 rfl SH.out ?_)
 refine(HPi.out _).mono ?_;rintro x w1 ⟨rfl,hb⟩;replace B3:=Lh (B3.out.up hb);replace B4:=Lh (B4.out.up hb);replace B6:=Lh (B6.out.up hb);replace G:=Lh (bt G.out hb);clear hb HPi;go_upto_region 2 with(refine D9 42 _ _ rfl ?_;refine G8 42 _ _ _ rfl rfl rfl rfl (A5.new _ _ _) SH.out rfl rfl ?_;intro w2 hB8 hK;have B8:=Lh hB8;have N8:=Lh (show n3≠w1.heap.size∧n4≠w1.heap.size∧n6≠w1.heap.size from⟨Nat.ne_of_lt B3.out.blk.lt,Nat.ne_of_lt B4.out.blk.lt,Nat.ne_of_lt B6.out.blk.lt⟩);replace B3:=Lh ((B3.out.up (ba _ _)).kp hK N8.out.1);replace B4:=Lh ((B4.out.up (ba _ _)).kp hK N8.out.2.1);replace B6:=Lh ((B6.out.up (ba _ _)).kp hK N8.out.2.2);have LO8:=Lh G.out.size;replace G:=Lh (hK.below (bt G.out (ba _ _)) G.out.size);clear hB8 hK)
 generalize w1.heap.size=n8 at B8 N8 LO8 ⊢;obtain⟨p,hp⟩:∃p:Nat→Prop,p=fun g=>(qq g∧g<w.heap.size)∨w2.heap.size≤g:=⟨_,rfl⟩;have P:=Lh (show(∀g,g<w.heap.size→qq g→p g)∧(∀g,w2.heap.size≤g→p g)∧(∀g,p g→g≠n3∧g≠n4∧g≠n6∧g≠n8)∧(∀g,p g→qq g) from by
  have l3:=B3.out.blk.lt;have l4:=B4.out.blk.lt;have l6:=B6.out.blk.lt;have l8:=B8.out.blk.lt;have m3:=LO.out;have m8:=LO8.out;subst hp;exact⟨fun g h h2=>.inl ⟨h2,h⟩,fun g h=>.inr h,fun g h=>⟨by omega,by omega,by omega,by omega⟩,fun g h=>h.elim (fun h=>h.1) fun h=>HQ.out g (by omega)⟩)
 have S2:=Lh (Nat.le_refl w2.heap.size);clear hp;generalize hs2:w2.heap.size=m2 at P S2;replace S2:=Lh (show m2≤w2.heap.size by omega);clear hs2;go_wp2_with (refine I2 65 (.tmp 4) rfl ?_;refine A8 65 (.tmp 4) n4 rfl rfl rfl B4.out.blk Tryz.underlying65 rfl SV.out ?_)
 refine(HIn.out _ G.out).mono ?_;rintro x w3 ⟨ia,ic,rfl,hO,hb⟩;have QI:=Lh (show A4 w3 ia I∧I.length≤ic∧ic≤maxLen from⟨(At0 hO.own).at,by obtain⟨_,_,hq,h1,h2⟩:=O2 hO.own;cases hq;exact⟨h1,h2⟩⟩);replace S2:=Lh (Nat.le_trans S2.out hb.size);replace B3:=Lh (B3.out.up hb);replace B4:=Lh (B4.out.up hb);replace B6:=Lh (B6.out.up hb);replace G:=Lh (bt G.out hb);replace B8:=Lh (B8.out.up hb);clear hb hO HIn;go_wp2_with (refine I2 49 (.tmp 35) rfl ?_;refine F9 49 (.tmp 35) n3 70 (by first | rfl | simp[Region.wanted,yielded]) rfl rfl B3.out.blk.atP Tryz.underlying49 rfl SP.out ?_)
 refine(HTag.out _ G.out p (fun g h=>P.out.2.1 g (Nat.le_trans S2.out h)) P.out.1 ia ic QI.out.2 QI.out.1).mono ?_;rintro x w4 ⟨ta0,tc0,ta,tc,rfl,hc1,hc2,hE,htc,hta,hb⟩;have E5:=Lh hE;have C5:=Lh (And.intro hc1 hc2);have T5:=Lh hta;replace S2:=Lh (Nat.le_trans S2.out hb.size);replace B3:=Lh (B3.out.up hb);replace B4:=Lh (B4.out.up hb);replace B6:=Lh (B6.out.up hb);replace G:=Lh (bt G.out hb);replace B8:=Lh (B8.out.up hb);clear hb hE hc1 hc2 htc hta HTag QI;go_wp2_with (first
  | (refine D9 49 (.tmp 42) (.tmp 40) rfl ?_;have hq:=B3.out;refine Y3 49 (.tmp 42) (.tmp 40) n3 70 (cs:=[.bool s.i,.slice ta0 es2.length tc0,.bool s.f]) rfl rfl rfl rfl B3.out (by rw[D7];exact(by decide:70+3≤73)) SP.out rfl (Dn6 s ta0 tc0 es2) ?_;intro w9 hB hK;replace B3:=Lh hB;replace G:=Lh (hK.below G.out LO.out.1);replace B4:=Lh (B4.out.kp hK N.out.1.symm);replace B6:=Lh (B6.out.kp hK N.out.2.1.symm);replace B8:=Lh (B8.out.kp hK N8.out.1.symm);replace E5:=Lh (Ad3.k8 E5.out (A5.k8 hq (by first | exact Q4 _ | exact Ax9 _ _ _ _ _ _ _ _ _ _ _ _ | rfl) hK) fun g hg=>(P.out.2.2.1 g hg).1);replace S2:=Lh (Nat.le_trans S2.out hK.size);replace T5:=Lh (A4.kp8 T5.out hq.blk (Q4 _) hK);clear hB hK hq)
  | (refine D9 22 (.tmp 43) (.tmp 41) rfl ?_;have hq:=B4.out;refine O1 22 (.tmp 43) (.tmp 41) n4 7 (L':=I1 k d e0 e1 g q (.slice bda bl.length bdc) (.slice ta 16 tc)) rfl rfl rfl rfl B4.out (show 7<8 by decide) (by kernel_rfl) rfl rfl ?_;intro w9 hB hK;replace B4:=Lh hB;replace G:=Lh (hK.below G.out LO.out.2.1);replace T5:=Lh (A4.kp8 T5.out hq.blk (Ax9 _ _ _ _ _ _ _ _ _ _ _ _) hK);replace B3:=Lh (B3.out.kp hK N.out.1);replace B6:=Lh (B6.out.kp hK N.out.2.2.symm);replace B8:=Lh (B8.out.kp hK N8.out.2.1.symm);replace E5:=Lh (Ad3.k8 E5.out (A5.k8 hq (Ax9 _ _ _ _ _ _ _ _ _ _ _ _) hK) fun g hg=>(P.out.2.2.1 g hg).2.1);replace S2:=Lh (Nat.le_trans S2.out hK.size);clear hB hK hq)
  | (refine I2 65 (.tmp 4) rfl ?_;refine A8 65 (.tmp 4) n4 rfl rfl rfl B4.out.blk Tryz.underlying65 rfl SV.out ?_))
 refine(HWr.out _ G.out ta tc T5.out).mono ?_;rintro x w6 ⟨wa,wc,rfl,hO,hb⟩;have QW:=Lh (show A4 w6 wa L from(At0 hO.own).at);replace S2:=Lh (Nat.le_trans S2.out hb.size);replace E5:=Lh (Ac0.up E5.out hb);replace B3:=Lh (B3.out.up hb);replace B4:=Lh (B4.out.up hb);replace B6:=Lh (B6.out.up hb);replace G:=Lh (bt G.out hb);replace B8:=Lh (B8.out.up hb);clear hb hO HWr T5;go_wp2_with fail
 refine(HPk.out _ wa wc QW.out).mono ?_;rintro x w7 ⟨fa,fc,rfl,hfc,hfa,hb⟩;have QF:=Lh hfa;have CF:=Lh hfc;replace S2:=Lh (Nat.le_trans S2.out hb.size);replace E5:=Lh (Ac0.up E5.out hb);replace B3:=Lh (B3.out.up hb);replace B4:=Lh (B4.out.up hb);replace B6:=Lh (B6.out.up hb);replace G:=Lh (bt G.out hb);replace B8:=Lh (B8.out.up hb);clear hb hfc hfa HPk QW;go_wp2_with (first
  | (refine I2 42 (.tmp 8) rfl ?_;refine A8 42 (.tmp 8) n8 rfl rfl rfl B8.out.blk Tryz.underlying42 rfl SH.out ?_)
  | (refine D9 42 (.tmp 56) (.tmp 54) rfl ?_;have hq:=B3.out;refine Y3 42 (.tmp 56) (.tmp 54) n3 43 (cs:=(s.e.h.next c).L) rfl rfl rfl rfl B3.out (by rw[D7];exact(by decide:43+21≤73)) SH.out rfl (Dn7 s ta0 tc0 es2 (s.e.h.next c)) ?_;intro w9 hB hK;replace B3:=Lh hB;replace G:=Lh (hK.below G.out LO.out.1);replace B4:=Lh (B4.out.kp hK N.out.1.symm);replace B6:=Lh (B6.out.kp hK N.out.2.1.symm);replace B8:=Lh (B8.out.kp hK N8.out.1.symm);replace E5:=Lh (Ad3.k8 E5.out (A5.k8 hq (by first | exact Q4 _ | exact Ax9 _ _ _ _ _ _ _ _ _ _ _ _ | rfl) hK) fun g hg=>(P.out.2.2.1 g hg).1);replace S2:=Lh (Nat.le_trans S2.out hK.size);replace QF:=Lh (A4.kp8 QF.out hq.blk (Q4 _) hK);have g64:_=some (Value.slice s.e.oa s.e.o.length s.e.oc):=B3.out.blk.siteIn.o;clear hB hK hq))
 refine(Cg8 s.e.oa s.e.o.length s.e.oc HOl.out _).mono ?_;rintro x w8 ⟨rfl,rfl⟩;clear g64;go_wp2_with (first
  | (at_builtin;refine Dn3 (.tmp 60) (.tmp 64) 43 rfl ?_;go_must (refine Cg7 (.tmp 60) (.tmp 64) 43 rfl rfl Dz3 (by decide) vs rfl (HV.out.2.mono (bt G.out (ba _ _))) HV.out.1 (by have:=Hn.out;omega) [.int .i64 (c:Int),.slice fa F.length fc] rfl (O3 _ [.int .i64 (c:Int),.slice fa F.length fc] _) rfl (by intro v hv;simp only[List.mem_cons,List.not_mem_nil,or_false] at hv;rcases hv with rfl | rfl<;>rfl) ?_;intro oa oc w10 hO hb0;have hb:=bt (ba _ _) hb0;have OC:=Lh (show s.e.o.length+1≤oc∧oc≤maxLen from by obtain⟨_,_,hq,h1,h2⟩:=O2 hO;cases hq;exact⟨h1,h2⟩);have O:=Lh (show AtP p _ oa _ from(Cm8 hO).to (Nat.le_refl _) fun g hl hg=>⟨rfl,P.out.2.1 g (by have:=S2.out;(try have:=(ba _ _).size);simp only[I0] at *;omega)⟩);replace B3:=Lh (B3.out.up hb);replace B4:=Lh (B4.out.up hb);replace B6:=Lh (B6.out.up hb);replace G:=Lh (bt G.out hb);replace B8:=Lh (B8.out.up hb);replace E5:=Lh (Ac0.up E5.out hb);replace QF:=Lh (QF.out.mono hb);replace S2:=Lh (Nat.le_trans S2.out hb.size);clear hO hb hb0))
  | (refine D9 43 (.tmp 67) (.tmp 65) rfl ?_;have hq:=B3.out;refine O1 43 (.tmp 67) (.tmp 65) n3 64 rfl rfl rfl rfl B3.out (by rw[D7];decide) (by kernel_rfl) rfl (Dn8 s ta0 tc0 es2 (s.e.h.next c) oa oc ((c:Int),F)) ?_;intro w9 hB hK;replace B3:=Lh hB;replace O:=Lh (O.out.kp (q:=p) hK fun g hg=>⟨(P.out.2.2.1 g hg).1,hg⟩);replace G:=Lh (hK.below G.out LO.out.1);replace B4:=Lh (B4.out.kp hK N.out.1.symm);replace B6:=Lh (B6.out.kp hK N.out.2.1.symm);replace B8:=Lh (B8.out.kp hK N8.out.1.symm);replace E5:=Lh (Ad3.k8 E5.out (A5.k8 hq (by first | exact Q4 _ | exact Ax9 _ _ _ _ _ _ _ _ _ _ _ _ | rfl) hK) fun g hg=>(P.out.2.2.1 g hg).1);replace S2:=Lh (Nat.le_trans S2.out hK.size);replace QF:=Lh (A4.kp8 QF.out hq.blk (Q4 _) hK);clear hB hK hq)
  | (refine I2 51 (.tmp 3) rfl ?_;refine A8 51 (.tmp 3) n3 rfl rfl rfl B3.out.blk Tryz.underlying51 rfl (SZ.out _) ?_)
  | (refine D9 51 _ _ rfl ?_;have hq:=B6.out;refine G8 51 _ _ n6 rfl rfl rfl rfl B6.out (SZ.out _) (by rw[J6,D7]) (K9 _) ?_;intro w9 hB hK;replace G:=Lh (hK.below G.out LO.out.2.2);replace E5:=Lh (Ad3.k8 E5.out (A5.k8 hq (by first | exact Q4 _ | rfl) hK) fun g hg=>(P.out.2.2.1 g hg).2.2.1);replace O:=Lh (O.out.kp (q:=p) hK fun g hg=>⟨(P.out.2.2.1 g hg).2.2.1,hg⟩);replace QF:=Lh (A4.kp8 QF.out hq.blk (by first | exact Q4 _ | rfl) hK);replace B6:=Lh hB;clear hB hK hq))
 (try simp only[Act.put,List.setIfInBounds_toArray,List.set_cons_zero,List.set_cons_succ])
 refine bodyPost_ret (D6 rfl _ _ n6 (cs:=A6 _) rfl _ rfl B6.out.blk Tryz.underlying51 rfl (SZ.out _)) rfl ?_;refine⟨ta0,tc0,oa,oc,by rw[HFin.out];rfl,?_,G.out⟩;rw[HFin.out];exact⟨(HS.out.e.mono G.out).sent (Aa8.snoc HV.out.1 HRows.out G.out (O.out.to (q:=qq) (Nat.le_refl _) fun g hg hp=>⟨rfl,P.out.2.2.2 g hp⟩) ⟨fa,fc,rfl,CF.out.1,CF.out.2,QF.out⟩) OC.out,Ad3.weak E5.out fun g hg hp=>P.out.2.2.2 g hp,C5.out⟩
def Aw3(s:Sv)(K I:List UInt8)(S:Sv)(E:Int):Prop:=(Ad9 s.e.h=none∧S=s∧E=11)∨(∃c ta tc oa oc,Ad9 s.e.h=some c∧S=Bs0 s K I c ta tc oa oc∧E=0)
def Aq0(qq:Nat→Prop)(w:World)(R:Sv→Int→Prop)(x:Ending)(w':World):Prop:=∃S E,x=.returned (.tuple #[.agg (A6 S).toArray,.int .i64 E])∧R S E∧J1 qq w' S∧Below w.heap.size w w'
theorem Bi1(s:Sv)(k d e0 e1 g q:Nat)(bda:Option Addr)(bdc:Nat)(bl:List UInt8)(ka:Option Addr)(kc:Nat)(K:List UInt8)(w:World)(qq:Nat→Prop)(hq:∀g,w.heap.size≤g→qq g)(h:J1 qq w s)(hm:Ah5 k d e0 e1 g q bl.length)(hbl:A4 w bda bl)
 (hK:A4 w ka K) (hKl:K.length≤60) (hkc:K.length≤kc∧kc≤maxLen) (hnx:isC s.e.h.nx=true) (hes:s.es.length≤900) (hn:s.e.o.length≤1000) (hks:I9 w):
 Calls Tryz.prog 56 #[.agg (A6 s).toArray,.agg (I1 k d e0 e1 g q (.slice bda bl.length bdc) (.slice none 0 0)).toArray,.slice ka K.length kc] w (Aq0 qq w (Aw3 s K (inF k d e0 e1 g q bl))):=by
 cases hc:Ad9 s.e.h with
 | none=>exact(Cg9 s k d e0 e1 g q _ _ _ w hnx hc).mono fun x w' hx=>⟨s,11,hx.1,.inl ⟨hc,rfl,rfl⟩,h.mono hx.2,hx.2⟩
 | some c=>exact(Cl0 s k d e0 e1 g q bda bdc bl ka kc K c w qq hq h hm hbl hK hKl hkc hnx hc hes hn hks).mono fun x w' ⟨ta,tc,oa,oc,h1,h2,h3⟩=>⟨_,0,h1,.inr ⟨c,ta,tc,oa,oc,hc,rfl,rfl⟩,h2,h3⟩
theorem Ad7:∀w,(Instr.alloc 51 true (.tuple #[])).run Tryz.prog w=.ok (.pointer (some ⟨w.heap.size,0,none⟩)) (w.alloc (.cells I5.toArray 51)):=fun w=>by kernel_rfl
theorem A5.atSite{w:World}{b:Nat}{s:Sv}(h:A5 51 w b (A6 s)):w.rangeAt b 0 (A6 s):=fun j v hj=>by
 have hjl:j<(A6 s).length:=(List.getElem?_eq_some_iff.1 hj).1;rw[h.blk.cell (0+j) (by omega),Nat.zero_add,List.getD_eq_getElem?_getD,hj];rfl
theorem A5.atEnd{w:World}{b:Nat}{e:Ev}(h:A5 46 w b (A7 e)):w.rangeAt b 0 (A7 e):=fun j v hj=>by
 have hjl:j<(A7 e).length:=(List.getElem?_eq_some_iff.1 hj).1;rw[h.blk.cell (0+j) (by omega),Nat.zero_add,List.getD_eq_getElem?_getD,hj];rfl
noncomputable def Al4:{ops:Array Oper//(Tryz.f14.body.bind (K6 5))=some (.region 5 ops true)}:=⟨_,rfl⟩
abbrev Af8:List Nat:=[23,24,25,26,27,28,29,30,31,32,33,34,35,7]
theorem Dn9:opx Al4.1 4=some (.call {callee:=.value (.func 44),args:=#[.tmp 26],argTypes:=#[46]},some 27,none):=by kernel_rfl
theorem Do0:opx Al4.1 9=some (.call {callee:=.value (.func 45),args:=#[.tmp 31],argTypes:=#[22]},some 32,none):=by kernel_rfl
theorem Ct0:opx Al4.1 10=some (.call {callee:=.value (.func 56),args:=#[.tmp 23,.tmp 29,.tmp 32],argTypes:=#[51,65,22]},some 33,none):=by kernel_rfl
theorem Ct1:opx Al4.1 13=some (.store 51 (.tmp 6) (.tmp 34),none,none):=by kernel_rfl
theorem Ct2{s:Sv}{e8:Ev}{n3 n6 n8:Nat}{bda:Option Addr}{bn bdc:Nat}{KB:List UInt8}{qq:Nat→Prop}{R0:Sv→Int→Prop}{a:Act}{w:World}{Q:Exit→Act→World→Prop}(hsz:36≤a.tmps.size)
 (e2:a.tmps.getD 2 undef=.slice bda bn bdc) (e3:a.tmps.getD 3 undef=.pointer (some ⟨n3,0,none⟩)) (e6:a.tmps.getD 6 undef=.pointer (some ⟨n6,0,none⟩)) (e8p:a.tmps.getD 8 undef=.pointer (some ⟨n8,0,none⟩)) (hid:e8.id=s.e.id) (hke:e8.k=s.e.k)
 (hP:∀c a d v w,Q (.panic c) (Act.put a d v) w→Q (.panic c) a w) (B3:A5 51 w n3 (A6 s)) (B8:A5 46 w n8 (A7 e8)) (B6:A5 51 w n6 I5) (N3:n3≠n6) (N8:n8≠n6)
 (HB:∀u,Below w.heap.size w u→Calls Tryz.prog 45 #[.slice s.e.k.a s.e.k.l.length s.e.k.c] u (Ak3 u KB))
 (HE:∀u kb kbc,Below w.heap.size w u→A4 u kb KB→(32≤kbc∧kbc≤maxLen)→Calls Tryz.prog 56 #[.agg (A6 s).toArray,.agg #[.int .i64 1,.int .i64 s.e.id,.int .i64 (C7 e8).1,.int .i64 (C7 e8).2,.int .i64 0,.int .i64 0,.slice bda bn bdc,.slice none 0 0],.slice kb 32 kbc] u (Aq0 (fun g=>qq g∧g≠n6) u R0))
 (hQ:∀{x23 x24 x25 x26 x27 x28 x29 x30 x31 x32 x33 x34 x35} S9 E9 w',A5 51 w' n6 (A6 S9)→R0 S9 E9→J1 (fun g=>qq g∧g≠n6) w' S9→Kp n6 w w'→Q .normal (B9 a Af8 [x23,x24,x25,x26,x27,x28,x29,x30,x31,x32,x33,x34,x35,.int .i64 E9]) w'):
 (Code.region 5 Al4.1 true).wp Tryz.prog Q a w:=by
 have site_len:(Tryz.prog.info? 51).map (·.size)=some (A6 s).length:=by rw[D7];exact M8
 have end_len:(Tryz.prog.info? 46).map (·.size)=some (A7 e8).length:=by rw[F2];exact M7
 have rG:Rgn Al4.1 Af8 a Q:=⟨fun k hk=>Nat.lt_of_lt_of_le ((by decide:∀k∈Af8,k<36) k hk) hsz,by kernel_rfl,hP⟩;have hb:=rG.b;obtain⟨i,h0⟩:=Y2 a Af8;let S:World→Prop:=fun w'=>A5 51 w' n3 (A6 s)∧A5 46 w' n8 (A7 e8);refine wp_region_held_drew (S:=S) (by kernel_rfl) (⟨B3.up (bd _),B8.up (bd _)⟩) fun hHeld=>?_;have N4_9_10_13:∀(u:World) (kb:Option Addr) (kbc:Nat) (S9:Sv) (E9:Int) (B6:A5 51 u n6 (A6 S9)) (K:Kp n6 w u) (R:R0 S9 E9) (SQ:J1 (fun g=>qq g∧g≠n6) u S9),wpAnyH Tryz.prog .any Al4.1 Q S 0 (lm 15 32767) (B9 a Af8 [.agg (A6 s).toArray,pt n8 0,i6 s.e.id,.agg (A7 e8).toArray,.agg #[i6 (C7 e8).1,i6 (C7 e8).2],.slice bda bn bdc,.agg #[i6 1,i6 s.e.id,i6 (C7 e8).1,i6 (C7 e8).2,i6 0,i6 0,.slice bda bn bdc,.slice none 0 0],pt n8 1,.slice s.e.k.a s.e.k.l.length s.e.k.c,.slice kb 32 kbc,.tuple #[.agg (A6 S9).toArray,i6 E9],.agg (A6 S9).toArray,i6 E9,i6 E9]) u:=by
  intro u kb kbc S9 E9 B6 K R SQ;refine W5 ?_;exact hQ _ _ _ B6 R SQ K
 have N4_9_10:∀(u:World) (kb:Option Addr) (kbc:Nat) (S9:Sv) (E9:Int) (G:Below w.heap.size w u) (R:R0 S9 E9) (SQ:J1 (fun g=>qq g∧g≠n6) u S9),wpAnyH Tryz.prog .any Al4.1 Q S 2 (lm 15 8191) (B9 a Af8 [.agg (A6 s).toArray,pt n8 0,i6 s.e.id,.agg (A7 e8).toArray,.agg #[i6 (C7 e8).1,i6 (C7 e8).2],.slice bda bn bdc,.agg #[i6 1,i6 s.e.id,i6 (C7 e8).1,i6 (C7 e8).2,i6 0,i6 0,.slice bda bn bdc,.slice none 0 0],pt n8 1,.slice s.e.k.a s.e.k.l.length s.e.k.c,.slice kb 32 kbc,.tuple #[.agg (A6 S9).toArray,i6 E9],.agg (A6 S9).toArray,i6 E9,i 7]) u:=by
  intro u kb kbc S9 E9 G R SQ;refine C9 [13] (C6 rG Ct1 ?_ AllReadyH.nil);intro o hp hd;have hB6:=B6.up G;refine V6 51 (.tmp 6) (.tmp 34) hp n6 (rG.ev e6) rG.ev hB6 (by rw[D7];exact M8) (by rw[J6,D7]) (K9 _) ?_;exact X7 rG [(14,7,i6 E9)] hd ⟨(B3.up G).rowOther n6 N3 _,(B8.up G).rowOther n6 N8 _⟩ ⟨Ai0 rfl,trivial⟩ (N4_9_10_13 _ _ _ _ _ (hB6.row _) ((Kp.of G).row _) R (SQ.k8 (hB6.k8 (by rfl) ((Kp.refl _ _).row _)) fun g hg=>hg.2))
 have N4_9:∀(u:World) (kb:Option Addr) (kbc:Nat) (G:Below w.heap.size w u) (KB:A4 u kb KB) (KC:32≤kbc∧kbc≤maxLen),wpAnyH Tryz.prog .any Al4.1 Q S 5 (lm 15 1023) (B9 a Af8 [.agg (A6 s).toArray,pt n8 0,i6 s.e.id,.agg (A7 e8).toArray,.agg #[i6 (C7 e8).1,i6 (C7 e8).2],.slice bda bn bdc,.agg #[i6 1,i6 s.e.id,i6 (C7 e8).1,i6 (C7 e8).2,i6 0,i6 0,.slice bda bn bdc,.slice none 0 0],pt n8 1,.slice s.e.k.a s.e.k.l.length s.e.k.c,.slice kb 32 kbc,i 33,i 34,i 35,i 7]) u:=by
  intro u kb kbc G KB KC;refine C9 [10] (C6 rG Ct0 ?_ AllReadyH.nil);intro o hp hd;refine J5 hp (rG.ev3 (.agg (A6 s).toArray) (.agg #[i6 1,i6 s.e.id,i6 (C7 e8).1,i6 (C7 e8).2,i6 0,i6 0,.slice bda bn bdc,.slice none 0 0]) (.slice kb 32 kbc)) (HE u kb kbc G KB KC) ?_;rintro x u10 ⟨S9,E9,rfl,hR,hQ9,hb10⟩;refine⟨_,rfl,?_⟩;exact D8 rG [(11,34,.agg (A6 S9).toArray),(12,35,i6 E9)] hd ⟨B3.up (bt G hb10),B8.up (bt G hb10)⟩ ⟨J8 rfl,J8 rfl,trivial⟩ (N4_9_10 _ _ _ _ _ (bt G hb10) hR hQ9)
 have N4:∀(u:World) (G:Below w.heap.size w u),wpAnyH Tryz.prog .any Al4.1 Q S 6 (lm 15 511) (B9 a Af8 [.agg (A6 s).toArray,pt n8 0,i6 s.e.id,.agg (A7 e8).toArray,.agg #[i6 (C7 e8).1,i6 (C7 e8).2],.slice bda bn bdc,.agg #[i6 1,i6 s.e.id,i6 (C7 e8).1,i6 (C7 e8).2,i6 0,i6 0,.slice bda bn bdc,.slice none 0 0],pt n8 1,.slice s.e.k.a s.e.k.l.length s.e.k.c,i 32,i 33,i 34,i 35,i 7]) u:=by
  intro u G;refine C9 [9] (C6 rG Do0 ?_ AllReadyH.nil);intro o hp hd;refine J5 hp (rG.ev1 (.slice s.e.k.a s.e.k.l.length s.e.k.c)) (HB u G) ?_;rintro x u9 ⟨kb,kbc,rfl,hkc,hkb,hb9⟩;refine⟨_,rfl,?_⟩;exact D8 rG [] hd ⟨B3.up (bt G hb9),B8.up (bt G hb9)⟩ trivial (N4_9 _ _ _ (bt G hb9) hkb hkc)
 have N0:∀(u:World) (G:Below w.heap.size w u),wpAnyH Tryz.prog .any Al4.1 Q S 8 (lm 15 431) (B9 a Af8 [.agg (A6 s).toArray,pt n8 0,i6 s.e.id,.agg (A7 e8).toArray,i 27,.slice bda bn bdc,i 29,pt n8 1,.slice s.e.k.a s.e.k.l.length s.e.k.c,i 32,i 33,i 34,i 35,i 7]) u:=by
  intro u G;refine C9 [4] (C6 rG Dn9 ?_ AllReadyH.nil);intro o hp hd;refine J5 hp (rG.ev1 (.agg (A7 e8).toArray)) (Ac8 e8 _) ?_;rintro x u4 ⟨rfl,hb4⟩;refine⟨_,rfl,?_⟩;exact D8 rG [(6,29,.agg #[i6 1,i6 s.e.id,i6 (C7 e8).1,i6 (C7 e8).2,i6 0,i6 0,.slice bda bn bdc,.slice none 0 0])] hd ⟨B3.up (bt G hb4),B8.up (bt G hb4)⟩ ⟨Ae8 #[(0,i6 1),(1,i6 s.e.id),(2,.agg #[i6 (C7 e8).1,i6 (C7 e8).2]),(5,.slice bda bn bdc)] rfl,trivial⟩ (N4 _  (bt G hb4))
 exact O0 15 rG [(0,23,.agg (A6 s).toArray),(1,24,pt n8 0),(2,25,i6 s.e.id),(3,26,.agg (A7 e8).toArray),(5,28,.slice bda bn bdc),(7,30,pt n8 1),(8,31,.slice s.e.k.a s.e.k.l.length s.e.k.c)] h0 ⟨B3.up (bd _),B8.up (bd _)⟩ ⟨M6 (cs:=A6 s) rfl (fun w hw=>hw.1.atSite) site_len e3,A9 rfl e8p,F6 rfl (fun w hw=>(hw.2.blk.endIn.id).trans (by rw[hid])),M6 (cs:=A7 e8) rfl (fun w hw=>hw.2.atEnd) end_len e8p,F5 rfl e2,A9 rfl e8p,F6 rfl (fun w hw=>(hw.2.blk.endIn.k).trans (by rw[hke])),trivial⟩ (N0 _  (bd w))
noncomputable def Ai1:{ops:Array Oper//(Tryz.f16.body.bind (K6 8))=some (.region 8 ops true)}:=⟨_,rfl⟩
abbrev Ac9:List Nat:=[28,29,30,31,32,33,34,35,36,37,38,39,40,41,42,43,44,45,27,46,47,7,8]
theorem By6:opx Ai1.1 4=some (.call {callee:=.value (.func 44),args:=#[.tmp 31],argTypes:=#[46]},some 32,none):=by kernel_rfl
theorem Bs1:opx Ai1.1 17=some (.call {callee:=.value (.func 56),args:=#[.tmp 28,.tmp 40,.tmp 44],argTypes:=#[51,65,22]},some 45,none):=by kernel_rfl
theorem Bf1:opx Ai1.1 21=some (.alloc 51,some 7,none):=by kernel_rfl
theorem Ct3:opx Ai1.1 22=some (.store 51 (.tmp 7) (.tmp 46),none,none):=by kernel_rfl
theorem Ct4{s:Sv}{n2:Nat}{n6:Nat}{bda:Option Addr}{bn bdc:Nat}{qq:Nat→Prop}{R0:Sv→Int→Prop}{a:Act}{w:World}{Q:Exit→Act→World→Prop}(hsz:58≤a.tmps.size)
 (e1:a.tmps.getD 1 undef=.slice bda bn bdc) (e2:a.tmps.getD 2 undef=.pointer (some ⟨n2,0,none⟩))
 (hP:∀c a d v w,Q (.panic c) (Act.put a d v) w→Q (.panic c) a w) (B2:A5 51 w n2 (A6 s)) (e6:a.tmps.getD 6 undef=.pointer (some ⟨n6,0,none⟩)) (B6:A5 46 w n6 (A7 s.e)) (hq:∀g,w.heap.size≤g→qq g)
 (HE:∀(q2:Nat→Prop) u,Below w.heap.size w u→(∀g,u.heap.size≤g→q2 g)→(∀g,g<w.heap.size→qq g→q2 g)→Calls Tryz.prog 56 #[.agg (A6 s).toArray,.agg #[.int .i64 2,.int .i64 s.e.id,.int .i64 (C7 s.e).1,.int .i64 (C7 s.e).2,.int .i64 s.e.r.c.no,.int .i64 s.e.seq,.slice bda bn bdc,.slice none 0 0],.slice s.e.r.c.a s.e.r.c.len s.e.r.c.cap] u (Aq0 q2 u R0))
 (hQ:∀{x28 x29 x30 x31 x32 x33 x34 x35 x36 x37 x38 x39 x40 x41 x42 x43 x44 x45 x27 x46 x47} z S9 E9 w',A5 51 w' z (A6 S9)→w.heap.size≤z→R0 S9 E9→J1 (fun g=>qq g∧g≠z) w' S9→Below w.heap.size w w'→Q .normal (B9 a Ac9 [x28,x29,x30,x31,x32,x33,x34,x35,x36,x37,x38,x39,x40,x41,x42,x43,x44,x45,x27,x46,x47,.pointer (some ⟨z,0,none⟩),.int .i64 E9]) w'):
 (Code.region 8 Ai1.1 true).wp Tryz.prog Q a w:=by
 have site_len:(Tryz.prog.info? 51).map (·.size)=some (A6 s).length:=by rw[D7];exact M8
 have end_len:(Tryz.prog.info? 46).map (·.size)=some (A7 s.e).length:=by rw[F2];exact M7
 have rG:Rgn Ai1.1 Ac9 a Q:=⟨fun k hk=>Nat.lt_of_lt_of_le ((by decide:∀k∈Ac9,k<58) k hk) hsz,by kernel_rfl,hP⟩;have hb:=rG.b;obtain⟨i,h0⟩:=Y2 a Ac9;let S:World→Prop:=fun w'=>A5 51 w' n2 (A6 s)∧A5 46 w' n6 (A7 s.e);refine wp_region_held_drew (S:=S) (by kernel_rfl) (⟨B2.up (bd _),B6.up (bd _)⟩) fun hHeld=>?_;have N4_17_21_22:∀(u:World) (S9:Sv) (E9:Int) (z:Nat) (G:Below w.heap.size w u) (B7:A5 51 u z (A6 S9)) (Lz:w.heap.size≤z) (R:R0 S9 E9) (SQ:J1 (fun g=>qq g∧g≠z) u S9),wpAnyH Tryz.prog .any Ai1.1 Q S 0 (lm 24 16777215) (B9 a Ac9 [.agg (A6 s).toArray,pt n6 0,i6 s.e.id,.agg (A7 s.e).toArray,.agg #[i6 (C7 s.e).1,i6 (C7 s.e).2],pt n6 27,pt n6 27,pt n6 27,i6 s.e.r.c.no,pt n6 9,i6 s.e.seq,.slice bda bn bdc,.agg #[i6 2,i6 s.e.id,i6 (C7 s.e).1,i6 (C7 s.e).2,i6 s.e.r.c.no,i6 s.e.seq,.slice bda bn bdc,.slice none 0 0],pt n6 27,pt n6 27,pt n6 28,.slice s.e.r.c.a s.e.r.c.len s.e.r.c.cap,.tuple #[.agg (A6 S9).toArray,i6 E9],.tuple #[.agg (A6 S9).toArray,i6 E9],.agg (A6 S9).toArray,i6 E9,pt z 0,i6 E9]) u:=by
  intro u S9 E9 z G B7 Lz R SQ;refine W5 ?_;exact hQ _ _ _ _ B7 Lz R SQ G
 have N4_17_21:∀(u:World) (S9:Sv) (E9:Int) (z:Nat) (G:Below w.heap.size w u) (R:R0 S9 E9) (Z:A5 51 u z I5) (Lz:w.heap.size≤z) (SQ:J1 (fun g=>qq g∧g≠z) u S9),wpAnyH Tryz.prog .any Ai1.1 Q S 2 (lm 24 4194303) (B9 a Ac9 [.agg (A6 s).toArray,pt n6 0,i6 s.e.id,.agg (A7 s.e).toArray,.agg #[i6 (C7 s.e).1,i6 (C7 s.e).2],pt n6 27,pt n6 27,pt n6 27,i6 s.e.r.c.no,pt n6 9,i6 s.e.seq,.slice bda bn bdc,.agg #[i6 2,i6 s.e.id,i6 (C7 s.e).1,i6 (C7 s.e).2,i6 s.e.r.c.no,i6 s.e.seq,.slice bda bn bdc,.slice none 0 0],pt n6 27,pt n6 27,pt n6 28,.slice s.e.r.c.a s.e.r.c.len s.e.r.c.cap,.tuple #[.agg (A6 S9).toArray,i6 E9],.tuple #[.agg (A6 S9).toArray,i6 E9],.agg (A6 S9).toArray,i6 E9,pt z 0,i 8]) u:=by
  intro u S9 E9 z G R Z Lz SQ;refine C9 [22] (C6 rG Ct3 ?_ AllReadyH.nil);intro o hp hd;refine V6 51 (.tmp 7) (.tmp 46) hp z rG.ev rG.ev Z (by rw[D7];exact M8) (by rw[J6,D7]) (K9 _) ?_;exact X7 rG [(23,8,i6 E9)] hd ⟨((B2.up G).rowOther z (Nat.ne_of_lt (Nat.lt_of_lt_of_le B2.blk.lt Lz)) _),(B6.up G).rowOther z (Nat.ne_of_lt (Nat.lt_of_lt_of_le B6.blk.lt Lz)) _⟩ ⟨Ai0 rfl,trivial⟩ (N4_17_21_22 _ _ _ _ (D0 G Lz _) (Z.row _) Lz R (SQ.k8 (Z.k8 (by rfl) ((Kp.refl _ _).row _)) fun g hg=>hg.2))
 have N4_17:∀(u:World) (S9:Sv) (E9:Int) (G:Below w.heap.size w u) (R:R0 S9 E9) (SQ:J1 qq u S9),wpAnyH Tryz.prog .any Ai1.1 Q S 3 (lm 24 2097151) (B9 a Ac9 [.agg (A6 s).toArray,pt n6 0,i6 s.e.id,.agg (A7 s.e).toArray,.agg #[i6 (C7 s.e).1,i6 (C7 s.e).2],pt n6 27,pt n6 27,pt n6 27,i6 s.e.r.c.no,pt n6 9,i6 s.e.seq,.slice bda bn bdc,.agg #[i6 2,i6 s.e.id,i6 (C7 s.e).1,i6 (C7 s.e).2,i6 s.e.r.c.no,i6 s.e.seq,.slice bda bn bdc,.slice none 0 0],pt n6 27,pt n6 27,pt n6 28,.slice s.e.r.c.a s.e.r.c.len s.e.r.c.cap,.tuple #[.agg (A6 S9).toArray,i6 E9],.tuple #[.agg (A6 S9).toArray,i6 E9],.agg (A6 S9).toArray,i6 E9,i 7,i 8]) u:=by
  intro u S9 E9 G R SQ;refine C9 [21] (C6 rG Bf1 ?_ AllReadyH.nil);intro o hp hd;refine J4 51 hp Ad7 ?_;exact D8 rG [] hd ⟨B2.up (bt G (ba _ _)),B6.up (bt G (ba _ _))⟩ trivial (N4_17_21 _ _ _ _ (bt G (ba _ _)) R (A5.new u I5 _) G.size ((SQ.to (fun g hg hp=>⟨hp,Nat.ne_of_lt hg⟩)).mono (ba _ _)))
 have N4_21:∀(u:World) (z:Nat) (G:Below w.heap.size w u) (Z:A5 51 u z I5) (Lz:w.heap.size≤z),wpAnyH Tryz.prog .any Ai1.1 Q S 6 (lm 24 2228223) (B9 a Ac9 [.agg (A6 s).toArray,pt n6 0,i6 s.e.id,.agg (A7 s.e).toArray,.agg #[i6 (C7 s.e).1,i6 (C7 s.e).2],pt n6 27,pt n6 27,pt n6 27,i6 s.e.r.c.no,pt n6 9,i6 s.e.seq,.slice bda bn bdc,.agg #[i6 2,i6 s.e.id,i6 (C7 s.e).1,i6 (C7 s.e).2,i6 s.e.r.c.no,i6 s.e.seq,.slice bda bn bdc,.slice none 0 0],pt n6 27,pt n6 27,pt n6 28,.slice s.e.r.c.a s.e.r.c.len s.e.r.c.cap,i 45,i 27,i 46,i 47,pt z 0,i 8]) u:=by
  intro u z G Z Lz;refine C9 [17] (C6 rG Bs1 ?_ AllReadyH.nil);intro o hp hd;refine J5 hp (rG.ev3 (.agg (A6 s).toArray) (.agg #[i6 2,i6 s.e.id,i6 (C7 s.e).1,i6 (C7 s.e).2,i6 s.e.r.c.no,i6 s.e.seq,.slice bda bn bdc,.slice none 0 0]) (.slice s.e.r.c.a s.e.r.c.len s.e.r.c.cap)) (HE (fun g=>qq g∧g≠z) u G (fun g hg=>⟨hq g (Nat.le_trans G.size hg),Nat.ne_of_gt (Nat.lt_of_lt_of_le Z.blk.lt hg)⟩) (fun g hg hp=>⟨hp,Nat.ne_of_lt (Nat.lt_of_lt_of_le hg Lz)⟩)) ?_;rintro x u17 ⟨S9,E9,rfl,hR,hQ9,hb17⟩;refine⟨_,rfl,?_⟩;exact D8 rG [(18,27,.tuple #[.agg (A6 S9).toArray,i6 E9]),(19,46,.agg (A6 S9).toArray),(20,47,i6 E9)] hd ⟨B2.up (bt G hb17),B6.up (bt G hb17)⟩ ⟨F5 rfl,J8 rfl,J8 rfl,trivial⟩ (N4_17_21 _ _ _ _ (bt G hb17) hR (Z.up hb17) Lz hQ9)
 have N4:∀(u:World) (G:Below w.heap.size w u),wpAnyH Tryz.prog .any Ai1.1 Q S 7 (lm 24 131071) (B9 a Ac9 [.agg (A6 s).toArray,pt n6 0,i6 s.e.id,.agg (A7 s.e).toArray,.agg #[i6 (C7 s.e).1,i6 (C7 s.e).2],pt n6 27,pt n6 27,pt n6 27,i6 s.e.r.c.no,pt n6 9,i6 s.e.seq,.slice bda bn bdc,.agg #[i6 2,i6 s.e.id,i6 (C7 s.e).1,i6 (C7 s.e).2,i6 s.e.r.c.no,i6 s.e.seq,.slice bda bn bdc,.slice none 0 0],pt n6 27,pt n6 27,pt n6 28,.slice s.e.r.c.a s.e.r.c.len s.e.r.c.cap,i 45,i 27,i 46,i 47,i 7,i 8]) u:=by
  intro u G;refine C9 [17,21] (C6 rG Bs1 ?_ (C6 rG Bf1 ?_ AllReadyH.nil))
  ·intro o hp hd;refine J5 hp (rG.ev3 (.agg (A6 s).toArray) (.agg #[i6 2,i6 s.e.id,i6 (C7 s.e).1,i6 (C7 s.e).2,i6 s.e.r.c.no,i6 s.e.seq,.slice bda bn bdc,.slice none 0 0]) (.slice s.e.r.c.a s.e.r.c.len s.e.r.c.cap)) (HE qq u G (fun g hg=>hq g (Nat.le_trans G.size hg)) (fun g hg hp=>hp)) ?_;rintro x u17 ⟨S9,E9,rfl,hR,hQ9,hb17⟩;refine⟨_,rfl,?_⟩;exact D8 rG [(18,27,.tuple #[.agg (A6 S9).toArray,i6 E9]),(19,46,.agg (A6 S9).toArray),(20,47,i6 E9)] hd ⟨B2.up (bt G hb17),B6.up (bt G hb17)⟩ ⟨F5 rfl,J8 rfl,J8 rfl,trivial⟩ (N4_17 _ _ _ (bt G hb17) hR hQ9)
  intro o hp hd;refine J4 51 hp Ad7 ?_;exact D8 rG [] hd ⟨B2.up (bt G (ba _ _)),B6.up (bt G (ba _ _))⟩ trivial (N4_21 _ _ (bt G (ba _ _)) (A5.new u I5 _) G.size)
 have N21:∀(u:World) (z:Nat) (G:Below w.heap.size w u) (Z:A5 51 u z I5) (Lz:w.heap.size≤z),wpAnyH Tryz.prog .any Ai1.1 Q S 8 (lm 24 2224111) (B9 a Ac9 [.agg (A6 s).toArray,pt n6 0,i6 s.e.id,.agg (A7 s.e).toArray,i 32,pt n6 27,pt n6 27,pt n6 27,i6 s.e.r.c.no,pt n6 9,i6 s.e.seq,.slice bda bn bdc,i 40,pt n6 27,pt n6 27,pt n6 28,.slice s.e.r.c.a s.e.r.c.len s.e.r.c.cap,i 45,i 27,i 46,i 47,pt z 0,i 8]) u:=by
  intro u z G Z Lz;refine C9 [4] (C6 rG By6 ?_ AllReadyH.nil);intro o hp hd;refine J5 hp (rG.ev1 (.agg (A7 s.e).toArray)) (Ac8 s.e _) ?_;rintro x u4 ⟨rfl,hb4⟩;refine⟨_,rfl,?_⟩;exact D8 rG [(12,40,.agg #[i6 2,i6 s.e.id,i6 (C7 s.e).1,i6 (C7 s.e).2,i6 s.e.r.c.no,i6 s.e.seq,.slice bda bn bdc,.slice none 0 0])] hd ⟨B2.up (bt G hb4),B6.up (bt G hb4)⟩ ⟨Ae8 #[(0,i6 2),(1,i6 s.e.id),(2,.agg #[i6 (C7 s.e).1,i6 (C7 s.e).2]),(3,i6 s.e.r.c.no),(4,i6 s.e.seq),(5,.slice bda bn bdc)] rfl,trivial⟩ (N4_21 _ _ (bt G hb4) (Z.up hb4) Lz)
 have N0:∀(u:World) (G:Below w.heap.size w u),wpAnyH Tryz.prog .any Ai1.1 Q S 9 (lm 24 126959) (B9 a Ac9 [.agg (A6 s).toArray,pt n6 0,i6 s.e.id,.agg (A7 s.e).toArray,i 32,pt n6 27,pt n6 27,pt n6 27,i6 s.e.r.c.no,pt n6 9,i6 s.e.seq,.slice bda bn bdc,i 40,pt n6 27,pt n6 27,pt n6 28,.slice s.e.r.c.a s.e.r.c.len s.e.r.c.cap,i 45,i 27,i 46,i 47,i 7,i 8]) u:=by
  intro u G;refine C9 [4,21] (C6 rG By6 ?_ (C6 rG Bf1 ?_ AllReadyH.nil))
  ·intro o hp hd;refine J5 hp (rG.ev1 (.agg (A7 s.e).toArray)) (Ac8 s.e _) ?_;rintro x u4 ⟨rfl,hb4⟩;refine⟨_,rfl,?_⟩;exact D8 rG [(12,40,.agg #[i6 2,i6 s.e.id,i6 (C7 s.e).1,i6 (C7 s.e).2,i6 s.e.r.c.no,i6 s.e.seq,.slice bda bn bdc,.slice none 0 0])] hd ⟨B2.up (bt G hb4),B6.up (bt G hb4)⟩ ⟨Ae8 #[(0,i6 2),(1,i6 s.e.id),(2,.agg #[i6 (C7 s.e).1,i6 (C7 s.e).2]),(3,i6 s.e.r.c.no),(4,i6 s.e.seq),(5,.slice bda bn bdc)] rfl,trivial⟩ (N4 _  (bt G hb4))
  intro o hp hd;refine J4 51 hp Ad7 ?_;exact D8 rG [] hd ⟨B2.up (bt G (ba _ _)),B6.up (bt G (ba _ _))⟩ trivial (N21 _ _ (bt G (ba _ _)) (A5.new u I5 _) G.size)
 exact O0 24 rG [(0,28,.agg (A6 s).toArray),(1,29,pt n6 0),(2,30,i6 s.e.id),(3,31,.agg (A7 s.e).toArray),(5,33,pt n6 27),(6,34,pt n6 27),(7,35,pt n6 27),(8,36,i6 s.e.r.c.no),(9,37,pt n6 9),(10,38,i6 s.e.seq),(11,39,.slice bda bn bdc),(13,41,pt n6 27),(14,42,pt n6 27),(15,43,pt n6 28),(16,44,.slice s.e.r.c.a s.e.r.c.len s.e.r.c.cap)] h0 ⟨B2.up (bd _),B6.up (bd _)⟩ ⟨M6 (cs:=A6 s) rfl (fun w hw=>hw.1.atSite) site_len e2,A9 rfl e6,F6 rfl (fun w hw=>hw.2.blk.endIn.id),M6 (cs:=A7 s.e) rfl (fun w hw=>hw.2.atEnd) end_len e6,A9 rfl e6,A9 rfl,A9 rfl,F6 rfl (fun w hw=>hw.2.blk.endIn.cno),A9 rfl e6,F6 rfl (fun w hw=>hw.2.blk.endIn.seq),F5 rfl e1,A9 rfl e6,A9 rfl,A9 rfl,F6 rfl (fun w hw=>hw.2.blk.endIn.ck),trivial⟩ (N0 _  (bd w))
structure Ch0 (e:Ev):Prop where
 id:0≤e.id∧e.id≤1
 ph:0≤e.ph∧e.ph≤8
 own:0≤e.own∧e.own≤4611686018427387904
 oth:0≤e.oth∧e.oth≤4611686018427387904
 seq:0≤e.seq∧e.seq≤4611686018427387904
 k:e.k.l.length=32
 nx:isC e.h.nx=true
 win:Aa5 e.wt e.wb
 ring:An4 e=true
 linked:Ad1 e=true
theorem At4{e:Ev}(h:Ad6 e=true):Ch0 e:=by
 unfold Ad6 Bo9 Bv5 Bv6 Br8 Y4 Ax8 Ba0 Y5 at h;simp only[Bool.and_eq_true,decide_eq_true_eq,beq_iff_eq,List.all_cons,List.all_nil,Bool.and_true] at h;obtain⟨⟨h1,h2,⟨h3,h4,h5,h6⟩,h7⟩,⟨h8,h9,h10,h11,h12,h13⟩,h14,h15,h16⟩:=h;exact⟨h1,h2,h3,h4,h6,h14,h13,h9,h10,h16⟩
theorem Ch0.cur{e:Ev}(h:Ch0 e)(hl:V4 e.ph=true):1≤e.r.c.no∧e.r.c.no≤2147483647∧e.r.c.len=32:=by
 have h1:=h.linked;have h2:=h.ring;unfold Ad1 at h1;rw[hl] at h1;simp only[Bool.and_eq_true,cond_true,decide_eq_true_eq] at h1;have h0:0<e.r.c.no:=h1.2.2.2.1;unfold An4 Ap8 Aj5 V3 Ak5 at h2;simp only[Bool.or_eq_true,Bool.and_eq_true,decide_eq_true_eq,beq_iff_eq] at h2;rcases h2 with h2 | h2
 ·omega
 ·exact⟨h2.1.1,h2.1.2.1,by omega⟩
theorem Bm4{e:Ev}(h:0≤e.id∧e.id≤1)(ho:0≤e.own∧e.own≤4611686018427387904)(ht:0≤e.oth∧e.oth≤4611686018427387904):(0≤(C7 e).1∧(C7 e).1≤4611686018427387904)∧(0≤(C7 e).2∧(C7 e).2≤4611686018427387904):=by
 unfold C7;split
 ·exact⟨ho,ht⟩
 ·split
  ·exact⟨ht,ho⟩
  ·exact⟨⟨by decide,by decide⟩,⟨by decide,by decide⟩⟩
def Bs2(s:Sv)(other:Int)(body:List UInt8):List UInt8:=inF 1 s.e.id.toNat (C7 {s.e with oth:=other}).1.toNat (C7 {s.e with oth:=other}).2.toNat 0 0 body
def Bs3(s:Sv)(body:List UInt8):List UInt8:=inF 2 s.e.id.toNat (C7 s.e).1.toNat (C7 s.e).2.toNat s.e.r.c.no.toNat s.e.seq.toNat body
def Bi2(s:Sv)(other:Int)(body:List UInt8)(S:Sv)(E:Int):Prop:=(¬(Ac4 other=true∧U4 body.length=true)∧S=s∧E=1)∨((Ac4 other=true∧U4 body.length=true)∧Aw3 s (Am4 s.e.k.l) (Bs2 s other body) S E)
def Bk3(S:Sv):Sv:=S.on (S.e.s_seq (S.e.seq+1))
def Ak7(s:Sv)(body:List UInt8)(S:Sv)(E:Int):Prop:=(U4 body.length=false∧S=s∧E=1)∨(U4 body.length=true∧((V4 s.e.ph=false∧S=s∧E=7)∨(V4 s.e.ph=true∧((s.e.seq=4611686018427387904∧S=s∧E=10)∨
 (s.e.seq<4611686018427387904∧∃S1,Aw3 s s.e.kc (Bs3 s body) S1 E∧S=bif E==0 then Bk3 S1 else S1)))))
theorem Cm9{n:Nat}(h:U4 n=true):1≤n∧n≤900:=by unfold U4 at h;exact of_decide_eq_true h
theorem Eg7{x:Int}(h:Ac4 x=true):0≤x∧x≤4611686018427387904:=by unfold Ac4 at h;exact of_decide_eq_true h
theorem Al5{x:Int}(h:0≤x):((x.toNat:Nat):Int)=x:=Int.toNat_of_nonneg h
theorem Bz6(s:Sv)(other:Int)(bda:Option Addr)(bdc:Nat)(bl:List UInt8)(w:World)(qq:Nat→Prop)(hq:∀g,w.heap.size≤g→qq g)(h:J1 qq w s)(hr:Ad6 s.e=true)(hes:s.es.length≤900)(hn:s.e.o.length≤1000)(hbl:A4 w bda bl)(hks:I9 w):
 Calls Tryz.prog 14 #[.agg (A6 s).toArray,.int .i64 other,.slice bda bl.length bdc] w (Aq0 qq w (Bi2 s other bl)):=by
 have SZ:=Lh (show ∀S:Sv,(Tryz.prog.info? 51).map (·.size)=some (A6 S).length from fun S=>by rw[D7];exact M8);have SE:=Lh (show ∀E:Ev,(Tryz.prog.info? 46).map (·.size)=some (A7 E).length from fun E=>by rw[F2];exact M7);have HS:=Lh h;have HQ:=Lh hq;have HR:=Lh (At4 hr);have HB:=Lh (fun(u:World) (hb:Below w.heap.size w u)=>(show Calls Tryz.prog 45 #[.slice s.e.k.a s.e.k.l.length s.e.k.c] u (Ak3 u (Am4 s.e.k.l)) from Ax7 s.e.k.a s.e.k.c s.e.k.l (by have:=(At4 hr).k;omega) u (h.e.k.b.mono hb) (hks.mono hb)));have HE:=Lh (fun(z1:Ac4 other=true) (z2:U4 bl.length=true) (q2:Nat→Prop) (u:World) (hb:Below w.heap.size w u) (hc:∀g,u.heap.size≤g→q2 g) (hc2:∀g,g<w.heap.size→qq g→q2 g) (kb:Option Addr) (kbc:Nat) (hkb:A4 u kb (Am4 s.e.k.l)) (hkc:32≤kbc∧kbc≤maxLen)=>
  (show Calls Tryz.prog 56 #[.agg (A6 s).toArray,.agg #[.int .i64 1,.int .i64 s.e.id,.int .i64 (C7 {s.e with oth:=other}).1,.int .i64 (C7 {s.e with oth:=other}).2,.int .i64 0,.int .i64 0,.slice bda bl.length bdc,.slice none 0 0],.slice kb 32 kbc] u (Aq0 q2 u (Aw3 s (Am4 s.e.k.l) (Bs2 s other bl))) from by
  have f:=At4 hr;have b:=Cm9 z2;have pb:=Bm4 (e:={s.e with oth:=other}) f.id f.own (Eg7 z1);have k2:=Bi1 s 1 s.e.id.toNat (C7 {s.e with oth:=other}).1.toNat (C7 {s.e with oth:=other}).2.toNat 0 0 bda bdc bl kb kbc (Am4 s.e.k.l) u q2 hc ((h.to hc2).mono hb) ⟨by decide,by decide,by have:=f.id;omega,by omega,by omega,by decide,by decide,b.1,b.2⟩ (hbl.mono hb) hkb (by rw[Av0];decide) (by rw[Av0];exact hkc) f.nx hes hn (hks.mono hb);rw[Av0,Al5 f.id.1,Al5 pb.1.1,Al5 pb.2.1] at k2;exact k2))
 have HBad:=Lh (fun(hz:¬(Ac4 other=true∧U4 bl.length=true))=>(show Bi2 s other bl s 1 from .inl ⟨hz,rfl,rfl⟩));have HOk:=Lh (fun(z1:Ac4 other=true) (z2:U4 bl.length=true) S E (hR:Aw3 s (Am4 s.e.k.l) (Bs2 s other bl) S E)=>(show Bi2 s other bl S E from .inr ⟨⟨z1,z2⟩,hR⟩));have WN:=Lh (fun r hr=>Be9 (hi:=4611686018427387904) (x:=other) r hr);have HF:=Lh (fun W=>Bg4 bda bl.length bdc W);clear h hq hr hes hn hbl hks;go_enter Tryz.func14,Tryz.ntmps14
 go_upto_region 1 with(fail)
 generalize hW:World.alloc (World.alloc w _) _=W;obtain⟨B3,B6,hb⟩:=Ak6 (a:=A6 s) (b:=I5) hW;clear hW;have B3:=Lh B3;have B6:=Lh B6;have G:=Lh hb;have N36:=Lh (show w.heap.size≠w.heap.size+1 by omega);have L3:=Lh (show w.heap.size≤w.heap.size by omega);have L6:=Lh (show w.heap.size≤w.heap.size+1 by omega);clear hb;generalize w.heap.size+1=n6 at B6 N36 L6 ⊢;generalize hn3:w.heap.size=n3 at B3 N36 ⊢;replace L3:=Lh (show w.heap.size≤n3 by omega);clear hn3;rcases hz1:Ac4 other with _ | _
 ·replace WN:=Lh (WN.out false (by unfold Ac4 at hz1;exact hz1));have HBd:=Lh (HBad.out (by rw[hz1];simp));clear hz1 HE HOk HBad HF;go_wp2_with fail
  refine(WN.out _).mono ?_;rintro x w1 ⟨rfl,hb⟩;replace B3:=Lh (B3.out.up hb);replace B6:=Lh (B6.out.up hb);replace G:=Lh (bt G.out hb);clear hb WN;go_wp2_with (first
   | (refine I2 51 (.tmp 3) rfl ?_;refine A8 51 (.tmp 3) n3 rfl rfl rfl B3.out.blk Tryz.underlying51 rfl (SZ.out _) ?_)
   | (refine D9 51 _ _ rfl ?_;refine G8 51 _ _ n6 rfl rfl rfl rfl B6.out (SZ.out _) (by rw[J6,D7]) (K9 _) ?_;intro w3 hB hK;replace B6:=Lh hB;replace G:=Lh (hK.below G.out L6.out);clear hB hK))
  (try simp only[Act.put,List.setIfInBounds_toArray,List.set_cons_zero,List.set_cons_succ])
  refine bodyPost_ret (D6 rfl _ _ n6 (cs:=A6 s) rfl _ rfl B6.out.blk Tryz.underlying51 rfl (SZ.out _)) rfl ?_;exact⟨s,1,rfl,HBd.out,HS.out.mono G.out,G.out⟩
 replace WN:=Lh (WN.out true (by unfold Ac4 at hz1;exact hz1));go_wp2_with fail
 refine(WN.out _).mono ?_;rintro x w1 ⟨rfl,hb⟩;replace B3:=Lh (B3.out.up hb);replace B6:=Lh (B6.out.up hb);replace G:=Lh (bt G.out hb);clear hb WN;go_wp2_with fail
 refine(HF.out _).mono ?_;rintro x w2 ⟨rfl,rfl⟩;clear HF;rcases hz2:U4 bl.length with _ | _
 ·have HBd:=Lh (HBad.out (by rw[hz2];simp));clear hz1 hz2 HE HOk HBad;go_wp2_with (first
   | (refine I2 51 (.tmp 3) rfl ?_;refine A8 51 (.tmp 3) n3 rfl rfl rfl B3.out.blk Tryz.underlying51 rfl (SZ.out _) ?_)
   | (refine D9 51 _ _ rfl ?_;refine G8 51 _ _ n6 rfl rfl rfl rfl B6.out (SZ.out _) (by rw[J6,D7]) (K9 _) ?_;intro w3 hB hK;replace B6:=Lh hB;replace G:=Lh (hK.below G.out L6.out);clear hB hK))
  (try simp only[Act.put,List.setIfInBounds_toArray,List.set_cons_zero,List.set_cons_succ])
  refine bodyPost_ret (D6 rfl _ _ n6 (cs:=A6 s) rfl _ rfl B6.out.blk Tryz.underlying51 rfl (SZ.out _)) rfl ?_;exact⟨s,1,rfl,HBd.out,HS.out.mono G.out,G.out⟩
 replace HE:=Lh (HE.out hz1 hz2);replace HOk:=Lh (HOk.out hz1 hz2);clear hz1 hz2 HBad;go_upto_region 4 with(first
  | (refine I2 46 (.tmp 19) rfl ?_;refine F9 46 (.tmp 19) n3 0 (by first | rfl | simp[Region.wanted,yielded]) rfl rfl B3.out.blk.atE Tryz.underlying46 rfl (SE.out _) ?_)
  | (refine D9 46 _ _ rfl ?_;refine G8 46 _ _ _ rfl rfl rfl rfl (A5.new _ _ _) (SE.out _) (by rw[F2];rfl) (Ad5 _) ?_;intro w5 hB8 hK;have B8:=Lh hB8;have N8:=Lh (show n3≠w1.heap.size∧n6≠w1.heap.size from⟨Nat.ne_of_lt B3.out.blk.lt,Nat.ne_of_lt B6.out.blk.lt⟩);replace B3:=Lh ((B3.out.up (ba _ _)).kp hK N8.out.1);replace B6:=Lh ((B6.out.up (ba _ _)).kp hK N8.out.2);have L8:=Lh G.out.size;replace G:=Lh (hK.below (bt G.out (ba _ _)) G.out.size);clear hB8 hK))
 generalize w1.heap.size=n8 at B8 N8 L8 ⊢;go_upto_region 5 with(refine D9 3 (.tmp 22) _ rfl ?_;refine O1 3 (.tmp 22) _ n8 7 rfl rfl rfl rfl B8.out (by rw[F2];decide) (by kernel_rfl) rfl (Ar7 _ other) ?_;intro w5 hB hK;replace B8:=Lh hB;replace G:=Lh (hK.below G.out L8.out);replace B3:=Lh (B3.out.kp hK N8.out.1);replace B6:=Lh (B6.out.kp hK N8.out.2);clear hB hK)
 refine Ct2 (e8:=s.e.s_oth other) (KB:=Am4 s.e.k.l) (qq:=qq) (R0:=Aw3 s (Am4 s.e.k.l) (Bs2 s other bl)) (Nat.le_refl _) rfl rfl rfl rfl rfl rfl (fun _ _ d _ _ h=>by cases d<;>exact h) B3.out B8.out B6.out N36.out N8.out.2.symm (fun u hu=>HB.out u (bt G.out hu)) (fun u kb kbc hu hkb hkc=>HE.out _ u (bt G.out hu) (fun g hg=>⟨HQ.out g (by have:=G.out.size;have:=hu.size;omega),Nat.ne_of_gt (Nat.lt_of_lt_of_le B6.out.blk.lt (Nat.le_trans hu.size hg))⟩) (fun g hg hp=>⟨hp,Nat.ne_of_lt (Nat.lt_of_lt_of_le hg L6.out)⟩) kb kbc hkb hkc) ?_;intro x23 x24 x25 x26 x27 x28 x29 x30 x31 x32 x33 x34 x35 S9 E9 w9 hB6 hR hSQ hK;simp only[B9,Act.put,List.setIfInBounds_toArray,List.set_cons_zero,List.set_cons_succ];have B6':=Lh hB6;have R9:=Lh (HOk.out S9 E9 hR);have SQ:=Lh hSQ;replace G:=Lh (hK.below G.out L6.out);clear hB6 hR hSQ hK;go_wp2_with fail
 (try simp only[Act.put,List.setIfInBounds_toArray,List.set_cons_zero,List.set_cons_succ])
 refine bodyPost_ret (D6 rfl _ _ n6 (cs:=A6 S9) rfl _ rfl B6'.out.blk Tryz.underlying51 rfl (SZ.out _)) rfl ?_;exact⟨S9,E9,rfl,R9.out,SQ.out.to (fun g hg hp=>hp.1),G.out⟩
theorem Do1{x:Int}(h0:0≤x+1)(h1:x+1≤9223372036854775807):IntKind.i64.wrap (x+1)=x+1:=by
 obtain⟨n,hn⟩:∃n:Nat,x+1=n:=⟨(x+1).toNat,by omega⟩;rw[hn];exact Av2 n (by omega)
theorem J1.seq{q:Nat→Prop}{w:World}{S:Sv}(h:J1 q w S):J1 q w (Bk3 S):=
 ⟨⟨h.e.k,h.e.s1,h.e.s2,h.e.r,h.e.rc,h.e.ro,h.e.rp,h.e.q,h.e.ql,h.e.u,h.e.ul,h.e.h,h.e.hl,h.e.o,h.e.ol,h.e.g,h.e.gl,h.e.wt⟩,h.p,h.pl⟩
theorem Bi3(s:Sv)(bda:Option Addr)(bdc:Nat)(bl:List UInt8)(w:World)(qq:Nat→Prop)(hq:∀g,w.heap.size≤g→qq g)(h:J1 qq w s)(hr:Ad6 s.e=true)(hes:s.es.length≤900)(hn:s.e.o.length≤1000)(hbl:A4 w bda bl)(hks:I9 w):
 Calls Tryz.prog 16 #[.agg (A6 s).toArray,.slice bda bl.length bdc] w (Aq0 qq w (Ak7 s bl)):=by
 have SZ:=Lh (show ∀S:Sv,(Tryz.prog.info? 51).map (·.size)=some (A6 S).length from fun S=>by rw[D7];exact M8);have SE:=Lh (show ∀E:Ev,(Tryz.prog.info? 46).map (·.size)=some (A7 E).length from fun E=>by rw[F2];exact M7);have HS:=Lh h;have HQ:=Lh hq;have HR:=Lh (At4 hr);have HE:=Lh (fun(z1:V4 s.e.ph=true) (z2:U4 bl.length=true) (q2:Nat→Prop) (u:World) (hb:Below w.heap.size w u) (hc:∀g,u.heap.size≤g→q2 g) (hc2:∀g,g<w.heap.size→qq g→q2 g)=>
  (show Calls Tryz.prog 56 #[.agg (A6 s).toArray,.agg #[.int .i64 2,.int .i64 s.e.id,.int .i64 (C7 s.e).1,.int .i64 (C7 s.e).2,.int .i64 s.e.r.c.no,.int .i64 s.e.seq,.slice bda bl.length bdc,.slice none 0 0],.slice s.e.r.c.a s.e.r.c.len s.e.r.c.cap] u (Aq0 q2 u (Aw3 s s.e.kc (Bs3 s bl))) from by
  have f:=At4 hr;have b:=Cm9 z2;have pb:=Bm4 (e:=s.e) f.id f.own f.oth;have cu:=f.cur z1;have kl:s.e.kc.length=32:=by rw[←h.e.r.lc];exact cu.2.2
  have k2:=Bi1 s 2 s.e.id.toNat (C7 s.e).1.toNat (C7 s.e).2.toNat s.e.r.c.no.toNat s.e.seq.toNat bda bdc bl s.e.r.c.a s.e.r.c.cap s.e.kc u q2 hc ((h.to hc2).mono hb) ⟨by decide,by decide,by have:=f.id;omega,by omega,by omega,by omega,by have:=f.seq;omega,b.1,b.2⟩ (hbl.mono hb) (h.e.r.c.mono hb) (by omega) (by rw[←h.e.r.lc];exact h.e.rc) f.nx hes hn (hks.mono hb);rw[←h.e.r.lc,Al5 f.id.1,Al5 pb.1.1,Al5 pb.2.1,Al5 (show 0≤s.e.r.c.no by omega),Al5 f.seq.1] at k2;exact k2))
 have HBad:=Lh (fun(hz:U4 bl.length=false)=>(show Ak7 s bl s 1 from .inl ⟨hz,rfl,rfl⟩));have HOff:=Lh (fun(hz:U4 bl.length=true) (hl:V4 s.e.ph=false)=>(show Ak7 s bl s 7 from .inr ⟨hz,.inl ⟨hl,rfl,rfl⟩⟩));have HSp:=Lh (fun(hz:U4 bl.length=true) (hl:V4 s.e.ph=true) (hs:s.e.seq=4611686018427387904)=>(show Ak7 s bl s 10 from .inr ⟨hz,.inr ⟨hl,.inl ⟨hs,rfl,rfl⟩⟩⟩));have HOk:=Lh (fun(hz:U4 bl.length=true) (hl:V4 s.e.ph=true) (hs:s.e.seq<4611686018427387904) S1 E (hR:Aw3 s s.e.kc (Bs3 s bl) S1 E)=>(show Ak7 s bl (bif E==0 then Bk3 S1 else S1) E from .inr ⟨hz,.inr ⟨hl,.inr ⟨hs,S1,hR,rfl⟩⟩⟩));have HLk:=Lh (fun W=>Ae6 s.e.ph W);have HF:=Lh (fun W=>Bg4 bda bl.length bdc W);clear h hq hr hes hn hbl hks;go_enter Tryz.func16,Tryz.ntmps16
 go_upto_region 1 with(fail)
 generalize hW:World.alloc (World.alloc w _) _=W;obtain⟨B3,B6,hb⟩:=Ak6 (a:=A6 s) (b:=I5) hW;clear hW;have B3:=Lh B3;have B6:=Lh B6;have G:=Lh hb;have N36:=Lh (show w.heap.size≠w.heap.size+1 by omega);have L3:=Lh (show w.heap.size≤w.heap.size by omega);have L6:=Lh (show w.heap.size≤w.heap.size+1 by omega);clear hb;generalize w.heap.size+1=n6 at B6 N36 L6 ⊢;generalize hn3:w.heap.size=n3 at B3 N36 ⊢;replace L3:=Lh (show w.heap.size≤n3 by omega);clear hn3;go_upto_region 2 with(first
  | (refine I2 46 (.tmp 9) rfl ?_;refine F9 46 (.tmp 9) n3 0 (by first | rfl | simp[Region.wanted,yielded]) rfl rfl B3.out.blk.atE Tryz.underlying46 rfl (SE.out _) ?_)
  | (refine D9 46 _ _ rfl ?_;refine G8 46 _ _ _ rfl rfl rfl rfl (A5.new _ _ _) (SE.out _) (by rw[F2];rfl) (Ad5 _) ?_;intro w5 hB8 hK;have B8:=Lh hB8;have N8:=Lh (show n3≠W.heap.size∧n6≠W.heap.size from⟨Nat.ne_of_lt B3.out.blk.lt,Nat.ne_of_lt B6.out.blk.lt⟩);replace B3:=Lh ((B3.out.up (ba _ _)).kp hK N8.out.1);replace B6:=Lh ((B6.out.up (ba _ _)).kp hK N8.out.2);have L8:=Lh G.out.size;replace G:=Lh (hK.below (bt G.out (ba _ _)) G.out.size);clear hB8 hK))
 generalize W.heap.size=n8 at B8 N8 L8 ⊢;go_wp2_with fail
 refine(HF.out _).mono ?_;rintro x w2 ⟨rfl,rfl⟩;clear HF;rcases hz2:U4 bl.length with _ | _
 ·have HBd:=Lh (HBad.out hz2);clear hz2 HE HOk HBad HOff HSp HLk;go_wp2_with (first
   | (refine I2 51 (.tmp 2) rfl ?_;refine A8 51 (.tmp 2) n3 rfl rfl rfl B3.out.blk Tryz.underlying51 rfl (SZ.out _) ?_)
   | (refine D9 51 _ _ rfl ?_;refine G8 51 _ _ n6 rfl rfl rfl rfl B6.out (SZ.out _) (by rw[J6,D7]) (K9 _) ?_;intro w3 hB hK;replace B6:=Lh hB;replace G:=Lh (hK.below G.out L6.out);clear hB hK))
  (try simp only[Act.put,List.setIfInBounds_toArray,List.set_cons_zero,List.set_cons_succ])
  refine bodyPost_ret (D6 rfl _ _ n6 (cs:=A6 s) rfl _ rfl B6.out.blk Tryz.underlying51 rfl (SZ.out _)) rfl ?_;exact⟨s,1,rfl,HBd.out,HS.out.mono G.out,G.out⟩
 replace HOff:=Lh (HOff.out hz2);replace HSp:=Lh (HSp.out hz2);replace HOk:=Lh (HOk.out hz2);have Hz2:=Lh hz2;clear HBad hz2;have gp:=B8.out.blk.endIn.ph;go_wp2_with fail
 refine(HLk.out _).mono ?_;rintro x w2 ⟨rfl,rfl⟩;clear HLk gp;rcases hz1:V4 s.e.ph with _ | _
 ·have HBd:=Lh (HOff.out hz1);clear hz1 HE HOk HOff HSp;go_wp2_with (first
   | (refine I2 51 (.tmp 2) rfl ?_;refine A8 51 (.tmp 2) n3 rfl rfl rfl B3.out.blk Tryz.underlying51 rfl (SZ.out _) ?_)
   | (refine D9 51 _ _ rfl ?_;refine G8 51 _ _ n6 rfl rfl rfl rfl B6.out (SZ.out _) (by rw[J6,D7]) (K9 _) ?_;intro w3 hB hK;replace B6:=Lh hB;replace G:=Lh (hK.below G.out L6.out);clear hB hK))
  (try simp only[Act.put,List.setIfInBounds_toArray,List.set_cons_zero,List.set_cons_succ])
  refine bodyPost_ret (D6 rfl _ _ n6 (cs:=A6 s) rfl _ rfl B6.out.blk Tryz.underlying51 rfl (SZ.out _)) rfl ?_;exact⟨s,7,rfl,HBd.out,HS.out.mono G.out,G.out⟩
 replace HSp:=Lh (HSp.out hz1);replace HOk:=Lh (HOk.out hz1);replace HE:=Lh (HE.out hz1 Hz2.out);clear HOff hz1;have gs:=B8.out.blk.endIn.seq;by_cases hz3:s.e.seq=4611686018427387904
 ·have HBd:=Lh (HSp.out hz3);rw[hz3] at gs;clear hz3 HE HOk HSp;go_wp2_with (first
   | (refine I2 51 (.tmp 2) rfl ?_;refine A8 51 (.tmp 2) n3 rfl rfl rfl B3.out.blk Tryz.underlying51 rfl (SZ.out _) ?_)
   | (refine D9 51 _ _ rfl ?_;refine G8 51 _ _ n6 rfl rfl rfl rfl B6.out (SZ.out _) (by rw[J6,D7]) (K9 _) ?_;intro w3 hB hK;replace B6:=Lh hB;replace G:=Lh (hK.below G.out L6.out);clear hB hK))
  (try simp only[Act.put,List.setIfInBounds_toArray,List.set_cons_zero,List.set_cons_succ])
  refine bodyPost_ret (D6 rfl _ _ n6 (cs:=A6 s) rfl _ rfl B6.out.blk Tryz.underlying51 rfl (SZ.out _)) rfl ?_;exact⟨s,10,rfl,HBd.out,HS.out.mono G.out,G.out⟩
 have e3:(s.e.seq==4611686018427387904)=false:=by rw[beq_eq_false_iff_ne];exact hz3
 have h3:s.e.seq<4611686018427387904:=by have:=HR.out.seq;omega
 replace HOk:=Lh (HOk.out h3);have H3:=Lh h3;clear hz3 HSp h3;go_upto_region 8 with(fail)
 clear e3 gs;generalize hWr:w5=Wr at *;clear hWr;have Q6:=Lh (show ∀g,Wr.heap.size≤g→qq g∧g≠n6 from fun g hg=>⟨HQ.out g (Nat.le_trans G.out.size hg),Nat.ne_of_gt (Nat.lt_of_lt_of_le B6.out.blk.lt hg)⟩);refine Ct4 (qq:=fun g=>qq g∧g≠n6) (R0:=Aw3 s s.e.kc (Bs3 s bl)) (Nat.le_refl _) rfl rfl (fun _ _ d _ _ h=>by cases d<;>exact h) B3.out rfl B8.out Q6.out (fun q2 u hu hc hc2=>HE.out q2 u (bt G.out hu) hc (fun g hg hp=>hc2 g (Nat.lt_of_lt_of_le hg G.out.size) ⟨hp,Nat.ne_of_lt (Nat.lt_of_lt_of_le hg L6.out)⟩)) ?_;intro x28 x29 x30 x31 x32 x33 x34 x35 x36 x37 x38 x39 x40 x41 x42 x43 x44 x45 x27 x46 x47 z S9 E9 w9 hB7 hLz hR hSQ hG;simp only[B9,Act.put,List.setIfInBounds_toArray,List.set_cons_zero,List.set_cons_succ];have B7:=Lh hB7;have R9:=Lh (HOk.out S9 E9 hR);have SQ:=Lh hSQ;have LZ:=Lh (show w.heap.size≤z from Nat.le_trans G.out.size hLz);have NZ:=Lh (show n6≠z from Nat.ne_of_lt (Nat.lt_of_lt_of_le B6.out.blk.lt hLz));replace B6:=Lh (B6.out.up hG);replace G:=Lh (bt G.out hG);have HC:=Lh (show E9=11∨(E9=0∧S9.e.seq=s.e.seq) from by
  rcases hR with⟨_,_,rfl⟩ | ⟨c,ta,tc,oa,oc,_,rfl,rfl⟩
  ·exact .inl rfl
  ·exact .inr ⟨rfl,rfl⟩)
 clear hB7 hR hSQ hG hLz HOk HE;rcases HC.out with rfl | ⟨rfl,hsq⟩
 ·go_wp2_with (first
   | (refine I2 51 (.tmp 7) rfl ?_;refine A8 51 (.tmp 7) z rfl rfl rfl B7.out.blk Tryz.underlying51 rfl (SZ.out _) ?_)
   | (refine D9 51 _ _ rfl ?_;refine G8 51 _ _ n6 rfl rfl rfl rfl B6.out (SZ.out _) (by rw[J6,D7]) (K9 _) ?_;intro w3 hB hK;replace SQ:=Lh (SQ.out.k8 (B6.out.k8 (by rfl) hK) fun g hg=>hg.1.2);replace B6:=Lh hB;replace G:=Lh (hK.below G.out L6.out);clear hB hK))
  (try simp only[Act.put,List.setIfInBounds_toArray,List.set_cons_zero,List.set_cons_succ])
  refine bodyPost_ret (D6 rfl _ _ n6 (cs:=A6 S9) rfl _ rfl B6.out.blk Tryz.underlying51 rfl (SZ.out _)) rfl ?_;exact⟨S9,11,rfl,R9.out,SQ.out.to (fun g hg hp=>hp.1.1),G.out⟩
 ·have gs:=B7.out.blk.siteIn.seq;have hw:IntKind.i64.wrap (S9.e.seq+1)=S9.e.seq+1:=Do1 (by have:=HR.out.seq;omega) (by have:=HR.out.seq;have:=H3.out;omega);clear hsq;go_wp2_with (first
   | (refine D9 3 (.tmp 55) (.tmp 53) rfl ?_;refine O1 3 (.tmp 55) (.tmp 53) z 9 rfl rfl rfl rfl B7.out (by rw[D7];decide) (by kernel_rfl) rfl (Bz2 S9 (S9.e.seq+1)) ?_;intro w3 hB hK;replace SQ:=Lh (SQ.out.k8 (B7.out.k8 (Q4 _) hK) fun g hg=>hg.2);replace B7:=Lh hB;replace B6:=Lh (B6.out.kp hK NZ.out);replace G:=Lh (hK.below G.out LZ.out);clear hB hK gs)
   | (refine I2 51 (.tmp 7) rfl ?_;refine A8 51 (.tmp 7) z rfl rfl rfl B7.out.blk Tryz.underlying51 rfl (SZ.out _) ?_)
   | (refine D9 51 _ _ rfl ?_;refine G8 51 _ _ n6 rfl rfl rfl rfl B6.out (SZ.out _) (by rw[J6,D7]) (K9 _) ?_;intro w3 hB hK;replace SQ:=Lh (SQ.out.k8 (B6.out.k8 (by rfl) hK) fun g hg=>hg.1.2);replace B6:=Lh hB;replace G:=Lh (hK.below G.out L6.out);clear hB hK))
  (try simp only[Act.put,List.setIfInBounds_toArray,List.set_cons_zero,List.set_cons_succ])
  refine bodyPost_ret (D6 rfl _ _ n6 (cs:=A6 (Bk3 S9)) rfl _ rfl B6.out.blk Tryz.underlying51 rfl (SZ.out _)) rfl ?_;exact⟨Bk3 S9,0,rfl,R9.out,(SQ.out.to (fun g hg hp=>hp.1.1)).seq,G.out⟩
theorem Ay0(a b c d:Value)(w:World):(Instr.index 140 (.agg #[a,b,c,d]) (.int .i64 0)).run Tryz.prog w=.ok a w:=by kernel_rfl
theorem Ay1(a b c d:Value)(w:World):(Instr.index 140 (.agg #[a,b,c,d]) (.int .i64 1)).run Tryz.prog w=.ok b w:=by kernel_rfl
theorem Ay2(a b c d:Value)(w:World):(Instr.index 140 (.agg #[a,b,c,d]) (.int .i64 2)).run Tryz.prog w=.ok c w:=by kernel_rfl
theorem Ay3(a b c d:Value)(w:World):(Instr.index 140 (.agg #[a,b,c,d]) (.int .i64 3)).run Tryz.prog w=.ok d w:=by kernel_rfl
def Aj1(s:Sv)(b:Int):Sv:=
 if b=2 then s.on (s.e.s_c0 (wrap64 (s.e.c0+1))) else if b=5 then s.on (s.e.s_c1 (wrap64 (s.e.c1+1)))
 else if b=6 then s.on (s.e.s_c2 (wrap64 (s.e.c2+1))) else if b=13 then s.on (s.e.s_c3 (wrap64 (s.e.c3+1))) else s
theorem J1.bump{q:Nat→Prop}{w:World}{S:Sv}(h:J1 q w S)(b:Int):J1 q w (Aj1 S b):=by
 unfold Aj1;repeat' split
 all_goals first | exact h | exact⟨⟨h.e.k,h.e.s1,h.e.s2,h.e.r,h.e.rc,h.e.ro,h.e.rp,h.e.q,h.e.ql,h.e.u,h.e.ul,h.e.h,h.e.hl,h.e.o,h.e.ol,h.e.g,h.e.gl,h.e.wt⟩,h.p,h.pl⟩
theorem Ct5(s:Sv)(w:World):
 Calls Tryz.prog 22 #[.agg (A6 s).toArray,.int .i64 2] w fun x w'=>x=.returned (.agg (A6 (s.on (s.e.s_c0 (wrap64 (s.e.c0+1))))).toArray)∧Below w.heap.size w w':=by
 have SZ:=Lh (show ∀S:Sv,(Tryz.prog.info? 51).map (·.size)=some (A6 S).length from fun S=>by rw[D7];exact M8);go_enter Tryz.func22,Tryz.ntmps22
 go_upto_region 1 with(fail)
 generalize hW:World.alloc (World.alloc w _) _=W;obtain⟨B3,B6,hb⟩:=Ak6 (a:=A6 s) (b:=I5) hW;clear hW;have B3:=Lh B3;have B6:=Lh B6;have G:=Lh hb;have N36:=Lh (show w.heap.size≠w.heap.size+1 by omega);have L3:=Lh (show w.heap.size≤w.heap.size by omega);have L6:=Lh (show w.heap.size≤w.heap.size+1 by omega);clear hb;generalize w.heap.size+1=n6 at B6 N36 L6 ⊢;generalize hn3:w.heap.size=n3 at B3 N36 ⊢;replace L3:=Lh (show w.heap.size≤n3 by omega);clear hn3;have gc0:=B3.out.blk.siteIn.c0;have hi0:=Ay0;have hi1:=Ay1;have hi2:=Ay2;have hi3:=Ay3;go_wp2_with fail
 refine wp_loop_rounds 5 ?_;rw[rounds_succ];go_wp2_with (first
  | (refine D9 3 (.tmp 23) (.tmp 20) rfl ?_;refine D9 3 (.tmp 23) (.tmp 20) rfl ?_;refine O1 3 (.tmp 23) (.tmp 20) n3 66 rfl rfl rfl rfl B3.out (by rw[D7];decide) (by kernel_rfl) rfl (Cf8 s (wrap64 (s.e.c0+1))) ?_;intro w3 hB hK;replace B6:=Lh (B6.out.kp hK N36.out.symm);replace B3:=Lh hB;replace G:=Lh (hK.below G.out L3.out);clear hB hK gc0))
 rw[rounds_succ];go_wp2_with fail
 rw[rounds_succ];go_wp2_with fail
 rw[rounds_succ];go_wp2_with fail
 rw[rounds_succ];go_wp2_with (first
  | (refine I2 51 (.tmp 2) rfl ?_;refine I2 51 (.tmp 2) rfl ?_;refine A8 51 (.tmp 2) n3 rfl rfl rfl B3.out.blk Tryz.underlying51 rfl (SZ.out _) ?_)
  | (refine D9 51 _ _ rfl ?_;refine D9 51 _ _ rfl ?_;refine G8 51 _ _ n6 rfl rfl rfl rfl B6.out (SZ.out _) (by rw[J6,D7]) (K9 _) ?_;intro w3 hB hK;replace B6:=Lh hB;replace G:=Lh (hK.below G.out L6.out);clear hB hK))
 (try simp only[Act.put,List.setIfInBounds_toArray,List.set_cons_zero,List.set_cons_succ])
 refine bodyPost_ret (K5 rfl _ _ n6 (cs:=A6 (s.on (s.e.s_c0 (wrap64 (s.e.c0+1))))) rfl B6.out.blk Tryz.underlying51 rfl (SZ.out _)) rfl ?_;exact⟨rfl,G.out⟩
theorem Ct6(s:Sv)(w:World):
 Calls Tryz.prog 22 #[.agg (A6 s).toArray,.int .i64 5] w fun x w'=>x=.returned (.agg (A6 (s.on (s.e.s_c1 (wrap64 (s.e.c1+1))))).toArray)∧Below w.heap.size w w':=by
 have SZ:=Lh (show ∀S:Sv,(Tryz.prog.info? 51).map (·.size)=some (A6 S).length from fun S=>by rw[D7];exact M8);go_enter Tryz.func22,Tryz.ntmps22
 go_upto_region 1 with(fail)
 generalize hW:World.alloc (World.alloc w _) _=W;obtain⟨B3,B6,hb⟩:=Ak6 (a:=A6 s) (b:=I5) hW;clear hW;have B3:=Lh B3;have B6:=Lh B6;have G:=Lh hb;have N36:=Lh (show w.heap.size≠w.heap.size+1 by omega);have L3:=Lh (show w.heap.size≤w.heap.size by omega);have L6:=Lh (show w.heap.size≤w.heap.size+1 by omega);clear hb;generalize w.heap.size+1=n6 at B6 N36 L6 ⊢;generalize hn3:w.heap.size=n3 at B3 N36 ⊢;replace L3:=Lh (show w.heap.size≤n3 by omega);clear hn3;have gc1:=B3.out.blk.siteIn.c1;have hi0:=Ay0;have hi1:=Ay1;have hi2:=Ay2;have hi3:=Ay3;go_wp2_with fail
 refine wp_loop_rounds 5 ?_;rw[rounds_succ];go_wp2_with fail
 rw[rounds_succ];go_wp2_with (first
  | (refine D9 3 (.tmp 23) (.tmp 20) rfl ?_;refine D9 3 (.tmp 23) (.tmp 20) rfl ?_;refine O1 3 (.tmp 23) (.tmp 20) n3 67 rfl rfl rfl rfl B3.out (by rw[D7];decide) (by kernel_rfl) rfl (Cf9 s (wrap64 (s.e.c1+1))) ?_;intro w3 hB hK;replace B6:=Lh (B6.out.kp hK N36.out.symm);replace B3:=Lh hB;replace G:=Lh (hK.below G.out L3.out);clear hB hK gc1))
 rw[rounds_succ];go_wp2_with fail
 rw[rounds_succ];go_wp2_with fail
 rw[rounds_succ];go_wp2_with (first
  | (refine I2 51 (.tmp 2) rfl ?_;refine I2 51 (.tmp 2) rfl ?_;refine A8 51 (.tmp 2) n3 rfl rfl rfl B3.out.blk Tryz.underlying51 rfl (SZ.out _) ?_)
  | (refine D9 51 _ _ rfl ?_;refine D9 51 _ _ rfl ?_;refine G8 51 _ _ n6 rfl rfl rfl rfl B6.out (SZ.out _) (by rw[J6,D7]) (K9 _) ?_;intro w3 hB hK;replace B6:=Lh hB;replace G:=Lh (hK.below G.out L6.out);clear hB hK))
 (try simp only[Act.put,List.setIfInBounds_toArray,List.set_cons_zero,List.set_cons_succ])
 refine bodyPost_ret (K5 rfl _ _ n6 (cs:=A6 (s.on (s.e.s_c1 (wrap64 (s.e.c1+1))))) rfl B6.out.blk Tryz.underlying51 rfl (SZ.out _)) rfl ?_;exact⟨rfl,G.out⟩
theorem Ct7(s:Sv)(w:World):
 Calls Tryz.prog 22 #[.agg (A6 s).toArray,.int .i64 6] w fun x w'=>x=.returned (.agg (A6 (s.on (s.e.s_c2 (wrap64 (s.e.c2+1))))).toArray)∧Below w.heap.size w w':=by
 have SZ:=Lh (show ∀S:Sv,(Tryz.prog.info? 51).map (·.size)=some (A6 S).length from fun S=>by rw[D7];exact M8);go_enter Tryz.func22,Tryz.ntmps22
 go_upto_region 1 with(fail)
 generalize hW:World.alloc (World.alloc w _) _=W;obtain⟨B3,B6,hb⟩:=Ak6 (a:=A6 s) (b:=I5) hW;clear hW;have B3:=Lh B3;have B6:=Lh B6;have G:=Lh hb;have N36:=Lh (show w.heap.size≠w.heap.size+1 by omega);have L3:=Lh (show w.heap.size≤w.heap.size by omega);have L6:=Lh (show w.heap.size≤w.heap.size+1 by omega);clear hb;generalize w.heap.size+1=n6 at B6 N36 L6 ⊢;generalize hn3:w.heap.size=n3 at B3 N36 ⊢;replace L3:=Lh (show w.heap.size≤n3 by omega);clear hn3;have gc2:=B3.out.blk.siteIn.c2;have hi0:=Ay0;have hi1:=Ay1;have hi2:=Ay2;have hi3:=Ay3;go_wp2_with fail
 refine wp_loop_rounds 5 ?_;rw[rounds_succ];go_wp2_with fail
 rw[rounds_succ];go_wp2_with fail
 rw[rounds_succ];go_wp2_with (first
  | (refine D9 3 (.tmp 23) (.tmp 20) rfl ?_;refine D9 3 (.tmp 23) (.tmp 20) rfl ?_;refine O1 3 (.tmp 23) (.tmp 20) n3 68 rfl rfl rfl rfl B3.out (by rw[D7];decide) (by kernel_rfl) rfl (Cg0 s (wrap64 (s.e.c2+1))) ?_;intro w3 hB hK;replace B6:=Lh (B6.out.kp hK N36.out.symm);replace B3:=Lh hB;replace G:=Lh (hK.below G.out L3.out);clear hB hK gc2))
 rw[rounds_succ];go_wp2_with fail
 rw[rounds_succ];go_wp2_with (first
  | (refine I2 51 (.tmp 2) rfl ?_;refine I2 51 (.tmp 2) rfl ?_;refine A8 51 (.tmp 2) n3 rfl rfl rfl B3.out.blk Tryz.underlying51 rfl (SZ.out _) ?_)
  | (refine D9 51 _ _ rfl ?_;refine D9 51 _ _ rfl ?_;refine G8 51 _ _ n6 rfl rfl rfl rfl B6.out (SZ.out _) (by rw[J6,D7]) (K9 _) ?_;intro w3 hB hK;replace B6:=Lh hB;replace G:=Lh (hK.below G.out L6.out);clear hB hK))
 (try simp only[Act.put,List.setIfInBounds_toArray,List.set_cons_zero,List.set_cons_succ])
 refine bodyPost_ret (K5 rfl _ _ n6 (cs:=A6 (s.on (s.e.s_c2 (wrap64 (s.e.c2+1))))) rfl B6.out.blk Tryz.underlying51 rfl (SZ.out _)) rfl ?_;exact⟨rfl,G.out⟩
theorem Ct8(s:Sv)(w:World):
 Calls Tryz.prog 22 #[.agg (A6 s).toArray,.int .i64 13] w fun x w'=>x=.returned (.agg (A6 (s.on (s.e.s_c3 (wrap64 (s.e.c3+1))))).toArray)∧Below w.heap.size w w':=by
 have SZ:=Lh (show ∀S:Sv,(Tryz.prog.info? 51).map (·.size)=some (A6 S).length from fun S=>by rw[D7];exact M8);go_enter Tryz.func22,Tryz.ntmps22
 go_upto_region 1 with(fail)
 generalize hW:World.alloc (World.alloc w _) _=W;obtain⟨B3,B6,hb⟩:=Ak6 (a:=A6 s) (b:=I5) hW;clear hW;have B3:=Lh B3;have B6:=Lh B6;have G:=Lh hb;have N36:=Lh (show w.heap.size≠w.heap.size+1 by omega);have L3:=Lh (show w.heap.size≤w.heap.size by omega);have L6:=Lh (show w.heap.size≤w.heap.size+1 by omega);clear hb;generalize w.heap.size+1=n6 at B6 N36 L6 ⊢;generalize hn3:w.heap.size=n3 at B3 N36 ⊢;replace L3:=Lh (show w.heap.size≤n3 by omega);clear hn3;have gc3:=B3.out.blk.siteIn.c3;have hi0:=Ay0;have hi1:=Ay1;have hi2:=Ay2;have hi3:=Ay3;go_wp2_with fail
 refine wp_loop_rounds 5 ?_;rw[rounds_succ];go_wp2_with fail
 rw[rounds_succ];go_wp2_with fail
 rw[rounds_succ];go_wp2_with fail
 rw[rounds_succ];go_wp2_with (first
  | (refine D9 3 (.tmp 23) (.tmp 20) rfl ?_;refine D9 3 (.tmp 23) (.tmp 20) rfl ?_;refine O1 3 (.tmp 23) (.tmp 20) n3 69 rfl rfl rfl rfl B3.out (by rw[D7];decide) (by kernel_rfl) rfl (Cg1 s (wrap64 (s.e.c3+1))) ?_;intro w3 hB hK;replace B6:=Lh (B6.out.kp hK N36.out.symm);replace B3:=Lh hB;replace G:=Lh (hK.below G.out L3.out);clear hB hK gc3))
 rw[rounds_succ];go_wp2_with (first
  | (refine I2 51 (.tmp 2) rfl ?_;refine I2 51 (.tmp 2) rfl ?_;refine A8 51 (.tmp 2) n3 rfl rfl rfl B3.out.blk Tryz.underlying51 rfl (SZ.out _) ?_)
  | (refine D9 51 _ _ rfl ?_;refine D9 51 _ _ rfl ?_;refine G8 51 _ _ n6 rfl rfl rfl rfl B6.out (SZ.out _) (by rw[J6,D7]) (K9 _) ?_;intro w3 hB hK;replace B6:=Lh hB;replace G:=Lh (hK.below G.out L6.out);clear hB hK))
 (try simp only[Act.put,List.setIfInBounds_toArray,List.set_cons_zero,List.set_cons_succ])
 refine bodyPost_ret (K5 rfl _ _ n6 (cs:=A6 (s.on (s.e.s_c3 (wrap64 (s.e.c3+1))))) rfl B6.out.blk Tryz.underlying51 rfl (SZ.out _)) rfl ?_;exact⟨rfl,G.out⟩
theorem Ct9(s:Sv)(b:Int)(h0:(2==b)=false)(h1:(5==b)=false)(h2:(6==b)=false)(h3:(13==b)=false)(w:World):
 Calls Tryz.prog 22 #[.agg (A6 s).toArray,.int .i64 b] w fun x w'=>x=.returned (.agg (A6 (s)).toArray)∧Below w.heap.size w w':=by
 have SZ:=Lh (show ∀S:Sv,(Tryz.prog.info? 51).map (·.size)=some (A6 S).length from fun S=>by rw[D7];exact M8);go_enter Tryz.func22,Tryz.ntmps22
 go_upto_region 1 with(fail)
 generalize hW:World.alloc (World.alloc w _) _=W;obtain⟨B3,B6,hb⟩:=Ak6 (a:=A6 s) (b:=I5) hW;clear hW;have B3:=Lh B3;have B6:=Lh B6;have G:=Lh hb;have N36:=Lh (show w.heap.size≠w.heap.size+1 by omega);have L3:=Lh (show w.heap.size≤w.heap.size by omega);have L6:=Lh (show w.heap.size≤w.heap.size+1 by omega);clear hb;generalize w.heap.size+1=n6 at B6 N36 L6 ⊢;generalize hn3:w.heap.size=n3 at B3 N36 ⊢;replace L3:=Lh (show w.heap.size≤n3 by omega);clear hn3;have hi0:=Ay0;have hi1:=Ay1;have hi2:=Ay2;have hi3:=Ay3;go_wp2_with fail
 refine wp_loop_rounds 5 ?_;rw[rounds_succ];go_wp2_with fail
 rw[rounds_succ];go_wp2_with fail
 rw[rounds_succ];go_wp2_with fail
 rw[rounds_succ];go_wp2_with fail
 rw[rounds_succ];go_wp2_with (first
  | (refine I2 51 (.tmp 2) rfl ?_;refine I2 51 (.tmp 2) rfl ?_;refine A8 51 (.tmp 2) n3 rfl rfl rfl B3.out.blk Tryz.underlying51 rfl (SZ.out _) ?_)
  | (refine D9 51 _ _ rfl ?_;refine D9 51 _ _ rfl ?_;refine G8 51 _ _ n6 rfl rfl rfl rfl B6.out (SZ.out _) (by rw[J6,D7]) (K9 _) ?_;intro w3 hB hK;replace B6:=Lh hB;replace G:=Lh (hK.below G.out L6.out);clear hB hK))
 (try simp only[Act.put,List.setIfInBounds_toArray,List.set_cons_zero,List.set_cons_succ])
 refine bodyPost_ret (K5 rfl _ _ n6 (cs:=A6 (s)) rfl B6.out.blk Tryz.underlying51 rfl (SZ.out _)) rfl ?_;exact⟨rfl,G.out⟩
theorem Bz7(s:Sv)(b:Int)(w:World):Calls Tryz.prog 22 #[.agg (A6 s).toArray,.int .i64 b] w fun x w'=>x=.returned (.agg (A6 (Aj1 s b)).toArray)∧Below w.heap.size w w':=by
 unfold Aj1;split
 ·rename_i h;subst h;exact Ct5 s w
 split
 ·rename_i h;subst h;exact Ct6 s w
 split
 ·rename_i h;subst h;exact Ct7 s w
 split
 ·rename_i h;subst h;exact Ct8 s w
 ·exact Ct9 s b (by simp only[beq_eq_false_iff_ne,ne_eq];omega) (by simp only[beq_eq_false_iff_ne,ne_eq];omega) (by simp only[beq_eq_false_iff_ne,ne_eq];omega) (by simp only[beq_eq_false_iff_ne,ne_eq];omega) w
def U0(e:Ev)(k d e0 e1 g:Int):Bool:=
 bif (d != wrap64 (1-e.id)) || ((e.ph==7) || (e.ph==8)) then true else bif k==1 then false
 else(!V4 e.ph) || ((!(J2 e.r g).2) || ((e0 != (C7 e).1) || (e1 != (C7 e).2)))
theorem Aq1(n:Int)(w:World):Calls Tryz.prog 63 #[.bool true,.int .i64 n] w fun x w'=>x=.returned (.tuple #[])∧w=w':=by
 have hmi:∀(w:World),(Instr.makeInterface 54 (.int .i64 n)).run Tryz.prog w=.ok (.iface 54 (.int .i64 n)) w:=fun w=>by kernel_rfl
 go_enter Tryz.func63,Tryz.ntmps63
 have hp:∀(w:World),(Instr.panic (.iface 54 (.int .i64 n))).run Tryz.prog w=.halt (.panic (.iface 54 (.int .i64 n))) w:=fun w=>by kernel_rfl
 go_wp2_with fail
 first | (go_end0;exact⟨rfl,rfl⟩) | exact⟨rfl,rfl⟩ | exact⟨rfl,rfl,rfl⟩
theorem Ac2(n:Int)(w:World):Calls Tryz.prog 63 #[.bool false,.int .i64 n] w fun x w'=>x=.panicked [{v:=.iface 54 (.int .i64 n),recovered:=false}]∧w=w':=by
 have hmi:∀(w:World),(Instr.makeInterface 54 (.int .i64 n)).run Tryz.prog w=.ok (.iface 54 (.int .i64 n)) w:=fun w=>by kernel_rfl
 go_enter Tryz.func63,Tryz.ntmps63
 have hp:∀(w:World),(Instr.panic (.iface 54 (.int .i64 n))).run Tryz.prog w=.halt (.panic (.iface 54 (.int .i64 n))) w:=fun w=>by kernel_rfl
 go_wp2_with fail
 first | (go_end0;exact⟨rfl,rfl⟩) | exact⟨rfl,rfl⟩ | exact⟨rfl,rfl,rfl⟩
end Go.Proofs.YtadpiemjgfndgaaGreatDoor
