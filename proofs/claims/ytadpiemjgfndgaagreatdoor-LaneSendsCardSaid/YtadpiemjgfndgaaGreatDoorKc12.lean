/- Proved here, for use further on: PrF PrG PrH PrI PrJ PrK PrN App Apr Req RingE RingF RingG RingH RingK LeC0. Conditions: none but those each theorem names. -/
import Derived.Test.YtadpiemjgfndgaaGreatDoorKc00
import Derived.Test.YtadpiemjgfndgaaGreatDoorKc11
import Derived.BigQuiet
import Derived.Deep.DeepCutAuto
import Derived.Test.YtadpiemjgfndgaaGreatDoorKc06
import Derived.Test.YtadpiemjgfndgaaGreatDoorKc10
import Derived.Test.YtadpiemjgfndgaaGreatDoorKc01
import Derived.Deep.RegionWith
import Derived.Deep.Cut
import Derived.Test.YtadpiemjgfndgaaGreatDoorKc02
import Derived.Deep.RegionHeld3
import Derived.Deep.QuietTactic
set_option linter.unusedSimpArgs false
set_option linter.unusedVariables false
set_option maxRecDepth 100000
set_option maxHeartbeats 8000000
namespace Go.Proofs.YtadpiemjgfndgaaGreatDoor
open Go.RowKit
theorem Bv1{ops:Array Oper}{rest:List Oper}{o:Oper}{a:Act}{w:World}{Q:Exit→Act→World→Prop}(s x:Operand)(hgd:o.guard=Option.none)
 (ho:o.op=.call {callee:=.builtin .append,args:=#[s,x],argTypes:=#[47,47]}) {B n:Nat} {v:Value} {vs:List Value} (hs:a.eval s=v) (hB:Cr2 B w v n vs) (hle:B≤w.heap.size)
 {sp:Option Addr} {m c:Nat} {news:List Value} (hx:a.eval x=.slice sp m c) (hS:At w sp news) (hl:news.length=m*2) (h1:∀u∈news,u.oneCell'=true) (h63:n+m≤100000) (k:Nat) (hk:n+m=k) (ws:List Value) (hws:vs++news=ws)
 (h:∀a' cap' w',Cr2 B w' (.slice a' k cap') k ws→Below B w w'∨w.grownBy w' v.ownBlock→w.grownBy w' v.ownBlock→wpList Tryz.prog ops Q rest (a.put o.dst (.slice a' k cap')) w'):wpList Tryz.prog ops Q (o::rest) a w:=by
 subst hk hws;exact Bz5 s x 47 hgd ho Df4 hs hB hx hS hl h1 (by unfold maxLen;omega) (by omega) hle fun a' cap' w' hown hg=>h a' cap' w' hown (.inr hg) hg
theorem Eo2{w:World}{vs:List Value}{es:List Ent}(hl:vs.length=es.length*2)(h:∀i,i<es.length→V9 w (vs.getD (i*2) undef) (es.getD i ([],[])).1∧V9 w (vs.getD (i*2+1) undef) (es.getD i ([],[])).2):∀u∈vs,u.oneCell'=true:=by
 intro u hu;obtain⟨j,hj,rfl⟩:=List.mem_iff_getElem.1 hu;have hd:vs.getD j undef=vs[j]:=by simp[List.getD,hj]
 obtain⟨⟨p0,c0,e0,-⟩,⟨p1,c1,e1,-⟩⟩:=h (j/2) (by omega);rcases(show j=j/2*2∨j=j/2*2+1 by omega) with h2 | h2
 ·rw[←h2,hd] at e0;rw[e0];rfl
 ·rw[←h2,hd] at e1;rw[e1];rfl
theorem Cj4(W:World):Cr2 W.heap.size (W.alloc (.cells #[] 153)) (.slice (some ⟨W.heap.size,0,none⟩) 0 0) 0 []:=
 ⟨rfl,.inr ⟨W.heap.size,0,#[],rfl,Nat.le_refl _,by simp only[World.alloc,Array.getElem?_push,if_true],Nat.le_refl _,Nat.zero_le _,rfl,rfl⟩⟩
def Br0(f:Bool)(es:List Ent)(k b t:List UInt8):Bool:=bif X6 k b==t then(f || !Al4 es k b) else f
def Bx4(i:Bool)(es:List Ent)(k b t:List UInt8):Bool:=bif X6 k b==t then(Al4 es k b || !i) else false
def Df5(w:World)(i f:Bool)(a:Option Addr)(n c:Nat)(y:Bool)(e:Ending)(w':World):Prop:=e=.returned (.tuple #[.agg #[.bool i,.slice a n c,.bool f],.bool y])∧Below w.heap.size w w'
theorem Az4(i:Bool)(w:World):Calls Tryz.prog 36 #[.bool i] w fun e w'=>e=.returned (.agg #[.bool i,.slice none 0 0,.bool false])∧Below w.heap.size w w':=by
 go_enter Tryz.func36,Tryz.ntmps36
 go_wp2_with fail
 first
  | (go_ret;exact⟨rfl,ba _ _⟩)
  | (refine bodyPost_ret (v:=.agg #[.bool i,.slice none 0 0,.bool false]) (O3 rfl _ _ w.heap.size rfl (Blk.new w [.bool i,.slice none 0 0,.bool false] _) Tryz.underlying49 rfl Ad0) rfl ?_;exact⟨rfl,ba _ _⟩)
theorem Eb4(i f:Bool)(a ka ba_ ta:Option Addr)(c kc bc tc:Nat)(es:List Ent)(k b t:List UInt8)(w:World)(hes:es.length≤1000)(hE:X7 w a es)(hk:k.length≤100000)(hb:b.length≤90000)(ht:t.length≤100000)(hka:A4 w ka k)(hba:A4 w ba_ b)(hta:A4 w ta t)(hks:Q4 w):
 Calls Tryz.prog 134 #[.agg #[.bool i,.slice a es.length c,.bool f],.slice ka k.length kc,.slice ba_ b.length bc,.slice ta t.length tc] w (Df5 w i (Br0 f es k b t) a es.length c (Bx4 i es k b t)):=by
 have HI:=Lh Ad0;have H1:=Lh (fun(W:World) (h:Below w.heap.size w W)=>Da2 i f a ka ba_ c kc bc es k b W (by omega) (hE.mono h) (by unfold maxLen;omega) (by unfold maxLen;omega) (hka.mono h) (hba.mono h));have H5:=Lh (fun(W:World) (h:Below w.heap.size w W)=>Bv0 ka ba_ kc bc k b hk hb W (hka.mono h) (hba.mono h) (hks.mono h));unfold Bq9 at H5;unfold Df5 Br0 Bx4;have HTl:=Ap6 k b;have H6:=Lh (fun(o:Option Addr) (oc:Nat) (W:World) (h:Below w.heap.size w W) (h2:A4 W o (X6 k b))=>(show Calls Tryz.prog 184 #[.slice o 16 oc,.slice ta t.length tc] W (F9 W (X6 k b==t)) from by
  have h3:=Bj8 o ta oc tc (X6 k b) t (by rw[HTl];decide) (by unfold maxLen;omega) W h2 (hta.mono h)
  rwa [HTl] at h3))
 generalize Al4 es k b=R at H1 ⊢;generalize (X6 k b==t)=S at H6 ⊢;generalize X6 k b=T at H5 H6;clear hE hka hba hta hks hes hk hb ht HTl;go_enter Tryz.func134,Tryz.ntmps134
 go_upto_region 1 with(fail)
 generalize hW:World.alloc (World.alloc w _) _=W;have B4:=Lh (show A6 49 W w.heap.size [.bool i,.slice a es.length c,.bool f] by rw[←hW];exact(A6.new w [.bool i,.slice a es.length c,.bool f] _).up (ba _ _));have B8:=Lh (show A6 49 W (w.heap.size+1) Az2 by rw[←hW,←I9 w (.cells #[.bool i,.slice a es.length c,.bool f] 49)];exact A6.new _ Az2 _);have G:=Lh (show Below w.heap.size w W by rw[←hW];exact bta (ba w _) _);clear hW;obtain⟨b4,hb4⟩:∃b4,b4=w.heap.size:=⟨_,rfl⟩;have L4:=Lh (show w.heap.size≤b4 by omega);have L8:=Lh (show w.heap.size≤b4+1 by omega);have hne:b4≠b4+1:=by omega
 rw[←hb4] at B4 B8;simp only[←hb4];generalize b4+1=b8 at B8 L8 hne ⊢;clear hb4;go_wp2_with fail
 refine(H5.out _ G.out).mono ?_;rintro e w1 ⟨ra,rc,rfl,hrc,hra,hbb⟩;replace B4:=Lh (B4.out.up hbb);replace B8:=Lh (B8.out.up hbb);replace G:=Lh (bt G.out hbb);have HR:=Lh hra;clear hbb hrc hra H5;go_wp2_with fail
 refine(H6.out ra rc _ G.out HR.out).mono ?_;rintro e w2 ⟨rfl,hbb⟩;replace B4:=Lh (B4.out.up hbb);replace B8:=Lh (B8.out.up hbb);replace G:=Lh (bt G.out hbb);clear hbb H6 HR;rcases S with _ | _
 ·go_wp2_with (first | (refine C4 49 (.tmp 4) b4 (cs:=[.bool i,.slice a es.length c,.bool f]) rfl rfl rfl B4.out.blk Tryz.underlying49 rfl HI.out ?_) | (refine G9 49 (.tmp 8) (.tmp 17) b8 (old:=Az2) (cs:=[.bool i,.slice a es.length c,.bool f]) rfl rfl rfl rfl B8.out.blk HI.out rfl rfl ?_))
  refine bodyPost_ret (F2 rfl _ _ b8 (cs:=[.bool i,.slice a es.length c,.bool f]) rfl _ rfl (B8.out.row _).blk Tryz.underlying49 rfl HI.out) rfl ?_;exact⟨rfl,F5 G.out L8.out _⟩
 go_wp2_with (refine C4 49 (.tmp 4) b4 (cs:=[.bool i,.slice a es.length c,.bool f]) rfl rfl rfl B4.out.blk Tryz.underlying49 rfl HI.out ?_)
 refine(H1.out _ G.out).mono ?_;rintro e w3 ⟨rfl,hbb⟩;replace B4:=Lh (B4.out.up hbb);replace B8:=Lh (B8.out.up hbb);replace G:=Lh (bt G.out hbb);clear hbb H1;obtain⟨y0,y1,y2⟩:=Aa3 B4.out.blk;obtain⟨z0,z1,z2⟩:=Aa3 B8.out.blk;have yf:=B4.out.blk.frozen;have zf:=B8.out.blk.frozen;rcases R with _ | _<;>rcases f with _ | _<;>rcases i with _ | _;all_goals
  go_wp2_with fail
 all_goals
  clear y0 y1 y2 z0 z1 z2 yf zf;first
  | (obtain⟨w4,hW4⟩:∃w4,w4=w3.setCell ⟨b4,2,none⟩ (.bool true):=⟨_,rfl⟩;rw[←hW4];have B4':=Lh (show A6 49 w4 b4 [.bool _,.slice a es.length c,.bool true] by rw[hW4];exact B4.out.set 2 _);have B8':=Lh (show A6 49 w4 b8 Az2 by rw[hW4];exact B8.out.other (fun h=>hne h.symm) _);have G':=Lh (show Below w.heap.size w w4 by rw[hW4];exact G.out.setCell L4.out _))
  | (obtain⟨w4,hW4⟩:∃w4,w4=w3.setCell ⟨b4,2,none⟩ (.bool false):=⟨_,rfl⟩;rw[←hW4];have B4':=Lh (show A6 49 w4 b4 [.bool _,.slice a es.length c,.bool false] by rw[hW4];exact B4.out.set 2 _);have B8':=Lh (show A6 49 w4 b8 Az2 by rw[hW4];exact B8.out.other (fun h=>hne h.symm) _);have G':=Lh (show Below w.heap.size w w4 by rw[hW4];exact G.out.setCell L4.out _))
  obtain⟨y0,y1,y2⟩:=Aa3 B4'.out.blk;obtain⟨z0,z1,z2⟩:=Aa3 B8'.out.blk;have zf:=B8'.out.blk.frozen;clear hW4;go_region
  all_goals
   go_wp2_with fail
   refine bodyPost_ret (F2 rfl _ _ b8 rfl _ rfl (Bt0 (B8'.out.up (bd _))).blk Tryz.underlying49 rfl HI.out) rfl ?_;exact⟨rfl,Ar7 (bt G'.out (bd _)) L8.out⟩
theorem Ey0{es es2:List Ent}(hl:es.length=es2.length)(h:∀j,j<es.length→es.getD j ([],[])=es2.getD j ([],[])):es=es2:=by
 apply List.ext_getElem hl;intro j h1 h2;have:=h j h1
 simpa [List.getD,h1,h2] using this
def Bn1(i f:Bool)(es:List Ent)(i2 f2:Bool)(es2:List Ent):Bool:=((i==i2)&&(f==f2))&&decide (es=es2)
structure PrF (w:World) (a:Option Addr) (n c:Nat) (es:List Ent):Prop where
 ents:X7 w a es
 hn:es.length=n
 hc:n≤c
 hcm:c≤maxLen
 few:n≤900
theorem PrF.up{w w':World}{a:Option Addr}{n c:Nat}{es:List Ent}(h:PrF w a n c es)(hb:Below w.heap.size w w'):PrF w' a n c es:=⟨h.ents.mono hb,h.hn,h.hc,h.hcm,h.few⟩
theorem PrF.zero(w:World):PrF w none 0 0 []:=⟨X7.nil w none,rfl,Nat.le_refl _,by decide,by decide⟩
def Bx5(es:List Ent)(m:Nat):Prop:=es.length≤m∧∀j,j<es.length→(es.getD j ([],[])).1.length≤100∧(es.getD j ([],[])).2.length≤2000
instance (es:List Ent) (m:Nat):Decidable (Bx5 es m):=by unfold Bx5;infer_instance
theorem Df6(i f:Bool)(a:Option Addr)(c m:Nat)(es:List Ent)(w:World)(hes:es.length≤maxLen)(hm:m≤1000)(hE:X7 w a es):
 Calls Tryz.prog 53 #[.agg #[.bool i,.slice a es.length c,.bool f],.int .i64 m] w (F9 w (decide (Bx5 es m))):=by
 have HE:=Lh hE;obtain⟨R,hR⟩:∃R,R=decide (Bx5 es m):=⟨_,rfl⟩;rw[←hR];have HR:=Lh hR;unfold maxLen at hes;clear hE hR;by_cases hlen:m<es.length
 ·have hd:(m:Int)<(es.length:Int):=by omega
  go_enter Tryz.func53,Tryz.ntmps53
  go_wp2_with fail
  go_ret;refine⟨?_,ba _ _⟩;have:R=false:=by rw[HR.out,decide_eq_false];intro h;have:=h.1;omega
  rw[this];rfl
 have hd:¬(m:Int)<(es.length:Int):=by omega
 go_enter Tryz.func53,Tryz.ntmps53
 go_wp2_with fail
 generalize hW:World.alloc w _=W;have Hw:=Lh (show Below w.heap.size w W by rw[←hW];exact ba w _);have B3:=Lh (show Blk W w.heap.size [.bool i,.slice a es.length c,.bool f] by rw[←hW];exact Blk.new w [.bool i,.slice a es.length c,.bool f] _);clear hW;have y1:W.cell? ⟨w.heap.size,1,none⟩=some (.slice a es.length c):=B3.out.cell 1 (by simp)
 go_loopw [5] (fun v wr=>wr=W∧∃j:Nat,j≤es.length∧v=.int .i64 (j:Int)∧∀t,t<j→(es.getD t ([],[])).1.length≤100∧(es.getD t ([],[])).2.length≤2000) (fun v _=>es.length-(intOf v).toNat)
 case atStart=>exact⟨rfl,0,Nat.zero_le _,rfl,fun t ht=>absurd ht (by omega)⟩
 case round=>
  obtain⟨rfl,j,hj,rfl,hno⟩:=hrel;have Hno:=Lh hno;clear hno;by_cases hlt:j<es.length
  ·obtain⟨g,off,rfl,hg,hcs⟩:=(HE.out.mono Hw.out).cell (by omega);obtain⟨p0,c0,p1,c1,x0,x1,-⟩:=hcs j hlt;have hd1:(j:Int)<(es.length:Int):=by omega
   have hd0:(0:Int)≤(j:Int):=by omega
   obtain⟨n0,hn0⟩:∃n,n=(es.getD j ([],[])).1.length:=⟨_,rfl⟩;obtain⟨n1,hn1⟩:∃n,n=(es.getD j ([],[])).2.length:=⟨_,rfl⟩;rw[←hn0] at x0;rw[←hn1] at x1;have Hn0:=Lh hn0;have Hn1:=Lh hn1;clear hcs hn0 hn1;by_cases h0:n0≤100
   ·have hd2:¬(100:Int)<(n0:Int):=by omega
    by_cases h1:n1≤2000
    ·have hd3:¬(2000:Int)<(n1:Int):=by omega
     go_wp2_with fail
     exact⟨⟨by trivial,j+1,by omega,by go_num,fun t ht=>by
      rcases Nat.lt_or_ge t j with h | h
      ·exact Hno.out t h
      ·rw[show t=j by omega,←Hn0.out,←Hn1.out];exact⟨h0,h1⟩⟩,by simp[intOf];omega⟩
    ·have hd3:(2000:Int)<(n1:Int):=by omega
     go_wp2_with fail
     go_ret;refine⟨?_,Hw.out⟩;have:R=false:=by rw[HR.out,decide_eq_false];intro h;have:=(h.2 j hlt).2;rw[←Hn1.out] at this;omega
     rw[this];rfl
   ·have hd2:(100:Int)<(n0:Int):=by omega
    go_wp2_with fail
    go_ret;refine⟨?_,Hw.out⟩;have:R=false:=by rw[HR.out,decide_eq_false];intro h;have:=(h.2 j hlt).1;rw[←Hn0.out] at this;omega
    rw[this];rfl
  ·obtain rfl:j=es.length:=by omega
   go_wp2_with fail
   go_ret;refine⟨?_,Hw.out⟩;have:R=true:=by rw[HR.out,decide_eq_true];exact⟨by omega,Hno.out⟩
   rw[this];rfl
theorem Cr3(i f i2 f2:Bool)(a b:Option Addr)(c d:Nat)(es es2:List Ent)(w:World)(h1:es.length≤100000)(h2:es2.length≤100000)(hE:X7 w a es)(hE2:X7 w b es2):
 Calls Tryz.prog 34 #[.agg #[.bool i,.slice a es.length c,.bool f],.agg #[.bool i2,.slice b es2.length d,.bool f2]] w (F9 w (Bn1 i f es i2 f2 es2)):=by
 have HE:=Lh hE;have HE2:=Lh hE2;have HS:=Lh (show Bn1 i f es i2 f2 es2=(((i==i2)&&(f==f2))&&decide (es=es2)) from rfl);have HQ:=Lh (fun h h'=>Ey0 (es:=es) (es2:=es2) h h');obtain⟨R,hR⟩:∃R,R=decide (es=es2):=⟨_,rfl⟩;rw[←hR] at HS;have HR:=Lh hR;clear hE hE2 hR;obtain⟨S,hS⟩:∃S,S=Bn1 i f es i2 f2 es2:=⟨_,rfl⟩;rw[←hS] at HS ⊢;clear hS;by_cases hif:(i==i2)=true∧(f==f2)=true∧es.length=es2.length;rotate_left
 ·have hSf:S=false:=by
   rw[HS.out];rcases h1:(i==i2) with _ | _
   ·rfl
   rcases h2:(f==f2) with _ | _
   ·rfl
   rw[HR.out,decide_eq_false (fun h=>hif ⟨h1,h2,by rw[h]⟩)];rfl
  have hne:¬((i=i2∧f=f2)∧es.length=es2.length):=fun h=>hif ⟨by rw[h.1.1];simp,by rw[h.1.2];simp,h.2⟩;subst hSf;have hd:((es.length:Int) != (es2.length:Int))=true∨es.length=es2.length:=by
   by_cases h:es.length=es2.length
   ·exact .inr h
   ·left;rw[bne_iff_ne];omega
  clear HQ HS hif;rcases hd with hd | hd
  ·clear hne;rcases i with _ | _<;>rcases i2 with _ | _<;>rcases f with _ | _<;>rcases f2 with _ | _;all_goals
    go_enter Tryz.func34,Tryz.ntmps34
    go_wp2_with fail
    go_ret;exact⟨rfl,bta (ba w _) _⟩
  ·have hd2:((es.length:Int) != (es2.length:Int))=false:=by simp[hd]
   rcases i with _ | _<;>rcases i2 with _ | _<;>rcases f with _ | _<;>rcases f2 with _ | _;all_goals
    first
    | exact absurd ⟨⟨rfl,rfl⟩,hd⟩ hne
    | (clear hne hd;go_enter Tryz.func34,Tryz.ntmps34;go_wp2_with fail;go_ret;exact⟨rfl,bta (ba w _) _⟩)
 obtain⟨hi,hf,hl⟩:=hif;have hdl:((es.length:Int) != (es2.length:Int))=false:=by simp[hl]
 have hii:(i != i2)=false:=by rw[bne,hi];rfl
 have hff:(f != f2)=false:=by rw[bne,hf];rfl
 have HSR:=Lh (show S=R by rw[HS.out,hi,hf];simp);have Hl:=Lh hl;obtain rfl:i=i2:=by simpa using hi
 obtain rfl:f=f2:=by simpa using hf
 clear HS hl hi hf;rcases i with _ | _<;>rcases f with _ | _;all_goals
  go_enter Tryz.func34,Tryz.ntmps34
  go_wp2_with fail
  generalize hW:World.alloc (World.alloc w _) _=W;have G:=Lh (show Below w.heap.size w W by rw[←hW];exact bta (ba w _) _);have y2:W.cell? ⟨w.heap.size,1,none⟩=some (.slice a es.length c):=by
   rw[←hW];exact((Blk.new w [.bool _,.slice a es.length c,.bool _] _).alloc _).cell 1 (by simp)
  have y3:W.cell? ⟨w.heap.size+1,1,none⟩=some (.slice b es2.length d):=by
   rw[←hW];exact(Bp6 (I9 w _).symm [.bool _,.slice b es2.length d,.bool _] _).cell 1 (by simp)
  clear hW;generalize w.heap.size+1=b3 at y3 ⊢;generalize hb2:w.heap.size=b2 at y2 ⊢
  go_loopw [5] (fun v wr=>∃k:Nat,k≤es.length∧v=.int .i64 (k:Int)∧(∀j,j<k→es.getD j ([],[])=es2.getD j ([],[]))∧(∃n,wr=W.drewN n)) (fun v _=>es.length-(intOf v).toNat)
  case atStart=>exact⟨0,Nat.zero_le _,rfl,fun j hj=>absurd hj (by omega),0,rfl⟩
  case round=>
   obtain⟨k,hk,rfl,hno,nd,hnd⟩:=hrel;have Hno:=Lh hno;have Hnd:=Lh hnd;replace y2:wr.cell? ⟨b2,1,none⟩=some (.slice a es.length c):=by rw[hnd];exact y2
   replace y3:wr.cell? ⟨b3,1,none⟩=some (.slice b es2.length d):=by rw[hnd];exact y3
   have GW:=Lh (show Below W.heap.size W wr by rw[hnd];exact btn (Below.refl _ _) _);have G1:=Lh (show Below w.heap.size w wr from bt G.out (by rw[hnd];exact⟨rfl,rfl,rfl,Nat.le_refl _,fun _ _=>rfl⟩));clear hno hnd;by_cases hlt:k<es.length
   ·have hlt2:k<es2.length:=by have:=Hl.out;omega
    obtain⟨g1,o1,rfl,hg1,hcs1⟩:=(HE.out.mono G1.out).cell (by omega);obtain⟨g2,o2,rfl,hg2,hcs2⟩:=(HE2.out.mono G1.out).cell (by omega);obtain⟨p0,c0,p1,c1,x0,x1,l0,m0,l1,m1,b0,b1⟩:=hcs1 k hlt;obtain⟨q0,d0,q1,d1,z0,z1,s0,t0,s1,t1,u0,u1⟩:=hcs2 k hlt2;obtain⟨e1,he1⟩:∃e,e=es.getD k ([],[]):=⟨_,rfl⟩;obtain⟨e2,he2⟩:∃e,e=es2.getD k ([],[]):=⟨_,rfl⟩;rw[←he1] at x0 x1 b0 b1;rw[←he2] at z0 z1 u0 u1;have KA:=Lh (fun(W':World) (h:Below wr.heap.size wr W')=>(show Calls Tryz.prog 25 #[.slice p0 e1.1.length c0,.slice q0 e2.1.length d0] W' fun e w'=>e=.returned (.bool (e1.1==e2.1))∧w'=W' from(Ac1 p0 q0 e1.1.length c0 e2.1.length d0 e1.1 e2.1 W' rfl rfl (b0.mono h) (u0.mono h)).mono fun e w' ⟨p,q⟩=>⟨p,q.symm⟩));have KB:=Lh (fun(W':World) (h:Below wr.heap.size wr W')=>(show Calls Tryz.prog 25 #[.slice p1 e1.2.length c1,.slice q1 e2.2.length d1] W' fun e w'=>e=.returned (.bool (e1.2==e2.2))∧w'=W' from(Ac1 p1 q1 e1.2.length c1 e2.2.length d1 e1.2 e2.2 W' rfl rfl (b1.mono h) (u1.mono h)).mono fun e w' ⟨p,q⟩=>⟨p,q.symm⟩));have HF:=Lh (show((e1.1==e2.1)&&(e1.2==e2.2))=true↔e1=e2 from by
     rw[Bool.and_eq_true,beq_iff_eq,beq_iff_eq];exact⟨fun h=>Prod.ext h.1 h.2,fun h=>by rw[h];exact⟨rfl,rfl⟩⟩)
    have hi1:(k:Int)<(es.length:Int):=by omega
    have hi2:(k:Int)<(es2.length:Int):=by omega
    have hi0:(0:Int)≤(k:Int):=by omega
    have He1:=Lh he1;have He2:=Lh he2;clear hcs1 hcs2 l0 m0 l1 m1 b0 b1 s0 t0 s1 t1 u0 u1 he1 he2 hg1 hg2;generalize (e1.1==e2.1)=r1 at HF KA;generalize (e1.2==e2.2)=r2 at HF KB;rcases r1 with _ | _
    ·have hne:S=false:=by
      rw[HSR.out,HR.out,decide_eq_false];intro h;have h2:=HF.out.2 (by rw[He1.out,He2.out,h]);cases h2
     clear HF;go_upto_region 6 with(fail)
     go_big_quiet (first
      | (go_at_call 25;(with_reducible refine Calls.quiet_of_same (KA.out _ (btn (Below.refl _ _) _))))
      | (go_at_call 25;(with_reducible refine Calls.quiet_of_same (KB.out _ (btn (Below.refl _ _) _)))))
     all_goals
      go_wp2_with fail
      go_ret;exact⟨by rw[hne];rfl,G1.out.trans ⟨rfl,rfl,rfl,Nat.le_refl _,fun _ _=>rfl⟩⟩
    ·rcases r2 with _ | _
     ·have hne:S=false:=by
       rw[HSR.out,HR.out,decide_eq_false];intro h;have h2:=HF.out.2 (by rw[He1.out,He2.out,h]);cases h2
      clear HF;go_upto_region 6 with(fail)
      go_big_quiet (first
       | (go_at_call 25;(with_reducible refine Calls.quiet_of_same (KA.out _ (btn (Below.refl _ _) _))))
       | (go_at_call 25;(with_reducible refine Calls.quiet_of_same (KB.out _ (btn (Below.refl _ _) _)))))
      all_goals
       go_wp2_with fail
       go_ret;exact⟨by rw[hne];rfl,G1.out.trans ⟨rfl,rfl,rfl,Nat.le_refl _,fun _ _=>rfl⟩⟩
     ·have heq:=Lh (HF.out.1 rfl);clear HF;go_upto_region 6 with(fail)
      go_big_quiet (first
       | (go_at_call 25;(with_reducible refine Calls.quiet_of_same (KA.out _ (btn (Below.refl _ _) _))))
       | (go_at_call 25;(with_reducible refine Calls.quiet_of_same (KB.out _ (btn (Below.refl _ _) _)))))
      all_goals
       go_wp2_with fail
       exact⟨⟨k+1,by omega,by go_num,fun j hj=>by
        rcases Nat.lt_or_ge j k with h | h
        ·exact Hno.out j h
        ·rw[show j=k by omega,←He1.out,←He2.out];exact heq.out,nd+nq,by rw[Hnd.out,World.drewN_drewN]⟩,by simp[intOf];omega⟩
   ·obtain rfl:k=es.length:=by omega
    have hdn:¬((es.length:Int)<(es.length:Int)):=by omega
    go_wp2_with fail
    go_ret;refine⟨?_,by first | exact G1.out | exact G1.out.trans ⟨rfl,rfl,rfl,Nat.le_refl _,fun _ _=>rfl⟩⟩;have:S=true:=by rw[HSR.out,HR.out,decide_eq_true];exact HQ.out Hl.out Hno.out
    rw[this];rfl
theorem Cj5(es:List Ent)(k b:List UInt8):Al4 (Am1 es k b) k b=true:=by
 unfold Am1;rcases h:Al4 es k b with _ | _
 ·simp[Al4,isF]
 ·exact h
theorem Eb5(es:List Ent)(k b:List UInt8):(Am1 es k b).length=bif Al4 es k b then es.length else es.length+1:=by
 unfold Am1;rcases h:Al4 es k b with _ | _
 ·simp
 ·rfl
theorem Cb0(i:Bool)(es:List Ent)(k b:List UInt8)(h:Al4 es k b=true):Bx4 i es k b (X6 k b)=true:=by unfold Bx4;rw[beq_self_eq_true,h];rfl
theorem Df7{x y:Bool}{a:Option Addr}{n c:Nat}:∀v∈([.bool x,.slice a n c,.bool y]:List Value),∀k m,v≠.int k m:=by
 intro v hv k m;simp only[List.mem_cons,List.not_mem_nil,or_false] at hv;rcases hv with rfl | rfl | rfl<;>intro h<;>cases h
theorem Y3{o:Oper}{a:Act}{w:World}{K:Act→World→Prop}{Q:Exit→Act→World→Prop}(ty:TypeId)(x y:Operand)
 (ho:o.op=.store ty x y) (g:Nat) {cs old:List Value} (hx:a.eval x=.pointer (some ⟨g,0,none⟩)) (hy:a.eval y=.agg cs.toArray) {T:TypeId} (hb:A6 T w g old) (hi:(Tryz.prog.info? ty).map (·.size)=some cs.length) (hl:old.length=cs.length) (h1:cs.all (·.oneCell')=true)
 (hK:K (a.put o.dst undef) (w.setRow g cs.toArray)):Oper.wp Tryz.prog o a w K Q:=wp_store_row ty x y ho g cs.toArray hx hy T old.toArray hb (by simpa using hi) (by simpa using hl) (by simpa using h1) hK
theorem Fk4:Ab4 Tryz.prog 35 22 1 24 (.slice none 0 0):=Ab4.mk1 Tryz.underlying35 (by kernel_rfl) rfl (by decide)
theorem Ey1{B:Nat}{e:TypeId}{w w':World}{v:Value}{n:Nat}{xs:List Value}(h:w.ownsRow B e 1 v n xs)(hb:Below w.heap.size w w'):w'.ownsRow B e 1 v n xs:=by
 obtain⟨h1,h2⟩:=h;refine⟨h1,?_⟩;rcases h2 with h2 | ⟨g,cap,cur,hv,hg,hh,r⟩
 ·exact .inl h2
 ·exact .inr ⟨g,cap,cur,hv,hg,by rw[hb.block g (Array.getElem?_eq_some_iff.1 hh).1];exact hh,r⟩
structure Df8 (B:Nat) (w:World) (a:Option Addr) (n cap:Nat) (xs:List Value):Prop where
 len:xs.length=n
 fresh:AtP (fun g=>B≤g) w a xs
 some':∃x,a=some x
 le:n≤cap
 full:cap=n∨w.ownsRow B 22 1 (.slice a n cap) n xs
theorem Df8.up{B:Nat}{w w':World}{a:Option Addr}{n cap:Nat}{xs:List Value}(h:Df8 B w a n cap xs)(hb:Below w.heap.size w w'):Df8 B w' a n cap xs:=
 ⟨h.len,h.fresh.up hb,h.some',h.le,h.full.imp id fun k=>Ey1 k hb⟩
structure Be4 (b:Nat) (w0 w:World):Prop where
 size:w0.heap.size≤w.heap.size
 blk:∀g,g<w0.heap.size→g≠b→w.heap[g]?=w0.heap[g]?
theorem Be4.of{b:Nat}{w0 w:World}(h:Below w0.heap.size w0 w):Be4 b w0 w:=⟨h.size,fun g hg _=>h.block g hg⟩
theorem Be4.row{b:Nat}{w0 w:World}(h:Below w0.heap.size w0 w)(ds:Array Value):Be4 b w0 (w.setRow b ds):=⟨by simpa using h.size,fun g hg hn=>by rw[setRow_other w b g ds hn];exact h.block g hg⟩
theorem A4.neP{w:World}{b:Nat}{cs:List Value}{a:Option Addr}{l:List UInt8}(h:A4 w a l)(hb:Blk w b cs)(hcs:∀v∈cs,∀k n,v≠.int k n):AtP (fun g=>g≠b) w a (B8s l):=by
 by_cases h0:l=[]
 ·subst h0;exact .inl rfl
 rcases h with h | ⟨b',off,rfl,hlt,hc⟩
 ·exact .inl h
 refine .inr ⟨b',off,rfl,?_,hlt,hc⟩;rintro rfl;have hl:0<l.length:=List.length_pos_iff.2 h0;have h1:=hc 0 (by simpa using hl);obtain⟨T,hg⟩:=hb;rw[cell_of_row w b' (off+0) cs.toArray T (0,0) hg] at h1;have h2:=Array.mem_of_getElem? h1;have h3:(B8s l).getD 0 undef=.int .u8 (bv (l.getD 0 0)):=by simp[List.getD,hl]
 rw[h3] at h2;exact hcs _ (by simpa using h2) _ _ rfl
theorem A4.keep{w w':World}{b:Nat}{x y:Bool}{p:Option Addr}{n c:Nat}{a:Option Addr}{l:List UInt8}(h:A4 w a l)(hb:Blk w b [.bool x,.slice p n c,.bool y])(k:Be4 b w w'):A4 w' a l:=
 (AtP.to (A4.neP h hb Df7) (q:=fun _=>True) k.size fun g hg hp=>⟨k.blk g hg hp,trivial⟩).at
theorem V9.keep{w w':World}{b:Nat}{x y:Bool}{p:Option Addr}{n c:Nat}{v:Value}{r:List UInt8}(h:V9 w v r)(hb:Blk w b [.bool x,.slice p n c,.bool y])(k:Be4 b w w'):V9 w' v r:=by
 obtain⟨q,d,h1,h2,h3,h4⟩:=h;exact⟨q,d,h1,h2,h3,A4.keep h4 hb k⟩
theorem Al9.keep{w w':World}{b:Nat}{x y:Bool}{p:Option Addr}{n c:Nat}{vs:List Value}{rows:List (List UInt8)}(h:Al9 w vs rows)(hb:Blk w b [.bool x,.slice p n c,.bool y])(k:Be4 b w w'):Al9 w' vs rows:=
 ⟨h.1,fun i hi=>(h.2 i hi).keep hb k⟩
theorem X7.keep{w w':World}{b:Nat}{x y:Bool}{a A:Option Addr}{n c:Nat}{es:List Ent}(h:X7 w A es)(hb:Blk w b [.bool x,.slice a n c,.bool y])(k:Be4 b w w'):X7 w' A es:=by
 by_cases h0:es=[]
 ·subst h0;exact X7.nil _ _
 obtain⟨vs,h1,h2,h3⟩:=h;refine⟨vs,h1,?_,fun i hi=>⟨(h3 i hi).1.keep hb k,(h3 i hi).2.keep hb k⟩⟩;rcases h2 with h2 | ⟨g,off,rfl,hlt,hc⟩
 ·exact .inl h2
 refine .inr ⟨g,off,rfl,Nat.lt_of_lt_of_le hlt k.size,fun i hi=>?_⟩;have hne:g≠b:=by
  rintro rfl;have hl:0<es.length:=List.length_pos_iff.2 h0;obtain⟨⟨p0,c0,e0,_⟩,⟨p1,c1,e1,_⟩⟩:=h3 0 hl;have k0:=hc 0 (by rw[h1];omega);have k1:=hc 1 (by rw[h1];omega);rw[show vs.getD 0 undef=_ from e0] at k0;rw[show vs.getD 1 undef=_ from e1] at k1;obtain⟨T,hg⟩:=hb;rw[cell_of_row w g (off+0) _ T (0,0) hg] at k0;rw[cell_of_row w g (off+1) _ T (0,0) hg] at k1
  match off,k0,k1 with
  | 0,k0,_=>simp at k0
  | 1,_,k1=>simp at k1
  | 2,k0,_=>simp at k0
  | off+3,k0,_=>simp at k0
 rw[World.cell?_of_block (w:=w) (a:=⟨g,off+i,none⟩) (k.blk g hlt hne)];exact hc i hi
theorem PrF.keep{w w':World}{b:Nat}{x y:Bool}{a A:Option Addr}{n c N C:Nat}{es:List Ent}(h:PrF w A N C es)(hb:Blk w b [.bool x,.slice a n c,.bool y])(k:Be4 b w w'):PrF w' A N C es:=
 ⟨h.ents.keep hb k,h.hn,h.hc,h.hcm,h.few⟩
theorem Df9(l m:List (List UInt8))(k:Nat)(hl:k<l.length)(hm:k<m.length):l.take (k+1)=m.take (k+1)↔(l.take k=m.take k∧l.getD k []=m.getD k []):=by
 rw[Ac9 l k hl [],Ac9 m k hm []];constructor
 ·intro h;have h1:=List.append_inj h (by simp[List.length_take];omega);exact⟨h1.1,by simpa using h1.2⟩
 ·rintro⟨h1,h2⟩;rw[h1,h2]
theorem Dg0(a b:Option Addr)(ca cb:Nat)(l m:List (List UInt8))(hll:l.length≤maxLen)(hmm:m.length≤maxLen)(w:World)(hl:W6 w a l)(hm:W6 w b m):
 Calls Tryz.prog 73 #[.slice a l.length ca,.slice b m.length cb] w fun e w'=>e=.returned (.bool (decide (l=m)))∧Below w.heap.size w w':=by
 unfold maxLen at hll hmm;have Hl:=Lh hl;have Hm:=Lh hm;clear hl hm;by_cases hne:l.length=m.length
 ·have hd:((l.length:Int) != (m.length:Int))=false:=by simp[hne]
  have hm2:m.length=l.length:=hne.symm;generalize hML:m.length=ML at *;subst hm2;have HML:=Lh hML;clear hML hne;go_enter Tryz.func73,Tryz.ntmps73
  go_wp2_with fail
  go_loopw [5] (fun v5 wx=>∃k:Nat,k≤l.length∧v5=.int .i64 (k:Int)∧l.take k=m.take k∧Below w.heap.size w wx) (fun v5 _=>l.length-(intOf v5).toNat)
  case atStart=>exact⟨0,Nat.zero_le _,rfl,by simp,Below.refl _ _⟩
  case round=>
   obtain⟨k,hk,rfl,hu,hb⟩:=hrel;have Hu:=Lh hu;have Hb:=Lh hb;clear hu hb;by_cases hlt:k<l.length
   ·obtain⟨ab,ao,ap,ac,rfl,hal,hac,hp1,hp2,hat⟩:=Hl.out.row k hlt;obtain⟨bb,bo,bp,bc,rfl,hbl,hbc,hq1,hq2,hbt⟩:=Hm.out.row k (by rw[HML.out];exact hlt);have c0:wr.cell? ⟨ab,ao+k,none⟩=some (.slice ap (l.getD k []).length ac):=by rw[Hb.out.cell (p:=⟨ab,ao+k,none⟩) hal];exact hac
    have c1:wr.cell? ⟨bb,bo+k,none⟩=some (.slice bp (m.getD k []).length bc):=by rw[Hb.out.cell (p:=⟨bb,bo+k,none⟩) hbl];exact hbc
    have HT:=Lh (Df9 l m k hlt (by rw[HML.out];exact hlt));have Hx:=Lh (show l.getD k []=m.getD k []∨l≠m by
     by_cases h:l=m
     ·exact .inl (by rw[h])
     ·exact .inr h)
    have h1:=fun n=>Ar3 (hat.mono (btn Hb.out n)) 22 9 5 Tryz.underlying22 Tryz.underlying5 Tryz.underlying9 (l.getD k []).length ac rfl;have h2:=fun n=>Ar3 (hbt.mono (btn Hb.out n)) 22 9 5 Tryz.underlying22 Tryz.underlying5 Tryz.underlying9 (m.getD k []).length bc rfl;have h3:=Ar3 (hat.mono (btd Hb.out)) 22 9 5 Tryz.underlying22 Tryz.underlying5 Tryz.underlying9 (l.getD k []).length ac rfl;have h4:=Ar3 (hbt.mono (btd Hb.out)) 22 9 5 Tryz.underlying22 Tryz.underlying5 Tryz.underlying9 (m.getD k []).length bc rfl;have h5:=Ar3 (hat.mono Hb.out) 22 9 5 Tryz.underlying22 Tryz.underlying5 Tryz.underlying9 (l.getD k []).length ac rfl;have h6:=Ar3 (hbt.mono Hb.out) 22 9 5 Tryz.underlying22 Tryz.underlying5 Tryz.underlying9 (m.getD k []).length bc rfl;have hi0:(0:Int)≤(k:Int):=by omega
    have hi1:(k:Int)<(l.length:Int):=by omega
    clear hac hbc hp1 hp2 hq1 hq2 hat hbt;generalize l.getD k []=x at c0 HT Hx h1 h3 h5;generalize m.getD k []=y at c1 HT Hx h2 h4 h6;by_cases hxy:x=y
    ·subst hxy;have HT:=Lh (HT.out.2 ⟨Hu.out,rfl⟩);have hbe:(((⟨x.toArray⟩:ByteArray)).toList != ((⟨x.toArray⟩:ByteArray)).toList)=false:=by simp
     go_wp2_with fail
     go_quiet (fail)
     go_wp2_with fail
     exact⟨⟨k+1,by omega,by go_num,by first | exact HT.out | exact HT.out.2 ⟨Hu.out,trivial⟩,btn Hb.out _⟩,by simp[intOf];omega⟩
    ·have hv:decide (l=m)=false:=decide_eq_false (Hx.out.resolve_left hxy);have hbe:(((⟨x.toArray⟩:ByteArray)).toList != ((⟨y.toArray⟩:ByteArray)).toList)=true:=by
      rw[ByteArray.toList_mk,ByteArray.toList_mk];simpa using hxy
     have hbe2:(x==y)=false:=beq_eq_false_iff_ne.2 hxy;have Hv:=Lh hv;clear hv hxy;go_wp2_with fail
     go_quiet (fail)
     go_wp2_with fail
     go_ret;exact⟨by rw[Hv.out];rfl,btn Hb.out _⟩
   ·obtain rfl:k=l.length:=by omega
    have hv:=Lh (show decide (l=m)=true by
     have h:=Hu.out;rw[List.take_length,List.take_of_length_le (by rw[HML.out];exact Nat.le_refl _)] at h;exact decide_eq_true h)
    go_wp2_with fail
    go_ret;exact⟨by rw[hv.out];rfl,Hb.out⟩
 ·have hd:((l.length:Int) != (m.length:Int))=true:=by simp;omega
  have hv:=Lh (show decide (l=m)=false from decide_eq_false fun h=>hne (by rw[h]));clear hne;go_enter Tryz.func73,Tryz.ntmps73
  go_wp2_with fail
  go_ret;exact⟨by rw[hv.out];rfl,Below.refl _ _⟩
def Ac6(no:Int)(g:G):Bool:=decide (0<no)&&(g.no==no)
def P9(r:Rg)(no:Int):G×Bool:=bif Ac6 no r.c then(r.c,true) else bif Ac6 no r.o then(r.o,true) else bif Ac6 no r.p then(r.p,true) else(G0,false)
structure Az7 (w:World) (r:Rg) (kc ko kp:List UInt8):Prop where
 lc:r.c.len=kc.length
 c:A4 w r.c.a kc
 lo:r.o.len=ko.length
 o:A4 w r.o.a ko
 lp:r.p.len=kp.length
 p:A4 w r.p.a kp
theorem Az7.mono{w w':World}{r:Rg}{kc ko kp:List UInt8}(h:Az7 w r kc ko kp)(hb:Below w.heap.size w w'):Az7 w' r kc ko kp:=
 ⟨h.lc,h.c.mono hb,h.lo,h.o.mono hb,h.lp,h.p.mono hb⟩
def Ac2(n n':Int)(k k':List UInt8):Bool:=(n==n')&&(k==k')
def U2(r s:Rg)(kc ko kp jc jo jp:List UInt8):Bool:=Ac2 r.c.no s.c.no kc jc&&(Ac2 r.o.no s.o.no ko jo&&(Ac2 r.p.no s.p.no kp jp&&((r.l==s.l)&&(r.t==s.t))))
theorem Eq3(r:Rg)(no:Int)(w:World):
 Calls Tryz.prog 133 #[r.v,.int .i64 no] w fun e w'=>e=.returned (.tuple #[.slice (P9 r no).1.a (P9 r no).1.len (P9 r no).1.cap,.bool (P9 r no).2])∧Below w.heap.size w w':=by
 obtain⟨c,o,p,l,t⟩:=r;go_enter Tryz.func133,Tryz.ntmps133
 go_wp2_with fail
 refine(Bt1 c o p l t _).mono ?_;rintro e w1 ⟨rfl,hb1⟩;have Hb1:=Lh (bt (ba w _) hb1);clear hb1;go_wp2_with fail
 go_loopw [11] (fun i wr=>∃k:Int,0≤k∧k≤3∧i=.int .i64 k∧(0<k→Ac6 no c=false)∧(1<k→Ac6 no o=false)∧(2<k→Ac6 no p=false)∧Below w1.heap.size w1 wr) (fun i _=>3-(intOf i).toNat)
 case atStart=>exact⟨0,by omega,by omega,rfl,by omega,by omega,by omega,Below.refl _ _⟩
 case round=>
  obtain⟨k,hk0,hk3,rfl,h0,h1,h2,hb⟩:=hrel;have Hb:=Lh (bt Hb1.out hb);have Hbr:=Lh hb;clear hb;have e0:=fun W=>By1 (.int .i64 c.no) (.slice c.a c.len c.cap) (.int .i64 o.no) (.slice o.a o.len o.cap) (.int .i64 p.no) (.slice p.a p.len p.cap) W;have e1:=fun W=>By2 (.int .i64 c.no) (.slice c.a c.len c.cap) (.int .i64 o.no) (.slice o.a o.len o.cap) (.int .i64 p.no) (.slice p.a p.len p.cap) W;have e2:=fun W=>By3 (.int .i64 c.no) (.slice c.a c.len c.cap) (.int .i64 o.no) (.slice o.a o.len o.cap) (.int .i64 p.no) (.slice p.a p.len p.cap) W;rcases(show k=0∨k=1∨k=2∨k=3 by omega) with rfl | rfl | rfl | rfl
  ·clear h0 h1 h2;by_cases hn:0<no
   ·have hd:decide (0<no)=true:=by simpa using hn
    rcases hq:(c.no==no) with _ | _
    ·have HK:=Lh (show Ac6 no c=false by simp[Ac6];intro _;simpa using hq);go_wp2_with fail
     exact⟨⟨1,by decide,by decide,rfl,fun _=>HK.out,by omega,by omega,bt Hbr.out (ba _ _)⟩,by simp[intOf]⟩
    ·have HF:=Lh (show P9 ⟨c,o,p,l,t⟩ no=(c,true) by
      have:Ac6 no c=true:=by simp[Ac6,hn];simpa using hq
      simp[P9,this])
     go_wp2_with fail
     go_ret2
     exact⟨by rw[HF.out];rfl,bt Hb.out (ba _ _)⟩
   ·have hd:decide (0<no)=false:=by simpa using hn
    have HK:=Lh (show Ac6 no c=false by simp[Ac6];intro h;exact(hn h).elim);go_wp2_with fail
    exact⟨⟨1,by decide,by decide,rfl,fun _=>HK.out,by omega,by omega,bt Hbr.out (ba _ _)⟩,by simp[intOf]⟩
  ·have H0:=Lh (h0 (by decide));clear h0 h1 h2;by_cases hn:0<no
   ·have hd:decide (0<no)=true:=by simpa using hn
    rcases hq:(o.no==no) with _ | _
    ·have HK:=Lh (show Ac6 no o=false by simp[Ac6];intro _;simpa using hq);go_wp2_with fail
     exact⟨⟨2,by decide,by decide,rfl,fun _=>H0.out,fun _=>HK.out,by omega,bt Hbr.out (ba _ _)⟩,by simp[intOf]⟩
    ·have HF:=Lh (show P9 ⟨c,o,p,l,t⟩ no=(o,true) by
      have:Ac6 no o=true:=by simp[Ac6,hn];simpa using hq
      simp[P9,H0.out,this])
     go_wp2_with fail
     go_ret2
     exact⟨by rw[HF.out];rfl,bt Hb.out (ba _ _)⟩
   ·have hd:decide (0<no)=false:=by simpa using hn
    have HK:=Lh (show Ac6 no o=false by simp[Ac6];intro h;exact(hn h).elim);go_wp2_with fail
    exact⟨⟨2,by decide,by decide,rfl,fun _=>H0.out,fun _=>HK.out,by omega,bt Hbr.out (ba _ _)⟩,by simp[intOf]⟩
  ·have H0:=Lh (h0 (by decide));have H1:=Lh (h1 (by decide));clear h0 h1 h2;by_cases hn:0<no
   ·have hd:decide (0<no)=true:=by simpa using hn
    rcases hq:(p.no==no) with _ | _
    ·have HK:=Lh (show Ac6 no p=false by simp[Ac6];intro _;simpa using hq);go_wp2_with fail
     exact⟨⟨3,by decide,by decide,rfl,fun _=>H0.out,fun _=>H1.out,fun _=>HK.out,bt Hbr.out (ba _ _)⟩,by simp[intOf]⟩
    ·have HF:=Lh (show P9 ⟨c,o,p,l,t⟩ no=(p,true) by
      have:Ac6 no p=true:=by simp[Ac6,hn];simpa using hq
      simp[P9,H0.out,H1.out,this])
     go_wp2_with fail
     go_ret2
     exact⟨by rw[HF.out];rfl,bt Hb.out (ba _ _)⟩
   ·have hd:decide (0<no)=false:=by simpa using hn
    have HK:=Lh (show Ac6 no p=false by simp[Ac6];intro h;exact(hn h).elim);go_wp2_with fail
    exact⟨⟨3,by decide,by decide,rfl,fun _=>H0.out,fun _=>H1.out,fun _=>HK.out,bt Hbr.out (ba _ _)⟩,by simp[intOf]⟩
  ·have HF:=Lh (show P9 ⟨c,o,p,l,t⟩ no=(G0,false) by simp[P9,h0 (by decide),h1 (by decide),h2 (by decide)]);clear h0 h1 h2;go_wp2_with fail
   go_ret2
   exact⟨by rw[HF.out];rfl,Hb.out⟩
theorem Bb7(g h:G)(k j:List UInt8)(w:World)(hg:g.len=k.length)(hh:h.len=j.length)(hk:A4 w g.a k)(hj:A4 w h.a j):
 Calls Tryz.prog 143 #[Cg2 g,Cg2 h] w fun e w'=>e=.returned (.bool (Ac2 g.no h.no k j))∧Below w.heap.size w w':=by
 have Hk:=Lh hk;have Hj:=Lh hj;have Hg:=Lh hg;have Hh:=Lh hh;clear hk hj hg hh;rcases hq:(g.no==h.no) with _ | _
 ·go_enter Tryz.func143,Tryz.ntmps143
  go_wp2_with fail
  go_ret;exact⟨by simp[Ac2, *],bt (ba w _) (ba _ _)⟩
 ·go_enter Tryz.func143,Tryz.ntmps143
  go_wp2_with (go_at_call 25;refine(Ac1 g.a h.a g.len g.cap h.len h.cap k j _ Hg.out Hh.out (Hk.out.mono (bt (ba w _) (ba _ _))) (Hj.out.mono (bt (ba w _) (ba _ _)))).mono ?_;rintro e w2 ⟨rfl,rfl⟩)
  go_ret;exact⟨by simp[Ac2, *],bt (ba w _) (ba _ _)⟩
theorem Dg9{w W:World}{a b c:List Value}{A B C:TypeId}(h:((w.alloc (.cells a.toArray A)).alloc (.cells b.toArray B)).alloc (.cells c.toArray C)=W):Blk W w.heap.size a∧Blk W (w.heap.size+1) b∧Blk W (w.heap.size+1+1) c∧Below w.heap.size w W:=by
 obtain⟨h1,h2⟩:=Fk7 h;exact⟨h1.get 0 rfl,h1.get 1 rfl,h1.get 2 rfl,h2⟩
theorem Cj9{W:World}{b:Nat}{r:Rg}{e:Int}{fn:Func}{tmps:Array Value}{p u:Tmp}(h:fn.results=#[.cell p 32,.tmp u])(hp:tmps.getD p undef=.pointer (some ⟨b,0,none⟩))(hu:tmps.getD u undef=.int .i64 e)(hB:Blk W b r.L):
 (results fn tmps).run Tryz.prog W=.ok (.tuple #[r.v,.int .i64 e]) W:=
 F2 h tmps W b hp (.int .i64 e) hu hB Tryz.underlying32 rfl Ab7
theorem Eq4(r:Rg)(w:World):
 Calls Tryz.prog 64 #[r.v] w fun e w'=>e=.returned (.tuple #[(Bn5 r).1.v,.int .i64 (Bn5 r).2])∧Below w.heap.size w w':=by
 obtain⟨c,o,p,l,t⟩:=r;have HI:=Lh Ab7;rcases hP:U9 p with _ | _;all_goals
  go_enter Tryz.func64,Tryz.ntmps64
  go_wp2_with fail
  generalize hW:World.alloc _ _=W;obtain⟨HA,HB,HC,hb⟩:=Dg9 (a:=Aw6 c o p l t) (b:=R0.L) (c:=Aw6 c o p l t) hW;clear hW;refine(Bb6 p _).mono ?_;rintro e w2 ⟨rfl,hb2⟩;have HA:=Lh (HA.up hb2);have HB:=Lh (HB.up hb2);have HC:=Lh (HC.up hb2);have Hb:=Lh (bt hb hb2);clear hb hb2;generalize hn2:w.heap.size+1+1=n2 at HC ⊢;generalize hn1:w.heap.size+1=n1 at HB ⊢;have Hne:=Lh (show n1≠n2 by omega);have Hle:=Lh (show w.heap.size≤n1 by omega);have Hle2:=Lh (show w.heap.size≤n2 by omega);clear hn1 hn2
 ·obtain⟨c0,c1,c2,c3,c4,c5,c6,c7⟩:=J6 HC.out;have fC:=HC.out.frozen;have HC2:=Lh (((((((HC.out.set 2 (.int .i64 c.no)).set 3 (.slice c.a c.len c.cap)).set 0 (.int .i64 p.no)).set 1 (.slice p.a p.len p.cap)).set 4 (.int .i64 0)).set 5 (.slice none 0 0)).set 6 (.int .i64 16));have HB2:=Lh (((((((HB.out.other ⟨n2,2,none⟩ Hne.out (.int .i64 c.no)).other ⟨n2,3,none⟩ Hne.out (.slice c.a c.len c.cap)).other ⟨n2,0,none⟩ Hne.out (.int .i64 p.no)).other ⟨n2,1,none⟩ Hne.out (.slice p.a p.len p.cap)).other ⟨n2,4,none⟩ Hne.out (.int .i64 0)).other ⟨n2,5,none⟩ Hne.out (.slice none 0 0)).other ⟨n2,6,none⟩ Hne.out (.int .i64 16));go_wp2_with (first
   | (refine C4 32 (.tmp 27) n2 (cs:=Aw6 p c G0 16 t) rfl rfl rfl ?hb Tryz.underlying32 rfl HI.out ?_;(case hb=>exact HC2.out))
   | (refine G9 32 (.tmp 2) (.tmp 28) n1 (old:=R0.L) (cs:=Aw6 p c G0 16 t) rfl rfl rfl rfl ?hb HI.out rfl rfl ?_;(case hb=>exact HB2.out)))
  refine bodyPost_ret (Cj9 (r:=⟨p,c,G0,16,t⟩) rfl rfl rfl (HB2.out.row _)) rfl ⟨?_,F5 (((((((Hb.out.setCell Hle2.out _).setCell Hle2.out _).setCell Hle2.out _).setCell Hle2.out _).setCell Hle2.out _).setCell Hle2.out _).setCell Hle2.out _) Hle.out _⟩;simp[Bn5,hP]
 ·go_wp2_with (first
   | (refine C4 32 (.tmp 1) w.heap.size rfl rfl rfl HA.out Tryz.underlying32 rfl HI.out ?_)
   | (refine G9 32 (.tmp 2) (.tmp 11) n1 rfl rfl rfl rfl HB.out HI.out rfl rfl ?_))
  refine bodyPost_ret (Cj9 (r:=⟨c,o,p,l,t⟩) rfl rfl rfl (HB.out.row _)) rfl ⟨?_,F5 Hb.out Hle.out _⟩;simp[Bn5,hP]
theorem Bv4{w W:World}{a b:List Value}{A B:TypeId}(h:(w.alloc (.cells a.toArray A)).alloc (.cells b.toArray B)=W):Blk W w.heap.size a∧Blk W (w.heap.size+1) b∧Below w.heap.size w W:=by
 obtain⟨h1,h2⟩:=Fk6 h;exact⟨h1.get 0 rfl,h1.get 1 rfl,h2⟩
theorem Cg7(r s:Rg)(kc ko kp jc jo jp:List UInt8)(w:World)(hr:Az7 w r kc ko kp)(hs:Az7 w s jc jo jp):
 Calls Tryz.prog 71 #[r.v,s.v] w fun e w'=>e=.returned (.bool (U2 r s kc ko kp jc jo jp))∧Below w.heap.size w w':=by
 have Hr:=Lh hr;have Hs:=Lh hs;clear hr hs;rcases hX:Ac2 r.c.no s.c.no kc jc with _ | _;all_goals
  rcases hY:Ac2 r.o.no s.o.no ko jo with _ | _;all_goals
   rcases hZ:Ac2 r.p.no s.p.no kp jp with _ | _;all_goals
    go_enter Tryz.func71,Tryz.ntmps71
    go_wp2_with fail
    generalize hW:World.alloc _ _=W;obtain⟨HA,HB,hb⟩:=Bv4 (a:=r.L) (b:=s.L) hW;clear hW;have HA:=Lh HA;have HB:=Lh HB;have Hb:=Lh hb;clear hb;refine(Bb7 r.c s.c kc jc _ Hr.out.lc Hs.out.lc (Hr.out.c.mono Hb.out) (Hs.out.c.mono Hb.out)).mono ?_;rintro e w2 ⟨rfl,hb2⟩;have HA:=Lh (HA.out.up hb2);have HB:=Lh (HB.out.up hb2);have Hb:=Lh (bt Hb.out hb2);clear hb2;generalize hn1:w.heap.size+1=n1 at HB ⊢;clear hn1;obtain⟨c0,c1,c2,c3,c4,c5,c6,c7⟩:=J6 HA.out;obtain⟨d0,d1,d2,d3,d4,d5,d6,d7⟩:=J6 HB.out;go_wp2_with (first
     | (go_at_call 143;((with_reducible refine Calls.mono (Bb7 r.o s.o ko jo _ Hr.out.lo Hs.out.lo (Hr.out.o.mono Hb.out) (Hs.out.o.mono Hb.out)) ?_);rintro e w2 ⟨rfl,hb2⟩;have HA:=Lh (HA.out.up hb2);have HB:=Lh (HB.out.up hb2);have Hb:=Lh (bt Hb.out hb2);clear hb2;obtain⟨c0,c1,c2,c3,c4,c5,c6,c7⟩:=J6 HA.out;obtain⟨d0,d1,d2,d3,d4,d5,d6,d7⟩:=J6 HB.out))
     | (go_at_call 143;((with_reducible refine Calls.mono (Bb7 r.p s.p kp jp _ Hr.out.lp Hs.out.lp (Hr.out.p.mono Hb.out) (Hs.out.p.mono Hb.out)) ?_);rintro e w2 ⟨rfl,hb2⟩;have HA:=Lh (HA.out.up hb2);have HB:=Lh (HB.out.up hb2);have Hb:=Lh (bt Hb.out hb2);clear hb2;obtain⟨c0,c1,c2,c3,c4,c5,c6,c7⟩:=J6 HA.out;obtain⟨d0,d1,d2,d3,d4,d5,d6,d7⟩:=J6 HB.out)))
    all_goals
     go_ret;exact⟨by simp[U2, *],Hb.out⟩
abbrev Ax3(c o p:G):List Value:=[.int .i64 c.no,.slice c.a c.len c.cap,.int .i64 o.no,.slice o.a o.len o.cap,.int .i64 p.no,.slice p.a p.len p.cap]
theorem K5{W:World}{b:Nat}{c o p:G}(h:Blk W b (Ax3 c o p)):
 W.cell? ⟨b,0,none⟩=some (.int .i64 c.no)∧W.cell? ⟨b,1,none⟩=some (.slice c.a c.len c.cap)∧W.cell? ⟨b,2,none⟩=some (.int .i64 o.no)∧W.cell? ⟨b,3,none⟩=some (.slice o.a o.len o.cap)∧
 W.cell? ⟨b,4,none⟩=some (.int .i64 p.no)∧W.cell? ⟨b,5,none⟩=some (.slice p.a p.len p.cap):=
 ⟨h.cell 0 (by simp),h.cell 1 (by simp),h.cell 2 (by simp),h.cell 3 (by simp),h.cell 4 (by simp),h.cell 5 (by simp)⟩
theorem ban(w:World)(o:Obj)(n:Nat):Below w.heap.size w ((w.alloc o).drewN n):=(ba w o).trans ⟨rfl,rfl,rfl,Nat.le_refl _,fun _ _=>rfl⟩
theorem Fk8{w:World}{b:Nat}{a0 a1 a2 a3 a4 a5 v0 v1 v2 v3 v4 v5:Value}(h:Blk w b [a0,a1,a2,a3,a4,a5]):
 Blk ((((((w.setCell ⟨b,0,none⟩ v0).setCell ⟨b,1,none⟩ v1).setCell ⟨b,2,none⟩ v2).setCell ⟨b,3,none⟩ v3).setCell ⟨b,4,none⟩ v4).setCell ⟨b,5,none⟩ v5) b [v0,v1,v2,v3,v4,v5]:=
 (((((h.set 0 _).set 1 _).set 2 _).set 3 _).set 4 _).set 5 _
theorem Cx4{w:World}{c b:Nat}{cs:List Value}{v0 v1 v2 v3 v4 v5:Value}(h:Blk w c cs)(hn:c≠b):
 Blk ((((((w.setCell ⟨b,0,none⟩ v0).setCell ⟨b,1,none⟩ v1).setCell ⟨b,2,none⟩ v2).setCell ⟨b,3,none⟩ v3).setCell ⟨b,4,none⟩ v4).setCell ⟨b,5,none⟩ v5) c cs:=
 (((((h.other ⟨b,0,none⟩ hn _).other ⟨b,1,none⟩ hn _).other ⟨b,2,none⟩ hn _).other ⟨b,3,none⟩ hn _).other ⟨b,4,none⟩ hn _).other ⟨b,5,none⟩ hn _
theorem Fk9{w:World}{b:Nat}{v0 v1 v2 v3 v4 v5:Value}(cs:List Value)(T:TypeId):
 Blk (((((((w.setCell ⟨b,0,none⟩ v0).setCell ⟨b,1,none⟩ v1).setCell ⟨b,2,none⟩ v2).setCell ⟨b,3,none⟩ v3).setCell ⟨b,4,none⟩ v4).setCell ⟨b,5,none⟩ v5).alloc (.cells cs.toArray T)) w.heap.size cs:=by
 have:=Blk.new ((((((w.setCell ⟨b,0,none⟩ v0).setCell ⟨b,1,none⟩ v1).setCell ⟨b,2,none⟩ v2).setCell ⟨b,3,none⟩ v3).setCell ⟨b,4,none⟩ v4).setCell ⟨b,5,none⟩ v5) cs T;have h:((((((w.setCell ⟨b,0,none⟩ v0).setCell ⟨b,1,none⟩ v1).setCell ⟨b,2,none⟩ v2).setCell ⟨b,3,none⟩ v3).setCell ⟨b,4,none⟩ v4).setCell ⟨b,5,none⟩ v5).heap.size=w.heap.size:=by simp
 rwa [h] at this
theorem Bc2{w0 w:World}{B b:Nat}{v0 v1 v2 v3 v4 v5:Value}(h:Below B w0 w)(hb:B≤b):
 Below B w0 ((((((w.setCell ⟨b,0,none⟩ v0).setCell ⟨b,1,none⟩ v1).setCell ⟨b,2,none⟩ v2).setCell ⟨b,3,none⟩ v3).setCell ⟨b,4,none⟩ v4).setCell ⟨b,5,none⟩ v5):=
 (((((h.setCell hb _).setCell hb _).setCell hb _).setCell hb _).setCell hb _).setCell hb _
theorem Bv5(r s:Rg)(kc ko kp jc jo jp:List UInt8)(w:World)(hr:Az7 w r kc ko kp)(hs:Az7 w s jc jo jp):
 Calls Tryz.prog 105 #[r.v,s.v] w fun e w'=>e=.returned (.bool (U2 r s kc ko kp jc jo jp))∧Below w.heap.size w w':=by
 have Hr:=Lh hr;have Hs:=Lh hs;clear hr hs;go_enter Tryz.func105,Tryz.ntmps105
 go_wp2_with fail
 generalize hW:World.alloc _ _=W;obtain⟨HA,HB,hb⟩:=Bv4 (a:=r.L) (b:=s.L) hW;clear hW;have HA:=Lh HA;have HB:=Lh HB;have Hb:=Lh hb;clear hb;generalize hn1:w.heap.size+1=n1 at HB ⊢;have Hn1:=Lh (show w.heap.size≤n1 by omega);clear hn1;go_cut [5,6] (fun v5 v6 wx=>∃b5 b6:Nat,v5=.pointer (some ⟨b5,0,none⟩)∧v6=.pointer (some ⟨b6,0,none⟩)∧Blk wx b5 (Ax3 r.c r.o r.p)∧Blk wx b6 (Ax3 s.c s.o s.p)∧Below W.heap.size W wx)
 case first=>
  have KS:=Lh (show ∀w',Below W.heap.size W w'→(Below W.heap.size W w'∧w'.cell? ⟨w.heap.size,0,none⟩=some (.int .i64 r.c.no)∧w'.cell? ⟨w.heap.size,1,none⟩=some (.slice r.c.a r.c.len r.c.cap)∧w'.cell? ⟨w.heap.size,2,none⟩=some (.int .i64 r.o.no)∧w'.cell? ⟨w.heap.size,3,none⟩=some (.slice r.o.a r.o.len r.o.cap)∧w'.cell? ⟨w.heap.size,4,none⟩=some (.int .i64 r.p.no)∧w'.cell? ⟨w.heap.size,5,none⟩=some (.slice r.p.a r.p.len r.p.cap)∧w'.cell? ⟨w.heap.size,6,none⟩=some (.int .i64 r.l)∧w'.cell? ⟨w.heap.size,7,none⟩=some (.int .i64 r.t)∧w'.cell? ⟨n1,0,none⟩=some (.int .i64 s.c.no)∧w'.cell? ⟨n1,1,none⟩=some (.slice s.c.a s.c.len s.c.cap)∧w'.cell? ⟨n1,2,none⟩=some (.int .i64 s.o.no)∧w'.cell? ⟨n1,3,none⟩=some (.slice s.o.a s.o.len s.o.cap)∧w'.cell? ⟨n1,4,none⟩=some (.int .i64 s.p.no)∧w'.cell? ⟨n1,5,none⟩=some (.slice s.p.a s.p.len s.p.cap)∧w'.cell? ⟨n1,6,none⟩=some (.int .i64 s.l)∧w'.cell? ⟨n1,7,none⟩=some (.int .i64 s.t)) from fun w' hb=>by
   obtain⟨c0,c1,c2,c3,c4,c5,c6,c7⟩:=J6 (HA.out.up hb);obtain⟨d0,d1,d2,d3,d4,d5,d6,d7⟩:=J6 (HB.out.up hb);exact⟨hb,c0,c1,c2,c3,c4,c5,c6,c7,d0,d1,d2,d3,d4,d5,d6,d7⟩)
  obtain⟨hS0,c0,c1,c2,c3,c4,c5,c6,c7,d0,d1,d2,d3,d4,d5,d6,d7⟩:=KS.out W (Below.refl _ _)
  go_region_held3 (fun w'=>Below W.heap.size W w'∧w'.cell? ⟨w.heap.size,0,none⟩=some (.int .i64 r.c.no)∧w'.cell? ⟨w.heap.size,1,none⟩=some (.slice r.c.a r.c.len r.c.cap)∧w'.cell? ⟨w.heap.size,2,none⟩=some (.int .i64 r.o.no)∧w'.cell? ⟨w.heap.size,3,none⟩=some (.slice r.o.a r.o.len r.o.cap)∧w'.cell? ⟨w.heap.size,4,none⟩=some (.int .i64 r.p.no)∧w'.cell? ⟨w.heap.size,5,none⟩=some (.slice r.p.a r.p.len r.p.cap)∧w'.cell? ⟨w.heap.size,6,none⟩=some (.int .i64 r.l)∧w'.cell? ⟨w.heap.size,7,none⟩=some (.int .i64 r.t)∧w'.cell? ⟨n1,0,none⟩=some (.int .i64 s.c.no)∧w'.cell? ⟨n1,1,none⟩=some (.slice s.c.a s.c.len s.c.cap)∧w'.cell? ⟨n1,2,none⟩=some (.int .i64 s.o.no)∧w'.cell? ⟨n1,3,none⟩=some (.slice s.o.a s.o.len s.o.cap)∧w'.cell? ⟨n1,4,none⟩=some (.int .i64 s.p.no)∧w'.cell? ⟨n1,5,none⟩=some (.slice s.p.a s.p.len s.p.cap)∧w'.cell? ⟨n1,6,none⟩=some (.int .i64 s.l)∧w'.cell? ⟨n1,7,none⟩=some (.int .i64 s.t))
   (first
     | (apply KS.out;(with_reducible ((try apply bta);(try apply bta);(try (apply Bc2;rotate_left;first | apply Nat.le_refl | exact hw2 | apply Nat.le_succ | exact Nat.le_succ_of_le hw2));(try apply bta);(try (apply Bc2;rotate_left;first | apply Nat.le_refl | exact hw2 | apply Nat.le_succ | exact Nat.le_succ_of_le hw2));(try apply bta);(try apply bta);(try apply bt3 hb3);(try apply bta);(try apply bta);(try apply bt3 hb2);(try apply bta);(try apply bta);(first | apply Below.refl | (apply btd;(try apply bta);(try apply bta);apply Below.refl)))))
     | fail)
   (first
     | (go_at_call 166;go_split_ands;((with_reducible refine Calls.mono (Bt1 r.c r.o r.p r.l r.t _) ?_);rintro e w2 ⟨rfl,hb2⟩;have hzw2:=hb2.size;have hw2:W.heap.size≤w2.heap.size:=(by have:=hb2.size;first | omega | (simp at this;omega));(try ((with_reducible have ub1:=Blk.upR hb2 ub1);have fub1:=ub1.frozen;have lub1:=ub1.lt;obtain⟨x0,x1,x2,x3,x4,x5⟩:=K5 ub1));(try ((with_reducible have ub1:=Blk.upR hb2 (ub1.alloc _));have fub1:=ub1.frozen;have lub1:=ub1.lt;obtain⟨x0,x1,x2,x3,x4,x5⟩:=K5 ub1));(try ((with_reducible have ub1:=Blk.upR hb2 ((ub1.alloc _).alloc _));have fub1:=ub1.frozen;have lub1:=ub1.lt;obtain⟨x0,x1,x2,x3,x4,x5⟩:=K5 ub1));(try ((with_reducible have ub2:=Blk.upR hb2 ub2);have fub2:=ub2.frozen;have lub2:=ub2.lt;obtain⟨x0,x1,x2,x3,x4,x5⟩:=K5 ub2));(try ((with_reducible have ub2:=Blk.upR hb2 (ub2.alloc _));have fub2:=ub2.frozen;have lub2:=ub2.lt;obtain⟨x0,x1,x2,x3,x4,x5⟩:=K5 ub2));(try ((with_reducible have ub2:=Blk.upR hb2 ((ub2.alloc _).alloc _));have fub2:=ub2.frozen;have lub2:=ub2.lt;obtain⟨x0,x1,x2,x3,x4,x5⟩:=K5 ub2));(try ((with_reducible have ub3:=Blk.upR hb2 ub3);have fub3:=ub3.frozen;have lub3:=ub3.lt;obtain⟨x0,x1,x2,x3,x4,x5⟩:=K5 ub3));(try ((with_reducible have ub3:=Blk.upR hb2 (ub3.alloc _));have fub3:=ub3.frozen;have lub3:=ub3.lt;obtain⟨x0,x1,x2,x3,x4,x5⟩:=K5 ub3));(try ((with_reducible have ub3:=Blk.upR hb2 ((ub3.alloc _).alloc _));have fub3:=ub3.frozen;have lub3:=ub3.lt;obtain⟨x0,x1,x2,x3,x4,x5⟩:=K5 ub3));(try ((with_reducible have ua1:=Blk.up (Blk.new _ (Ax3 G0 G0 G0) _) hb2);have fua1:=ua1.frozen;have lua1:=ua1.lt;obtain⟨x0,x1,x2,x3,x4,x5⟩:=K5 ua1));(try ((with_reducible have ua1:=Blk.up (Blk.new _ (Ax3 G0 G0 G0) _).drew hb2);have fua1:=ua1.frozen;have lua1:=ua1.lt;obtain⟨x0,x1,x2,x3,x4,x5⟩:=K5 ua1));(try ((with_reducible have ua2:=Blk.up ((Blk.new _ (Ax3 G0 G0 G0) _).alloc _) hb2);have fua2:=ua2.frozen;have lua2:=ua2.lt;obtain⟨x0,x1,x2,x3,x4,x5⟩:=K5 ua2));(try ((with_reducible have ua2:=Blk.up ((Blk.new _ (Ax3 G0 G0 G0) _).alloc _).drew hb2);have fua2:=ua2.frozen;have lua2:=ua2.lt;obtain⟨x0,x1,x2,x3,x4,x5⟩:=K5 ua2));(try ((with_reducible have ua3:=Blk.up (Cg4 _ _ (Ax3 G0 G0 G0) _) hb2);have fua3:=ua3.frozen;have lua3:=ua3.lt;obtain⟨x0,x1,x2,x3,x4,x5⟩:=K5 ua3));(try ((with_reducible have ua3:=Blk.up (Cg4 _ _ (Ax3 G0 G0 G0) _).drew hb2);have fua3:=ua3.frozen;have lua3:=ua3.lt;obtain⟨x0,x1,x2,x3,x4,x5⟩:=K5 ua3))))
     | (go_at_call 166;go_split_ands;((with_reducible refine Calls.mono (Bt1 s.c s.o s.p s.l s.t _) ?_);rintro e w3 ⟨rfl,hb3⟩;have hzw3:=hb3.size;have hw3:W.heap.size≤w3.heap.size:=(by have:=hb3.size;first | omega | (simp at this;omega));(try ((with_reducible have ua1:=Blk.upR hb3 ua1);have fua1:=ua1.frozen;have lua1:=ua1.lt;obtain⟨x0,x1,x2,x3,x4,x5⟩:=K5 ua1));(try ((with_reducible have ua1:=Blk.upR hb3 (ua1.alloc _));have fua1:=ua1.frozen;have lua1:=ua1.lt;obtain⟨x0,x1,x2,x3,x4,x5⟩:=K5 ua1));(try ((with_reducible have ua1:=Blk.upR hb3 ((ua1.alloc _).alloc _));have fua1:=ua1.frozen;have lua1:=ua1.lt;obtain⟨x0,x1,x2,x3,x4,x5⟩:=K5 ua1));(try ((with_reducible have ua2:=Blk.upR hb3 ua2);have fua2:=ua2.frozen;have lua2:=ua2.lt;obtain⟨x0,x1,x2,x3,x4,x5⟩:=K5 ua2));(try ((with_reducible have ua2:=Blk.upR hb3 (ua2.alloc _));have fua2:=ua2.frozen;have lua2:=ua2.lt;obtain⟨x0,x1,x2,x3,x4,x5⟩:=K5 ua2));(try ((with_reducible have ua2:=Blk.upR hb3 ((ua2.alloc _).alloc _));have fua2:=ua2.frozen;have lua2:=ua2.lt;obtain⟨x0,x1,x2,x3,x4,x5⟩:=K5 ua2));(try ((with_reducible have ua3:=Blk.upR hb3 ua3);have fua3:=ua3.frozen;have lua3:=ua3.lt;obtain⟨x0,x1,x2,x3,x4,x5⟩:=K5 ua3));(try ((with_reducible have ua3:=Blk.upR hb3 (ua3.alloc _));have fua3:=ua3.frozen;have lua3:=ua3.lt;obtain⟨x0,x1,x2,x3,x4,x5⟩:=K5 ua3));(try ((with_reducible have ua3:=Blk.upR hb3 ((ua3.alloc _).alloc _));have fua3:=ua3.frozen;have lua3:=ua3.lt;obtain⟨x0,x1,x2,x3,x4,x5⟩:=K5 ua3));(try ((with_reducible have ub1:=Blk.up (Blk.new _ (Ax3 G0 G0 G0) _) hb3);have fub1:=ub1.frozen;have lub1:=ub1.lt;obtain⟨x0,x1,x2,x3,x4,x5⟩:=K5 ub1));(try ((with_reducible have ub1:=Blk.up (Blk.new _ (Ax3 G0 G0 G0) _).drew hb3);have fub1:=ub1.frozen;have lub1:=ub1.lt;obtain⟨x0,x1,x2,x3,x4,x5⟩:=K5 ub1));(try ((with_reducible have ub2:=Blk.up ((Blk.new _ (Ax3 G0 G0 G0) _).alloc _) hb3);have fub2:=ub2.frozen;have lub2:=ub2.lt;obtain⟨x0,x1,x2,x3,x4,x5⟩:=K5 ub2));(try ((with_reducible have ub2:=Blk.up ((Blk.new _ (Ax3 G0 G0 G0) _).alloc _).drew hb3);have fub2:=ub2.frozen;have lub2:=ub2.lt;obtain⟨x0,x1,x2,x3,x4,x5⟩:=K5 ub2));(try ((with_reducible have ub3:=Blk.up (Cg4 _ _ (Ax3 G0 G0 G0) _) hb3);have fub3:=ub3.frozen;have lub3:=ub3.lt;obtain⟨x0,x1,x2,x3,x4,x5⟩:=K5 ub3));(try ((with_reducible have ub3:=Blk.up (Cg4 _ _ (Ax3 G0 G0 G0) _).drew hb3);have fub3:=ub3.frozen;have lub3:=ub3.lt;obtain⟨x0,x1,x2,x3,x4,x5⟩:=K5 ub3)))))
  all_goals
   go_split_ands
   go_wp2_with fail
   go_meet
   refine⟨_,_,rfl,rfl,?_,?_,?h3⟩
   case h3=>(with_reducible ((try apply bta);(try apply bta);(try (apply Bc2;rotate_left;first | apply Nat.le_refl | exact hw2 | apply Nat.le_succ | exact Nat.le_succ_of_le hw2));(try apply bta);(try (apply Bc2;rotate_left;first | apply Nat.le_refl | exact hw2 | apply Nat.le_succ | exact Nat.le_succ_of_le hw2));(try apply bta);(try apply bta);(try apply bt3 hb3);(try apply bta);(try apply bta);(try apply bt3 hb2);(try apply bta);(try apply bta);(first | apply Below.refl | (apply btd;(try apply bta);(try apply bta);apply Below.refl))))
   all_goals
    with_reducible (repeat (first | assumption | apply Blk.new | apply Cg4 | apply Fk9 | apply Fk8 | apply Cx4 | apply Blk.alloc))
   all_goals first
    | omega
    | fail
 case rest=>
  obtain⟨b5,b6,rfl,rfl,h5,h6,hbc⟩:=hcut;have HA:=Lh (HA.out.up hbc);have HB:=Lh (HB.out.up hbc);have Hb:=Lh (bt Hb.out hbc);have H6:=Lh h6;obtain⟨c0,c1,c2,c3,c4,c5⟩:=K5 h5;clear h5 h6 hbc;go_wp2_with fail
  clear c0 c1 c2 c3 c4 c5
  go_loopw [16] (fun i wr=>∃k:Int,0≤k∧k≤3∧i=.int .i64 k∧(0<k→Ac2 r.c.no s.c.no kc jc=true)∧(1<k→Ac2 r.o.no s.o.no ko jo=true)∧(2<k→Ac2 r.p.no s.p.no kp jp=true)∧Below wc.heap.size wc wr) (fun i _=>3-(intOf i).toNat)
  case atStart=>exact⟨0,by omega,by omega,rfl,by omega,by omega,by omega,Below.refl _ _⟩
  case round=>
   obtain⟨k,hk0,hk3,rfl,h0,h1,h2,hb⟩:=hrel;have Hbr:=Lh hb;have Hbx:=Lh (bt Hb.out hb);have H6:=Lh (H6.out.up hb);have l6:=H6.out.lt;obtain⟨d0,d1,d2,d3,d4,d5⟩:=K5 H6.out;clear hb;have e0:=fun W=>By1 (.int .i64 r.c.no) (.slice r.c.a r.c.len r.c.cap) (.int .i64 r.o.no) (.slice r.o.a r.o.len r.o.cap) (.int .i64 r.p.no) (.slice r.p.a r.p.len r.p.cap) W;have e1:=fun W=>By2 (.int .i64 r.c.no) (.slice r.c.a r.c.len r.c.cap) (.int .i64 r.o.no) (.slice r.o.a r.o.len r.o.cap) (.int .i64 r.p.no) (.slice r.p.a r.p.len r.p.cap) W;have e2:=fun W=>By3 (.int .i64 r.c.no) (.slice r.c.a r.c.len r.c.cap) (.int .i64 r.o.no) (.slice r.o.a r.o.len r.o.cap) (.int .i64 r.p.no) (.slice r.p.a r.p.len r.p.cap) W;rcases(show k=0∨k=1∨k=2∨k=3 by omega) with rfl | rfl | rfl | rfl
   ·clear h0 h1 h2;have hw:∀W,At W r.c.a (B8s kc)→At W s.c.a (B8s jc)→Calls Tryz.prog 101 #[.slice r.c.a r.c.len r.c.cap,.slice s.c.a s.c.len s.c.cap] W fun e w'=>e=.returned (.bool (kc==jc))∧w'=W:=fun W h1 h2=>(Ag4 _ _ _ _ _ _ _ _ W Hr.out.lc Hs.out.lc h1 h2).mono fun _ _ ⟨h3,h4⟩=>⟨h3,h4.symm⟩;have Hw:=Lh hw;have HP:=Lh (Hr.out.c.mono Hbx.out);have HQ:=Lh (Hs.out.c.mono Hbx.out);clear hw;rcases hq:(r.c.no==s.c.no) with _ | _
    ·have hd:(r.c.no != s.c.no)=true:=by simpa [bne] using hq
     have HF:=Lh (show U2 r s kc ko kp jc jo jp=false by simp[U2,Ac2,hq]);clear hq;go_wp2_with fail
     go_quiet ((go_at_call 101;exact Calls.quiet_of_same (Hw.out _ (HP.out.mono (ban _ _ _)) (HQ.out.mono (ban _ _ _)))))
     all_goals
      go_wp2_with fail
      go_ret;exact⟨by rw[HF.out];rfl,(bt Hbx.out (ba _ _)).trans ⟨rfl,rfl,rfl,Nat.le_refl _,fun _ _=>rfl⟩⟩
    ·have hd:(r.c.no != s.c.no)=false:=by simpa [bne] using hq
     rcases hv:(kc==jc) with _ | _
     ·have HF:=Lh (show U2 r s kc ko kp jc jo jp=false by simp only[U2,Ac2,hq,hv];simp);have Hw:=Lh (show ∀W,At W r.c.a (B8s kc)→At W s.c.a (B8s jc)→Calls Tryz.prog 101 #[.slice r.c.a r.c.len r.c.cap,.slice s.c.a s.c.len s.c.cap] W fun e w'=>e=.returned (.bool false)∧w'=W by have:=Hw.out;rwa [hv] at this);clear hq hv;go_wp2_with fail
      go_quiet ((go_at_call 101;exact Calls.quiet_of_same (Hw.out _ (HP.out.mono (ban _ _ _)) (HQ.out.mono (ban _ _ _)))))
      all_goals
       go_wp2_with fail
       go_ret;exact⟨by rw[HF.out];rfl,(bt Hbx.out (ba _ _)).trans ⟨rfl,rfl,rfl,Nat.le_refl _,fun _ _=>rfl⟩⟩
     ·have HK:=Lh (show Ac2 r.c.no s.c.no kc jc=true by simp only[Ac2,hq,hv];rfl);have Hw:=Lh (show ∀W,At W r.c.a (B8s kc)→At W s.c.a (B8s jc)→Calls Tryz.prog 101 #[.slice r.c.a r.c.len r.c.cap,.slice s.c.a s.c.len s.c.cap] W fun e w'=>e=.returned (.bool true)∧w'=W by have:=Hw.out;rwa [hv] at this);clear hq hv;go_wp2_with fail
      go_quiet ((go_at_call 101;exact Calls.quiet_of_same (Hw.out _ (HP.out.mono (ban _ _ _)) (HQ.out.mono (ban _ _ _)))))
      all_goals
       go_wp2_with fail
       exact⟨⟨1,by decide,by decide,rfl,fun _=>HK.out,by omega,by omega,(bt Hbr.out (ba _ _)).trans ⟨rfl,rfl,rfl,Nat.le_refl _,fun _ _=>rfl⟩⟩,by simp[intOf]⟩
   ·have K0:=Lh (h0 (by decide));clear h0 h1 h2;have hw:∀W,At W r.o.a (B8s ko)→At W s.o.a (B8s jo)→Calls Tryz.prog 101 #[.slice r.o.a r.o.len r.o.cap,.slice s.o.a s.o.len s.o.cap] W fun e w'=>e=.returned (.bool (ko==jo))∧w'=W:=fun W h1 h2=>(Ag4 _ _ _ _ _ _ _ _ W Hr.out.lo Hs.out.lo h1 h2).mono fun _ _ ⟨h3,h4⟩=>⟨h3,h4.symm⟩;have Hw:=Lh hw;have HP:=Lh (Hr.out.o.mono Hbx.out);have HQ:=Lh (Hs.out.o.mono Hbx.out);clear hw;rcases hq:(r.o.no==s.o.no) with _ | _
    ·have hd:(r.o.no != s.o.no)=true:=by simpa [bne] using hq
     have HF:=Lh (show U2 r s kc ko kp jc jo jp=false by simp[U2,K0.out,Ac2,hq]);clear hq;go_wp2_with fail
     go_quiet ((go_at_call 101;exact Calls.quiet_of_same (Hw.out _ (HP.out.mono (ban _ _ _)) (HQ.out.mono (ban _ _ _)))))
     all_goals
      go_wp2_with fail
      go_ret;exact⟨by rw[HF.out];rfl,(bt Hbx.out (ba _ _)).trans ⟨rfl,rfl,rfl,Nat.le_refl _,fun _ _=>rfl⟩⟩
    ·have hd:(r.o.no != s.o.no)=false:=by simpa [bne] using hq
     rcases hv:(ko==jo) with _ | _
     ·have HF:=Lh (show U2 r s kc ko kp jc jo jp=false by simp only[U2,K0.out,Ac2,hq,hv];simp);have Hw:=Lh (show ∀W,At W r.o.a (B8s ko)→At W s.o.a (B8s jo)→Calls Tryz.prog 101 #[.slice r.o.a r.o.len r.o.cap,.slice s.o.a s.o.len s.o.cap] W fun e w'=>e=.returned (.bool false)∧w'=W by have:=Hw.out;rwa [hv] at this);clear hq hv;go_wp2_with fail
      go_quiet ((go_at_call 101;exact Calls.quiet_of_same (Hw.out _ (HP.out.mono (ban _ _ _)) (HQ.out.mono (ban _ _ _)))))
      all_goals
       go_wp2_with fail
       go_ret;exact⟨by rw[HF.out];rfl,(bt Hbx.out (ba _ _)).trans ⟨rfl,rfl,rfl,Nat.le_refl _,fun _ _=>rfl⟩⟩
     ·have HK:=Lh (show Ac2 r.o.no s.o.no ko jo=true by simp only[Ac2,hq,hv];rfl);have Hw:=Lh (show ∀W,At W r.o.a (B8s ko)→At W s.o.a (B8s jo)→Calls Tryz.prog 101 #[.slice r.o.a r.o.len r.o.cap,.slice s.o.a s.o.len s.o.cap] W fun e w'=>e=.returned (.bool true)∧w'=W by have:=Hw.out;rwa [hv] at this);clear hq hv;go_wp2_with fail
      go_quiet ((go_at_call 101;exact Calls.quiet_of_same (Hw.out _ (HP.out.mono (ban _ _ _)) (HQ.out.mono (ban _ _ _)))))
      all_goals
       go_wp2_with fail
       exact⟨⟨2,by decide,by decide,rfl,fun _=>K0.out,fun _=>HK.out,by omega,(bt Hbr.out (ba _ _)).trans ⟨rfl,rfl,rfl,Nat.le_refl _,fun _ _=>rfl⟩⟩,by simp[intOf]⟩
   ·have K0:=Lh (h0 (by decide));have K1:=Lh (h1 (by decide));clear h0 h1 h2;have hw:∀W,At W r.p.a (B8s kp)→At W s.p.a (B8s jp)→Calls Tryz.prog 101 #[.slice r.p.a r.p.len r.p.cap,.slice s.p.a s.p.len s.p.cap] W fun e w'=>e=.returned (.bool (kp==jp))∧w'=W:=fun W h1 h2=>(Ag4 _ _ _ _ _ _ _ _ W Hr.out.lp Hs.out.lp h1 h2).mono fun _ _ ⟨h3,h4⟩=>⟨h3,h4.symm⟩;have Hw:=Lh hw;have HP:=Lh (Hr.out.p.mono Hbx.out);have HQ:=Lh (Hs.out.p.mono Hbx.out);clear hw;rcases hq:(r.p.no==s.p.no) with _ | _
    ·have hd:(r.p.no != s.p.no)=true:=by simpa [bne] using hq
     have HF:=Lh (show U2 r s kc ko kp jc jo jp=false by simp[U2,K0.out,K1.out,Ac2,hq]);clear hq;go_wp2_with fail
     go_quiet ((go_at_call 101;exact Calls.quiet_of_same (Hw.out _ (HP.out.mono (ban _ _ _)) (HQ.out.mono (ban _ _ _)))))
     all_goals
      go_wp2_with fail
      go_ret;exact⟨by rw[HF.out];rfl,(bt Hbx.out (ba _ _)).trans ⟨rfl,rfl,rfl,Nat.le_refl _,fun _ _=>rfl⟩⟩
    ·have hd:(r.p.no != s.p.no)=false:=by simpa [bne] using hq
     rcases hv:(kp==jp) with _ | _
     ·have HF:=Lh (show U2 r s kc ko kp jc jo jp=false by simp only[U2,K0.out,K1.out,Ac2,hq,hv];simp);have Hw:=Lh (show ∀W,At W r.p.a (B8s kp)→At W s.p.a (B8s jp)→Calls Tryz.prog 101 #[.slice r.p.a r.p.len r.p.cap,.slice s.p.a s.p.len s.p.cap] W fun e w'=>e=.returned (.bool false)∧w'=W by have:=Hw.out;rwa [hv] at this);clear hq hv;go_wp2_with fail
      go_quiet ((go_at_call 101;exact Calls.quiet_of_same (Hw.out _ (HP.out.mono (ban _ _ _)) (HQ.out.mono (ban _ _ _)))))
      all_goals
       go_wp2_with fail
       go_ret;exact⟨by rw[HF.out];rfl,(bt Hbx.out (ba _ _)).trans ⟨rfl,rfl,rfl,Nat.le_refl _,fun _ _=>rfl⟩⟩
     ·have HK:=Lh (show Ac2 r.p.no s.p.no kp jp=true by simp only[Ac2,hq,hv];rfl);have Hw:=Lh (show ∀W,At W r.p.a (B8s kp)→At W s.p.a (B8s jp)→Calls Tryz.prog 101 #[.slice r.p.a r.p.len r.p.cap,.slice s.p.a s.p.len s.p.cap] W fun e w'=>e=.returned (.bool true)∧w'=W by have:=Hw.out;rwa [hv] at this);clear hq hv;go_wp2_with fail
      go_quiet ((go_at_call 101;exact Calls.quiet_of_same (Hw.out _ (HP.out.mono (ban _ _ _)) (HQ.out.mono (ban _ _ _)))))
      all_goals
       go_wp2_with fail
       exact⟨⟨3,by decide,by decide,rfl,fun _=>K0.out,fun _=>K1.out,fun _=>HK.out,(bt Hbr.out (ba _ _)).trans ⟨rfl,rfl,rfl,Nat.le_refl _,fun _ _=>rfl⟩⟩,by simp[intOf]⟩
   ·have K0:=Lh (h0 (by decide));have K1:=Lh (h1 (by decide));have K2:=Lh (h2 (by decide));clear h0 h1 h2 e0 e1 e2 d0 d1 d2 d3 d4 d5;obtain⟨-,-,-,-,-,-,c6,c7⟩:=J6 (HA.out.up Hbr.out);obtain⟨-,-,-,-,-,-,f6,f7⟩:=J6 (HB.out.up Hbr.out);go_wp2_with fail
    all_goals
     go_ret;exact⟨by simp[U2,K0.out,K1.out,K2.out, *],Hbx.out⟩
theorem Blk.bytes{w:World}{b:Nat}{l:List UInt8}(h:Blk w b (B8s l)):A4 w (some ⟨b,0,none⟩) l:=h.at
def Cg8(w:World)(D:List UInt8)(e:Ending)(w':World):Prop:=∃b cb,e=.returned (.tuple #[.slice b 32 cb,.int .i64 0])∧(32≤cb∧cb≤maxLen)∧A4 w' b D∧Below w.heap.size w w'
theorem Bp2(a:Option Addr)(c:Nat)(key:List UInt8)(str:ByteArray)(pa:Option Addr)(pc:Nat)(rows:List (List UInt8))(hk:key.length≤100000)(hs:str.size≤255)(hr:rows.length≤16)(ht:Ao0 rows≤10000)(w:World)(hkey:A4 w a key)(hrows:W6 w pa rows):
 Calls Tryz.prog 78 #[.slice a key.length c,.string str,.slice pa rows.length pc] w (Cg8 w (As9 key (Au4 str.data.toList rows))):=by
 have HKey:=Lh hkey;have Hr:=Lh hrows;have HTo:=Lh (fun W'=>Em5 str pa pc rows (by omega) (by omega) ht W');have HTl:=Lh (show(Au4 str.data.toList rows).length≤90000 by rw[Ea1,Bf6];omega);have HSl:=Lh (Bs8 rows);have Ht:=Lh ht;have hd1:¬(255:Int)<(str.size:Int):=by omega
 have hd2:¬(16:Int)<(rows.length:Int):=by omega
 clear hkey hrows ht;generalize Au4 str.data.toList rows=T at HTo HTl;go_enter Tryz.func78,Tryz.ntmps78
 go_wp2_with fail
 go_loopw [8] (fun v8 wx=>∃k:Nat,k≤rows.length∧v8=.int .i64 (k:Int)∧w=wx) (fun v8 _=>rows.length-(intOf v8).toNat)
 case atStart=>exact⟨0,Nat.zero_le _,rfl,rfl⟩
 case round=>
  obtain⟨k,hk2,rfl,rfl⟩:=hrel;by_cases hlt:k<rows.length
  ·obtain⟨b,off,p,cc,rfl,hbl,hcell,hp1,hp2,hat⟩:=Hr.out.row k hlt;have hxl:(rows.getD k []).length≤10000:=by
    have h1:=HSl.out (k+1);have h2:=Bc6 rows k hlt;have h3:=Ht.out;omega
   have hd3:¬(65535:Int)<(((rows.getD k []).length:Nat):Int):=by omega
   clear hp1 hp2 hat
   generalize rows.getD k []=x at hcell hxl hd3;go_wp2_with fail
   exact⟨⟨k+1,by omega,by go_num,by first | rfl | trivial⟩,by simp[intOf];omega⟩
  ·obtain rfl:k=rows.length:=by omega
   go_wp2_with fail
   refine(HTo.out w Hr.out).mono ?_;rintro e w2 ⟨a2,c2,rfl,hat2,hb2⟩;have Hat2:=Lh hat2;have Hb2:=Lh hb2;clear hat2 hb2;have HTg:=Lh (Ca1 a a2 c c2 key T hk HTl.out w2 (HKey.out.mono Hb2.out) Hat2.out);go_wp2_with fail
   refine HTg.out.mono ?_;rintro e w3 ⟨a3,c3,rfl,hc3,hat3,hb3⟩;have Hat3:=Lh hat3;have Hb3:=Lh (bt Hb2.out hb3);have Hc3:=Lh hc3;clear hc3 hat3 hb3;go_wp2_with fail
   go_ret2
   exact⟨a3,c3,rfl,Hc3.out,Hat3.out,Hb3.out⟩
theorem Cl9(a:Option Addr)(c:Nat)(key:List UInt8)(str:ByteArray)(pa:Option Addr)(pc:Nat)(rows:List (List UInt8))(hk:key.length≤100000)(hs:str.size≤255)(hr:rows.length≤16)(ht:Ao0 rows≤10000)(w:World)(hkey:A4 w a key)(hrows:W6 w pa rows)(hks:Q4 w):
 Calls Tryz.prog 111 #[.slice a key.length c,.string str,.slice pa rows.length pc] w (Cg8 w (As9 key (Au4 str.data.toList rows))):=by
 have HKey:=Lh hkey;have Hks:=Lh hks;have Hr:=Lh hrows;have HL:=Lh (Bh8 str.data.toList rows);have HSt:=Lh (Bm4 str.data.toList rows);have HSl:=Lh (Bs8 rows);have HT:=Lh (show Au4 str.data.toList rows=An6 str.data.toList rows rows.length from rfl);obtain⟨T0,hT0⟩:∃T0,T0=An6 str.data.toList rows 0:=⟨_,rfl⟩;have HT0:=Lh (show T0=[J4 (str.size:Int)]++str.data.toList by rw[hT0,Ca2,Bf6]);have HT0e:=Lh hT0;have hsz:=Lh (Bf6 str);have hw8:=Ay2 (str.size:Int);have hO:V5 w (w.alloc (.cells #[.int .u8 (bv (J4 (str.size:Int)))] 5)) (.slice (some ⟨w.heap.size,0,none⟩) 1 1) [J4 (str.size:Int)]:=
  V5.of rfl (Buf.made w 5 (B8s [J4 (str.size:Int)]) 1 1 (Nat.le_refl _) rfl (by decide))
 have HO:=Lh hO;have hd1:¬(255:Int)<(str.size:Int):=by omega
 have hd2:¬(16:Int)<(rows.length:Int):=by omega
 clear hkey hrows hks hO hT0;generalize J4 (str.size:Int)=lb at hw8 HO HT0;go_enter Tryz.func111,Tryz.ntmps111
 go_wp2_with (at_builtin;go_must (refine Cq0 (.tmp 22) (.tmp 23) rfl rfl rfl HO.out str rfl (by simp;omega) T0 HT0.out ?_;intro a1 c1 w1 h1;have H1:=Lh h1;clear h1))
 go_loopw [8,10,27] (fun v8 v10 v27 wx=>∃(k:Nat) (L:List UInt8) (o:Option Addr) (oc:Nat),k≤rows.length∧v27=.int .i64 (k:Int)∧L=An6 str.data.toList rows k∧v8=.slice o L.length oc∧V5 w wx v8 L) (fun _ _ v27 _=>rows.length-(intOf v27).toNat)
 case atStart=>exact⟨0,T0,a1,c1,Nat.zero_le _,rfl,HT0e.out,rfl,H1.out⟩
 case round=>
  clear hw8 H1;obtain⟨k,L,o,oc,hk2,rfl,hL,rfl,hO⟩:=hrel;have HLe:=Lh hL;have hLl:L.length≤20000:=by rw[hL,HL.out k hk2,hsz.out];have:=HSl.out k;omega
  have HO:=Lh hO;clear hL hO;by_cases hlt:k<rows.length
  ·obtain⟨b,off,p,cc,rfl,hbl,hcell,hp1,hp2,hat⟩:=Hr.out.row k hlt;have hxl:(rows.getD k []).length≤10000:=by
    have h1:=HSl.out (k+1);have h2:=Bc6 rows k hlt;omega
   have hd3:¬(65535:Int)<(((rows.getD k []).length:Nat):Int):=by omega
   have HN:=Lh (HSt.out k hlt);rw[←HLe.out] at HN;have c0:wr.cell? ⟨b,off+k,none⟩=some (.slice p (rows.getD k []).length cc):=by rw[HO.out.bel.cell (p:=⟨b,off+k,none⟩) hbl];exact hcell
   have Hat:=Lh hat
   clear hcell hat hp1 hp2;generalize rows.getD k []=x at HN c0 Hat hxl hd3;obtain⟨q,hq⟩:∃q:Int,q=(x.length:Int)/256:=⟨_,rfl⟩;have hb1:IntKind.u8.wrap q=bv (J4 ((x.length:Int)/256)):=by rw[Ay2,hq]
   have hb2:=Ay2 (x.length:Int);have hsh:binOp .shr 3 (.int .i64 (x.length:Int)) (.int .u64 8)=pure (.int .i64 q):=by
    rw[Cp1 3 (x.length:Int) 8 .u64 (by decide) (by decide),hq];rfl
   obtain⟨L1,hL1⟩:∃L1,L1=L++[J4 ((x.length:Int)/256),J4 (x.length:Int)]:=⟨_,rfl⟩;have HL1l:=Lh (show L1.length=L.length+2 by rw[hL1];simp);rw[←hL1] at HN;generalize J4 ((x.length:Int)/256)=b1 at hb1 hL1;generalize J4 (x.length:Int)=b2 at hb2 hL1;have HL1:=Lh hL1;obtain⟨T1,hT1⟩:∃T1,T1=An6 str.data.toList rows (k+1):=⟨_,rfl⟩;rw[←hT1] at HN;have HT1:=Lh hT1;clear hL1 hq hT1;go_wp2_with (first
    | (at_builtin;(refine Ag6 (.tmp 34) (.tmp 42) rfl rfl rfl (HO.out.up (ba wr _)) [b1,b2] rfl (U4 wr (B8s [b1,b2]) _) rfl (by omega) L1 HL1.out ?_;intro a6 c6 w6 h6;have H6:=Lh h6;clear h6 c0))
    | (at_builtin;(refine Ag6 (.tmp 44) (.tmp 45) rfl rfl rfl H6.out x rfl (Hat.out.mono H6.out.bel) rfl (by have:=HL1l.out;omega) T1 HN.out ?_;intro a7 c7 w7 h7;have H7:=Lh h7;clear h7)))
   exact⟨⟨k+1,T1,a7,c7,by omega,by go_num,HT1.out,rfl,H7.out⟩,by simp[intOf];omega⟩
  ·obtain rfl:k=rows.length:=by omega
   have hE:Au4 str.data.toList rows=L:=by rw[HLe.out];exact HT.out
   have HE:=Lh hE;clear hE;have HTg:=Lh (Ca0 a o c oc key L hk (by omega) wr (HKey.out.mono HO.out.bel) HO.out.at (Hks.out.mono HO.out.bel));go_wp2_with fail
   refine HTg.out.mono ?_;rintro e w3 ⟨a3,c3,rfl,hc3,hat3,hb3⟩;have Hat3:=Lh hat3;have Hb3:=Lh (bt HO.out.bel hb3);have Hc3:=Lh hc3;clear hc3 hat3 hb3;go_wp2_with fail
   go_ret2
   rw[HE.out];exact⟨a3,c3,rfl,Hc3.out,Hat3.out,Hb3.out⟩
end Go.Proofs.YtadpiemjgfndgaaGreatDoor
