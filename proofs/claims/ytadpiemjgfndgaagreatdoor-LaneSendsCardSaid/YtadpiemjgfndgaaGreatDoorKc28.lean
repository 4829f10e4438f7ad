/- Proved here, for use further on: InZ InV4. Conditions: none but those each theorem names. -/
import Derived.Test.YtadpiemjgfndgaaGreatDoorKc00
import Derived.Test.YtadpiemjgfndgaaGreatDoorKc06
import Derived.Test.YtadpiemjgfndgaaGreatDoorKc02
import Derived.Deep.Slices
import Derived.Test.YtadpiemjgfndgaaGreatDoorKc18
import Derived.ChangeSame
import Derived.Deep.Fields
import Derived.Test.YtadpiemjgfndgaaGreatDoorKc27
set_option maxRecDepth 100000
set_option linter.unusedSimpArgs false
set_option linter.unusedVariables false
set_option maxRecDepth 100000
set_option maxHeartbeats 8000000
namespace Go.Proofs.YtadpiemjgfndgaaGreatDoor
open Go.ChangeShapes Go.WideShapes Go.ChangeAt Go.RowKit
section
variable {H:Type} {enc:TypeId×Value→H} {w:World}
theorem Aq6{n:Nat}{t e:TypeId}{c:Value}{x:DataW H×List MemPlace}(ht:Tryz.prog.underlying t=some (.slice e))(h:DataW.trod enc Tryz.prog w 0 (fun _=>true) true n t [c]=some x):∃a len cap,c=.slice a len cap:=by
 rcases Go.Deep.open_slice ht h with⟨h4,_⟩ | ⟨a,len,cap,_,_,_,_,h4,_⟩
 ·exact⟨_,_,_,by simpa using h4⟩
 ·exact⟨_,_,_,by simpa using h4⟩
theorem Bo9{α:Type}[Inhabited α]{P:Program}{t e:TypeId}{n:Nat}{a:Option Addr}{len cap:Nat}{d:DataW H}{ps:List MemPlace}(R:α→List Value→Prop)
 (ht:P.underlying t=some (.slice e)) (hce:P.cellsOf e=n) (hn:0<n) (elem:∀fuel cs' x,DataW.trod enc P w 0 (fun _=>true) true fuel e cs'=some x→∃p,R p cs')
 (h:DataW.Trod enc P w 0 (fun _=>true) true t (.slice a len cap) d ps):
 ∃l:List α,l.length=len∧len≤cap∧cap≤maxLen∧∃vs:List Value,vs.length=len*n∧At w a vs∧∀i,i<len→R (l.getD i default) ((vs.drop (i*n)).take n):=by
 obtain⟨fuel,hfu⟩:=h;rcases Go.Deep.open_slice ht hfu with⟨h0,_⟩ | ⟨x,l,c,m,k,D,Pl,hcs,hb,hl,hm,hmm,hx,hi⟩
 ·simp[Value.cells] at h0;obtain⟨rfl,rfl,rfl⟩:=h0;exact⟨[],rfl,Nat.le_refl _,Nat.zero_le _,[],by simp,.inl rfl,fun i hi=>absurd hi (Nat.not_lt_zero _)⟩
 ·simp[Value.cells] at hcs;obtain⟨rfl,rfl,rfl⟩:=hcs;have hcell:∀i,i<len→∃p:α×List Value,R p.1 p.2∧p.2.length=n∧∀j,j<n→w.cell? ((x.add (i*n)).add j)=p.2[j]?:=fun i hil=>by
   have him:i<m:=by rw[hmm];split<;>omega
   obtain⟨cs',hc,ht'⟩:=hi i him;rw[hce] at hc;obtain⟨_,hcl,hat⟩:=World.cells?_some hc;obtain⟨p,hp⟩:=elem _ _ _ ht';exact⟨(p,cs'),hp,hcl,hat⟩
  by_cases hz:len=0
  ·subst hz;exact⟨[],rfl,hl,hm,[],by simp,.inl rfl,fun i hi=>absurd hi (Nat.not_lt_zero _)⟩
  ·obtain⟨hxs,hxb⟩:x.spot=none∧x.block<w.heap.size:=by
    obtain⟨p,_,h2,h3⟩:=hcell 0 (by omega);have h4:=h3 0 hn;have hx0:(x.add (0*n)).add 0=x:=by simp[Addr.add]
    rw[hx0,List.getElem?_eq_getElem (by omega)] at h4;exact Ca3 h4
   obtain⟨xb,xo,xs⟩:=x;simp only at hxs hxb;subst hxs;obtain⟨E,hE⟩:=Go.Deep.choose_lt (α:=α×List Value) hcell;let vs:List Value:=(List.range (len*n)).map fun j=>(E (j/n)).2.getD (j%n) undef;have hv:∀j,j<len*n→vs.getD j undef=(E (j/n)).2.getD (j%n) undef:=fun j hj=>by simp[vs,List.getD,hj]
   refine⟨(List.range len).map fun i=>(E i).1,by simp,hl,hm,vs,by simp[vs],.inr ⟨xb,xo,rfl,hxb,fun j hj=>?_⟩,fun i hi=>?_⟩
   ·have hj':j<len*n:=by simpa [vs] using hj
    have hjn:j/n<len:=Nat.div_lt_of_lt_mul (by rw[Nat.mul_comm];exact hj');have hjm:j%n<n:=Nat.mod_lt _ hn;obtain⟨_,h2,h3⟩:=hE (j/n) hjn;have h4:=h3 (j%n) hjm;have e1:xo+j/n*n+j%n=xo+j:=by have:=Nat.div_add_mod j n;rw[Nat.mul_comm] at this;omega
    rw[WideShapes.add_plain,WideShapes.add_plain,e1] at h4;rw[hv j hj',h4,List.getD_eq_getElem?_getD,List.getElem?_eq_getElem (by omega)];rfl
   ·obtain⟨h1,h2,h3⟩:=hE i hi;have hin:i*n+n≤len*n:=by rw[←Nat.succ_mul];exact Nat.mul_le_mul_right n hi
    have e2:(vs.drop (i*n)).take n=(E i).2:=by
     refine List.ext_getElem (by simp[vs,h2];omega) fun k hk1 hk2=>?_;have hkn:k<n:=by omega
     have d1:(i*n+k)/n=i:=by rw[Nat.mul_comm,Nat.mul_add_div hn,Nat.div_eq_of_lt hkn,Nat.add_zero]
     have d2:(i*n+k)%n=k:=by rw[Nat.mul_comm,Nat.mul_add_mod,Nat.mod_eq_of_lt hkn]
     simp[vs,d1,d2,List.getD,hk2]
    have hg:((List.range len).map fun i=>(E i).1).getD i default=(E i).1:=by simp[List.getD,hi]
    rw[hg,e2];exact h1
theorem Al0{vs S:List Value}{o n k:Nat}(h:(vs.drop o).take n=S)(hk:k<n):vs.getD (o+k) undef=S.getD k undef:=by
 rw[←h];simp[List.getD,List.getElem?_take,hk,List.getElem?_drop]
theorem V9.ofIn{w:World}{a:Option Addr}{n c:Nat}{l:List UInt8}(h:Af2 w a n c l):V9 w (.slice a n c) l:=⟨a,c,by rw[h.1],by have:=h.1;have:=h.2.1;omega,h.2.2.1,h.2.2.2⟩
theorem Bj6{n:Nat}{t e:TypeId}{cs:List Value}{x:DataW H×List MemPlace}(ht:Tryz.prog.underlying t=some (.slice e))(h:DataW.trod enc Tryz.prog w 0 (fun _=>true) true n t cs=some x):∃a len cap,cs=[.slice a len cap]:=by
 rcases Go.Deep.open_slice ht h with⟨h4,_⟩ | ⟨a,len,cap,_,_,_,_,h4,_⟩
 ·exact⟨_,_,_,h4⟩
 ·exact⟨_,_,_,h4⟩
theorem Db2{fuel:Nat}{cs:List Value}{x:DataW H×List MemPlace}(h:DataW.trod enc Tryz.prog w 0 (fun _=>true) true fuel 22 cs=some x):
 ∃(a:Option Addr) (n c:Nat) (l:List UInt8),cs=[.slice a n c]∧Af2 w a n c l:=by
 obtain⟨a,n,c,rfl⟩:∃a n c,cs=[.slice a n c]:=by
  rcases Go.Deep.open_slice Tryz.underlying22 h with⟨h4,_⟩ | ⟨a,len,cap,_,_,_,_,h4,_⟩
  ·exact⟨_,_,_,h4⟩
  ·exact⟨_,_,_,h4⟩
 obtain⟨l,hl⟩:=Ak4 (enc:=enc) (w:=w) (a:=a) (len:=n) (cap:=c) (d:=x.1) (ps:=x.2) Tryz.underlying22 Tryz.underlying5 (by kernel_rfl) ⟨_,h⟩;exact⟨a,n,c,l,rfl,hl⟩
theorem Et9{fuel:Nat}{cs:List Value}{x:DataW H×List MemPlace}(h:DataW.trod enc Tryz.prog w 0 (fun _=>true) true fuel 63 cs=some x):
 ∃(m0 m1:Int),cs=[.int .i64 m0,.int .i64 m1]∧(Lit.int .i64 m0).wf=true∧(Lit.int .i64 m1).wf=true:=by
 obtain⟨xs,n,rfl,hx,hl,hxl,hg⟩:=DataW.trod_array Tryz.underlying63 h;have e0:Tryz.prog.cellsOf 3=1:=by kernel_rfl
 have eN:Tryz.prog.cellsOf 63=2:=by kernel_rfl
 have hl':cs.length=2:=by rw[←eN];exact hl
 have h0:=hg 0 (by decide);have h1:=hg 1 (by decide);rw[e0,List.getElem?_eq_getElem (by omega:0<xs.length)] at h0;rw[e0,List.getElem?_eq_getElem (by omega:1<xs.length)] at h1;clear h hg hx
 match cs,hl' with
 | [q0,q1],_=>
   have j0:DataW.trod enc Tryz.prog w 0 (fun _=>true) true n 3 [q0]=some xs[0]:=h0;have j1:DataW.trod enc Tryz.prog w 0 (fun _=>true) true n 3 [q1]=some xs[1]:=h1;obtain⟨m0,r0,_,w0⟩:=DataW.trod_int Tryz.underlying3 j0;obtain⟨m1,r1,_,w1⟩:=DataW.trod_int Tryz.underlying3 j1;simp only[List.cons.injEq,and_true] at r0 r1;exact⟨m0,m1,by rw[r0,r1],w0,w1⟩
theorem Fb7{fuel:Nat}{cs:List Value}{x:DataW H×List MemPlace}(h:DataW.trod enc Tryz.prog w 0 (fun _=>true) true fuel 77 cs=some x):
 ∃(m0:Int) (a1:Option Addr) (n1:Nat) (c1:Nat) (l1:List UInt8),cs=[.int .i64 m0,.slice a1 n1 c1]∧(Lit.int .i64 m0).wf=true∧Af2 w a1 n1 c1 l1:=by
 obtain⟨xs,n,rfl,hx,hl,hxl,hg⟩:=DataW.trod_struct Tryz.underlying77 h;have h0:=hg 0 _ rfl;have h1:=hg 1 _ rfl;have hxl':xs.length=2:=hxl;rw[List.getElem?_eq_getElem (by omega:0<xs.length)] at h0;rw[List.getElem?_eq_getElem (by omega:1<xs.length)] at h1;have e0:Tryz.prog.cellsOf 3=1:=by kernel_rfl
 have e1:Tryz.prog.cellsOf 22=1:=by kernel_rfl
 have eN:Tryz.prog.cellsOf 77=2:=by kernel_rfl
 have hl':cs.length=2:=by rw[←eN];exact hl
 have k0:DataW.trod enc Tryz.prog w 0 (fun _=>true) true n 3 ((cs.drop 0).take (Tryz.prog.cellsOf 3))=some xs[0]:=h0;rw[e0] at k0;have k1:DataW.trod enc Tryz.prog w 0 (fun _=>true) true n 22 ((cs.drop 1).take (Tryz.prog.cellsOf 22))=some xs[1]:=h1;rw[e1] at k1;clear h hg hx h0 h1
 match cs,hl' with
 | [q0,q1],_=>
   have j0:DataW.trod enc Tryz.prog w 0 (fun _=>true) true n 3 [q0]=some xs[0]:=k0;obtain⟨m0,r0,_,w0⟩:=DataW.trod_int Tryz.underlying3 j0;simp only[List.cons.injEq,and_true] at r0;have j1:DataW.trod enc Tryz.prog w 0 (fun _=>true) true n 22 [q1]=some xs[1]:=k1;obtain⟨a1,n1,c1,rfl⟩:=Aq6 Tryz.underlying22 j1;obtain⟨l1,w1⟩:=Ak4 (enc:=enc) (w:=w) (a:=a1) (len:=n1) (cap:=c1) (d:=xs[1].1) (ps:=xs[1].2) Tryz.underlying22 Tryz.underlying5 (by kernel_rfl) ⟨n,j1⟩;exact⟨m0,a1,n1,c1,l1,by rw[r0],w0,w1⟩
theorem Eu0{fuel:Nat}{cs:List Value}{x:DataW H×List MemPlace}(h:DataW.trod enc Tryz.prog w 0 (fun _=>true) true fuel 103 cs=some x):
 ∃(m0:Int) (m0_1:Int) (m1_1:Int) (m2:Int) (a3:Option Addr) (n3:Nat) (c3:Nat) (l3:List UInt8),cs=[.int .i64 m0,.int .i64 m0_1,.int .i64 m1_1,.int .i64 m2,.slice a3 n3 c3]∧(Lit.int .i64 m0).wf=true∧(Lit.int .i64 m0_1).wf=true∧(Lit.int .i64 m1_1).wf=true∧(Lit.int .i64 m2).wf=true∧Af2 w a3 n3 c3 l3:=by
 obtain⟨xs,n,rfl,hx,hl,hxl,hg⟩:=DataW.trod_struct Tryz.underlying103 h;have h0:=hg 0 _ rfl;have h1:=hg 1 _ rfl;have h2:=hg 2 _ rfl;have h3:=hg 3 _ rfl;have hxl':xs.length=4:=hxl;rw[List.getElem?_eq_getElem (by omega:0<xs.length)] at h0;rw[List.getElem?_eq_getElem (by omega:1<xs.length)] at h1;rw[List.getElem?_eq_getElem (by omega:2<xs.length)] at h2;rw[List.getElem?_eq_getElem (by omega:3<xs.length)] at h3;have e0:Tryz.prog.cellsOf 3=1:=by kernel_rfl
 have e1:Tryz.prog.cellsOf 63=2:=by kernel_rfl
 have e2:Tryz.prog.cellsOf 22=1:=by kernel_rfl
 have eN:Tryz.prog.cellsOf 103=5:=by kernel_rfl
 have hl':cs.length=5:=by rw[←eN];exact hl
 have k0:DataW.trod enc Tryz.prog w 0 (fun _=>true) true n 3 ((cs.drop 0).take (Tryz.prog.cellsOf 3))=some xs[0]:=h0;rw[e0] at k0;have k1:DataW.trod enc Tryz.prog w 0 (fun _=>true) true n 63 ((cs.drop 1).take (Tryz.prog.cellsOf 63))=some xs[1]:=h1;rw[e1] at k1;have k2:DataW.trod enc Tryz.prog w 0 (fun _=>true) true n 3 ((cs.drop 3).take (Tryz.prog.cellsOf 3))=some xs[2]:=h2;rw[e0] at k2;have k3:DataW.trod enc Tryz.prog w 0 (fun _=>true) true n 22 ((cs.drop 4).take (Tryz.prog.cellsOf 22))=some xs[3]:=h3;rw[e2] at k3;clear h hg hx h0 h1 h2 h3
 match cs,hl' with
 | [q0,q1,q2,q3,q4],_=>
   have j0:DataW.trod enc Tryz.prog w 0 (fun _=>true) true n 3 [q0]=some xs[0]:=k0;obtain⟨m0,r0,_,w0⟩:=DataW.trod_int Tryz.underlying3 j0;simp only[List.cons.injEq,and_true] at r0;have j1:DataW.trod enc Tryz.prog w 0 (fun _=>true) true n 63 [q1,q2]=some xs[1]:=k1;obtain⟨m0_1,m1_1,r1,w1_0,w1_1⟩:=Et9 j1;simp only[List.cons.injEq,and_true] at r1;obtain⟨r1_0,r1_1⟩:=r1;have j2:DataW.trod enc Tryz.prog w 0 (fun _=>true) true n 3 [q3]=some xs[2]:=k2;obtain⟨m2,r2,_,w2⟩:=DataW.trod_int Tryz.underlying3 j2;simp only[List.cons.injEq,and_true] at r2;have j3:DataW.trod enc Tryz.prog w 0 (fun _=>true) true n 22 [q4]=some xs[3]:=k3;obtain⟨a3,n3,c3,rfl⟩:=Aq6 Tryz.underlying22 j3;obtain⟨l3,w3⟩:=Ak4 (enc:=enc) (w:=w) (a:=a3) (len:=n3) (cap:=c3) (d:=xs[3].1) (ps:=xs[3].2) Tryz.underlying22 Tryz.underlying5 (by kernel_rfl) ⟨n,j3⟩;exact⟨m0,m0_1,m1_1,m2,a3,n3,c3,l3,by rw[r0,r1_0,r1_1,r2],w0,w1_0,w1_1,w2,w3⟩
theorem Fh4{fuel:Nat}{cs:List Value}{x:DataW H×List MemPlace}(h:DataW.trod enc Tryz.prog w 0 (fun _=>true) true fuel 34 cs=some x):
 ∃(m0:Int) (m1:Int) (m2:Int) (m3:Int) (a4:Option Addr) (n4:Nat) (c4:Nat) (l4:List UInt8),cs=[.int .i64 m0,.int .i64 m1,.int .i64 m2,.int .i64 m3,.slice a4 n4 c4]∧(Lit.int .i64 m0).wf=true∧(Lit.int .i64 m1).wf=true∧(Lit.int .i64 m2).wf=true∧(Lit.int .i64 m3).wf=true∧Af2 w a4 n4 c4 l4:=by
 obtain⟨xs,n,rfl,hx,hl,hxl,hg⟩:=DataW.trod_struct Tryz.underlying34 h;have h0:=hg 0 _ rfl;have h1:=hg 1 _ rfl;have h2:=hg 2 _ rfl;have h3:=hg 3 _ rfl;have h4:=hg 4 _ rfl;have hxl':xs.length=5:=hxl;rw[List.getElem?_eq_getElem (by omega:0<xs.length)] at h0;rw[List.getElem?_eq_getElem (by omega:1<xs.length)] at h1;rw[List.getElem?_eq_getElem (by omega:2<xs.length)] at h2;rw[List.getElem?_eq_getElem (by omega:3<xs.length)] at h3;rw[List.getElem?_eq_getElem (by omega:4<xs.length)] at h4;have e0:Tryz.prog.cellsOf 3=1:=by kernel_rfl
 have e1:Tryz.prog.cellsOf 22=1:=by kernel_rfl
 have eN:Tryz.prog.cellsOf 34=5:=by kernel_rfl
 have hl':cs.length=5:=by rw[←eN];exact hl
 have k0:DataW.trod enc Tryz.prog w 0 (fun _=>true) true n 3 ((cs.drop 0).take (Tryz.prog.cellsOf 3))=some xs[0]:=h0;rw[e0] at k0;have k1:DataW.trod enc Tryz.prog w 0 (fun _=>true) true n 3 ((cs.drop 1).take (Tryz.prog.cellsOf 3))=some xs[1]:=h1;rw[e0] at k1;have k2:DataW.trod enc Tryz.prog w 0 (fun _=>true) true n 3 ((cs.drop 2).take (Tryz.prog.cellsOf 3))=some xs[2]:=h2;rw[e0] at k2;have k3:DataW.trod enc Tryz.prog w 0 (fun _=>true) true n 3 ((cs.drop 3).take (Tryz.prog.cellsOf 3))=some xs[3]:=h3;rw[e0] at k3;have k4:DataW.trod enc Tryz.prog w 0 (fun _=>true) true n 22 ((cs.drop 4).take (Tryz.prog.cellsOf 22))=some xs[4]:=h4;rw[e1] at k4;clear h hg hx h0 h1 h2 h3 h4
 match cs,hl' with
 | [q0,q1,q2,q3,q4],_=>
   have j0:DataW.trod enc Tryz.prog w 0 (fun _=>true) true n 3 [q0]=some xs[0]:=k0;obtain⟨m0,r0,_,w0⟩:=DataW.trod_int Tryz.underlying3 j0;simp only[List.cons.injEq,and_true] at r0;have j1:DataW.trod enc Tryz.prog w 0 (fun _=>true) true n 3 [q1]=some xs[1]:=k1;obtain⟨m1,r1,_,w1⟩:=DataW.trod_int Tryz.underlying3 j1;simp only[List.cons.injEq,and_true] at r1;have j2:DataW.trod enc Tryz.prog w 0 (fun _=>true) true n 3 [q2]=some xs[2]:=k2;obtain⟨m2,r2,_,w2⟩:=DataW.trod_int Tryz.underlying3 j2;simp only[List.cons.injEq,and_true] at r2;have j3:DataW.trod enc Tryz.prog w 0 (fun _=>true) true n 3 [q3]=some xs[3]:=k3;obtain⟨m3,r3,_,w3⟩:=DataW.trod_int Tryz.underlying3 j3;simp only[List.cons.injEq,and_true] at r3;have j4:DataW.trod enc Tryz.prog w 0 (fun _=>true) true n 22 [q4]=some xs[4]:=k4;obtain⟨a4,n4,c4,rfl⟩:=Aq6 Tryz.underlying22 j4;obtain⟨l4,w4⟩:=Ak4 (enc:=enc) (w:=w) (a:=a4) (len:=n4) (cap:=c4) (d:=xs[4].1) (ps:=xs[4].2) Tryz.underlying22 Tryz.underlying5 (by kernel_rfl) ⟨n,j4⟩;exact⟨m0,m1,m2,m3,a4,n4,c4,l4,by rw[r0,r1,r2,r3],w0,w1,w2,w3,w4⟩
theorem Eu1{fuel:Nat}{cs:List Value}{x:DataW H×List MemPlace}(h:DataW.trod enc Tryz.prog w 0 (fun _=>true) true fuel 153 cs=some x):
 ∃(a0:Option Addr) (n0:Nat) (c0:Nat) (l0:List UInt8) (a1:Option Addr) (n1:Nat) (c1:Nat) (l1:List UInt8),cs=[.slice a0 n0 c0,.slice a1 n1 c1]∧Af2 w a0 n0 c0 l0∧Af2 w a1 n1 c1 l1:=by
 obtain⟨xs,n,rfl,hx,hl,hxl,hg⟩:=DataW.trod_struct Tryz.underlying153 h;have h0:=hg 0 _ rfl;have h1:=hg 1 _ rfl;have hxl':xs.length=2:=hxl;rw[List.getElem?_eq_getElem (by omega:0<xs.length)] at h0;rw[List.getElem?_eq_getElem (by omega:1<xs.length)] at h1;have e0:Tryz.prog.cellsOf 22=1:=by kernel_rfl
 have eN:Tryz.prog.cellsOf 153=2:=by kernel_rfl
 have hl':cs.length=2:=by rw[←eN];exact hl
 have k0:DataW.trod enc Tryz.prog w 0 (fun _=>true) true n 22 ((cs.drop 0).take (Tryz.prog.cellsOf 22))=some xs[0]:=h0;rw[e0] at k0;have k1:DataW.trod enc Tryz.prog w 0 (fun _=>true) true n 22 ((cs.drop 1).take (Tryz.prog.cellsOf 22))=some xs[1]:=h1;rw[e0] at k1;clear h hg hx h0 h1
 match cs,hl' with
 | [q0,q1],_=>
   have j0:DataW.trod enc Tryz.prog w 0 (fun _=>true) true n 22 [q0]=some xs[0]:=k0;obtain⟨a0,n0,c0,rfl⟩:=Aq6 Tryz.underlying22 j0;obtain⟨l0,w0⟩:=Ak4 (enc:=enc) (w:=w) (a:=a0) (len:=n0) (cap:=c0) (d:=xs[0].1) (ps:=xs[0].2) Tryz.underlying22 Tryz.underlying5 (by kernel_rfl) ⟨n,j0⟩;have j1:DataW.trod enc Tryz.prog w 0 (fun _=>true) true n 22 [q1]=some xs[1]:=k1;obtain⟨a1,n1,c1,rfl⟩:=Aq6 Tryz.underlying22 j1;obtain⟨l1,w1⟩:=Ak4 (enc:=enc) (w:=w) (a:=a1) (len:=n1) (cap:=c1) (d:=xs[1].1) (ps:=xs[1].2) Tryz.underlying22 Tryz.underlying5 (by kernel_rfl) ⟨n,j1⟩;exact⟨a0,n0,c0,l0,a1,n1,c1,l1,rfl,w0,w1⟩
theorem Eu2{fuel:Nat}{cs:List Value}{x:DataW H×List MemPlace}(h:DataW.trod enc Tryz.prog w 0 (fun _=>true) true fuel 24 cs=some x):
 ∃(a0:Option Addr) (n0:Nat) (c0:Nat) (l0:List UInt8) (a1:Option Addr) (n1:Nat) (c1:Nat) (l1:List UInt8),cs=[.slice a0 n0 c0,.slice a1 n1 c1]∧Af2 w a0 n0 c0 l0∧Af2 w a1 n1 c1 l1:=by
 obtain⟨xs,n,rfl,hx,hl,hxl,hg⟩:=DataW.trod_struct Tryz.underlying24 h;have h0:=hg 0 _ rfl;have h1:=hg 1 _ rfl;have hxl':xs.length=2:=hxl;rw[List.getElem?_eq_getElem (by omega:0<xs.length)] at h0;rw[List.getElem?_eq_getElem (by omega:1<xs.length)] at h1;have e0:Tryz.prog.cellsOf 22=1:=by kernel_rfl
 have eN:Tryz.prog.cellsOf 24=2:=by kernel_rfl
 have hl':cs.length=2:=by rw[←eN];exact hl
 have k0:DataW.trod enc Tryz.prog w 0 (fun _=>true) true n 22 ((cs.drop 0).take (Tryz.prog.cellsOf 22))=some xs[0]:=h0;rw[e0] at k0;have k1:DataW.trod enc Tryz.prog w 0 (fun _=>true) true n 22 ((cs.drop 1).take (Tryz.prog.cellsOf 22))=some xs[1]:=h1;rw[e0] at k1;clear h hg hx h0 h1
 match cs,hl' with
 | [q0,q1],_=>
   have j0:DataW.trod enc Tryz.prog w 0 (fun _=>true) true n 22 [q0]=some xs[0]:=k0;obtain⟨a0,n0,c0,rfl⟩:=Aq6 Tryz.underlying22 j0;obtain⟨l0,w0⟩:=Ak4 (enc:=enc) (w:=w) (a:=a0) (len:=n0) (cap:=c0) (d:=xs[0].1) (ps:=xs[0].2) Tryz.underlying22 Tryz.underlying5 (by kernel_rfl) ⟨n,j0⟩;have j1:DataW.trod enc Tryz.prog w 0 (fun _=>true) true n 22 [q1]=some xs[1]:=k1;obtain⟨a1,n1,c1,rfl⟩:=Aq6 Tryz.underlying22 j1;obtain⟨l1,w1⟩:=Ak4 (enc:=enc) (w:=w) (a:=a1) (len:=n1) (cap:=c1) (d:=xs[1].1) (ps:=xs[1].2) Tryz.underlying22 Tryz.underlying5 (by kernel_rfl) ⟨n,j1⟩;exact⟨a0,n0,c0,l0,a1,n1,c1,l1,rfl,w0,w1⟩
theorem Cv2{fuel:Nat}{cs:List Value}{x:DataW H×List MemPlace}(h:DataW.trod enc Tryz.prog w 0 (fun _=>true) true fuel 30 cs=some x):
 ∃(g:G) (l:List UInt8),cs=[.int .i64 g.no,.slice g.a g.len g.cap]∧Af2 w g.a g.len g.cap l∧(Lit.int .i64 g.no).wf=true:=by
 obtain⟨xs,n,rfl,hx,hl,hxl,hg⟩:=DataW.trod_struct Tryz.underlying30 h;have h0:=hg 0 _ rfl;have h1:=hg 1 _ rfl;have hxl':xs.length=2:=hxl;rw[List.getElem?_eq_getElem (by omega:0<xs.length)] at h0;rw[List.getElem?_eq_getElem (by omega:1<xs.length)] at h1;have e0:Tryz.prog.cellsOf 3=1:=by kernel_rfl
 have e1:Tryz.prog.cellsOf 22=1:=by kernel_rfl
 have e2:Tryz.prog.cellsOf 30=2:=by kernel_rfl
 have hl':cs.length=2:=by rw[←e2];exact hl
 obtain⟨m,hm,_,hw⟩:=DataW.trod_int Tryz.underlying3 h0;have hm1:(cs.drop 0).take (Tryz.prog.cellsOf 3)=[Value.int .i64 m]:=hm;have h1':DataW.trod enc Tryz.prog w 0 (fun _=>true) true n 22 ((cs.drop 1).take (Tryz.prog.cellsOf 22))=some xs[1]:=h1;rw[e0] at hm1;rw[e1] at h1'
 match cs,hl' with
 | [c0,c1],_=>
   have hm':c0=Value.int .i64 m:=by have:[c0]=[Value.int .i64 m]:=hm1;simpa using this
   have h3:DataW.trod enc Tryz.prog w 0 (fun _=>true) true n 22 [c1]=some xs[1]:=h1';obtain⟨a,len,cap,hc⟩:∃a len cap,c1=.slice a len cap:=by
    rcases Go.Deep.open_slice Tryz.underlying22 h3 with⟨h4,_⟩ | ⟨a,len,cap,_,_,_,_,h4,_⟩
    ·exact⟨_,_,_,by simpa using h4⟩
    ·exact⟨_,_,_,by simpa using h4⟩
   subst hc;obtain⟨l,hin⟩:=Ak4 (enc:=enc) (w:=w) (a:=a) (len:=len) (cap:=cap) (d:=xs[1].1) (ps:=xs[1].2) Tryz.underlying22 Tryz.underlying5 (by kernel_rfl) ⟨n,h3⟩;exact⟨⟨m,a,len,cap⟩,l,by rw[hm'],hin,hw⟩
def Fh5(w:World)(r:Rg):Prop:=∃kc ko kp,Af2 w r.c.a r.c.len r.c.cap kc∧Af2 w r.o.a r.o.len r.o.cap ko∧Af2 w r.p.a r.p.len r.p.cap kp∧
 (Lit.int .i64 r.c.no).wf=true∧(Lit.int .i64 r.o.no).wf=true∧(Lit.int .i64 r.p.no).wf=true∧(Lit.int .i64 r.l).wf=true∧(Lit.int .i64 r.t).wf=true
theorem Fb8{fuel:Nat}{cs:List Value}{x:DataW H×List MemPlace}(h:DataW.trod enc Tryz.prog w 0 (fun _=>true) true fuel 32 cs=some x):
 ∃r:Rg,cs=r.L∧Fh5 w r:=by
 obtain⟨xs,n,rfl,hx,hl,hxl,hg⟩:=DataW.trod_struct Tryz.underlying32 h;have h0:=hg 0 _ rfl;have h1:=hg 1 _ rfl;have h2:=hg 2 _ rfl;have h3:=hg 3 _ rfl;have h4:=hg 4 _ rfl;have hxl':xs.length=5:=hxl;rw[List.getElem?_eq_getElem (by omega:0<xs.length)] at h0;rw[List.getElem?_eq_getElem (by omega:1<xs.length)] at h1;rw[List.getElem?_eq_getElem (by omega:2<xs.length)] at h2;rw[List.getElem?_eq_getElem (by omega:3<xs.length)] at h3;rw[List.getElem?_eq_getElem (by omega:4<xs.length)] at h4;have e0:Tryz.prog.cellsOf 3=1:=by kernel_rfl
 have e2:Tryz.prog.cellsOf 30=2:=by kernel_rfl
 have e8:Tryz.prog.cellsOf 32=8:=by kernel_rfl
 have hl':cs.length=8:=by rw[←e8];exact hl
 have k0:DataW.trod enc Tryz.prog w 0 (fun _=>true) true n 30 ((cs.drop 0).take (Tryz.prog.cellsOf 30))=some xs[0]:=h0;have k1:DataW.trod enc Tryz.prog w 0 (fun _=>true) true n 30 ((cs.drop 2).take (Tryz.prog.cellsOf 30))=some xs[1]:=h1;have k2:DataW.trod enc Tryz.prog w 0 (fun _=>true) true n 30 ((cs.drop 4).take (Tryz.prog.cellsOf 30))=some xs[2]:=h2;have k3:DataW.trod enc Tryz.prog w 0 (fun _=>true) true n 3 ((cs.drop 6).take (Tryz.prog.cellsOf 3))=some xs[3]:=h3;have k4:DataW.trod enc Tryz.prog w 0 (fun _=>true) true n 3 ((cs.drop 7).take (Tryz.prog.cellsOf 3))=some xs[4]:=h4;rw[e2] at k0 k1 k2;rw[e0] at k3 k4
 match cs,hl' with
 | [c0,c1,c2,c3,c4,c5,c6,c7],_=>
   obtain⟨g0,l0,q0,i0,w0⟩:=Cv2 (show DataW.trod enc Tryz.prog w 0 (fun _=>true) true n 30 [c0,c1]=some xs[0] from k0);obtain⟨g1,l1,q1,i1,w1⟩:=Cv2 (show DataW.trod enc Tryz.prog w 0 (fun _=>true) true n 30 [c2,c3]=some xs[1] from k1);obtain⟨g2,l2,q2,i2,w2⟩:=Cv2 (show DataW.trod enc Tryz.prog w 0 (fun _=>true) true n 30 [c4,c5]=some xs[2] from k2);obtain⟨m3,q3,_,w3⟩:=DataW.trod_int Tryz.underlying3 (show DataW.trod enc Tryz.prog w 0 (fun _=>true) true n 3 [c6]=some xs[3] from k3);obtain⟨m4,q4,_,w4⟩:=DataW.trod_int Tryz.underlying3 (show DataW.trod enc Tryz.prog w 0 (fun _=>true) true n 3 [c7]=some xs[4] from k4);simp only[List.cons.injEq,and_true] at q0 q1 q2 q3 q4;exact⟨⟨g0,g1,g2,m3,m4⟩,by rw[q0.1,q0.2,q1.1,q1.2,q2.1,q2.2,q3,q4],l0,l1,l2,i0,i1,i2,w0,w1,w2,w3,w4⟩
theorem Fb9{fuel:Nat}{cs:List Value}{x:DataW H×List MemPlace}(h:DataW.trod enc Tryz.prog w 0 (fun _=>true) true fuel 38 cs=some x):
 ∃(a:Option Addr) (len cap:Nat) (skip bad:Int) (l:List UInt8),cs=[.slice a len cap,.int .i64 skip,.int .i64 bad]∧Af2 w a len cap l∧(Lit.int .i64 skip).wf=true∧(Lit.int .i64 bad).wf=true:=by
 obtain⟨xs,n,rfl,hx,hl,hxl,hg⟩:=DataW.trod_struct Tryz.underlying38 h;have h0:=hg 0 _ rfl;have h1:=hg 1 _ rfl;have h2:=hg 2 _ rfl;have hxl':xs.length=3:=hxl;rw[List.getElem?_eq_getElem (by omega:0<xs.length)] at h0;rw[List.getElem?_eq_getElem (by omega:1<xs.length)] at h1;rw[List.getElem?_eq_getElem (by omega:2<xs.length)] at h2;have e0:Tryz.prog.cellsOf 3=1:=by kernel_rfl
 have e1:Tryz.prog.cellsOf 22=1:=by kernel_rfl
 have e2:Tryz.prog.cellsOf 38=3:=by kernel_rfl
 have hl':cs.length=3:=by rw[←e2];exact hl
 have k0:DataW.trod enc Tryz.prog w 0 (fun _=>true) true n 22 ((cs.drop 0).take (Tryz.prog.cellsOf 22))=some xs[0]:=h0;have k1:DataW.trod enc Tryz.prog w 0 (fun _=>true) true n 3 ((cs.drop 1).take (Tryz.prog.cellsOf 3))=some xs[1]:=h1;have k2:DataW.trod enc Tryz.prog w 0 (fun _=>true) true n 3 ((cs.drop 2).take (Tryz.prog.cellsOf 3))=some xs[2]:=h2;rw[e1] at k0;rw[e0] at k1 k2
 match cs,hl' with
 | [c0,c1,c2],_=>
   obtain⟨m1,q1,_,w1⟩:=DataW.trod_int Tryz.underlying3 (show DataW.trod enc Tryz.prog w 0 (fun _=>true) true n 3 [c1]=some xs[1] from k1);obtain⟨m2,q2,_,w2⟩:=DataW.trod_int Tryz.underlying3 (show DataW.trod enc Tryz.prog w 0 (fun _=>true) true n 3 [c2]=some xs[2] from k2);have h3:DataW.trod enc Tryz.prog w 0 (fun _=>true) true n 22 [c0]=some xs[0]:=k0;obtain⟨a,len,cap,hc⟩:∃a len cap,c0=.slice a len cap:=by
    rcases Go.Deep.open_slice Tryz.underlying22 h3 with⟨h4,_⟩ | ⟨a,len,cap,_,_,_,_,h4,_⟩
    ·exact⟨_,_,_,by simpa using h4⟩
    ·exact⟨_,_,_,by simpa using h4⟩
   subst hc;obtain⟨l,hin⟩:=Ak4 (enc:=enc) (w:=w) (a:=a) (len:=len) (cap:=cap) (d:=xs[0].1) (ps:=xs[0].2) Tryz.underlying22 Tryz.underlying5 (by kernel_rfl) ⟨n,h3⟩;simp only[List.cons.injEq,and_true] at q1 q2;exact⟨a,len,cap,m1,m2,l,by rw[q1,q2],hin,w1,w2⟩
theorem Eu3{fuel:Nat}{c0 c1 c2 c3:Value}{x:DataW H×List MemPlace}(h:DataW.trod enc Tryz.prog w 0 (fun _=>true) true fuel 36 [c0,c1,c2,c3]=some x):∃u0 u1 u2 u3:Bool,c0=.bool u0∧c1=.bool u1∧c2=.bool u2∧c3=.bool u3:=by
 obtain⟨xs,m,rfl,hx,hl,hxl,hg⟩:=DataW.trod_array Tryz.underlying36 h;have e1:Tryz.prog.cellsOf 4=1:=by kernel_rfl
 have key:∀i,i<4→∃u:Bool,(([c0,c1,c2,c3]:List Value).drop i).take 1=[.bool u]:=fun i hi=>by
  have h1:=hg i hi;rw[e1,Nat.mul_one,List.getElem?_eq_getElem (by omega:i<xs.length)] at h1;obtain⟨u,h2,_⟩:=DataW.trod_bool Tryz.underlying4 h1;exact⟨u,h2⟩
 obtain⟨u0,k0⟩:=key 0 (by decide);obtain⟨u1,k1⟩:=key 1 (by decide);obtain⟨u2,k2⟩:=key 2 (by decide);obtain⟨u3,k3⟩:=key 3 (by decide);simp at k0 k1 k2 k3;exact⟨u0,u1,u2,u3,k0,k1,k2,k3⟩
theorem Db3{fuel:Nat}{c0 c1 c2 c3:Value}{x:DataW H×List MemPlace}(h:DataW.trod enc Tryz.prog w 0 (fun _=>true) true fuel 40 [c0,c1,c2,c3]=some x):∃u0 u1 u2 u3:Int,c0=.int .i64 u0∧c1=.int .i64 u1∧c2=.int .i64 u2∧c3=.int .i64 u3:=by
 obtain⟨xs,m,rfl,hx,hl,hxl,hg⟩:=DataW.trod_array Tryz.underlying40 h;have e1:Tryz.prog.cellsOf 3=1:=by kernel_rfl
 have key:∀i,i<4→∃u:Int,(([c0,c1,c2,c3]:List Value).drop i).take 1=[.int .i64 u]:=fun i hi=>by
  have h1:=hg i hi;rw[e1,Nat.mul_one,List.getElem?_eq_getElem (by omega:i<xs.length)] at h1;obtain⟨u,h2,_,_⟩:=DataW.trod_int Tryz.underlying3 h1;exact⟨u,h2⟩
 obtain⟨u0,k0⟩:=key 0 (by decide);obtain⟨u1,k1⟩:=key 1 (by decide);obtain⟨u2,k2⟩:=key 2 (by decide);obtain⟨u3,k3⟩:=key 3 (by decide);simp at k0 k1 k2 k3;exact⟨u0,u1,u2,u3,k0,k1,k2,k3⟩
theorem Eu4{fuel:Nat}{c0 c1 c2 c3 c4 c5 c6 c7 c8 c9 c10 c11:Value}{x:DataW H×List MemPlace}(h:DataW.trod enc Tryz.prog w 0 (fun _=>true) true fuel 39 [c0,c1,c2,c3,c4,c5,c6,c7,c8,c9,c10,c11]=some x):
 ∃(f0 f1 f2 f3:Fv) (s0 s1 s2 s3:Fd),[c0,c1,c2]=f0.L∧[c3,c4,c5]=f1.L∧[c6,c7,c8]=f2.L∧[c9,c10,c11]=f3.L∧Ae2 w f0 s0∧Ae2 w f1 s1∧Ae2 w f2 s2∧Ae2 w f3 s3:=by
 obtain⟨xs,m,rfl,hx,hl,hxl,hg⟩:=DataW.trod_array Tryz.underlying39 h;have e1:Tryz.prog.cellsOf 38=3:=by kernel_rfl
 have key:∀i,i<4→∃(f:Fv) (s:Fd),(([c0,c1,c2,c3,c4,c5,c6,c7,c8,c9,c10,c11]:List Value).drop (i*3)).take 3=f.L∧Ae2 w f s:=fun i hi=>by
  have h1:=hg i hi;rw[e1,List.getElem?_eq_getElem (by omega:i<xs.length)] at h1;obtain⟨a,len,cap,sk,bd,l,h2,h3,_,_⟩:=Fb9 h1;exact⟨⟨a,len,cap,sk,bd⟩,⟨l,sk,bd⟩,h2,⟨h3.1,h3.2.1,h3.2.2.1,h3.2.2.2,rfl,rfl⟩⟩
 obtain⟨f0,s0,k0,g0⟩:=key 0 (by decide);obtain⟨f1,s1,k1,g1⟩:=key 1 (by decide);obtain⟨f2,s2,k2,g2⟩:=key 2 (by decide);obtain⟨f3,s3,k3,g3⟩:=key 3 (by decide);exact⟨f0,f1,f2,f3,s0,s1,s2,s3,k0,k1,k2,k3,g0,g1,g2,g3⟩
theorem Fh6{fuel:Nat}{cs:List Value}{x:DataW H×List MemPlace}(h:DataW.trod enc Tryz.prog w 0 (fun _=>true) true fuel 42 cs=some x):∃(hv:Hv) (s:Nat→Fd),cs=hv.L∧Aq0 w hv s:=by
 obtain⟨xs,n,rfl,hx,hl,hxl,hg⟩:=DataW.trod_struct Tryz.underlying42 h;have hxl':xs.length=4:=hxl;have h0:=hg 0 _ rfl;have h1:=hg 1 _ rfl;have h2:=hg 2 _ rfl;have h3:=hg 3 _ rfl;rw[List.getElem?_eq_getElem (by omega:0<xs.length)] at h0;rw[List.getElem?_eq_getElem (by omega:1<xs.length)] at h1;rw[List.getElem?_eq_getElem (by omega:2<xs.length)] at h2;rw[List.getElem?_eq_getElem (by omega:3<xs.length)] at h3;have e0:Tryz.prog.cellsOf 3=1:=by kernel_rfl
 have e1:Tryz.prog.cellsOf 36=4:=by kernel_rfl
 have e2:Tryz.prog.cellsOf 39=12:=by kernel_rfl
 have e3:Tryz.prog.cellsOf 40=4:=by kernel_rfl
 have e8:Tryz.prog.cellsOf 42=21:=by kernel_rfl
 have hl':cs.length=21:=by rw[←e8];exact hl
 have k0:DataW.trod enc Tryz.prog w 0 (fun _=>true) true n 36 ((cs.drop 0).take (Tryz.prog.cellsOf 36))=some xs[0]:=h0;have k1:DataW.trod enc Tryz.prog w 0 (fun _=>true) true n 39 ((cs.drop 4).take (Tryz.prog.cellsOf 39))=some xs[1]:=h1;have k2:DataW.trod enc Tryz.prog w 0 (fun _=>true) true n 40 ((cs.drop 16).take (Tryz.prog.cellsOf 40))=some xs[2]:=h2;have k3:DataW.trod enc Tryz.prog w 0 (fun _=>true) true n 3 ((cs.drop 20).take (Tryz.prog.cellsOf 3))=some xs[3]:=h3;rw[e1] at k0;rw[e2] at k1;rw[e3] at k2;rw[e0] at k3
 match cs,hl' with
 | [c0,c1,c2,c3,c4,c5,c6,c7,c8,c9,c10,c11,c12,c13,c14,c15,c16,c17,c18,c19,c20],_=>
   obtain⟨u0,u1,u2,u3,rfl,rfl,rfl,rfl⟩:=Eu3 (show DataW.trod enc Tryz.prog w 0 (fun _=>true) true n 36 [c0,c1,c2,c3]=some xs[0] from k0);obtain⟨f0,f1,f2,f3,s0,s1,s2,s3,q0,q1,q2,q3,g0,g1,g2,g3⟩:=Eu4 (show DataW.trod enc Tryz.prog w 0 (fun _=>true) true n 39 [c4,c5,c6,c7,c8,c9,c10,c11,c12,c13,c14,c15]=some xs[1] from k1);obtain⟨l0,l1,l2,l3,rfl,rfl,rfl,rfl⟩:=Db3 (show DataW.trod enc Tryz.prog w 0 (fun _=>true) true n 40 [c16,c17,c18,c19]=some xs[2] from k2);obtain⟨nx,q4,_,_⟩:=DataW.trod_int Tryz.underlying3 (show DataW.trod enc Tryz.prog w 0 (fun _=>true) true n 3 [c20]=some xs[3] from k3);simp only[Fv.L,List.cons.injEq,and_true] at q0 q1 q2 q3 q4;obtain⟨rfl,rfl,rfl⟩:=q0;obtain⟨rfl,rfl,rfl⟩:=q1;obtain⟨rfl,rfl,rfl⟩:=q2;obtain⟨rfl,rfl,rfl⟩:=q3;subst q4;refine⟨⟨fun i=>match i with | 0=>u0 | 1=>u1 | 2=>u2 | _=>u3,fun i=>match i with | 0=>f0 | 1=>f1 | 2=>f2 | _=>f3,fun i=>match i with | 0=>l0 | 1=>l1 | 2=>l2 | _=>l3,nx⟩,fun i=>match i with | 0=>s0 | 1=>s1 | 2=>s2 | _=>s3,rfl,fun i hi=>?_⟩;rcases(show i=0∨i=1∨i=2∨i=3 by omega) with rfl | rfl | rfl | rfl
   ·exact g0
   ·exact g1
   ·exact g2
   ·exact g3
theorem Fh7{fuel:Nat}{cs:List Value}{x:DataW H×List MemPlace}(h:DataW.trod enc Tryz.prog w 0 (fun _=>true) true fuel 40 cs=some x):∃c0 c1 c2 c3:Int,cs=[.int .i64 c0,.int .i64 c1,.int .i64 c2,.int .i64 c3]:=by
 obtain⟨xs,n,rfl,hx,hl,hxl,hg⟩:=DataW.trod_array Tryz.underlying40 h;have e0:Tryz.prog.cellsOf 3=1:=by kernel_rfl
 have eN:Tryz.prog.cellsOf 40=4:=by kernel_rfl
 have hl':cs.length=4:=by rw[←eN];exact hl
 match cs,hl' with
 | [q0,q1,q2,q3],_=>
   obtain⟨u0,u1,u2,u3,rfl,rfl,rfl,rfl⟩:=Db3 h;exact⟨u0,u1,u2,u3,rfl⟩
theorem Fc0{fuel:Nat}{cs:List Value}{x:DataW H×List MemPlace}(h:DataW.trod enc Tryz.prog w 0 (fun _=>true) true fuel 26 cs=some x):∃b:Nat→UInt64,cs=(List.range 16).map fun i=>.int .u64 (qv (b i)):=by
 obtain⟨xs,n,rfl,hx,hl,hxl,hg⟩:=DataW.trod_array Tryz.underlying26 h;have e0:Tryz.prog.cellsOf 25=1:=by kernel_rfl
 have eN:Tryz.prog.cellsOf 26=16:=by kernel_rfl
 have hl':cs.length=16:=by rw[←eN];exact hl
 have key:∀i,i<16→∃u:UInt64,(cs.drop i).take 1=[.int .u64 (qv u)]:=fun i hi=>by
  have h1:=hg i hi;rw[e0,Nat.mul_one,List.getElem?_eq_getElem (by omega:i<xs.length)] at h1;obtain⟨m,h2,_,h3⟩:=DataW.trod_int Tryz.underlying25 h1;obtain⟨u,rfl⟩:=Dx3 h3;exact⟨u,h2⟩
 obtain⟨b,hb⟩:=Go.Deep.choose_lt (α:=UInt64) key;refine⟨b,List.ext_getElem (by rw[hl'];simp) fun k h1 h2=>?_⟩;have hk:=hb k (by omega);have e:=Al0 (o:=k) (k:=0) hk (by decide);simp only[Nat.add_zero,List.getD_eq_getElem?_getD,List.getElem?_eq_getElem h1,Option.getD_some] at e;rw[e];simp
theorem U3{cs S T:List Value}{o n m:Nat}(h:(cs.drop o).take n=S)(hm:m=o+n)(h2:cs.drop m=T):cs.drop o=S++T:=by
 subst hm;rw[←h2,←h,←List.drop_drop,List.take_append_drop]
theorem Eu5{a:Option Addr}{len cap:Nat}{d:DataW H}{ps:List MemPlace}(h:DataW.Trod enc Tryz.prog w 0 (fun _=>true) true 43 (.slice a len cap) d ps):
 ∃l:List (Int×List UInt8),l.length=len∧len≤cap∧cap≤maxLen∧Ad6 w a l:=by
 obtain⟨l,h1,h2,h3,vs,h4,h5,h6⟩:=Bo9 (α:=Int×List UInt8) (n:=2) (fun p cs=>∃v,cs=[.int .i64 p.1,v]∧V9 w v p.2) Tryz.underlying43 (by kernel_rfl) (by decide)
  (fun fuel cs x h=>by
    obtain⟨m0,a1,n1,c1,l1,rfl,-,u⟩:=Fb7 h;exact⟨(m0,l1),_,rfl,.ofIn u⟩) h
 refine⟨l,h1,h2,h3,vs,by rw[h4,h1],h5,fun i hi=>?_⟩;obtain⟨v,h7,h8⟩:=h6 i (by omega);have e:l.getD i default=l.getD i (0,[]):=by simp[List.getD,hi]
 rw[e] at h7 h8;have g0:=Al0 (k:=0) h7 (by decide);have g1:=Al0 (k:=1) h7 (by decide);exact⟨g0,by rw[g1];exact h8⟩
theorem Fc1{a:Option Addr}{len cap:Nat}{d:DataW H}{ps:List MemPlace}(h:DataW.Trod enc Tryz.prog w 0 (fun _=>true) true 44 (.slice a len cap) d ps):
 ∃l:List Gt,l.length=len∧len≤cap∧cap≤maxLen∧Aj2 w a l:=by
 obtain⟨l,h1,h2,h3,vs,h4,h5,h6⟩:=Bo9 (α:=Gt) (n:=5) (fun p cs=>∃v,cs=[.int .i64 p.kind,.int .i64 p.e0,.int .i64 p.e1,.int .i64 p.seq,v]∧V9 w v p.b) Tryz.underlying44 (by kernel_rfl) (by decide)
  (fun fuel cs x h=>by
    obtain⟨m0,m1,m2,m3,a1,n1,c1,l1,rfl,-,-,-,-,u⟩:=Eu0 h;exact⟨⟨m0,m1,m2,m3,l1⟩,_,rfl,.ofIn u⟩) h
 refine⟨l,h1,h2,h3,vs,by rw[h4,h1],h5,fun i hi=>?_⟩;obtain⟨v,h7,h8⟩:=h6 i (by omega);have g0:=Al0 (k:=0) h7 (by decide);have g1:=Al0 (k:=1) h7 (by decide);have g2:=Al0 (k:=2) h7 (by decide);have g3:=Al0 (k:=3) h7 (by decide);have g4:=Al0 (k:=4) h7 (by decide);exact⟨g0,g1,g2,g3,by rw[g4];exact h8⟩
theorem Eu6{a:Option Addr}{len cap:Nat}{d:DataW H}{ps:List MemPlace}(h:DataW.Trod enc Tryz.prog w 0 (fun _=>true) true 47 (.slice a len cap) d ps):
 ∃l:List Ent,l.length=len∧len≤cap∧cap≤maxLen∧X7 w a l:=by
 obtain⟨l,h1,h2,h3,vs,h4,h5,h6⟩:=Bo9 (α:=Ent) (n:=2) (fun p cs=>∃v v',cs=[v,v']∧V9 w v p.1∧V9 w v' p.2) Tryz.underlying47 (by kernel_rfl) (by decide)
  (fun fuel cs x h=>by
    obtain⟨a0,n0,c0,l0,a1,n1,c1,l1,rfl,u0,u1⟩:=Eu1 h;exact⟨(l0,l1),_,_,rfl,.ofIn u0,.ofIn u1⟩) h
 refine⟨l,h1,h2,h3,vs,by rw[h4,h1],h5,fun i hi=>?_⟩;obtain⟨v,v',h7,h8,h9⟩:=h6 i (by omega);have e:l.getD i default=l.getD i ([],[]):=by simp[List.getD,hi]
 rw[e] at h8 h9;have g0:=Al0 (k:=0) h7 (by decide);have g1:=Al0 (k:=1) h7 (by decide);exact⟨by rw[show vs.getD (i*2) undef=v from g0];exact h8,by rw[g1];exact h9⟩
theorem Ej9{a:Option Addr}{len cap:Nat}{d:DataW H}{ps:List MemPlace}(h:DataW.Trod enc Tryz.prog w 0 (fun _=>true) true 35 (.slice a len cap) d ps):
 ∃l:List (List UInt8),l.length=len∧len≤cap∧cap≤maxLen∧W6 w a l:=by
 obtain⟨l,h1,h2,h3,vs,h4,h5,h6⟩:=Bo9 (α:=List UInt8) (n:=1) (fun p cs=>∃v,cs=[v]∧V9 w v p) Tryz.underlying35 (by kernel_rfl) (by decide)
  (fun fuel cs x h=>by
    obtain⟨a0,n0,c0,l0,rfl,u⟩:=Db2 h;exact⟨l0,_,rfl,.ofIn u⟩) h
 refine⟨l,h1,h2,h3,vs,h5,by rw[h4,h1,Nat.mul_one],fun i hi=>?_⟩;obtain⟨v,h7,h8⟩:=h6 i (by omega);have g0:=Al0 (k:=0) h7 (by decide);rw[Nat.mul_one] at g0;have e:l.getD i default=l.getD i []:=by simp[List.getD,hi]
 rw[e] at h8;rw[show vs.getD i undef=v from g0];exact h8
theorem Fh8{fuel:Nat}{cs:List Value}{x:DataW H×List MemPlace}(h:DataW.trod enc Tryz.prog w 0 (fun _=>true) true fuel 28 cs=some x):∃t b,cs=D5 t b∧(Lit.int .i64 t).wf=true:=by
 obtain⟨xs,n,rfl,hx,hl,hxl,hg⟩:=DataW.trod_struct Tryz.underlying28 h;have hxl':xs.length=2:=hxl;have e_16uint64:Tryz.prog.cellsOf 26=16:=by kernel_rfl
 have e_int:Tryz.prog.cellsOf 3=1:=by kernel_rfl
 have eN:Tryz.prog.cellsOf 28=17:=by kernel_rfl
 have hl':cs.length=17:=by rw[←eN];exact hl
 have k0:DataW.trod enc Tryz.prog w 0 (fun _=>true) true n 3 ((cs.drop 0).take (Tryz.prog.cellsOf 3))=some (xs[0]'(by omega)):=by
  have:=hg 0 _ rfl;rw[List.getElem?_eq_getElem (by omega:0<xs.length)] at this;exact this
 rw[e_int] at k0;have k1:DataW.trod enc Tryz.prog w 0 (fun _=>true) true n 26 ((cs.drop 1).take (Tryz.prog.cellsOf 26))=some (xs[1]'(by omega)):=by
  have:=hg 1 _ rfl;rw[List.getElem?_eq_getElem (by omega:1<xs.length)] at this;exact this
 rw[e_16uint64] at k1;obtain⟨t,s0,-,wt⟩:=DataW.trod_int Tryz.underlying3 k0;obtain⟨b,s1⟩:=Fc0 k1;have e:cs.drop 0=[.int .i64 t]++(((List.range 16).map fun i=>.int .u64 (qv (b i)))++[]):=U3 (m:=1) s0 rfl (U3 (m:=17) s1 rfl (by rw[List.drop_eq_nil_iff];omega));exact⟨t,b,e.trans (by rw[List.append_nil];rfl),wt⟩
theorem Fh9{fuel:Nat}{cs:List Value}{x:DataW H×List MemPlace}(h:DataW.trod enc Tryz.prog w 0 (fun _=>true) true fuel 46 cs=some x):∃e:Ev,cs=A8 e∧Ae4 w e:=by
 obtain⟨xs,n,rfl,hx,hl,hxl,hg⟩:=DataW.trod_struct Tryz.underlying46 h;have hxl':xs.length=19:=hxl;have e_4int:Tryz.prog.cellsOf 40=4:=by kernel_rfl
 have e_LLuint8:Tryz.prog.cellsOf 35=1:=by kernel_rfl
 have e_LapiEvent:Tryz.prog.cellsOf 44=1:=by kernel_rfl
 have e_LapiSent:Tryz.prog.cellsOf 43=1:=by kernel_rfl
 have e_Luint8:Tryz.prog.cellsOf 22=1:=by kernel_rfl
 have e_int:Tryz.prog.cellsOf 3=1:=by kernel_rfl
 have e_yettapiAsk:Tryz.prog.cellsOf 34=5:=by kernel_rfl
 have e_yettapiHub:Tryz.prog.cellsOf 42=21:=by kernel_rfl
 have e_yettapiRing:Tryz.prog.cellsOf 32=8:=by kernel_rfl
 have e_yettapiStore:Tryz.prog.cellsOf 24=2:=by kernel_rfl
 have e_yettapiWin:Tryz.prog.cellsOf 28=17:=by kernel_rfl
 have eN:Tryz.prog.cellsOf 46=70:=by kernel_rfl
 have hl':cs.length=70:=by rw[←eN];exact hl
 have k0:DataW.trod enc Tryz.prog w 0 (fun _=>true) true n 3 ((cs.drop 0).take (Tryz.prog.cellsOf 3))=some (xs[0]'(by omega)):=by
  have:=hg 0 _ rfl;rw[List.getElem?_eq_getElem (by omega:0<xs.length)] at this;exact this
 rw[e_int] at k0;have k1:DataW.trod enc Tryz.prog w 0 (fun _=>true) true n 22 ((cs.drop 1).take (Tryz.prog.cellsOf 22))=some (xs[1]'(by omega)):=by
  have:=hg 1 _ rfl;rw[List.getElem?_eq_getElem (by omega:1<xs.length)] at this;exact this
 rw[e_Luint8] at k1;have k2:DataW.trod enc Tryz.prog w 0 (fun _=>true) true n 3 ((cs.drop 2).take (Tryz.prog.cellsOf 3))=some (xs[2]'(by omega)):=by
  have:=hg 2 _ rfl;rw[List.getElem?_eq_getElem (by omega:2<xs.length)] at this;exact this
 rw[e_int] at k2;have k3:DataW.trod enc Tryz.prog w 0 (fun _=>true) true n 24 ((cs.drop 3).take (Tryz.prog.cellsOf 24))=some (xs[3]'(by omega)):=by
  have:=hg 3 _ rfl;rw[List.getElem?_eq_getElem (by omega:3<xs.length)] at this;exact this
 rw[e_yettapiStore] at k3;have k4:DataW.trod enc Tryz.prog w 0 (fun _=>true) true n 3 ((cs.drop 5).take (Tryz.prog.cellsOf 3))=some (xs[4]'(by omega)):=by
  have:=hg 4 _ rfl;rw[List.getElem?_eq_getElem (by omega:4<xs.length)] at this;exact this
 rw[e_int] at k4;have k5:DataW.trod enc Tryz.prog w 0 (fun _=>true) true n 3 ((cs.drop 6).take (Tryz.prog.cellsOf 3))=some (xs[5]'(by omega)):=by
  have:=hg 5 _ rfl;rw[List.getElem?_eq_getElem (by omega:5<xs.length)] at this;exact this
 rw[e_int] at k5;have k6:DataW.trod enc Tryz.prog w 0 (fun _=>true) true n 3 ((cs.drop 7).take (Tryz.prog.cellsOf 3))=some (xs[6]'(by omega)):=by
  have:=hg 6 _ rfl;rw[List.getElem?_eq_getElem (by omega:6<xs.length)] at this;exact this
 rw[e_int] at k6;have k7:DataW.trod enc Tryz.prog w 0 (fun _=>true) true n 3 ((cs.drop 8).take (Tryz.prog.cellsOf 3))=some (xs[7]'(by omega)):=by
  have:=hg 7 _ rfl;rw[List.getElem?_eq_getElem (by omega:7<xs.length)] at this;exact this
 rw[e_int] at k7;have k8:DataW.trod enc Tryz.prog w 0 (fun _=>true) true n 3 ((cs.drop 9).take (Tryz.prog.cellsOf 3))=some (xs[8]'(by omega)):=by
  have:=hg 8 _ rfl;rw[List.getElem?_eq_getElem (by omega:8<xs.length)] at this;exact this
 rw[e_int] at k8;have k9:DataW.trod enc Tryz.prog w 0 (fun _=>true) true n 28 ((cs.drop 10).take (Tryz.prog.cellsOf 28))=some (xs[9]'(by omega)):=by
  have:=hg 9 _ rfl;rw[List.getElem?_eq_getElem (by omega:9<xs.length)] at this;exact this
 rw[e_yettapiWin] at k9;have k10:DataW.trod enc Tryz.prog w 0 (fun _=>true) true n 32 ((cs.drop 27).take (Tryz.prog.cellsOf 32))=some (xs[10]'(by omega)):=by
  have:=hg 10 _ rfl;rw[List.getElem?_eq_getElem (by omega:10<xs.length)] at this;exact this
 rw[e_yettapiRing] at k10;have k11:DataW.trod enc Tryz.prog w 0 (fun _=>true) true n 34 ((cs.drop 35).take (Tryz.prog.cellsOf 34))=some (xs[11]'(by omega)):=by
  have:=hg 11 _ rfl;rw[List.getElem?_eq_getElem (by omega:11<xs.length)] at this;exact this
 rw[e_yettapiAsk] at k11;have k12:DataW.trod enc Tryz.prog w 0 (fun _=>true) true n 3 ((cs.drop 40).take (Tryz.prog.cellsOf 3))=some (xs[12]'(by omega)):=by
  have:=hg 12 _ rfl;rw[List.getElem?_eq_getElem (by omega:12<xs.length)] at this;exact this
 rw[e_int] at k12;have k13:DataW.trod enc Tryz.prog w 0 (fun _=>true) true n 3 ((cs.drop 41).take (Tryz.prog.cellsOf 3))=some (xs[13]'(by omega)):=by
  have:=hg 13 _ rfl;rw[List.getElem?_eq_getElem (by omega:13<xs.length)] at this;exact this
 rw[e_int] at k13;have k14:DataW.trod enc Tryz.prog w 0 (fun _=>true) true n 35 ((cs.drop 42).take (Tryz.prog.cellsOf 35))=some (xs[14]'(by omega)):=by
  have:=hg 14 _ rfl;rw[List.getElem?_eq_getElem (by omega:14<xs.length)] at this;exact this
 rw[e_LLuint8] at k14;have k15:DataW.trod enc Tryz.prog w 0 (fun _=>true) true n 42 ((cs.drop 43).take (Tryz.prog.cellsOf 42))=some (xs[15]'(by omega)):=by
  have:=hg 15 _ rfl;rw[List.getElem?_eq_getElem (by omega:15<xs.length)] at this;exact this
 rw[e_yettapiHub] at k15;have k16:DataW.trod enc Tryz.prog w 0 (fun _=>true) true n 43 ((cs.drop 64).take (Tryz.prog.cellsOf 43))=some (xs[16]'(by omega)):=by
  have:=hg 16 _ rfl;rw[List.getElem?_eq_getElem (by omega:16<xs.length)] at this;exact this
 rw[e_LapiSent] at k16;have k17:DataW.trod enc Tryz.prog w 0 (fun _=>true) true n 44 ((cs.drop 65).take (Tryz.prog.cellsOf 44))=some (xs[17]'(by omega)):=by
  have:=hg 17 _ rfl;rw[List.getElem?_eq_getElem (by omega:17<xs.length)] at this;exact this
 rw[e_LapiEvent] at k17;have k18:DataW.trod enc Tryz.prog w 0 (fun _=>true) true n 40 ((cs.drop 66).take (Tryz.prog.cellsOf 40))=some (xs[18]'(by omega)):=by
  have:=hg 18 _ rfl;rw[List.getElem?_eq_getElem (by omega:18<xs.length)] at this;exact this
 rw[e_4int] at k18;obtain⟨v0,s0,-,-⟩:=DataW.trod_int Tryz.underlying3 k0;obtain⟨a1,n1,c1,l1,s1,u1⟩:=Db2 k1;obtain⟨rfl,u1a,u1b,u1c⟩:=u1;obtain⟨v2,s2,-,-⟩:=DataW.trod_int Tryz.underlying3 k2;obtain⟨a3,n3,c3,l3,b3,m3,d3,k_3,s3,⟨rfl,p0,p1,p2⟩,⟨rfl,q0,q1,q2⟩⟩:=Eu2 k3;obtain⟨v4,s4,-,-⟩:=DataW.trod_int Tryz.underlying3 k4;obtain⟨v5,s5,-,-⟩:=DataW.trod_int Tryz.underlying3 k5;obtain⟨v6,s6,-,-⟩:=DataW.trod_int Tryz.underlying3 k6;obtain⟨v7,s7,-,-⟩:=DataW.trod_int Tryz.underlying3 k7;obtain⟨v8,s8,-,-⟩:=DataW.trod_int Tryz.underlying3 k8;obtain⟨wt,wb,s9,wwf⟩:=Fh8 k9;obtain⟨r,s10,kc,ko,kp,hc,ho,hp,-⟩:=Fb8 k10;obtain⟨qm0,qm1,qm2,qm3,qa,qn,qc,ql,s11,-,-,-,-,⟨rfl,hq0,hq1,hq2⟩⟩:=Fh4 k11;obtain⟨v12,s12,-,-⟩:=DataW.trod_int Tryz.underlying3 k12;obtain⟨v13,s13,-,-⟩:=DataW.trod_int Tryz.underlying3 k13;obtain⟨a14,n14,c14,s14⟩:=Bj6 Tryz.underlying35 k14;rw[s14] at k14;obtain⟨l14,rfl,z14a,z14b,z14⟩:=Ej9 (enc:=enc) (w:=w) (d:=(xs[14]'(by omega)).1) (ps:=(xs[14]'(by omega)).2) ⟨n,k14⟩;obtain⟨hv,hs,s15,hh⟩:=Fh6 k15;obtain⟨a16,n16,c16,s16⟩:=Bj6 Tryz.underlying43 k16;rw[s16] at k16;obtain⟨l16,rfl,z16a,z16b,z16⟩:=Eu5 (enc:=enc) (w:=w) (d:=(xs[16]'(by omega)).1) (ps:=(xs[16]'(by omega)).2) ⟨n,k16⟩;obtain⟨a17,n17,c17,s17⟩:=Bj6 Tryz.underlying44 k17;rw[s17] at k17;obtain⟨l17,rfl,z17a,z17b,z17⟩:=Fc1 (enc:=enc) (w:=w) (d:=(xs[17]'(by omega)).1) (ps:=(xs[17]'(by omega)).2) ⟨n,k17⟩;obtain⟨cn0,cn1,cn2,cn3,s18⟩:=Fh7 k18;have e:cs.drop 0=[.int .i64 v0]++([.slice a1 l1.length c1]++([.int .i64 v2]++([.slice a3 l3.length c3,.slice b3 k_3.length d3]++([.int .i64 v4]++([.int .i64 v5]++([.int .i64 v6]++([.int .i64 v7]++([.int .i64 v8]++(D5 wt wb++(r.L++([.int .i64 qm0,.int .i64 qm1,.int .i64 qm2,.int .i64 qm3,.slice qa ql.length qc]++([.int .i64 v12]++([.int .i64 v13]++([.slice a14 l14.length c14]++(hv.L++([.slice a16 l16.length c16]++([.slice a17 l17.length c17]++([.int .i64 cn0,.int .i64 cn1,.int .i64 cn2,.int .i64 cn3]++[])))))))))))))))))):=U3 (m:=1) s0 rfl (U3 (m:=2) s1 rfl (U3 (m:=3) s2 rfl (U3 (m:=5) s3 rfl (U3 (m:=6) s4 rfl (U3 (m:=7) s5 rfl (U3 (m:=8) s6 rfl (U3 (m:=9) s7 rfl (U3 (m:=10) s8 rfl (U3 (m:=27) s9 rfl (U3 (m:=35) s10 rfl (U3 (m:=40) s11 rfl (U3 (m:=41) s12 rfl (U3 (m:=42) s13 rfl (U3 (m:=43) s14 rfl (U3 (m:=64) s15 rfl (U3 (m:=65) s16 rfl (U3 (m:=66) s17 rfl (U3 (m:=70) s18 rfl ((by rw[List.drop_eq_nil_iff];omega:cs.drop 70=[]))))))))))))))))))));refine⟨{id:=v0,k:=⟨a1,c1,l1⟩,ph:=v2,s1:=⟨a3,c3,l3⟩,s2:=⟨b3,d3,k_3⟩,pw:=v4,own:=v5,oth:=v6,seen:=v7,seq:=v8,wt:=wt,wb:=wb,r:=r,kc:=kc,ko:=ko,kp:=kp,q:=⟨qm0,qm1,qm2,qm3,ql⟩,qa:=qa,qc:=qc,stan:=v12,day:=v13,ua:=a14,uc:=c14,u:=l14,h:=hv,hs:=hs,oa:=a16,oc:=c16,o:=l16,ga:=a17,gc:=c17,g:=l17,c0:=cn0,c1:=cn1,c2:=cn2,c3:=cn3},e.trans rfl,?_⟩;exact⟨⟨u1c,u1a,u1b⟩,⟨p2,p0,p1⟩,⟨q2,q0,q1⟩,⟨hc.1,hc.2.2.2,ho.1,ho.2.2.2,hp.1,hp.2.2.2⟩,⟨hc.2.1,hc.2.2.1⟩,⟨ho.2.1,ho.2.2.1⟩,⟨hp.2.1,hp.2.2.1⟩,hq2,⟨hq0,hq1⟩,z14,⟨z14a,z14b⟩,hh,fun i hi=>Nat.le_trans (hh i hi).le (hh i hi).cap,z16,⟨z16a,z16b⟩,z17,⟨z17a,z17b⟩,by simp[Lit.wf,IntKind.min,IntKind.max,IntKind.bits,IntKind.signed] at wwf;omega⟩
theorem Ek0{fuel:Nat}{cs:List Value}{x:DataW H×List MemPlace}(h:DataW.trod enc Tryz.prog w 0 (fun _=>true) true fuel 49 cs=some x):∃(i f:Bool) (ta:Option Addr) (tc:Nat) (es:List Ent),cs=[.bool i,.slice ta es.length tc,.bool f]∧X7 w ta es∧es.length≤tc∧tc≤maxLen:=by
 obtain⟨xs,n,rfl,hx,hl,hxl,hg⟩:=DataW.trod_struct Tryz.underlying49 h;have hxl':xs.length=3:=hxl;have e_LapiEntry:Tryz.prog.cellsOf 47=1:=by kernel_rfl
 have e_bool:Tryz.prog.cellsOf 4=1:=by kernel_rfl
 have eN:Tryz.prog.cellsOf 49=3:=by kernel_rfl
 have hl':cs.length=3:=by rw[←eN];exact hl
 have k0:DataW.trod enc Tryz.prog w 0 (fun _=>true) true n 4 ((cs.drop 0).take (Tryz.prog.cellsOf 4))=some (xs[0]'(by omega)):=by
  have:=hg 0 _ rfl;rw[List.getElem?_eq_getElem (by omega:0<xs.length)] at this;exact this
 rw[e_bool] at k0;have k1:DataW.trod enc Tryz.prog w 0 (fun _=>true) true n 47 ((cs.drop 1).take (Tryz.prog.cellsOf 47))=some (xs[1]'(by omega)):=by
  have:=hg 1 _ rfl;rw[List.getElem?_eq_getElem (by omega:1<xs.length)] at this;exact this
 rw[e_LapiEntry] at k1;have k2:DataW.trod enc Tryz.prog w 0 (fun _=>true) true n 4 ((cs.drop 2).take (Tryz.prog.cellsOf 4))=some (xs[2]'(by omega)):=by
  have:=hg 2 _ rfl;rw[List.getElem?_eq_getElem (by omega:2<xs.length)] at this;exact this
 rw[e_bool] at k2;obtain⟨i,s0,-⟩:=DataW.trod_bool Tryz.underlying4 k0;obtain⟨a1,n1,c1,s1⟩:=Bj6 Tryz.underlying47 k1;rw[s1] at k1;obtain⟨es,rfl,z1,z2,z3⟩:=Eu6 (enc:=enc) (w:=w) (d:=(xs[1]'(by omega)).1) (ps:=(xs[1]'(by omega)).2) ⟨n,k1⟩;obtain⟨f,s2,-⟩:=DataW.trod_bool Tryz.underlying4 k2;have e:cs.drop 0=[.bool i]++([.slice a1 es.length c1]++([.bool f]++[])):=U3 (m:=1) s0 rfl (U3 (m:=2) s1 rfl (U3 (m:=3) s2 rfl (by rw[List.drop_eq_nil_iff];omega)));exact⟨i,f,a1,c1,es,e.trans rfl,z3,z1,z2⟩
theorem Fc2{fuel:Nat}{cs:List Value}{x:DataW H×List MemPlace}(h:DataW.trod enc Tryz.prog w 0 (fun _=>true) true fuel 51 cs=some x):∃s:Sv,cs=A5 s∧Aj3 w s:=by
 obtain⟨xs,n,rfl,hx,hl,hxl,hg⟩:=DataW.trod_struct Tryz.underlying51 h;have hxl':xs.length=2:=hxl;have e_yettapiEnd:Tryz.prog.cellsOf 46=70:=by kernel_rfl
 have e_yettapiProv:Tryz.prog.cellsOf 49=3:=by kernel_rfl
 have eN:Tryz.prog.cellsOf 51=73:=by kernel_rfl
 have hl':cs.length=73:=by rw[←eN];exact hl
 have k0:DataW.trod enc Tryz.prog w 0 (fun _=>true) true n 46 ((cs.drop 0).take (Tryz.prog.cellsOf 46))=some (xs[0]'(by omega)):=by
  have:=hg 0 _ rfl;rw[List.getElem?_eq_getElem (by omega:0<xs.length)] at this;exact this
 rw[e_yettapiEnd] at k0;have k1:DataW.trod enc Tryz.prog w 0 (fun _=>true) true n 49 ((cs.drop 70).take (Tryz.prog.cellsOf 49))=some (xs[1]'(by omega)):=by
  have:=hg 1 _ rfl;rw[List.getElem?_eq_getElem (by omega:1<xs.length)] at this;exact this
 rw[e_yettapiProv] at k1;obtain⟨e,s0,he⟩:=Fh9 k0;obtain⟨i,f,ta,tc,es,s1,hp,h1,h2⟩:=Ek0 k1;have e':cs.drop 0=A8 e++([.bool i,.slice ta es.length tc,.bool f]++[]):=U3 (m:=70) s0 rfl (U3 (m:=73) s1 rfl (by rw[List.drop_eq_nil_iff];omega));exact⟨⟨e,i,f,ta,tc,es⟩,e'.trans (by rw[List.append_nil];rfl),he,hp,h1,h2⟩
theorem Fc3{r:Reach}{b0:Nat}{v:Value}{d:DataW H}{p:List MemPlace}(hv:Value.okWide Tryz.prog w r b0 51 v)(h:DataW.Trod enc Tryz.prog w 0 (fun _=>true) true 51 v d p):∃s:Sv,v=.agg (A5 s).toArray∧Aj3 w s:=by
 obtain⟨⟨cs⟩,rfl,hsz⟩:=okWide_struct Tryz.underlying51 hv;obtain⟨fuel,hf⟩:=h;obtain⟨s,h1,h2⟩:=Fc2 hf;have h1':cs=A5 s:=h1;exact⟨s,by rw[h1'],h2⟩
end
theorem Cv3(_t:True)(W:World)(hks:Q4 W)(s:Sv)(hs:Aj3 W s)(o:Int)(a:Option Addr)(n c:Nat)(l:List UInt8)(u:Af2 W a n c l):
 Calls Tryz.prog 3 #[.agg (A5 s).toArray,.int .i64 o,.slice a n c] W (F9 W true):=by
 obtain⟨rfl,h1,h2,h3⟩:=u;exact Cm5 s o a c l W hs h3 hks
end Go.Proofs.YtadpiemjgfndgaaGreatDoor
