/- Proved here, for use further on: AskA AskB AskC AskD LanA LanB LeC LfM. Conditions: none but those each theorem names. -/
import Derived.Test.YtadpiemjgfndgaaGreatDoorKa00
import Derived.Test.YtadpiemjgfndgaaGreatDoorKa05
import Derived.Test.YtadpiemjgfndgaaGreatDoorKa10
import Derived.Test.YtadpiemjgfndgaaGreatDoorKa12
import Derived.Test.YtadpiemjgfndgaaGreatDoorKa11
set_option linter.unusedSimpArgs false
set_option linter.unusedVariables false
set_option maxRecDepth 100000
set_option maxHeartbeats 8000000
namespace Go.Proofs.YtadpiemjgfndgaaGreatDoor
open Go.RowKit
def Bb9(n:Int):Bool:=decide (n=1∨n=2∨n=101∨n=201∨n=301)
def Bj1(c s:Int)(n:Nat):Bool:=Bb9 c&&(decide (1≤s∧s≤999999∧1≤n∧n≤900))
theorem Cb9(n:Int)(w:World):Calls Tryz.prog 188 #[.int .i64 n] w fun e w'=>e=.returned (.bool (Bb9 n))∧w=w':=by
 have HK:=Lh (show ∀b,(b=true↔(n=1∨n=2∨n=101∨n=201∨n=301))→b=Bb9 n from fun b h=>by unfold Bb9;rw[Bool.eq_iff_iff,h,decide_eq_true_iff]);go_enter Tryz.func188,Tryz.ntmps188
 go_wp2_with fail
 all_goals
  go_ret;refine⟨M0 (HK.out _ ?_),rfl⟩
  (try simp only[Bool.false_eq_true,false_iff,true_iff,iff_true,iff_false,decide_eq_true_eq,beq_iff_eq])
  (try simp only[beq_iff_eq,beq_eq_false_iff_ne,ne_eq] at *)
  first
   | omega
   | (simp only[Bool.or_eq_true,beq_iff_eq];omega)
theorem Cj0(c s:Int)(a:Option Addr)(n cap:Nat)(w:World):Calls Tryz.prog 159 #[.int .i64 c,.int .i64 s,.slice a n cap] w fun e w'=>e=.returned (.bool (Bj1 c s n))∧w=w':=by
 have HK:=Lh (Cb9 c);have HR:=Lh (show ∀b,(b=true↔(Bb9 c=true∧1≤s∧s≤999999∧1≤n∧n≤900))→b=Bj1 c s n from fun b h=>by unfold Bj1;rw[Bool.eq_iff_iff,h,Bool.and_eq_true,decide_eq_true_iff]);generalize hk:Bb9 c=k at *;clear hk;go_enter Tryz.func159,Tryz.ntmps159
 go_wp2_with fail
 refine(HK.out _).mono ?_;rintro e w1 ⟨rfl,rfl⟩;cases k with
 | false=>
   go_wp2_with fail
   go_ret;exact⟨M0 (HR.out _ (by simp)),rfl⟩
 | true=>
   go_wp2_with fail
   all_goals
    go_ret;refine⟨M0 (HR.out _ ?_),rfl⟩
    (try simp only[Bool.false_eq_true,false_iff,true_iff,iff_true,iff_false,true_and,decide_eq_true_eq,beq_iff_eq])
    omega
structure Qn5 where
 code:Int
 stan:Int
 due:Int
 left:Int
 body:List UInt8
 deriving DecidableEq
abbrev K7(q:Qn5)(a:Option Addr)(c:Nat):List Value:=[.int .i64 q.code,.int .i64 q.stan,.int .i64 q.due,.int .i64 q.left,.slice a q.body.length c]
def An7(p q:Qn5):Bool:=(p.code==q.code)&&((p.stan==q.stan)&&((p.due==q.due)&&((p.left==q.left)&&(p.body==q.body))))
theorem Av5{w:World}{b:Nat}{v0 v1 v2 v3 v4:Value}(h:Blk w b [v0,v1,v2,v3,v4]):w.cell? ⟨b,0,none⟩=some v0∧w.cell? ⟨b,1,none⟩=some v1∧w.cell? ⟨b,2,none⟩=some v2∧w.cell? ⟨b,3,none⟩=some v3∧w.cell? ⟨b,4,none⟩=some v4:=
 ⟨h.cell 0 (by simp),h.cell 1 (by simp),h.cell 2 (by simp),h.cell 3 (by simp),h.cell 4 (by simp)⟩
theorem Bl4(p q:Qn5)(a b:Option Addr)(c d:Nat)(w:World)(hp:p.body.length≤maxLen)(hq:q.body.length≤maxLen)(ha:A4 w a p.body)(hb:A4 w b q.body):
 Calls Tryz.prog 106 #[.agg (K7 p a c).toArray,.agg (K7 q b d).toArray] w (G6 w (An7 p q)):=by
 have HE:=Lh (fun(W:World) (h:Below w.heap.size w W)=>(show Calls Tryz.prog 101 #[.slice a p.body.length c,.slice b q.body.length d] W fun e w'=>e=.returned (.bool (p.body==q.body))∧W=w' from Ab4 _ _ _ _ _ _ p.body q.body W rfl rfl (ha.mono h) (hb.mono h)));have HS:=Lh (show ∀x,(x=true↔(p.code=q.code∧p.stan=q.stan∧p.due=q.due∧p.left=q.left∧(p.body==q.body)=true))→x=An7 p q from fun x h=>by
  rw[Bool.eq_iff_iff,h];unfold An7;simp only[Bool.and_eq_true,beq_iff_eq])
 clear ha hb hp hq;generalize (p.body==q.body)=E at HE HS;have FL:=Lh (show ¬(p.code=q.code∧p.stan=q.stan∧p.due=q.due∧p.left=q.left)→An7 p q=false from fun h=>((HS.out false (by simp only[Bool.false_eq_true,false_iff];rintro⟨h1,h2,h3,h4,-⟩;exact h ⟨h1,h2,h3,h4⟩))).symm);have FT:=Lh (show p.code=q.code→p.stan=q.stan→p.due=q.due→p.left=q.left→An7 p q=E from fun h1 h2 h3 h4=>(HS.out E ⟨fun h=>⟨h1,h2,h3,h4,h⟩,fun h=>h.2.2.2.2⟩).symm);clear HS;generalize An7 p q=S at *;obtain⟨pc,ps,pd,pl,pb⟩:=p;obtain⟨qc,qs,qd,ql,qb⟩:=q;dsimp only[K7] at *;go_enter Tryz.func106,Tryz.ntmps106
 go_upto_region 1 with(fail)
 generalize hW:World.alloc _ _=W;obtain⟨B1,B2,hb⟩:=Ap4 (a:=[.int .i64 pc,.int .i64 ps,.int .i64 pd,.int .i64 pl,.slice a pb.length c]) (b:=[.int .i64 qc,.int .i64 qs,.int .i64 qd,.int .i64 ql,.slice b qb.length d]) hW;clear hW;generalize w.heap.size+1=n2 at B2 ⊢;obtain⟨x0,x1,x2,x3,x4⟩:=Av5 B1;obtain⟨y0,y1,y2,y3,y4⟩:=Av5 B2;have G:=Lh hb;clear B1 B2 hb;by_cases h1:pc=qc
 ·by_cases h2:ps=qs
  ·by_cases h3:pd=qd
   ·by_cases h4:pl=ql
    ·have HR:=Lh (FT.out h1 h2 h3 h4);subst h1 h2 h3 h4;clear FL FT;go_wp2_with fail
     refine(HE.out _ G.out).mono ?_;rintro e w2 ⟨rfl,rfl⟩;go_wp2_with fail
     go_ret;exact⟨M0 HR.out.symm,G.out⟩
    ·have HR:=Lh (FL.out (fun h=>h4 h.2.2.2));subst h1 h2 h3;clear FL FT HE;go_wp2_with fail
     go_ret;exact⟨M0 HR.out.symm,G.out⟩
   ·have HR:=Lh (FL.out (fun h=>h3 h.2.2.1));subst h1 h2;clear FL FT HE;go_wp2_with fail
    go_ret;exact⟨M0 HR.out.symm,G.out⟩
  ·have HR:=Lh (FL.out (fun h=>h2 h.2.1));subst h1;clear FL FT HE;go_wp2_with fail
   go_ret;exact⟨M0 HR.out.symm,G.out⟩
 ·have HR:=Lh (FL.out (fun h=>h1 h.1));clear FL FT HE;go_wp2_with fail
  go_ret;exact⟨M0 HR.out.symm,G.out⟩
def Bd2(q:Qn5):Bool:=An7 q ⟨0,0,0,0,[]⟩
def Aq6(q:Qn5):Bool:=Bd2 q || (Bj1 q.code q.stan q.body.length&&decide (1≤q.due∧q.due≤8∧0≤q.left∧q.left≤3))
theorem Cj1(q:Qn5)(a:Option Addr)(c:Nat)(w:World)(hq:q.body.length≤maxLen)(ha:A4 w a q.body):
 Calls Tryz.prog 158 #[.agg (K7 q a c).toArray] w (G6 w (Bd2 q)):=by
 have HS:=Lh (fun(W:World) (h:Below w.heap.size w W)=>(show Calls Tryz.prog 106 #[.agg (K7 q a c).toArray,.agg #[.int .i64 0,.int .i64 0,.int .i64 0,.int .i64 0,.slice none 0 0]] W (G6 W (Bd2 q)) from Bl4 q ⟨0,0,0,0,[]⟩ a none c 0 W hq (Nat.zero_le _) (ha.mono h) (.inl rfl)));clear ha hq;generalize Bd2 q=S at *;go_enter Tryz.func158,Tryz.ntmps158
 go_wp2_with fail
 refine(HS.out _ (ba w _)).mono ?_;rintro e w2 ⟨rfl,hb⟩;go_wp2_with fail
 go_ret;exact⟨rfl,bt (ba w _) hb⟩
theorem Cc0(q:Qn5)(a:Option Addr)(c:Nat)(w:World)(hq:q.body.length≤maxLen)(ha:A4 w a q.body):
 Calls Tryz.prog 96 #[.agg (K7 q a c).toArray] w (G6 w (Aq6 q)):=by
 have HN:=Lh (fun(W:World) (h:Below w.heap.size w W)=>(show Calls Tryz.prog 158 #[.agg #[.int .i64 q.code,.int .i64 q.stan,.int .i64 q.due,.int .i64 q.left,.slice a q.body.length c]] W (G6 W (Bd2 q)) from Cj1 q a c W hq (ha.mono h)));have HF:=Lh (fun W=>Cj0 q.code q.stan a q.body.length c W);have HR:=Lh (show ∀b,(b=true↔(Bd2 q=true∨(Bj1 q.code q.stan q.body.length=true∧1≤q.due∧q.due≤8∧0≤q.left∧q.left≤3)))→b=Aq6 q from fun b h=>by
  rw[Bool.eq_iff_iff,h];unfold Aq6;simp only[Bool.and_eq_true,Bool.or_eq_true,decide_eq_true_eq])
 clear ha hq;generalize Bd2 q=S at *;generalize Aq6 q=R at *;obtain⟨q0,q1,q2,q3,l⟩:=q;dsimp only[K7] at *;generalize l.length=n at *;generalize Bj1 q0 q1 n=F at *;go_enter Tryz.func96,Tryz.ntmps96
 go_upto_region 1 with(fail)
 generalize hW:World.alloc w _=W;have G:=Lh (show Below w.heap.size w W by rw[←hW];exact ba w _);have B:=Lh (show Blk W w.heap.size [.int .i64 q0,.int .i64 q1,.int .i64 q2,.int .i64 q3,.slice a n c] by rw[←hW];exact Blk.new w [.int .i64 q0,.int .i64 q1,.int .i64 q2,.int .i64 q3,.slice a n c] _);obtain⟨x0,x1,x2,x3,x4⟩:=Av5 B.out;clear hW;go_wp2_with fail
 refine(HN.out _ G.out).mono ?_;rintro e w2 ⟨rfl,hb⟩;clear x0 x1 x2 x3 x4;obtain⟨x0,x1,x2,x3,x4⟩:=Av5 (B.out.up hb);have G2:=Lh (bt G.out hb);clear B hb;cases S with
 | true=>
   go_wp2_with fail
   go_ret;exact⟨M0 (HR.out _ (by simp)),G2.out⟩
 | false=>
   go_wp2_with fail
   refine(HF.out _).mono ?_;rintro e w3 ⟨rfl,rfl⟩;cases F with
   | false=>
     go_wp2_with fail
     go_ret;exact⟨M0 (HR.out _ (by simp)),G2.out⟩
   | true=>
     go_wp2_with fail
     all_goals
      go_ret;refine⟨M0 (HR.out _ ?_),G2.out⟩
      (try simp only[Bool.false_eq_true,false_iff,true_iff,iff_true,iff_false,true_and,false_or,decide_eq_true_eq,Bool.and_eq_true])
      omega
def Ac4(n:Int):Bool:=decide (0≤n∧n≤4611686018427387904)
def U4(n:Nat):Bool:=decide (1≤n∧n≤900)
def Ak2(p:Int):Int:=if p=1 then 1 else if p=4 then 101 else if p=5 then 201 else if p=6 then 2 else 0
theorem Bg3(n:Int)(w:World):Calls Tryz.prog 57 #[.int .i64 n] w fun e w'=>e=.returned (.bool (Ac4 n))∧w=w':=by
 have HK:=Lh (show ∀b,(b=true↔(0≤n∧n≤4611686018427387904))→b=Ac4 n from fun b h=>by unfold Ac4;rw[Bool.eq_iff_iff,h,decide_eq_true_iff]);go_enter Tryz.func57,Tryz.ntmps57
 go_wp2_with fail
 all_goals
  go_ret;refine⟨M0 (HK.out _ ?_),rfl⟩
  (try simp only[Bool.false_eq_true,false_iff,true_iff,iff_true,iff_false,decide_eq_true_eq,Bool.and_eq_true])
  omega
theorem Bg4(a:Option Addr)(n cap:Nat)(w:World):Calls Tryz.prog 55 #[.slice a n cap] w fun e w'=>e=.returned (.bool (U4 n))∧w=w':=by
 have HK:=Lh (show ∀b,(b=true↔(1≤n∧n≤900))→b=U4 n from fun b h=>by unfold U4;rw[Bool.eq_iff_iff,h,decide_eq_true_iff]);go_enter Tryz.func55,Tryz.ntmps55
 go_wp2_with fail
 all_goals
  go_ret;refine⟨M0 (HK.out _ ?_),rfl⟩
  (try simp only[Bool.false_eq_true,false_iff,true_iff,iff_true,iff_false,decide_eq_true_eq,Bool.and_eq_true])
  omega
theorem Cc1(p:Int)(w:World):Calls Tryz.prog 164 #[.int .i64 p] w fun e w'=>e=.returned (.int .i64 (Ak2 p))∧w=w':=by
 by_cases h1:p=1
 ·subst h1;go_enter Tryz.func164,Tryz.ntmps164
  go_wp2_with fail
  go_ret;exact⟨rfl,rfl⟩
 by_cases h4:p=4
 ·subst h4;go_enter Tryz.func164,Tryz.ntmps164
  go_wp2_with fail
  go_ret;exact⟨rfl,rfl⟩
 by_cases h5:p=5
 ·subst h5;go_enter Tryz.func164,Tryz.ntmps164
  go_wp2_with fail
  go_ret;exact⟨rfl,rfl⟩
 by_cases h6:p=6
 ·subst h6;go_enter Tryz.func164,Tryz.ntmps164
  go_wp2_with fail
  go_ret;exact⟨rfl,rfl⟩
 have HA:Ak2 p=0:=by unfold Ak2;rw[if_neg h1,if_neg h4,if_neg h5,if_neg h6]
 rw[HA];have e1:(p==1)=false:=by rw[beq_eq_false_iff_ne];exact h1
 have e4:(p==4)=false:=by rw[beq_eq_false_iff_ne];exact h4
 have e5:(p==5)=false:=by rw[beq_eq_false_iff_ne];exact h5
 have e6:(p==6)=false:=by rw[beq_eq_false_iff_ne];exact h6
 go_enter Tryz.func164,Tryz.ntmps164
 go_wp2_with fail
 go_ret;exact⟨rfl,rfl⟩
def Y4(hi:Int)(l:List Int):Bool:=l.all fun n=>decide (0≤n∧n≤hi)
theorem Dj0{hi:Int}{l:List Int}(j:Nat)(h:j<l.length)(hn:¬(0≤l[j]∧l[j]≤hi)):Y4 hi l=false:=by
 rw[Bool.eq_false_iff];intro hall;unfold Y4 at hall;rw[List.all_eq_true] at hall;exact hn (by simpa using hall l[j] (List.getElem_mem h))
theorem Co4{hi:Int}{l:List Int}(h:∀j (hj:j<l.length),0≤l[j]∧l[j]≤hi):Y4 hi l=true:=by
 unfold Y4;rw[List.all_eq_true];intro x hx;obtain⟨j,hj,rfl⟩:=List.mem_iff_getElem.1 hx
 simpa using h j hj
theorem Bc0(hi:Int)(g c:Nat)(l:List Int)(w:World)(hl:l.length≤100)(hb:Blk w g (l.map (Value.int .i64))):
 Calls Tryz.prog 54 #[.int .i64 hi,.slice (some ⟨g,0,none⟩) l.length c] w fun e w'=>e=.returned (.bool (Y4 hi l))∧w=w':=by
 have HX:=Lh (show ∀j,j<l.length→∃x,w.cell? ⟨g,j,none⟩=some (.int .i64 x)∧(¬(0≤x∧x≤hi)→Y4 hi l=false)∧l.getD j 0=x from fun j hj=>⟨l[j],by
  rw[hb.cell j (by rw[List.length_map];exact hj)];simp[List.getD,List.getElem?_eq_getElem hj],fun h=>Dj0 j hj h,by simp[List.getD,List.getElem?_eq_getElem hj]⟩)
 have HY:=Lh (show(∀j,j<l.length→0≤l.getD j 0∧l.getD j 0≤hi)→Y4 hi l=true from fun h=>Co4 fun j hj=>by have:=h j hj;simpa [List.getD,List.getElem?_eq_getElem hj] using this);generalize Y4 hi l=R at *;clear hb;generalize hn:l.length=n at *;go_enter Tryz.func54,Tryz.ntmps54
 go_wp2_with fail
 go_loopw [9] (fun v9 wx=>∃j:Nat,j≤n∧v9=.int .i64 (j:Int)∧(∀i,i<j→0≤l.getD i 0∧l.getD i 0≤hi)∧w=wx) (fun v9 _=>n-(intOf v9).toNat)
 case atStart=>exact⟨0,Nat.zero_le _,rfl,fun i h=>absurd h (Nat.not_lt_zero _),rfl⟩
 case round=>
  obtain⟨j,hj,rfl,hz,rfl⟩:=hrel;have HZ:=Lh hz;clear hz;by_cases hlt:j<n
  ·obtain⟨x,gx,hno,hxe⟩:=HX.out j hlt;have HN:=Lh hno;have HE:=Lh hxe;have k1:(j:Int)<(n:Int):=by omega
   have k0:(0:Int)≤(j:Int):=by omega
   clear hno hxe;by_cases hx:0≤x∧x≤hi
   ·have a1:¬x<0:=by omega
    have a2:¬hi<x:=by omega
    have HX2:=Lh hx;clear hx;go_wp2_with fail
    refine⟨⟨j+1,hlt,by go_num,fun i hi2=>by
     by_cases e:i=j
     ·subst e;rw[HE.out];exact HX2.out
     ·exact HZ.out i (by omega),by first | rfl | trivial⟩,?_⟩
    simp[intOf];omega
   ·have hf:=HN.out hx;subst hf;by_cases a1:x<0
    ·clear hx;go_wp2_with fail
     go_ret;first | exact⟨rfl,rfl⟩ | trivial
    ·have a2:hi<x:=by omega
     clear hx;go_wp2_with fail
     go_ret;first | exact⟨rfl,rfl⟩ | trivial
  ·have k1:¬(j:Int)<(n:Int):=by omega
   have hf:=HY.out (fun i hi2=>HZ.out i (by omega));subst hf;go_wp2_with fail
   go_ret;first | exact⟨rfl,rfl⟩ | trivial
abbrev Er8:ByteArray:=⟨#[98,97,115,101]⟩
abbrev Bj9:ByteArray:=⟨#[108,105,110,107]⟩
def Am4(key:List UInt8):List UInt8:=Ag5 key (Ah4 [98,97,115,101] [])
def Af7(e0 e1 g:Nat)(nonce:List UInt8):List UInt8:=Ah4 [108,105,110,107] [I7 e0 8,I7 e1 8,I7 g 4,nonce]
def Ah9(key:List UInt8)(e0 e1 g:Nat)(nonce:List UInt8):List UInt8:=Ag5 key (Af7 e0 e1 g nonce)
theorem Av0(key:List UInt8):(Am4 key).length=32:=As7 _ _
theorem Bo6(key:List UInt8)(e0 e1 g:Nat)(nonce:List UInt8):(Ah9 key e0 e1 g nonce).length=32:=As7 _ _
theorem Ax7(a:Option Addr)(c:Nat)(key:List UInt8)(hk:key.length≤1000)(w:World)(hkey:A4 w a key)(hks:I9 w):
 Calls Tryz.prog 45 #[.slice a key.length c] w (Ak3 w (Am4 key)):=by
 have HD:=Lh (Bg1 a c key Er8 none 0 [] (by omega) (by decide) (by decide) (by decide) w hkey (W6.nil w none) hks);clear hkey hks hk;go_enter Tryz.func45,Tryz.ntmps45
 go_wp2_with fail
 refine HD.out.mono ?_;rintro e w2 ⟨b,cb,rfl,hc,hb,hbel⟩;have H:=Lh (And.intro hc (And.intro hb hbel));clear hc hb hbel;go_wp2_with fail
 go_ret;exact⟨b,cb,rfl,H.out⟩
theorem Cs3{W:World}{a0 a1 a2 a3:Option Addr}{c3:Nat}{r0 r1 r2 r3:List UInt8}(l0:r0.length=8)(l1:r1.length=8)(l2:r2.length=4)(h3:r3.length≤c3∧c3≤maxLen)
 (h:A4 W a0 r0∧A4 W a1 r1∧A4 W a2 r2∧A4 W a3 r3) (T:TypeId):
 W6 (W.alloc (.cells #[.slice a0 8 8,.slice a1 8 8,.slice a2 4 4,.slice a3 r3.length c3] T)) (some ⟨W.heap.size,0,none⟩) [r0,r1,r2,r3]:=by
 have hb:=ba W (.cells #[.slice a0 8 8,.slice a1 8 8,.slice a2 4 4,.slice a3 r3.length c3] T);refine⟨[.slice a0 8 8,.slice a1 8 8,.slice a2 4 4,.slice a3 r3.length c3],O3 W _ T,rfl,fun i hi=>?_⟩;have h4:i=0∨i=1∨i=2∨i=3:=by simp at hi;omega
 rcases h4 with rfl | rfl | rfl | rfl
 ·exact⟨a0,8,by rw[←l0];rfl,by rw[show([r0,r1,r2,r3]:List (List UInt8)).getD 0 []=r0 from rfl,l0];exact Nat.le_refl _,by decide,h.1.mono hb⟩
 ·exact⟨a1,8,by rw[show([r0,r1,r2,r3]:List (List UInt8)).getD 1 []=r1 from rfl,l1];rfl,by rw[show([r0,r1,r2,r3]:List (List UInt8)).getD 1 []=r1 from rfl,l1];exact Nat.le_refl _,by decide,h.2.1.mono hb⟩
 ·exact⟨a2,4,by rw[show([r0,r1,r2,r3]:List (List UInt8)).getD 2 []=r2 from rfl,l2];rfl,by rw[show([r0,r1,r2,r3]:List (List UInt8)).getD 2 []=r2 from rfl,l2];exact Nat.le_refl _,by decide,h.2.2.1.mono hb⟩
 ·exact⟨a3,c3,rfl,h3.1,h3.2,h.2.2.2.mono hb⟩
theorem At3{hi:Int}{l:List Int}(r:Bool)(hr:Y4 hi l=r)(n:Nat)(hn:l.length=n)(hl:n≤100)(W:World)(xs:Array Value)(hxs:xs=(l.map (Value.int .i64)).toArray):
 Calls Tryz.prog 54 #[.int .i64 hi,.slice (some ⟨W.heap.size,0,none⟩) n n] (W.alloc (.cells xs 3)) fun e w'=>e=.returned (.bool r)∧Below W.heap.size W w':=by
 subst hn hxs;exact(Bc0 hi W.heap.size l.length l (W.alloc (.cells (l.map (Value.int .i64)).toArray 3)) hl (Blk.new W _ _)).mono fun e w' h=>⟨by rw[h.1,←hr],by rw[←h.2];exact ba W _⟩
theorem Br5(a b:Option Addr)(c d:Nat)(key nonce:List UInt8)(e0 e1 g:Nat)(hk:key.length≤1000)(hn:nonce.length≤1000)(hd:nonce.length≤d∧d≤maxLen)(h0:e0≤4611686018427387904)(h1:e1≤4611686018427387904)(hg:g≤2147483647)
 (w:World) (hkey:A4 w a key) (hno:A4 w b nonce) (hks:I9 w):
 Calls Tryz.prog 46 #[.slice a key.length c,.agg #[.int .i64 e0,.int .i64 e1],.int .i64 g,.slice b nonce.length d] w (Ak3 w (Ah9 key e0 e1 g nonce)):=by
 have HD:=Lh (fun(W:World) (hb:Below w.heap.size w W) (a0 a1 a2:Option Addr) (k0:A4 W a0 (I7 e0 8)) (k1:A4 W a1 (I7 e1 8)) (k2:A4 W a2 (I7 g 4))=>
  (show Calls Tryz.prog 111 #[.slice a key.length c,.string Bj9,.slice (some ⟨W.heap.size,0,none⟩) 4 4] (W.alloc (.cells #[.slice a0 8 8,.slice a1 8 8,.slice a2 4 4,.slice b nonce.length d] 22)) (Bj8 (W.alloc (.cells #[.slice a0 8 8,.slice a1 8 8,.slice a2 4 4,.slice b nonce.length d] 22)) (Ah9 key e0 e1 g nonce)) from
    Bg1 a c key Bj9 (some ⟨W.heap.size,0,none⟩) 4 [I7 e0 8,I7 e1 8,I7 g 4,nonce] (by omega) (by decide) (by simp) (by simp only[Ac6,List.map_cons,List.map_nil,List.sum_cons,List.sum_nil,L9];omega) _ (hkey.mono (bt hb (ba W _))) (Cs3 (L9 _ _) (L9 _ _) (L9 _ _) hd ⟨k0,k1,k2,hno.mono hb⟩ _) (I9.mono hks (bt hb (ba W _)))))
 have W1:=Lh (At3 (hi:=4611686018427387904) (l:=[(e0:Int),(e1:Int)]) true (by unfold Y4;simp;omega) 2 rfl (by decide));have W2:=Lh (At3 (hi:=2147483647) (l:=[(g:Int)]) true (by unfold Y4;simp;omega) 1 rfl (by decide));have B0:=Lh (fun W=>Bj2 e0 8 (by decide) (by decide) (by omega) (by omega) W);have B1:=Lh (fun W=>Bj2 e1 8 (by decide) (by decide) (by omega) (by omega) W);have B2:=Lh (fun W=>Bj2 g 4 (by decide) (by decide) (by omega) (by omega) W);unfold Ax0 at B0 B1 B2;clear hkey hno hks hk hn hd h0 h1 hg;generalize Ah9 key e0 e1 g nonce=K at HD ⊢;generalize I7 e0 8=X0 at HD B0;generalize I7 e1 8=X1 at HD B1;generalize I7 g 4=X2 at HD B2;go_enter Tryz.func46,Tryz.ntmps46
 go_upto_region 1 with(fail)
 generalize hW:World.alloc w _=W;have P0:W.cell? ⟨w.heap.size,0,none⟩=some (.int .i64 (e0:Int)):=by rw[←hW];exact(Blk.new w [.int .i64 (e0:Int),.int .i64 (e1:Int)] _).cell 0 (by simp)
 have P1:W.cell? ⟨w.heap.size,1,none⟩=some (.int .i64 (e1:Int)):=by rw[←hW];exact(Blk.new w [.int .i64 (e0:Int),.int .i64 (e1:Int)] _).cell 1 (by simp)
 have BB:=Lh (show Blk W w.heap.size [.int .i64 (e0:Int),.int .i64 (e1:Int)] by rw[←hW];exact Blk.new w [.int .i64 (e0:Int),.int .i64 (e1:Int)] _);have G:=Lh (show Below w.heap.size w W by rw[←hW];exact ba w _);clear hW;generalize w.heap.size=n1 at P0 P1 BB;go_wp2_with fail
 refine(W1.out W _ rfl).mono ?_;rintro e w1 ⟨rfl,hb⟩;replace BB:=Lh (BB.out.up hb);replace G:=Lh (bt G.out hb);clear hb P0 P1;go_wp2_with fail
 refine(W2.out w1 _ rfl).mono ?_;rintro e w2 ⟨rfl,hb⟩;replace BB:=Lh (BB.out.up hb);replace G:=Lh (bt G.out hb);clear hb;have P0:=BB.out.cell 0 (by simp);have P1:=BB.out.cell 1 (by simp);simp only[List.getD_cons_zero,List.getD_cons_succ] at P0 P1;go_wp2_with fail
 refine(B0.out _).mono ?_;rintro e w3 ⟨rfl,hB,hb⟩;have A0:=Lh (show A4 w3 (some ⟨w2.heap.size,0,none⟩) X0 from hB.blk.at);replace BB:=Lh (BB.out.up hb);replace G:=Lh (bt G.out hb);clear hb hB P0 P1;generalize (some (⟨w2.heap.size,0,none⟩:Addr))=a0 at A0 ⊢;have P0:=BB.out.cell 0 (by simp);have P1:=BB.out.cell 1 (by simp);simp only[List.getD_cons_zero,List.getD_cons_succ] at P0 P1;go_wp2_with fail
 refine(B1.out _).mono ?_;rintro e w4 ⟨rfl,hB,hb⟩;have A1:=Lh (show A4 w4 (some ⟨w3.heap.size,0,none⟩) X1 from hB.blk.at);replace A0:=Lh (A0.out.mono hb);replace G:=Lh (bt G.out hb);clear hb hB P0 P1 BB;generalize (some (⟨w3.heap.size,0,none⟩:Addr))=a1 at A1 ⊢;go_wp2_with fail
 refine(B2.out _).mono ?_;rintro e w5 ⟨rfl,hB,hb⟩;have A2:=Lh (show A4 w5 (some ⟨w4.heap.size,0,none⟩) X2 from hB.blk.at);replace A0:=Lh (A0.out.mono hb);replace A1:=Lh (A1.out.mono hb);replace G:=Lh (bt G.out hb);clear hb hB;generalize (some (⟨w4.heap.size,0,none⟩:Addr))=a2 at A2 ⊢;go_wp2_with fail
 refine(HD.out w5 G.out a0 a1 a2 A0.out A1.out A2.out).mono ?_;rintro e w6 ⟨b6,c6,rfl,hc,hat,hb⟩;have H:=Lh (And.intro hc (And.intro hat (bt G.out (bt (ba w5 _) hb))));clear hc hat hb;go_wp2_with fail
 go_ret;exact⟨b6,c6,rfl,H.out⟩
theorem Dm8(a b:Option Addr)(c d:Nat)(key nonce:List UInt8)(e0 e1 g:Nat)(hk:key.length≤1000)(hn:nonce.length≤1000)(hd:nonce.length≤d∧d≤maxLen)(h0:e0≤4611686018427387904)(h1:e1≤4611686018427387904)(hg:g≤2147483647)
 (w:World) (hkey:A4 w a key) (hno:A4 w b nonce):
 Calls Tryz.prog 47 #[.slice a key.length c,.agg #[.int .i64 e0,.int .i64 e1],.int .i64 g,.slice b nonce.length d] w (Ak3 w (Ah9 key e0 e1 g nonce)):=by
 have HD:=Lh (fun(W:World) (hb:Below w.heap.size w W) (a0 a1 a2:Option Addr) (k0:A4 W a0 (I7 e0 8)) (k1:A4 W a1 (I7 e1 8)) (k2:A4 W a2 (I7 g 4))=>
  (show Calls Tryz.prog 78 #[.slice a key.length c,.string Bj9,.slice (some ⟨W.heap.size,0,none⟩) 4 4] (W.alloc (.cells #[.slice a0 8 8,.slice a1 8 8,.slice a2 4 4,.slice b nonce.length d] 22)) (Bj8 (W.alloc (.cells #[.slice a0 8 8,.slice a1 8 8,.slice a2 4 4,.slice b nonce.length d] 22)) (Ah9 key e0 e1 g nonce)) from
    Bz3 a c key Bj9 (some ⟨W.heap.size,0,none⟩) 4 [I7 e0 8,I7 e1 8,I7 g 4,nonce] (by omega) (by decide) (by simp) (by simp only[Ac6,List.map_cons,List.map_nil,List.sum_cons,List.sum_nil,L9];omega) _ (hkey.mono (bt hb (ba W _))) (Cs3 (L9 _ _) (L9 _ _) (L9 _ _) hd ⟨k0,k1,k2,hno.mono hb⟩ _)))
 have N0:=Lh (fun W=>(show Calls Tryz.prog 57 #[.int .i64 (e0:Int)] W fun e w'=>e=.returned (.bool true)∧W=w' from by
  have h:=Bg3 (e0:Int) W;rw[show Ac4 (e0:Int)=true by unfold Ac4;simp;omega] at h;exact h))
 have N1:=Lh (fun W=>(show Calls Tryz.prog 57 #[.int .i64 (e1:Int)] W fun e w'=>e=.returned (.bool true)∧W=w' from by
  have h:=Bg3 (e1:Int) W;rw[show Ac4 (e1:Int)=true by unfold Ac4;simp;omega] at h;exact h))
 have q1:¬(g:Int)<0:=by omega
 have q2:¬(2147483647:Int)<(g:Int):=by omega
 have B0:=Lh (fun W=>Ai6 e0 8 (by decide) (by decide) (by omega) (by omega) W);have B1:=Lh (fun W=>Ai6 e1 8 (by decide) (by decide) (by omega) (by omega) W);have B2:=Lh (fun W=>Ai6 g 4 (by decide) (by decide) (by omega) (by omega) W);unfold Ax0 at B0 B1 B2;clear hkey hno hk hn hd h0 h1 hg;generalize Ah9 key e0 e1 g nonce=K at HD ⊢;generalize I7 e0 8=X0 at HD B0;generalize I7 e1 8=X1 at HD B1;generalize I7 g 4=X2 at HD B2;go_enter Tryz.func47,Tryz.ntmps47
 go_upto_region 1 with(fail)
 generalize hW:World.alloc w _=W;have P0:W.cell? ⟨w.heap.size,0,none⟩=some (.int .i64 (e0:Int)):=by rw[←hW];exact(Blk.new w [.int .i64 (e0:Int),.int .i64 (e1:Int)] _).cell 0 (by simp)
 have P1:W.cell? ⟨w.heap.size,1,none⟩=some (.int .i64 (e1:Int)):=by rw[←hW];exact(Blk.new w [.int .i64 (e0:Int),.int .i64 (e1:Int)] _).cell 1 (by simp)
 have BB:=Lh (show Blk W w.heap.size [.int .i64 (e0:Int),.int .i64 (e1:Int)] by rw[←hW];exact Blk.new w [.int .i64 (e0:Int),.int .i64 (e1:Int)] _);have G:=Lh (show Below w.heap.size w W by rw[←hW];exact ba w _);clear hW;generalize w.heap.size=n1 at P0 P1 BB;go_wp2_with fail
 refine(N0.out W).mono ?_;rintro e w1 ⟨rfl,rfl⟩;go_wp2_with fail
 refine(N1.out _).mono ?_;rintro e w2 ⟨rfl,rfl⟩;go_wp2_with fail
 refine(B0.out _).mono ?_;rintro e w3 ⟨rfl,hB,hb⟩;have A0:=Lh (show A4 w3 (some ⟨W.heap.size,0,none⟩) X0 from hB.blk.at);replace BB:=Lh (BB.out.up hb);replace G:=Lh (bt G.out hb);clear hb hB P0 P1;generalize (some (⟨W.heap.size,0,none⟩:Addr))=a0 at A0 ⊢;have P0:=BB.out.cell 0 (by simp);have P1:=BB.out.cell 1 (by simp);simp only[List.getD_cons_zero,List.getD_cons_succ] at P0 P1;go_wp2_with fail
 refine(B1.out _).mono ?_;rintro e w4 ⟨rfl,hB,hb⟩;have A1:=Lh (show A4 w4 (some ⟨w3.heap.size,0,none⟩) X1 from hB.blk.at);replace A0:=Lh (A0.out.mono hb);replace G:=Lh (bt G.out hb);clear hb hB P0 P1 BB;generalize (some (⟨w3.heap.size,0,none⟩:Addr))=a1 at A1 ⊢;go_wp2_with fail
 refine(B2.out _).mono ?_;rintro e w5 ⟨rfl,hB,hb⟩;have A2:=Lh (show A4 w5 (some ⟨w4.heap.size,0,none⟩) X2 from hB.blk.at);replace A0:=Lh (A0.out.mono hb);replace A1:=Lh (A1.out.mono hb);replace G:=Lh (bt G.out hb);clear hb hB;generalize (some (⟨w4.heap.size,0,none⟩:Addr))=a2 at A2 ⊢;go_wp2_with fail
 refine(HD.out w5 G.out a0 a1 a2 A0.out A1.out A2.out).mono ?_;rintro e w6 ⟨b6,c6,rfl,hc,hat,hb⟩;have H:=Lh (And.intro hc (And.intro hat (bt G.out (bt (ba w5 _) hb))));clear hc hat hb;go_wp2_with fail
 go_ret;exact⟨b6,c6,rfl,H.out⟩
theorem Bb4{a b:Nat}(ha:a<256)(hb:b<256)(h:G9 (a:Int)=G9 (b:Int)):a=b:=by
 have h1:bv (G9 (a:Int))=bv (G9 (b:Int)):=by rw[h]
 rw[←Al8,←Al8,Ap3 _ ha,Ap3 _ hb] at h1;omega
theorem Dt0{x y:List UInt8}{u v:List UInt8}(hx:x.length<65536)(hy:y.length<65536)(h:Av8 x++u=Av8 y++v):x=y∧u=v:=by
 unfold Av8 at h;simp only[List.cons_append,List.cons.injEq] at h;obtain⟨h1,h2,h3⟩:=h;rw[show(x.length:Int)/256=((x.length/256:Nat):Int) by omega,show(y.length:Int)/256=((y.length/256:Nat):Int) by omega] at h1;rw[←Ba8,←Ba8 (y.length:Int),show(x.length:Int)%256=((x.length%256:Nat):Int) by omega,show(y.length:Int)%256=((y.length%256:Nat):Int) by omega] at h2;have e1:=Bb4 (by omega) (by omega) h1;have e2:=Bb4 (by omega) (by omega) h2;exact List.append_inj h3 (by omega)
theorem By9:∀(p q:List (List UInt8)),(∀x∈p,x.length<65536)→(∀x∈q,x.length<65536)→(p.map Av8).flatten=(q.map Av8).flatten→p=q
 | [],[],_,_,_=>rfl
 | [],y::q,_,_,h=>by simp[Av8] at h
 | x::p,[],_,_,h=>by simp[Av8] at h
 | x::p,y::q,hp,hq,h=>by
   simp only[List.map_cons,List.flatten_cons] at h;obtain⟨h1,h2⟩:=Dt0 (hp x (by simp)) (hq y (by simp)) h;rw[h1,By9 p q (fun z hz=>hp z (by simp[hz])) (fun z hz=>hq z (by simp[hz])) h2]
theorem Cn5{rows:List (List UInt8)}{x:List UInt8}(h:x∈rows):x.length≤Ac6 rows:=by
 unfold Ac6
 induction rows with
 | nil=>simp at h
 | cons y rows ih=>
   simp only[List.map_cons,List.sum_cons];rcases List.mem_cons.1 h with rfl | h
   ·omega
   ·have:=ih h;omega
theorem Ec3{l m:List UInt8}{p q:List (List UInt8)}(hl:l.length≤255)(hm:m.length≤255)(hp:Ac6 p≤60000)(hq:Ac6 q≤60000)(h:Ah4 l p=Ah4 m q):l=m∧p=q:=by
 unfold Ah4 Af5 at h;rw[List.take_length,List.take_length] at h;simp only[List.cons.injEq] at h;have e:=Bb4 (by omega) (by omega) h.1;obtain⟨h1,h2⟩:=List.append_inj h.2 e;exact⟨h1,By9 p q (fun x hx=>by have:=Cn5 hx;omega) (fun x hx=>by have:=Cn5 hx;omega) h2⟩
theorem Bp6{n m z:Nat}(hn:n<256^z)(hm:m<256^z)(h:I7 n z=I7 m z):n=m:=by
 have h1:=Bn5 [] [] n z hn;have h2:=Bn5 [] [] m z hm;rw[h,h2] at h1;exact h1.symm
theorem Dt1{e0 e1 g f0 f1 h:Nat}{A B:List UInt8}(a0:e0≤4611686018427387904)(a1:e1≤4611686018427387904)(ag:g≤2147483647)(b0:f0≤4611686018427387904)(b1:f1≤4611686018427387904)(bg:h≤2147483647)(hA:A.length≤1000)(hB:B.length≤1000)
 (he:Af7 e0 e1 g A=Af7 f0 f1 h B):e0=f0∧e1=f1∧g=h∧A=B:=by
 unfold Af7 at he;have h1:=(Ec3 (by decide) (by decide) (by simp only[Ac6,List.map_cons,List.map_nil,List.sum_cons,List.sum_nil,L9];omega) (by simp only[Ac6,List.map_cons,List.map_nil,List.sum_cons,List.sum_nil,L9];omega) he).2;simp only[List.cons.injEq,and_true] at h1;exact⟨Bp6 (by omega) (by omega) h1.1,Bp6 (by omega) (by omega) h1.2.1,Bp6 (by omega) (by omega) h1.2.2.1,h1.2.2.2⟩
theorem Bt6(b:Option Addr)(d:Nat)(nonce:List UInt8)(e0 e1 g:Nat)(hn:nonce.length≤1000)(hd:nonce.length≤d∧d≤maxLen)(h0:e0≤4611686018427387904)(h1:e1≤4611686018427387904)(hg:g≤2147483647)(w:World)(hno:A4 w b nonce):
 Calls Tryz.prog 50 #[.agg #[.int .i64 e0,.int .i64 e1],.int .i64 g,.slice b nonce.length d] w (Ag4 w (Af7 e0 e1 g nonce)):=by
 have HD:=Lh (fun(W:World) (hb:Below w.heap.size w W) (a0 a1 a2:Option Addr) (k0:A4 W a0 (I7 e0 8)) (k1:A4 W a1 (I7 e1 8)) (k2:A4 W a2 (I7 g 4))=>
  (show Calls Tryz.prog 115 #[.string Bj9,.slice (some ⟨W.heap.size,0,none⟩) 4 4] (W.alloc (.cells #[.slice a0 8 8,.slice a1 8 8,.slice a2 4 4,.slice b nonce.length d] 22)) (Ag4 (W.alloc (.cells #[.slice a0 8 8,.slice a1 8 8,.slice a2 4 4,.slice b nonce.length d] 22)) (Af7 e0 e1 g nonce)) from
    Cd7 Bj9 (some ⟨W.heap.size,0,none⟩) 4 [I7 e0 8,I7 e1 8,I7 g 4,nonce] (by decide) (by simp) (by simp only[Ac6,List.map_cons,List.map_nil,List.sum_cons,List.sum_nil,L9];omega) _ (Cs3 (L9 _ _) (L9 _ _) (L9 _ _) hd ⟨k0,k1,k2,hno.mono hb⟩ _)))
 unfold Ag4 at HD;have B0:=Lh (fun W=>Ai6 e0 8 (by decide) (by decide) (by omega) (by omega) W);have B1:=Lh (fun W=>Ai6 e1 8 (by decide) (by decide) (by omega) (by omega) W);have B2:=Lh (fun W=>Ai6 g 4 (by decide) (by decide) (by omega) (by omega) W);unfold Ax0 at B0 B1 B2;clear hno hn hd h0 h1 hg;generalize Af7 e0 e1 g nonce=K at HD ⊢;generalize I7 e0 8=X0 at HD B0;generalize I7 e1 8=X1 at HD B1;generalize I7 g 4=X2 at HD B2;go_enter Tryz.func50,Tryz.ntmps50
 go_upto_region 1 with(fail)
 generalize hW:World.alloc w _=W;have P0:W.cell? ⟨w.heap.size,0,none⟩=some (.int .i64 (e0:Int)):=by rw[←hW];exact(Blk.new w [.int .i64 (e0:Int),.int .i64 (e1:Int)] _).cell 0 (by simp)
 have P1:W.cell? ⟨w.heap.size,1,none⟩=some (.int .i64 (e1:Int)):=by rw[←hW];exact(Blk.new w [.int .i64 (e0:Int),.int .i64 (e1:Int)] _).cell 1 (by simp)
 have BB:=Lh (show Blk W w.heap.size [.int .i64 (e0:Int),.int .i64 (e1:Int)] by rw[←hW];exact Blk.new w [.int .i64 (e0:Int),.int .i64 (e1:Int)] _);have G:=Lh (show Below w.heap.size w W by rw[←hW];exact ba w _);clear hW;generalize w.heap.size=n1 at P0 P1 BB;go_wp2_with fail
 refine(B0.out _).mono ?_;rintro e w3 ⟨rfl,hB,hb⟩;have A0:=Lh (show A4 w3 (some ⟨W.heap.size,0,none⟩) X0 from hB.blk.at);replace BB:=Lh (BB.out.up hb);replace G:=Lh (bt G.out hb);clear hb hB P0 P1;generalize (some (⟨W.heap.size,0,none⟩:Addr))=a0 at A0 ⊢;have P0:=BB.out.cell 0 (by simp);have P1:=BB.out.cell 1 (by simp);simp only[List.getD_cons_zero,List.getD_cons_succ] at P0 P1;go_wp2_with fail
 refine(B1.out _).mono ?_;rintro e w4 ⟨rfl,hB,hb⟩;have A1:=Lh (show A4 w4 (some ⟨w3.heap.size,0,none⟩) X1 from hB.blk.at);replace A0:=Lh (A0.out.mono hb);replace G:=Lh (bt G.out hb);clear hb hB P0 P1 BB;generalize (some (⟨w3.heap.size,0,none⟩:Addr))=a1 at A1 ⊢;go_wp2_with fail
 refine(B2.out _).mono ?_;rintro e w5 ⟨rfl,hB,hb⟩;have A2:=Lh (show A4 w5 (some ⟨w4.heap.size,0,none⟩) X2 from hB.blk.at);replace A0:=Lh (A0.out.mono hb);replace A1:=Lh (A1.out.mono hb);replace G:=Lh (bt G.out hb);clear hb hB;generalize (some (⟨w4.heap.size,0,none⟩:Addr))=a2 at A2 ⊢;go_wp2_with fail
 refine(HD.out w5 G.out a0 a1 a2 A0.out A1.out A2.out).mono ?_;rintro e w6 ⟨b6,c6,rfl,hat,hb⟩;have H:=Lh (And.intro hat (bt G.out (bt (ba w5 _) hb)));clear hat hb;go_wp2_with fail
 go_ret;exact⟨b6,c6,rfl,H.out⟩
def EpF(x y:Int):Prop:=0≤x∧0≤y∧x≤4611686018427387904∧y≤4611686018427387904
instance (x y:Int):Decidable (EpF x y):=by unfold EpF;infer_instance
theorem As4(x y:Int)(w:World):Calls Tryz.prog 49 #[.agg #[.int .i64 x,.int .i64 y]] w (G6 w (decide (EpF x y))):=by
 obtain⟨R,hR⟩:∃R,R=decide (EpF x y):=⟨_,rfl⟩;rw[←hR];by_cases h:EpF x y
 ·have hRt:R=true:=by rw[hR,decide_eq_true h]
  obtain⟨h1,h2,h3,h4⟩:=h;clear hR;subst hRt;go_enter Tryz.func49,Tryz.ntmps49
  go_wp2_with fail
  go_ret;exact⟨rfl,ba _ _⟩
 ·have hRf:R=false:=by rw[hR,decide_eq_false h]
  clear hR;subst hRf;by_cases h1:0≤x
  ·by_cases h2:0≤y
   ·by_cases h3:x≤4611686018427387904
    ·have h4:¬y≤4611686018427387904:=fun h4=>h ⟨h1,h2,h3,h4⟩;clear h;go_enter Tryz.func49,Tryz.ntmps49
     go_wp2_with fail
     go_ret;exact⟨rfl,ba _ _⟩
    ·clear h;go_enter Tryz.func49,Tryz.ntmps49
     go_wp2_with fail
     go_ret;exact⟨rfl,ba _ _⟩
   ·clear h;go_enter Tryz.func49,Tryz.ntmps49
    go_wp2_with fail
    go_ret;exact⟨rfl,ba _ _⟩
  ·clear h;go_enter Tryz.func49,Tryz.ntmps49
   go_wp2_with fail
   go_ret;exact⟨rfl,ba _ _⟩
end Go.Proofs.YtadpiemjgfndgaaGreatDoor
