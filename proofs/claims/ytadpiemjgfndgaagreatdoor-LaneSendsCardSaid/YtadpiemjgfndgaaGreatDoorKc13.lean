/- Proved here, for use further on: AskA AskB AskC AskD LanA LanB LanC LeC LfM LgD. Conditions: none but those each theorem names. -/
import Derived.Test.YtadpiemjgfndgaaGreatDoorKc00
import Derived.Test.YtadpiemjgfndgaaGreatDoorKc05
import Derived.Test.YtadpiemjgfndgaaGreatDoorKc10
import Derived.Test.YtadpiemjgfndgaaGreatDoorKc12
import Derived.Test.YtadpiemjgfndgaaGreatDoorKc11
set_option linter.unusedSimpArgs false
set_option linter.unusedVariables false
set_option maxRecDepth 100000
set_option maxHeartbeats 8000000
namespace Go.Proofs.YtadpiemjgfndgaaGreatDoor
open Go.RowKit
def As7(n:Int):Bool:=decide (n=1∨n=2∨n=101∨n=201∨n=301)
def Ay5(c s:Int)(n:Nat):Bool:=As7 c&&(decide (1≤s∧s≤999999∧1≤n∧n≤900))
theorem Co3(n:Int)(w:World):Calls Tryz.prog 188 #[.int .i64 n] w fun e w'=>e=.returned (.bool (As7 n))∧w=w':=by
 have HK:=Lh (show ∀b,(b=true↔(n=1∨n=2∨n=101∨n=201∨n=301))→b=As7 n from fun b h=>by unfold As7;rw[Bool.eq_iff_iff,h,decide_eq_true_iff]);go_enter Tryz.func188,Tryz.ntmps188
 go_wp2_with fail
 all_goals
  go_ret;refine⟨I5 (HK.out _ ?_),rfl⟩
  (try simp only[Bool.false_eq_true,false_iff,true_iff,iff_true,iff_false,decide_eq_true_eq,beq_iff_eq])
  (try simp only[beq_iff_eq,beq_eq_false_iff_ne,ne_eq] at *)
  first
   | omega
   | (simp only[Bool.or_eq_true,beq_iff_eq];omega)
theorem Cv6(n:Int)(w:World):Calls Tryz.prog 187 #[.int .i64 n] w fun e w'=>e=.returned (.bool (As7 n))∧w=w':=by
 have HK:=Lh (show ∀b,(b=true↔(n=1∨n=2∨n=101∨n=201∨n=301))→b=As7 n from fun b h=>by unfold As7;rw[Bool.eq_iff_iff,h,decide_eq_true_iff]);go_enter Tryz.func187,Tryz.ntmps187
 go_wp2_with fail
 all_goals
  go_ret;refine⟨I5 (HK.out _ ?_),rfl⟩
  (try simp only[Bool.false_eq_true,false_iff,true_iff,iff_true,iff_false,decide_eq_true_eq,beq_iff_eq])
  (try simp only[beq_iff_eq,beq_eq_false_iff_ne,ne_eq] at *)
  first
   | omega
   | (simp only[Bool.or_eq_true,beq_iff_eq];omega)
theorem Cv7(c s:Int)(a:Option Addr)(n cap:Nat)(w:World):Calls Tryz.prog 159 #[.int .i64 c,.int .i64 s,.slice a n cap] w fun e w'=>e=.returned (.bool (Ay5 c s n))∧w=w':=by
 have HK:=Lh (Co3 c);have HR:=Lh (show ∀b,(b=true↔(As7 c=true∧1≤s∧s≤999999∧1≤n∧n≤900))→b=Ay5 c s n from fun b h=>by unfold Ay5;rw[Bool.eq_iff_iff,h,Bool.and_eq_true,decide_eq_true_iff]);generalize hk:As7 c=k at *;clear hk;go_enter Tryz.func159,Tryz.ntmps159
 go_wp2_with fail
 refine(HK.out _).mono ?_;rintro e w1 ⟨rfl,rfl⟩;cases k with
 | false=>
   go_wp2_with fail
   go_ret;exact⟨I5 (HR.out _ (by simp)),rfl⟩
 | true=>
   go_wp2_with fail
   all_goals
    go_ret;refine⟨I5 (HR.out _ ?_),rfl⟩
    (try simp only[Bool.false_eq_true,false_iff,true_iff,iff_true,iff_false,true_and,decide_eq_true_eq,beq_iff_eq])
    omega
theorem Dc2(c s:Int)(a:Option Addr)(n cap:Nat)(w:World):Calls Tryz.prog 149 #[.int .i64 c,.int .i64 s,.slice a n cap] w fun e w'=>e=.returned (.bool (Ay5 c s n))∧w=w':=by
 have HK:=Lh (Cv6 c);have HR:=Lh (show ∀b,(b=true↔(As7 c=true∧1≤s∧s≤999999∧1≤n∧n≤900))→b=Ay5 c s n from fun b h=>by unfold Ay5;rw[Bool.eq_iff_iff,h,Bool.and_eq_true,decide_eq_true_iff]);generalize hk:As7 c=k at *;clear hk;go_enter Tryz.func149,Tryz.ntmps149
 go_wp2_with fail
 refine(HK.out _).mono ?_;rintro e w1 ⟨rfl,rfl⟩;cases k with
 | false=>
   go_wp2_with fail
   go_ret;exact⟨I5 (HR.out _ (by simp)),rfl⟩
 | true=>
   go_wp2_with fail
   all_goals
    go_ret;refine⟨I5 (HR.out _ ?_),rfl⟩
    (try simp only[Bool.false_eq_true,false_iff,true_iff,iff_true,iff_false,true_and,decide_eq_true_eq,beq_iff_eq])
    omega
structure Qn5 where
 code:Int
 stan:Int
 due:Int
 left:Int
 body:List UInt8
 deriving DecidableEq
abbrev M7(q:Qn5)(a:Option Addr)(c:Nat):List Value:=[.int .i64 q.code,.int .i64 q.stan,.int .i64 q.due,.int .i64 q.left,.slice a q.body.length c]
def Af4(p q:Qn5):Bool:=(p.code==q.code)&&((p.stan==q.stan)&&((p.due==q.due)&&((p.left==q.left)&&(p.body==q.body))))
theorem Aj4{w:World}{b:Nat}{v0 v1 v2 v3 v4:Value}(h:Blk w b [v0,v1,v2,v3,v4]):w.cell? ⟨b,0,none⟩=some v0∧w.cell? ⟨b,1,none⟩=some v1∧w.cell? ⟨b,2,none⟩=some v2∧w.cell? ⟨b,3,none⟩=some v3∧w.cell? ⟨b,4,none⟩=some v4:=
 ⟨h.cell 0 (by simp),h.cell 1 (by simp),h.cell 2 (by simp),h.cell 3 (by simp),h.cell 4 (by simp)⟩
theorem Bu6(p q:Qn5)(a b:Option Addr)(c d:Nat)(w:World)(hp:p.body.length≤maxLen)(hq:q.body.length≤maxLen)(ha:A4 w a p.body)(hb:A4 w b q.body):
 Calls Tryz.prog 106 #[.agg (M7 p a c).toArray,.agg (M7 q b d).toArray] w (F9 w (Af4 p q)):=by
 have HE:=Lh (fun(W:World) (h:Below w.heap.size w W)=>(show Calls Tryz.prog 101 #[.slice a p.body.length c,.slice b q.body.length d] W fun e w'=>e=.returned (.bool (p.body==q.body))∧W=w' from Ag4 _ _ _ _ _ _ p.body q.body W rfl rfl (ha.mono h) (hb.mono h)));have HS:=Lh (show ∀x,(x=true↔(p.code=q.code∧p.stan=q.stan∧p.due=q.due∧p.left=q.left∧(p.body==q.body)=true))→x=Af4 p q from fun x h=>by
  rw[Bool.eq_iff_iff,h];unfold Af4;simp only[Bool.and_eq_true,beq_iff_eq])
 clear ha hb hp hq;generalize (p.body==q.body)=E at HE HS;have FL:=Lh (show ¬(p.code=q.code∧p.stan=q.stan∧p.due=q.due∧p.left=q.left)→Af4 p q=false from fun h=>((HS.out false (by simp only[Bool.false_eq_true,false_iff];rintro⟨h1,h2,h3,h4,-⟩;exact h ⟨h1,h2,h3,h4⟩))).symm);have FT:=Lh (show p.code=q.code→p.stan=q.stan→p.due=q.due→p.left=q.left→Af4 p q=E from fun h1 h2 h3 h4=>(HS.out E ⟨fun h=>⟨h1,h2,h3,h4,h⟩,fun h=>h.2.2.2.2⟩).symm);clear HS;generalize Af4 p q=S at *;obtain⟨pc,ps,pd,pl,pb⟩:=p;obtain⟨qc,qs,qd,ql,qb⟩:=q;dsimp only[M7] at *;go_enter Tryz.func106,Tryz.ntmps106
 go_upto_region 1 with(fail)
 generalize hW:World.alloc _ _=W;obtain⟨B1,B2,hb⟩:=Aj8 (a:=[.int .i64 pc,.int .i64 ps,.int .i64 pd,.int .i64 pl,.slice a pb.length c]) (b:=[.int .i64 qc,.int .i64 qs,.int .i64 qd,.int .i64 ql,.slice b qb.length d]) hW;clear hW;generalize w.heap.size+1=n2 at B2 ⊢;obtain⟨x0,x1,x2,x3,x4⟩:=Aj4 B1;obtain⟨y0,y1,y2,y3,y4⟩:=Aj4 B2;have G:=Lh hb;clear B1 B2 hb;by_cases h1:pc=qc
 ·by_cases h2:ps=qs
  ·by_cases h3:pd=qd
   ·by_cases h4:pl=ql
    ·have HR:=Lh (FT.out h1 h2 h3 h4);subst h1 h2 h3 h4;clear FL FT;go_wp2_with fail
     refine(HE.out _ G.out).mono ?_;rintro e w2 ⟨rfl,rfl⟩;go_wp2_with fail
     go_ret;exact⟨I5 HR.out.symm,G.out⟩
    ·have HR:=Lh (FL.out (fun h=>h4 h.2.2.2));subst h1 h2 h3;clear FL FT HE;go_wp2_with fail
     go_ret;exact⟨I5 HR.out.symm,G.out⟩
   ·have HR:=Lh (FL.out (fun h=>h3 h.2.2.1));subst h1 h2;clear FL FT HE;go_wp2_with fail
    go_ret;exact⟨I5 HR.out.symm,G.out⟩
  ·have HR:=Lh (FL.out (fun h=>h2 h.2.1));subst h1;clear FL FT HE;go_wp2_with fail
   go_ret;exact⟨I5 HR.out.symm,G.out⟩
 ·have HR:=Lh (FL.out (fun h=>h1 h.1));clear FL FT HE;go_wp2_with fail
  go_ret;exact⟨I5 HR.out.symm,G.out⟩
theorem Dc3(p q:Qn5)(a b:Option Addr)(c d:Nat)(w:World)(hp:p.body.length≤maxLen)(hq:q.body.length≤maxLen)(ha:A4 w a p.body)(hb:A4 w b q.body):
 Calls Tryz.prog 72 #[.agg (M7 p a c).toArray,.agg (M7 q b d).toArray] w (F9 w (Af4 p q)):=by
 have HE:=Lh (fun(W:World) (h:Below w.heap.size w W)=>(show Calls Tryz.prog 25 #[.slice a p.body.length c,.slice b q.body.length d] W fun e w'=>e=.returned (.bool (p.body==q.body))∧W=w' from Ac1 a b _ c _ d p.body q.body W rfl rfl (ha.mono h) (hb.mono h)));have HS:=Lh (show ∀x,(x=true↔(p.code=q.code∧p.stan=q.stan∧p.due=q.due∧p.left=q.left∧(p.body==q.body)=true))→x=Af4 p q from fun x h=>by
  rw[Bool.eq_iff_iff,h];unfold Af4;simp only[Bool.and_eq_true,beq_iff_eq])
 clear ha hb hp hq;generalize (p.body==q.body)=E at HE HS;have FL:=Lh (show ¬(p.code=q.code∧p.stan=q.stan∧p.due=q.due∧p.left=q.left)→Af4 p q=false from fun h=>((HS.out false (by simp only[Bool.false_eq_true,false_iff];rintro⟨h1,h2,h3,h4,-⟩;exact h ⟨h1,h2,h3,h4⟩))).symm);have FT:=Lh (show p.code=q.code→p.stan=q.stan→p.due=q.due→p.left=q.left→Af4 p q=E from fun h1 h2 h3 h4=>(HS.out E ⟨fun h=>⟨h1,h2,h3,h4,h⟩,fun h=>h.2.2.2.2⟩).symm);clear HS;generalize Af4 p q=S at *;obtain⟨pc,ps,pd,pl,pb⟩:=p;obtain⟨qc,qs,qd,ql,qb⟩:=q;dsimp only[M7] at *;go_enter Tryz.func72,Tryz.ntmps72
 go_upto_region 1 with(fail)
 generalize hW:World.alloc _ _=W;obtain⟨B1,B2,hb⟩:=Aj8 (a:=[.int .i64 pc,.int .i64 ps,.int .i64 pd,.int .i64 pl,.slice a pb.length c]) (b:=[.int .i64 qc,.int .i64 qs,.int .i64 qd,.int .i64 ql,.slice b qb.length d]) hW;clear hW;generalize w.heap.size+1=n2 at B2 ⊢;obtain⟨x0,x1,x2,x3,x4⟩:=Aj4 B1;obtain⟨y0,y1,y2,y3,y4⟩:=Aj4 B2;have G:=Lh hb;clear B1 B2 hb;by_cases h1:pc=qc
 ·by_cases h2:ps=qs
  ·by_cases h3:pd=qd
   ·by_cases h4:pl=ql
    ·have HR:=Lh (FT.out h1 h2 h3 h4);subst h1 h2 h3 h4;clear FL FT;go_wp2_with fail
     refine(HE.out _ G.out).mono ?_;rintro e w2 ⟨rfl,rfl⟩;go_wp2_with fail
     go_ret;exact⟨I5 HR.out.symm,G.out⟩
    ·have HR:=Lh (FL.out (fun h=>h4 h.2.2.2));subst h1 h2 h3;clear FL FT HE;go_wp2_with fail
     go_ret;exact⟨I5 HR.out.symm,G.out⟩
   ·have HR:=Lh (FL.out (fun h=>h3 h.2.2.1));subst h1 h2;clear FL FT HE;go_wp2_with fail
    go_ret;exact⟨I5 HR.out.symm,G.out⟩
  ·have HR:=Lh (FL.out (fun h=>h2 h.2.1));subst h1;clear FL FT HE;go_wp2_with fail
   go_ret;exact⟨I5 HR.out.symm,G.out⟩
 ·have HR:=Lh (FL.out (fun h=>h1 h.1));clear FL FT HE;go_wp2_with fail
  go_ret;exact⟨I5 HR.out.symm,G.out⟩
def As2(q:Qn5):Bool:=Af4 q ⟨0,0,0,0,[]⟩
def Ai8(q:Qn5):Bool:=As2 q || (Ay5 q.code q.stan q.body.length&&decide (1≤q.due∧q.due≤8∧0≤q.left∧q.left≤3))
theorem Cv8(q:Qn5)(a:Option Addr)(c:Nat)(w:World)(hq:q.body.length≤maxLen)(ha:A4 w a q.body):
 Calls Tryz.prog 158 #[.agg (M7 q a c).toArray] w (F9 w (As2 q)):=by
 have HS:=Lh (fun(W:World) (h:Below w.heap.size w W)=>(show Calls Tryz.prog 106 #[.agg (M7 q a c).toArray,.agg #[.int .i64 0,.int .i64 0,.int .i64 0,.int .i64 0,.slice none 0 0]] W (F9 W (As2 q)) from Bu6 q ⟨0,0,0,0,[]⟩ a none c 0 W hq (Nat.zero_le _) (ha.mono h) (.inl rfl)));clear ha hq;generalize As2 q=S at *;go_enter Tryz.func158,Tryz.ntmps158
 go_wp2_with fail
 refine(HS.out _ (ba w _)).mono ?_;rintro e w2 ⟨rfl,hb⟩;go_wp2_with fail
 go_ret;exact⟨rfl,bt (ba w _) hb⟩
theorem Dc4(q:Qn5)(a:Option Addr)(c:Nat)(w:World)(hq:q.body.length≤maxLen)(ha:A4 w a q.body):
 Calls Tryz.prog 148 #[.agg (M7 q a c).toArray] w (F9 w (As2 q)):=by
 have HR:=Lh (show ∀b,(b=true↔(q.code=0∧q.stan=0∧q.due=0∧q.left=0∧q.body.length=0))→b=As2 q from fun b h=>by
  rw[Bool.eq_iff_iff,h];unfold As2 Af4;simp only[Bool.and_eq_true,beq_iff_eq,List.length_eq_zero_iff])
 clear ha hq;generalize As2 q=S at *;obtain⟨q0,q1,q2,q3,l⟩:=q;dsimp only[M7] at *;generalize l.length=n at *;go_enter Tryz.func148,Tryz.ntmps148
 go_upto_region 1 with(fail)
 generalize hW:World.alloc w _=W;have G:=Lh (show Below w.heap.size w W by rw[←hW];exact ba w _);obtain⟨x0,x1,x2,x3,x4⟩:=Aj4 (show Blk W w.heap.size [.int .i64 q0,.int .i64 q1,.int .i64 q2,.int .i64 q3,.slice a n c] by rw[←hW];exact Blk.new w [.int .i64 q0,.int .i64 q1,.int .i64 q2,.int .i64 q3,.slice a n c] _);clear hW;go_wp2_with fail
 all_goals
  go_ret;refine⟨I5 (HR.out _ ?_),G.out⟩
  (try simp only[Bool.false_eq_true,false_iff,true_iff,iff_true,iff_false,decide_eq_true_eq,beq_iff_eq,Bool.and_eq_true])
  (try simp only[beq_iff_eq,beq_eq_false_iff_ne,ne_eq] at *)
  first
   | omega
   | (simp only[Bool.and_eq_true,beq_iff_eq];omega)
theorem Co4(q:Qn5)(a:Option Addr)(c:Nat)(w:World)(hq:q.body.length≤maxLen)(ha:A4 w a q.body):
 Calls Tryz.prog 96 #[.agg (M7 q a c).toArray] w (F9 w (Ai8 q)):=by
 have HN:=Lh (fun(W:World) (h:Below w.heap.size w W)=>(show Calls Tryz.prog 158 #[.agg #[.int .i64 q.code,.int .i64 q.stan,.int .i64 q.due,.int .i64 q.left,.slice a q.body.length c]] W (F9 W (As2 q)) from Cv8 q a c W hq (ha.mono h)));have HF:=Lh (fun W=>Cv7 q.code q.stan a q.body.length c W);have HR:=Lh (show ∀b,(b=true↔(As2 q=true∨(Ay5 q.code q.stan q.body.length=true∧1≤q.due∧q.due≤8∧0≤q.left∧q.left≤3)))→b=Ai8 q from fun b h=>by
  rw[Bool.eq_iff_iff,h];unfold Ai8;simp only[Bool.and_eq_true,Bool.or_eq_true,decide_eq_true_eq])
 clear ha hq;generalize As2 q=S at *;generalize Ai8 q=R at *;obtain⟨q0,q1,q2,q3,l⟩:=q;dsimp only[M7] at *;generalize l.length=n at *;generalize Ay5 q0 q1 n=F at *;go_enter Tryz.func96,Tryz.ntmps96
 go_upto_region 1 with(fail)
 generalize hW:World.alloc w _=W;have G:=Lh (show Below w.heap.size w W by rw[←hW];exact ba w _);have B:=Lh (show Blk W w.heap.size [.int .i64 q0,.int .i64 q1,.int .i64 q2,.int .i64 q3,.slice a n c] by rw[←hW];exact Blk.new w [.int .i64 q0,.int .i64 q1,.int .i64 q2,.int .i64 q3,.slice a n c] _);obtain⟨x0,x1,x2,x3,x4⟩:=Aj4 B.out;clear hW;go_wp2_with fail
 refine(HN.out _ G.out).mono ?_;rintro e w2 ⟨rfl,hb⟩;clear x0 x1 x2 x3 x4;obtain⟨x0,x1,x2,x3,x4⟩:=Aj4 (B.out.up hb);have G2:=Lh (bt G.out hb);clear B hb;cases S with
 | true=>
   go_wp2_with fail
   go_ret;exact⟨I5 (HR.out _ (by simp)),G2.out⟩
 | false=>
   go_wp2_with fail
   refine(HF.out _).mono ?_;rintro e w3 ⟨rfl,rfl⟩;cases F with
   | false=>
     go_wp2_with fail
     go_ret;exact⟨I5 (HR.out _ (by simp)),G2.out⟩
   | true=>
     go_wp2_with fail
     all_goals
      go_ret;refine⟨I5 (HR.out _ ?_),G2.out⟩
      (try simp only[Bool.false_eq_true,false_iff,true_iff,iff_true,iff_false,true_and,false_or,decide_eq_true_eq,Bool.and_eq_true])
      omega
theorem Cv9(q:Qn5)(a:Option Addr)(c:Nat)(w:World)(hq:q.body.length≤maxLen)(ha:A4 w a q.body):
 Calls Tryz.prog 83 #[.agg (M7 q a c).toArray] w (F9 w (Ai8 q)):=by
 have HN:=Lh (fun(W:World) (h:Below w.heap.size w W)=>(show Calls Tryz.prog 148 #[.agg #[.int .i64 q.code,.int .i64 q.stan,.int .i64 q.due,.int .i64 q.left,.slice a q.body.length c]] W (F9 W (As2 q)) from Dc4 q a c W hq (ha.mono h)));have HF:=Lh (fun W=>Dc2 q.code q.stan a q.body.length c W);have HR:=Lh (show ∀b,(b=true↔(As2 q=true∨(Ay5 q.code q.stan q.body.length=true∧1≤q.due∧q.due≤8∧0≤q.left∧q.left≤3)))→b=Ai8 q from fun b h=>by
  rw[Bool.eq_iff_iff,h];unfold Ai8;simp only[Bool.and_eq_true,Bool.or_eq_true,decide_eq_true_eq])
 clear ha hq;generalize As2 q=S at *;generalize Ai8 q=R at *;obtain⟨q0,q1,q2,q3,l⟩:=q;dsimp only[M7] at *;generalize l.length=n at *;generalize Ay5 q0 q1 n=F at *;go_enter Tryz.func83,Tryz.ntmps83
 go_upto_region 1 with(fail)
 generalize hW:World.alloc w _=W;have G:=Lh (show Below w.heap.size w W by rw[←hW];exact ba w _);have B:=Lh (show Blk W w.heap.size [.int .i64 q0,.int .i64 q1,.int .i64 q2,.int .i64 q3,.slice a n c] by rw[←hW];exact Blk.new w [.int .i64 q0,.int .i64 q1,.int .i64 q2,.int .i64 q3,.slice a n c] _);obtain⟨x0,x1,x2,x3,x4⟩:=Aj4 B.out;clear hW;go_wp2_with fail
 refine(HN.out _ G.out).mono ?_;rintro e w2 ⟨rfl,hb⟩;clear x0 x1 x2 x3 x4;obtain⟨x0,x1,x2,x3,x4⟩:=Aj4 (B.out.up hb);have G2:=Lh (bt G.out hb);clear B hb;go_wp2_with fail
 refine(HF.out _).mono ?_;rintro e w3 ⟨rfl,rfl⟩;cases S with
 | true=>
   go_wp2_with fail
   go_ret;exact⟨I5 (HR.out _ (by simp)),G2.out⟩
 | false=>
   cases F with
   | false=>
     go_wp2_with fail
     go_ret;exact⟨I5 (HR.out _ (by simp)),G2.out⟩
   | true=>
     go_wp2_with fail
     all_goals
      go_ret;refine⟨I5 (HR.out _ ?_),G2.out⟩
      (try simp only[Bool.false_eq_true,false_iff,true_iff,iff_true,iff_false,true_and,false_or,decide_eq_true_eq,Bool.and_eq_true])
      omega
def U5(n:Int):Bool:=decide (0≤n∧n≤4611686018427387904)
def Q5(n:Nat):Bool:=decide (1≤n∧n≤900)
def Ad7(p:Int):Int:=if p=1 then 1 else if p=4 then 101 else if p=5 then 201 else if p=6 then 2 else 0
theorem Ay6(n:Int)(w:World):Calls Tryz.prog 57 #[.int .i64 n] w fun e w'=>e=.returned (.bool (U5 n))∧w=w':=by
 have HK:=Lh (show ∀b,(b=true↔(0≤n∧n≤4611686018427387904))→b=U5 n from fun b h=>by unfold U5;rw[Bool.eq_iff_iff,h,decide_eq_true_iff]);go_enter Tryz.func57,Tryz.ntmps57
 go_wp2_with fail
 all_goals
  go_ret;refine⟨I5 (HK.out _ ?_),rfl⟩
  (try simp only[Bool.false_eq_true,false_iff,true_iff,iff_true,iff_false,decide_eq_true_eq,Bool.and_eq_true])
  omega
theorem Bp7(a:Option Addr)(n cap:Nat)(w:World):Calls Tryz.prog 55 #[.slice a n cap] w fun e w'=>e=.returned (.bool (Q5 n))∧w=w':=by
 have HK:=Lh (show ∀b,(b=true↔(1≤n∧n≤900))→b=Q5 n from fun b h=>by unfold Q5;rw[Bool.eq_iff_iff,h,decide_eq_true_iff]);go_enter Tryz.func55,Tryz.ntmps55
 go_wp2_with fail
 all_goals
  go_ret;refine⟨I5 (HK.out _ ?_),rfl⟩
  (try simp only[Bool.false_eq_true,false_iff,true_iff,iff_true,iff_false,decide_eq_true_eq,Bool.and_eq_true])
  omega
theorem Co5(p:Int)(w:World):Calls Tryz.prog 164 #[.int .i64 p] w fun e w'=>e=.returned (.int .i64 (Ad7 p))∧w=w':=by
 by_cases h1:p=1
 ·subst h1;go_enter Tryz.func164,Tryz.ntmps164
  go_wp2_with fail
  go_ret;exact⟨rfl,rfl⟩
 by_cases h4:p=4
 ·subst h4;go_enter Tryz.func164,Tryz.ntmps164
  go_wp2_with fail
  go_ret;exact⟨rfl,rfl⟩
 by_cases h5:p=5
 ·subst h5;go_enter Tryz.func164,Tryz.ntmps164
  go_wp2_with fail
  go_ret;exact⟨rfl,rfl⟩
 by_cases h6:p=6
 ·subst h6;go_enter Tryz.func164,Tryz.ntmps164
  go_wp2_with fail
  go_ret;exact⟨rfl,rfl⟩
 have HA:Ad7 p=0:=by unfold Ad7;rw[if_neg h1,if_neg h4,if_neg h5,if_neg h6]
 rw[HA];have e1:(p==1)=false:=by rw[beq_eq_false_iff_ne];exact h1
 have e4:(p==4)=false:=by rw[beq_eq_false_iff_ne];exact h4
 have e5:(p==5)=false:=by rw[beq_eq_false_iff_ne];exact h5
 have e6:(p==6)=false:=by rw[beq_eq_false_iff_ne];exact h6
 go_enter Tryz.func164,Tryz.ntmps164
 go_wp2_with fail
 go_ret;exact⟨rfl,rfl⟩
def Ad5(hi:Int)(l:List Int):Bool:=l.all fun n=>decide (0≤n∧n≤hi)
theorem Dy9{hi:Int}{l:List Int}(j:Nat)(h:j<l.length)(hn:¬(0≤l[j]∧l[j]≤hi)):Ad5 hi l=false:=by
 rw[Bool.eq_false_iff];intro hall;unfold Ad5 at hall;rw[List.all_eq_true] at hall;exact hn (by simpa using hall l[j] (List.getElem_mem h))
theorem Dc5{hi:Int}{l:List Int}(h:∀j (hj:j<l.length),0≤l[j]∧l[j]≤hi):Ad5 hi l=true:=by
 unfold Ad5;rw[List.all_eq_true];intro x hx;obtain⟨j,hj,rfl⟩:=List.mem_iff_getElem.1 hx
 simpa using h j hj
theorem Bk7(hi:Int)(g c:Nat)(l:List Int)(w:World)(hl:l.length≤100)(hb:Blk w g (l.map (Value.int .i64))):
 Calls Tryz.prog 54 #[.int .i64 hi,.slice (some ⟨g,0,none⟩) l.length c] w fun e w'=>e=.returned (.bool (Ad5 hi l))∧w=w':=by
 have HX:=Lh (show ∀j,j<l.length→∃x,w.cell? ⟨g,j,none⟩=some (.int .i64 x)∧(¬(0≤x∧x≤hi)→Ad5 hi l=false)∧l.getD j 0=x from fun j hj=>⟨l[j],by
  rw[hb.cell j (by rw[List.length_map];exact hj)];simp[List.getD,List.getElem?_eq_getElem hj],fun h=>Dy9 j hj h,by simp[List.getD,List.getElem?_eq_getElem hj]⟩)
 have HY:=Lh (show(∀j,j<l.length→0≤l.getD j 0∧l.getD j 0≤hi)→Ad5 hi l=true from fun h=>Dc5 fun j hj=>by have:=h j hj;simpa [List.getD,List.getElem?_eq_getElem hj] using this);generalize Ad5 hi l=R at *;clear hb;generalize hn:l.length=n at *;go_enter Tryz.func54,Tryz.ntmps54
 go_wp2_with fail
 go_loopw [9] (fun v9 wx=>∃j:Nat,j≤n∧v9=.int .i64 (j:Int)∧(∀i,i<j→0≤l.getD i 0∧l.getD i 0≤hi)∧w=wx) (fun v9 _=>n-(intOf v9).toNat)
 case atStart=>exact⟨0,Nat.zero_le _,rfl,fun i h=>absurd h (Nat.not_lt_zero _),rfl⟩
 case round=>
  obtain⟨j,hj,rfl,hz,rfl⟩:=hrel;have HZ:=Lh hz;clear hz;by_cases hlt:j<n
  ·obtain⟨x,gx,hno,hxe⟩:=HX.out j hlt;have HN:=Lh hno;have HE:=Lh hxe;have k1:(j:Int)<(n:Int):=by omega
   have k0:(0:Int)≤(j:Int):=by omega
   clear hno hxe;by_cases hx:0≤x∧x≤hi
   ·have a1:¬x<0:=by omega
    have a2:¬hi<x:=by omega
    have HX2:=Lh hx;clear hx;go_wp2_with fail
    refine⟨⟨j+1,hlt,by go_num,fun i hi2=>by
     by_cases e:i=j
     ·subst e;rw[HE.out];exact HX2.out
     ·exact HZ.out i (by omega),by first | rfl | trivial⟩,?_⟩
    simp[intOf];omega
   ·have hf:=HN.out hx;subst hf;by_cases a1:x<0
    ·clear hx;go_wp2_with fail
     go_ret;first | exact⟨rfl,rfl⟩ | trivial
    ·have a2:hi<x:=by omega
     clear hx;go_wp2_with fail
     go_ret;first | exact⟨rfl,rfl⟩ | trivial
  ·have k1:¬(j:Int)<(n:Int):=by omega
   have hf:=HY.out (fun i hi2=>HZ.out i (by omega));subst hf;go_wp2_with fail
   go_ret;first | exact⟨rfl,rfl⟩ | trivial
theorem Bd9(p:Int)(hp:0≤p∧p≤8)(w:World):Calls Tryz.prog 152 #[.int .i64 p] w fun e w'=>e=.returned (.int .i64 (Ad7 p))∧Below w.heap.size w w':=by
 have hc:p=0∨p=1∨p=2∨p=3∨p=4∨p=5∨p=6∨p=7∨p=8:=by omega
 clear hp;rcases hc with rfl | rfl | rfl | rfl | rfl | rfl | rfl | rfl | rfl;all_goals
  go_enter Tryz.func152,Tryz.ntmps152
  go_wp2_with fail
  go_ret;exact⟨rfl,ba w _⟩
abbrev Ev1:ByteArray:=⟨#[98,97,115,101]⟩
abbrev Ev2:ByteArray:=⟨#[108,105,110,107]⟩
def Ae5(key:List UInt8):List UInt8:=As9 key (Au4 [98,97,115,101] [])
def Fl0(e0 e1 g:Nat)(nonce:List UInt8):List UInt8:=Au4 [108,105,110,107] [J7 e0 8,J7 e1 8,J7 g 4,nonce]
def Bg2(key:List UInt8)(e0 e1 g:Nat)(nonce:List UInt8):List UInt8:=As9 key (Fl0 e0 e1 g nonce)
theorem Ao7(key:List UInt8):(Ae5 key).length=32:=Bm3 _ _
theorem Eq6(key:List UInt8)(e0 e1 g:Nat)(nonce:List UInt8):(Bg2 key e0 e1 g nonce).length=32:=Bm3 _ _
theorem Bg3(a:Option Addr)(c:Nat)(key:List UInt8)(hk:key.length≤1000)(w:World)(hkey:A4 w a key)(hks:Q4 w):
 Calls Tryz.prog 45 #[.slice a key.length c] w (Ap2 w (Ae5 key)):=by
 have HD:=Lh (Cl9 a c key Ev1 none 0 [] (by omega) (by decide) (by decide) (by decide) w hkey (W6.nil w none) hks);clear hkey hks hk;go_enter Tryz.func45,Tryz.ntmps45
 go_wp2_with fail
 refine HD.out.mono ?_;rintro e w2 ⟨b,cb,rfl,hc,hb,hbel⟩;have H:=Lh (And.intro hc (And.intro hb hbel));clear hc hb hbel;go_wp2_with fail
 go_ret;exact⟨b,cb,rfl,H.out⟩
theorem Cx8(a:Option Addr)(c:Nat)(key:List UInt8)(hk:key.length≤1000)(w:World)(hkey:A4 w a key):
 Calls Tryz.prog 30 #[.slice a key.length c] w (Ap2 w (Ae5 key)):=by
 have HD:=Lh (Bp2 a c key Ev1 none 0 [] (by omega) (by decide) (by decide) (by decide) w hkey (W6.nil w none));clear hkey hk;go_enter Tryz.func30,Tryz.ntmps30
 go_wp2_with fail
 refine HD.out.mono ?_;rintro e w2 ⟨b,cb,rfl,hc,hb,hbel⟩;have H:=Lh (And.intro hc (And.intro hb hbel));clear hc hb hbel;go_wp2_with fail
 go_ret;exact⟨b,cb,rfl,H.out⟩
theorem Fl1{W:World}{a0 a1 a2 a3:Option Addr}{c3:Nat}{r0 r1 r2 r3:List UInt8}(l0:r0.length=8)(l1:r1.length=8)(l2:r2.length=4)(h3:r3.length≤c3∧c3≤maxLen)
 (h:A4 W a0 r0∧A4 W a1 r1∧A4 W a2 r2∧A4 W a3 r3) (T:TypeId):
 W6 (W.alloc (.cells #[.slice a0 8 8,.slice a1 8 8,.slice a2 4 4,.slice a3 r3.length c3] T)) (some ⟨W.heap.size,0,none⟩) [r0,r1,r2,r3]:=by
 have hb:=ba W (.cells #[.slice a0 8 8,.slice a1 8 8,.slice a2 4 4,.slice a3 r3.length c3] T);refine⟨[.slice a0 8 8,.slice a1 8 8,.slice a2 4 4,.slice a3 r3.length c3],U4 W _ T,rfl,fun i hi=>?_⟩;have h4:i=0∨i=1∨i=2∨i=3:=by simp at hi;omega
 rcases h4 with rfl | rfl | rfl | rfl
 ·exact⟨a0,8,by rw[←l0];rfl,by rw[show([r0,r1,r2,r3]:List (List UInt8)).getD 0 []=r0 from rfl,l0];exact Nat.le_refl _,by decide,h.1.mono hb⟩
 ·exact⟨a1,8,by rw[show([r0,r1,r2,r3]:List (List UInt8)).getD 1 []=r1 from rfl,l1];rfl,by rw[show([r0,r1,r2,r3]:List (List UInt8)).getD 1 []=r1 from rfl,l1];exact Nat.le_refl _,by decide,h.2.1.mono hb⟩
 ·exact⟨a2,4,by rw[show([r0,r1,r2,r3]:List (List UInt8)).getD 2 []=r2 from rfl,l2];rfl,by rw[show([r0,r1,r2,r3]:List (List UInt8)).getD 2 []=r2 from rfl,l2];exact Nat.le_refl _,by decide,h.2.2.1.mono hb⟩
 ·exact⟨a3,c3,rfl,h3.1,h3.2,h.2.2.2.mono hb⟩
theorem Bn8{hi:Int}{l:List Int}(r:Bool)(hr:Ad5 hi l=r)(n:Nat)(hn:l.length=n)(hl:n≤100)(W:World)(xs:Array Value)(hxs:xs=(l.map (Value.int .i64)).toArray):
 Calls Tryz.prog 54 #[.int .i64 hi,.slice (some ⟨W.heap.size,0,none⟩) n n] (W.alloc (.cells xs 3)) fun e w'=>e=.returned (.bool r)∧Below W.heap.size W w':=by
 subst hn hxs;exact(Bk7 hi W.heap.size l.length l (W.alloc (.cells (l.map (Value.int .i64)).toArray 3)) hl (Blk.new W _ _)).mono fun e w' h=>⟨by rw[h.1,←hr],by rw[←h.2];exact ba W _⟩
theorem Ed0(a b:Option Addr)(c d:Nat)(key nonce:List UInt8)(e0 e1 g:Nat)(hk:key.length≤1000)(hn:nonce.length≤1000)(hd:nonce.length≤d∧d≤maxLen)(h0:e0≤4611686018427387904)(h1:e1≤4611686018427387904)(hg:g≤2147483647)
 (w:World) (hkey:A4 w a key) (hno:A4 w b nonce):
 Calls Tryz.prog 47 #[.slice a key.length c,.agg #[.int .i64 e0,.int .i64 e1],.int .i64 g,.slice b nonce.length d] w (Ap2 w (Bg2 key e0 e1 g nonce)):=by
 have HD:=Lh (fun(W:World) (hb:Below w.heap.size w W) (a0 a1 a2:Option Addr) (k0:A4 W a0 (J7 e0 8)) (k1:A4 W a1 (J7 e1 8)) (k2:A4 W a2 (J7 g 4))=>
  (show Calls Tryz.prog 78 #[.slice a key.length c,.string Ev2,.slice (some ⟨W.heap.size,0,none⟩) 4 4] (W.alloc (.cells #[.slice a0 8 8,.slice a1 8 8,.slice a2 4 4,.slice b nonce.length d] 22)) (Cg8 (W.alloc (.cells #[.slice a0 8 8,.slice a1 8 8,.slice a2 4 4,.slice b nonce.length d] 22)) (Bg2 key e0 e1 g nonce)) from
    Bp2 a c key Ev2 (some ⟨W.heap.size,0,none⟩) 4 [J7 e0 8,J7 e1 8,J7 g 4,nonce] (by omega) (by decide) (by simp) (by simp only[Ao0,List.map_cons,List.map_nil,List.sum_cons,List.sum_nil,U0];omega) _ (hkey.mono (bt hb (ba W _))) (Fl1 (U0 _ _) (U0 _ _) (U0 _ _) hd ⟨k0,k1,k2,hno.mono hb⟩ _)))
 have N0:=Lh (fun W=>(show Calls Tryz.prog 57 #[.int .i64 (e0:Int)] W fun e w'=>e=.returned (.bool true)∧W=w' from by
  have h:=Ay6 (e0:Int) W;rw[show U5 (e0:Int)=true by unfold U5;simp;omega] at h;exact h))
 have N1:=Lh (fun W=>(show Calls Tryz.prog 57 #[.int .i64 (e1:Int)] W fun e w'=>e=.returned (.bool true)∧W=w' from by
  have h:=Ay6 (e1:Int) W;rw[show U5 (e1:Int)=true by unfold U5;simp;omega] at h;exact h))
 have q1:¬(g:Int)<0:=by omega
 have q2:¬(2147483647:Int)<(g:Int):=by omega
 have B0:=Lh (fun W=>Az0 e0 8 (by decide) (by decide) (by omega) (by omega) W);have B1:=Lh (fun W=>Az0 e1 8 (by decide) (by decide) (by omega) (by omega) W);have B2:=Lh (fun W=>Az0 g 4 (by decide) (by decide) (by omega) (by omega) W);unfold Bq3 at B0 B1 B2;clear hkey hno hk hn hd h0 h1 hg;generalize Bg2 key e0 e1 g nonce=K at HD ⊢;generalize J7 e0 8=X0 at HD B0;generalize J7 e1 8=X1 at HD B1;generalize J7 g 4=X2 at HD B2;go_enter Tryz.func47,Tryz.ntmps47
 go_upto_region 1 with(fail)
 generalize hW:World.alloc w _=W;have P0:W.cell? ⟨w.heap.size,0,none⟩=some (.int .i64 (e0:Int)):=by rw[←hW];exact(Blk.new w [.int .i64 (e0:Int),.int .i64 (e1:Int)] _).cell 0 (by simp)
 have P1:W.cell? ⟨w.heap.size,1,none⟩=some (.int .i64 (e1:Int)):=by rw[←hW];exact(Blk.new w [.int .i64 (e0:Int),.int .i64 (e1:Int)] _).cell 1 (by simp)
 have BB:=Lh (show Blk W w.heap.size [.int .i64 (e0:Int),.int .i64 (e1:Int)] by rw[←hW];exact Blk.new w [.int .i64 (e0:Int),.int .i64 (e1:Int)] _);have G:=Lh (show Below w.heap.size w W by rw[←hW];exact ba w _);clear hW;generalize w.heap.size=n1 at P0 P1 BB;go_wp2_with fail
 refine(N0.out W).mono ?_;rintro e w1 ⟨rfl,rfl⟩;go_wp2_with fail
 refine(N1.out _).mono ?_;rintro e w2 ⟨rfl,rfl⟩;go_wp2_with fail
 refine(B0.out _).mono ?_;rintro e w3 ⟨rfl,hB,hb⟩;have A0:=Lh (show A4 w3 (some ⟨W.heap.size,0,none⟩) X0 from hB.blk.at);replace BB:=Lh (BB.out.up hb);replace G:=Lh (bt G.out hb);clear hb hB P0 P1;generalize (some (⟨W.heap.size,0,none⟩:Addr))=a0 at A0 ⊢;have P0:=BB.out.cell 0 (by simp);have P1:=BB.out.cell 1 (by simp);simp only[List.getD_cons_zero,List.getD_cons_succ] at P0 P1;go_wp2_with fail
 refine(B1.out _).mono ?_;rintro e w4 ⟨rfl,hB,hb⟩;have A1:=Lh (show A4 w4 (some ⟨w3.heap.size,0,none⟩) X1 from hB.blk.at);replace A0:=Lh (A0.out.mono hb);replace G:=Lh (bt G.out hb);clear hb hB P0 P1 BB;generalize (some (⟨w3.heap.size,0,none⟩:Addr))=a1 at A1 ⊢;go_wp2_with fail
 refine(B2.out _).mono ?_;rintro e w5 ⟨rfl,hB,hb⟩;have A2:=Lh (show A4 w5 (some ⟨w4.heap.size,0,none⟩) X2 from hB.blk.at);replace A0:=Lh (A0.out.mono hb);replace A1:=Lh (A1.out.mono hb);replace G:=Lh (bt G.out hb);clear hb hB;generalize (some (⟨w4.heap.size,0,none⟩:Addr))=a2 at A2 ⊢;go_wp2_with fail
 refine(HD.out w5 G.out a0 a1 a2 A0.out A1.out A2.out).mono ?_;rintro e w6 ⟨b6,c6,rfl,hc,hat,hb⟩;have H:=Lh (And.intro hc (And.intro hat (bt G.out (bt (ba w5 _) hb))));clear hc hat hb;go_wp2_with fail
 go_ret;exact⟨b6,c6,rfl,H.out⟩
def EpF(x y:Int):Prop:=0≤x∧0≤y∧x≤4611686018427387904∧y≤4611686018427387904
instance (x y:Int):Decidable (EpF x y):=by unfold EpF;infer_instance
def OkK(e0 e1 g:Int):Prop:=(0≤e0∧e0≤4611686018427387904)∧(0≤e1∧e1≤4611686018427387904)∧(0≤g∧g≤2147483647)
instance (e0 e1 g:Int):Decidable (OkK e0 e1 g):=by unfold OkK;infer_instance
end Go.Proofs.YtadpiemjgfndgaaGreatDoor
