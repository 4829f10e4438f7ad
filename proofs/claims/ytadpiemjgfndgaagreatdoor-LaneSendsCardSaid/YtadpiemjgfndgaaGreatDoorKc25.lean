/- Proved here, for use further on: LfD LfE. Conditions: none but those each theorem names. -/
import Derived.Test.YtadpiemjgfndgaaGreatDoorKc00
import Derived.Test.YtadpiemjgfndgaaGreatDoorKc23
import Derived.Test.YtadpiemjgfndgaaGreatDoorKc12
import Derived.Test.YtadpiemjgfndgaaGreatDoorKc10
import Derived.Test.YtadpiemjgfndgaaGreatDoorKc18
import Derived.Test.YtadpiemjgfndgaaGreatDoorKc24
set_option linter.unusedSimpArgs false
set_option linter.unusedVariables false
set_option maxRecDepth 100000
set_option maxHeartbeats 8000000
namespace Go.Proofs.YtadpiemjgfndgaaGreatDoor
open Go.RowKit
theorem Dk6(x y:(Int×List UInt8))(p q:Option Addr)(c d:Nat)(w:World)(hx:A4 w p x.2)(hy:A4 w q y.2):
 Calls Tryz.prog 100 #[.agg #[.int .i64 x.1,.slice p x.2.length c],.agg #[.int .i64 y.1,.slice q y.2.length d]] w (F9 w (Ak7 x y)):=by
 have K:=Lh (fun(W:World) (h:Below w.heap.size w W)=>(show Calls Tryz.prog 101 #[.slice p x.2.length c,.slice q y.2.length d] W fun e w'=>e=.returned (.bool (x.2==y.2))∧W=w' from Ag4 p q _ c _ d x.2 y.2 W rfl rfl (hx.mono h) (hy.mono h)));have HX:=Lh (show Ak7 x y=((x.1==y.1)&&(x.2==y.2)) from rfl);generalize Ak7 x y=R at HX ⊢;generalize (x.2==y.2)=r at HX K;clear hx hy;have hb:=Lh (bta (ba w (.cells #[.int .i64 x.1,.slice p x.2.length c] 77)) (.cells #[.int .i64 y.1,.slice q y.2.length d] 77));rcases hq0:(x.1==y.1) with _ | _
 ·have hR:R=false:=by
   rw[HX.out]
   revert hq0
   clear K HX hb;generalize (x.1==y.1)=b1
   revert b1 r;decide
  subst hR
  skip
  skip
  go_enter Tryz.func100,Tryz.ntmps100
  go_wp2_with fail
  go_ret;exact⟨rfl,hb.out⟩
 have hR:R=r:=by
  rw[HX.out]
  revert hq0
  clear K HX hb;generalize (x.1==y.1)=b1
  revert b1 r;decide
 subst hR;go_enter Tryz.func100,Tryz.ntmps100
 go_wp2_with fail
 refine(K.out _ hb.out).mono ?_;rintro e w2 ⟨rfl,rfl⟩;rcases R with _ | _;all_goals
  go_wp2_with fail
  go_ret;exact⟨rfl,hb.out⟩
theorem Dk7(x y:Gt)(p q:Option Addr)(c d:Nat)(w:World)(hx:A4 w p x.b)(hy:A4 w q y.b):
 Calls Tryz.prog 102 #[.agg #[.int .i64 x.kind,.int .i64 x.e0,.int .i64 x.e1,.int .i64 x.seq,.slice p x.b.length c],.agg #[.int .i64 y.kind,.int .i64 y.e0,.int .i64 y.e1,.int .i64 y.seq,.slice q y.b.length d]] w (F9 w (Ai4 x y)):=by
 have K:=Lh (fun(W:World) (h:Below w.heap.size w W)=>(show Calls Tryz.prog 101 #[.slice p x.b.length c,.slice q y.b.length d] W fun e w'=>e=.returned (.bool (x.b==y.b))∧W=w' from Ag4 p q _ c _ d x.b y.b W rfl rfl (hx.mono h) (hy.mono h)));have HX:=Lh (show Ai4 x y=((x.kind==y.kind)&&((x.e0==y.e0)&&((x.e1==y.e1)&&((x.seq==y.seq)&&(x.b==y.b))))) from rfl);generalize Ai4 x y=R at HX ⊢;generalize (x.b==y.b)=r at HX K;clear hx hy;have hb:=Lh (bta (ba w (.cells #[.int .i64 x.kind,.int .i64 x.e0,.int .i64 x.e1,.int .i64 x.seq,.slice p x.b.length c] 103)) (.cells #[.int .i64 y.kind,.int .i64 y.e0,.int .i64 y.e1,.int .i64 y.seq,.slice q y.b.length d] 103));rcases hq0:(x.kind==y.kind) with _ | _
 ·have hR:R=false:=by
   rw[HX.out]
   revert hq0
   clear K HX hb;generalize (x.kind==y.kind)=b_kind;generalize (x.e0==y.e0)=b_e0;generalize (x.e1==y.e1)=b_e1;generalize (x.seq==y.seq)=b_seq
   revert b_kind b_e0 b_e1 b_seq r;decide
  subst hR
  skip
  skip
  go_enter Tryz.func102,Tryz.ntmps102
  go_wp2_with fail
  go_ret;exact⟨rfl,hb.out⟩
 rcases hq1:((x.e0==y.e0)&&(x.e1==y.e1)) with _ | _
 ·have hR:R=false:=by
   rw[HX.out]
   revert hq0 hq1
   clear K HX hb;generalize (x.kind==y.kind)=b_kind;generalize (x.e0==y.e0)=b_e0;generalize (x.e1==y.e1)=b_e1;generalize (x.seq==y.seq)=b_seq
   revert b_kind b_e0 b_e1 b_seq r;decide
  subst hR;have hp:=fun W=>(Aq5 (.tmp 12) (.tmp 14) x.e0 x.e1 y.e0 y.e1 W).2;rw[hq1] at hp;go_enter Tryz.func102,Tryz.ntmps102
  go_wp2_with fail
  go_ret;exact⟨rfl,hb.out⟩
 have hp:=fun W=>(Aq5 (.tmp 12) (.tmp 14) x.e0 x.e1 y.e0 y.e1 W).2;rw[hq1] at hp;rcases hq2:(x.seq==y.seq) with _ | _
 ·have hR:R=false:=by
   rw[HX.out]
   revert hq0 hq1 hq2
   clear K HX hb;generalize (x.kind==y.kind)=b_kind;generalize (x.e0==y.e0)=b_e0;generalize (x.e1==y.e1)=b_e1;generalize (x.seq==y.seq)=b_seq
   revert b_kind b_e0 b_e1 b_seq r;decide
  subst hR
  skip
  skip
  go_enter Tryz.func102,Tryz.ntmps102
  go_wp2_with fail
  go_ret;exact⟨rfl,hb.out⟩
 have hR:R=r:=by
  rw[HX.out]
  revert hq0 hq1 hq2
  clear K HX hb hp;generalize (x.kind==y.kind)=b_kind;generalize (x.e0==y.e0)=b_e0;generalize (x.e1==y.e1)=b_e1;generalize (x.seq==y.seq)=b_seq
  revert b_kind b_e0 b_e1 b_seq r;decide
 subst hR;go_enter Tryz.func102,Tryz.ntmps102
 go_wp2_with fail
 refine(K.out _ hb.out).mono ?_;rintro e w2 ⟨rfl,rfl⟩;rcases R with _ | _;all_goals
  go_wp2_with fail
  go_ret;exact⟨rfl,hb.out⟩
theorem Dk8(a b:Option Addr)(c d:Nat)(es es2:List (Int×List UInt8))(w:World)(h1:es.length≤100000)(h2:es2.length≤100000)(hE:Ad6 w a es)(hE2:Ad6 w b es2):
 Calls Tryz.prog 109 #[.slice a es.length c,.slice b es2.length d,.func (.func 100) #[] #[]] w (F9 w (decide (es=es2))):=by
 by_cases hne:es.length=es2.length
 ·have hd:((es.length:Int) != (es2.length:Int))=false:=by simp[hne]
  have HE:=Lh hE;have HE2:=Lh hE2;have Hne:=Lh hne;have HQ:=Lh (fun h=>Ba6 (z:=(0,[])) (l:=es) (m:=es2) hne h);obtain⟨R,hR⟩:∃R,R=decide (es=es2):=⟨_,rfl⟩;have HR:=Lh hR;rw[←hR];clear hE hE2 hne hR;go_enter Tryz.func109,Tryz.ntmps109
  go_wp2_with fail
  go_loopw [17] (fun v wr=>∃k:Nat,k≤es.length∧v=.int .i64 (k:Int)∧(∀j,j<k→es.getD j (0,[])=es2.getD j (0,[]))∧Below w.heap.size w wr) (fun v _=>es.length-(intOf v).toNat)
  case atStart=>exact⟨0,Nat.zero_le _,rfl,fun j hj=>absurd hj (by omega),Below.refl _ _⟩
  case round=>
   obtain⟨k,hk,rfl,hno,hG⟩:=hrel;have Hno:=Lh hno;have G:=Lh hG;by_cases hlt:k<es.length
   ·obtain⟨g1,o1,rfl,hg1,hcs1⟩:=(HE.out.mono hG).cell (by omega);obtain⟨g2,o2,rfl,hg2,hcs2⟩:=(HE2.out.mono hG).cell (by have:=Hne.out;omega);obtain⟨p0,c0,x0,x1,l0,m0,b0⟩:=hcs1 k hlt;obtain⟨q0,d0,y0,y1,s0,t0,u0⟩:=hcs2 k (by have:=Hne.out;omega);obtain⟨e1,he1⟩:∃e,e=es.getD k (0,[]):=⟨_,rfl⟩;obtain⟨e2,he2⟩:∃e,e=es2.getD k (0,[]):=⟨_,rfl⟩;rw[←he1] at x0 x1 b0;rw[←he2] at y0 y1 u0;have K:=Lh (fun(W:World) (h:Below wr.heap.size wr W)=>(show Calls Tryz.prog 100 #[.agg #[.int .i64 e1.1,.slice p0 e1.2.length c0],.agg #[.int .i64 e2.1,.slice q0 e2.2.length d0]] W (F9 W (Ak7 e1 e2)) from Dk6 e1 e2 p0 q0 c0 d0 W (b0.mono h) (u0.mono h)));have HF:=Lh (Bw2 (x:=e1) (y:=e2));have hi1:(k:Int)<(es.length:Int):=by omega
    have hi2:(k:Int)<(es2.length:Int):=by have:=Hne.out;omega
    have hi0:(0:Int)≤(k:Int):=by omega
    have He1:=Lh he1;have He2:=Lh he2;clear hcs1 hcs2 l0 m0 b0 s0 t0 u0 hno hG he1 he2;generalize Ak7 e1 e2=q at HF K;have hbA:=ba wr (.cells #[.int .i64 e1.1,.slice p0 e1.2.length c0] 77);have z0:=(hbA.cell (p:=⟨g2,o2+k*2,none⟩) hg2).trans y0;have z1:=(hbA.cell (p:=⟨g2,o2+k*2+1,none⟩) hg2).trans y1;have HbA:=Lh hbA;clear hbA;rcases q with _ | _
    ·go_wp2_with fail
     refine(K.out _ (bta (ba wr _) _)).mono ?_;rintro e w2 ⟨rfl,hb2⟩;go_wp2_with fail
     go_ret;refine⟨?_,bt (bt G.out (bta (ba wr _) _)) hb2⟩;have:R=false:=by
      rw[HR.out,decide_eq_false];intro h;have h2:=HF.out.2 (by rw[He1.out,He2.out,h]);cases h2
     rw[this];rfl
    ·go_wp2_with fail
     refine(K.out _ (bta (ba wr _) _)).mono ?_;rintro e w2 ⟨rfl,hb2⟩;go_wp2_with fail
     exact⟨⟨k+1,by omega,by go_num,fun j hj=>by
      rcases Nat.lt_or_ge j k with h | h
      ·exact Hno.out j h
      ·rw[show j=k by omega,←He1.out,←He2.out];exact HF.out.1 (by first | rfl | trivial),bt (bt G.out (bta (ba wr _) _)) hb2⟩,by simp[intOf];omega⟩
   ·obtain rfl:k=es.length:=by omega
    go_wp2_with fail
    go_ret;refine⟨?_,G.out⟩;have:R=true:=by rw[HR.out,decide_eq_true];exact HQ.out Hno.out
    rw[this];rfl
 ·have hd:((es.length:Int) != (es2.length:Int))=true:=by rw[bne_iff_ne];omega
  have HR:=Lh (show decide (es=es2)=false from decide_eq_false fun h=>hne (by rw[h]));clear hE hE2 hne;go_enter Tryz.func109,Tryz.ntmps109
  go_wp2_with fail
  go_ret;exact⟨by rw[HR.out];rfl,Below.refl _ _⟩
theorem Dk9(a b:Option Addr)(c d:Nat)(es es2:List Gt)(w:World)(h1:es.length≤100000)(h2:es2.length≤100000)(hE:Aj2 w a es)(hE2:Aj2 w b es2):
 Calls Tryz.prog 110 #[.slice a es.length c,.slice b es2.length d,.func (.func 102) #[] #[]] w (F9 w (decide (es=es2))):=by
 by_cases hne:es.length=es2.length
 ·have hd:((es.length:Int) != (es2.length:Int))=false:=by simp[hne]
  have HE:=Lh hE;have HE2:=Lh hE2;have Hne:=Lh hne;have HQ:=Lh (fun h=>Ba6 (z:=default) (l:=es) (m:=es2) hne h);obtain⟨R,hR⟩:∃R,R=decide (es=es2):=⟨_,rfl⟩;have HR:=Lh hR;rw[←hR];clear hE hE2 hne hR;go_enter Tryz.func110,Tryz.ntmps110
  go_wp2_with fail
  go_loopw [17] (fun v wr=>∃k:Nat,k≤es.length∧v=.int .i64 (k:Int)∧(∀j,j<k→es.getD j default=es2.getD j default)∧Below w.heap.size w wr) (fun v _=>es.length-(intOf v).toNat)
  case atStart=>exact⟨0,Nat.zero_le _,rfl,fun j hj=>absurd hj (by omega),Below.refl _ _⟩
  case round=>
   obtain⟨k,hk,rfl,hno,hG⟩:=hrel;have Hno:=Lh hno;have G:=Lh hG;by_cases hlt:k<es.length
   ·obtain⟨g1,o1,rfl,hg1,hcs1⟩:=(HE.out.mono hG).cell (by omega);obtain⟨g2,o2,rfl,hg2,hcs2⟩:=(HE2.out.mono hG).cell (by have:=Hne.out;omega);obtain⟨p0,c0,x0,x1,x2,x3,x4,l0,m0,b0⟩:=hcs1 k hlt;obtain⟨q0,d0,y0,y1,y2,y3,y4,s0,t0,u0⟩:=hcs2 k (by have:=Hne.out;omega);obtain⟨e1,he1⟩:∃e,e=es.getD k default:=⟨_,rfl⟩;obtain⟨e2,he2⟩:∃e,e=es2.getD k default:=⟨_,rfl⟩;rw[←he1] at x0 x1 x2 x3 x4 b0;rw[←he2] at y0 y1 y2 y3 y4 u0;have K:=Lh (fun(W:World) (h:Below wr.heap.size wr W)=>(show Calls Tryz.prog 102 #[.agg #[.int .i64 e1.kind,.int .i64 e1.e0,.int .i64 e1.e1,.int .i64 e1.seq,.slice p0 e1.b.length c0],.agg #[.int .i64 e2.kind,.int .i64 e2.e0,.int .i64 e2.e1,.int .i64 e2.seq,.slice q0 e2.b.length d0]] W (F9 W (Ai4 e1 e2)) from Dk7 e1 e2 p0 q0 c0 d0 W (b0.mono h) (u0.mono h)));have HF:=Lh (Cd2 (x:=e1) (y:=e2));have hi1:(k:Int)<(es.length:Int):=by omega
    have hi2:(k:Int)<(es2.length:Int):=by have:=Hne.out;omega
    have hi0:(0:Int)≤(k:Int):=by omega
    have He1:=Lh he1;have He2:=Lh he2;clear hcs1 hcs2 l0 m0 b0 s0 t0 u0 hno hG he1 he2;generalize Ai4 e1 e2=q at HF K;have hbA:=ba wr (.cells #[.int .i64 e1.kind,.int .i64 e1.e0,.int .i64 e1.e1,.int .i64 e1.seq,.slice p0 e1.b.length c0] 103);have z0:=(hbA.cell (p:=⟨g2,o2+k*5,none⟩) hg2).trans y0;have z1:=(hbA.cell (p:=⟨g2,o2+k*5+1,none⟩) hg2).trans y1;have z2:=(hbA.cell (p:=⟨g2,o2+k*5+2,none⟩) hg2).trans y2;have z3:=(hbA.cell (p:=⟨g2,o2+k*5+3,none⟩) hg2).trans y3;have z4:=(hbA.cell (p:=⟨g2,o2+k*5+4,none⟩) hg2).trans y4;have HbA:=Lh hbA;clear hbA;rcases q with _ | _
    ·go_wp2_with fail
     refine(K.out _ (bta (ba wr _) _)).mono ?_;rintro e w2 ⟨rfl,hb2⟩;go_wp2_with fail
     go_ret;refine⟨?_,bt (bt G.out (bta (ba wr _) _)) hb2⟩;have:R=false:=by
      rw[HR.out,decide_eq_false];intro h;have h2:=HF.out.2 (by rw[He1.out,He2.out,h]);cases h2
     rw[this];rfl
    ·go_wp2_with fail
     refine(K.out _ (bta (ba wr _) _)).mono ?_;rintro e w2 ⟨rfl,hb2⟩;go_wp2_with fail
     exact⟨⟨k+1,by omega,by go_num,fun j hj=>by
      rcases Nat.lt_or_ge j k with h | h
      ·exact Hno.out j h
      ·rw[show j=k by omega,←He1.out,←He2.out];exact HF.out.1 (by first | rfl | trivial),bt (bt G.out (bta (ba wr _) _)) hb2⟩,by simp[intOf];omega⟩
   ·obtain rfl:k=es.length:=by omega
    go_wp2_with fail
    go_ret;refine⟨?_,G.out⟩;have:R=true:=by rw[HR.out,decide_eq_true];exact HQ.out Hno.out
    rw[this];rfl
 ·have hd:((es.length:Int) != (es2.length:Int))=true:=by rw[bne_iff_ne];omega
  have HR:=Lh (show decide (es=es2)=false from decide_eq_false fun h=>hne (by rw[h]));clear hE hE2 hne;go_enter Tryz.func110,Tryz.ntmps110
  go_wp2_with fail
  go_ret;exact⟨by rw[HR.out];rfl,Below.refl _ _⟩
theorem Dl0(a b:Option Addr)(c d:Nat)(es es2:List (List UInt8))(w:World)(h1:es.length≤maxLen)(h2:es2.length≤maxLen)(hE:W6 w a es)(hE2:W6 w b es2):
 Calls Tryz.prog 107 #[.slice a es.length c,.slice b es2.length d,.func (.func 101) #[] #[]] w (F9 w (decide (es=es2))):=by
 unfold maxLen at h1 h2;by_cases hne:es.length=es2.length
 ·have hd:((es.length:Int) != (es2.length:Int))=false:=by simp[hne]
  have HE:=Lh hE;have HE2:=Lh hE2;have Hne:=Lh hne;have HQ:=Lh (fun h=>Ba6 (z:=[]) (l:=es) (m:=es2) hne h);obtain⟨R,hR⟩:∃R,R=decide (es=es2):=⟨_,rfl⟩;have HR:=Lh hR;rw[←hR];clear hE hE2 hne hR;go_enter Tryz.func107,Tryz.ntmps107
  go_wp2_with fail
  go_loopw [17] (fun v wr=>∃k:Nat,k≤es.length∧v=.int .i64 (k:Int)∧(∀j,j<k→es.getD j []=es2.getD j [])∧wr=w) (fun v _=>es.length-(intOf v).toNat)
  case atStart=>exact⟨0,Nat.zero_le _,rfl,fun j hj=>absurd hj (by omega),rfl⟩
  case round=>
   obtain⟨k,hk,rfl,hno,rfl⟩:=hrel;have Hno:=Lh hno;by_cases hlt:k<es.length
   ·obtain⟨g1,o1,p0,c0,rfl,hg1,x0,-,-,b0⟩:=HE.out.row k hlt;obtain⟨g2,o2,q0,d0,rfl,hg2,y0,-,-,u0⟩:=HE2.out.row k (by have:=Hne.out;omega);obtain⟨e1,he1⟩:∃e,e=es.getD k []:=⟨_,rfl⟩;obtain⟨e2,he2⟩:∃e,e=es2.getD k []:=⟨_,rfl⟩;rw[←he1] at x0 b0;rw[←he2] at y0 u0;have K:=Lh (show Calls Tryz.prog 101 #[.slice p0 e1.length c0,.slice q0 e2.length d0] wr fun e w'=>e=.returned (.bool (e1==e2))∧wr=w' from Ag4 p0 q0 _ c0 _ d0 e1 e2 wr rfl rfl b0 u0);have HF:=Lh (show(e1==e2)=true↔e1=e2 from beq_iff_eq);have hi1:(k:Int)<(es.length:Int):=by omega
    have hi2:(k:Int)<(es2.length:Int):=by have:=Hne.out;omega
    have hi0:(0:Int)≤(k:Int):=by omega
    have He1:=Lh he1;have He2:=Lh he2;clear b0 u0 hno he1 he2;generalize (e1==e2)=q at HF K;rcases q with _ | _
    ·go_wp2_with fail
     refine K.out.mono ?_;rintro e w2 ⟨rfl,rfl⟩;go_wp2_with fail
     go_ret;refine⟨?_,Below.refl _ _⟩;have:R=false:=by
      rw[HR.out,decide_eq_false];intro h;have h2:=HF.out.2 (by rw[He1.out,He2.out,h]);cases h2
     rw[this];rfl
    ·go_wp2_with fail
     refine K.out.mono ?_;rintro e w2 ⟨rfl,rfl⟩;go_wp2_with fail
     exact⟨⟨k+1,by omega,by go_num,fun j hj=>by
      rcases Nat.lt_or_ge j k with h | h
      ·exact Hno.out j h
      ·rw[show j=k by omega,←He1.out,←He2.out];exact HF.out.1 (by first | rfl | trivial),by trivial⟩,by simp[intOf];omega⟩
   ·obtain rfl:k=es.length:=by omega
    go_wp2_with fail
    go_ret;refine⟨?_,Below.refl _ _⟩;have:R=true:=by rw[HR.out,decide_eq_true];exact HQ.out Hno.out
    rw[this];rfl
 ·have hd:((es.length:Int) != (es2.length:Int))=true:=by rw[bne_iff_ne];omega
  have HR:=Lh (show decide (es=es2)=false from decide_eq_false fun h=>hne (by rw[h]));clear hE hE2 hne;go_enter Tryz.func107,Tryz.ntmps107
  go_wp2_with fail
  go_ret;exact⟨by rw[HR.out];rfl,Below.refl _ _⟩
theorem Dl1(a:Option Addr)(c:Nat)(l:List Bool)(w:World)(h1:l.length≤1000)(hE:At w a (l.map Value.bool)):
 Calls Tryz.prog 191 #[.slice a l.length c,.bool false] w fun e w'=>(∃i:Int,e=.returned (.int .i64 i)∧decide (0≤i)=!(l.all id))∧w=w':=by
 have HE:=Lh hE;clear hE;go_enter Tryz.func191,Tryz.ntmps191
 go_wp2_with fail
 go_loopw [8] (fun v wr=>∃k:Nat,k≤l.length∧v=.int .i64 (k:Int)∧(∀j,j<k→l.getD j true=true)∧wr=w) (fun v _=>l.length-(intOf v).toNat)
 case atStart=>exact⟨0,Nat.zero_le _,rfl,fun j hj=>absurd hj (by omega),rfl⟩
 case round=>
  obtain⟨k,hk,rfl,hno,rfl⟩:=hrel;have Hno:=Lh hno;by_cases hlt:k<l.length
  ·rcases HE.out with h0 | ⟨g,o,rfl,hg,hc⟩
   ·rw[List.map_eq_nil_iff] at h0;rw[h0] at hlt;simp at hlt
   have x0:wr.cell? ⟨g,o+k,none⟩=some (.bool (l.getD k true)):=by
    rw[hc k (by simpa using hlt)];simp[List.getD_eq_getElem?_getD,hlt]
   have hi1:(k:Int)<(l.length:Int):=by omega
   have hi0:(0:Int)≤(k:Int):=by omega
   rcases hb:l.getD k true with _ | _
   ·rw[hb] at x0;have HX:=Lh (show l.all id=false from by
     rw[Bool.eq_false_iff];intro h;have:=List.all_eq_true.1 h (l.getD k true) (by
      rw[List.getD_eq_getElem?_getD,List.getElem?_eq_getElem hlt];exact List.getElem_mem hlt)
     rw[hb] at this;exact absurd this (by decide))
    clear hc hno hb;go_wp2_with fail
    go_ret;exact⟨⟨(k:Int),by first | rfl | (congr;go_num),by rw[HX.out];exact decide_eq_true (by omega)⟩,rfl⟩
   ·rw[hb] at x0;have Hb:=Lh hb;clear hc hno hb;go_wp2_with fail
    exact⟨⟨k+1,by omega,by go_num,fun j hj=>by
     rcases Nat.lt_or_ge j k with h | h
     ·exact Hno.out j h
     ·rw[show j=k by omega];exact Hb.out,by trivial⟩,by simp[intOf];omega⟩
  ·obtain rfl:k=l.length:=by omega
   have HX:=Lh (show l.all id=true from List.all_eq_true.2 fun x hx=>by
    obtain⟨j,hj,rfl⟩:=List.mem_iff_getElem.1 hx;have:=hno j hj;rw[List.getD_eq_getElem?_getD,List.getElem?_eq_getElem hj] at this;exact this)
   clear hno;go_wp2_with fail
   go_ret;exact⟨⟨-1,rfl,by rw[HX.out];rfl⟩,rfl⟩
theorem Et2(a:Option Addr)(c:Nat)(l:List Bool)(w:World)(h1:l.length≤1000)(hE:At w a (l.map Value.bool)):
 Calls Tryz.prog 103 #[.slice a l.length c] w fun e w'=>e=.returned (.bool (l.all id))∧w=w':=by
 have H:=Lh (Dl1 a c l w h1 hE);clear hE;go_enter Tryz.func103,Tryz.ntmps103
 go_wp2_with fail
 go_enter Tryz.func165,Tryz.ntmps165
 go_wp2_with fail
 refine H.out.mono ?_;rintro e w2 ⟨⟨i,rfl,hi⟩,rfl⟩;rcases hl:l.all id with _ | _
 ·rw[hl] at hi;have hi0:0≤i:=of_decide_eq_true hi;go_wp2_with fail
  first
  | (go_ret;exact⟨by rw[hl];rfl,rfl⟩)
  | (go_wp2_with fail;go_ret;exact⟨by rw[hl];rfl,rfl⟩)
 ·rw[hl] at hi;have hi0:¬0≤i:=of_decide_eq_false hi;go_wp2_with fail
  first
  | (go_ret;exact⟨by rw[hl];rfl,rfl⟩)
  | (go_wp2_with fail;go_ret;exact⟨by rw[hl];rfl,rfl⟩)
theorem Ez8(x y:Operand)(a b:Ev)(r:Bool)(hr:Au9 a b=r)(w:World):(eqGuard .eql 28 x y (.agg (D5 a.wt a.wb).toArray) (.agg (D5 b.wt b.wb).toArray)).run Tryz.prog w=.ok () w∧
 (binOp .eql 28 (.agg (D5 a.wt a.wb).toArray) (.agg (D5 b.wt b.wb).toArray)).run Tryz.prog w=.ok (.bool r) w:=by
 refine⟨run_eqGuard_agg (P:=Tryz.prog) w .eql 28 x y _ _ (by kernel_rfl),?_⟩;rw[run_eql_struct,Da8,hr];rfl
theorem Ez9(x y:Operand)(a b:Ev)(r:Bool)(hr:Ar9 a b=r)(w:World):(eqGuard .eql 40 x y (.agg (Ab2 a).toArray) (.agg (Ab2 b).toArray)).run Tryz.prog w=.ok () w∧
 (binOp .eql 40 (.agg (Ab2 a).toArray) (.agg (Ab2 b).toArray)).run Tryz.prog w=.ok (.bool r) w:=by
 refine⟨run_eqGuard_agg (P:=Tryz.prog) w .eql 40 x y _ _ (by kernel_rfl),?_⟩;rw[run_eql_struct,Eg0,hr];rfl
theorem Et3{a:Act}{ks:List Nat}{vs:List Value}(hb:∀k∈ks,k<a.tmps.size)(hl:vs.length=ks.length){parts:Array (Nat×Operand)}{ps:Array (Nat×Value)}(h:(parts.map fun(i,x)=>(i,evX a ks vs [] x))=ps):
 (parts.map fun(i,x)=>(i,(C6 a ks vs).eval x))=ps:=by
 rw[←h]
 congr 1
 funext p;obtain⟨i,x⟩:=p;exact congrArg (Prod.mk i) (Bg9 a ks vs [] hb hl rfl x)
noncomputable def F6:{ops:Array Oper//(Tryz.f43.body.bind (M8 3))=some (.region 3 ops true)}:=⟨_,rfl⟩
abbrev Ab9:List Nat:=(7::8::9::10::11::12::13::14::15::16::17::18::19::20::21::22::23::24::25::26::27::28::29::30::31::32::33::34::35::36::37::38::39::40::41::42::43::44::45::46::47::48::49::50::51::52::53::54::55::56::57::58::59::60::61::62::63::64::65::66::67::68::69::70::71::72::73::74::75::76::77::78::79::80::81::82::83::84::85::86::87::88::89::90::91::92::93::94::95::96::97::98::99::100::101::102::103::104::105::4::[])
theorem Eg1:opx F6.1 0=some (.fieldAddr 46 (.tmp 2) 0,some 7,none):=by kernel_rfl
theorem Eg2:opx F6.1 1=some (.load 3 (.tmp 7),some 8,none):=by kernel_rfl
theorem Eg3:opx F6.1 2=some (.fieldAddr 46 (.tmp 3) 0,some 9,none):=by kernel_rfl
theorem Eg4:opx F6.1 3=some (.load 3 (.tmp 9),some 10,none):=by kernel_rfl
theorem Eg5:opx F6.1 5=some (.fieldAddr 46 (.tmp 2) 1,some 12,none):=by kernel_rfl
theorem Eg6:opx F6.1 6=some (.load 22 (.tmp 12),some 13,none):=by kernel_rfl
theorem Eg7:opx F6.1 7=some (.fieldAddr 46 (.tmp 3) 1,some 14,none):=by kernel_rfl
theorem Eg8:opx F6.1 8=some (.load 22 (.tmp 14),some 15,none):=by kernel_rfl
theorem Eg9:opx F6.1 9=some (.call {callee:=.value (.func 101),args:=#[.tmp 13,.tmp 15],argTypes:=#[22,22]},some 16,none):=by kernel_rfl
theorem Dl2:opx F6.1 10=some (.fieldAddr 46 (.tmp 2) 2,some 17,none):=by kernel_rfl
theorem Dl3:opx F6.1 11=some (.load 3 (.tmp 17),some 18,none):=by kernel_rfl
theorem Dl4:opx F6.1 12=some (.fieldAddr 46 (.tmp 3) 2,some 19,none):=by kernel_rfl
theorem Dl5:opx F6.1 13=some (.load 3 (.tmp 19),some 20,none):=by kernel_rfl
theorem Dl6:opx F6.1 15=some (.fieldAddr 46 (.tmp 2) 3,some 22,none):=by kernel_rfl
theorem Dl7:opx F6.1 16=some (.load 24 (.tmp 22),some 23,none):=by kernel_rfl
theorem Dl8:opx F6.1 17=some (.fieldAddr 46 (.tmp 3) 3,some 24,none):=by kernel_rfl
theorem Dl9:opx F6.1 18=some (.load 24 (.tmp 24),some 25,none):=by kernel_rfl
theorem Dm0:opx F6.1 19=some (.call {callee:=.value (.func 104),args:=#[.tmp 23,.tmp 25],argTypes:=#[24,24]},some 26,none):=by kernel_rfl
theorem Dm1:opx F6.1 20=some (.fieldAddr 46 (.tmp 2) 4,some 27,none):=by kernel_rfl
theorem Dm2:opx F6.1 21=some (.load 3 (.tmp 27),some 28,none):=by kernel_rfl
theorem Dm3:opx F6.1 22=some (.fieldAddr 46 (.tmp 3) 4,some 29,none):=by kernel_rfl
theorem Dm4:opx F6.1 23=some (.load 3 (.tmp 29),some 30,none):=by kernel_rfl
theorem Dm5:opx F6.1 25=some (.fieldAddr 46 (.tmp 2) 5,some 32,none):=by kernel_rfl
theorem Dm6:opx F6.1 26=some (.load 3 (.tmp 32),some 33,none):=by kernel_rfl
theorem Dm7:opx F6.1 27=some (.fieldAddr 46 (.tmp 3) 5,some 34,none):=by kernel_rfl
theorem Dm8:opx F6.1 28=some (.load 3 (.tmp 34),some 35,none):=by kernel_rfl
theorem Dm9:opx F6.1 30=some (.fieldAddr 46 (.tmp 2) 6,some 37,none):=by kernel_rfl
theorem Dn0:opx F6.1 31=some (.load 3 (.tmp 37),some 38,none):=by kernel_rfl
theorem Dn1:opx F6.1 32=some (.fieldAddr 46 (.tmp 3) 6,some 39,none):=by kernel_rfl
theorem Dn2:opx F6.1 33=some (.load 3 (.tmp 39),some 40,none):=by kernel_rfl
theorem Dn3:opx F6.1 35=some (.fieldAddr 46 (.tmp 2) 7,some 42,none):=by kernel_rfl
theorem Dn4:opx F6.1 36=some (.load 3 (.tmp 42),some 43,none):=by kernel_rfl
theorem Dn5:opx F6.1 37=some (.fieldAddr 46 (.tmp 3) 7,some 44,none):=by kernel_rfl
theorem Dn6:opx F6.1 38=some (.load 3 (.tmp 44),some 45,none):=by kernel_rfl
theorem Dn7:opx F6.1 40=some (.fieldAddr 46 (.tmp 2) 8,some 47,none):=by kernel_rfl
theorem Dn8:opx F6.1 41=some (.load 3 (.tmp 47),some 48,none):=by kernel_rfl
theorem Dn9:opx F6.1 42=some (.fieldAddr 46 (.tmp 3) 8,some 49,none):=by kernel_rfl
theorem Do0:opx F6.1 43=some (.load 3 (.tmp 49),some 50,none):=by kernel_rfl
theorem Do1:opx F6.1 45=some (.fieldAddr 46 (.tmp 2) 9,some 52,none):=by kernel_rfl
theorem Do2:opx F6.1 46=some (.load 28 (.tmp 52),some 53,none):=by kernel_rfl
theorem Do3:opx F6.1 47=some (.fieldAddr 46 (.tmp 3) 9,some 54,none):=by kernel_rfl
theorem Do4:opx F6.1 48=some (.load 28 (.tmp 54),some 55,none):=by kernel_rfl
theorem Do5:opx F6.1 49=some (.binOp BinOp.eql 28 (.tmp 53) (.tmp 55) 28,some 56,none):=by kernel_rfl
theorem Do6:opx F6.1 50=some (.fieldAddr 46 (.tmp 2) 10,some 57,none):=by kernel_rfl
theorem Do7:opx F6.1 51=some (.load 32 (.tmp 57),some 58,none):=by kernel_rfl
theorem Do8:opx F6.1 52=some (.fieldAddr 46 (.tmp 3) 10,some 59,none):=by kernel_rfl
theorem Do9:opx F6.1 53=some (.load 32 (.tmp 59),some 60,none):=by kernel_rfl
theorem Dp0:opx F6.1 54=some (.call {callee:=.value (.func 105),args:=#[.tmp 58,.tmp 60],argTypes:=#[32,32]},some 61,none):=by kernel_rfl
theorem Dp1:opx F6.1 55=some (.fieldAddr 46 (.tmp 2) 11,some 62,none):=by kernel_rfl
theorem Dp2:opx F6.1 56=some (.load 34 (.tmp 62),some 63,none):=by kernel_rfl
theorem Dp3:opx F6.1 57=some (.fieldAddr 46 (.tmp 3) 11,some 64,none):=by kernel_rfl
theorem Dp4:opx F6.1 58=some (.load 34 (.tmp 64),some 65,none):=by kernel_rfl
theorem Dp5:opx F6.1 59=some (.call {callee:=.value (.func 106),args:=#[.tmp 63,.tmp 65],argTypes:=#[34,34]},some 66,none):=by kernel_rfl
theorem Dp6:opx F6.1 60=some (.fieldAddr 46 (.tmp 2) 12,some 67,none):=by kernel_rfl
theorem Dp7:opx F6.1 61=some (.load 3 (.tmp 67),some 68,none):=by kernel_rfl
theorem Dp8:opx F6.1 62=some (.fieldAddr 46 (.tmp 3) 12,some 69,none):=by kernel_rfl
theorem Dp9:opx F6.1 63=some (.load 3 (.tmp 69),some 70,none):=by kernel_rfl
theorem Dq0:opx F6.1 65=some (.fieldAddr 46 (.tmp 2) 13,some 72,none):=by kernel_rfl
theorem Dq1:opx F6.1 66=some (.load 3 (.tmp 72),some 73,none):=by kernel_rfl
theorem Dq2:opx F6.1 67=some (.fieldAddr 46 (.tmp 3) 13,some 74,none):=by kernel_rfl
theorem Dq3:opx F6.1 68=some (.load 3 (.tmp 74),some 75,none):=by kernel_rfl
theorem Dq4:opx F6.1 70=some (.fieldAddr 46 (.tmp 2) 14,some 77,none):=by kernel_rfl
theorem Dq5:opx F6.1 71=some (.load 35 (.tmp 77),some 78,none):=by kernel_rfl
theorem Dq6:opx F6.1 72=some (.fieldAddr 46 (.tmp 3) 14,some 79,none):=by kernel_rfl
theorem Dq7:opx F6.1 73=some (.load 35 (.tmp 79),some 80,none):=by kernel_rfl
theorem Dq8:opx F6.1 74=some (.call {callee:=.value (.func 107),args:=#[.tmp 78,.tmp 80,.func 101],argTypes:=#[35,35,78]},some 81,none):=by kernel_rfl
theorem Dq9:opx F6.1 75=some (.fieldAddr 46 (.tmp 2) 15,some 82,none):=by kernel_rfl
theorem Dr0:opx F6.1 76=some (.load 42 (.tmp 82),some 83,none):=by kernel_rfl
theorem Dr1:opx F6.1 77=some (.fieldAddr 46 (.tmp 3) 15,some 84,none):=by kernel_rfl
theorem Dr2:opx F6.1 78=some (.load 42 (.tmp 84),some 85,none):=by kernel_rfl
theorem Dr3:opx F6.1 79=some (.call {callee:=.value (.func 108),args:=#[.tmp 83,.tmp 85],argTypes:=#[42,42]},some 86,none):=by kernel_rfl
theorem Dr4:opx F6.1 80=some (.fieldAddr 46 (.tmp 2) 16,some 87,none):=by kernel_rfl
theorem Dr5:opx F6.1 81=some (.load 43 (.tmp 87),some 88,none):=by kernel_rfl
theorem Dr6:opx F6.1 82=some (.fieldAddr 46 (.tmp 3) 16,some 89,none):=by kernel_rfl
theorem Dr7:opx F6.1 83=some (.load 43 (.tmp 89),some 90,none):=by kernel_rfl
theorem Dr8:opx F6.1 84=some (.move (.tmp 5),some 91,none):=by kernel_rfl
theorem Dr9:opx F6.1 85=some (.call {callee:=.value (.func 109),args:=#[.tmp 88,.tmp 90,.tmp 91],argTypes:=#[43,43,162]},some 92,none):=by kernel_rfl
theorem Ds0:opx F6.1 86=some (.fieldAddr 46 (.tmp 2) 17,some 93,none):=by kernel_rfl
theorem Ds1:opx F6.1 87=some (.load 44 (.tmp 93),some 94,none):=by kernel_rfl
theorem Ds2:opx F6.1 88=some (.fieldAddr 46 (.tmp 3) 17,some 95,none):=by kernel_rfl
theorem Ds3:opx F6.1 89=some (.load 44 (.tmp 95),some 96,none):=by kernel_rfl
theorem Ds4:opx F6.1 90=some (.move (.tmp 6),some 97,none):=by kernel_rfl
theorem Ds5:opx F6.1 91=some (.call {callee:=.value (.func 110),args:=#[.tmp 94,.tmp 96,.tmp 97],argTypes:=#[44,44,163]},some 98,none):=by kernel_rfl
theorem Ds6:opx F6.1 92=some (.fieldAddr 46 (.tmp 2) 18,some 99,none):=by kernel_rfl
theorem Ds7:opx F6.1 93=some (.load 40 (.tmp 99),some 100,none):=by kernel_rfl
theorem Ds8:opx F6.1 94=some (.fieldAddr 46 (.tmp 3) 18,some 101,none):=by kernel_rfl
theorem Ds9:opx F6.1 95=some (.load 40 (.tmp 101),some 102,none):=by kernel_rfl
theorem Dt0:opx F6.1 96=some (.binOp BinOp.eql 40 (.tmp 100) (.tmp 102) 40,some 103,none):=by kernel_rfl
theorem Dt1:opx F6.1 97=some (.buildSlice 201 19 #[(0,.tmp 11),(1,.tmp 16),(2,.tmp 21),(3,.tmp 26),(4,.tmp 31),(5,.tmp 36),(6,.tmp 41),(7,.tmp 46),(8,.tmp 51),(9,.tmp 56),(10,.tmp 61),(11,.tmp 66),(12,.tmp 71),(13,.tmp 76),(14,.tmp 81),(15,.tmp 86),(16,.tmp 92),(17,.tmp 98),(18,.tmp 103)],some 104,none):=by kernel_rfl
theorem Dt2:opx F6.1 98=some (.call {callee:=.value (.func 103),args:=#[.tmp 104],argTypes:=#[201]},some 105,none):=by kernel_rfl
theorem Dt3:opx F6.1 99=some (.assign (.tmp 105),some 4,none):=by kernel_rfl
theorem Eh0:Region.ready .any F6.1 (lm 100 1267650600228229401496703205375)=[]:=by kernel_rfl
theorem Eh1:Region.ready .any F6.1 (lm 100 316912650057057350374175801343)=[98]:=by kernel_rfl
theorem Eh2:W5 .any F6.1 ((lm 100 316912650057057350374175801343).setIfInBounds 98 true) [99]=true:=by kernel_rfl
theorem Eh3:Ab8 ((lm 100 316912650057057350374175801343).setIfInBounds 98 true) [99]=(lm 100 1267650600228229401496703205375):=by kernel_rfl
theorem Eh4:Region.ready .any F6.1 (lm 100 158456325028528675187087900671)=[97]:=by kernel_rfl
theorem Eh5:W5 .any F6.1 ((lm 100 158456325028528675187087900671).setIfInBounds 97 true) []=true:=by kernel_rfl
theorem Eh6:Ab8 ((lm 100 158456325028528675187087900671).setIfInBounds 97 true) []=(lm 100 316912650057057350374175801343):=by kernel_rfl
theorem Eh7:Region.ready .any F6.1 (lm 100 155980444949957914637289652223)=[91]:=by kernel_rfl
theorem Eh8:W5 .any F6.1 ((lm 100 155980444949957914637289652223).setIfInBounds 91 true) []=true:=by kernel_rfl
theorem Eh9:Ab8 ((lm 100 155980444949957914637289652223).setIfInBounds 91 true) []=(lm 100 158456325028528675187087900671):=by kernel_rfl
theorem Dt4:Region.ready .any F6.1 (lm 100 155941759323730246503699054591)=[85]:=by kernel_rfl
theorem Dt5:W5 .any F6.1 ((lm 100 155941759323730246503699054591).setIfInBounds 85 true) []=true:=by kernel_rfl
theorem Dt6:Ab8 ((lm 100 155941759323730246503699054591).setIfInBounds 85 true) []=(lm 100 155980444949957914637289652223):=by kernel_rfl
theorem Dt7:Region.ready .any F6.1 (lm 100 155941154860820439189111701503)=[79]:=by kernel_rfl
theorem Dt8:W5 .any F6.1 ((lm 100 155941154860820439189111701503).setIfInBounds 79 true) []=true:=by kernel_rfl
theorem Dt9:Ab8 ((lm 100 155941154860820439189111701503).setIfInBounds 79 true) []=(lm 100 155941759323730246503699054591):=by kernel_rfl
theorem Du0:Region.ready .any F6.1 (lm 100 155941135971354507710530846719)=[74]:=by kernel_rfl
theorem Du1:W5 .any F6.1 ((lm 100 155941135971354507710530846719).setIfInBounds 74 true) []=true:=by kernel_rfl
theorem Du2:Ab8 ((lm 100 155941135971354507710530846719).setIfInBounds 74 true) []=(lm 100 155941154860820439189111701503):=by kernel_rfl
theorem Du3:Region.ready .any F6.1 (lm 100 155941135970778046958227423231)=[59]:=by kernel_rfl
theorem Du4:W5 .any F6.1 ((lm 100 155941135970778046958227423231).setIfInBounds 59 true) []=true:=by kernel_rfl
theorem Du5:Ab8 ((lm 100 155941135970778046958227423231).setIfInBounds 59 true) []=(lm 100 155941135971354507710530846719):=by kernel_rfl
theorem Du6:Region.ready .any F6.1 (lm 100 155941135970760032559717941247)=[54]:=by kernel_rfl
theorem Du7:W5 .any F6.1 ((lm 100 155941135970760032559717941247).setIfInBounds 54 true) []=true:=by kernel_rfl
theorem Du8:Ab8 ((lm 100 155941135970760032559717941247).setIfInBounds 54 true) []=(lm 100 155941135970778046958227423231):=by kernel_rfl
theorem Du9:Region.ready .any F6.1 (lm 100 155941135970760032559717416959)=[19]:=by kernel_rfl
theorem Dv0:W5 .any F6.1 ((lm 100 155941135970760032559717416959).setIfInBounds 19 true) []=true:=by kernel_rfl
theorem Dv1:Ab8 ((lm 100 155941135970760032559717416959).setIfInBounds 19 true) []=(lm 100 155941135970760032559717941247):=by kernel_rfl
theorem Dv2:Region.ready .any F6.1 (lm 100 155941135970760032559717416447)=[9]:=by kernel_rfl
theorem Dv3:W5 .any F6.1 ((lm 100 155941135970760032559717416447).setIfInBounds 9 true) []=true:=by kernel_rfl
theorem Dv4:Ab8 ((lm 100 155941135970760032559717416447).setIfInBounds 9 true) []=(lm 100 155941135970760032559717416959):=by kernel_rfl
theorem Dv5:W5 .any F6.1 (Array.replicate 100 false) [0,1,2,3,4,5,6,7,8,10,11,12,13,14,15,16,17,18,20,21,22,23,24,25,26,27,28,29,30,31]=true:=by kernel_rfl
theorem Dv6:Ab8 (Array.replicate 100 false) [0,1,2,3,4,5,6,7,8,10,11,12,13,14,15,16,17,18,20,21,22,23,24,25,26,27,28,29,30,31]=(lm 100 4294442495):=by kernel_rfl
theorem Dv7:W5 .any F6.1 (lm 100 4294442495) [32,33,34,35,36,37,38,39,40,41,42,43,44,45,46,47,48,49,50,51,52,53,55,56,57,58,60,61,62,63]=true:=by kernel_rfl
theorem Dv8:Ab8 (lm 100 4294442495) [32,33,34,35,36,37,38,39,40,41,42,43,44,45,46,47,48,49,50,51,52,53,55,56,57,58,60,61,62,63]=(lm 100 17852268922896121343):=by kernel_rfl
theorem Dv9:W5 .any F6.1 (lm 100 17852268922896121343) [64,65,66,67,68,69,70,71,72,73,75,76,77,78,80,81,82,83,84,86,87,88,89,90,92,93,94,95,96]=true:=by kernel_rfl
theorem Dw0:Ab8 (lm 100 17852268922896121343) [64,65,66,67,68,69,70,71,72,73,75,76,77,78,80,81,82,83,84,86,87,88,89,90,92,93,94,95,96]=(lm 100 155941135970760032559717416447):=by kernel_rfl
theorem Dw1{a_ b_:Ev}{n2 n3:Nat}{s1 s2 s3 s4 s5 s6 s7 s8 s9 s10:Bool}{a:Act}{w:World}{Q:Exit→Act→World→Prop}(hsz:106≤a.tmps.size)
 (e2:a.tmps.getD 2 undef=.pointer (some ⟨n2,0,none⟩)) (e3:a.tmps.getD 3 undef=.pointer (some ⟨n3,0,none⟩)) (e5:a.tmps.getD 5 undef=.func (.func 100) #[] #[]) (e6:a.tmps.getD 6 undef=.func (.func 102) #[] #[])
 (hP:∀c a d v w,Q (.panic c) (Act.put a d v) w→Q (.panic c) a w) (B2:A6 46 w n2 (A8 a_)) (B3:A6 46 w n3 (A8 b_)) (h9:Au9 a_ b_=s9) (h10:Ar9 a_ b_=s10)
 (P8:∀u,Below w.heap.size w u→Calls Tryz.prog 101 #[.slice a_.k.a a_.k.l.length a_.k.c,.slice b_.k.a b_.k.l.length b_.k.c] u (fun e w'=>e=.returned (.bool s8)∧u=w'))
 (P1:∀u,Below w.heap.size w u→Calls Tryz.prog 104 #[.agg #[.slice a_.s1.a a_.s1.l.length a_.s1.c,.slice a_.s2.a a_.s2.l.length a_.s2.c],.agg #[.slice b_.s1.a b_.s1.l.length b_.s1.c,.slice b_.s2.a b_.s2.l.length b_.s2.c]] u (F9 u s1))
 (P2:∀u,Below w.heap.size w u→Calls Tryz.prog 105 #[.agg a_.r.L.toArray,.agg b_.r.L.toArray] u (F9 u s2))
 (P3:∀u,Below w.heap.size w u→Calls Tryz.prog 106 #[.agg (M7 a_.q a_.qa a_.qc).toArray,.agg (M7 b_.q b_.qa b_.qc).toArray] u (F9 u s3))
 (P4:∀u,Below w.heap.size w u→Calls Tryz.prog 107 #[.slice a_.ua a_.u.length a_.uc,.slice b_.ua b_.u.length b_.uc,.func (.func 101) #[] #[]] u (F9 u s4))
 (P5:∀u,Below w.heap.size w u→Calls Tryz.prog 108 #[.agg a_.h.L.toArray,.agg b_.h.L.toArray] u (F9 u s5))
 (P6:∀u,Below w.heap.size w u→Calls Tryz.prog 109 #[.slice a_.oa a_.o.length a_.oc,.slice b_.oa b_.o.length b_.oc,.func (.func 100) #[] #[]] u (F9 u s6))
 (P7:∀u,Below w.heap.size w u→Calls Tryz.prog 110 #[.slice a_.ga a_.g.length a_.gc,.slice b_.ga b_.g.length b_.gc,.func (.func 102) #[] #[]] u (F9 u s7))
 (hQ:∀{x7 x8 x9 x10 x11 x12 x13 x14 x15 x16 x17 x18 x19 x20 x21 x22 x23 x24 x25 x26 x27 x28 x29 x30 x31 x32 x33 x34 x35 x36 x37 x38 x39 x40 x41 x42 x43 x44 x45 x46 x47 x48 x49 x50 x51 x52 x53 x54 x55 x56 x57 x58 x59 x60 x61 x62 x63 x64 x65 x66 x67 x68 x69 x70 x71 x72 x73 x74 x75 x76 x77 x78 x79 x80 x81 x82 x83 x84 x85 x86 x87 x88 x89 x90 x91 x92 x93 x94 x95 x96 x97 x98 x99 x100 x101 x102 x103 x104 x105} w',Below w.heap.size w w'→Q .normal (C6 a Ab9 (x7::x8::x9::x10::x11::x12::x13::x14::x15::x16::x17::x18::x19::x20::x21::x22::x23::x24::x25::x26::x27::x28::x29::x30::x31::x32::x33::x34::x35::x36::x37::x38::x39::x40::x41::x42::x43::x44::x45::x46::x47::x48::x49::x50::x51::x52::x53::x54::x55::x56::x57::x58::x59::x60::x61::x62::x63::x64::x65::x66::x67::x68::x69::x70::x71::x72::x73::x74::x75::x76::x77::x78::x79::x80::x81::x82::x83::x84::x85::x86::x87::x88::x89::x90::x91::x92::x93::x94::x95::x96::x97::x98::x99::x100::x101::x102::x103::x104::x105::.bool ([(a_.id==b_.id),s8,(a_.ph==b_.ph),s1,(a_.pw==b_.pw),(a_.own==b_.own),(a_.oth==b_.oth),(a_.seen==b_.seen),(a_.seq==b_.seq),s9,s2,s3,(a_.stan==b_.stan),(a_.day==b_.day),s4,s5,s6,s7,s10].all id)::[])) w'):
 (Code.region 3 F6.1 true).wp Tryz.prog Q a w:=by
 have rG:Rgn F6.1 Ab9 a Q:=⟨fun k hk=>Nat.lt_of_lt_of_le ((by decide:∀k∈Ab9,k<106) k hk) hsz,by kernel_rfl,hP⟩;have hb:=rG.b;obtain⟨i,h0⟩:=U8 a Ab9;let S:World→Prop:=fun w'=>A6 46 w' n2 (A8 a_)∧A6 46 w' n3 (A8 b_);refine wp_region_held_drew (S:=S) (by kernel_rfl) (⟨B2.up (bd _),B3.up (bd _)⟩) fun hHeld=>?_;have N9_19_54_59_74_79_85_91_97_98:∀(u:World) (z:Nat) (G:Below w.heap.size w u),wpAnyH Tryz.prog .any F6.1 Q S 0 (lm 100 1267650600228229401496703205375) (C6 a Ab9 (pt n2 0::i6 a_.id::pt n3 0::i6 b_.id::.bool (a_.id==b_.id)::pt n2 1::.slice a_.k.a a_.k.l.length a_.k.c::pt n3 1::.slice b_.k.a b_.k.l.length b_.k.c::.bool s8::pt n2 2::i6 a_.ph::pt n3 2::i6 b_.ph::.bool (a_.ph==b_.ph)::pt n2 3::.agg #[.slice a_.s1.a a_.s1.l.length a_.s1.c,.slice a_.s2.a a_.s2.l.length a_.s2.c]::pt n3 3::.agg #[.slice b_.s1.a b_.s1.l.length b_.s1.c,.slice b_.s2.a b_.s2.l.length b_.s2.c]::.bool s1::pt n2 5::i6 a_.pw::pt n3 5::i6 b_.pw::.bool (a_.pw==b_.pw)::pt n2 6::i6 a_.own::pt n3 6::i6 b_.own::.bool (a_.own==b_.own)::pt n2 7::i6 a_.oth::pt n3 7::i6 b_.oth::.bool (a_.oth==b_.oth)::pt n2 8::i6 a_.seen::pt n3 8::i6 b_.seen::.bool (a_.seen==b_.seen)::pt n2 9::i6 a_.seq::pt n3 9::i6 b_.seq::.bool (a_.seq==b_.seq)::pt n2 10::.agg (D5 a_.wt a_.wb).toArray::pt n3 10::.agg (D5 b_.wt b_.wb).toArray::.bool s9::pt n2 27::.agg (a_.r.L).toArray::pt n3 27::.agg (b_.r.L).toArray::.bool s2::pt n2 35::.agg (M7 a_.q a_.qa a_.qc).toArray::pt n3 35::.agg (M7 b_.q b_.qa b_.qc).toArray::.bool s3::pt n2 40::i6 a_.stan::pt n3 40::i6 b_.stan::.bool (a_.stan==b_.stan)::pt n2 41::i6 a_.day::pt n3 41::i6 b_.day::.bool (a_.day==b_.day)::pt n2 42::.slice a_.ua a_.u.length a_.uc::pt n3 42::.slice b_.ua b_.u.length b_.uc::.bool s4::pt n2 43::.agg (a_.h.L).toArray::pt n3 43::.agg (b_.h.L).toArray::.bool s5::pt n2 64::.slice a_.oa a_.o.length a_.oc::pt n3 64::.slice b_.oa b_.o.length b_.oc::.func (.func 100) #[] #[]::.bool s6::pt n2 65::.slice a_.ga a_.g.length a_.gc::pt n3 65::.slice b_.ga b_.g.length b_.gc::.func (.func 102) #[] #[]::.bool s7::pt n2 66::.agg (Ab2 a_).toArray::pt n3 66::.agg (Ab2 b_).toArray::.bool s10::.slice (some ⟨z,0,none⟩) 19 19::.bool ([(a_.id==b_.id),s8,(a_.ph==b_.ph),s1,(a_.pw==b_.pw),(a_.own==b_.own),(a_.oth==b_.oth),(a_.seen==b_.seen),(a_.seq==b_.seq),s9,s2,s3,(a_.stan==b_.stan),(a_.day==b_.day),s4,s5,s6,s7,s10].all id)::.bool ([(a_.id==b_.id),s8,(a_.ph==b_.ph),s1,(a_.pw==b_.pw),(a_.own==b_.own),(a_.oth==b_.oth),(a_.seen==b_.seen),(a_.seq==b_.seq),s9,s2,s3,(a_.stan==b_.stan),(a_.day==b_.day),s4,s5,s6,s7,s10].all id)::[])) u:=by
  intro u z G;refine T4 ?_ Eh0;exact hQ _ G
 have N9_19_54_59_74_79_85_91_97:∀(u:World) (z:Nat) (G:Below w.heap.size w u) (Z:At u (some ⟨z,0,none⟩) ([(a_.id==b_.id),s8,(a_.ph==b_.ph),s1,(a_.pw==b_.pw),(a_.own==b_.own),(a_.oth==b_.oth),(a_.seen==b_.seen),(a_.seq==b_.seq),s9,s2,s3,(a_.stan==b_.stan),(a_.day==b_.day),s4,s5,s6,s7,s10].map Value.bool)),wpAnyH Tryz.prog .any F6.1 Q S 2 (lm 100 316912650057057350374175801343) (C6 a Ab9 (pt n2 0::i6 a_.id::pt n3 0::i6 b_.id::.bool (a_.id==b_.id)::pt n2 1::.slice a_.k.a a_.k.l.length a_.k.c::pt n3 1::.slice b_.k.a b_.k.l.length b_.k.c::.bool s8::pt n2 2::i6 a_.ph::pt n3 2::i6 b_.ph::.bool (a_.ph==b_.ph)::pt n2 3::.agg #[.slice a_.s1.a a_.s1.l.length a_.s1.c,.slice a_.s2.a a_.s2.l.length a_.s2.c]::pt n3 3::.agg #[.slice b_.s1.a b_.s1.l.length b_.s1.c,.slice b_.s2.a b_.s2.l.length b_.s2.c]::.bool s1::pt n2 5::i6 a_.pw::pt n3 5::i6 b_.pw::.bool (a_.pw==b_.pw)::pt n2 6::i6 a_.own::pt n3 6::i6 b_.own::.bool (a_.own==b_.own)::pt n2 7::i6 a_.oth::pt n3 7::i6 b_.oth::.bool (a_.oth==b_.oth)::pt n2 8::i6 a_.seen::pt n3 8::i6 b_.seen::.bool (a_.seen==b_.seen)::pt n2 9::i6 a_.seq::pt n3 9::i6 b_.seq::.bool (a_.seq==b_.seq)::pt n2 10::.agg (D5 a_.wt a_.wb).toArray::pt n3 10::.agg (D5 b_.wt b_.wb).toArray::.bool s9::pt n2 27::.agg (a_.r.L).toArray::pt n3 27::.agg (b_.r.L).toArray::.bool s2::pt n2 35::.agg (M7 a_.q a_.qa a_.qc).toArray::pt n3 35::.agg (M7 b_.q b_.qa b_.qc).toArray::.bool s3::pt n2 40::i6 a_.stan::pt n3 40::i6 b_.stan::.bool (a_.stan==b_.stan)::pt n2 41::i6 a_.day::pt n3 41::i6 b_.day::.bool (a_.day==b_.day)::pt n2 42::.slice a_.ua a_.u.length a_.uc::pt n3 42::.slice b_.ua b_.u.length b_.uc::.bool s4::pt n2 43::.agg (a_.h.L).toArray::pt n3 43::.agg (b_.h.L).toArray::.bool s5::pt n2 64::.slice a_.oa a_.o.length a_.oc::pt n3 64::.slice b_.oa b_.o.length b_.oc::.func (.func 100) #[] #[]::.bool s6::pt n2 65::.slice a_.ga a_.g.length a_.gc::pt n3 65::.slice b_.ga b_.g.length b_.gc::.func (.func 102) #[] #[]::.bool s7::pt n2 66::.agg (Ab2 a_).toArray::pt n3 66::.agg (Ab2 b_).toArray::.bool s10::.slice (some ⟨z,0,none⟩) 19 19::i 105::i 4::[])) u:=by
  intro u z G Z;refine D7 [98] (D0 rG Dt2 ?_ AllReadyH.nil) Eh1;intro o hp hd;refine M0 hp (rG.ev1 (.slice (some ⟨z,0,none⟩) 19 19)) (Et2 _ 19 [(a_.id==b_.id),s8,(a_.ph==b_.ph),s1,(a_.pw==b_.pw),(a_.own==b_.own),(a_.oth==b_.oth),(a_.seen==b_.seen),(a_.seq==b_.seq),s9,s2,s3,(a_.stan==b_.stan),(a_.day==b_.day),s4,s5,s6,s7,s10] _ (show(19:Nat)≤1000 by decide) Z) ?_;rintro x u98 ⟨rfl,rfl⟩;refine⟨_,rfl,?_⟩;exact G8 (hok:=Eh2) (hz:=Eh3) rG [(99,4,.bool ([(a_.id==b_.id),s8,(a_.ph==b_.ph),s1,(a_.pw==b_.pw),(a_.own==b_.own),(a_.oth==b_.oth),(a_.seen==b_.seen),(a_.seq==b_.seq),s9,s2,s3,(a_.stan==b_.stan),(a_.day==b_.day),s4,s5,s6,s7,s10].all id))] hd ⟨B2.up (G),B3.up (G)⟩ ⟨Ak6 Dt3,trivial⟩ (N9_19_54_59_74_79_85_91_97_98 _ _ G)
 have N9_19_54_59_74_79_85_91:∀(u:World) (G:Below w.heap.size w u),wpAnyH Tryz.prog .any F6.1 Q S 3 (lm 100 158456325028528675187087900671) (C6 a Ab9 (pt n2 0::i6 a_.id::pt n3 0::i6 b_.id::.bool (a_.id==b_.id)::pt n2 1::.slice a_.k.a a_.k.l.length a_.k.c::pt n3 1::.slice b_.k.a b_.k.l.length b_.k.c::.bool s8::pt n2 2::i6 a_.ph::pt n3 2::i6 b_.ph::.bool (a_.ph==b_.ph)::pt n2 3::.agg #[.slice a_.s1.a a_.s1.l.length a_.s1.c,.slice a_.s2.a a_.s2.l.length a_.s2.c]::pt n3 3::.agg #[.slice b_.s1.a b_.s1.l.length b_.s1.c,.slice b_.s2.a b_.s2.l.length b_.s2.c]::.bool s1::pt n2 5::i6 a_.pw::pt n3 5::i6 b_.pw::.bool (a_.pw==b_.pw)::pt n2 6::i6 a_.own::pt n3 6::i6 b_.own::.bool (a_.own==b_.own)::pt n2 7::i6 a_.oth::pt n3 7::i6 b_.oth::.bool (a_.oth==b_.oth)::pt n2 8::i6 a_.seen::pt n3 8::i6 b_.seen::.bool (a_.seen==b_.seen)::pt n2 9::i6 a_.seq::pt n3 9::i6 b_.seq::.bool (a_.seq==b_.seq)::pt n2 10::.agg (D5 a_.wt a_.wb).toArray::pt n3 10::.agg (D5 b_.wt b_.wb).toArray::.bool s9::pt n2 27::.agg (a_.r.L).toArray::pt n3 27::.agg (b_.r.L).toArray::.bool s2::pt n2 35::.agg (M7 a_.q a_.qa a_.qc).toArray::pt n3 35::.agg (M7 b_.q b_.qa b_.qc).toArray::.bool s3::pt n2 40::i6 a_.stan::pt n3 40::i6 b_.stan::.bool (a_.stan==b_.stan)::pt n2 41::i6 a_.day::pt n3 41::i6 b_.day::.bool (a_.day==b_.day)::pt n2 42::.slice a_.ua a_.u.length a_.uc::pt n3 42::.slice b_.ua b_.u.length b_.uc::.bool s4::pt n2 43::.agg (a_.h.L).toArray::pt n3 43::.agg (b_.h.L).toArray::.bool s5::pt n2 64::.slice a_.oa a_.o.length a_.oc::pt n3 64::.slice b_.oa b_.o.length b_.oc::.func (.func 100) #[] #[]::.bool s6::pt n2 65::.slice a_.ga a_.g.length a_.gc::pt n3 65::.slice b_.ga b_.g.length b_.gc::.func (.func 102) #[] #[]::.bool s7::pt n2 66::.agg (Ab2 a_).toArray::pt n3 66::.agg (Ab2 b_).toArray::.bool s10::i 104::i 105::i 4::[])) u:=by
  intro u G;refine D7 [97] (D0 rG Dt1 ?_ AllReadyH.nil) Eh4;intro o hp hd;refine Ax8 201 4 19 _ hp (ps:=#[(0,.bool (a_.id==b_.id)),(1,.bool s8),(2,.bool (a_.ph==b_.ph)),(3,.bool s1),(4,.bool (a_.pw==b_.pw)),(5,.bool (a_.own==b_.own)),(6,.bool (a_.oth==b_.oth)),(7,.bool (a_.seen==b_.seen)),(8,.bool (a_.seq==b_.seq)),(9,.bool s9),(10,.bool s2),(11,.bool s3),(12,.bool (a_.stan==b_.stan)),(13,.bool (a_.day==b_.day)),(14,.bool s4),(15,.bool s5),(16,.bool s6),(17,.bool s7),(18,.bool s10)]) (Et3 hb rfl (by simp only[List.map_toArray,List.map_cons,List.map_nil];rfl)) (cs:=([(a_.id==b_.id),s8,(a_.ph==b_.ph),s1,(a_.pw==b_.pw),(a_.own==b_.own),(a_.oth==b_.oth),(a_.seen==b_.seen),(a_.seq==b_.seq),s9,s2,s3,(a_.stan==b_.stan),(a_.day==b_.day),s4,s5,s6,s7,s10].map Value.bool).toArray) (fun w=>by kernel_rfl) ?_;exact G8 (hok:=Eh5) (hz:=Eh6) rG [] hd ⟨B2.up (bt G (ba _ _)),B3.up (bt G (ba _ _))⟩ trivial (N9_19_54_59_74_79_85_91_97 _ _ (bt G (ba _ _)) (U4 u ([(a_.id==b_.id),s8,(a_.ph==b_.ph),s1,(a_.pw==b_.pw),(a_.own==b_.own),(a_.oth==b_.oth),(a_.seen==b_.seen),(a_.seq==b_.seq),s9,s2,s3,(a_.stan==b_.stan),(a_.day==b_.day),s4,s5,s6,s7,s10].map Value.bool) _))
 have N9_19_54_59_74_79_85:∀(u:World) (G:Below w.heap.size w u),wpAnyH Tryz.prog .any F6.1 Q S 4 (lm 100 155980444949957914637289652223) (C6 a Ab9 (pt n2 0::i6 a_.id::pt n3 0::i6 b_.id::.bool (a_.id==b_.id)::pt n2 1::.slice a_.k.a a_.k.l.length a_.k.c::pt n3 1::.slice b_.k.a b_.k.l.length b_.k.c::.bool s8::pt n2 2::i6 a_.ph::pt n3 2::i6 b_.ph::.bool (a_.ph==b_.ph)::pt n2 3::.agg #[.slice a_.s1.a a_.s1.l.length a_.s1.c,.slice a_.s2.a a_.s2.l.length a_.s2.c]::pt n3 3::.agg #[.slice b_.s1.a b_.s1.l.length b_.s1.c,.slice b_.s2.a b_.s2.l.length b_.s2.c]::.bool s1::pt n2 5::i6 a_.pw::pt n3 5::i6 b_.pw::.bool (a_.pw==b_.pw)::pt n2 6::i6 a_.own::pt n3 6::i6 b_.own::.bool (a_.own==b_.own)::pt n2 7::i6 a_.oth::pt n3 7::i6 b_.oth::.bool (a_.oth==b_.oth)::pt n2 8::i6 a_.seen::pt n3 8::i6 b_.seen::.bool (a_.seen==b_.seen)::pt n2 9::i6 a_.seq::pt n3 9::i6 b_.seq::.bool (a_.seq==b_.seq)::pt n2 10::.agg (D5 a_.wt a_.wb).toArray::pt n3 10::.agg (D5 b_.wt b_.wb).toArray::.bool s9::pt n2 27::.agg (a_.r.L).toArray::pt n3 27::.agg (b_.r.L).toArray::.bool s2::pt n2 35::.agg (M7 a_.q a_.qa a_.qc).toArray::pt n3 35::.agg (M7 b_.q b_.qa b_.qc).toArray::.bool s3::pt n2 40::i6 a_.stan::pt n3 40::i6 b_.stan::.bool (a_.stan==b_.stan)::pt n2 41::i6 a_.day::pt n3 41::i6 b_.day::.bool (a_.day==b_.day)::pt n2 42::.slice a_.ua a_.u.length a_.uc::pt n3 42::.slice b_.ua b_.u.length b_.uc::.bool s4::pt n2 43::.agg (a_.h.L).toArray::pt n3 43::.agg (b_.h.L).toArray::.bool s5::pt n2 64::.slice a_.oa a_.o.length a_.oc::pt n3 64::.slice b_.oa b_.o.length b_.oc::.func (.func 100) #[] #[]::.bool s6::pt n2 65::.slice a_.ga a_.g.length a_.gc::pt n3 65::.slice b_.ga b_.g.length b_.gc::.func (.func 102) #[] #[]::i 98::pt n2 66::.agg (Ab2 a_).toArray::pt n3 66::.agg (Ab2 b_).toArray::.bool s10::i 104::i 105::i 4::[])) u:=by
  intro u G;refine D7 [91] (D0 rG Ds5 ?_ AllReadyH.nil) Eh7;intro o hp hd;refine M0 hp (ev3 (show Act.eval _ _=.slice a_.ga a_.g.length a_.gc from rG.ev) (show Act.eval _ _=.slice b_.ga b_.g.length b_.gc from rG.ev) (show Act.eval _ _=.func (.func 102) #[] #[] from rG.ev)) (P7 u G) ?_;rintro x u91 ⟨rfl,hb91⟩;refine⟨_,rfl,?_⟩;exact G8 (hok:=Eh8) (hz:=Eh9) rG [] hd ⟨B2.up (bt G hb91),B3.up (bt G hb91)⟩ trivial (N9_19_54_59_74_79_85_91 _  (bt G hb91))
 have N9_19_54_59_74_79:∀(u:World) (G:Below w.heap.size w u),wpAnyH Tryz.prog .any F6.1 Q S 5 (lm 100 155941759323730246503699054591) (C6 a Ab9 (pt n2 0::i6 a_.id::pt n3 0::i6 b_.id::.bool (a_.id==b_.id)::pt n2 1::.slice a_.k.a a_.k.l.length a_.k.c::pt n3 1::.slice b_.k.a b_.k.l.length b_.k.c::.bool s8::pt n2 2::i6 a_.ph::pt n3 2::i6 b_.ph::.bool (a_.ph==b_.ph)::pt n2 3::.agg #[.slice a_.s1.a a_.s1.l.length a_.s1.c,.slice a_.s2.a a_.s2.l.length a_.s2.c]::pt n3 3::.agg #[.slice b_.s1.a b_.s1.l.length b_.s1.c,.slice b_.s2.a b_.s2.l.length b_.s2.c]::.bool s1::pt n2 5::i6 a_.pw::pt n3 5::i6 b_.pw::.bool (a_.pw==b_.pw)::pt n2 6::i6 a_.own::pt n3 6::i6 b_.own::.bool (a_.own==b_.own)::pt n2 7::i6 a_.oth::pt n3 7::i6 b_.oth::.bool (a_.oth==b_.oth)::pt n2 8::i6 a_.seen::pt n3 8::i6 b_.seen::.bool (a_.seen==b_.seen)::pt n2 9::i6 a_.seq::pt n3 9::i6 b_.seq::.bool (a_.seq==b_.seq)::pt n2 10::.agg (D5 a_.wt a_.wb).toArray::pt n3 10::.agg (D5 b_.wt b_.wb).toArray::.bool s9::pt n2 27::.agg (a_.r.L).toArray::pt n3 27::.agg (b_.r.L).toArray::.bool s2::pt n2 35::.agg (M7 a_.q a_.qa a_.qc).toArray::pt n3 35::.agg (M7 b_.q b_.qa b_.qc).toArray::.bool s3::pt n2 40::i6 a_.stan::pt n3 40::i6 b_.stan::.bool (a_.stan==b_.stan)::pt n2 41::i6 a_.day::pt n3 41::i6 b_.day::.bool (a_.day==b_.day)::pt n2 42::.slice a_.ua a_.u.length a_.uc::pt n3 42::.slice b_.ua b_.u.length b_.uc::.bool s4::pt n2 43::.agg (a_.h.L).toArray::pt n3 43::.agg (b_.h.L).toArray::.bool s5::pt n2 64::.slice a_.oa a_.o.length a_.oc::pt n3 64::.slice b_.oa b_.o.length b_.oc::.func (.func 100) #[] #[]::i 92::pt n2 65::.slice a_.ga a_.g.length a_.gc::pt n3 65::.slice b_.ga b_.g.length b_.gc::.func (.func 102) #[] #[]::i 98::pt n2 66::.agg (Ab2 a_).toArray::pt n3 66::.agg (Ab2 b_).toArray::.bool s10::i 104::i 105::i 4::[])) u:=by
  intro u G;refine D7 [85] (D0 rG Dr9 ?_ AllReadyH.nil) Dt4;intro o hp hd;refine M0 hp (ev3 (show Act.eval _ _=.slice a_.oa a_.o.length a_.oc from rG.ev) (show Act.eval _ _=.slice b_.oa b_.o.length b_.oc from rG.ev) (show Act.eval _ _=.func (.func 100) #[] #[] from rG.ev)) (P6 u G) ?_;rintro x u85 ⟨rfl,hb85⟩;refine⟨_,rfl,?_⟩;exact G8 (hok:=Dt5) (hz:=Dt6) rG [] hd ⟨B2.up (bt G hb85),B3.up (bt G hb85)⟩ trivial (N9_19_54_59_74_79_85 _  (bt G hb85))
 have N9_19_54_59_74:∀(u:World) (G:Below w.heap.size w u),wpAnyH Tryz.prog .any F6.1 Q S 6 (lm 100 155941154860820439189111701503) (C6 a Ab9 (pt n2 0::i6 a_.id::pt n3 0::i6 b_.id::.bool (a_.id==b_.id)::pt n2 1::.slice a_.k.a a_.k.l.length a_.k.c::pt n3 1::.slice b_.k.a b_.k.l.length b_.k.c::.bool s8::pt n2 2::i6 a_.ph::pt n3 2::i6 b_.ph::.bool (a_.ph==b_.ph)::pt n2 3::.agg #[.slice a_.s1.a a_.s1.l.length a_.s1.c,.slice a_.s2.a a_.s2.l.length a_.s2.c]::pt n3 3::.agg #[.slice b_.s1.a b_.s1.l.length b_.s1.c,.slice b_.s2.a b_.s2.l.length b_.s2.c]::.bool s1::pt n2 5::i6 a_.pw::pt n3 5::i6 b_.pw::.bool (a_.pw==b_.pw)::pt n2 6::i6 a_.own::pt n3 6::i6 b_.own::.bool (a_.own==b_.own)::pt n2 7::i6 a_.oth::pt n3 7::i6 b_.oth::.bool (a_.oth==b_.oth)::pt n2 8::i6 a_.seen::pt n3 8::i6 b_.seen::.bool (a_.seen==b_.seen)::pt n2 9::i6 a_.seq::pt n3 9::i6 b_.seq::.bool (a_.seq==b_.seq)::pt n2 10::.agg (D5 a_.wt a_.wb).toArray::pt n3 10::.agg (D5 b_.wt b_.wb).toArray::.bool s9::pt n2 27::.agg (a_.r.L).toArray::pt n3 27::.agg (b_.r.L).toArray::.bool s2::pt n2 35::.agg (M7 a_.q a_.qa a_.qc).toArray::pt n3 35::.agg (M7 b_.q b_.qa b_.qc).toArray::.bool s3::pt n2 40::i6 a_.stan::pt n3 40::i6 b_.stan::.bool (a_.stan==b_.stan)::pt n2 41::i6 a_.day::pt n3 41::i6 b_.day::.bool (a_.day==b_.day)::pt n2 42::.slice a_.ua a_.u.length a_.uc::pt n3 42::.slice b_.ua b_.u.length b_.uc::.bool s4::pt n2 43::.agg (a_.h.L).toArray::pt n3 43::.agg (b_.h.L).toArray::i 86::pt n2 64::.slice a_.oa a_.o.length a_.oc::pt n3 64::.slice b_.oa b_.o.length b_.oc::.func (.func 100) #[] #[]::i 92::pt n2 65::.slice a_.ga a_.g.length a_.gc::pt n3 65::.slice b_.ga b_.g.length b_.gc::.func (.func 102) #[] #[]::i 98::pt n2 66::.agg (Ab2 a_).toArray::pt n3 66::.agg (Ab2 b_).toArray::.bool s10::i 104::i 105::i 4::[])) u:=by
  intro u G;refine D7 [79] (D0 rG Dr3 ?_ AllReadyH.nil) Dt7;intro o hp hd;refine M0 hp (ev2 (show Act.eval _ _=.agg (a_.h.L).toArray from rG.ev) (show Act.eval _ _=.agg (b_.h.L).toArray from rG.ev)) (P5 u G) ?_;rintro x u79 ⟨rfl,hb79⟩;refine⟨_,rfl,?_⟩;exact G8 (hok:=Dt8) (hz:=Dt9) rG [] hd ⟨B2.up (bt G hb79),B3.up (bt G hb79)⟩ trivial (N9_19_54_59_74_79 _  (bt G hb79))
 have N9_19_54_59:∀(u:World) (G:Below w.heap.size w u),wpAnyH Tryz.prog .any F6.1 Q S 7 (lm 100 155941135971354507710530846719) (C6 a Ab9 (pt n2 0::i6 a_.id::pt n3 0::i6 b_.id::.bool (a_.id==b_.id)::pt n2 1::.slice a_.k.a a_.k.l.length a_.k.c::pt n3 1::.slice b_.k.a b_.k.l.length b_.k.c::.bool s8::pt n2 2::i6 a_.ph::pt n3 2::i6 b_.ph::.bool (a_.ph==b_.ph)::pt n2 3::.agg #[.slice a_.s1.a a_.s1.l.length a_.s1.c,.slice a_.s2.a a_.s2.l.length a_.s2.c]::pt n3 3::.agg #[.slice b_.s1.a b_.s1.l.length b_.s1.c,.slice b_.s2.a b_.s2.l.length b_.s2.c]::.bool s1::pt n2 5::i6 a_.pw::pt n3 5::i6 b_.pw::.bool (a_.pw==b_.pw)::pt n2 6::i6 a_.own::pt n3 6::i6 b_.own::.bool (a_.own==b_.own)::pt n2 7::i6 a_.oth::pt n3 7::i6 b_.oth::.bool (a_.oth==b_.oth)::pt n2 8::i6 a_.seen::pt n3 8::i6 b_.seen::.bool (a_.seen==b_.seen)::pt n2 9::i6 a_.seq::pt n3 9::i6 b_.seq::.bool (a_.seq==b_.seq)::pt n2 10::.agg (D5 a_.wt a_.wb).toArray::pt n3 10::.agg (D5 b_.wt b_.wb).toArray::.bool s9::pt n2 27::.agg (a_.r.L).toArray::pt n3 27::.agg (b_.r.L).toArray::.bool s2::pt n2 35::.agg (M7 a_.q a_.qa a_.qc).toArray::pt n3 35::.agg (M7 b_.q b_.qa b_.qc).toArray::.bool s3::pt n2 40::i6 a_.stan::pt n3 40::i6 b_.stan::.bool (a_.stan==b_.stan)::pt n2 41::i6 a_.day::pt n3 41::i6 b_.day::.bool (a_.day==b_.day)::pt n2 42::.slice a_.ua a_.u.length a_.uc::pt n3 42::.slice b_.ua b_.u.length b_.uc::i 81::pt n2 43::.agg (a_.h.L).toArray::pt n3 43::.agg (b_.h.L).toArray::i 86::pt n2 64::.slice a_.oa a_.o.length a_.oc::pt n3 64::.slice b_.oa b_.o.length b_.oc::.func (.func 100) #[] #[]::i 92::pt n2 65::.slice a_.ga a_.g.length a_.gc::pt n3 65::.slice b_.ga b_.g.length b_.gc::.func (.func 102) #[] #[]::i 98::pt n2 66::.agg (Ab2 a_).toArray::pt n3 66::.agg (Ab2 b_).toArray::.bool s10::i 104::i 105::i 4::[])) u:=by
  intro u G;refine D7 [74] (D0 rG Dq8 ?_ AllReadyH.nil) Du0;intro o hp hd;refine M0 hp (ev3 (show Act.eval _ _=.slice a_.ua a_.u.length a_.uc from rG.ev) (show Act.eval _ _=.slice b_.ua b_.u.length b_.uc from rG.ev) (show Act.eval _ _=.func (.func 101) #[] #[] from rfl)) (P4 u G) ?_;rintro x u74 ⟨rfl,hb74⟩;refine⟨_,rfl,?_⟩;exact G8 (hok:=Du1) (hz:=Du2) rG [] hd ⟨B2.up (bt G hb74),B3.up (bt G hb74)⟩ trivial (N9_19_54_59_74 _  (bt G hb74))
 have N9_19_54:∀(u:World) (G:Below w.heap.size w u),wpAnyH Tryz.prog .any F6.1 Q S 8 (lm 100 155941135970778046958227423231) (C6 a Ab9 (pt n2 0::i6 a_.id::pt n3 0::i6 b_.id::.bool (a_.id==b_.id)::pt n2 1::.slice a_.k.a a_.k.l.length a_.k.c::pt n3 1::.slice b_.k.a b_.k.l.length b_.k.c::.bool s8::pt n2 2::i6 a_.ph::pt n3 2::i6 b_.ph::.bool (a_.ph==b_.ph)::pt n2 3::.agg #[.slice a_.s1.a a_.s1.l.length a_.s1.c,.slice a_.s2.a a_.s2.l.length a_.s2.c]::pt n3 3::.agg #[.slice b_.s1.a b_.s1.l.length b_.s1.c,.slice b_.s2.a b_.s2.l.length b_.s2.c]::.bool s1::pt n2 5::i6 a_.pw::pt n3 5::i6 b_.pw::.bool (a_.pw==b_.pw)::pt n2 6::i6 a_.own::pt n3 6::i6 b_.own::.bool (a_.own==b_.own)::pt n2 7::i6 a_.oth::pt n3 7::i6 b_.oth::.bool (a_.oth==b_.oth)::pt n2 8::i6 a_.seen::pt n3 8::i6 b_.seen::.bool (a_.seen==b_.seen)::pt n2 9::i6 a_.seq::pt n3 9::i6 b_.seq::.bool (a_.seq==b_.seq)::pt n2 10::.agg (D5 a_.wt a_.wb).toArray::pt n3 10::.agg (D5 b_.wt b_.wb).toArray::.bool s9::pt n2 27::.agg (a_.r.L).toArray::pt n3 27::.agg (b_.r.L).toArray::.bool s2::pt n2 35::.agg (M7 a_.q a_.qa a_.qc).toArray::pt n3 35::.agg (M7 b_.q b_.qa b_.qc).toArray::i 66::pt n2 40::i6 a_.stan::pt n3 40::i6 b_.stan::.bool (a_.stan==b_.stan)::pt n2 41::i6 a_.day::pt n3 41::i6 b_.day::.bool (a_.day==b_.day)::pt n2 42::.slice a_.ua a_.u.length a_.uc::pt n3 42::.slice b_.ua b_.u.length b_.uc::i 81::pt n2 43::.agg (a_.h.L).toArray::pt n3 43::.agg (b_.h.L).toArray::i 86::pt n2 64::.slice a_.oa a_.o.length a_.oc::pt n3 64::.slice b_.oa b_.o.length b_.oc::.func (.func 100) #[] #[]::i 92::pt n2 65::.slice a_.ga a_.g.length a_.gc::pt n3 65::.slice b_.ga b_.g.length b_.gc::.func (.func 102) #[] #[]::i 98::pt n2 66::.agg (Ab2 a_).toArray::pt n3 66::.agg (Ab2 b_).toArray::.bool s10::i 104::i 105::i 4::[])) u:=by
  intro u G;refine D7 [59] (D0 rG Dp5 ?_ AllReadyH.nil) Du3;intro o hp hd;refine M0 hp (ev2 (show Act.eval _ _=.agg (M7 a_.q a_.qa a_.qc).toArray from rG.ev) (show Act.eval _ _=.agg (M7 b_.q b_.qa b_.qc).toArray from rG.ev)) (P3 u G) ?_;rintro x u59 ⟨rfl,hb59⟩;refine⟨_,rfl,?_⟩;exact G8 (hok:=Du4) (hz:=Du5) rG [] hd ⟨B2.up (bt G hb59),B3.up (bt G hb59)⟩ trivial (N9_19_54_59 _  (bt G hb59))
 have N9_19:∀(u:World) (G:Below w.heap.size w u),wpAnyH Tryz.prog .any F6.1 Q S 9 (lm 100 155941135970760032559717941247) (C6 a Ab9 (pt n2 0::i6 a_.id::pt n3 0::i6 b_.id::.bool (a_.id==b_.id)::pt n2 1::.slice a_.k.a a_.k.l.length a_.k.c::pt n3 1::.slice b_.k.a b_.k.l.length b_.k.c::.bool s8::pt n2 2::i6 a_.ph::pt n3 2::i6 b_.ph::.bool (a_.ph==b_.ph)::pt n2 3::.agg #[.slice a_.s1.a a_.s1.l.length a_.s1.c,.slice a_.s2.a a_.s2.l.length a_.s2.c]::pt n3 3::.agg #[.slice b_.s1.a b_.s1.l.length b_.s1.c,.slice b_.s2.a b_.s2.l.length b_.s2.c]::.bool s1::pt n2 5::i6 a_.pw::pt n3 5::i6 b_.pw::.bool (a_.pw==b_.pw)::pt n2 6::i6 a_.own::pt n3 6::i6 b_.own::.bool (a_.own==b_.own)::pt n2 7::i6 a_.oth::pt n3 7::i6 b_.oth::.bool (a_.oth==b_.oth)::pt n2 8::i6 a_.seen::pt n3 8::i6 b_.seen::.bool (a_.seen==b_.seen)::pt n2 9::i6 a_.seq::pt n3 9::i6 b_.seq::.bool (a_.seq==b_.seq)::pt n2 10::.agg (D5 a_.wt a_.wb).toArray::pt n3 10::.agg (D5 b_.wt b_.wb).toArray::.bool s9::pt n2 27::.agg (a_.r.L).toArray::pt n3 27::.agg (b_.r.L).toArray::i 61::pt n2 35::.agg (M7 a_.q a_.qa a_.qc).toArray::pt n3 35::.agg (M7 b_.q b_.qa b_.qc).toArray::i 66::pt n2 40::i6 a_.stan::pt n3 40::i6 b_.stan::.bool (a_.stan==b_.stan)::pt n2 41::i6 a_.day::pt n3 41::i6 b_.day::.bool (a_.day==b_.day)::pt n2 42::.slice a_.ua a_.u.length a_.uc::pt n3 42::.slice b_.ua b_.u.length b_.uc::i 81::pt n2 43::.agg (a_.h.L).toArray::pt n3 43::.agg (b_.h.L).toArray::i 86::pt n2 64::.slice a_.oa a_.o.length a_.oc::pt n3 64::.slice b_.oa b_.o.length b_.oc::.func (.func 100) #[] #[]::i 92::pt n2 65::.slice a_.ga a_.g.length a_.gc::pt n3 65::.slice b_.ga b_.g.length b_.gc::.func (.func 102) #[] #[]::i 98::pt n2 66::.agg (Ab2 a_).toArray::pt n3 66::.agg (Ab2 b_).toArray::.bool s10::i 104::i 105::i 4::[])) u:=by
  intro u G;refine D7 [54] (D0 rG Dp0 ?_ AllReadyH.nil) Du6;intro o hp hd;refine M0 hp (ev2 (show Act.eval _ _=.agg (a_.r.L).toArray from rG.ev) (show Act.eval _ _=.agg (b_.r.L).toArray from rG.ev)) (P2 u G) ?_;rintro x u54 ⟨rfl,hb54⟩;refine⟨_,rfl,?_⟩;exact G8 (hok:=Du7) (hz:=Du8) rG [] hd ⟨B2.up (bt G hb54),B3.up (bt G hb54)⟩ trivial (N9_19_54 _  (bt G hb54))
 have N9:∀(u:World) (G:Below w.heap.size w u),wpAnyH Tryz.prog .any F6.1 Q S 10 (lm 100 155941135970760032559717416959) (C6 a Ab9 (pt n2 0::i6 a_.id::pt n3 0::i6 b_.id::.bool (a_.id==b_.id)::pt n2 1::.slice a_.k.a a_.k.l.length a_.k.c::pt n3 1::.slice b_.k.a b_.k.l.length b_.k.c::.bool s8::pt n2 2::i6 a_.ph::pt n3 2::i6 b_.ph::.bool (a_.ph==b_.ph)::pt n2 3::.agg #[.slice a_.s1.a a_.s1.l.length a_.s1.c,.slice a_.s2.a a_.s2.l.length a_.s2.c]::pt n3 3::.agg #[.slice b_.s1.a b_.s1.l.length b_.s1.c,.slice b_.s2.a b_.s2.l.length b_.s2.c]::i 26::pt n2 5::i6 a_.pw::pt n3 5::i6 b_.pw::.bool (a_.pw==b_.pw)::pt n2 6::i6 a_.own::pt n3 6::i6 b_.own::.bool (a_.own==b_.own)::pt n2 7::i6 a_.oth::pt n3 7::i6 b_.oth::.bool (a_.oth==b_.oth)::pt n2 8::i6 a_.seen::pt n3 8::i6 b_.seen::.bool (a_.seen==b_.seen)::pt n2 9::i6 a_.seq::pt n3 9::i6 b_.seq::.bool (a_.seq==b_.seq)::pt n2 10::.agg (D5 a_.wt a_.wb).toArray::pt n3 10::.agg (D5 b_.wt b_.wb).toArray::.bool s9::pt n2 27::.agg (a_.r.L).toArray::pt n3 27::.agg (b_.r.L).toArray::i 61::pt n2 35::.agg (M7 a_.q a_.qa a_.qc).toArray::pt n3 35::.agg (M7 b_.q b_.qa b_.qc).toArray::i 66::pt n2 40::i6 a_.stan::pt n3 40::i6 b_.stan::.bool (a_.stan==b_.stan)::pt n2 41::i6 a_.day::pt n3 41::i6 b_.day::.bool (a_.day==b_.day)::pt n2 42::.slice a_.ua a_.u.length a_.uc::pt n3 42::.slice b_.ua b_.u.length b_.uc::i 81::pt n2 43::.agg (a_.h.L).toArray::pt n3 43::.agg (b_.h.L).toArray::i 86::pt n2 64::.slice a_.oa a_.o.length a_.oc::pt n3 64::.slice b_.oa b_.o.length b_.oc::.func (.func 100) #[] #[]::i 92::pt n2 65::.slice a_.ga a_.g.length a_.gc::pt n3 65::.slice b_.ga b_.g.length b_.gc::.func (.func 102) #[] #[]::i 98::pt n2 66::.agg (Ab2 a_).toArray::pt n3 66::.agg (Ab2 b_).toArray::.bool s10::i 104::i 105::i 4::[])) u:=by
  intro u G;refine D7 [19] (D0 rG Dm0 ?_ AllReadyH.nil) Du9;intro o hp hd;refine M0 hp (ev2 (show Act.eval _ _=.agg #[.slice a_.s1.a a_.s1.l.length a_.s1.c,.slice a_.s2.a a_.s2.l.length a_.s2.c] from rG.ev) (show Act.eval _ _=.agg #[.slice b_.s1.a b_.s1.l.length b_.s1.c,.slice b_.s2.a b_.s2.l.length b_.s2.c] from rG.ev)) (P1 u G) ?_;rintro x u19 ⟨rfl,hb19⟩;refine⟨_,rfl,?_⟩;exact G8 (hok:=Dv0) (hz:=Dv1) rG [] hd ⟨B2.up (bt G hb19),B3.up (bt G hb19)⟩ trivial (N9_19 _  (bt G hb19))
 have N0:∀(u:World) (G:Below w.heap.size w u),wpAnyH Tryz.prog .any F6.1 Q S 11 (lm 100 155941135970760032559717416447) (C6 a Ab9 (pt n2 0::i6 a_.id::pt n3 0::i6 b_.id::.bool (a_.id==b_.id)::pt n2 1::.slice a_.k.a a_.k.l.length a_.k.c::pt n3 1::.slice b_.k.a b_.k.l.length b_.k.c::i 16::pt n2 2::i6 a_.ph::pt n3 2::i6 b_.ph::.bool (a_.ph==b_.ph)::pt n2 3::.agg #[.slice a_.s1.a a_.s1.l.length a_.s1.c,.slice a_.s2.a a_.s2.l.length a_.s2.c]::pt n3 3::.agg #[.slice b_.s1.a b_.s1.l.length b_.s1.c,.slice b_.s2.a b_.s2.l.length b_.s2.c]::i 26::pt n2 5::i6 a_.pw::pt n3 5::i6 b_.pw::.bool (a_.pw==b_.pw)::pt n2 6::i6 a_.own::pt n3 6::i6 b_.own::.bool (a_.own==b_.own)::pt n2 7::i6 a_.oth::pt n3 7::i6 b_.oth::.bool (a_.oth==b_.oth)::pt n2 8::i6 a_.seen::pt n3 8::i6 b_.seen::.bool (a_.seen==b_.seen)::pt n2 9::i6 a_.seq::pt n3 9::i6 b_.seq::.bool (a_.seq==b_.seq)::pt n2 10::.agg (D5 a_.wt a_.wb).toArray::pt n3 10::.agg (D5 b_.wt b_.wb).toArray::.bool s9::pt n2 27::.agg (a_.r.L).toArray::pt n3 27::.agg (b_.r.L).toArray::i 61::pt n2 35::.agg (M7 a_.q a_.qa a_.qc).toArray::pt n3 35::.agg (M7 b_.q b_.qa b_.qc).toArray::i 66::pt n2 40::i6 a_.stan::pt n3 40::i6 b_.stan::.bool (a_.stan==b_.stan)::pt n2 41::i6 a_.day::pt n3 41::i6 b_.day::.bool (a_.day==b_.day)::pt n2 42::.slice a_.ua a_.u.length a_.uc::pt n3 42::.slice b_.ua b_.u.length b_.uc::i 81::pt n2 43::.agg (a_.h.L).toArray::pt n3 43::.agg (b_.h.L).toArray::i 86::pt n2 64::.slice a_.oa a_.o.length a_.oc::pt n3 64::.slice b_.oa b_.o.length b_.oc::.func (.func 100) #[] #[]::i 92::pt n2 65::.slice a_.ga a_.g.length a_.gc::pt n3 65::.slice b_.ga b_.g.length b_.gc::.func (.func 102) #[] #[]::i 98::pt n2 66::.agg (Ab2 a_).toArray::pt n3 66::.agg (Ab2 b_).toArray::.bool s10::i 104::i 105::i 4::[])) u:=by
  intro u G;refine D7 [9] (D0 rG Eg9 ?_ AllReadyH.nil) Dv2;intro o hp hd;refine M0 hp (ev2 (show Act.eval _ _=.slice a_.k.a a_.k.l.length a_.k.c from rG.ev) (show Act.eval _ _=.slice b_.k.a b_.k.l.length b_.k.c from rG.ev)) (P8 u G) ?_;rintro x u9 ⟨rfl,rfl⟩;refine⟨_,rfl,?_⟩;exact G8 (hok:=Dv3) (hz:=Dv4) rG [] hd ⟨B2.up (G),B3.up (G)⟩ trivial (N9 _  G)
 refine M5 (lz:=(lm 100 4294442495)) (fuel':=70) (hok:=Dv5) (hz:=Dv6) 100 rG [(0,7,pt n2 0),(1,8,i6 a_.id),(2,9,pt n3 0),(3,10,i6 b_.id),(4,11,.bool (a_.id==b_.id)),(5,12,pt n2 1),(6,13,.slice a_.k.a a_.k.l.length a_.k.c),(7,14,pt n3 1),(8,15,.slice b_.k.a b_.k.l.length b_.k.c),(10,17,pt n2 2),(11,18,i6 a_.ph),(12,19,pt n3 2),(13,20,i6 b_.ph),(14,21,.bool (a_.ph==b_.ph)),(15,22,pt n2 3),(16,23,.agg #[.slice a_.s1.a a_.s1.l.length a_.s1.c,.slice a_.s2.a a_.s2.l.length a_.s2.c]),(17,24,pt n3 3),(18,25,.agg #[.slice b_.s1.a b_.s1.l.length b_.s1.c,.slice b_.s2.a b_.s2.l.length b_.s2.c]),(20,27,pt n2 5),(21,28,i6 a_.pw),(22,29,pt n3 5),(23,30,i6 b_.pw),(24,31,.bool (a_.pw==b_.pw)),(25,32,pt n2 6),(26,33,i6 a_.own),(27,34,pt n3 6),(28,35,i6 b_.own),(29,36,.bool (a_.own==b_.own)),(30,37,pt n2 7),(31,38,i6 a_.oth)] h0 ⟨B2.up (bd _),B3.up (bd _)⟩ ⟨A7 Eg1 e2,D8 Eg2 (fun w hw=>hw.1.blk.endIn.id),A7 Eg3 e3,D8 Eg4 (fun w hw=>hw.2.blk.endIn.id),Af5 rfl rfl,A7 Eg5 e2,D8 Eg6 (fun w hw=>hw.1.blk.endIn.k),A7 Eg7 e3,D8 Eg8 (fun w hw=>hw.2.blk.endIn.k),A7 Dl2 e2,D8 Dl3 (fun w hw=>hw.1.blk.endIn.ph),A7 Dl4 e3,D8 Dl5 (fun w hw=>hw.2.blk.endIn.ph),Af5 rfl rfl,A7 Dl6 e2,S0 (cs:=[.slice a_.s1.a a_.s1.l.length a_.s1.c,.slice a_.s2.a a_.s2.l.length a_.s2.c]) Dl7 (fun w hw=>hw.1.blk.endIn.at_s) Av7,A7 Dl8 e3,S0 (cs:=[.slice b_.s1.a b_.s1.l.length b_.s1.c,.slice b_.s2.a b_.s2.l.length b_.s2.c]) Dl9 (fun w hw=>hw.2.blk.endIn.at_s) Av7,A7 Dm1 e2,D8 Dm2 (fun w hw=>hw.1.blk.endIn.pw),A7 Dm3 e3,D8 Dm4 (fun w hw=>hw.2.blk.endIn.pw),Af5 rfl rfl,A7 Dm5 e2,D8 Dm6 (fun w hw=>hw.1.blk.endIn.own),A7 Dm7 e3,D8 Dm8 (fun w hw=>hw.2.blk.endIn.own),Af5 rfl rfl,A7 Dm9 e2,D8 Dn0 (fun w hw=>hw.1.blk.endIn.oth),trivial⟩ ?_;refine Al8 (lz:=(lm 100 17852268922896121343)) (fuel':=40) (hok:=Dv7) (hz:=Dv8) rG [(32,39,pt n3 7),(33,40,i6 b_.oth),(34,41,.bool (a_.oth==b_.oth)),(35,42,pt n2 8),(36,43,i6 a_.seen),(37,44,pt n3 8),(38,45,i6 b_.seen),(39,46,.bool (a_.seen==b_.seen)),(40,47,pt n2 9),(41,48,i6 a_.seq),(42,49,pt n3 9),(43,50,i6 b_.seq),(44,51,.bool (a_.seq==b_.seq)),(45,52,pt n2 10),(46,53,.agg (D5 a_.wt a_.wb).toArray),(47,54,pt n3 10),(48,55,.agg (D5 b_.wt b_.wb).toArray),(49,56,.bool s9),(50,57,pt n2 27),(51,58,.agg (a_.r.L).toArray),(52,59,pt n3 27),(53,60,.agg (b_.r.L).toArray),(55,62,pt n2 35),(56,63,.agg (M7 a_.q a_.qa a_.qc).toArray),(57,64,pt n3 35),(58,65,.agg (M7 b_.q b_.qa b_.qc).toArray),(60,67,pt n2 40),(61,68,i6 a_.stan),(62,69,pt n3 40),(63,70,i6 b_.stan)] ⟨B2.up (bd _),B3.up (bd _)⟩ ⟨A7 Dn1 e3,D8 Dn2 (fun w hw=>hw.2.blk.endIn.oth),Af5 rfl rfl,A7 Dn3 e2,D8 Dn4 (fun w hw=>hw.1.blk.endIn.seen),A7 Dn5 e3,D8 Dn6 (fun w hw=>hw.2.blk.endIn.seen),Af5 rfl rfl,A7 Dn7 e2,D8 Dn8 (fun w hw=>hw.1.blk.endIn.seq),A7 Dn9 e3,D8 Do0 (fun w hw=>hw.2.blk.endIn.seq),Af5 rfl rfl,A7 Do1 e2,S0 (cs:=D5 a_.wt a_.wb) Do2 (fun w hw=>hw.1.blk.endIn.at_w) (by rw[G6];exact S5),A7 Do3 e3,S0 (cs:=D5 b_.wt b_.wb) Do4 (fun w hw=>hw.2.blk.endIn.at_w) (by rw[G6];exact S5),Ba5 Do5 (fun w=>Ez8 (.tmp 53) (.tmp 55) a_ b_ s9 h9 w),A7 Do6 e2,S0 (cs:=a_.r.L) Do7 (fun w hw=>hw.1.blk.endIn.at_r) Ab7,A7 Do8 e3,S0 (cs:=b_.r.L) Do9 (fun w hw=>hw.2.blk.endIn.at_r) Ab7,A7 Dp1 e2,S0 (cs:=M7 a_.q a_.qa a_.qc) Dp2 (fun w hw=>hw.1.blk.endIn.at_q) Bb8,A7 Dp3 e3,S0 (cs:=M7 b_.q b_.qa b_.qc) Dp4 (fun w hw=>hw.2.blk.endIn.at_q) Bb8,A7 Dp6 e2,D8 Dp7 (fun w hw=>hw.1.blk.endIn.stan),A7 Dp8 e3,D8 Dp9 (fun w hw=>hw.2.blk.endIn.stan),trivial⟩ ?_;exact Al8 (hok:=Dv9) (hz:=Dw0) rG [(64,71,.bool (a_.stan==b_.stan)),(65,72,pt n2 41),(66,73,i6 a_.day),(67,74,pt n3 41),(68,75,i6 b_.day),(69,76,.bool (a_.day==b_.day)),(70,77,pt n2 42),(71,78,.slice a_.ua a_.u.length a_.uc),(72,79,pt n3 42),(73,80,.slice b_.ua b_.u.length b_.uc),(75,82,pt n2 43),(76,83,.agg (a_.h.L).toArray),(77,84,pt n3 43),(78,85,.agg (b_.h.L).toArray),(80,87,pt n2 64),(81,88,.slice a_.oa a_.o.length a_.oc),(82,89,pt n3 64),(83,90,.slice b_.oa b_.o.length b_.oc),(84,91,.func (.func 100) #[] #[]),(86,93,pt n2 65),(87,94,.slice a_.ga a_.g.length a_.gc),(88,95,pt n3 65),(89,96,.slice b_.ga b_.g.length b_.gc),(90,97,.func (.func 102) #[] #[]),(92,99,pt n2 66),(93,100,.agg (Ab2 a_).toArray),(94,101,pt n3 66),(95,102,.agg (Ab2 b_).toArray),(96,103,.bool s10)] ⟨B2.up (bd _),B3.up (bd _)⟩ ⟨Af5 rfl rfl,A7 Dq0 e2,D8 Dq1 (fun w hw=>hw.1.blk.endIn.day),A7 Dq2 e3,D8 Dq3 (fun w hw=>hw.2.blk.endIn.day),Af5 rfl rfl,A7 Dq4 e2,D8 Dq5 (fun w hw=>hw.1.blk.endIn.u),A7 Dq6 e3,D8 Dq7 (fun w hw=>hw.2.blk.endIn.u),A7 Dq9 e2,S0 (cs:=a_.h.L) Dr0 (fun w hw=>hw.1.blk.endIn.at_h) (by kernel_rfl),A7 Dr1 e3,S0 (cs:=b_.h.L) Dr2 (fun w hw=>hw.2.blk.endIn.at_h) (by kernel_rfl),A7 Dr4 e2,D8 Dr5 (fun w hw=>hw.1.blk.endIn.o),A7 Dr6 e3,D8 Dr7 (fun w hw=>hw.2.blk.endIn.o),A9 Dr8 e5,A7 Ds0 e2,D8 Ds1 (fun w hw=>hw.1.blk.endIn.g),A7 Ds2 e3,D8 Ds3 (fun w hw=>hw.2.blk.endIn.g),A9 Ds4 e6,A7 Ds6 e2,S0 (cs:=Ab2 a_) Ds7 (fun w hw=>hw.1.blk.endIn.at_c) Bn6,A7 Ds8 e3,S0 (cs:=Ab2 b_) Ds9 (fun w hw=>hw.2.blk.endIn.at_c) Bn6,Ba5 Dt0 (fun w=>Ez9 (.tmp 100) (.tmp 102) a_ b_ s10 h10 w),trivial⟩ (N0 _  (bd w))
theorem Bs1(a b:Ev)(w:World)(ha:Ae4 w a)(hb:Ae4 w b)(ho:a.o.length≤100000∧b.o.length≤100000)(hg:a.g.length≤100000∧b.g.length≤100000):
 Calls Tryz.prog 43 #[.agg (A8 a).toArray,.agg (A8 b).toArray] w (F9 w (Ak2 a b)):=by
 have P1:=Lh (fun(W:World) (h:Below w.heap.size w W)=>(show Calls Tryz.prog 104 #[.agg #[.slice a.s1.a a.s1.l.length a.s1.c,.slice a.s2.a a.s2.l.length a.s2.c],.agg #[.slice b.s1.a b.s1.l.length b.s1.c,.slice b.s2.a b.s2.l.length b.s2.c]] W (F9 W (Aw2 a.s1.l a.s2.l b.s1.l b.s2.l)) from Df0 _ _ _ _ _ _ W (Ax4 (ha.mono h)) (Ax4 (hb.mono h))));have P2:=Lh (fun(W:World) (h:Below w.heap.size w W)=>(show Calls Tryz.prog 105 #[.agg a.r.L.toArray,.agg b.r.L.toArray] W (F9 W (U2 a.r b.r a.kc a.ko a.kp b.kc b.ko b.kp)) from Bv5 a.r b.r a.kc a.ko a.kp b.kc b.ko b.kp W (ha.r.mono h) (hb.r.mono h)));have P3:=Lh (fun(W:World) (h:Below w.heap.size w W)=>(show Calls Tryz.prog 106 #[.agg (M7 a.q a.qa a.qc).toArray,.agg (M7 b.q b.qa b.qc).toArray] W (F9 W (Af4 a.q b.q)) from Bu6 a.q b.q a.qa b.qa a.qc b.qc W (Nat.le_trans ha.ql.1 ha.ql.2) (Nat.le_trans hb.ql.1 hb.ql.2) (ha.q.mono h) (hb.q.mono h)));have P4:=Lh (fun(W:World) (h:Below w.heap.size w W)=>Dl0 a.ua b.ua a.uc b.uc a.u b.u W (Nat.le_trans ha.ul.1 ha.ul.2) (Nat.le_trans hb.ul.1 hb.ul.2) (ha.u.mono h) (hb.u.mono h));have P5:=Lh (fun(W:World) (h:Below w.heap.size w W)=>(show Calls Tryz.prog 108 #[.agg a.h.L.toArray,.agg b.h.L.toArray] W (F9 W (Ah0 a.h a.hs b.h b.hs)) from Cx3 a.h b.h a.hs b.hs W (ha.h.mono h) (hb.h.mono h)));have P6:=Lh (fun(W:World) (h:Below w.heap.size w W)=>Dk8 a.oa b.oa a.oc b.oc a.o b.o W ho.1 ho.2 (ha.o.mono h) (hb.o.mono h));have P7:=Lh (fun(W:World) (h:Below w.heap.size w W)=>Dk9 a.ga b.ga a.gc b.gc a.g b.g W hg.1 hg.2 (ha.g.mono h) (hb.g.mono h));have P8:=Lh (fun(W:World) (h:Below w.heap.size w W)=>(show Calls Tryz.prog 101 #[.slice a.k.a a.k.l.length a.k.c,.slice b.k.a b.k.l.length b.k.c] W fun e w'=>e=.returned (.bool (a.k.l==b.k.l))∧W=w' from Ag4 a.k.a b.k.a _ a.k.c _ b.k.c a.k.l b.k.l W rfl rfl (ha.k.b.mono h) (hb.k.b.mono h)));have HF:=Lh (show Ak2 a b=(Aw2 a.s1.l a.s2.l b.s1.l b.s2.l&&(U2 a.r b.r a.kc a.ko a.kp b.kc b.ko b.kp&&(Af4 a.q b.q&&(decide (a.u=b.u)&&(Ah0 a.h a.hs b.h b.hs&&(decide (a.o=b.o)&&(decide (a.g=b.g)&&((a.k.l==b.k.l)&&(Au9 a b&&(Ar9 a b&&((a.id==b.id)&&((a.ph==b.ph)&&((a.pw==b.pw)&&((a.own==b.own)&&((a.oth==b.oth)&&((a.seen==b.seen)&&((a.seq==b.seq)&&((a.stan==b.stan)&&((a.day==b.day)))))))))))))))))))) from rfl);unfold F9 at P1 P2 P3 P4 P5 P6 P7;generalize Ak2 a b=R at HF ⊢;generalize Aw2 a.s1.l a.s2.l b.s1.l b.s2.l=s1 at P1 HF;generalize U2 a.r b.r a.kc a.ko a.kp b.kc b.ko b.kp=s2 at P2 HF;generalize Af4 a.q b.q=s3 at P3 HF;generalize decide (a.u=b.u)=s4 at P4 HF;generalize Ah0 a.h a.hs b.h b.hs=s5 at P5 HF;generalize decide (a.o=b.o)=s6 at P6 HF;generalize decide (a.g=b.g)=s7 at P7 HF;generalize (a.k.l==b.k.l)=s8 at P8 HF;obtain⟨s9,hs9⟩:∃s,Au9 a b=s:=⟨_,rfl⟩;rw[hs9] at HF;obtain⟨s10,hs10⟩:∃s,Ar9 a b=s:=⟨_,rfl⟩;rw[hs10] at HF;have HR:=Lh (show R=[(a.id==b.id),s8,(a.ph==b.ph),s1,(a.pw==b.pw),(a.own==b.own),(a.oth==b.oth),(a.seen==b.seen),(a.seq==b.seq),s9,s2,s3,(a.stan==b.stan),(a.day==b.day),s4,s5,s6,s7,s10].all id from by
  rw[HF.out];simp only[List.all_cons,List.all_nil,id];generalize (a.id==b.id)=i_id;generalize (a.ph==b.ph)=i_ph;generalize (a.pw==b.pw)=i_pw;generalize (a.own==b.own)=i_own;generalize (a.oth==b.oth)=i_oth;generalize (a.seen==b.seen)=i_seen;generalize (a.seq==b.seq)=i_seq;generalize (a.stan==b.stan)=i_stan;generalize (a.day==b.day)=i_day;rw[Bool.eq_iff_iff];simp only[Bool.and_eq_true,Bool.and_true,and_assoc,and_comm,and_left_comm])
 clear ha hb ho hg HF;go_enter Tryz.func43,Tryz.ntmps43
 go_upto_region 1 with(fail)
 generalize hW:World.alloc (World.alloc w _) _=W;obtain⟨B2,B3,hb⟩:=Al2 (a:=A8 a) (b:=A8 b) hW;clear hW;have B2:=Lh B2;have B3:=Lh B3;have G:=Lh hb;clear hb;generalize w.heap.size+1=n3 at B3 ⊢;generalize hn2:w.heap.size=n2 at B2 ⊢;clear hn2;go_upto_region 3 with(fail)
 refine Dw1 (a_:=a) (b_:=b) (Nat.le_refl _) rfl rfl rfl rfl (fun _ _ d _ _ h=>by cases d<;>exact h) B2.out B3.out hs9 hs10 (fun u hu=>P8.out u (bt G.out hu)) (fun u hu=>P1.out u (bt G.out hu)) (fun u hu=>P2.out u (bt G.out hu)) (fun u hu=>P3.out u (bt G.out hu)) (fun u hu=>P4.out u (bt G.out hu)) (fun u hu=>P5.out u (bt G.out hu)) (fun u hu=>P6.out u (bt G.out hu)) (fun u hu=>P7.out u (bt G.out hu)) ?_;intro x7 x8 x9 x10 x11 x12 x13 x14 x15 x16 x17 x18 x19 x20 x21 x22 x23 x24 x25 x26 x27 x28 x29 x30 x31 x32 x33 x34 x35 x36 x37 x38 x39 x40 x41 x42 x43 x44 x45 x46 x47 x48 x49 x50 x51 x52 x53 x54 x55 x56 x57 x58 x59 x60 x61 x62 x63 x64 x65 x66 x67 x68 x69 x70 x71 x72 x73 x74 x75 x76 x77 x78 x79 x80 x81 x82 x83 x84 x85 x86 x87 x88 x89 x90 x91 x92 x93 x94 x95 x96 x97 x98 x99 x100 x101 x102 x103 x104 x105 w9 hb;rw[←HR.out];simp only[C6,Act.put,List.setIfInBounds_toArray,List.set_cons_zero,List.set_cons_succ];go_wp2_with fail
 go_ret;exact⟨by first | rfl | (simp;done),bt G.out hb⟩
end Go.Proofs.YtadpiemjgfndgaaGreatDoor
