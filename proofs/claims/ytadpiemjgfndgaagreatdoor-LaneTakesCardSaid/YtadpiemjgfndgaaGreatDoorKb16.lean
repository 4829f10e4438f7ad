/- Proved here, for use further on: FrD. Conditions: none but those each theorem names. -/
import Derived.Test.YtadpiemjgfndgaaGreatDoorKb00
import Derived.Test.YtadpiemjgfndgaaGreatDoorKb10
import Derived.Test.YtadpiemjgfndgaaGreatDoorKb15
import Derived.Lib.SliceRun
set_option linter.unusedSimpArgs false
set_option linter.unusedVariables false
set_option maxRecDepth 100000
set_option maxHeartbeats 8000000
namespace Go.Proofs.YtadpiemjgfndgaaGreatDoor
open Go.RowKit
theorem Ea9(a b:Option Addr)(ca cb:Nat)(l m:List UInt8)(w:World)(hla:l.length≤maxLen)(hlb:m.length≤maxLen)(hl:A4 w a l)(hm:A4 w b m):
 Calls Tryz.prog 190 #[.slice a l.length ca,.slice b m.length cb] w fun e w'=>e=.returned (.bool (l==m))∧Below w.heap.size w w':=by
 unfold maxLen at hla hlb;by_cases hlen:l.length=m.length
 ·have hneq:(((l.length:Nat):Int) != ((m.length:Nat):Int))=false:=by simp[hlen]
  have Hl:=Lh hl;have Hm:=Lh hm;have Hlen:=Lh hlen;clear hl hm hlen;go_enter Tryz.func190,Tryz.ntmps190
  go_wp2_with fail
  go_loopw [13] (fun v wx=>∃k:Nat,k≤l.length∧v=.int .i64 (k:Int)∧l.take k=m.take k∧Below w.heap.size w wx) (fun v _=>l.length-(intOf v).toNat)
  case atStart=>exact⟨0,Nat.zero_le _,rfl,by simp,Below.refl _ _⟩
  case round=>
   obtain⟨k,hk,rfl,ht,hb⟩:=hrel;have Ht:=Lh ht;have Hb:=Lh hb;clear ht hb;by_cases hlt:k<l.length
   ·have hlt2:k<m.length:=by have:=Hlen.out;omega
    obtain⟨g1,o1,rfl,g1l,k1⟩:=Ad5 (Hl.out.mono Hb.out) (by omega);obtain⟨g2,o2,rfl,g2l,k2⟩:=Ad5 (Hm.out.mono Hb.out) (by omega);have c1:=k1 k hlt;have c2:=k2 k hlt2;have T1:=Lh (Ad1 l k hlt 0);have T2:=Lh (Ad1 m k hlt2 0);clear k1 k2;generalize l.getD k 0=x at c1 T1;generalize m.getD k 0=y at c2 T2;by_cases hxy:x=y
    ·subst hxy;go_wp2_with fail
     go_quiet (fail)
     go_wp2_with fail
     exact⟨⟨k+1,by omega,by go_num,by rw[T1.out,T2.out,Ht.out],btn Hb.out _⟩,by simp[intOf];omega⟩
    ·have hne:(bv x != bv y)=true:=by rw[bne_iff_ne];exact fun h=>hxy (Dv9.1 h)
     go_wp2_with fail
     go_quiet (fail)
     go_wp2_with fail
     go_ret;refine⟨?_,btn Hb.out _⟩;have:(l==m)=false:=by
      rw[beq_eq_false_iff_ne];rintro rfl;have:=T1.out.symm.trans T2.out;exact hxy (by simpa using this)
     rw[this];rfl
   ·obtain rfl:k=l.length:=by omega
    go_wp2_with fail
    go_ret;refine⟨?_,Hb.out⟩;have:(l==m)=true:=by
     have h1:=Ht.out;rw[List.take_length,Hlen.out,List.take_length] at h1;rw[h1];exact beq_self_eq_true _
    rw[this];rfl
 ·have hneq:(((l.length:Nat):Int) != ((m.length:Nat):Int))=true:=by rw[bne_iff_ne];omega
  have HE:=Lh (show(l==m)=false by
   rw[beq_eq_false_iff_ne];rintro rfl;exact hlen rfl)
  clear hl hm hlen;go_enter Tryz.func190,Tryz.ntmps190
  go_wp2_with fail
  go_ret;exact⟨by rw[HE.out];rfl,Below.refl _ _⟩
theorem Ar7(f g:Fv)(s t:Fd)(w:World)(h:Ae4 w f s)(k:Ae4 w g t):
 Calls Tryz.prog 161 #[f.v,g.v] w fun e w'=>e=.returned (.bool ((s.buf==t.buf)&&((s.skip==t.skip)&&(s.bad==t.bad))))∧Below w.heap.size w w':=by
 obtain⟨a,len,cap,skip,bad⟩:=f;obtain⟨l,sk,bd⟩:=s;obtain⟨hl,hle,hc,hat,hs,hb⟩:=h;obtain⟨a2,len2,cap2,skip2,bad2⟩:=g;obtain⟨l2,sk2,bd2⟩:=t;obtain⟨hl2,hle2,hc2,hat2,hs2,hb2⟩:=k;simp only at hl hle hc hat hs hb hl2 hle2 hc2 hat2 hs2 hb2;subst hs hb hl hs2 hb2 hl2;have HE:=Lh (fun(W:World) (h:Below w.heap.size w W)=>Ea9 a a2 cap cap2 l l2 W (Nat.le_trans hle hc) (Nat.le_trans hle2 hc2) (hat.mono h) (hat2.mono h));clear hat hat2;rcases hq:(l==l2) with _ | _;all_goals
  rw[hq] at HE;rcases hq2:(skip==skip2) with _ | _;all_goals
   go_enter Tryz.func161,Tryz.ntmps161
   go_wp2_with fail
   generalize hW:World.alloc _ _=W;obtain⟨B1,B2,hb⟩:=Aj9 (a:=[.slice a l.length cap,.int .i64 skip,.int .i64 bad]) (b:=[.slice a2 l2.length cap2,.int .i64 skip2,.int .i64 bad2]) hW;clear hW;generalize w.heap.size+1=n2 at B2 ⊢;refine(HE.out _ hb).mono ?_;rintro e w2 ⟨rfl,hb2⟩;obtain⟨c0,c1,c2⟩:=Ac9 (B1.up hb2);obtain⟨d0,d1,d2⟩:=Ac9 (B2.up hb2);have Hb:=Lh (bt hb hb2);clear B1 B2 hb hb2 HE;go_wp2_with fail
   go_ret;exact⟨by simp[*],Hb.out⟩
theorem Ak2(f g:Fv)(s t:Fd)(w:World)(h:Ae4 w f s)(k:Ae4 w g t):
 Calls Tryz.prog 92 #[f.v,g.v] w fun e w'=>e=.returned (.bool ((s.buf==t.buf)&&((s.skip==t.skip)&&(s.bad==t.bad))))∧Below w.heap.size w w':=by
 obtain⟨a,len,cap,skip,bad⟩:=f;obtain⟨l,sk,bd⟩:=s;obtain⟨hl,hle,hc,hat,hs,hb⟩:=h;obtain⟨a2,len2,cap2,skip2,bad2⟩:=g;obtain⟨l2,sk2,bd2⟩:=t;obtain⟨hl2,hle2,hc2,hat2,hs2,hb2⟩:=k;simp only at hl hle hc hat hs hb hl2 hle2 hc2 hat2 hs2 hb2;subst hs hb hl hs2 hb2 hl2;have HE:=Lh (fun(W:World) (h:Below w.heap.size w W)=>Y8 a a2 l.length cap l2.length cap2 l l2 W rfl rfl (hat.mono h) (hat2.mono h));clear hat hat2;rcases hq:(l==l2) with _ | _;all_goals
  rw[hq] at HE;rcases hq2:(skip==skip2) with _ | _;all_goals
   go_enter Tryz.func92,Tryz.ntmps92
   go_wp2_with fail
   generalize hW:World.alloc _ _=W;obtain⟨B1,B2,hb⟩:=Aj9 (a:=[.slice a l.length cap,.int .i64 skip,.int .i64 bad]) (b:=[.slice a2 l2.length cap2,.int .i64 skip2,.int .i64 bad2]) hW;clear hW;generalize w.heap.size+1=n2 at B2 ⊢;refine(HE.out _ hb).mono ?_;rintro e w2 ⟨rfl,rfl⟩;obtain⟨c0,c1,c2⟩:=Ac9 B1;obtain⟨d0,d1,d2⟩:=Ac9 B2;have Hb:=Lh hb;clear B1 B2 hb HE;go_wp2_with fail
   go_ret;exact⟨by simp[*],Hb.out⟩
end Go.Proofs.YtadpiemjgfndgaaGreatDoor
