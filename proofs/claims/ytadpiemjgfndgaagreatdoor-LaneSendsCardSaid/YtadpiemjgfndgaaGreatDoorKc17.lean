/- Proved here, for use further on: HuD HuE HuF HuG HuH HuI. Conditions: none but those each theorem names. -/
import Derived.Test.YtadpiemjgfndgaaGreatDoorKc00
import Derived.Test.YtadpiemjgfndgaaGreatDoorKc16
import Derived.BigQuiet
import Derived.Test.YtadpiemjgfndgaaGreatDoorKc03
import Derived.WalkMore
set_option linter.unusedSimpArgs false
set_option linter.unusedVariables false
set_option maxRecDepth 100000
set_option maxHeartbeats 8000000
namespace Go.Proofs.YtadpiemjgfndgaaGreatDoor
open Go.RowKit
theorem Ep7(x0 x1 x2 x3 x4 x5 x6 x7 x8 x9 x10 x11:Value)(w:World):(Instr.index 39 (.agg #[x0,x1,x2,x3,x4,x5,x6,x7,x8,x9,x10,x11]) (.int .i64 0)).run Tryz.prog w=.ok (.agg #[x0,x1,x2]) w:=by kernel_rfl
theorem Ep8(x0 x1 x2 x3 x4 x5 x6 x7 x8 x9 x10 x11:Value)(w:World):(Instr.index 39 (.agg #[x0,x1,x2,x3,x4,x5,x6,x7,x8,x9,x10,x11]) (.int .i64 1)).run Tryz.prog w=.ok (.agg #[x3,x4,x5]) w:=by kernel_rfl
theorem Ep9(x0 x1 x2 x3 x4 x5 x6 x7 x8 x9 x10 x11:Value)(w:World):(Instr.index 39 (.agg #[x0,x1,x2,x3,x4,x5,x6,x7,x8,x9,x10,x11]) (.int .i64 2)).run Tryz.prog w=.ok (.agg #[x6,x7,x8]) w:=by kernel_rfl
theorem Eq0(x0 x1 x2 x3 x4 x5 x6 x7 x8 x9 x10 x11:Value)(w:World):(Instr.index 39 (.agg #[x0,x1,x2,x3,x4,x5,x6,x7,x8,x9,x10,x11]) (.int .i64 3)).run Tryz.prog w=.ok (.agg #[x9,x10,x11]) w:=by kernel_rfl
theorem Cr7(h:Hv)(s:Nat→Fd)(w:World)(hh:Aq0 w h s):Calls Tryz.prog 97 #[h.v] w fun e w'=>e=.returned (.bool (U1 h s))∧Below w.heap.size w w':=by
 obtain⟨V,hV⟩:∃V,V=U1 h s:=⟨_,rfl⟩;rw[←hV];have HV:=Lh hV;clear hV;have HN:=Lh (fun W=>Ec5 h.nx W);have HH:=Lh hh;clear hh;go_enter Tryz.func97,Tryz.ntmps97
 go_upto_region 1 with(fail)
 generalize hW:World.alloc w _=W;have B1:=Lh (show A6 42 W w.heap.size h.L by rw[←hW];exact A6.new w h.L _);have B3:=Lh (show Below w.heap.size w W by rw[←hW];exact ba w _);clear hW;obtain⟨f0,f1,f2,f3,f4,f5,f6,f7,f8,f9,f10,f11⟩:=Bc1 B1.out.blk;go_wp2_with fail
 clear f0 f1 f2 f3 f4 f5 f6 f7 f8 f9 f10 f11
 go_loopw [7] (fun v7 wr=>∃k:Int,0≤k∧k≤4∧v7=.int .i64 k∧(∀i:Nat,(i:Int)<k→okC h s i=true)∧Below W.heap.size W wr) (fun v7 _=>4-(intOf v7).toNat)
 case atStart=>exact⟨0,by omega,by omega,rfl,fun i hi=>by omega,Below.refl _ _⟩
 case round=>
  obtain⟨k,hk0,hk4,rfl,hok,hb⟩:=hrel;have Hok:=Lh hok;have Hb:=Lh hb;have C1:=Lh (B1.out.up hb);have C3:=Lh (bt B3.out hb);clear hok hb;rcases(show k=0∨k=1∨k=2∨k=3∨k=4 by omega) with rfl | rfl | rfl | rfl | rfl
  ·clear hk0 hk4;have hix:=fun W=>Ep7 (.slice (h.f 0).a (h.f 0).len (h.f 0).cap) (.int .i64 (h.f 0).skip) (.int .i64 (h.f 0).bad) (.slice (h.f 1).a (h.f 1).len (h.f 1).cap) (.int .i64 (h.f 1).skip) (.int .i64 (h.f 1).bad) (.slice (h.f 2).a (h.f 2).len (h.f 2).cap) (.int .i64 (h.f 2).skip) (.int .i64 (h.f 2).bad) (.slice (h.f 3).a (h.f 3).len (h.f 3).cap) (.int .i64 (h.f 3).skip) (.int .i64 (h.f 3).bad) W;have HR:=Lh (fun(W':World) (hb:Below w.heap.size w W')=>Az5 (h.f 0) (s 0) W' ((HH.out 0 (by decide)).mono hb));have HS:=Lh (fun(W':World) (hb:Below w.heap.size w W')=>At1 (h.f 0) Ap8 (s 0) J8 W' ((HH.out 0 (by decide)).mono hb) (An0 W'));have HO:=Lh (show okC h s 0=(X5 (s 0)&&(h.u 0 || R7 (s 0) J8)) from rfl);have HV':=Lh (show okC h s 0=false→V=false from fun hq=>by rw[HV.out];unfold U1 c4;rw[hq];simp);go_upto_region 4 with(fail)
   generalize hW2:World.alloc wr _=W2;have D1:=Lh (show A6 42 W2 w.heap.size h.L by rw[←hW2];exact C1.out.up (ba _ _));have D2:=Lh (show A6 38 W2 wr.heap.size (h.f 0).L by rw[←hW2];exact A6.new wr (h.f 0).L _);have D3:=Lh (show Below w.heap.size w W2 by rw[←hW2];exact bt C3.out (ba _ _));have D4:=Lh (show Below W.heap.size W W2 by rw[←hW2];exact bt Hb.out (ba _ _));clear hW2 C1 C3 Hb hix;generalize wr.heap.size=b4 at D2 ⊢;obtain⟨g0,g1,g2⟩:=Ac3 D2.out.blk;go_wp2_with fail
   refine(HR.out _ D3.out).mono ?_;rintro e w3 ⟨rfl,hb3⟩;have E1:=Lh (D1.out.up hb3);have E2:=Lh (D2.out.up hb3);have E3:=Lh (bt D3.out hb3);have E4:=Lh (bt D4.out hb3);clear hb3 g0 g1 g2 D1 D2 D3 D4 HR;obtain⟨u0,u1,u2,u3⟩:=Ag9 E1.out.blk;obtain⟨g0,g1,g2⟩:=Ac3 E2.out.blk;rcases hr:X5 (s 0) with _ | _
   ·have HF:=Lh (HV'.out (by rw[HO.out,hr];rfl));clear HV' HO HS Hok;go_wp2_with fail
    go_ret;exact⟨by rw[HF.out];rfl,E3.out⟩
   rcases hu:h.u 0 with _ | _
   ·rw[hu] at u0;have Hu:=Lh hu;have Hr:=Lh hr;clear hu hr;go_wp2_with fail
    refine(HS.out _ E3.out).mono ?_;rintro e w4 ⟨rfl,hb4⟩;have F3:=Lh (bt E3.out hb4);have F4:=Lh (bt E4.out hb4);clear hb4 u0 u1 u2 u3 g0 g1 g2 E1 E2 E3 E4;rcases hs:R7 (s 0) J8 with _ | _
    ·have HF:=Lh (HV'.out (by rw[HO.out,Hr.out,Hu.out,hs];rfl));have hs':((s 0).buf==J8.buf&&((s 0).skip==J8.skip&&(s 0).bad==J8.bad))=false:=hs;rw[hs'];clear HV' HO HS Hok hs hs';go_wp2_with fail
     go_ret;exact⟨by rw[HF.out];rfl,F3.out⟩
    ·have HT:=Lh (show okC h s 0=true by rw[HO.out,Hr.out,Hu.out,hs];rfl);have hs':((s 0).buf==J8.buf&&((s 0).skip==J8.skip&&(s 0).bad==J8.bad))=true:=hs;rw[hs'];clear HV' HO HS hs hs';go_wp2_with fail
     exact⟨⟨1,by decide,by decide,rfl,fun i hi=>by
      rcases Nat.lt_or_ge i 0 with h1 | h1
      ·exact Hok.out i (by omega)
      ·have:i=0:=by omega
       subst this;exact HT.out,F4.out⟩,by simp[intOf]⟩
   ·have HT:=Lh (show okC h s 0=true by rw[HO.out,hr,hu];rfl);rw[hu] at u0;clear hu hr HV' HO HS;go_wp2_with fail
    exact⟨⟨1,by decide,by decide,rfl,fun i hi=>by
     rcases Nat.lt_or_ge i 0 with h1 | h1
     ·exact Hok.out i (by omega)
     ·have:i=0:=by omega
      subst this;exact HT.out,E4.out⟩,by simp[intOf]⟩
  ·clear hk0 hk4;have hix:=fun W=>Ep8 (.slice (h.f 0).a (h.f 0).len (h.f 0).cap) (.int .i64 (h.f 0).skip) (.int .i64 (h.f 0).bad) (.slice (h.f 1).a (h.f 1).len (h.f 1).cap) (.int .i64 (h.f 1).skip) (.int .i64 (h.f 1).bad) (.slice (h.f 2).a (h.f 2).len (h.f 2).cap) (.int .i64 (h.f 2).skip) (.int .i64 (h.f 2).bad) (.slice (h.f 3).a (h.f 3).len (h.f 3).cap) (.int .i64 (h.f 3).skip) (.int .i64 (h.f 3).bad) W;have HR:=Lh (fun(W':World) (hb:Below w.heap.size w W')=>Az5 (h.f 1) (s 1) W' ((HH.out 1 (by decide)).mono hb));have HS:=Lh (fun(W':World) (hb:Below w.heap.size w W')=>At1 (h.f 1) Ap8 (s 1) J8 W' ((HH.out 1 (by decide)).mono hb) (An0 W'));have HO:=Lh (show okC h s 1=(X5 (s 1)&&(h.u 1 || R7 (s 1) J8)) from rfl);have HV':=Lh (show okC h s 1=false→V=false from fun hq=>by rw[HV.out];unfold U1 c4;rw[hq];simp);go_upto_region 4 with(fail)
   generalize hW2:World.alloc wr _=W2;have D1:=Lh (show A6 42 W2 w.heap.size h.L by rw[←hW2];exact C1.out.up (ba _ _));have D2:=Lh (show A6 38 W2 wr.heap.size (h.f 1).L by rw[←hW2];exact A6.new wr (h.f 1).L _);have D3:=Lh (show Below w.heap.size w W2 by rw[←hW2];exact bt C3.out (ba _ _));have D4:=Lh (show Below W.heap.size W W2 by rw[←hW2];exact bt Hb.out (ba _ _));clear hW2 C1 C3 Hb hix;generalize wr.heap.size=b4 at D2 ⊢;obtain⟨g0,g1,g2⟩:=Ac3 D2.out.blk;go_wp2_with fail
   refine(HR.out _ D3.out).mono ?_;rintro e w3 ⟨rfl,hb3⟩;have E1:=Lh (D1.out.up hb3);have E2:=Lh (D2.out.up hb3);have E3:=Lh (bt D3.out hb3);have E4:=Lh (bt D4.out hb3);clear hb3 g0 g1 g2 D1 D2 D3 D4 HR;obtain⟨u0,u1,u2,u3⟩:=Ag9 E1.out.blk;obtain⟨g0,g1,g2⟩:=Ac3 E2.out.blk;rcases hr:X5 (s 1) with _ | _
   ·have HF:=Lh (HV'.out (by rw[HO.out,hr];rfl));clear HV' HO HS Hok;go_wp2_with fail
    go_ret;exact⟨by rw[HF.out];rfl,E3.out⟩
   rcases hu:h.u 1 with _ | _
   ·rw[hu] at u1;have Hu:=Lh hu;have Hr:=Lh hr;clear hu hr;go_wp2_with fail
    refine(HS.out _ E3.out).mono ?_;rintro e w4 ⟨rfl,hb4⟩;have F3:=Lh (bt E3.out hb4);have F4:=Lh (bt E4.out hb4);clear hb4 u0 u1 u2 u3 g0 g1 g2 E1 E2 E3 E4;rcases hs:R7 (s 1) J8 with _ | _
    ·have HF:=Lh (HV'.out (by rw[HO.out,Hr.out,Hu.out,hs];rfl));have hs':((s 1).buf==J8.buf&&((s 1).skip==J8.skip&&(s 1).bad==J8.bad))=false:=hs;rw[hs'];clear HV' HO HS Hok hs hs';go_wp2_with fail
     go_ret;exact⟨by rw[HF.out];rfl,F3.out⟩
    ·have HT:=Lh (show okC h s 1=true by rw[HO.out,Hr.out,Hu.out,hs];rfl);have hs':((s 1).buf==J8.buf&&((s 1).skip==J8.skip&&(s 1).bad==J8.bad))=true:=hs;rw[hs'];clear HV' HO HS hs hs';go_wp2_with fail
     exact⟨⟨2,by decide,by decide,rfl,fun i hi=>by
      rcases Nat.lt_or_ge i 1 with h1 | h1
      ·exact Hok.out i (by omega)
      ·have:i=1:=by omega
       subst this;exact HT.out,F4.out⟩,by simp[intOf]⟩
   ·have HT:=Lh (show okC h s 1=true by rw[HO.out,hr,hu];rfl);rw[hu] at u1;clear hu hr HV' HO HS;go_wp2_with fail
    exact⟨⟨2,by decide,by decide,rfl,fun i hi=>by
     rcases Nat.lt_or_ge i 1 with h1 | h1
     ·exact Hok.out i (by omega)
     ·have:i=1:=by omega
      subst this;exact HT.out,E4.out⟩,by simp[intOf]⟩
  ·clear hk0 hk4;have hix:=fun W=>Ep9 (.slice (h.f 0).a (h.f 0).len (h.f 0).cap) (.int .i64 (h.f 0).skip) (.int .i64 (h.f 0).bad) (.slice (h.f 1).a (h.f 1).len (h.f 1).cap) (.int .i64 (h.f 1).skip) (.int .i64 (h.f 1).bad) (.slice (h.f 2).a (h.f 2).len (h.f 2).cap) (.int .i64 (h.f 2).skip) (.int .i64 (h.f 2).bad) (.slice (h.f 3).a (h.f 3).len (h.f 3).cap) (.int .i64 (h.f 3).skip) (.int .i64 (h.f 3).bad) W;have HR:=Lh (fun(W':World) (hb:Below w.heap.size w W')=>Az5 (h.f 2) (s 2) W' ((HH.out 2 (by decide)).mono hb));have HS:=Lh (fun(W':World) (hb:Below w.heap.size w W')=>At1 (h.f 2) Ap8 (s 2) J8 W' ((HH.out 2 (by decide)).mono hb) (An0 W'));have HO:=Lh (show okC h s 2=(X5 (s 2)&&(h.u 2 || R7 (s 2) J8)) from rfl);have HV':=Lh (show okC h s 2=false→V=false from fun hq=>by rw[HV.out];unfold U1 c4;rw[hq];simp);go_upto_region 4 with(fail)
   generalize hW2:World.alloc wr _=W2;have D1:=Lh (show A6 42 W2 w.heap.size h.L by rw[←hW2];exact C1.out.up (ba _ _));have D2:=Lh (show A6 38 W2 wr.heap.size (h.f 2).L by rw[←hW2];exact A6.new wr (h.f 2).L _);have D3:=Lh (show Below w.heap.size w W2 by rw[←hW2];exact bt C3.out (ba _ _));have D4:=Lh (show Below W.heap.size W W2 by rw[←hW2];exact bt Hb.out (ba _ _));clear hW2 C1 C3 Hb hix;generalize wr.heap.size=b4 at D2 ⊢;obtain⟨g0,g1,g2⟩:=Ac3 D2.out.blk;go_wp2_with fail
   refine(HR.out _ D3.out).mono ?_;rintro e w3 ⟨rfl,hb3⟩;have E1:=Lh (D1.out.up hb3);have E2:=Lh (D2.out.up hb3);have E3:=Lh (bt D3.out hb3);have E4:=Lh (bt D4.out hb3);clear hb3 g0 g1 g2 D1 D2 D3 D4 HR;obtain⟨u0,u1,u2,u3⟩:=Ag9 E1.out.blk;obtain⟨g0,g1,g2⟩:=Ac3 E2.out.blk;rcases hr:X5 (s 2) with _ | _
   ·have HF:=Lh (HV'.out (by rw[HO.out,hr];rfl));clear HV' HO HS Hok;go_wp2_with fail
    go_ret;exact⟨by rw[HF.out];rfl,E3.out⟩
   rcases hu:h.u 2 with _ | _
   ·rw[hu] at u2;have Hu:=Lh hu;have Hr:=Lh hr;clear hu hr;go_wp2_with fail
    refine(HS.out _ E3.out).mono ?_;rintro e w4 ⟨rfl,hb4⟩;have F3:=Lh (bt E3.out hb4);have F4:=Lh (bt E4.out hb4);clear hb4 u0 u1 u2 u3 g0 g1 g2 E1 E2 E3 E4;rcases hs:R7 (s 2) J8 with _ | _
    ·have HF:=Lh (HV'.out (by rw[HO.out,Hr.out,Hu.out,hs];rfl));have hs':((s 2).buf==J8.buf&&((s 2).skip==J8.skip&&(s 2).bad==J8.bad))=false:=hs;rw[hs'];clear HV' HO HS Hok hs hs';go_wp2_with fail
     go_ret;exact⟨by rw[HF.out];rfl,F3.out⟩
    ·have HT:=Lh (show okC h s 2=true by rw[HO.out,Hr.out,Hu.out,hs];rfl);have hs':((s 2).buf==J8.buf&&((s 2).skip==J8.skip&&(s 2).bad==J8.bad))=true:=hs;rw[hs'];clear HV' HO HS hs hs';go_wp2_with fail
     exact⟨⟨3,by decide,by decide,rfl,fun i hi=>by
      rcases Nat.lt_or_ge i 2 with h1 | h1
      ·exact Hok.out i (by omega)
      ·have:i=2:=by omega
       subst this;exact HT.out,F4.out⟩,by simp[intOf]⟩
   ·have HT:=Lh (show okC h s 2=true by rw[HO.out,hr,hu];rfl);rw[hu] at u2;clear hu hr HV' HO HS;go_wp2_with fail
    exact⟨⟨3,by decide,by decide,rfl,fun i hi=>by
     rcases Nat.lt_or_ge i 2 with h1 | h1
     ·exact Hok.out i (by omega)
     ·have:i=2:=by omega
      subst this;exact HT.out,E4.out⟩,by simp[intOf]⟩
  ·clear hk0 hk4;have hix:=fun W=>Eq0 (.slice (h.f 0).a (h.f 0).len (h.f 0).cap) (.int .i64 (h.f 0).skip) (.int .i64 (h.f 0).bad) (.slice (h.f 1).a (h.f 1).len (h.f 1).cap) (.int .i64 (h.f 1).skip) (.int .i64 (h.f 1).bad) (.slice (h.f 2).a (h.f 2).len (h.f 2).cap) (.int .i64 (h.f 2).skip) (.int .i64 (h.f 2).bad) (.slice (h.f 3).a (h.f 3).len (h.f 3).cap) (.int .i64 (h.f 3).skip) (.int .i64 (h.f 3).bad) W;have HR:=Lh (fun(W':World) (hb:Below w.heap.size w W')=>Az5 (h.f 3) (s 3) W' ((HH.out 3 (by decide)).mono hb));have HS:=Lh (fun(W':World) (hb:Below w.heap.size w W')=>At1 (h.f 3) Ap8 (s 3) J8 W' ((HH.out 3 (by decide)).mono hb) (An0 W'));have HO:=Lh (show okC h s 3=(X5 (s 3)&&(h.u 3 || R7 (s 3) J8)) from rfl);have HV':=Lh (show okC h s 3=false→V=false from fun hq=>by rw[HV.out];unfold U1 c4;rw[hq];simp);go_upto_region 4 with(fail)
   generalize hW2:World.alloc wr _=W2;have D1:=Lh (show A6 42 W2 w.heap.size h.L by rw[←hW2];exact C1.out.up (ba _ _));have D2:=Lh (show A6 38 W2 wr.heap.size (h.f 3).L by rw[←hW2];exact A6.new wr (h.f 3).L _);have D3:=Lh (show Below w.heap.size w W2 by rw[←hW2];exact bt C3.out (ba _ _));have D4:=Lh (show Below W.heap.size W W2 by rw[←hW2];exact bt Hb.out (ba _ _));clear hW2 C1 C3 Hb hix;generalize wr.heap.size=b4 at D2 ⊢;obtain⟨g0,g1,g2⟩:=Ac3 D2.out.blk;go_wp2_with fail
   refine(HR.out _ D3.out).mono ?_;rintro e w3 ⟨rfl,hb3⟩;have E1:=Lh (D1.out.up hb3);have E2:=Lh (D2.out.up hb3);have E3:=Lh (bt D3.out hb3);have E4:=Lh (bt D4.out hb3);clear hb3 g0 g1 g2 D1 D2 D3 D4 HR;obtain⟨u0,u1,u2,u3⟩:=Ag9 E1.out.blk;obtain⟨g0,g1,g2⟩:=Ac3 E2.out.blk;rcases hr:X5 (s 3) with _ | _
   ·have HF:=Lh (HV'.out (by rw[HO.out,hr];rfl));clear HV' HO HS Hok;go_wp2_with fail
    go_ret;exact⟨by rw[HF.out];rfl,E3.out⟩
   rcases hu:h.u 3 with _ | _
   ·rw[hu] at u3;have Hu:=Lh hu;have Hr:=Lh hr;clear hu hr;go_wp2_with fail
    refine(HS.out _ E3.out).mono ?_;rintro e w4 ⟨rfl,hb4⟩;have F3:=Lh (bt E3.out hb4);have F4:=Lh (bt E4.out hb4);clear hb4 u0 u1 u2 u3 g0 g1 g2 E1 E2 E3 E4;rcases hs:R7 (s 3) J8 with _ | _
    ·have HF:=Lh (HV'.out (by rw[HO.out,Hr.out,Hu.out,hs];rfl));have hs':((s 3).buf==J8.buf&&((s 3).skip==J8.skip&&(s 3).bad==J8.bad))=false:=hs;rw[hs'];clear HV' HO HS Hok hs hs';go_wp2_with fail
     go_ret;exact⟨by rw[HF.out];rfl,F3.out⟩
    ·have HT:=Lh (show okC h s 3=true by rw[HO.out,Hr.out,Hu.out,hs];rfl);have hs':((s 3).buf==J8.buf&&((s 3).skip==J8.skip&&(s 3).bad==J8.bad))=true:=hs;rw[hs'];clear HV' HO HS hs hs';go_wp2_with fail
     exact⟨⟨4,by decide,by decide,rfl,fun i hi=>by
      rcases Nat.lt_or_ge i 3 with h1 | h1
      ·exact Hok.out i (by omega)
      ·have:i=3:=by omega
       subst this;exact HT.out,F4.out⟩,by simp[intOf]⟩
   ·have HT:=Lh (show okC h s 3=true by rw[HO.out,hr,hu];rfl);rw[hu] at u3;clear hu hr HV' HO HS;go_wp2_with fail
    exact⟨⟨4,by decide,by decide,rfl,fun i hi=>by
     rcases Nat.lt_or_ge i 3 with h1 | h1
     ·exact Hok.out i (by omega)
     ·have:i=3:=by omega
      subst this;exact HT.out,E4.out⟩,by simp[intOf]⟩
  ·have HF:=Lh (show V=isC h.nx by rw[HV.out];unfold U1 c4;rw[Hok.out 0 (by decide),Hok.out 1 (by decide),Hok.out 2 (by decide),Hok.out 3 (by decide)];rfl);obtain⟨-,-,-,-,l4⟩:=Ap9 C1.out.blk;clear Hok Hb;go_wp2_with fail
   refine(HN.out _).mono ?_;rintro e w4 ⟨rfl,rfl⟩;go_wp2_with fail
   go_ret;exact⟨by rw[HF.out];rfl,C3.out⟩
theorem Cb1(h:Hv)(s:Nat→Fd)(w:World)(hh:Aq0 w h s):Calls Tryz.prog 84 #[h.v] w fun e w'=>e=.returned (.bool (U1 h s))∧Below w.heap.size w w':=by
 obtain⟨V,hV⟩:∃V,V=U1 h s:=⟨_,rfl⟩;rw[←hV];have HV:=Lh hV;clear hV;have HH:=Lh hh;clear hh;go_enter Tryz.func84,Tryz.ntmps84
 go_upto_region 1 with(fail)
 generalize hW:World.alloc w _=W;have B1:=Lh (show A6 42 W w.heap.size h.L by rw[←hW];exact A6.new w h.L _);have B3:=Lh (show Below w.heap.size w W by rw[←hW];exact ba w _);clear hW;go_wp2_with fail
 go_loopw [3] (fun v3 wr=>∃k:Int,0≤k∧k≤4∧v3=.int .i64 k∧(∀i:Nat,(i:Int)<k→okC h s i=true)∧Below W.heap.size W wr) (fun v3 _=>4-(intOf v3).toNat)
 case atStart=>exact⟨0,by omega,by omega,rfl,fun i hi=>by omega,Below.refl _ _⟩
 case round=>
  obtain⟨k,hk0,hk4,rfl,hok,hb⟩:=hrel;have Hok:=Lh hok;have Hb:=Lh hb;have C1:=Lh (B1.out.up hb);have C3:=Lh (bt B3.out hb);clear hok hb;rcases(show k=0∨k=1∨k=2∨k=3∨k=4 by omega) with rfl | rfl | rfl | rfl | rfl
  ·clear hk0 hk4;have HR:=Lh (fun(W':World) (hb:Below w.heap.size w W')=>As3 (h.f 0) (s 0) W' ((HH.out 0 (by decide)).mono hb));have HS:=Lh (fun(W':World) (hb:Below w.heap.size w W')=>Ak1 (h.f 0) Ap8 (s 0) J8 W' ((HH.out 0 (by decide)).mono hb) (An0 W'));have HO:=Lh (show okC h s 0=(X5 (s 0)&&(h.u 0 || R7 (s 0) J8)) from rfl);have HV':=Lh (show okC h s 0=false→V=false from fun hq=>by rw[HV.out];unfold U1 c4;rw[hq];simp);obtain⟨f0,f1,f2,f3,f4,f5,f6,f7,f8,f9,f10,f11⟩:=Bc1 C1.out.blk;go_wp2_with fail
   refine(HR.out _ C3.out).mono ?_;rintro e w3 ⟨rfl,hb3⟩;have E1:=Lh (C1.out.up hb3);have E3:=Lh (bt C3.out hb3);have E4:=Lh (bt Hb.out hb3);clear hb3 f0 f1 f2 f3 f4 f5 f6 f7 f8 f9 f10 f11 C1 C3 Hb HR;obtain⟨f0,f1,f2,f3,f4,f5,f6,f7,f8,f9,f10,f11⟩:=Bc1 E1.out.blk;go_wp2_with fail
   refine(HS.out _ E3.out).mono ?_;rintro e w4 ⟨rfl,hb4⟩;have F1:=Lh (E1.out.up hb4);have F3:=Lh (bt E3.out hb4);have F4:=Lh (bt E4.out hb4);clear hb4 f0 f1 f2 f3 f4 f5 f6 f7 f8 f9 f10 f11 E1 E3 E4 HS;obtain⟨u0,u1,u2,u3⟩:=Ag9 F1.out.blk;obtain⟨q,hq⟩:∃q,q=R7 (s 0) J8:=⟨_,rfl⟩;have hq2:((s 0).buf==J8.buf&&((s 0).skip==J8.skip&&(s 0).bad==J8.bad))=q:=hq.symm;rw[hq2];rw[←hq] at HO;clear hq hq2;obtain⟨r,hr⟩:∃r,r=X5 (s 0):=⟨_,rfl⟩;rw[←hr];rw[←hr] at HO;clear hr;obtain⟨u,hu⟩:∃u,u=h.u 0:=⟨_,rfl⟩;rw[←hu] at HO u0;clear hu;rcases r with _ | _<;>rcases u with _ | _<;>rcases q with _ | _;all_goals first
    | (have HF:=Lh (HV'.out (by rw[HO.out];rfl))
       clear HV' HO Hok;go_wp2_with fail
       go_ret;exact⟨by rw[HF.out];rfl,F3.out⟩)
    | (have HT:=Lh (show okC h s 0=true by rw[HO.out];rfl)
       clear HV' HO;go_wp2_with fail
       exact⟨⟨1,by decide,by decide,rfl,fun i hi=>by
        rcases Nat.lt_or_ge i 0 with h1 | h1
        ·exact Hok.out i (by omega)
        ·have:i=0:=by omega
         subst this;exact HT.out,F4.out⟩,by simp[intOf]⟩)
  ·clear hk0 hk4;have HR:=Lh (fun(W':World) (hb:Below w.heap.size w W')=>As3 (h.f 1) (s 1) W' ((HH.out 1 (by decide)).mono hb));have HS:=Lh (fun(W':World) (hb:Below w.heap.size w W')=>Ak1 (h.f 1) Ap8 (s 1) J8 W' ((HH.out 1 (by decide)).mono hb) (An0 W'));have HO:=Lh (show okC h s 1=(X5 (s 1)&&(h.u 1 || R7 (s 1) J8)) from rfl);have HV':=Lh (show okC h s 1=false→V=false from fun hq=>by rw[HV.out];unfold U1 c4;rw[hq];simp);obtain⟨f0,f1,f2,f3,f4,f5,f6,f7,f8,f9,f10,f11⟩:=Bc1 C1.out.blk;go_wp2_with fail
   refine(HR.out _ C3.out).mono ?_;rintro e w3 ⟨rfl,hb3⟩;have E1:=Lh (C1.out.up hb3);have E3:=Lh (bt C3.out hb3);have E4:=Lh (bt Hb.out hb3);clear hb3 f0 f1 f2 f3 f4 f5 f6 f7 f8 f9 f10 f11 C1 C3 Hb HR;obtain⟨f0,f1,f2,f3,f4,f5,f6,f7,f8,f9,f10,f11⟩:=Bc1 E1.out.blk;go_wp2_with fail
   refine(HS.out _ E3.out).mono ?_;rintro e w4 ⟨rfl,hb4⟩;have F1:=Lh (E1.out.up hb4);have F3:=Lh (bt E3.out hb4);have F4:=Lh (bt E4.out hb4);clear hb4 f0 f1 f2 f3 f4 f5 f6 f7 f8 f9 f10 f11 E1 E3 E4 HS;obtain⟨u0,u1,u2,u3⟩:=Ag9 F1.out.blk;obtain⟨q,hq⟩:∃q,q=R7 (s 1) J8:=⟨_,rfl⟩;have hq2:((s 1).buf==J8.buf&&((s 1).skip==J8.skip&&(s 1).bad==J8.bad))=q:=hq.symm;rw[hq2];rw[←hq] at HO;clear hq hq2;obtain⟨r,hr⟩:∃r,r=X5 (s 1):=⟨_,rfl⟩;rw[←hr];rw[←hr] at HO;clear hr;obtain⟨u,hu⟩:∃u,u=h.u 1:=⟨_,rfl⟩;rw[←hu] at HO u1;clear hu;rcases r with _ | _<;>rcases u with _ | _<;>rcases q with _ | _;all_goals first
    | (have HF:=Lh (HV'.out (by rw[HO.out];rfl))
       clear HV' HO Hok;go_wp2_with fail
       go_ret;exact⟨by rw[HF.out];rfl,F3.out⟩)
    | (have HT:=Lh (show okC h s 1=true by rw[HO.out];rfl)
       clear HV' HO;go_wp2_with fail
       exact⟨⟨2,by decide,by decide,rfl,fun i hi=>by
        rcases Nat.lt_or_ge i 1 with h1 | h1
        ·exact Hok.out i (by omega)
        ·have:i=1:=by omega
         subst this;exact HT.out,F4.out⟩,by simp[intOf]⟩)
  ·clear hk0 hk4;have HR:=Lh (fun(W':World) (hb:Below w.heap.size w W')=>As3 (h.f 2) (s 2) W' ((HH.out 2 (by decide)).mono hb));have HS:=Lh (fun(W':World) (hb:Below w.heap.size w W')=>Ak1 (h.f 2) Ap8 (s 2) J8 W' ((HH.out 2 (by decide)).mono hb) (An0 W'));have HO:=Lh (show okC h s 2=(X5 (s 2)&&(h.u 2 || R7 (s 2) J8)) from rfl);have HV':=Lh (show okC h s 2=false→V=false from fun hq=>by rw[HV.out];unfold U1 c4;rw[hq];simp);obtain⟨f0,f1,f2,f3,f4,f5,f6,f7,f8,f9,f10,f11⟩:=Bc1 C1.out.blk;go_wp2_with fail
   refine(HR.out _ C3.out).mono ?_;rintro e w3 ⟨rfl,hb3⟩;have E1:=Lh (C1.out.up hb3);have E3:=Lh (bt C3.out hb3);have E4:=Lh (bt Hb.out hb3);clear hb3 f0 f1 f2 f3 f4 f5 f6 f7 f8 f9 f10 f11 C1 C3 Hb HR;obtain⟨f0,f1,f2,f3,f4,f5,f6,f7,f8,f9,f10,f11⟩:=Bc1 E1.out.blk;go_wp2_with fail
   refine(HS.out _ E3.out).mono ?_;rintro e w4 ⟨rfl,hb4⟩;have F1:=Lh (E1.out.up hb4);have F3:=Lh (bt E3.out hb4);have F4:=Lh (bt E4.out hb4);clear hb4 f0 f1 f2 f3 f4 f5 f6 f7 f8 f9 f10 f11 E1 E3 E4 HS;obtain⟨u0,u1,u2,u3⟩:=Ag9 F1.out.blk;obtain⟨q,hq⟩:∃q,q=R7 (s 2) J8:=⟨_,rfl⟩;have hq2:((s 2).buf==J8.buf&&((s 2).skip==J8.skip&&(s 2).bad==J8.bad))=q:=hq.symm;rw[hq2];rw[←hq] at HO;clear hq hq2;obtain⟨r,hr⟩:∃r,r=X5 (s 2):=⟨_,rfl⟩;rw[←hr];rw[←hr] at HO;clear hr;obtain⟨u,hu⟩:∃u,u=h.u 2:=⟨_,rfl⟩;rw[←hu] at HO u2;clear hu;rcases r with _ | _<;>rcases u with _ | _<;>rcases q with _ | _;all_goals first
    | (have HF:=Lh (HV'.out (by rw[HO.out];rfl))
       clear HV' HO Hok;go_wp2_with fail
       go_ret;exact⟨by rw[HF.out];rfl,F3.out⟩)
    | (have HT:=Lh (show okC h s 2=true by rw[HO.out];rfl)
       clear HV' HO;go_wp2_with fail
       exact⟨⟨3,by decide,by decide,rfl,fun i hi=>by
        rcases Nat.lt_or_ge i 2 with h1 | h1
        ·exact Hok.out i (by omega)
        ·have:i=2:=by omega
         subst this;exact HT.out,F4.out⟩,by simp[intOf]⟩)
  ·clear hk0 hk4;have HR:=Lh (fun(W':World) (hb:Below w.heap.size w W')=>As3 (h.f 3) (s 3) W' ((HH.out 3 (by decide)).mono hb));have HS:=Lh (fun(W':World) (hb:Below w.heap.size w W')=>Ak1 (h.f 3) Ap8 (s 3) J8 W' ((HH.out 3 (by decide)).mono hb) (An0 W'));have HO:=Lh (show okC h s 3=(X5 (s 3)&&(h.u 3 || R7 (s 3) J8)) from rfl);have HV':=Lh (show okC h s 3=false→V=false from fun hq=>by rw[HV.out];unfold U1 c4;rw[hq];simp);obtain⟨f0,f1,f2,f3,f4,f5,f6,f7,f8,f9,f10,f11⟩:=Bc1 C1.out.blk;go_wp2_with fail
   refine(HR.out _ C3.out).mono ?_;rintro e w3 ⟨rfl,hb3⟩;have E1:=Lh (C1.out.up hb3);have E3:=Lh (bt C3.out hb3);have E4:=Lh (bt Hb.out hb3);clear hb3 f0 f1 f2 f3 f4 f5 f6 f7 f8 f9 f10 f11 C1 C3 Hb HR;obtain⟨f0,f1,f2,f3,f4,f5,f6,f7,f8,f9,f10,f11⟩:=Bc1 E1.out.blk;go_wp2_with fail
   refine(HS.out _ E3.out).mono ?_;rintro e w4 ⟨rfl,hb4⟩;have F1:=Lh (E1.out.up hb4);have F3:=Lh (bt E3.out hb4);have F4:=Lh (bt E4.out hb4);clear hb4 f0 f1 f2 f3 f4 f5 f6 f7 f8 f9 f10 f11 E1 E3 E4 HS;obtain⟨u0,u1,u2,u3⟩:=Ag9 F1.out.blk;obtain⟨q,hq⟩:∃q,q=R7 (s 3) J8:=⟨_,rfl⟩;have hq2:((s 3).buf==J8.buf&&((s 3).skip==J8.skip&&(s 3).bad==J8.bad))=q:=hq.symm;rw[hq2];rw[←hq] at HO;clear hq hq2;obtain⟨r,hr⟩:∃r,r=X5 (s 3):=⟨_,rfl⟩;rw[←hr];rw[←hr] at HO;clear hr;obtain⟨u,hu⟩:∃u,u=h.u 3:=⟨_,rfl⟩;rw[←hu] at HO u3;clear hu;rcases r with _ | _<;>rcases u with _ | _<;>rcases q with _ | _;all_goals first
    | (have HF:=Lh (HV'.out (by rw[HO.out];rfl))
       clear HV' HO Hok;go_wp2_with fail
       go_ret;exact⟨by rw[HF.out];rfl,F3.out⟩)
    | (have HT:=Lh (show okC h s 3=true by rw[HO.out];rfl)
       clear HV' HO;go_wp2_with fail
       exact⟨⟨4,by decide,by decide,rfl,fun i hi=>by
        rcases Nat.lt_or_ge i 3 with h1 | h1
        ·exact Hok.out i (by omega)
        ·have:i=3:=by omega
         subst this;exact HT.out,F4.out⟩,by simp[intOf]⟩)
  ·have HF:=Lh (show V=isC h.nx by rw[HV.out];unfold U1 c4;rw[Hok.out 0 (by decide),Hok.out 1 (by decide),Hok.out 2 (by decide),Hok.out 3 (by decide)];rfl);obtain⟨-,-,-,-,l4⟩:=Ap9 C1.out.blk;clear Hok Hb;rcases(show h.nx<0∨(0≤h.nx∧h.nx<4)∨4≤h.nx by omega) with h1 | ⟨h1,h2⟩ | h1;all_goals
    go_wp2_with fail
    go_ret;exact⟨by rw[HF.out];unfold isC;simp[h1]<;>omega,C3.out⟩
def Ah0(h:Hv)(s:Nat→Fd)(g:Hv)(t:Nat→Fd):Bool:=(c4 fun i=>R7 (s i) (t i))&&((c4 fun i=>h.u i==g.u i)&&((c4 fun i=>decide (h.l i=g.l i))&&decide (h.nx=g.nx)))
theorem Cr8{p:Nat→Bool}(i:Nat)(hi:i<4)(hq:p i=false):c4 p=false:=by
 unfold c4;rcases(show i=0∨i=1∨i=2∨i=3 by omega) with rfl | rfl | rfl | rfl<;>rw[hq]<;>simp
theorem Cb2{p:Nat→Bool}(h:∀i,i<4→p i=true):c4 p=true:=by
 unfold c4;rw[h 0 (by decide),h 1 (by decide),h 2 (by decide),h 3 (by decide)];rfl
theorem Ao6{h:Hv}{s:Nat→Fd}{g:Hv}{t:Nat→Fd}(i:Nat)(hi:i<4)(hq:R7 (s i) (t i)=false):Ah0 h s g t=false:=by
 unfold Ah0;rw[Cr8 i hi hq];rfl
theorem Be5{h:Hv}{s:Nat→Fd}{g:Hv}{t:Nat→Fd}(i:Nat)(hi:i<4)(hq:(h.u i==g.u i)=false):Ah0 h s g t=false:=by
 unfold Ah0;rw[Cr8 (p:=fun i=>h.u i==g.u i) i hi hq];simp
theorem Be6{h:Hv}{s:Nat→Fd}{g:Hv}{t:Nat→Fd}(i:Nat)(hi:i<4)(hq:decide (h.l i=g.l i)=false):Ah0 h s g t=false:=by
 unfold Ah0;rw[Cr8 (p:=fun i=>decide (h.l i=g.l i)) i hi hq];simp
theorem Bi4{w:World}{b:Nat}{h:Hv}(hb:Blk w b h.L):w.cell? ⟨b,4,none⟩=some (.slice (h.f 0).a (h.f 0).len (h.f 0).cap)∧w.cell? ⟨b,5,none⟩=some (.int .i64 (h.f 0).skip)∧w.cell? ⟨b,6,none⟩=some (.int .i64 (h.f 0).bad):=⟨hb.cell 4 (by simp),hb.cell 5 (by simp),hb.cell 6 (by simp)⟩
theorem Bi5{w:World}{b:Nat}{h:Hv}(hb:Blk w b h.L):w.cell? ⟨b,7,none⟩=some (.slice (h.f 1).a (h.f 1).len (h.f 1).cap)∧w.cell? ⟨b,8,none⟩=some (.int .i64 (h.f 1).skip)∧w.cell? ⟨b,9,none⟩=some (.int .i64 (h.f 1).bad):=⟨hb.cell 7 (by simp),hb.cell 8 (by simp),hb.cell 9 (by simp)⟩
theorem Bi6{w:World}{b:Nat}{h:Hv}(hb:Blk w b h.L):w.cell? ⟨b,10,none⟩=some (.slice (h.f 2).a (h.f 2).len (h.f 2).cap)∧w.cell? ⟨b,11,none⟩=some (.int .i64 (h.f 2).skip)∧w.cell? ⟨b,12,none⟩=some (.int .i64 (h.f 2).bad):=⟨hb.cell 10 (by simp),hb.cell 11 (by simp),hb.cell 12 (by simp)⟩
theorem Bi7{w:World}{b:Nat}{h:Hv}(hb:Blk w b h.L):w.cell? ⟨b,13,none⟩=some (.slice (h.f 3).a (h.f 3).len (h.f 3).cap)∧w.cell? ⟨b,14,none⟩=some (.int .i64 (h.f 3).skip)∧w.cell? ⟨b,15,none⟩=some (.int .i64 (h.f 3).bad):=⟨hb.cell 13 (by simp),hb.cell 14 (by simp),hb.cell 15 (by simp)⟩
theorem Cx3(h g:Hv)(s t:Nat→Fd)(w:World)(hh:Aq0 w h s)(hg:Aq0 w g t):Calls Tryz.prog 108 #[h.v,g.v] w fun e w'=>e=.returned (.bool (Ah0 h s g t))∧Below w.heap.size w w':=by
 obtain⟨V,hV⟩:∃V,V=Ah0 h s g t:=⟨_,rfl⟩;rw[←hV];have HV:=Lh hV;clear hV;have HH:=Lh hh;have HG:=Lh hg;clear hh hg;go_enter Tryz.func108,Tryz.ntmps108
 go_upto_region 1 with(fail)
 generalize hW:World.alloc (World.alloc w _) _=W;obtain⟨hB1,hB2,hB3⟩:A6 42 W w.heap.size h.L∧A6 42 W (w.heap.size+1) g.L∧Below w.heap.size w W:=by rw[←hW];exact Bb5 w h.L g.L
 have B1:=Lh hB1;have B2:=Lh hB2;have B3:=Lh hB3;clear hW hB1 hB2 hB3;generalize w.heap.size+1=b2 at B2 ⊢;go_wp2_with fail
 go_loopw [6] (fun v6 wr=>∃k:Int,0≤k∧k≤4∧v6=.int .i64 k∧(∀i:Nat,(i:Int)<k→R7 (s i) (t i)=true)∧Below W.heap.size W wr) (fun v6 _=>4-(intOf v6).toNat)
 case atStart=>exact⟨0,by omega,by omega,rfl,fun i hi=>by omega,Below.refl _ _⟩
 case round=>
  obtain⟨k,hk0,hk4,rfl,hok,hb⟩:=hrel;have Hok:=Lh hok;have Hb:=Lh hb;have C1:=Lh (B1.out.up hb);have C2:=Lh (B2.out.up hb);have C3:=Lh (bt B3.out hb);clear hok hb;rcases(show k=0∨k=1∨k=2∨k=3∨k=4 by omega) with rfl | rfl | rfl | rfl | rfl
  ·clear hk0 hk4;obtain⟨q,hq⟩:∃q,q=R7 (s 0) (t 0):=⟨_,rfl⟩;have HS:=Lh (fun(W':World) (hb:Below w.heap.size w W')=>(show Calls Tryz.prog 161 #[(h.f 0).v,(g.f 0).v] W' (F9 W' q) from(At1 (h.f 0) (g.f 0) (s 0) (t 0) W' ((HH.out 0 (by decide)).mono hb) ((HG.out 0 (by decide)).mono hb)).mono fun e w' ⟨p1,p2⟩=>⟨by rw[p1,hq];rfl,p2⟩));have HO:=Lh hq;clear hq;have hx:=And.intro (Bi4 C1.out.blk) (Bi4 C2.out.blk);have hbd:=btd C3.out;go_upto_region 4 with(fail)
   go_region_held3 (fun w'=>(w'.cell? ⟨w.heap.size,4,none⟩=some (.slice (h.f 0).a (h.f 0).len (h.f 0).cap)∧w'.cell? ⟨w.heap.size,5,none⟩=some (.int .i64 (h.f 0).skip)∧w'.cell? ⟨w.heap.size,6,none⟩=some (.int .i64 (h.f 0).bad))∧(w'.cell? ⟨b2,4,none⟩=some (.slice (g.f 0).a (g.f 0).len (g.f 0).cap)∧w'.cell? ⟨b2,5,none⟩=some (.int .i64 (g.f 0).skip)∧w'.cell? ⟨b2,6,none⟩=some (.int .i64 (g.f 0).bad))) (first | assumption) (first
    | (go_at_call 161;(with_reducible refine Calls.mono (HS.out _ hbd) ?_);rintro e w3 ⟨rfl,hb3⟩;have D1:=(C1.out.up (bd _)).up hb3;have D2:=(C2.out.up (bd _)).up hb3;have D3:=bt hbd hb3;have D4:=bt (btd Hb.out) hb3;have hx3:=And.intro (Bi4 D1.blk) (Bi4 D2.blk)))
   have B1':=Lh D1;have E3:=Lh D3;have E4:=Lh D4;clear D1 D2 D3 D4 hx3 hx hb3 hbd;rcases q with _ | _
   ·have HF:=Lh (show V=false by rw[HV.out];exact Ao6 0 (by decide) HO.out.symm);clear Hok HO HS;go_wp2_with fail
    go_ret;exact⟨by rw[HF.out];rfl,E3.out⟩
   ·have HT:=Lh (show R7 (s 0) (t 0)=true from HO.out.symm);clear HO HS;go_wp2_with fail
    exact⟨⟨1,by decide,by decide,rfl,fun i hi=>by
     rcases Nat.lt_or_ge i 0 with h1 | h1
     ·exact Hok.out i (by omega)
     ·have:i=0:=by omega
      subst this;exact HT.out,E4.out⟩,by simp[intOf]⟩
  ·clear hk0 hk4;obtain⟨q,hq⟩:∃q,q=R7 (s 1) (t 1):=⟨_,rfl⟩;have HS:=Lh (fun(W':World) (hb:Below w.heap.size w W')=>(show Calls Tryz.prog 161 #[(h.f 1).v,(g.f 1).v] W' (F9 W' q) from(At1 (h.f 1) (g.f 1) (s 1) (t 1) W' ((HH.out 1 (by decide)).mono hb) ((HG.out 1 (by decide)).mono hb)).mono fun e w' ⟨p1,p2⟩=>⟨by rw[p1,hq];rfl,p2⟩));have HO:=Lh hq;clear hq;have hx:=And.intro (Bi5 C1.out.blk) (Bi5 C2.out.blk);have hbd:=btd C3.out;go_upto_region 4 with(fail)
   go_region_held3 (fun w'=>(w'.cell? ⟨w.heap.size,7,none⟩=some (.slice (h.f 1).a (h.f 1).len (h.f 1).cap)∧w'.cell? ⟨w.heap.size,8,none⟩=some (.int .i64 (h.f 1).skip)∧w'.cell? ⟨w.heap.size,9,none⟩=some (.int .i64 (h.f 1).bad))∧(w'.cell? ⟨b2,7,none⟩=some (.slice (g.f 1).a (g.f 1).len (g.f 1).cap)∧w'.cell? ⟨b2,8,none⟩=some (.int .i64 (g.f 1).skip)∧w'.cell? ⟨b2,9,none⟩=some (.int .i64 (g.f 1).bad))) (first | assumption) (first
    | (go_at_call 161;(with_reducible refine Calls.mono (HS.out _ hbd) ?_);rintro e w3 ⟨rfl,hb3⟩;have D1:=(C1.out.up (bd _)).up hb3;have D2:=(C2.out.up (bd _)).up hb3;have D3:=bt hbd hb3;have D4:=bt (btd Hb.out) hb3;have hx3:=And.intro (Bi5 D1.blk) (Bi5 D2.blk)))
   have B1':=Lh D1;have E3:=Lh D3;have E4:=Lh D4;clear D1 D2 D3 D4 hx3 hx hb3 hbd;rcases q with _ | _
   ·have HF:=Lh (show V=false by rw[HV.out];exact Ao6 1 (by decide) HO.out.symm);clear Hok HO HS;go_wp2_with fail
    go_ret;exact⟨by rw[HF.out];rfl,E3.out⟩
   ·have HT:=Lh (show R7 (s 1) (t 1)=true from HO.out.symm);clear HO HS;go_wp2_with fail
    exact⟨⟨2,by decide,by decide,rfl,fun i hi=>by
     rcases Nat.lt_or_ge i 1 with h1 | h1
     ·exact Hok.out i (by omega)
     ·have:i=1:=by omega
      subst this;exact HT.out,E4.out⟩,by simp[intOf]⟩
  ·clear hk0 hk4;obtain⟨q,hq⟩:∃q,q=R7 (s 2) (t 2):=⟨_,rfl⟩;have HS:=Lh (fun(W':World) (hb:Below w.heap.size w W')=>(show Calls Tryz.prog 161 #[(h.f 2).v,(g.f 2).v] W' (F9 W' q) from(At1 (h.f 2) (g.f 2) (s 2) (t 2) W' ((HH.out 2 (by decide)).mono hb) ((HG.out 2 (by decide)).mono hb)).mono fun e w' ⟨p1,p2⟩=>⟨by rw[p1,hq];rfl,p2⟩));have HO:=Lh hq;clear hq;have hx:=And.intro (Bi6 C1.out.blk) (Bi6 C2.out.blk);have hbd:=btd C3.out;go_upto_region 4 with(fail)
   go_region_held3 (fun w'=>(w'.cell? ⟨w.heap.size,10,none⟩=some (.slice (h.f 2).a (h.f 2).len (h.f 2).cap)∧w'.cell? ⟨w.heap.size,11,none⟩=some (.int .i64 (h.f 2).skip)∧w'.cell? ⟨w.heap.size,12,none⟩=some (.int .i64 (h.f 2).bad))∧(w'.cell? ⟨b2,10,none⟩=some (.slice (g.f 2).a (g.f 2).len (g.f 2).cap)∧w'.cell? ⟨b2,11,none⟩=some (.int .i64 (g.f 2).skip)∧w'.cell? ⟨b2,12,none⟩=some (.int .i64 (g.f 2).bad))) (first | assumption) (first
    | (go_at_call 161;(with_reducible refine Calls.mono (HS.out _ hbd) ?_);rintro e w3 ⟨rfl,hb3⟩;have D1:=(C1.out.up (bd _)).up hb3;have D2:=(C2.out.up (bd _)).up hb3;have D3:=bt hbd hb3;have D4:=bt (btd Hb.out) hb3;have hx3:=And.intro (Bi6 D1.blk) (Bi6 D2.blk)))
   have B1':=Lh D1;have E3:=Lh D3;have E4:=Lh D4;clear D1 D2 D3 D4 hx3 hx hb3 hbd;rcases q with _ | _
   ·have HF:=Lh (show V=false by rw[HV.out];exact Ao6 2 (by decide) HO.out.symm);clear Hok HO HS;go_wp2_with fail
    go_ret;exact⟨by rw[HF.out];rfl,E3.out⟩
   ·have HT:=Lh (show R7 (s 2) (t 2)=true from HO.out.symm);clear HO HS;go_wp2_with fail
    exact⟨⟨3,by decide,by decide,rfl,fun i hi=>by
     rcases Nat.lt_or_ge i 2 with h1 | h1
     ·exact Hok.out i (by omega)
     ·have:i=2:=by omega
      subst this;exact HT.out,E4.out⟩,by simp[intOf]⟩
  ·clear hk0 hk4;obtain⟨q,hq⟩:∃q,q=R7 (s 3) (t 3):=⟨_,rfl⟩;have HS:=Lh (fun(W':World) (hb:Below w.heap.size w W')=>(show Calls Tryz.prog 161 #[(h.f 3).v,(g.f 3).v] W' (F9 W' q) from(At1 (h.f 3) (g.f 3) (s 3) (t 3) W' ((HH.out 3 (by decide)).mono hb) ((HG.out 3 (by decide)).mono hb)).mono fun e w' ⟨p1,p2⟩=>⟨by rw[p1,hq];rfl,p2⟩));have HO:=Lh hq;clear hq;have hx:=And.intro (Bi7 C1.out.blk) (Bi7 C2.out.blk);have hbd:=btd C3.out;go_upto_region 4 with(fail)
   go_region_held3 (fun w'=>(w'.cell? ⟨w.heap.size,13,none⟩=some (.slice (h.f 3).a (h.f 3).len (h.f 3).cap)∧w'.cell? ⟨w.heap.size,14,none⟩=some (.int .i64 (h.f 3).skip)∧w'.cell? ⟨w.heap.size,15,none⟩=some (.int .i64 (h.f 3).bad))∧(w'.cell? ⟨b2,13,none⟩=some (.slice (g.f 3).a (g.f 3).len (g.f 3).cap)∧w'.cell? ⟨b2,14,none⟩=some (.int .i64 (g.f 3).skip)∧w'.cell? ⟨b2,15,none⟩=some (.int .i64 (g.f 3).bad))) (first | assumption) (first
    | (go_at_call 161;(with_reducible refine Calls.mono (HS.out _ hbd) ?_);rintro e w3 ⟨rfl,hb3⟩;have D1:=(C1.out.up (bd _)).up hb3;have D2:=(C2.out.up (bd _)).up hb3;have D3:=bt hbd hb3;have D4:=bt (btd Hb.out) hb3;have hx3:=And.intro (Bi7 D1.blk) (Bi7 D2.blk)))
   have B1':=Lh D1;have E3:=Lh D3;have E4:=Lh D4;clear D1 D2 D3 D4 hx3 hx hb3 hbd;rcases q with _ | _
   ·have HF:=Lh (show V=false by rw[HV.out];exact Ao6 3 (by decide) HO.out.symm);clear Hok HO HS;go_wp2_with fail
    go_ret;exact⟨by rw[HF.out];rfl,E3.out⟩
   ·have HT:=Lh (show R7 (s 3) (t 3)=true from HO.out.symm);clear HO HS;go_wp2_with fail
    exact⟨⟨4,by decide,by decide,rfl,fun i hi=>by
     rcases Nat.lt_or_ge i 3 with h1 | h1
     ·exact Hok.out i (by omega)
     ·have:i=3:=by omega
      subst this;exact HT.out,E4.out⟩,by simp[intOf]⟩
  ·obtain⟨U,hU⟩:∃U,U=c4 fun i=>h.u i==g.u i:=⟨_,rfl⟩;obtain⟨L,hL⟩:∃L,L=c4 fun i=>decide (h.l i=g.l i):=⟨_,rfl⟩;have HF:=Lh (show V=(U&&(L&&decide (h.nx=g.nx))) by rw[HV.out];unfold Ah0;rw[Cb2 (p:=fun i=>R7 (s i) (t i)) (fun i hi=>Hok.out i (by omega)),←hU,←hL];rfl);have q1:∀W,(Op.equalIn 10000 36 (.agg #[.bool (h.u 0),.bool (h.u 1),.bool (h.u 2),.bool (h.u 3)]) (.agg #[.bool (g.u 0),.bool (g.u 1),.bool (g.u 2),.bool (g.u 3)])).run Tryz.prog W=.ok U W:=fun W=>by rw[hU];exact Ep5 (h.u 0) (h.u 1) (h.u 2) (h.u 3) (g.u 0) (g.u 1) (g.u 2) (g.u 3) W
   have q2:∀W,(Op.equalIn 10000 40 (.agg #[.int .i64 (h.l 0),.int .i64 (h.l 1),.int .i64 (h.l 2),.int .i64 (h.l 3)]) (.agg #[.int .i64 (g.l 0),.int .i64 (g.l 1),.int .i64 (g.l 2),.int .i64 (g.l 3)])).run Tryz.prog W=.ok L W:=fun W=>by rw[hL];exact Ey8 (h.l 0) (h.l 1) (h.l 2) (h.l 3) (g.l 0) (g.l 1) (g.l 2) (g.l 3) W
   obtain⟨u0,u1,u2,u3⟩:=Ag9 C1.out.blk;obtain⟨x0,x1,x2,x3⟩:=Ag9 C2.out.blk;obtain⟨l0,l1,l2,l3,l4⟩:=Ap9 C1.out.blk;obtain⟨y0,y1,y2,y3,y4⟩:=Ap9 C2.out.blk;clear hU hL Hok Hb;rcases U with _ | _;all_goals rcases L with _ | _
   all_goals
    go_wp2_with fail
    all_goals
     go_ret;exact⟨by rw[HF.out];first | rfl | (simp;done) | (simp[*];done) | (simp;rw[Bool.eq_iff_iff];simp),C3.out⟩
theorem Cg0(h g:Hv)(s t:Nat→Fd)(w:World)(hh:Aq0 w h s)(hg:Aq0 w g t):Calls Tryz.prog 41 #[h.v,g.v] w fun e w'=>e=.returned (.bool (Ah0 h s g t))∧Below w.heap.size w w':=by
 obtain⟨V,hV⟩:∃V,V=Ah0 h s g t:=⟨_,rfl⟩;rw[←hV];have HV:=Lh hV;clear hV;have HH:=Lh hh;have HG:=Lh hg;clear hh hg;go_enter Tryz.func41,Tryz.ntmps41
 go_upto_region 1 with(fail)
 generalize hW:World.alloc (World.alloc w _) _=W;obtain⟨hB1,hB2,hB3⟩:A6 42 W w.heap.size h.L∧A6 42 W (w.heap.size+1) g.L∧Below w.heap.size w W:=by rw[←hW];exact Bb5 w h.L g.L
 have B1:=Lh hB1;have B2:=Lh hB2;have B3:=Lh hB3;clear hW hB1 hB2 hB3;generalize w.heap.size+1=b2 at B2 ⊢;go_wp2_with fail
 go_loopw [5] (fun v5 wr=>∃k:Int,0≤k∧k≤4∧v5=.int .i64 k∧(∀i:Nat,(i:Int)<k→R7 (s i) (t i)=true∧(h.u i==g.u i)=true∧decide (h.l i=g.l i)=true)∧Below W.heap.size W wr) (fun v5 _=>4-(intOf v5).toNat)
 case atStart=>exact⟨0,by omega,by omega,rfl,fun i hi=>by omega,Below.refl _ _⟩
 case round=>
  obtain⟨k,hk0,hk4,rfl,hok,hb⟩:=hrel;have Hok:=Lh hok;have Hb:=Lh hb;have C1:=Lh (B1.out.up hb);have C2:=Lh (B2.out.up hb);have C3:=Lh (bt B3.out hb);clear hok hb;rcases(show k=0∨k=1∨k=2∨k=3∨k=4 by omega) with rfl | rfl | rfl | rfl | rfl
  ·clear hk0 hk4;obtain⟨q,hq⟩:∃q,q=R7 (s 0) (t 0):=⟨_,rfl⟩;have HS:=Lh (fun(W':World) (hb:Below w.heap.size w W')=>(show Calls Tryz.prog 92 #[(h.f 0).v,(g.f 0).v] W' (F9 W' q) from(Ak1 (h.f 0) (g.f 0) (s 0) (t 0) W' ((HH.out 0 (by decide)).mono hb) ((HG.out 0 (by decide)).mono hb)).mono fun e w' ⟨p1,p2⟩=>⟨by rw[p1,hq];rfl,p2⟩));have HO:=Lh hq;clear hq;have hx:=And.intro (Bi4 C1.out.blk) (Bi4 C2.out.blk);have hbd:=btd C3.out;go_upto_region 4 with(fail)
   go_region_held3 (fun w'=>(w'.cell? ⟨w.heap.size,4,none⟩=some (.slice (h.f 0).a (h.f 0).len (h.f 0).cap)∧w'.cell? ⟨w.heap.size,5,none⟩=some (.int .i64 (h.f 0).skip)∧w'.cell? ⟨w.heap.size,6,none⟩=some (.int .i64 (h.f 0).bad))∧(w'.cell? ⟨b2,4,none⟩=some (.slice (g.f 0).a (g.f 0).len (g.f 0).cap)∧w'.cell? ⟨b2,5,none⟩=some (.int .i64 (g.f 0).skip)∧w'.cell? ⟨b2,6,none⟩=some (.int .i64 (g.f 0).bad))) (first | assumption) (first
    | (go_at_call 92;(with_reducible refine Calls.mono (HS.out _ hbd) ?_);rintro e w3 ⟨rfl,hb3⟩;have D1:=(C1.out.up (bd _)).up hb3;have D2:=(C2.out.up (bd _)).up hb3;have D3:=bt hbd hb3;have D4:=bt (btd Hb.out) hb3;have hx3:=And.intro (Bi4 D1.blk) (Bi4 D2.blk)))
   have E1:=Lh D1;have E2:=Lh D2;have E3:=Lh D3;have E4:=Lh D4;clear D1 D2 D3 D4 hx3 hx hb3 hbd C1 C2 C3 HS;obtain⟨u0,u1,u2,u3⟩:=Ag9 E1.out.blk;obtain⟨x0,x1,x2,x3⟩:=Ag9 E2.out.blk;obtain⟨l0,l1,l2,l3,-⟩:=Ap9 E1.out.blk;obtain⟨y0,y1,y2,y3,-⟩:=Ap9 E2.out.blk;rcases q with _ | _
   ·have HF:=Lh (show V=false by rw[HV.out];exact Ao6 0 (by decide) HO.out.symm);clear Hok HO;go_wp2_with fail
    go_quiet (fail)
    go_wp2_with fail
    go_ret;exact⟨by rw[HF.out];rfl,by first | exact E3.out | exact btd E3.out | exact btn E3.out _⟩
   rcases hu:(h.u 0==g.u 0) with _ | _
   ·have HF:=Lh (show V=false by rw[HV.out];exact Be5 0 (by decide) hu);have hu2:(h.u 0 != g.u 0)=true:=by unfold bne;rw[hu];rfl
    clear Hok HO;go_wp2_with fail
    go_quiet (fail)
    go_wp2_with fail
    go_ret;exact⟨by rw[HF.out];rfl,by first | exact E3.out | exact btd E3.out | exact btn E3.out _⟩
   have hu2:(h.u 0 != g.u 0)=false:=by unfold bne;rw[hu];rfl
   rcases hl:decide (h.l 0=g.l 0) with _ | _
   ·have HF:=Lh (show V=false by rw[HV.out];exact Be6 0 (by decide) hl);have hl1:=of_decide_eq_false hl;have hl2:(h.l 0==g.l 0)=false:=by rw[beq_eq_false_iff_ne];exact hl1
    have hl3:(h.l 0 != g.l 0)=true:=by unfold bne;rw[hl2];rfl
    clear Hok HO hl;go_wp2_with fail
    go_quiet (fail)
    go_wp2_with fail
    go_ret;exact⟨by rw[HF.out];rfl,by first | exact E3.out | exact btd E3.out | exact btn E3.out _⟩
   have HT:=Lh (show R7 (s 0) (t 0)=true∧(h.u 0==g.u 0)=true∧decide (h.l 0=g.l 0)=true from⟨HO.out.symm,hu,hl⟩);have hl2:(h.l 0==g.l 0)=true:=by rw[beq_iff_eq];exact of_decide_eq_true hl
   have hl3:(h.l 0 != g.l 0)=false:=by unfold bne;rw[hl2];rfl
   clear HO hl;go_wp2_with fail
   go_quiet (fail)
   go_wp2_with fail
   exact⟨⟨1,by decide,by decide,rfl,fun i hi=>by
    rcases Nat.lt_or_ge i 0 with h1 | h1
    ·exact Hok.out i (by omega)
    ·have:i=0:=by omega
     subst this;exact HT.out,by first | exact E4.out | exact btd E4.out | exact btn E4.out _⟩,by simp[intOf]⟩
  ·clear hk0 hk4;obtain⟨q,hq⟩:∃q,q=R7 (s 1) (t 1):=⟨_,rfl⟩;have HS:=Lh (fun(W':World) (hb:Below w.heap.size w W')=>(show Calls Tryz.prog 92 #[(h.f 1).v,(g.f 1).v] W' (F9 W' q) from(Ak1 (h.f 1) (g.f 1) (s 1) (t 1) W' ((HH.out 1 (by decide)).mono hb) ((HG.out 1 (by decide)).mono hb)).mono fun e w' ⟨p1,p2⟩=>⟨by rw[p1,hq];rfl,p2⟩));have HO:=Lh hq;clear hq;have hx:=And.intro (Bi5 C1.out.blk) (Bi5 C2.out.blk);have hbd:=btd C3.out;go_upto_region 4 with(fail)
   go_region_held3 (fun w'=>(w'.cell? ⟨w.heap.size,7,none⟩=some (.slice (h.f 1).a (h.f 1).len (h.f 1).cap)∧w'.cell? ⟨w.heap.size,8,none⟩=some (.int .i64 (h.f 1).skip)∧w'.cell? ⟨w.heap.size,9,none⟩=some (.int .i64 (h.f 1).bad))∧(w'.cell? ⟨b2,7,none⟩=some (.slice (g.f 1).a (g.f 1).len (g.f 1).cap)∧w'.cell? ⟨b2,8,none⟩=some (.int .i64 (g.f 1).skip)∧w'.cell? ⟨b2,9,none⟩=some (.int .i64 (g.f 1).bad))) (first | assumption) (first
    | (go_at_call 92;(with_reducible refine Calls.mono (HS.out _ hbd) ?_);rintro e w3 ⟨rfl,hb3⟩;have D1:=(C1.out.up (bd _)).up hb3;have D2:=(C2.out.up (bd _)).up hb3;have D3:=bt hbd hb3;have D4:=bt (btd Hb.out) hb3;have hx3:=And.intro (Bi5 D1.blk) (Bi5 D2.blk)))
   have E1:=Lh D1;have E2:=Lh D2;have E3:=Lh D3;have E4:=Lh D4;clear D1 D2 D3 D4 hx3 hx hb3 hbd C1 C2 C3 HS;obtain⟨u0,u1,u2,u3⟩:=Ag9 E1.out.blk;obtain⟨x0,x1,x2,x3⟩:=Ag9 E2.out.blk;obtain⟨l0,l1,l2,l3,-⟩:=Ap9 E1.out.blk;obtain⟨y0,y1,y2,y3,-⟩:=Ap9 E2.out.blk;rcases q with _ | _
   ·have HF:=Lh (show V=false by rw[HV.out];exact Ao6 1 (by decide) HO.out.symm);clear Hok HO;go_wp2_with fail
    go_quiet (fail)
    go_wp2_with fail
    go_ret;exact⟨by rw[HF.out];rfl,by first | exact E3.out | exact btd E3.out | exact btn E3.out _⟩
   rcases hu:(h.u 1==g.u 1) with _ | _
   ·have HF:=Lh (show V=false by rw[HV.out];exact Be5 1 (by decide) hu);have hu2:(h.u 1 != g.u 1)=true:=by unfold bne;rw[hu];rfl
    clear Hok HO;go_wp2_with fail
    go_quiet (fail)
    go_wp2_with fail
    go_ret;exact⟨by rw[HF.out];rfl,by first | exact E3.out | exact btd E3.out | exact btn E3.out _⟩
   have hu2:(h.u 1 != g.u 1)=false:=by unfold bne;rw[hu];rfl
   rcases hl:decide (h.l 1=g.l 1) with _ | _
   ·have HF:=Lh (show V=false by rw[HV.out];exact Be6 1 (by decide) hl);have hl1:=of_decide_eq_false hl;have hl2:(h.l 1==g.l 1)=false:=by rw[beq_eq_false_iff_ne];exact hl1
    have hl3:(h.l 1 != g.l 1)=true:=by unfold bne;rw[hl2];rfl
    clear Hok HO hl;go_wp2_with fail
    go_quiet (fail)
    go_wp2_with fail
    go_ret;exact⟨by rw[HF.out];rfl,by first | exact E3.out | exact btd E3.out | exact btn E3.out _⟩
   have HT:=Lh (show R7 (s 1) (t 1)=true∧(h.u 1==g.u 1)=true∧decide (h.l 1=g.l 1)=true from⟨HO.out.symm,hu,hl⟩);have hl2:(h.l 1==g.l 1)=true:=by rw[beq_iff_eq];exact of_decide_eq_true hl
   have hl3:(h.l 1 != g.l 1)=false:=by unfold bne;rw[hl2];rfl
   clear HO hl;go_wp2_with fail
   go_quiet (fail)
   go_wp2_with fail
   exact⟨⟨2,by decide,by decide,rfl,fun i hi=>by
    rcases Nat.lt_or_ge i 1 with h1 | h1
    ·exact Hok.out i (by omega)
    ·have:i=1:=by omega
     subst this;exact HT.out,by first | exact E4.out | exact btd E4.out | exact btn E4.out _⟩,by simp[intOf]⟩
  ·clear hk0 hk4;obtain⟨q,hq⟩:∃q,q=R7 (s 2) (t 2):=⟨_,rfl⟩;have HS:=Lh (fun(W':World) (hb:Below w.heap.size w W')=>(show Calls Tryz.prog 92 #[(h.f 2).v,(g.f 2).v] W' (F9 W' q) from(Ak1 (h.f 2) (g.f 2) (s 2) (t 2) W' ((HH.out 2 (by decide)).mono hb) ((HG.out 2 (by decide)).mono hb)).mono fun e w' ⟨p1,p2⟩=>⟨by rw[p1,hq];rfl,p2⟩));have HO:=Lh hq;clear hq;have hx:=And.intro (Bi6 C1.out.blk) (Bi6 C2.out.blk);have hbd:=btd C3.out;go_upto_region 4 with(fail)
   go_region_held3 (fun w'=>(w'.cell? ⟨w.heap.size,10,none⟩=some (.slice (h.f 2).a (h.f 2).len (h.f 2).cap)∧w'.cell? ⟨w.heap.size,11,none⟩=some (.int .i64 (h.f 2).skip)∧w'.cell? ⟨w.heap.size,12,none⟩=some (.int .i64 (h.f 2).bad))∧(w'.cell? ⟨b2,10,none⟩=some (.slice (g.f 2).a (g.f 2).len (g.f 2).cap)∧w'.cell? ⟨b2,11,none⟩=some (.int .i64 (g.f 2).skip)∧w'.cell? ⟨b2,12,none⟩=some (.int .i64 (g.f 2).bad))) (first | assumption) (first
    | (go_at_call 92;(with_reducible refine Calls.mono (HS.out _ hbd) ?_);rintro e w3 ⟨rfl,hb3⟩;have D1:=(C1.out.up (bd _)).up hb3;have D2:=(C2.out.up (bd _)).up hb3;have D3:=bt hbd hb3;have D4:=bt (btd Hb.out) hb3;have hx3:=And.intro (Bi6 D1.blk) (Bi6 D2.blk)))
   have E1:=Lh D1;have E2:=Lh D2;have E3:=Lh D3;have E4:=Lh D4;clear D1 D2 D3 D4 hx3 hx hb3 hbd C1 C2 C3 HS;obtain⟨u0,u1,u2,u3⟩:=Ag9 E1.out.blk;obtain⟨x0,x1,x2,x3⟩:=Ag9 E2.out.blk;obtain⟨l0,l1,l2,l3,-⟩:=Ap9 E1.out.blk;obtain⟨y0,y1,y2,y3,-⟩:=Ap9 E2.out.blk;rcases q with _ | _
   ·have HF:=Lh (show V=false by rw[HV.out];exact Ao6 2 (by decide) HO.out.symm);clear Hok HO;go_wp2_with fail
    go_quiet (fail)
    go_wp2_with fail
    go_ret;exact⟨by rw[HF.out];rfl,by first | exact E3.out | exact btd E3.out | exact btn E3.out _⟩
   rcases hu:(h.u 2==g.u 2) with _ | _
   ·have HF:=Lh (show V=false by rw[HV.out];exact Be5 2 (by decide) hu);have hu2:(h.u 2 != g.u 2)=true:=by unfold bne;rw[hu];rfl
    clear Hok HO;go_wp2_with fail
    go_quiet (fail)
    go_wp2_with fail
    go_ret;exact⟨by rw[HF.out];rfl,by first | exact E3.out | exact btd E3.out | exact btn E3.out _⟩
   have hu2:(h.u 2 != g.u 2)=false:=by unfold bne;rw[hu];rfl
   rcases hl:decide (h.l 2=g.l 2) with _ | _
   ·have HF:=Lh (show V=false by rw[HV.out];exact Be6 2 (by decide) hl);have hl1:=of_decide_eq_false hl;have hl2:(h.l 2==g.l 2)=false:=by rw[beq_eq_false_iff_ne];exact hl1
    have hl3:(h.l 2 != g.l 2)=true:=by unfold bne;rw[hl2];rfl
    clear Hok HO hl;go_wp2_with fail
    go_quiet (fail)
    go_wp2_with fail
    go_ret;exact⟨by rw[HF.out];rfl,by first | exact E3.out | exact btd E3.out | exact btn E3.out _⟩
   have HT:=Lh (show R7 (s 2) (t 2)=true∧(h.u 2==g.u 2)=true∧decide (h.l 2=g.l 2)=true from⟨HO.out.symm,hu,hl⟩);have hl2:(h.l 2==g.l 2)=true:=by rw[beq_iff_eq];exact of_decide_eq_true hl
   have hl3:(h.l 2 != g.l 2)=false:=by unfold bne;rw[hl2];rfl
   clear HO hl;go_wp2_with fail
   go_quiet (fail)
   go_wp2_with fail
   exact⟨⟨3,by decide,by decide,rfl,fun i hi=>by
    rcases Nat.lt_or_ge i 2 with h1 | h1
    ·exact Hok.out i (by omega)
    ·have:i=2:=by omega
     subst this;exact HT.out,by first | exact E4.out | exact btd E4.out | exact btn E4.out _⟩,by simp[intOf]⟩
  ·clear hk0 hk4;obtain⟨q,hq⟩:∃q,q=R7 (s 3) (t 3):=⟨_,rfl⟩;have HS:=Lh (fun(W':World) (hb:Below w.heap.size w W')=>(show Calls Tryz.prog 92 #[(h.f 3).v,(g.f 3).v] W' (F9 W' q) from(Ak1 (h.f 3) (g.f 3) (s 3) (t 3) W' ((HH.out 3 (by decide)).mono hb) ((HG.out 3 (by decide)).mono hb)).mono fun e w' ⟨p1,p2⟩=>⟨by rw[p1,hq];rfl,p2⟩));have HO:=Lh hq;clear hq;have hx:=And.intro (Bi7 C1.out.blk) (Bi7 C2.out.blk);have hbd:=btd C3.out;go_upto_region 4 with(fail)
   go_region_held3 (fun w'=>(w'.cell? ⟨w.heap.size,13,none⟩=some (.slice (h.f 3).a (h.f 3).len (h.f 3).cap)∧w'.cell? ⟨w.heap.size,14,none⟩=some (.int .i64 (h.f 3).skip)∧w'.cell? ⟨w.heap.size,15,none⟩=some (.int .i64 (h.f 3).bad))∧(w'.cell? ⟨b2,13,none⟩=some (.slice (g.f 3).a (g.f 3).len (g.f 3).cap)∧w'.cell? ⟨b2,14,none⟩=some (.int .i64 (g.f 3).skip)∧w'.cell? ⟨b2,15,none⟩=some (.int .i64 (g.f 3).bad))) (first | assumption) (first
    | (go_at_call 92;(with_reducible refine Calls.mono (HS.out _ hbd) ?_);rintro e w3 ⟨rfl,hb3⟩;have D1:=(C1.out.up (bd _)).up hb3;have D2:=(C2.out.up (bd _)).up hb3;have D3:=bt hbd hb3;have D4:=bt (btd Hb.out) hb3;have hx3:=And.intro (Bi7 D1.blk) (Bi7 D2.blk)))
   have E1:=Lh D1;have E2:=Lh D2;have E3:=Lh D3;have E4:=Lh D4;clear D1 D2 D3 D4 hx3 hx hb3 hbd C1 C2 C3 HS;obtain⟨u0,u1,u2,u3⟩:=Ag9 E1.out.blk;obtain⟨x0,x1,x2,x3⟩:=Ag9 E2.out.blk;obtain⟨l0,l1,l2,l3,-⟩:=Ap9 E1.out.blk;obtain⟨y0,y1,y2,y3,-⟩:=Ap9 E2.out.blk;rcases q with _ | _
   ·have HF:=Lh (show V=false by rw[HV.out];exact Ao6 3 (by decide) HO.out.symm);clear Hok HO;go_wp2_with fail
    go_quiet (fail)
    go_wp2_with fail
    go_ret;exact⟨by rw[HF.out];rfl,by first | exact E3.out | exact btd E3.out | exact btn E3.out _⟩
   rcases hu:(h.u 3==g.u 3) with _ | _
   ·have HF:=Lh (show V=false by rw[HV.out];exact Be5 3 (by decide) hu);have hu2:(h.u 3 != g.u 3)=true:=by unfold bne;rw[hu];rfl
    clear Hok HO;go_wp2_with fail
    go_quiet (fail)
    go_wp2_with fail
    go_ret;exact⟨by rw[HF.out];rfl,by first | exact E3.out | exact btd E3.out | exact btn E3.out _⟩
   have hu2:(h.u 3 != g.u 3)=false:=by unfold bne;rw[hu];rfl
   rcases hl:decide (h.l 3=g.l 3) with _ | _
   ·have HF:=Lh (show V=false by rw[HV.out];exact Be6 3 (by decide) hl);have hl1:=of_decide_eq_false hl;have hl2:(h.l 3==g.l 3)=false:=by rw[beq_eq_false_iff_ne];exact hl1
    have hl3:(h.l 3 != g.l 3)=true:=by unfold bne;rw[hl2];rfl
    clear Hok HO hl;go_wp2_with fail
    go_quiet (fail)
    go_wp2_with fail
    go_ret;exact⟨by rw[HF.out];rfl,by first | exact E3.out | exact btd E3.out | exact btn E3.out _⟩
   have HT:=Lh (show R7 (s 3) (t 3)=true∧(h.u 3==g.u 3)=true∧decide (h.l 3=g.l 3)=true from⟨HO.out.symm,hu,hl⟩);have hl2:(h.l 3==g.l 3)=true:=by rw[beq_iff_eq];exact of_decide_eq_true hl
   have hl3:(h.l 3 != g.l 3)=false:=by unfold bne;rw[hl2];rfl
   clear HO hl;go_wp2_with fail
   go_quiet (fail)
   go_wp2_with fail
   exact⟨⟨4,by decide,by decide,rfl,fun i hi=>by
    rcases Nat.lt_or_ge i 3 with h1 | h1
    ·exact Hok.out i (by omega)
    ·have:i=3:=by omega
     subst this;exact HT.out,by first | exact E4.out | exact btd E4.out | exact btn E4.out _⟩,by simp[intOf]⟩
  ·have HF:=Lh (show V=decide (h.nx=g.nx) by rw[HV.out];unfold Ah0;rw[Cb2 (p:=fun i=>R7 (s i) (t i)) (fun i hi=>(Hok.out i (by omega)).1),Cb2 (p:=fun i=>h.u i==g.u i) (fun i hi=>(Hok.out i (by omega)).2.1),Cb2 (p:=fun i=>decide (h.l i=g.l i)) (fun i hi=>(Hok.out i (by omega)).2.2)];rfl);obtain⟨-,-,-,-,l4⟩:=Ap9 C1.out.blk;obtain⟨-,-,-,-,y4⟩:=Ap9 C2.out.blk;clear Hok Hb;go_wp2_with fail
   go_ret;exact⟨by rw[HF.out];first | rfl | (simp;done) | (congr 2;rw[Bool.eq_iff_iff];simp),C3.out⟩
theorem Bu4{fn:Func}{p u v:Tmp}{ty:TypeId}(h:fn.results=#[.cell p ty,.tmp u,.tmp v])(tmps:Array Value)(P:Program)(w:World):
 (results fn tmps).run P w=
   ((asAddr (tmps.getD p undef)).run P w).andThen fun a w₁=>((loadVar ty a).run P w₁).andThen fun x w₂=>.ok (.tuple #[x,tmps.getD u undef,tmps.getD v undef]) w₂:=by
 simp only[results,h];simp[Sem.run_bind,Result.andThen]
theorem Aq1{P:Program}{fn:Func}{p u v:Tmp}{ty:TypeId}(h:fn.results=#[.cell p ty,.tmp u,.tmp v])(tmps:Array Value)(w:World)(g:Nat){cs:List Value}{d:TypeDesc}
 (hp:tmps.getD p undef=.pointer (some ⟨g,0,none⟩)) (v2 v3:Value) (hv:tmps.getD u undef=v2) (hv3:tmps.getD v undef=v3) (hb:Blk w g cs) (hu:P.underlying ty=some d) (hd:(match d with | .struct _ | .array _ _=>true | _=>false)=true) (hi:(P.info? ty).map (·.size)=some cs.length):
 (results fn tmps).run P w=.ok (.tuple #[.agg cs.toArray,v2,v3]) w:=by
 obtain⟨T,hg⟩:=hb;rw[Bu4 h,hp,hv,hv3];simp[asAddr,run_loadVar_row w g T ty cs.toArray _ d hg hu hd (by simpa using hi)]
def Ar0(h:Hv):Nat→Nat→Option Nat
 | 0,_=>none
 | f+1,c=>bif h.u c then some c else Ar0 h f ((c+1)%4)
def Aa9(h:Hv):Option Nat:=Ar0 h 4 h.nx.toNat
def Hv.next(h:Hv)(c:Nat):Hv:=⟨h.u,h.f,h.l,(((c+1)%4:Nat):Int)⟩
def Aw5(h:Hv):Hv×Int×Int:=match Aa9 h with | some c=>(h.next c,(c:Int),0) | none=>(h,0,11)
def Cg1(w:World)(p:Hv×Int×Int)(e:Ending)(w':World):Prop:=e=.returned (.tuple #[p.1.v,.int .i64 p.2.1,.int .i64 p.2.2])∧Below w.heap.size w w'
theorem Ec7{w:World}{b:Nat}{h:Hv}(hb:Blk w b h.L)(c:Nat)(hc:c<4):w.cell? ⟨b,c,none⟩=some (.bool (h.u c)):=by
 obtain⟨u0,u1,u2,u3⟩:=Ag9 hb;rcases(show c=0∨c=1∨c=2∨c=3 by omega) with rfl | rfl | rfl | rfl<;>assumption
def Cn1(h:Hv)(c:Nat):Nat:=bif h.u c then 0 else bif h.u ((c+1)%4) then 1 else bif h.u ((c+2)%4) then 2 else 3
theorem Ec8(h:Hv)(C:Nat)(hC:C<4)(hu:h.u C=false)(hs:(Ar0 h 4 C).isSome=true):Ar0 h 4 ((C+1)%4)=Ar0 h 4 C∧Cn1 h ((C+1)%4)<Cn1 h C:=by
 rcases(show C=0∨C=1∨C=2∨C=3 by omega) with rfl | rfl | rfl | rfl;all_goals
  simp only[Ar0,Cn1,Nat.reduceAdd,Nat.reduceMod] at hs ⊢
  revert hs hu
  cases h.u 0<;>cases h.u 1<;>cases h.u 2<;>cases h.u 3<;>simp
theorem Eq1(h:Hv)(hn:isC h.nx=true):Cf3 h=(Aa9 h).isSome:=by
 unfold Aa9;rcases Bn3 hn with h0 | h0 | h0 | h0<;>rw[h0]<;>simp[Ar0,Cf3]<;>cases h.u 0<;>cases h.u 1<;>cases h.u 2<;>cases h.u 3<;>rfl
theorem Cr9(h:Hv)(hn:isC h.nx=true)(w:World):Calls Tryz.prog 121 #[h.v] w (Cg1 w (Aw5 h)):=by
 obtain⟨V,hV⟩:∃V,V=Aw5 h:=⟨_,rfl⟩;rw[←hV];have HV:=Lh hV;have HI:=Lh Ac5;obtain⟨N,hN,hN4⟩:∃N:Nat,h.nx=(N:Int)∧N<4:=by
  have:=Bn3 hn;exact⟨h.nx.toNat,by omega,by omega⟩
 have HN:=Lh hN;clear hV hN hn;go_enter Tryz.func121,Tryz.ntmps121
 go_upto_region 1 with(fail)
 generalize hW:World.alloc (World.alloc w _) _=W;obtain⟨hB1,hB2,hB3⟩:A6 42 W w.heap.size h.L∧A6 42 W (w.heap.size+1) S8.L∧Below w.heap.size w W:=by rw[←hW];exact Bb5 w h.L S8.L
 clear hW;have B1:=Lh hB1;have B2:=Lh hB2;have B3:=Lh hB3;have B4:=Lh (show w.heap.size≤w.heap.size+1 by omega);have B5:=Lh (show w.heap.size+1≠w.heap.size by omega);clear hB1 hB2 hB3;generalize w.heap.size+1=b2 at B2 B4 B5 ⊢;go_wp2_with fail
 go_loopw [7] (fun v7 wr=>∃k:Nat,k≤4∧v7=.int .i64 k∧Ar0 h (4-k) ((N+k)%4)=Aa9 h∧wr=W) (fun v7 _=>4-(intOf v7).toNat)
 case atStart=>exact⟨0,by omega,rfl,by unfold Aa9;rw[HN.out,Nat.mod_eq_of_lt (by omega)];rfl,rfl⟩
 case round=>
  obtain⟨k,hk4,rfl,hgo,rfl⟩:=hrel;have Hgo:=Lh hgo;clear hgo;by_cases hlt:k<4
  ·obtain⟨C,hC⟩:∃C,C=(N+k)%4:=⟨_,rfl⟩;have hC4:C<4:=by rw[hC];exact Nat.mod_lt _ (by decide)
   have hm:((N:Int)+(k:Int)).tmod 4=(C:Int):=by rw[Int.tmod_eq_emod_of_nonneg (by omega),hC];omega
   have hm':((N:Int)+(k:Int))%4=(C:Int):=by rw[hC];omega
   have Hstep:=Lh (show Aa9 h=bif h.u C then some C else Ar0 h (4-(k+1)) ((C+1)%4) by
    rw[←Hgo.out,←hC,show 4-k=(4-(k+1))+1 by omega];rfl)
   have Hnx:=Lh (show(C+1)%4=(N+(k+1))%4 by omega);have hl4:wr.cell? ⟨w.heap.size,20,none⟩=some (.int .i64 (N:Int)):=by rw[←HN.out];exact B1.out.blk.cell 20 (by simp)
   have hcu:=Ec7 B1.out.blk C hC4;have fz:=B1.out.blk.frozen;clear hC;rcases hu:h.u C with _ | _
   ·rw[hu] at hcu;have Hp:=Lh (show Ar0 h (4-(k+1)) ((N+(k+1))%4)=Aa9 h by rw[Hstep.out,hu,←Hnx.out];rfl);clear hu Hstep Hnx Hgo;go_wp2_with fail
    exact⟨⟨k+1,by omega,by go_num,Hp.out,by first | rfl | trivial⟩,by simp[intOf];omega⟩
   ·rw[hu] at hcu;have HV2:=Lh (show V=(h.next C,(C:Int),0) by rw[HV.out];unfold Aw5;rw[Hstep.out,hu];rfl);clear hu Hstep Hnx Hgo;obtain⟨D,hD⟩:∃D,D=(C+1)%4:=⟨_,rfl⟩;have hm2:((C:Int)+1).tmod 4=(D:Int):=by rw[Int.tmod_eq_emod_of_nonneg (by omega),hD];omega
    have hm2':((C:Int)+1)%4=(D:Int):=by rw[hD];omega
    have HD:=Lh hD;clear hD;go_upto_region 7 with(fail)
    generalize hW3:World.setCell wr _ _=W3;obtain⟨hB1,hB2,hB3⟩:A6 42 W3 w.heap.size (h.next C).L∧A6 42 W3 b2 S8.L∧Below w.heap.size w W3:=by
     rw[←hW3,HD.out];exact⟨B1.out.set _ _,B2.out.other B5.out _,B3.out.setCell (Nat.le_refl _) _⟩
    have E1:=Lh hB1;have E2:=Lh hB2;have E3:=Lh hB3;clear hB1 hB2 hB3 hW3 hl4 hcu fz hm hm' hm2 hm2';go_wp2_with (first
     | (refine C4 42 (.tmp 1) w.heap.size (cs:=(h.next C).L) rfl rfl rfl E1.out.blk Tryz.underlying42 rfl HI.out ?_)
     | (refine G9 42 (.tmp 2) (.tmp 23) b2 (old:=S8.L) (cs:=(h.next C).L) rfl rfl rfl rfl E2.out.blk HI.out rfl rfl ?_))
    refine bodyPost_ret (Aq1 rfl _ _ b2 (cs:=(h.next C).L) rfl _ _ rfl rfl ((E2.out.row (h.next C).L).blk) Tryz.underlying42 rfl Ac5) rfl ?_;exact⟨by rw[HV2.out];rfl,F5 E3.out B4.out _⟩
  ·have HV2:=Lh (show V=(h,0,11) by
    have:Aa9 h=none:=by rw[←Hgo.out,show 4-k=0 by omega];rfl
    rw[HV.out];unfold Aw5;rw[this])
   clear Hgo;go_wp2_with (first
    | (refine C4 42 (.tmp 1) w.heap.size (cs:=h.L) rfl rfl rfl B1.out.blk Tryz.underlying42 rfl HI.out ?_)
    | (refine G9 42 (.tmp 2) (.tmp 26) b2 (old:=S8.L) (cs:=h.L) rfl rfl rfl rfl B2.out.blk HI.out rfl rfl ?_))
   refine bodyPost_ret (Aq1 rfl _ _ b2 (cs:=h.L) rfl _ _ rfl rfl ((B2.out.row h.L).blk) Tryz.underlying42 rfl Ac5) rfl ?_;exact⟨by rw[HV2.out];rfl,F5 B3.out B4.out _⟩
theorem Bv3(h:Hv)(hn:isC h.nx=true)(w:World):Calls Tryz.prog 127 #[h.v] w (Cg1 w (Aw5 h)):=by
 obtain⟨V,hV⟩:∃V,V=Aw5 h:=⟨_,rfl⟩;rw[←hV];have HV:=Lh hV;have HI:=Lh Ac5;obtain⟨N,hN,hN4⟩:∃N:Nat,h.nx=(N:Int)∧N<4:=by
  have:=Bn3 hn;exact⟨h.nx.toNat,by omega,by omega⟩
 have HN:=Lh hN;have HA:=Lh (fun W=>Dg5 h W);have Hap:=Lh (Eq1 h hn);clear hV hN hn;go_enter Tryz.func127,Tryz.ntmps127
 go_upto_region 1 with(fail)
 generalize hW:World.alloc (World.alloc w _) _=W;obtain⟨hB1,hB2,hB3⟩:A6 42 W w.heap.size h.L∧A6 42 W (w.heap.size+1) S8.L∧Below w.heap.size w W:=by rw[←hW];exact Bb5 w h.L S8.L
 clear hW;have B1:=Lh hB1;have B2:=Lh hB2;have B3:=Lh hB3;have B4:=Lh (show w.heap.size≤w.heap.size+1 by omega);have B5:=Lh (show w.heap.size+1≠w.heap.size by omega);clear hB1 hB2 hB3;generalize w.heap.size+1=b2 at B2 B4 B5 ⊢;go_wp2_with (first
  | (refine C4 42 (.tmp 1) w.heap.size (cs:=h.L) rfl rfl rfl B1.out.blk Tryz.underlying42 rfl HI.out ?_))
 refine(HA.out _).mono ?_;rintro e W1 ⟨rfl,hb1⟩;have C1:=Lh (B1.out.up hb1);have C2:=Lh (B2.out.up hb1);have C3:=Lh (bt B3.out hb1);clear hb1 B1 B2 B3 HA;rcases ha:Cf3 h with _ | _
 ·have HV2:=Lh (show V=(h,0,11) by
   have:Aa9 h=none:=by have:=Hap.out;rw[ha] at this;exact Option.isSome_eq_false_iff.1 this.symm|>Option.isNone_iff_eq_none.1
   rw[HV.out];unfold Aw5;rw[this])
  clear Hap ha;go_wp2_with (first
   | (refine C4 42 (.tmp 1) w.heap.size (cs:=h.L) rfl rfl rfl C1.out.blk Tryz.underlying42 rfl HI.out ?_)
   | (refine G9 42 (.tmp 2) (.tmp 11) b2 (old:=S8.L) (cs:=h.L) rfl rfl rfl rfl C2.out.blk HI.out rfl rfl ?_))
  refine bodyPost_ret (Aq1 rfl _ _ b2 (cs:=h.L) rfl _ _ rfl rfl ((C2.out.row h.L).blk) Tryz.underlying42 rfl Ac5) rfl ?_;exact⟨by rw[HV2.out];rfl,F5 C3.out B4.out _⟩
 ·have Hs:=Lh (show(Aa9 h).isSome=true by rw[←Hap.out,ha]);have hl4:W1.cell? ⟨w.heap.size,20,none⟩=some (.int .i64 (N:Int)):=by rw[←HN.out];exact C1.out.blk.cell 20 (by simp)
  have fz:=C1.out.blk.frozen;clear Hap ha;go_wp2_with fail
  go_loopw [6] (fun v6 wr=>∃C:Nat,C<4∧v6=.int .i64 C∧Ar0 h 4 C=Aa9 h∧wr=W1) (fun v6 _=>Cn1 h (intOf v6).toNat)
  case atStart=>exact⟨N,hN4,rfl,by unfold Aa9;rw[HN.out];rfl,rfl⟩
  case round=>
   obtain⟨C,hC4,rfl,hgo,rfl⟩:=hrel;have Hgo:=Lh hgo;clear hgo;have hcu:=Ec7 C1.out.blk C hC4;rcases hu:h.u C with _ | _
   ·rw[hu] at hcu;have Hst:=Lh (Ec8 h C hC4 hu (by rw[Hgo.out];exact Hs.out));obtain⟨D,hD⟩:∃D,D=(C+1)%4:=⟨_,rfl⟩;have hD4:D<4:=by rw[hD];exact Nat.mod_lt _ (by decide)
    have hm2:((C:Int)+1).tmod 4=(D:Int):=by rw[Int.tmod_eq_emod_of_nonneg (by omega),hD];omega
    have hm2':((C:Int)+1)%4=(D:Int):=by rw[hD];omega
    have HD:=Lh hD;clear hD hu;go_wp2_with fail
    exact⟨⟨D,hD4,rfl,by rw[HD.out,Hst.out.1,Hgo.out],by first | rfl | trivial⟩,by have:=Hst.out.2;rw[←HD.out] at this;simpa [intOf] using this⟩
   ·rw[hu] at hcu;have HV2:=Lh (show V=(h.next C,(C:Int),0) by
     have:Aa9 h=some C:=by rw[←Hgo.out];unfold Ar0;rw[hu];rfl
     rw[HV.out];unfold Aw5;rw[this])
    obtain⟨D,hD⟩:∃D,D=(C+1)%4:=⟨_,rfl⟩;have hm2:((C:Int)+1).tmod 4=(D:Int):=by rw[Int.tmod_eq_emod_of_nonneg (by omega),hD];omega
    have hm2':((C:Int)+1)%4=(D:Int):=by rw[hD];omega
    have HD:=Lh hD;clear hD hu Hgo;go_upto_region 8 with(fail)
    generalize hW3:World.setCell wr _ _=W3;obtain⟨hB1,hB2,hB3⟩:A6 42 W3 w.heap.size (h.next C).L∧A6 42 W3 b2 S8.L∧Below w.heap.size w W3:=by
     rw[←hW3,HD.out];exact⟨C1.out.set _ _,C2.out.other B5.out _,C3.out.setCell (Nat.le_refl _) _⟩
    have E1:=Lh hB1;have E2:=Lh hB2;have E3:=Lh hB3;clear hB1 hB2 hB3 hW3 hl4 hcu fz hm2 hm2';go_wp2_with (first
     | (refine C4 42 (.tmp 1) w.heap.size (cs:=(h.next C).L) rfl rfl rfl E1.out.blk Tryz.underlying42 rfl HI.out ?_)
     | (refine G9 42 (.tmp 2) (.tmp 26) b2 (old:=S8.L) (cs:=(h.next C).L) rfl rfl rfl rfl E2.out.blk HI.out rfl rfl ?_))
    refine bodyPost_ret (Aq1 rfl _ _ b2 (cs:=(h.next C).L) rfl _ _ rfl rfl ((E2.out.row (h.next C).L).blk) Tryz.underlying42 rfl Ac5) rfl ?_;exact⟨by rw[HV2.out];rfl,F5 E3.out B4.out _⟩
theorem Ae2.keepW{B:Nat}{w w':World}{f:Fv}{s:Fd}(h:Ae2 w f s)(k:Ae3 B w' f.a (B8s s.buf)):Ae2 w' f s:=⟨h.len,h.le,h.cap,k.at,h.skip,h.bad⟩
structure At2 (B C:Nat) (w:World) (f:Fv) (a:Option Addr) (c:Nat) (vs:List Value) (T:Fd×List (List UInt8)):Prop where
 fd:Ae2 w f T.1
 keep:Ae3 B w f.a (B8s T.1.buf)
 own:Own C w (.slice a T.2.length c) T.2.length vs
 rows:Ap7 B w vs T.2
theorem At2.up{B C:Nat}{w w':World}{f:Fv}{a:Option Addr}{c:Nat}{vs:List Value}{T:Fd×List (List UInt8)}(h:At2 B C w f a c vs T)(hb:Below w.heap.size w w'):At2 B C w' f a c vs T:=
 ⟨h.fd.mono hb,h.keep.safe (Y8.below hb),h.own.up hb,h.rows.safe (Y8.below hb)⟩
theorem At2.set{B C g j:Nat}{w:World}{f:Fv}{a:Option Addr}{c:Nat}{vs:List Value}{T:Fd×List (List UInt8)}{Y:TypeId}{cs:List Value}(h:At2 B C w f a c vs T)(hb:A6 Y w g cs)(hT:Y≠5)(hB:B≤g)(hC:g<C)(v:Value):At2 B C (w.setCell ⟨g,j,none⟩ v) f a c vs T:=
 ⟨h.fd.keepW (h.keep.safe (Y8.set hb hT hB v)),h.keep.safe (Y8.set hb hT hB v),h.own.set hC v,h.rows.safe (Y8.set hb hT hB v)⟩
theorem At2.row{B C g:Nat}{w:World}{f:Fv}{a:Option Addr}{c:Nat}{vs:List Value}{T:Fd×List (List UInt8)}{Y:TypeId}{cs:List Value}(h:At2 B C w f a c vs T)(hb:A6 Y w g cs)(hT:Y≠5)(hB:B≤g)(hC:g<C)(ds:Array Value):At2 B C (w.setRow g ds) f a c vs T:=
 ⟨h.fd.keepW (h.keep.safe (Y8.row hb hT hB ds)),h.keep.safe (Y8.row hb hT hB ds),h.own.row hC ds,h.rows.safe (Y8.row hb hT hB ds)⟩
theorem At2.at{B C:Nat}{w:World}{f:Fv}{a:Option Addr}{c:Nat}{vs:List Value}{T:Fd×List (List UInt8)}(h:At2 B C w f a c vs T):W6 w a T.2:=⟨vs,h.own.at,h.rows.of⟩
def Eq2:Nat→Fd:=fun _=>J8
theorem Eu9(h:Hv)(w:World)(hf:∀i,i<4→h.f i=Ap8):Aq0 w h Eq2:=fun i hi=>by rw[hf i hi];exact An0 w
theorem Dg6{h g:Hv}{s:Nat→Fd}(hu:h.u=g.u)(hl:h.l=g.l)(hn:h.nx=g.nx):Ah0 h s g s=true:=by
 unfold Ah0;rw[hu,hl,hn];simp[c4,R7]
end Go.Proofs.YtadpiemjgfndgaaGreatDoor
