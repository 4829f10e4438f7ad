/- Proved here, for use further on: WnN WnO. Conditions: none but those each theorem names. -/
import Derived.Test.YtadpiemjgfndgaaGreatDoorKb00
import Derived.Test.YtadpiemjgfndgaaGreatDoorKb04
import Derived.StillTailTactics
set_option linter.unusedSimpArgs false
set_option linter.unusedVariables false
set_option maxRecDepth 100000
set_option maxHeartbeats 8000000
namespace Go.Proofs.YtadpiemjgfndgaaGreatDoor
open Go.RowKit
theorem Buf.row{wB w:World}{e:TypeId}{a:Option Addr}{cap n:Nat}{xs:List Value}(h:Buf wB w e (.slice a n cap) n xs)(h0:0<n):∃g cur,a=some ⟨g,0,none⟩∧wB.heap.size≤g∧Blk w g cur∧∀i,i<n→i<cur.length∧cur.getD i undef=xs.getD i undef:=by
 obtain⟨⟨h1,h2⟩,-⟩:=h;rcases h2 with⟨-,h2⟩ | ⟨g,cap',cur,hv,hg,hh,h3,h4,h5,h6⟩
 ·omega
 ·cases hv
  refine⟨g,cur.toList,rfl,hg,⟨e,by simpa using hh⟩,fun i hi=>?_⟩;have hs:i<cur.toList.length:=by rw[Array.length_toList];omega
  refine⟨hs,?_⟩;have h7:cur.toList.take n=xs:=by simpa using h6
  rw[←h7];simp[List.getD,List.getElem?_take,hi]
theorem Cn8(t:Int)(c:Nat→UInt64)(p:Nat)(hp:p/64<16):(D0 t c).set (1+p/64) (.int .u64 (qv (c (p/64)+R7 (p%64))))=D0 t (Ba8 c p):=by
 rw[Bx2 t c _ hp]
 congr 1
 funext j;unfold Ba8;by_cases h:j=p/64
 ·rw[if_pos h,if_pos h,h]
 ·rw[if_neg h,if_neg h]
theorem Ci4(x y:UInt64):IntKind.u64.wrap (qv x+qv y)=qv (x+y):=by
 unfold qv;rw[UInt64.toNat_add,←Int.natCast_add];show(((x.toNat+y.toNat:Nat):Int))%18446744073709551616=_;omega
theorem Db9(top:Int)(b:Nat→UInt64)(n:Int)(hn:n<0∨4611686018427387904<n)(w:World):
 Calls Tryz.prog 68 #[.agg (D0 top b).toArray,.int .i64 n] w fun e w'=>e=.returned (.tuple #[.agg (D0 top b).toArray,.int .i64 1])∧Below w.heap.size w w':=by
 go_enter Tryz.func68,Tryz.ntmps68
 go_upto_region 1 with(fail)
 generalize hW:World.alloc (World.alloc w _) _=W;have B:=Lh (show Blk W w.heap.size (D0 top b) by rw[←hW];exact(Blk.new w (D0 top b) _).alloc _);have Z:=Lh (show Blk W (w.heap.size+1) Ab0 by rw[←hW,←I9 w (.cells (D0 top b).toArray 28)];exact Blk.new _ Ab0 _);have G:=Lh (show Below w.heap.size w W by rw[←hW];exact bta (ba w _) _);obtain⟨bw,hbw⟩:∃x,x=w.heap.size:=⟨_,rfl⟩;obtain⟨bz,hbz⟩:∃x,x=bw+1:=⟨_,rfl⟩;rw[←hbw] at B Z;rw[←hbz] at Z;simp only[←hbw,←hbz];have L1:=Lh (show w.heap.size≤bz by omega);clear hW hbw hbz;have H1:=Lh hn;by_cases h1:n<0
 ·clear hn;go_wp2_with (first | (refine Ab7 (.tmp 2) bw rfl rfl rfl B.out ?_) | (refine Ah4 (.tmp 4) (.tmp 18) bz rfl rfl rfl rfl Z.out (F8 _ _) ?_))
  refine bodyPost_ret (G6 rfl _ _ bz (cs:=D0 top b) rfl _ rfl (Z.out.row _) Tryz.underlying28 rfl (by rw[F8];exact S0)) rfl ?_;exact⟨rfl,F6 G.out L1.out _⟩
 ·have h2:4611686018427387904<n:=by omega
  clear hn;go_wp2_with (first | (refine Ab7 (.tmp 2) bw rfl rfl rfl B.out ?_) | (refine Ah4 (.tmp 4) (.tmp 18) bz rfl rfl rfl rfl Z.out (F8 _ _) ?_))
  refine bodyPost_ret (G6 rfl _ _ bz (cs:=D0 top b) rfl _ rfl (Z.out.row _) Tryz.underlying28 rfl (by rw[F8];exact S0)) rfl ?_;exact⟨rfl,F6 G.out L1.out _⟩
theorem Dc0(top:Int)(b:Nat→UInt64)(n:Int)(ht:0≤top∧top≤4611686018427387905)(hn:0≤n)(hn2:n≤4611686018427387904)(hf:¬Af3 top b n)(w:World):
 Calls Tryz.prog 68 #[.agg (D0 top b).toArray,.int .i64 n] w fun e w'=>e=.returned (.tuple #[.agg (D0 top b).toArray,.int .i64 6])∧Below w.heap.size w w':=by
 have HF:=Lh (fun W=>(show Calls Tryz.prog 32 #[.agg (D0 top b).toArray,.int .i64 n] W fun e w'=>e=.returned (.bool false)∧Below W.heap.size W w' from by
  have h:=Bv6 top b n ht ⟨by omega,by omega⟩ W;rw[decide_eq_false hf] at h;exact h))
 clear hf;go_enter Tryz.func68,Tryz.ntmps68
 go_upto_region 1 with(fail)
 generalize hW:World.alloc (World.alloc w _) _=W;have B:=Lh (show Blk W w.heap.size (D0 top b) by rw[←hW];exact(Blk.new w (D0 top b) _).alloc _);have Z:=Lh (show Blk W (w.heap.size+1) Ab0 by rw[←hW,←I9 w (.cells (D0 top b).toArray 28)];exact Blk.new _ Ab0 _);have G:=Lh (show Below w.heap.size w W by rw[←hW];exact bta (ba w _) _);obtain⟨bw,hbw⟩:∃x,x=w.heap.size:=⟨_,rfl⟩;obtain⟨bz,hbz⟩:∃x,x=bw+1:=⟨_,rfl⟩;rw[←hbw] at B Z;rw[←hbz] at Z;simp only[←hbw,←hbz];have L1:=Lh (show w.heap.size≤bz by omega);clear hW hbw hbz;have d1:¬n<0:=by omega
 have d2:¬4611686018427387904<n:=by omega
 clear ht hn hn2;go_wp2_with (refine Ab7 (.tmp 2) bw rfl rfl rfl B.out ?_)
 refine(HF.out _).mono ?_;rintro e w1 ⟨rfl,hb⟩;replace B:=Lh (B.out.up hb);replace Z:=Lh (Z.out.up hb);replace G:=Lh (bt G.out hb);clear hb HF;go_wp2_with (first | (refine Ab7 (.tmp 2) bw rfl rfl rfl B.out ?_) | (refine Ah4 (.tmp 4) (.tmp 24) bz rfl rfl rfl rfl Z.out (F8 _ _) ?_))
 refine bodyPost_ret (G6 rfl _ _ bz (cs:=D0 top b) rfl _ rfl (Z.out.row _) Tryz.underlying28 rfl (by rw[F8];exact S0)) rfl ?_;exact⟨rfl,F6 G.out L1.out _⟩
theorem Dx6(top n:Nat)(b:Nat→UInt64)(ht:top≤4611686018427387905)(hn:n≤4611686018427387904)(hf:Af3 top b n)(w:World):
 Calls Tryz.prog 68 #[.agg (D0 top b).toArray,.int .i64 n] w fun e w'=>e=.returned (.tuple #[.agg (D0 ((max top (n+1):Nat):Int) (Aa9 (max top (n+1)) (Y4 b (top-1024) (top-(top-1024))++[n]))).toArray,.int .i64 0])∧Below w.heap.size w w':=by
 have HF:=Lh (fun W=>(show Calls Tryz.prog 32 #[.agg (D0 top b).toArray,.int .i64 n] W fun e w'=>e=.returned (.bool true)∧Below W.heap.size W w' from by
  have h:=Bv6 top b n ⟨by omega,by omega⟩ ⟨by omega,by omega⟩ W;rw[decide_eq_true hf] at h;exact h))
 have HK:=Lh (fun W=>Cv2 top b ht W);have HTL:=Lh (Ci3 b (top-1024) (top-(top-1024)));have HTB:=Lh (show ∀m∈Y4 b (top-1024) (top-(top-1024)),m<top from fun m hm=>by have:=(Ax4.1 hm).1;omega);have HTK:=Lh (show top-(top-1024)≤1024 by omega);generalize Y4 b (top-1024) (top-(top-1024))=L at *;have HL9:=Lh (show L.length≤1024 from Nat.le_trans HTL.out HTK.out);clear hf HTL HTK;obtain⟨t,ht9⟩:∃t,t=max top (n+1):=⟨_,rfl⟩;rw[←ht9];have HT9:=Lh ht9;clear ht9;go_enter Tryz.func68,Tryz.ntmps68
 go_upto_region 1 with(fail)
 generalize hW:World.alloc (World.alloc w _) _=W;have B:=Lh (show Blk W w.heap.size (D0 top b) by rw[←hW];exact(Blk.new w (D0 top b) _).alloc _);have Z:=Lh (show Blk W (w.heap.size+1) Ab0 by rw[←hW,←I9 w (.cells (D0 top b).toArray 28)];exact Blk.new _ Ab0 _);have G:=Lh (show Below w.heap.size w W by rw[←hW];exact bta (ba w _) _);obtain⟨bw,hbw⟩:∃x,x=w.heap.size:=⟨_,rfl⟩;obtain⟨bz,hbz⟩:∃x,x=bw+1:=⟨_,rfl⟩;rw[←hbw] at B Z;rw[←hbz] at Z;simp only[←hbw,←hbz];have N:=Lh (show bz≠bw by omega);have L0:=Lh (show w.heap.size≤bw by omega);have L1:=Lh (show w.heap.size≤bz by omega);clear hW hbw hbz;have d1:¬(n:Int)<0:=by omega
 have d2:¬(4611686018427387904:Int)<(n:Int):=by omega
 go_wp2_with (refine Ab7 (.tmp 2) bw rfl rfl rfl B.out ?_)
 refine(HF.out _).mono ?_;rintro e w1 ⟨rfl,hb⟩;replace B:=Lh (B.out.up hb);replace Z:=Lh (Z.out.up hb);replace G:=Lh (bt G.out hb);clear hb HF;go_upto_region 6 with(fail)
 have g:w1.cell? ⟨bw,0,none⟩=some (.int .i64 top):=B.out.cell 0 (by rw[F8];omega);by_cases htn:top≤n
 ·have h1:(top:Int)≤(n:Int):=by omega
  go_upto_region 9 with(fail)
  rw[show(n:Int)+1=(t:Int) by have:=HT9.out;omega];clear h1;have HTN:=Lh (show n<t∧top≤t∧t≤4611686018427387905 by have:=HT9.out;omega);clear g htn d1 d2;go_upto_region 10 with(fail)
  generalize hw2:World.alloc w1 _=w2;have O:=Lh (show Blk w2 w1.heap.size (D0 t T6) by rw[←hw2];show Blk (w1.alloc (.cells (Bt7 t) 28)) _ _;rw[Aw6];exact Blk.new w1 _ _);have N2:=Lh (show w1.heap.size≠bw∧w1.heap.size≠bz from⟨fun e=>Nat.lt_irrefl _ (e▸B.out.lt),fun e=>Nat.lt_irrefl _ (e▸Z.out.lt)⟩);have L2:=Lh (show w.heap.size≤w1.heap.size from G.out.size);have B2:=Lh (show Blk w2 bw (D0 top b) by rw[←hw2];exact B.out.alloc _);have Z2:=Lh (show Blk w2 bz Ab0 by rw[←hw2];exact Z.out.alloc _);have G2:=Lh (show Below w.heap.size w w2 by rw[←hw2];exact bta G.out _);clear hw2 B Z G;generalize w1.heap.size=bo at *;go_wp2_with (refine Ab7 (.tmp 2) bw rfl rfl rfl B2.out ?_)
  refine(HK.out _).mono ?_;rintro e w3 ⟨a,cap,rfl,hB⟩;have H3:=Lh hB;clear hB HK;go_wp2_with (at_builtin;go_must (refine Y7 (.tmp 35) (.tmp 37) 141 rfl rfl Db8 rfl (H3.out.alloc _) (news:=[.int .i64 (n:Int)]) rfl (U7 w3 _ _) rfl (by intro u hu;rw[List.mem_singleton] at hu;subst hu;rfl) (by have:=HL9.out;omega) (by decide) (L.length+1) rfl (Cn7 (L++[n])) (by simp) ?_;intro a2 c2 w4 h4;have H4:=Lh h4;clear h4))
  obtain⟨g,cur,rfl,hg,hcur,hrow⟩:=H4.out.row (Nat.succ_pos _);have C:=Lh hcur;have NG:=Lh (show g≠bo from fun e=>Nat.lt_irrefl _ (Nat.lt_of_lt_of_le O.out.lt (e▸hg)));have O4:=Lh (H4.out.blk O.out);have Z4:=Lh (H4.out.blk Z2.out);have G4:=Lh (show Below w.heap.size w w4 from bt G2.out H4.out.bel);obtain⟨LL,hLL⟩:∃LL,LL=L++[n]:=⟨_,rfl⟩;obtain⟨M,hM⟩:∃M,M=L.length+1:=⟨_,rfl⟩;have HM:=Lh (show LL.length=M∧M≤1025 by rw[hLL,hM,List.length_append];have:=HL9.out;exact⟨rfl,by omega⟩);have HX:=Lh (show ∀j,j<M→∃x:Nat,j<cur.length∧cur.getD j undef=.int .i64 (x:Int)∧x<t∧Aa9 t (LL.take (j+1))=if t≤x+1024 then Ba8 (Aa9 t (LL.take j)) (x%1024) else Aa9 t (LL.take j) from fun j hj=>by
   have hjl:j<LL.length:=by rw[HM.out.1];exact hj
   obtain⟨h1,h2⟩:=hrow j (by rw[←hM];exact hj);refine⟨LL[j],h1,?_,?_,?_⟩
   ·rw[h2,←hLL];simp[List.getD,List.getElem?_eq_getElem hjl]
   ·have hm:LL[j]∈LL:=List.getElem_mem hjl;generalize LL[j]=x at *;rw[hLL,List.mem_append,List.mem_singleton] at hm;have:=HTN.out;rcases hm with hm | hm
    ·have:=HTB.out x hm;omega
    ·omega
   ·rw[List.take_succ_eq_append_getElem hjl,Bm8])
  have HLL:=Lh hLL;clear hrow hcur hg H3 H4 O Z2 G2 B2 HTB hLL;rw[←hM];clear hM
  go_loopw [10] (fun v10 wx=>∃j:Nat,j≤M∧v10=.int .i64 (j:Int)∧Blk wx bo (D0 t (Aa9 t (LL.take j)))∧Blk wx g cur∧Blk wx bz Ab0∧Below w.heap.size w wx) (fun v10 _=>M-(intOf v10).toNat)
  case atStart=>exact⟨0,Nat.zero_le _,rfl,O4.out,C.out,Z4.out,G4.out⟩
  case round=>
   clear C O4 Z4 G4;obtain⟨j,hj,rfl,hO,hC,hZ,hG⟩:=hrel;have O:=Lh hO;have C:=Lh hC;have Z:=Lh hZ;have G:=Lh hG;clear hO hC hZ hG;by_cases hlt:j<M
   ·obtain⟨x,hjc,hx,hxt,hfold⟩:=HX.out j hlt;have HFo:=Lh hfold;have gx:wr.cell? ⟨g,j,none⟩=some (.int .i64 x):=by rw[C.out.cell j hjc,hx]
    have k1:(j:Int)<(M:Int):=by omega
    have k0:(0:Int)≤(j:Int):=by omega
    have hp0:((x:Int).tmod 1024)=((x%1024:Nat):Int):=by rw[Int.tmod_eq_emod_of_nonneg (by omega)];omega
    have hp1:IntKind.i64.wrap ((x%1024:Nat):Int)=((x%1024:Nat):Int):=by rw[IntKind.wrap_i64];omega
    have hjM:=HM.out.2;have ht5:=HTN.out.2.2;have hpl:x%1024<1024:=Nat.mod_lt _ (by decide);clear hfold hx hjc;by_cases hin:t≤x+1024
    ·have HF2:=Lh (show Aa9 t (LL.take (j+1))=Ba8 (Aa9 t (LL.take j)) (x%1024) by rw[HFo.out,if_pos hin]);have h3:(t:Int)-1024≤(x:Int):=by omega
     clear HFo hin;generalize Aa9 t (LL.take j)=c at *;generalize x%1024=p at *;go_upto_region 16 with(fail)
     obtain⟨i,hi⟩:∃i,i=p/64:=⟨_,rfl⟩;obtain⟨k,hk⟩:∃k,k=p%64:=⟨_,rfl⟩;have hi16:i<16:=by omega
     have hk64:k<64:=by omega
     have c3:(p:Int).tdiv 64=(i:Int):=by rw[Int.tdiv_eq_ediv_of_nonneg (by omega),hi];omega
     have c4:IntKind.i64.wrap (i:Int)=(i:Int):=by rw[IntKind.wrap_i64];omega
     have c5:(p:Int).tmod 64=(k:Int):=by rw[Int.tmod_eq_emod_of_nonneg (by omega),hk];omega
     have c6:IntKind.i64.wrap (k:Int)=(k:Int):=by rw[IntKind.wrap_i64];omega
     have c7:=Ci4 (c i) (R7 k);have HP:=Lh (Bk3 k hk64);have HW:=Lh (show(D0 t c).set (1+i) (.int .u64 (qv (c i+R7 k)))=D0 t (Ba8 c p) by rw[hi,hk];exact Cn8 t c p (by omega));have i0:(0:Int)≤(i:Int):=by omega
     have i1:(i:Int)<16:=by omega
     have Od:=Lh (O.out.up (bd wr));have Cd:=Lh (C.out.up (bd wr));have Zd:=Lh (Z.out.up (bd wr));have Gd:=Lh (bt G.out (bd wr));have gw:=Od.out.cell (1+i) (by rw[F8];omega);rw[Bl3 t c i hi16] at gw;have zf:=Od.out.frozen;have hbl:=Od.out.lt;refine wp_region_still_tail 13 (by kernel_rfl) (by kernel_rfl) ?_;simp only[List.take_succ_cons,List.take_zero,List.drop_succ_cons,List.drop_zero];change wpStill _ _ wr.drew (fun a'=>wpList _ _ _ _ a' wr.drew) _ _;clear gx O C Z G hi hk hpl hp0 hp1 h3;generalize wr.drew=wd at *;generalize qv (c i+R7 k)=y2 at *;generalize qv (c i)=y0 at *;generalize qv (R7 k)=y1 at *;repeat still_step
     still_call ((HP.out _).mono (fun e w' h=>⟨h.1,h.2.symm⟩))
     repeat still_step
     refine wpStill_nil ?_;go_wp2_with fail
     refine⟨⟨j+1,hlt,by go_num,by rw[HF2.out,←HW.out];exact Od.out.set (1+i) _,Cd.out.other ⟨bo,1+i,none⟩ NG.out _,Zd.out.other ⟨bo,1+i,none⟩ (fun e=>N2.out.2 e.symm) _,Gd.out.setCell L2.out _⟩,?_⟩;simp[intOf];omega
    ·have HF2:=Lh (show Aa9 t (LL.take (j+1))=Aa9 t (LL.take j) by rw[HFo.out,if_neg hin]);have h3:¬(t:Int)-1024≤(x:Int):=by omega
     clear HFo hin;go_wp2_with fail
     refine⟨⟨j+1,hlt,by go_num,by rw[HF2.out];exact O.out,C.out,Z.out,G.out⟩,?_⟩;simp[intOf];omega
   ·have hjM:j=M:=by omega
    have k1:¬(j:Int)<(M:Int):=by omega
    have OM:=Lh (show Blk wr bo (D0 t (Aa9 t LL)) by have h:=O.out;rw[hjM,←HM.out.1,List.take_length] at h;exact h);clear O hjM;go_wp2_with (first | (refine Ab7 (.tmp 8) bo rfl rfl rfl OM.out ?_) | (refine Ah4 (.tmp 4) (.tmp 70) bz rfl rfl rfl rfl Z.out (F8 _ _) ?_))
    refine bodyPost_ret (G6 rfl _ _ bz (cs:=D0 t (Aa9 t LL)) rfl _ rfl (Z.out.row _) Tryz.underlying28 rfl (by rw[F8];exact S0)) rfl ?_;exact⟨by rw[HLL.out];rfl,F6 G.out L1.out _⟩
 ·have h1:¬(top:Int)≤(n:Int):=by omega
  go_upto_region 9 with(fail)
  have hte:(top:Int)=(t:Int):=by have:=HT9.out;omega
  rw[hte];clear h1 hte;have HTN:=Lh (show n<t∧top≤t∧t≤4611686018427387905 by have:=HT9.out;omega);clear g htn d1 d2;go_upto_region 10 with(fail)
  generalize hw2:World.alloc w1 _=w2;have O:=Lh (show Blk w2 w1.heap.size (D0 t T6) by rw[←hw2];show Blk (w1.alloc (.cells (Bt7 t) 28)) _ _;rw[Aw6];exact Blk.new w1 _ _);have N2:=Lh (show w1.heap.size≠bw∧w1.heap.size≠bz from⟨fun e=>Nat.lt_irrefl _ (e▸B.out.lt),fun e=>Nat.lt_irrefl _ (e▸Z.out.lt)⟩);have L2:=Lh (show w.heap.size≤w1.heap.size from G.out.size);have B2:=Lh (show Blk w2 bw (D0 top b) by rw[←hw2];exact B.out.alloc _);have Z2:=Lh (show Blk w2 bz Ab0 by rw[←hw2];exact Z.out.alloc _);have G2:=Lh (show Below w.heap.size w w2 by rw[←hw2];exact bta G.out _);clear hw2 B Z G;generalize w1.heap.size=bo at *;go_wp2_with (refine Ab7 (.tmp 2) bw rfl rfl rfl B2.out ?_)
  refine(HK.out _).mono ?_;rintro e w3 ⟨a,cap,rfl,hB⟩;have H3:=Lh hB;clear hB HK;go_wp2_with (at_builtin;go_must (refine Y7 (.tmp 35) (.tmp 37) 141 rfl rfl Db8 rfl (H3.out.alloc _) (news:=[.int .i64 (n:Int)]) rfl (U7 w3 _ _) rfl (by intro u hu;rw[List.mem_singleton] at hu;subst hu;rfl) (by have:=HL9.out;omega) (by decide) (L.length+1) rfl (Cn7 (L++[n])) (by simp) ?_;intro a2 c2 w4 h4;have H4:=Lh h4;clear h4))
  obtain⟨g,cur,rfl,hg,hcur,hrow⟩:=H4.out.row (Nat.succ_pos _);have C:=Lh hcur;have NG:=Lh (show g≠bo from fun e=>Nat.lt_irrefl _ (Nat.lt_of_lt_of_le O.out.lt (e▸hg)));have O4:=Lh (H4.out.blk O.out);have Z4:=Lh (H4.out.blk Z2.out);have G4:=Lh (show Below w.heap.size w w4 from bt G2.out H4.out.bel);obtain⟨LL,hLL⟩:∃LL,LL=L++[n]:=⟨_,rfl⟩;obtain⟨M,hM⟩:∃M,M=L.length+1:=⟨_,rfl⟩;have HM:=Lh (show LL.length=M∧M≤1025 by rw[hLL,hM,List.length_append];have:=HL9.out;exact⟨rfl,by omega⟩);have HX:=Lh (show ∀j,j<M→∃x:Nat,j<cur.length∧cur.getD j undef=.int .i64 (x:Int)∧x<t∧Aa9 t (LL.take (j+1))=if t≤x+1024 then Ba8 (Aa9 t (LL.take j)) (x%1024) else Aa9 t (LL.take j) from fun j hj=>by
   have hjl:j<LL.length:=by rw[HM.out.1];exact hj
   obtain⟨h1,h2⟩:=hrow j (by rw[←hM];exact hj);refine⟨LL[j],h1,?_,?_,?_⟩
   ·rw[h2,←hLL];simp[List.getD,List.getElem?_eq_getElem hjl]
   ·have hm:LL[j]∈LL:=List.getElem_mem hjl;generalize LL[j]=x at *;rw[hLL,List.mem_append,List.mem_singleton] at hm;have:=HTN.out;rcases hm with hm | hm
    ·have:=HTB.out x hm;omega
    ·omega
   ·rw[List.take_succ_eq_append_getElem hjl,Bm8])
  have HLL:=Lh hLL;clear hrow hcur hg H3 H4 O Z2 G2 B2 HTB hLL;rw[←hM];clear hM
  go_loopw [10] (fun v10 wx=>∃j:Nat,j≤M∧v10=.int .i64 (j:Int)∧Blk wx bo (D0 t (Aa9 t (LL.take j)))∧Blk wx g cur∧Blk wx bz Ab0∧Below w.heap.size w wx) (fun v10 _=>M-(intOf v10).toNat)
  case atStart=>exact⟨0,Nat.zero_le _,rfl,O4.out,C.out,Z4.out,G4.out⟩
  case round=>
   clear C O4 Z4 G4;obtain⟨j,hj,rfl,hO,hC,hZ,hG⟩:=hrel;have O:=Lh hO;have C:=Lh hC;have Z:=Lh hZ;have G:=Lh hG;clear hO hC hZ hG;by_cases hlt:j<M
   ·obtain⟨x,hjc,hx,hxt,hfold⟩:=HX.out j hlt;have HFo:=Lh hfold;have gx:wr.cell? ⟨g,j,none⟩=some (.int .i64 x):=by rw[C.out.cell j hjc,hx]
    have k1:(j:Int)<(M:Int):=by omega
    have k0:(0:Int)≤(j:Int):=by omega
    have hp0:((x:Int).tmod 1024)=((x%1024:Nat):Int):=by rw[Int.tmod_eq_emod_of_nonneg (by omega)];omega
    have hp1:IntKind.i64.wrap ((x%1024:Nat):Int)=((x%1024:Nat):Int):=by rw[IntKind.wrap_i64];omega
    have hjM:=HM.out.2;have ht5:=HTN.out.2.2;have hpl:x%1024<1024:=Nat.mod_lt _ (by decide);clear hfold hx hjc;by_cases hin:t≤x+1024
    ·have HF2:=Lh (show Aa9 t (LL.take (j+1))=Ba8 (Aa9 t (LL.take j)) (x%1024) by rw[HFo.out,if_pos hin]);have h3:(t:Int)-1024≤(x:Int):=by omega
     clear HFo hin;generalize Aa9 t (LL.take j)=c at *;generalize x%1024=p at *;go_upto_region 16 with(fail)
     obtain⟨i,hi⟩:∃i,i=p/64:=⟨_,rfl⟩;obtain⟨k,hk⟩:∃k,k=p%64:=⟨_,rfl⟩;have hi16:i<16:=by omega
     have hk64:k<64:=by omega
     have c3:(p:Int).tdiv 64=(i:Int):=by rw[Int.tdiv_eq_ediv_of_nonneg (by omega),hi];omega
     have c4:IntKind.i64.wrap (i:Int)=(i:Int):=by rw[IntKind.wrap_i64];omega
     have c5:(p:Int).tmod 64=(k:Int):=by rw[Int.tmod_eq_emod_of_nonneg (by omega),hk];omega
     have c6:IntKind.i64.wrap (k:Int)=(k:Int):=by rw[IntKind.wrap_i64];omega
     have c7:=Ci4 (c i) (R7 k);have HP:=Lh (Bk3 k hk64);have HW:=Lh (show(D0 t c).set (1+i) (.int .u64 (qv (c i+R7 k)))=D0 t (Ba8 c p) by rw[hi,hk];exact Cn8 t c p (by omega));have i0:(0:Int)≤(i:Int):=by omega
     have i1:(i:Int)<16:=by omega
     have Od:=Lh (O.out.up (bd wr));have Cd:=Lh (C.out.up (bd wr));have Zd:=Lh (Z.out.up (bd wr));have Gd:=Lh (bt G.out (bd wr));have gw:=Od.out.cell (1+i) (by rw[F8];omega);rw[Bl3 t c i hi16] at gw;have zf:=Od.out.frozen;have hbl:=Od.out.lt;refine wp_region_still_tail 13 (by kernel_rfl) (by kernel_rfl) ?_;simp only[List.take_succ_cons,List.take_zero,List.drop_succ_cons,List.drop_zero];change wpStill _ _ wr.drew (fun a'=>wpList _ _ _ _ a' wr.drew) _ _;clear gx O C Z G hi hk hpl hp0 hp1 h3;generalize wr.drew=wd at *;generalize qv (c i+R7 k)=y2 at *;generalize qv (c i)=y0 at *;generalize qv (R7 k)=y1 at *;repeat still_step
     still_call ((HP.out _).mono (fun e w' h=>⟨h.1,h.2.symm⟩))
     repeat still_step
     refine wpStill_nil ?_;go_wp2_with fail
     refine⟨⟨j+1,hlt,by go_num,by rw[HF2.out,←HW.out];exact Od.out.set (1+i) _,Cd.out.other ⟨bo,1+i,none⟩ NG.out _,Zd.out.other ⟨bo,1+i,none⟩ (fun e=>N2.out.2 e.symm) _,Gd.out.setCell L2.out _⟩,?_⟩;simp[intOf];omega
    ·have HF2:=Lh (show Aa9 t (LL.take (j+1))=Aa9 t (LL.take j) by rw[HFo.out,if_neg hin]);have h3:¬(t:Int)-1024≤(x:Int):=by omega
     clear HFo hin;go_wp2_with fail
     refine⟨⟨j+1,hlt,by go_num,by rw[HF2.out];exact O.out,C.out,Z.out,G.out⟩,?_⟩;simp[intOf];omega
   ·have hjM:j=M:=by omega
    have k1:¬(j:Int)<(M:Int):=by omega
    have OM:=Lh (show Blk wr bo (D0 t (Aa9 t LL)) by have h:=O.out;rw[hjM,←HM.out.1,List.take_length] at h;exact h);clear O hjM;go_wp2_with (first | (refine Ab7 (.tmp 8) bo rfl rfl rfl OM.out ?_) | (refine Ah4 (.tmp 4) (.tmp 70) bz rfl rfl rfl rfl Z.out (F8 _ _) ?_))
    refine bodyPost_ret (G6 rfl _ _ bz (cs:=D0 t (Aa9 t LL)) rfl _ rfl (Z.out.row _) Tryz.underlying28 rfl (by rw[F8];exact S0)) rfl ?_;exact⟨by rw[HLL.out];rfl,F6 G.out L1.out _⟩
theorem Dc1(t:Int)(c d:Nat→UInt64)(h:∀i,i<16→c i=d i):D0 t c=D0 t d:=by
 unfold D0
 congr 1
 apply List.map_congr_left;intro i hi;rw[h i (List.mem_range.1 hi)]
end Go.Proofs.YtadpiemjgfndgaaGreatDoor
