/- Proved here, for use further on: PrB PrC PrD PrE PrG PrH PrI PrJ PrK PrN App Apr Req RingE RingF RingG. Conditions: none but those each theorem names. -/
import Derived.Test.YtadpiemjgfndgaaGreatDoorKb00
import Derived.RangeFuncNested
import Derived.RangeFuncBound
import Derived.RangeFuncCalls
import Derived.RangeFuncLeaves
import Derived.RangeFuncFrom
import Derived.Shelf.Abstract
import Derived.Shelf.RegionOpen
import Derived.WalkKit
import Derived.OwnWalkIn
import Derived.TacticsInMore
import Derived.LoopNIn
import Derived.LoopIn
import Derived.Test.YtadpiemjgfndgaaGreatDoorKb10
import Derived.ArgAppend
import Derived.Deep.DeepCutAuto
import Derived.Test.YtadpiemjgfndgaaGreatDoorKb08
import Derived.Lib.SliceRun
import Derived.BigQuiet
import Derived.Test.YtadpiemjgfndgaaGreatDoorKb06
import Derived.Test.YtadpiemjgfndgaaGreatDoorKb11
import Derived.Test.YtadpiemjgfndgaaGreatDoorKb01
import Derived.Deep.RegionWith
import Derived.Deep.Cut
set_option linter.unusedSimpArgs false
set_option linter.unusedVariables false
set_option maxRecDepth 100000
set_option maxHeartbeats 8000000
namespace Go.Proofs.YtadpiemjgfndgaaGreatDoor
open Go.RowKit Go.Shelf
attribute [local go_sem] Oper.semAt_some
theorem Bo2(W:World)(v:Value)(t:TypeId):(W.alloc (.cells #[v] t)).cell? ⟨W.heap.size,0,none⟩=some v∧(W.alloc (.cells #[v] t)).frozen? ⟨W.heap.size,0,none⟩=false:=
 ⟨(Blk.new W [v] t).cell 0 (by simp),(Blk.new W [v] t).frozen 0⟩
theorem Az1{W:World}{a:Addr}{v:Value}(o:Obj)(h:W.cell? a=some v):(W.alloc o).cell? a=some v:=cell_kept h (World.grownBy_alloc W o none) (fun r e=>by cases e)
theorem Bl8{W:World}{a:Addr}{v:Value}(o:Obj)(h:W.cell? a=some v)(hf:W.frozen? a=false):(W.alloc o).frozen? a=false:=(frozen_kept h (World.grownBy_alloc W o none) (fun r e=>by cases e)).trans hf
def upM(M:Nat→Bool)(k:Nat):List Nat:=(List.range k).filter M
theorem Ex2{M:Nat→Bool}{k:Nat}(h:M k=true):upM M (k+1)=upM M k++[k]:=by simp[upM,List.range_succ,h]
theorem Fe9{M:Nat→Bool}{k:Nat}(h:M k=false):upM M (k+1)=upM M k:=by simp[upM,List.range_succ,h]
theorem Ff0(M:Nat→Bool)(k:Nat):(upM M k).length≤k:=by
 have:=List.length_filter_le M (List.range k)
 simpa [upM] using this
theorem Dz9(a:Option Addr)(len cap:Nat)(fn:Fn)(x y:Array Value)(w:World):
 Calls Tryz.prog 202 #[.slice a len cap,.func fn x y] w fun e w'=>e=.returned (.func (.func 206) #[] #[.pointer (some ⟨w.heap.size,0,none⟩),.pointer (some ⟨w.heap.size+1,0,none⟩)])∧w'=(w.alloc (.cells #[.slice a len cap] 47)).alloc (.cells #[.func fn x y] 234):=by
 have hmf:∀(fn:Fn) (first cap:Array Value) (w:World),(Instr.makeFunc fn first cap).run Tryz.prog w=.ok (.func fn first cap) w:=fun _ _ _ _=>rfl;go_enter Tryz.func202,Tryz.ntmps202
 go_wp2_with fail
 go_ret;exact⟨rfl,rfl⟩
theorem Ea0(l B1 B2 n₀ b off len cap:Nat)(pv:Value)(M:Nat→Bool)(V0 V1:Nat→Value)(hreach:len≤1099511627776)(hb:b<n₀)(hB2:B2<n₀)(J Jx:List Nat→World→Prop)(W:World)(hn0:n₀≤W.heap.size)
 (hJ:AbidesFrom W.heap.size J)
 (hY:∀(pre:List Nat) (x:Nat) W,J pre W→pre.length<len→YieldAt Fence.wide (3-1) Tryz.prog l #[.int .i64 (x:Int)] W fun e W'=>
   (e=.returned (.bool true)∧J (pre++[x]) W'∧Below n₀ W W')∨(e=.returned (.bool false)∧Jx (pre++[x]) W'))
 (hB1c:W.cell? ⟨B1,0,none⟩=some (.slice (some ⟨b,off,none⟩) len cap)) (hB2c:W.cell? ⟨B2,0,none⟩=some (.func (.func 201) #[pv] #[]))
 (hc:∀j,j<len→W.cell? ⟨b,off+j*2,none⟩=some (V0 j)∧W.cell? ⟨b,off+j*2+1,none⟩=some (V1 j))
 (hv:∀j,j<len→∃p0 n0 c0 p1 n1 c1,V0 j=.slice p0 n0 c0∧V1 j=.slice p1 n1 c1)
 (hI:∀W' j,j<len→Below n₀ W W'→Calls Tryz.prog 201 #[pv,.agg #[V0 j,V1 j]] W' (F9 W' (M j))) (h0:J [] W):
 CallsIn Fence.wide 3 Tryz.prog 206 #[.func (.yield l) #[] #[],.pointer (some ⟨B1,0,none⟩),.pointer (some ⟨B2,0,none⟩)] W fun e W'=>(∃v,e=.returned v)∧
  ((∃ys,ys=upM M len∧J ys W')∨(∃pre,(∃k,k<len∧M k=true)∧Jx pre W')):=by
 refine callsIn_of_wp Tryz.func206 rfl trivial ?_ rfl;simp only[Tryz.ntmps206,List.size_toArray,List.length_cons,List.length_nil,Nat.reduceAdd,Nat.reduceSub,Array.replicate_succ,Array.replicate_zero,List.push_toArray,List.append_toArray,List.nil_append,List.cons_append]
 gi_wp2
 gi_loopw [8] (fun i wr=>∃k:Nat,k≤len∧i=.int .i64 k∧J (upM M k) wr∧Below n₀ W wr)
  (fun i _=>len-(intOf i).toNat)
 case atStart=>exact⟨0,Nat.zero_le _,rfl,h0,Below.refl _ _⟩
 case round=>
  obtain⟨k,hk,rfl,hJs,hnx⟩:=hrel;by_cases hlt:k<len
  ·obtain⟨hc0,hc1⟩:=hc k hlt;have hx0:=(hnx.cell (p:=⟨b,off+k*2,none⟩) hb).trans hc0;have hx1:=(hnx.cell (p:=⟨b,off+k*2+1,none⟩) hb).trans hc1;have hx2:=(hnx.cell (p:=⟨B2,0,none⟩) hB2).trans hB2c;obtain⟨p0,n0,c0,p1,n1,c1,e0,e1⟩:=hv k hlt;have hsz:n₀≤wr.heap.size:=Nat.le_trans hn0 hnx.size;have hbA:=ba wr (.cells #[V0 k,V1 k] 153);have hIk:=hI (wr.alloc (.cells #[V0 k,V1 k] 153)) k hlt (hnx.trans (hbA.mono hsz));have hx3:=(hbA.cell (p:=⟨B2,0,none⟩) (Nat.lt_of_lt_of_le hB2 hsz)).trans hx2;rw[e0,e1] at hIk hbA hx3;rw[e0] at hx0;rw[e1] at hx1;have HbA:=Lh hbA;clear hc0 hc1 e0 e1 hbA;rcases hM:M k with _ | _
   ·rw[hM] at hIk;have HI:=Lh hIk;clear hIk
    gi_wp2_with (refine⟨trivial,?_⟩;gi_at_call 201;refine(callsIn_wide.2 HI.out).mono ?_;rintro e w2 ⟨rfl,hb2⟩)
    have hbw:=bt HbA.out hb2;have hJ2:J (upM M k) w2:=hJ _ wr w2 none hJs ⟨hbw.os,hbw.tape,hbw.output,hbw.size,fun k hk _=>hbw.block k hk⟩ (fun r e=>by cases e);refine⟨fun _ h=>(by cases h),?_⟩
    gi_wp2
    go_roundw
    case rel=>exact⟨k+1,by omega,by simp,by rw[Fe9 hM];exact hJ2,hnx.trans (hbw.mono hsz)⟩
    case measure=>simp[intOf];omega
   ·rw[hM] at hIk;have HI:=Lh hIk;clear hIk
    gi_wp2_with (refine⟨trivial,?_⟩;gi_at_call 201;refine(callsIn_wide.2 HI.out).mono ?_;rintro e w2 ⟨rfl,hb2⟩;have hbw:=bt HbA.out hb2;have hJ2:J (upM M k) w2:=hJ _ wr w2 none hJs ⟨hbw.os,hbw.tape,hbw.output,hbw.size,fun k hk _=>hbw.block k hk⟩ (fun r e=>by cases e);obtain⟨fn,tmps,assign,body,hy,hR⟩:=hY _ k w2 hJ2 (Nat.lt_of_le_of_lt (Ff0 M k) hlt))
    refine hR.mono ?_;rintro e W3 (⟨rfl,hJ3,hk3⟩ | ⟨rfl,hJx3⟩)
    ·gi_wp2
     go_roundw
     case rel=>exact⟨k+1,by omega,by simp,by rw[Ex2 hM];exact hJ3,(hnx.trans (hbw.mono hsz)).trans hk3⟩
     case measure=>simp[intOf];omega
    ·gi_wp2
     refine bodyPost_ret (results_none rfl _ _ _) rfl ?_;exact⟨⟨_,rfl⟩,.inr ⟨_,⟨k,hlt,hM⟩,hJx3⟩⟩
  ·obtain rfl:k=len:=by omega
   gi_wp2
   go_end0
   exact⟨⟨_,rfl⟩,.inl ⟨_,rfl,hJs⟩⟩
theorem Cl3(l B1 B2 cap:Nat)(a:Option Addr)(J:List Nat→World→Prop)(W:World)(hB1c:W.cell? ⟨B1,0,none⟩=some (.slice a 0 cap))(h0:J [] W):
 CallsIn Fence.wide 3 Tryz.prog 206 #[.func (.yield l) #[] #[],.pointer (some ⟨B1,0,none⟩),.pointer (some ⟨B2,0,none⟩)] W fun e W'=>(∃v,e=.returned v)∧J [] W':=by
 refine callsIn_of_wp Tryz.func206 rfl trivial ?_ rfl;simp only[Tryz.ntmps206,List.size_toArray,List.length_cons,List.length_nil,Nat.reduceAdd,Nat.reduceSub,Array.replicate_succ,Array.replicate_zero,List.push_toArray,List.append_toArray,List.nil_append,List.cons_append]
 gi_wp2
 gi_loopw [8] (fun i wr=>i=.int .i64 0∧J [] wr) (fun _ _=>0)
 case atStart=>exact⟨rfl,h0⟩
 case round=>
  obtain⟨rfl,hJs⟩:=hrel
  gi_wp2
  go_end0
  exact⟨⟨_,rfl⟩,hJs⟩
def Bu1(n₀:Nat)(w:World)(sv:Value)(pv:Value)(len:Nat)(M:Nat→Bool):Prop:=
 (∃a cap,sv=.slice a 0 cap∧len=0)∨∃(b off cap:Nat) (V0 V1:Nat→Value),sv=.slice (some ⟨b,off,none⟩) len cap∧b<n₀∧
   (∀j,j<len→w.cell? ⟨b,off+j*2,none⟩=some (V0 j)∧w.cell? ⟨b,off+j*2+1,none⟩=some (V1 j))∧
   (∀j,j<len→∃p0 n0 c0 p1 n1 c1,V0 j=.slice p0 n0 c0∧V1 j=.slice p1 n1 c1)∧
   (∀W' j,j<len→Below n₀ w W'→Calls Tryz.prog 201 #[pv,.agg #[V0 j,V1 j]] W' (F9 W' (M j)))
theorem Cw5(B1 B2 n₀ len:Nat)(sv pv:Value)(M:Nat→Bool)(hreach:len≤1099511627776)(w:World)(hn0:n₀≤w.heap.size)(hB1:B1<w.heap.size)(hB2:B2<n₀)
 (hB1c:w.cell? ⟨B1,0,none⟩=some sv) (hB2c:w.cell? ⟨B2,0,none⟩=some (.func (.func 201) #[pv] #[])) (hE:Bu1 n₀ w sv pv len M):
 SeqStopsK Fence.wide 3 Tryz.prog 206 #[.pointer (some ⟨B1,0,none⟩),.pointer (some ⟨B2,0,none⟩)] (fun x:Nat=>#[Value.int .i64 (x:Int)]) (Below n₀) (fun ys=>ys=upM M len) (fun _=>∃k,k<len∧M k=true) len w:=fun l J Jx W hW hJ hJx hY h0=>by
 have c1:=(hW.cell (p:=⟨B1,0,none⟩) hB1).trans hB1c;have c2:=(hW.cell (p:=⟨B2,0,none⟩) (Nat.lt_of_lt_of_le hB2 hn0)).trans hB2c;rcases hE with⟨a,cap,rfl,rfl⟩ | ⟨b,off,cap,V0,V1,rfl,hb,h1,h2,h3⟩
 ·exact(Cl3 l B1 B2 cap a J W c1 h0).mono fun e W' ⟨he,hj⟩=>⟨he,.inl ⟨_,rfl,hj⟩⟩
 ·exact Ea0 l B1 B2 n₀ b off len cap pv M V0 V1 hreach hb hB2 J Jx W (Nat.le_trans hn0 hW.size) hJ hY c1 c2 (fun j hj=>⟨(hW.cell (p:=⟨b,off+j*2,none⟩) (Nat.lt_of_lt_of_le hb hn0)).trans (h1 j hj).1,(hW.cell (p:=⟨b,off+j*2+1,none⟩) (Nat.lt_of_lt_of_le hb hn0)).trans (h1 j hj).2⟩) h2 (fun W' j hj h=>h3 W' j hj ((hW.mono hn0).trans h)) h0
theorem Bu1.up{w W:World}{n₀:Nat}{sv pv:Value}{len:Nat}{M:Nat→Bool}(h:Bu1 w.heap.size w sv pv len M)(hb:Below w.heap.size w W)(hn:w.heap.size≤n₀):Bu1 n₀ W sv pv len M:=by
 rcases h with⟨a,cap,h1,h2⟩ | ⟨b,off,cap,V0,V1,h1,h2,h3,h4,h5⟩
 ·exact .inl ⟨a,cap,h1,h2⟩
 ·exact .inr ⟨b,off,cap,V0,V1,h1,Nat.lt_of_lt_of_le h2 hn,fun j hj=>⟨(hb.cell (p:=⟨b,off+j*2,none⟩) h2).trans (h3 j hj).1,(hb.cell (p:=⟨b,off+j*2+1,none⟩) h2).trans (h3 j hj).2⟩,h4,fun W' j hj hW=>h5 W' j hj (hb.trans (hW.mono hn))⟩
theorem Ex3{M:Nat→Bool}{len:Nat}(h:upM M len=[]):∀k,k<len→M k=false:=fun k hk=>by
 rcases hM:M k with _ | _
 ·rfl
 ·have:k∈upM M len:=List.mem_filter.2 ⟨List.mem_range.2 hk,hM⟩;rw[h] at this;cases this
theorem Cf9(es:List Ent)(k b:List UInt8):An6 es k b=true↔∃i,i<es.length∧isF k b (es.getD i ([],[]))=true:=by
 unfold An6;rw[List.any_eq_true];constructor
 ·rintro⟨e,he,h⟩;obtain⟨i,hi,rfl⟩:=List.mem_iff_getElem.1 he;exact⟨i,hi,by simpa [List.getD,hi] using h⟩
 ·rintro⟨i,hi,h⟩;exact⟨es[i],List.getElem_mem hi,by simpa [List.getD,hi] using h⟩
theorem En4(ideal forged:Bool)(sv:Value)(ka ba:Option Addr)(kn kc bn bc len:Nat)(M:Nat→Bool)(w:World)(hreach:len≤1099511627776)
 (hE:Bu1 w.heap.size w sv (.agg #[.slice ka kn kc,.slice ba bn bc]) len M):
 CallsIn Fence.wide 4 Tryz.prog 175 #[.agg #[.bool ideal,sv,.bool forged],.slice ka kn kc,.slice ba bn bc] w fun e W'=>e=.returned (.bool (decide (∃k,k<len∧M k=true)))∧Below w.heap.size w W':=by
 obtain⟨sa,sn,sc,hsv⟩:∃sa sn sc,sv=.slice sa sn sc:=by
  rcases hE with⟨a,cap,h,-⟩ | ⟨b,off,cap,V0,V1,h,-⟩
  ·exact⟨_,_,_,h⟩
  ·exact⟨_,_,_,h⟩
 subst hsv;have HE:=Lh hE;clear hE;have hmf:∀(fn:Fn) (first cap:Array Value) (w:World),(Instr.makeFunc fn first cap).run Tryz.prog w=.ok (.func fn first cap) w:=fun _ _ _ _=>rfl;refine callsIn_of_wp_marks Tryz.func175 rfl trivial ?_ rfl;simp only[Tryz.ntmps175,List.size_toArray,List.length_cons,List.length_nil,Nat.reduceAdd,Nat.reduceSub,Array.replicate_succ,Array.replicate_zero,List.push_toArray,List.append_toArray,List.nil_append,List.cons_append]
 gi_wp2_with (refine⟨trivial,?_⟩;gi_at_call 202;refine(callsIn_wide.2 (Dz9 _ _ _ _ _ _ _)).mono ?_;rintro e w' ⟨rfl,rfl⟩)
 have hB0:Below w.heap.size w ((((w.alloc (.cells #[.bool ideal,.slice sa sn sc,.bool forged] 49)).alloc (.cells #[.bool false] 4)).alloc (.cells #[.slice sa sn sc] 47)).alloc (.cells #[.func (.func 201) #[.agg #[.slice ka kn kc,.slice ba bn bc]] #[]] 234)):=(((((Below.refl _ w).alloc (Nat.le_refl _) _).alloc (by simp) _).alloc (by simp;omega) _).alloc (by simp;omega) _);have c1:=Bo2 (w.alloc (.cells #[.bool ideal,.slice sa sn sc,.bool forged] 49)) (.bool false) 4;have c2:=Bo2 ((w.alloc (.cells #[.bool ideal,.slice sa sn sc,.bool forged] 49)).alloc (.cells #[.bool false] 4)) (.slice sa sn sc) 47;have c3:=Bo2 (((w.alloc (.cells #[.bool ideal,.slice sa sn sc,.bool forged] 49)).alloc (.cells #[.bool false] 4)).alloc (.cells #[.slice sa sn sc] 47)) (.func (.func 201) #[.agg #[.slice ka kn kc,.slice ba bn bc]] #[]) 234;simp only[World.size_alloc] at c1 c2 c3;refine wpIn_rangeFunc_ownF (F:=Fence.wide) rfl (by decide:1≤4) (gf:=206) (lb:=#[.pointer (some ⟨w.heap.size+1+1,0,none⟩),.pointer (some ⟨w.heap.size+1+1+1,0,none⟩)]) rfl trivial (enters_of Tryz.func206 (by kernel_rfl) rfl)
  (Cw5 (w.heap.size+1+1) (w.heap.size+1+1+1) (w.heap.size+1+1+1+1) len _ _ M hreach _ (by simp) (by first | (simp;done) | (simp;omega)) (by omega) (Az1 _ c2.1) c3.1 (HE.out.up hB0 (by omega))) belowK_t (belowK_b (by simp)) (Below.refl _ _) (fun _=>rfl)
  (fun pre W=>(pre=[]∧W.cell? ⟨w.heap.size+1,0,none⟩=some (.bool false)∧W.frozen? ⟨w.heap.size+1,0,none⟩=false)∧Below w.heap.size w W)
  (fun c pre W=>(c=.ret∧W.cell? ⟨w.heap.size+1,0,none⟩=some (.bool true))∧Below w.heap.size w W)
  (OwnFrom.and (Own.from (fun s A B row hs hg hr=>⟨hs.1,cell_kept hs.2.1 hg hr,(frozen_kept hs.2.1 hg hr).trans hs.2.2⟩) _) (ownFrom_below (Nat.le_refl _) (by simp;omega)))
  (fun c=>OwnFrom.and (Own.from (fun s A B row hs hg hr=>⟨hs.1,cell_kept hs.2 hg hr⟩) _) (ownFrom_below (Nat.le_refl _) (by simp;omega)))
  ⟨⟨rfl,Az1 _ (Az1 _ c1.1),Bl8 _ (Az1 _ c1.1) (Bl8 _ c1.1 c1.2)⟩,hB0⟩
  (fun x=>{tmps:=#[.agg #[.bool ideal,.slice sa sn sc,.bool forged],.slice ka kn kc,.slice ba bn bc,.pointer (some ⟨w.heap.size,0,none⟩),undef,undef,.pointer (some ⟨w.heap.size+1,0,none⟩),.func (.func 201) #[.agg #[.slice ka kn kc,.slice ba bn bc]] #[],.slice ka kn kc,.slice ba bn bc,.agg #[.slice ka kn kc,.slice ba bn bc],.func (.func 201) #[.agg #[.slice ka kn kc,.slice ba bn bc]] #[],.pointer (some ⟨w.heap.size,1,none⟩),.slice sa sn sc,.func (.func 201) #[.agg #[.slice ka kn kc,.slice ba bn bc]] #[],.func (.func 206) #[] #[.pointer (some ⟨w.heap.size+1+1,0,none⟩),.pointer (some ⟨w.heap.size+1+1+1,0,none⟩)],.int .i64 x],defers:=[]}) ?assign ?body ?done ?stop
 case assign=>
  intro l x W K hK
  gi_wp2
  first | exact hK | (simp;exact hK) | simpa using hK
 case body=>
  rintro l pre x W ⟨⟨hp,hcr,hfr⟩,hB⟩ _
  gi_wp2
  exact⟨KeepsOthers.setCell _ _ _,⟨rfl,World.cell?_setCell_same' _ _ _ (by rw[hcr];rfl)⟩,hB.setCell (p:=⟨w.heap.size+1,0,none⟩) (by simp) _⟩
 case done=>
  rintro D ys W hD rfl ⟨⟨hne,hcr,hfr⟩,hB⟩ hK
  gi_wp2
  have hK':=(KeepsOthers.setCell W ⟨w.heap.size+1,0,none⟩ (.bool false)).same D _ hK rfl;refine⟨by simp,.inl ⟨_,_,rfl,run_takeDeferred hK',?_⟩⟩;have hc5:=cell_kept (World.cell?_setCell_same' W ⟨w.heap.size+1,0,none⟩ (.bool false) (by rw[hcr];rfl)) (grownBy_putObj' _ D (.deferred none)) (fun r e=>by cases e;exact⟨_,hK',rfl⟩);refine⟨.bool false,?_,by rw[decide_eq_false (fun⟨k,hk,hM⟩=>by rw[Ex3 hne k hk] at hM;cases hM)],(hB.setCell (p:=⟨w.heap.size+1,0,none⟩) (by simp) _).trans (belowK_b (w:=w) (Nat.le_refl _) _ D _ _ (by simp at hD;omega) hK' rfl rfl)⟩;simp[results,Tryz.f175,go_sem,hc5]
 case stop=>
  rintro D c pre W hD hpre ⟨⟨rfl,hcr⟩,hB⟩ hK
  gi_wp2
  refine⟨by simp,.inl ⟨_,_,rfl,run_takeDeferred hK,?_⟩⟩;have hc5:=cell_kept hcr (grownBy_putObj' _ D (.deferred none)) (fun r e=>by cases e;exact⟨_,hK,rfl⟩);refine⟨.bool true,?_,by rw[decide_eq_true hpre],hB.trans (belowK_b (w:=w) (Nat.le_refl _) W D _ _ (by simp at hD;omega) hK rfl rfl)⟩;simp[results,Tryz.f175,go_sem,hc5]
end Go.Proofs.YtadpiemjgfndgaaGreatDoor
namespace Go.Proofs.YtadpiemjgfndgaaGreatDoor
open Go.RowKit
theorem Ex4{w:World}{a ka ba:Option Addr}{c kc bc:Nat}{es:List Ent}{k b:List UInt8}(hE:Y5 w a es)(hk:k.length≤maxLen)(hb:b.length≤maxLen)(hka:A4 w ka k)(hba:A4 w ba b):
 Bu1 w.heap.size w (.slice a es.length c) (.agg #[.slice ka k.length kc,.slice ba b.length bc]) es.length (fun i=>isF k b (es.getD i ([],[]))):=by
 by_cases h0:es.length=0
 ·exact .inl ⟨a,c,by rw[h0],h0⟩
 obtain⟨vs,h1,h2,h3⟩:=hE;rcases h2 with h | ⟨g,off,rfl,hlt,hc⟩
 ·rw[h,List.length_nil] at h1;omega
 refine .inr ⟨g,off,c,fun j=>vs.getD (j*2) undef,fun j=>vs.getD (j*2+1) undef,rfl,hlt,fun j hj=>⟨hc _ (by omega),by rw[Nat.add_assoc];exact hc _ (by omega)⟩,fun j hj=>?_,fun W' j hj hW=>?_⟩
 ·obtain⟨⟨p0,c0,e0,-⟩,⟨p1,c1,e1,-⟩⟩:=h3 j hj;exact⟨p0,_,c0,p1,_,c1,e0,e1⟩
 ·obtain⟨⟨p0,c0,e0,l0,m0,b0⟩,⟨p1,c1,e1,l1,m1,b1⟩⟩:=h3 j hj;simp only[e0,e1];exact Fe8 ka ba p0 p1 kc bc c0 c1 k b _ _ W' hk hb (Nat.le_trans l0 m0) (Nat.le_trans l1 m1) (hka.mono hW) (hba.mono hW) (b0.mono hW) (b1.mono hW)
theorem Da0(i f:Bool)(a ka ba:Option Addr)(c kc bc:Nat)(es:List Ent)(k b:List UInt8)(w:World)(hes:es.length≤100000)(hE:Y5 w a es)(hk:k.length≤maxLen)(hb:b.length≤maxLen)(hka:A4 w ka k)(hba:A4 w ba b):
 Calls Tryz.prog 175 #[.agg #[.bool i,.slice a es.length c,.bool f],.slice ka k.length kc,.slice ba b.length bc] w (F9 w (An6 es k b)):=by
 have h:=callsIn_wide.1 (En4 i f (.slice a es.length c) ka ba k.length kc b.length bc es.length _ w (by omega) (Ex4 hE hk hb hka hba));refine h.mono fun e w' ⟨p,q⟩=>⟨?_,q⟩;rw[p];rcases hh:An6 es k b with _ | _
 ·rw[decide_eq_false];intro hx;rw[(Cf9 es k b).2 hx] at hh;cases hh
 ·rw[decide_eq_true ((Cf9 es k b).1 hh)]
theorem Y5.cell{w:World}{a:Option Addr}{es:List Ent}(h:Y5 w a es)(h0:0<es.length):
 ∃g off,a=some ⟨g,off,none⟩∧g<w.heap.size∧∀j,j<es.length→∃p0 c0 p1 c1,w.cell? ⟨g,off+j*2,none⟩=some (.slice p0 (es.getD j ([],[])).1.length c0)∧w.cell? ⟨g,off+j*2+1,none⟩=some (.slice p1 (es.getD j ([],[])).2.length c1)∧
  (es.getD j ([],[])).1.length≤c0∧c0≤maxLen∧(es.getD j ([],[])).2.length≤c1∧c1≤maxLen∧A4 w p0 (es.getD j ([],[])).1∧A4 w p1 (es.getD j ([],[])).2:=by
 obtain⟨vs,h1,h2,h3⟩:=h;rcases h2 with h | ⟨g,off,rfl,hlt,hc⟩
 ·rw[h,List.length_nil] at h1;omega
 refine⟨g,off,rfl,hlt,fun j hj=>?_⟩;obtain⟨⟨p0,c0,e0,l0,m0,b0⟩,⟨p1,c1,e1,l1,m1,b1⟩⟩:=h3 j hj;exact⟨p0,c0,p1,c1,by rw[hc _ (by omega),e0],by rw[Nat.add_assoc,hc _ (by omega),e1],l0,m0,l1,m1,b0,b1⟩
theorem Df3(i f:Bool)(a ka ba:Option Addr)(c kc bc:Nat)(es:List Ent)(k b:List UInt8)(w:World)(hes:es.length≤100000)(hE:Y5 w a es)(hka:A4 w ka k)(hba:A4 w ba b):
 Calls Tryz.prog 33 #[.agg #[.bool i,.slice a es.length c,.bool f],.slice ka k.length kc,.slice ba b.length bc] w (F9 w (An6 es k b)):=by
 have HE:=Lh hE;have HK:=Lh hka;have HB:=Lh hba;have HH:=Lh (Cf9 es k b);generalize An6 es k b=R at HH ⊢;clear hE hka hba;go_enter Tryz.func33,Tryz.ntmps33
 go_wp2_with fail
 generalize hW:World.alloc w _=W;have Hw:=Lh (show Below w.heap.size w W by rw[←hW];exact Below.refl _ _|>.alloc (Nat.le_refl _) _);have B3:=Lh (show Blk W w.heap.size [.bool i,.slice a es.length c,.bool f] by rw[←hW];exact Blk.new w [.bool i,.slice a es.length c,.bool f] _);clear hW;have y1:W.cell? ⟨w.heap.size,1,none⟩=some (.slice a es.length c):=B3.out.cell 1 (by simp)
 go_loopw [7] (fun v wr=>wr=W∧∃j:Nat,j≤es.length∧v=.int .i64 (j:Int)∧∀t,t<j→isF k b (es.getD t ([],[]))=false) (fun v _=>es.length-(intOf v).toNat)
 case atStart=>exact⟨rfl,0,Nat.zero_le _,rfl,fun t ht=>absurd ht (by omega)⟩
 case round=>
  obtain⟨rfl,j,hj,rfl,hno⟩:=hrel;have Hno:=Lh hno;clear hno;by_cases hlt:j<es.length
  ·obtain⟨g,off,rfl,hg,hcs⟩:=(HE.out.mono Hw.out).cell (by omega);obtain⟨p0,c0,p1,c1,x0,x1,-,-,-,-,b0,b1⟩:=hcs j hlt;have K1:=Lh (Y8 p0 ka _ c0 k.length kc _ k wr rfl rfl b0 (HK.out.mono Hw.out));have K2:=Lh (Y8 p1 ba _ c1 b.length bc _ b wr rfl rfl b1 (HB.out.mono Hw.out));have HF:=Lh (show isF k b (es.getD j ([],[]))=(((es.getD j ([],[])).1==k)&&((es.getD j ([],[])).2==b)) by
    unfold isF;rw[Bool.beq_comm (a:=k),Bool.beq_comm (a:=b)])
   clear hcs b0 b1;have hd1:(j:Int)<(es.length:Int):=by omega
   have hd0:(0:Int)≤(j:Int):=by omega
   generalize ((es.getD j ([],[])).1==k)=q1 at K1 HF;generalize ((es.getD j ([],[])).2==b)=q2 at K2 HF;generalize (es.getD j ([],[])).1.length=n0 at x0 K1;generalize (es.getD j ([],[])).2.length=n1 at x1 K2;rcases q1 with _ | _
   ·go_wp2_with fail
    refine K1.out.mono ?_;rintro e w2 ⟨rfl,rfl⟩;go_wp2_with fail
    exact⟨⟨by trivial,j+1,by omega,by go_num,fun t ht=>by
     rcases Nat.lt_or_ge t j with h | h
     ·exact Hno.out t h
     ·rw[show t=j by omega,HF.out];rfl⟩,by simp[intOf];omega⟩
   ·rcases q2 with _ | _
    ·go_wp2_with fail
     refine K1.out.mono ?_;rintro e w2 ⟨rfl,rfl⟩;go_wp2_with fail
     refine K2.out.mono ?_;rintro e w3 ⟨rfl,rfl⟩;go_wp2_with fail
     exact⟨⟨by trivial,j+1,by omega,by go_num,fun t ht=>by
      rcases Nat.lt_or_ge t j with h | h
      ·exact Hno.out t h
      ·rw[show t=j by omega,HF.out];rfl⟩,by simp[intOf];omega⟩
    ·go_wp2_with fail
     refine K1.out.mono ?_;rintro e w2 ⟨rfl,rfl⟩;go_wp2_with fail
     refine K2.out.mono ?_;rintro e w3 ⟨rfl,rfl⟩;go_wp2_with fail
     go_ret;exact⟨by rw[HH.out.2 ⟨j,hlt,HF.out⟩];rfl,Hw.out⟩
  ·obtain rfl:j=es.length:=by omega
   go_wp2_with fail
   go_ret;refine⟨?_,Hw.out⟩;have:R=false:=by
    rcases hR:R with _ | _
    ·rfl
    ·obtain⟨t,ht,h⟩:=HH.out.1 hR;rw[Hno.out t ht] at h;cases h
   rw[this];rfl
theorem By1{P:Program}{t e:TypeId}{n:Nat}(ht:P.underlying t=some (.slice e))(hs:∀w,(sizeOf e).run P w=.ok n w)(w:World)(a:Option Addr)(len cap:Nat)(hc:len≤cap):
 (Instr.sliceAt t (.slice a len cap) Option.none (some (.int .i64 len)) (some (.int .i64 len))).run P w=.ok (.slice a len len) w:=by
 have he:P.elem t=e:=by simp[Program.elem,ht]
 rw[run_sliceAt_slice _ _ _ _ _ _ (by rw[he];exact ht),run_slice_hm _ _ _ _ _ (by rw[he];exact ht) _ _ _ _ (by omega) (Int.le_refl _) (by omega),he,hs];show Result.ok (Value.slice (adv a (len:Int).toNat 0 n) ((len:Int).toNat-0) ((len:Int).toNat-0)) w=_;rw[Cn2,Int.toNat_natCast];rfl
theorem En5:∀w,(sizeOf 153).run Tryz.prog w=.ok 2 w:=fun w=>by
 obtain⟨i,h1,h2⟩:=Option.map_eq_some_iff.1 (show(Tryz.prog.info? 153).map (·.size)=some 2 by kernel_rfl);simp[sizeOf,typeInfo,h1,h2]
theorem En6(a:Option Addr)(n c:Nat)(hc:n≤c)(w:World):Calls Tryz.prog 176 #[.slice a n c] w fun e w'=>e=.returned (.slice a n n)∧w=w':=by
 have hs:=fun W=>By1 Tryz.underlying47 En5 W a n c hc;go_enter Tryz.func176,Tryz.ntmps176
 go_wp2_with fail
 go_ret;exact⟨rfl,rfl⟩
theorem En7(W:World):V8 W (W.alloc (.cells #[] 5)) (.slice (some ⟨W.heap.size,0,none⟩) 0 0) []:=V8.of rfl (Buf.made W 5 [] 0 0 (Nat.le_refl _) rfl (by decide))
theorem At2{w:World}{base:Nat}{e:TypeId}{size n cap:Nat}{a:Option Addr}{xs:List Value}(h:w.ownsRow base e size (.slice a n cap) n xs):AtP (fun g=>base≤g) w a xs:=by
 rcases Ar2 h with h1 | ⟨b,off,rfl,hlt,hc⟩
 ·exact .inl h1
 ·exact .inr ⟨b,off,rfl,(h.lt b rfl).1,hlt,hc⟩
def Cr0(w:World)(l:List UInt8)(e:Ending)(w':World):Prop:=∃a c,e=.returned (.slice a l.length c)∧l.length≤c∧c≤maxLen∧AtP (fun g=>w.heap.size≤g) w' a (B8s l)∧Below w.heap.size w w'
theorem Cb2(a:Option Addr)(cap:Nat)(l:List UInt8)(w:World)(hc:l.length≤100000)(hl:A4 w a l):
 Calls Tryz.prog 177 #[.slice a l.length cap] w (Cr0 w l):=by
 have q22:∀(w:World) (a:Option Addr) (n c n' c':Nat),(binOp .eql 22 (.slice a n c) (.slice none n' c')).run Tryz.prog w=.ok (.bool a.isNone) w:=fun w a n c n' c'=>Lib.run_eql_slice_nil w _ _ a n c n' c' Tryz.underlying22;rcases a with _ | ⟨b,o,s⟩
 ·have h0:l=[]:=by
   rcases hl with h | ⟨b,off,h,-⟩
   ·simpa using h
   ·cases h
  subst h0;go_enter Tryz.func177,Tryz.ntmps177
  go_wp2_with fail
  go_ret;exact⟨none,0,rfl,Nat.le_refl _,by decide,.inl rfl,Below.refl _ _⟩
 ·have Hl:=Lh (hl.mono (ba w (.cells #[] 5)));clear hl;go_enter Tryz.func177,Tryz.ntmps177
  go_wp2_with (at_builtin;(refine Ag5 (.tmp 5) (.tmp 6) rfl rfl rfl (En7 w) l rfl Hl.out rfl (by simp;omega) l rfl ?_;intro a1 c1 w1 h1;have H1:=Lh h1;clear h1))
  go_ret;have hcap:=H1.out.buf.cap;exact⟨a1,c1,rfl,hcap.2.1,hcap.2.2,At2 H1.out.own,H1.out.bel⟩
theorem Eu5:Ad4 Tryz.prog 47 153 2 48 (.agg #[.slice none 0 0,.slice none 0 0]):=Ad4.mk1 Tryz.underlying47 (by kernel_rfl) rfl (by decide)
abbrev Ff1(B:Nat)(w:World)(v:Value)(n:Nat)(vs:List Value):Prop:=w.ownsRow B 153 2 v n vs
theorem Cw6{ops:Array Oper}{rest:List Oper}{o:Oper}{a:Act}{w:World}{Q:Exit→Act→World→Prop}(s x:Operand)(hgd:o.guard=Option.none)
 (ho:o.op=.call {callee:=.builtin .append,args:=#[s,x],argTypes:=#[47,47]}) {sa:Option Addr} {n:Nat} {vs:List Value} (hs:a.eval s=.slice sa n n) (hS:At w sa vs) (hvl:vs.length=n*2)
 {sp:Addr} {c:Nat} {v0 v1:Value} (hx:a.eval x=.slice (some sp) 1 c) (hX:At w (some sp) [v0,v1]) (h1:∀u∈[v0,v1],u.oneCell'=true) (hn:n≤100000)
 (h:∀a' c' w',Ff1 w.heap.size w' (.slice a' (n+1) c') (n+1) (vs++[v0,v1])→Below w.heap.size w w'→wpList Tryz.prog ops Q rest (a.put o.dst (.slice a' (n+1) c')) w'):wpList Tryz.prog ops Q (o::rest) a w:=by
 refine wpList_plain hgd fun K hK=>?_;have key:∃a' c' w',(Builtin.append_ #[47,47] o.type #[.slice sa n n,.slice (some sp) 1 c]).run Tryz.prog w=.ok (.slice a' (n+1) c') w'∧Ff1 w.heap.size w' (.slice a' (n+1) c') (n+1) (vs++[v0,v1])∧w.grownBy w' none:=by
  obtain⟨i,hi,hz,hsz,hby⟩:=Eu5.info;rcases sa with _ | b
  ·have h0:vs=[]:=by
    rcases hS with h | ⟨_,_,h,-⟩
    ·exact h
    ·cases h
   subst h0;have hn0:n=0:=by simp at hvl;omega
   subst hn0;obtain⟨a',c',w',hr,hown,hg⟩:=Bl1 Eu5 (World.ownsRow_nil w w.heap.size 153 2) (m:=1) c hX rfl h1 (by decide) (by decide) (Nat.le_refl _) o.type;exact⟨a',c',w',by simpa using hr,by simpa using hown,hg⟩
  ·have hcell:∀{d:Addr} {cs:List Value},At w (some d) cs→∀j u,cs[j]?=some u→w.cell? (d.add j)=some u:=by
    intro d cs hA j u hj;have hjl:j<cs.length:=by
     rcases Nat.lt_or_ge j cs.length with h | h
     ·exact h
     ·rw[List.getElem?_eq_none h] at hj;cases hj
    rcases hA with h | ⟨b',off,he,hlt,hc⟩
    ·rw[h] at hjl;simp at hjl
    ·cases he
     rw[WideShapes.add_plain,hc j hjl];simp[List.getD,hj]
   obtain⟨v',w',hr,hown,hg⟩:=run_append_arg_grows (P:=Tryz.prog) w 47 o.type 153 i (.agg #[.slice none 0 0,.slice none 0 0]) 2 48 Tryz.underlying47 hi hz hsz hby rfl (by decide) b n n vs hvl (hcell hS) sp 1 c [v0,v1] rfl (hcell hX) (by omega) (by unfold maxLen;omega) (by omega);obtain⟨a',c',rfl,-,-⟩:=U6 hown;exact⟨a',c',w',hr,hown,hg⟩
 obtain⟨a',c',w',hr,hown,hg⟩:=key;unfold Oper.wp execOp;simp only[ho,resolve,List.map_toArray,List.map_cons,List.map_nil,hs,hx,invoke,builtin,Sem.run_bind,Sem.run_pure,Result.andThen_ok,hr];exact hK _ _ (h a' c' w' hown ⟨hg.os,hg.tape,hg.output,hg.size,fun k hk=>hg.block k hk (by simp)⟩)
def Ae3(p:Nat→Prop)(w:World)(v:Value)(r:List UInt8):Prop:=∃a c,v=.slice a r.length c∧r.length≤c∧c≤maxLen∧AtP p w a (B8s r)
def Av6(p:Nat→Prop)(w:World)(a:Option Addr)(es:List Ent):Prop:=
 ∃vs:List Value,vs.length=es.length*2∧AtP p w a vs∧∀i,i<es.length→Ae3 p w (vs.getD (i*2) undef) (es.getD i ([],[])).1∧Ae3 p w (vs.getD (i*2+1) undef) (es.getD i ([],[])).2
theorem Ae3.row{p:Nat→Prop}{w:World}{v:Value}{r:List UInt8}(h:Ae3 p w v r):Aa2 w v r:=by
 obtain⟨a,c,h1,h2,h3,h4⟩:=h;exact⟨a,c,h1,h2,h3,h4.at⟩
theorem Ae3.of{p:Nat→Prop}{w:World}{v:Value}{r:List UInt8}(h:Aa2 w v r)(hp:∀b,b<w.heap.size→p b):Ae3 p w v r:=by
 obtain⟨a,c,h1,h2,h3,h4⟩:=h;exact⟨a,c,h1,h2,h3,AtP.of h4 hp⟩
theorem Ae3.to{p q:Nat→Prop}{w w':World}{v:Value}{r:List UInt8}(h:Ae3 p w v r)(hs:w.heap.size≤w'.heap.size)(hk:∀b,b<w.heap.size→p b→w'.heap[b]?=w.heap[b]?∧q b):Ae3 q w' v r:=by
 obtain⟨a,c,h1,h2,h3,h4⟩:=h;exact⟨a,c,h1,h2,h3,h4.to hs hk⟩
theorem Av6.ents{p:Nat→Prop}{w:World}{a:Option Addr}{es:List Ent}(h:Av6 p w a es):Y5 w a es:=by
 obtain⟨vs,h1,h2,h3⟩:=h;exact⟨vs,h1,h2.at,fun i hi=>⟨(h3 i hi).1.row,(h3 i hi).2.row⟩⟩
theorem Av6.of{p:Nat→Prop}{w:World}{a:Option Addr}{es:List Ent}(h:Y5 w a es)(hp:∀b,b<w.heap.size→p b):Av6 p w a es:=by
 obtain⟨vs,h1,h2,h3⟩:=h;exact⟨vs,h1,AtP.of h2 hp,fun i hi=>⟨.of (h3 i hi).1 hp,.of (h3 i hi).2 hp⟩⟩
theorem Av6.to{p q:Nat→Prop}{w w':World}{a:Option Addr}{es:List Ent}(h:Av6 p w a es)(hs:w.heap.size≤w'.heap.size)(hk:∀b,b<w.heap.size→p b→w'.heap[b]?=w.heap[b]?∧q b):Av6 q w' a es:=by
 obtain⟨vs,h1,h2,h3⟩:=h;exact⟨vs,h1,h2.to hs hk,fun i hi=>⟨(h3 i hi).1.to hs hk,(h3 i hi).2.to hs hk⟩⟩
theorem Av6.up{p:Nat→Prop}{w w':World}{a:Option Addr}{es:List Ent}(h:Av6 p w a es)(hb:Below w.heap.size w w'):Av6 p w' a es:=h.to hb.size fun b hl hp=>⟨hb.block b hl,hp⟩
theorem Ae3.up{p:Nat→Prop}{w w':World}{v:Value}{r:List UInt8}(h:Ae3 p w v r)(hb:Below w.heap.size w w'):Ae3 p w' v r:=h.to hb.size fun b hl hp=>⟨hb.block b hl,hp⟩
theorem AtP.up{p:Nat→Prop}{w w':World}{a:Option Addr}{cs:List Value}(h:AtP p w a cs)(hb:Below w.heap.size w w'):AtP p w' a cs:=h.to hb.size fun b hl hp=>⟨hb.block b hl,hp⟩
theorem Av6.snoc{p:Nat→Prop}{w':World}{a':Option Addr}{es:List Ent}{vs:List Value}{v0 v1:Value}{k b:List UInt8}(hvl:vs.length=es.length*2)(hr:∀i,i<es.length→Ae3 p w' (vs.getD (i*2) undef) (es.getD i ([],[])).1∧Ae3 p w' (vs.getD (i*2+1) undef) (es.getD i ([],[])).2)
 (hA:AtP p w' a' (vs++[v0,v1])) (h0:Ae3 p w' v0 k) (h1:Ae3 p w' v1 b):Av6 p w' a' (es++[(k,b)]):=by
 refine⟨vs++[v0,v1],by simp[hvl];omega,hA,fun i hi=>?_⟩;have hi':i<es.length+1:=by simpa using hi
 rcases Nat.lt_or_ge i es.length with h | h
 ·have e1:(vs++[v0,v1]).getD (i*2) undef=vs.getD (i*2) undef:=by rw[List.getD,List.getD,List.getElem?_append_left (by omega)]
  have e2:(vs++[v0,v1]).getD (i*2+1) undef=vs.getD (i*2+1) undef:=by rw[List.getD,List.getD,List.getElem?_append_left (by omega)]
  have e3:(es++[(k,b)]).getD i ([],[])=es.getD i ([],[]):=by rw[List.getD,List.getD,List.getElem?_append_left h]
  rw[e1,e2,e3];exact hr i h
 ·obtain rfl:i=es.length:=by omega
  have e1:(vs++[v0,v1]).getD (es.length*2) undef=v0:=by rw[List.getD,List.getElem?_append_right (by omega),hvl,Nat.sub_self];rfl
  have e2:(vs++[v0,v1]).getD (es.length*2+1) undef=v1:=by rw[List.getD,List.getElem?_append_right (by omega),hvl,show es.length*2+1-es.length*2=1 by omega];rfl
  have e3:(es++[(k,b)]).getD es.length ([],[])=(k,b):=by rw[List.getD,List.getElem?_append_right (by omega),Nat.sub_self];rfl
  rw[e1,e2,e3];exact⟨h0,h1⟩
def Av7(es:List Ent)(k b:List UInt8):List Ent:=bif An6 es k b then es else es++[(k,b)]
abbrev Av8:List Value:=[.bool false,.slice none 0 0,.bool false]
theorem Ad7:(Tryz.prog.info? 49).map (·.size)=some 3:=by kernel_rfl
theorem Ad8{w:World}{b:Nat}{v0 v1 v2:Value}(h:Blk w b [v0,v1,v2]):w.cell? ⟨b,0,none⟩=some v0∧w.cell? ⟨b,1,none⟩=some v1∧w.cell? ⟨b,2,none⟩=some v2:=
 ⟨h.cell 0 (by simp),h.cell 1 (by simp),h.cell 2 (by simp)⟩
theorem Cb3{T:TypeId}{w:World}{b:Nat}{a0 a1 a2 v0 v1 v2:Value}(h:A6 T w b [a0,a1,a2]):A6 T (((w.setCell ⟨b,0,none⟩ v0).setCell ⟨b,1,none⟩ v1).setCell ⟨b,2,none⟩ v2) b [v0,v1,v2]:=((h.set 0 v0).set 1 v1).set 2 v2
theorem Au6{w0 w:World}{B b:Nat}{v0 v1 v2:Value}(h:Below B w0 w)(hb:B≤b):Below B w0 (((w.setCell ⟨b,0,none⟩ v0).setCell ⟨b,1,none⟩ v1).setCell ⟨b,2,none⟩ v2):=((h.setCell hb v0).setCell hb v1).setCell hb v2
theorem Az2{w:World}{b g:Nat}{v0 v1 v2:Value}(h:g≠b):(((w.setCell ⟨b,0,none⟩ v0).setCell ⟨b,1,none⟩ v1).setCell ⟨b,2,none⟩ v2).heap[g]?=w.heap[g]?:=by
 rw[Below.heap_setCell _ _ _ _ h,Below.heap_setCell _ _ _ _ h,Below.heap_setCell _ _ _ _ h]
theorem Bo3{w:World}{b:Nat}{v0 v1 v2:Value}:(((w.setCell ⟨b,0,none⟩ v0).setCell ⟨b,1,none⟩ v1).setCell ⟨b,2,none⟩ v2).heap.size=w.heap.size:=by simp
theorem A4.offP{w:World}{B:Nat}{T:TypeId}{cs:List Value}{a:Option Addr}{l:List UInt8}{v0 v1 v2:Value}(h:A4 w a l)(hb:A6 T w B cs)(hcs:∀v∈cs,∀k n,v≠.int k n):
 A4 (((w.setCell ⟨B,0,none⟩ v0).setCell ⟨B,1,none⟩ v1).setCell ⟨B,2,none⟩ v2) a l:=by
 rcases h with h | ⟨b',off,rfl,hlt,hc⟩
 ·exact .inl h
 refine .inr ⟨b',off,rfl,by rw[Bo3];exact hlt,fun i hi=>?_⟩;have hne:b'≠B:=by
  rintro rfl;have h1:=hc i hi;rw[cell_of_row w b' (off+i) cs.toArray T (0,0) hb] at h1;have h2:=Array.mem_of_getElem? h1;have hi':i<l.length:=by simpa using hi
  have h3:(B8s l).getD i undef=.int .u8 (bv (l.getD i 0)):=by simp[List.getD,hi']
  rw[h3] at h2;exact hcs _ (by simpa using h2) _ _ rfl
 rw[World.cell?_of_block (w:=w) (a:=⟨b',off+i,none⟩) (Az2 hne)];exact hc i hi
theorem Ea1(i f:Bool)(a:Option Addr)(n c:Nat):∀v∈([.bool i,.slice a n c,.bool f]:List Value),∀k n,v≠.int k n:=by
 intro v hv k n;simp only[List.mem_cons,List.not_mem_nil,or_false] at hv;rcases hv with rfl | rfl | rfl<;>intro h<;>cases h
def Az3(f:Bool)(es:List Ent)(k b t:List UInt8):Bool:=bif X5 k b==t then(f || !An6 es k b) else f
def Bg2(i:Bool)(es:List Ent)(k b t:List UInt8):Bool:=bif X5 k b==t then(An6 es k b || !i) else false
def By2(w:World)(i f:Bool)(a:Option Addr)(n c:Nat)(y:Bool)(e:Ending)(w':World):Prop:=e=.returned (.tuple #[.agg #[.bool i,.slice a n c,.bool f],.bool y])∧Below w.heap.size w w'
theorem Az4(i:Bool)(w:World):Calls Tryz.prog 36 #[.bool i] w fun e w'=>e=.returned (.agg #[.bool i,.slice none 0 0,.bool false])∧Below w.heap.size w w':=by
 go_enter Tryz.func36,Tryz.ntmps36
 go_wp2_with fail
 first
  | (go_ret;exact⟨rfl,ba _ _⟩)
  | (refine bodyPost_ret (v:=.agg #[.bool i,.slice none 0 0,.bool false]) (J9 rfl _ _ w.heap.size rfl (Blk.new w [.bool i,.slice none 0 0,.bool false] _) Tryz.underlying49 rfl Ad7) rfl ?_;exact⟨rfl,ba _ _⟩)
theorem Ea2(i f:Bool)(a ka ba_ ta:Option Addr)(c kc bc tc:Nat)(es:List Ent)(k b t:List UInt8)(w:World)(hes:es.length≤1000)(hE:Y5 w a es)(hk:k.length≤100000)(hb:b.length≤90000)(ht:t.length≤100000)(hka:A4 w ka k)(hba:A4 w ba_ b)(hta:A4 w ta t)(hks:Q5 w):
 Calls Tryz.prog 134 #[.agg #[.bool i,.slice a es.length c,.bool f],.slice ka k.length kc,.slice ba_ b.length bc,.slice ta t.length tc] w (By2 w i (Az3 f es k b t) a es.length c (Bg2 i es k b t)):=by
 have HI:=Lh Ad7;have H1:=Lh (fun(W:World) (h:Below w.heap.size w W)=>Da0 i f a ka ba_ c kc bc es k b W (by omega) (hE.mono h) (by unfold maxLen;omega) (by unfold maxLen;omega) (hka.mono h) (hba.mono h));have H5:=Lh (fun(W:World) (h:Below w.heap.size w W)=>Bw0 ka ba_ kc bc k b hk hb W (hka.mono h) (hba.mono h) (hks.mono h));unfold Br5 at H5;unfold By2 Az3 Bg2;have HTl:=Ao6 k b;have H6:=Lh (fun(o:Option Addr) (oc:Nat) (W:World) (h:Below w.heap.size w W) (h2:A4 W o (X5 k b))=>(show Calls Tryz.prog 184 #[.slice o 16 oc,.slice ta t.length tc] W (F9 W (X5 k b==t)) from by
  have h3:=Bk4 o ta oc tc (X5 k b) t (by rw[HTl];decide) (by unfold maxLen;omega) W h2 (hta.mono h)
  rwa [HTl] at h3))
 generalize An6 es k b=R at H1 ⊢;generalize (X5 k b==t)=S at H6 ⊢;generalize X5 k b=T at H5 H6;clear hE hka hba hta hks hes hk hb ht HTl;go_enter Tryz.func134,Tryz.ntmps134
 go_upto_region 1 with(fail)
 generalize hW:World.alloc (World.alloc w _) _=W;have B4:=Lh (show A6 49 W w.heap.size [.bool i,.slice a es.length c,.bool f] by rw[←hW];exact(A6.new w [.bool i,.slice a es.length c,.bool f] _).up (ba _ _));have B8:=Lh (show A6 49 W (w.heap.size+1) Av8 by rw[←hW,←I9 w (.cells #[.bool i,.slice a es.length c,.bool f] 49)];exact A6.new _ Av8 _);have G:=Lh (show Below w.heap.size w W by rw[←hW];exact bta (ba w _) _);clear hW;obtain⟨b4,hb4⟩:∃b4,b4=w.heap.size:=⟨_,rfl⟩;have L4:=Lh (show w.heap.size≤b4 by omega);have L8:=Lh (show w.heap.size≤b4+1 by omega);have hne:b4≠b4+1:=by omega
 rw[←hb4] at B4 B8;simp only[←hb4];generalize b4+1=b8 at B8 L8 hne ⊢;clear hb4;go_wp2_with fail
 refine(H5.out _ G.out).mono ?_;rintro e w1 ⟨ra,rc,rfl,hrc,hra,hbb⟩;replace B4:=Lh (B4.out.up hbb);replace B8:=Lh (B8.out.up hbb);replace G:=Lh (bt G.out hbb);have HR:=Lh hra;clear hbb hrc hra H5;go_wp2_with fail
 refine(H6.out ra rc _ G.out HR.out).mono ?_;rintro e w2 ⟨rfl,hbb⟩;replace B4:=Lh (B4.out.up hbb);replace B8:=Lh (B8.out.up hbb);replace G:=Lh (bt G.out hbb);clear hbb H6 HR;rcases S with _ | _
 ·go_wp2_with (first | (refine C4 49 (.tmp 4) b4 (cs:=[.bool i,.slice a es.length c,.bool f]) rfl rfl rfl B4.out.blk Tryz.underlying49 rfl HI.out ?_) | (refine I0 49 (.tmp 8) (.tmp 17) b8 (old:=Av8) (cs:=[.bool i,.slice a es.length c,.bool f]) rfl rfl rfl rfl B8.out.blk HI.out rfl rfl ?_))
  refine bodyPost_ret (G6 rfl _ _ b8 (cs:=[.bool i,.slice a es.length c,.bool f]) rfl _ rfl (B8.out.row _).blk Tryz.underlying49 rfl HI.out) rfl ?_;exact⟨rfl,F6 G.out L8.out _⟩
 go_wp2_with (refine C4 49 (.tmp 4) b4 (cs:=[.bool i,.slice a es.length c,.bool f]) rfl rfl rfl B4.out.blk Tryz.underlying49 rfl HI.out ?_)
 refine(H1.out _ G.out).mono ?_;rintro e w3 ⟨rfl,hbb⟩;replace B4:=Lh (B4.out.up hbb);replace B8:=Lh (B8.out.up hbb);replace G:=Lh (bt G.out hbb);clear hbb H1;obtain⟨y0,y1,y2⟩:=Ad8 B4.out.blk;obtain⟨z0,z1,z2⟩:=Ad8 B8.out.blk;have yf:=B4.out.blk.frozen;have zf:=B8.out.blk.frozen;rcases R with _ | _<;>rcases f with _ | _<;>rcases i with _ | _;all_goals
  go_wp2_with fail
 all_goals
  clear y0 y1 y2 z0 z1 z2 yf zf;first
  | (obtain⟨w4,hW4⟩:∃w4,w4=w3.setCell ⟨b4,2,none⟩ (.bool true):=⟨_,rfl⟩;rw[←hW4];have B4':=Lh (show A6 49 w4 b4 [.bool _,.slice a es.length c,.bool true] by rw[hW4];exact B4.out.set 2 _);have B8':=Lh (show A6 49 w4 b8 Av8 by rw[hW4];exact B8.out.other (fun h=>hne h.symm) _);have G':=Lh (show Below w.heap.size w w4 by rw[hW4];exact G.out.setCell L4.out _))
  | (obtain⟨w4,hW4⟩:∃w4,w4=w3.setCell ⟨b4,2,none⟩ (.bool false):=⟨_,rfl⟩;rw[←hW4];have B4':=Lh (show A6 49 w4 b4 [.bool _,.slice a es.length c,.bool false] by rw[hW4];exact B4.out.set 2 _);have B8':=Lh (show A6 49 w4 b8 Av8 by rw[hW4];exact B8.out.other (fun h=>hne h.symm) _);have G':=Lh (show Below w.heap.size w w4 by rw[hW4];exact G.out.setCell L4.out _))
  obtain⟨y0,y1,y2⟩:=Ad8 B4'.out.blk;obtain⟨z0,z1,z2⟩:=Ad8 B8'.out.blk;have zf:=B8'.out.blk.frozen;clear hW4;go_region
  all_goals
   go_wp2_with fail
   refine bodyPost_ret (G6 rfl _ _ b8 rfl _ rfl (Cb3 (B8'.out.up (bd _))).blk Tryz.underlying49 rfl HI.out) rfl ?_;exact⟨rfl,Au6 (bt G'.out (bd _)) L8.out⟩
theorem Cr1(i f:Bool)(a ka ba_ ta:Option Addr)(c kc bc tc:Nat)(es:List Ent)(k b t:List UInt8)(w:World)(hes:es.length≤1000)(hE:Y5 w a es)(hk:k.length≤100000)(hb:b.length≤90000)(ht:t.length≤100000)(hka:A4 w ka k)(hba:A4 w ba_ b)(hta:A4 w ta t):
 Calls Tryz.prog 67 #[.agg #[.bool i,.slice a es.length c,.bool f],.slice ka k.length kc,.slice ba_ b.length bc,.slice ta t.length tc] w (By2 w i (Az3 f es k b t) a es.length c (Bg2 i es k b t)):=by
 have HI:=Lh Ad7;have H1:=Lh (fun(W:World) (h:Below w.heap.size w W)=>Df3 i f a ka ba_ c kc bc es k b W (by omega) (hE.mono h) (hka.mono h) (hba.mono h));have H5:=Lh (fun(W:World) (h:Below w.heap.size w W)=>Cf8 ka ba_ kc bc k b hk hb W (hka.mono h) (hba.mono h));unfold Br5 at H5;unfold By2 Az3 Bg2;have HTl:=Ao6 k b;have H6:=Lh (fun(o:Option Addr) (oc:Nat) (W:World) (h:Below w.heap.size w W) (h2:A4 W o (X5 k b))=>(show Calls Tryz.prog 25 #[.slice o 16 oc,.slice ta t.length tc] W (F9 W (X5 k b==t)) from by
  have h3:=Y8 o ta 16 oc t.length tc (X5 k b) t W HTl.symm rfl h2 (hta.mono h);exact h3.mono fun e w2 ⟨p,q⟩=>⟨p,q▸Below.refl _ _⟩))
 generalize An6 es k b=R at H1 ⊢;generalize (X5 k b==t)=S at H6 ⊢;generalize X5 k b=T at H5 H6;clear hE hka hba hta hes hk hb ht HTl;go_enter Tryz.func67,Tryz.ntmps67
 go_upto_region 1 with(fail)
 generalize hW:World.alloc (World.alloc w _) _=W;have B4:=Lh (show A6 49 W w.heap.size [.bool i,.slice a es.length c,.bool f] by rw[←hW];exact(A6.new w [.bool i,.slice a es.length c,.bool f] _).up (ba _ _));have B8:=Lh (show A6 49 W (w.heap.size+1) Av8 by rw[←hW,←I9 w (.cells #[.bool i,.slice a es.length c,.bool f] 49)];exact A6.new _ Av8 _);have G:=Lh (show Below w.heap.size w W by rw[←hW];exact bta (ba w _) _);clear hW;obtain⟨b4,hb4⟩:∃b4,b4=w.heap.size:=⟨_,rfl⟩;have L4:=Lh (show w.heap.size≤b4 by omega);have L8:=Lh (show w.heap.size≤b4+1 by omega);have hne:b4≠b4+1:=by omega
 rw[←hb4] at B4 B8;simp only[←hb4];generalize b4+1=b8 at B8 L8 hne ⊢;clear hb4;go_wp2_with fail
 refine(H5.out _ G.out).mono ?_;rintro e w1 ⟨ra,rc,rfl,hrc,hra,hbb⟩;replace B4:=Lh (B4.out.up hbb);replace B8:=Lh (B8.out.up hbb);replace G:=Lh (bt G.out hbb);have HR:=Lh hra;clear hbb hrc hra H5;go_wp2_with fail
 refine(H6.out ra rc _ G.out HR.out).mono ?_;rintro e w2 ⟨rfl,hbb⟩;replace B4:=Lh (B4.out.up hbb);replace B8:=Lh (B8.out.up hbb);replace G:=Lh (bt G.out hbb);clear hbb H6 HR;rcases S with _ | _
 ·go_wp2_with (first | (refine C4 49 (.tmp 4) b4 (cs:=[.bool i,.slice a es.length c,.bool f]) rfl rfl rfl B4.out.blk Tryz.underlying49 rfl HI.out ?_) | (refine I0 49 (.tmp 8) (.tmp 17) b8 (old:=Av8) (cs:=[.bool i,.slice a es.length c,.bool f]) rfl rfl rfl rfl B8.out.blk HI.out rfl rfl ?_))
  refine bodyPost_ret (G6 rfl _ _ b8 (cs:=[.bool i,.slice a es.length c,.bool f]) rfl _ rfl (B8.out.row _).blk Tryz.underlying49 rfl HI.out) rfl ?_;exact⟨rfl,F6 G.out L8.out _⟩
 go_wp2_with (refine C4 49 (.tmp 4) b4 (cs:=[.bool i,.slice a es.length c,.bool f]) rfl rfl rfl B4.out.blk Tryz.underlying49 rfl HI.out ?_)
 refine(H1.out _ G.out).mono ?_;rintro e w3 ⟨rfl,hbb⟩;replace B4:=Lh (B4.out.up hbb);replace B8:=Lh (B8.out.up hbb);replace G:=Lh (bt G.out hbb);clear hbb H1;obtain⟨y0,y1,y2⟩:=Ad8 B4.out.blk;obtain⟨z0,z1,z2⟩:=Ad8 B8.out.blk;have yf:=B4.out.blk.frozen;have zf:=B8.out.blk.frozen;rcases R with _ | _<;>rcases f with _ | _<;>rcases i with _ | _;all_goals
  go_wp2_with fail
 all_goals
  clear y0 y1 y2 z0 z1 z2 yf zf;first
  | (obtain⟨w4,hW4⟩:∃w4,w4=w3.setCell ⟨b4,2,none⟩ (.bool true):=⟨_,rfl⟩;rw[←hW4];have B4':=Lh (show A6 49 w4 b4 [.bool _,.slice a es.length c,.bool true] by rw[hW4];exact B4.out.set 2 _);have B8':=Lh (show A6 49 w4 b8 Av8 by rw[hW4];exact B8.out.other (fun h=>hne h.symm) _);have G':=Lh (show Below w.heap.size w w4 by rw[hW4];exact G.out.setCell L4.out _))
  | (generalize hW4:w3=w4 at B4 B8 G ⊢;have B4':=B4;have B8':=B8;have G':=G)
  obtain⟨y0,y1,y2⟩:=Ad8 B4'.out.blk;obtain⟨z0,z1,z2⟩:=Ad8 B8'.out.blk;have zf:=B8'.out.blk.frozen;clear hW4;go_region
  all_goals
   go_wp2_with fail
   refine bodyPost_ret (G6 rfl _ _ b8 rfl _ rfl (Cb3 (B8'.out.up (bd _))).blk Tryz.underlying49 rfl HI.out) rfl ?_;exact⟨rfl,Au6 (bt G'.out (bd _)) L8.out⟩
theorem Ex5{es es2:List Ent}(hl:es.length=es2.length)(h:∀j,j<es.length→es.getD j ([],[])=es2.getD j ([],[])):es=es2:=by
 apply List.ext_getElem hl;intro j h1 h2;have:=h j h1
 simpa [List.getD,h1,h2] using this
def Bo4(i f:Bool)(es:List Ent)(i2 f2:Bool)(es2:List Ent):Bool:=((i==i2)&&(f==f2))&&decide (es=es2)
structure PrF (w:World) (a:Option Addr) (n c:Nat) (es:List Ent):Prop where
 ents:Y5 w a es
 hn:es.length=n
 hc:n≤c
 hcm:c≤maxLen
 few:n≤900
theorem PrF.up{w w':World}{a:Option Addr}{n c:Nat}{es:List Ent}(h:PrF w a n c es)(hb:Below w.heap.size w w'):PrF w' a n c es:=⟨h.ents.mono hb,h.hn,h.hc,h.hcm,h.few⟩
theorem PrF.zero(w:World):PrF w none 0 0 []:=⟨Y5.nil w none,rfl,Nat.le_refl _,by decide,by decide⟩
def By3(es:List Ent)(m:Nat):Prop:=es.length≤m∧∀j,j<es.length→(es.getD j ([],[])).1.length≤100∧(es.getD j ([],[])).2.length≤2000
instance (es:List Ent) (m:Nat):Decidable (By3 es m):=by unfold By3;infer_instance
theorem Df4(i f:Bool)(a:Option Addr)(c m:Nat)(es:List Ent)(w:World)(hes:es.length≤maxLen)(hm:m≤1000)(hE:Y5 w a es):
 Calls Tryz.prog 53 #[.agg #[.bool i,.slice a es.length c,.bool f],.int .i64 m] w (F9 w (decide (By3 es m))):=by
 have HE:=Lh hE;obtain⟨R,hR⟩:∃R,R=decide (By3 es m):=⟨_,rfl⟩;rw[←hR];have HR:=Lh hR;unfold maxLen at hes;clear hE hR;by_cases hlen:m<es.length
 ·have hd:(m:Int)<(es.length:Int):=by omega
  go_enter Tryz.func53,Tryz.ntmps53
  go_wp2_with fail
  go_ret;refine⟨?_,ba _ _⟩;have:R=false:=by rw[HR.out,decide_eq_false];intro h;have:=h.1;omega
  rw[this];rfl
 have hd:¬(m:Int)<(es.length:Int):=by omega
 go_enter Tryz.func53,Tryz.ntmps53
 go_wp2_with fail
 generalize hW:World.alloc w _=W;have Hw:=Lh (show Below w.heap.size w W by rw[←hW];exact ba w _);have B3:=Lh (show Blk W w.heap.size [.bool i,.slice a es.length c,.bool f] by rw[←hW];exact Blk.new w [.bool i,.slice a es.length c,.bool f] _);clear hW;have y1:W.cell? ⟨w.heap.size,1,none⟩=some (.slice a es.length c):=B3.out.cell 1 (by simp)
 go_loopw [5] (fun v wr=>wr=W∧∃j:Nat,j≤es.length∧v=.int .i64 (j:Int)∧∀t,t<j→(es.getD t ([],[])).1.length≤100∧(es.getD t ([],[])).2.length≤2000) (fun v _=>es.length-(intOf v).toNat)
 case atStart=>exact⟨rfl,0,Nat.zero_le _,rfl,fun t ht=>absurd ht (by omega)⟩
 case round=>
  obtain⟨rfl,j,hj,rfl,hno⟩:=hrel;have Hno:=Lh hno;clear hno;by_cases hlt:j<es.length
  ·obtain⟨g,off,rfl,hg,hcs⟩:=(HE.out.mono Hw.out).cell (by omega);obtain⟨p0,c0,p1,c1,x0,x1,-⟩:=hcs j hlt;have hd1:(j:Int)<(es.length:Int):=by omega
   have hd0:(0:Int)≤(j:Int):=by omega
   obtain⟨n0,hn0⟩:∃n,n=(es.getD j ([],[])).1.length:=⟨_,rfl⟩;obtain⟨n1,hn1⟩:∃n,n=(es.getD j ([],[])).2.length:=⟨_,rfl⟩;rw[←hn0] at x0;rw[←hn1] at x1;have Hn0:=Lh hn0;have Hn1:=Lh hn1;clear hcs hn0 hn1;by_cases h0:n0≤100
   ·have hd2:¬(100:Int)<(n0:Int):=by omega
    by_cases h1:n1≤2000
    ·have hd3:¬(2000:Int)<(n1:Int):=by omega
     go_wp2_with fail
     exact⟨⟨by trivial,j+1,by omega,by go_num,fun t ht=>by
      rcases Nat.lt_or_ge t j with h | h
      ·exact Hno.out t h
      ·rw[show t=j by omega,←Hn0.out,←Hn1.out];exact⟨h0,h1⟩⟩,by simp[intOf];omega⟩
    ·have hd3:(2000:Int)<(n1:Int):=by omega
     go_wp2_with fail
     go_ret;refine⟨?_,Hw.out⟩;have:R=false:=by rw[HR.out,decide_eq_false];intro h;have:=(h.2 j hlt).2;rw[←Hn1.out] at this;omega
     rw[this];rfl
   ·have hd2:(100:Int)<(n0:Int):=by omega
    go_wp2_with fail
    go_ret;refine⟨?_,Hw.out⟩;have:R=false:=by rw[HR.out,decide_eq_false];intro h;have:=(h.2 j hlt).1;rw[←Hn0.out] at this;omega
    rw[this];rfl
  ·obtain rfl:j=es.length:=by omega
   go_wp2_with fail
   go_ret;refine⟨?_,Hw.out⟩;have:R=true:=by rw[HR.out,decide_eq_true];exact⟨by omega,Hno.out⟩
   rw[this];rfl
theorem Cr2(i f i2 f2:Bool)(a b:Option Addr)(c d:Nat)(es es2:List Ent)(w:World)(h1:es.length≤100000)(h2:es2.length≤100000)(hE:Y5 w a es)(hE2:Y5 w b es2):
 Calls Tryz.prog 34 #[.agg #[.bool i,.slice a es.length c,.bool f],.agg #[.bool i2,.slice b es2.length d,.bool f2]] w (F9 w (Bo4 i f es i2 f2 es2)):=by
 have HE:=Lh hE;have HE2:=Lh hE2;have HS:=Lh (show Bo4 i f es i2 f2 es2=(((i==i2)&&(f==f2))&&decide (es=es2)) from rfl);have HQ:=Lh (fun h h'=>Ex5 (es:=es) (es2:=es2) h h');obtain⟨R,hR⟩:∃R,R=decide (es=es2):=⟨_,rfl⟩;rw[←hR] at HS;have HR:=Lh hR;clear hE hE2 hR;obtain⟨S,hS⟩:∃S,S=Bo4 i f es i2 f2 es2:=⟨_,rfl⟩;rw[←hS] at HS ⊢;clear hS;by_cases hif:(i==i2)=true∧(f==f2)=true∧es.length=es2.length;rotate_left
 ·have hSf:S=false:=by
   rw[HS.out];rcases h1:(i==i2) with _ | _
   ·rfl
   rcases h2:(f==f2) with _ | _
   ·rfl
   rw[HR.out,decide_eq_false (fun h=>hif ⟨h1,h2,by rw[h]⟩)];rfl
  have hne:¬((i=i2∧f=f2)∧es.length=es2.length):=fun h=>hif ⟨by rw[h.1.1];simp,by rw[h.1.2];simp,h.2⟩;subst hSf;have hd:((es.length:Int) != (es2.length:Int))=true∨es.length=es2.length:=by
   by_cases h:es.length=es2.length
   ·exact .inr h
   ·left;rw[bne_iff_ne];omega
  clear HQ HS hif;rcases hd with hd | hd
  ·clear hne;rcases i with _ | _<;>rcases i2 with _ | _<;>rcases f with _ | _<;>rcases f2 with _ | _;all_goals
    go_enter Tryz.func34,Tryz.ntmps34
    go_wp2_with fail
    go_ret;exact⟨rfl,bta (ba w _) _⟩
  ·have hd2:((es.length:Int) != (es2.length:Int))=false:=by simp[hd]
   rcases i with _ | _<;>rcases i2 with _ | _<;>rcases f with _ | _<;>rcases f2 with _ | _;all_goals
    first
    | exact absurd ⟨⟨rfl,rfl⟩,hd⟩ hne
    | (clear hne hd;go_enter Tryz.func34,Tryz.ntmps34;go_wp2_with fail;go_ret;exact⟨rfl,bta (ba w _) _⟩)
 obtain⟨hi,hf,hl⟩:=hif;have hdl:((es.length:Int) != (es2.length:Int))=false:=by simp[hl]
 have hii:(i != i2)=false:=by rw[bne,hi];rfl
 have hff:(f != f2)=false:=by rw[bne,hf];rfl
 have HSR:=Lh (show S=R by rw[HS.out,hi,hf];simp);have Hl:=Lh hl;obtain rfl:i=i2:=by simpa using hi
 obtain rfl:f=f2:=by simpa using hf
 clear HS hl hi hf;rcases i with _ | _<;>rcases f with _ | _;all_goals
  go_enter Tryz.func34,Tryz.ntmps34
  go_wp2_with fail
  generalize hW:World.alloc (World.alloc w _) _=W;have G:=Lh (show Below w.heap.size w W by rw[←hW];exact bta (ba w _) _);have y2:W.cell? ⟨w.heap.size,1,none⟩=some (.slice a es.length c):=by
   rw[←hW];exact((Blk.new w [.bool _,.slice a es.length c,.bool _] _).alloc _).cell 1 (by simp)
  have y3:W.cell? ⟨w.heap.size+1,1,none⟩=some (.slice b es2.length d):=by
   rw[←hW];exact(Bq3 (I9 w _).symm [.bool _,.slice b es2.length d,.bool _] _).cell 1 (by simp)
  clear hW;generalize w.heap.size+1=b3 at y3 ⊢;generalize hb2:w.heap.size=b2 at y2 ⊢
  go_loopw [5] (fun v wr=>∃k:Nat,k≤es.length∧v=.int .i64 (k:Int)∧(∀j,j<k→es.getD j ([],[])=es2.getD j ([],[]))∧(∃n,wr=W.drewN n)) (fun v _=>es.length-(intOf v).toNat)
  case atStart=>exact⟨0,Nat.zero_le _,rfl,fun j hj=>absurd hj (by omega),0,rfl⟩
  case round=>
   obtain⟨k,hk,rfl,hno,nd,hnd⟩:=hrel;have Hno:=Lh hno;have Hnd:=Lh hnd;replace y2:wr.cell? ⟨b2,1,none⟩=some (.slice a es.length c):=by rw[hnd];exact y2
   replace y3:wr.cell? ⟨b3,1,none⟩=some (.slice b es2.length d):=by rw[hnd];exact y3
   have GW:=Lh (show Below W.heap.size W wr by rw[hnd];exact btn (Below.refl _ _) _);have G1:=Lh (show Below w.heap.size w wr from bt G.out (by rw[hnd];exact⟨rfl,rfl,rfl,Nat.le_refl _,fun _ _=>rfl⟩));clear hno hnd;by_cases hlt:k<es.length
   ·have hlt2:k<es2.length:=by have:=Hl.out;omega
    obtain⟨g1,o1,rfl,hg1,hcs1⟩:=(HE.out.mono G1.out).cell (by omega);obtain⟨g2,o2,rfl,hg2,hcs2⟩:=(HE2.out.mono G1.out).cell (by omega);obtain⟨p0,c0,p1,c1,x0,x1,l0,m0,l1,m1,b0,b1⟩:=hcs1 k hlt;obtain⟨q0,d0,q1,d1,z0,z1,s0,t0,s1,t1,u0,u1⟩:=hcs2 k hlt2;obtain⟨e1,he1⟩:∃e,e=es.getD k ([],[]):=⟨_,rfl⟩;obtain⟨e2,he2⟩:∃e,e=es2.getD k ([],[]):=⟨_,rfl⟩;rw[←he1] at x0 x1 b0 b1;rw[←he2] at z0 z1 u0 u1;have KA:=Lh (fun(W':World) (h:Below wr.heap.size wr W')=>(show Calls Tryz.prog 25 #[.slice p0 e1.1.length c0,.slice q0 e2.1.length d0] W' fun e w'=>e=.returned (.bool (e1.1==e2.1))∧w'=W' from(Y8 p0 q0 e1.1.length c0 e2.1.length d0 e1.1 e2.1 W' rfl rfl (b0.mono h) (u0.mono h)).mono fun e w' ⟨p,q⟩=>⟨p,q.symm⟩));have KB:=Lh (fun(W':World) (h:Below wr.heap.size wr W')=>(show Calls Tryz.prog 25 #[.slice p1 e1.2.length c1,.slice q1 e2.2.length d1] W' fun e w'=>e=.returned (.bool (e1.2==e2.2))∧w'=W' from(Y8 p1 q1 e1.2.length c1 e2.2.length d1 e1.2 e2.2 W' rfl rfl (b1.mono h) (u1.mono h)).mono fun e w' ⟨p,q⟩=>⟨p,q.symm⟩));have HF:=Lh (show((e1.1==e2.1)&&(e1.2==e2.2))=true↔e1=e2 from by
     rw[Bool.and_eq_true,beq_iff_eq,beq_iff_eq];exact⟨fun h=>Prod.ext h.1 h.2,fun h=>by rw[h];exact⟨rfl,rfl⟩⟩)
    have hi1:(k:Int)<(es.length:Int):=by omega
    have hi2:(k:Int)<(es2.length:Int):=by omega
    have hi0:(0:Int)≤(k:Int):=by omega
    have He1:=Lh he1;have He2:=Lh he2;clear hcs1 hcs2 l0 m0 l1 m1 b0 b1 s0 t0 s1 t1 u0 u1 he1 he2 hg1 hg2;generalize (e1.1==e2.1)=r1 at HF KA;generalize (e1.2==e2.2)=r2 at HF KB;rcases r1 with _ | _
    ·have hne:S=false:=by
      rw[HSR.out,HR.out,decide_eq_false];intro h;have h2:=HF.out.2 (by rw[He1.out,He2.out,h]);cases h2
     clear HF;go_upto_region 6 with(fail)
     go_big_quiet (first
      | (go_at_call 25;(with_reducible refine Calls.quiet_of_same (KA.out _ (btn (Below.refl _ _) _))))
      | (go_at_call 25;(with_reducible refine Calls.quiet_of_same (KB.out _ (btn (Below.refl _ _) _)))))
     all_goals
      go_wp2_with fail
      go_ret;exact⟨by rw[hne];rfl,G1.out.trans ⟨rfl,rfl,rfl,Nat.le_refl _,fun _ _=>rfl⟩⟩
    ·rcases r2 with _ | _
     ·have hne:S=false:=by
       rw[HSR.out,HR.out,decide_eq_false];intro h;have h2:=HF.out.2 (by rw[He1.out,He2.out,h]);cases h2
      clear HF;go_upto_region 6 with(fail)
      go_big_quiet (first
       | (go_at_call 25;(with_reducible refine Calls.quiet_of_same (KA.out _ (btn (Below.refl _ _) _))))
       | (go_at_call 25;(with_reducible refine Calls.quiet_of_same (KB.out _ (btn (Below.refl _ _) _)))))
      all_goals
       go_wp2_with fail
       go_ret;exact⟨by rw[hne];rfl,G1.out.trans ⟨rfl,rfl,rfl,Nat.le_refl _,fun _ _=>rfl⟩⟩
     ·have heq:=Lh (HF.out.1 rfl);clear HF;go_upto_region 6 with(fail)
      go_big_quiet (first
       | (go_at_call 25;(with_reducible refine Calls.quiet_of_same (KA.out _ (btn (Below.refl _ _) _))))
       | (go_at_call 25;(with_reducible refine Calls.quiet_of_same (KB.out _ (btn (Below.refl _ _) _)))))
      all_goals
       go_wp2_with fail
       exact⟨⟨k+1,by omega,by go_num,fun j hj=>by
        rcases Nat.lt_or_ge j k with h | h
        ·exact Hno.out j h
        ·rw[show j=k by omega,←He1.out,←He2.out];exact heq.out,nd+nq,by rw[Hnd.out,World.drewN_drewN]⟩,by simp[intOf];omega⟩
   ·obtain rfl:k=es.length:=by omega
    have hdn:¬((es.length:Int)<(es.length:Int)):=by omega
    go_wp2_with fail
    go_ret;refine⟨?_,by first | exact G1.out | exact G1.out.trans ⟨rfl,rfl,rfl,Nat.le_refl _,fun _ _=>rfl⟩⟩;have:S=true:=by rw[HSR.out,HR.out,decide_eq_true];exact HQ.out Hl.out Hno.out
    rw[this];rfl
theorem Cj7(es:List Ent)(k b:List UInt8):An6 (Av7 es k b) k b=true:=by
 unfold Av7;rcases h:An6 es k b with _ | _
 ·simp[An6,isF]
 ·exact h
theorem Ea3(es:List Ent)(k b:List UInt8):(Av7 es k b).length=bif An6 es k b then es.length else es.length+1:=by
 unfold Av7;rcases h:An6 es k b with _ | _
 ·simp
 ·rfl
theorem Cb4(i:Bool)(es:List Ent)(k b:List UInt8)(h:An6 es k b=true):Bg2 i es k b (X5 k b)=true:=by unfold Bg2;rw[beq_self_eq_true,h];rfl
theorem Df5{x y:Bool}{a:Option Addr}{n c:Nat}:∀v∈([.bool x,.slice a n c,.bool y]:List Value),∀k m,v≠.int k m:=by
 intro v hv k m;simp only[List.mem_cons,List.not_mem_nil,or_false] at hv;rcases hv with rfl | rfl | rfl<;>intro h<;>cases h
theorem X6{o:Oper}{a:Act}{w:World}{K:Act→World→Prop}{Q:Exit→Act→World→Prop}(ty:TypeId)(x y:Operand)
 (ho:o.op=.store ty x y) (g:Nat) {cs old:List Value} (hx:a.eval x=.pointer (some ⟨g,0,none⟩)) (hy:a.eval y=.agg cs.toArray) {T:TypeId} (hb:A6 T w g old) (hi:(Tryz.prog.info? ty).map (·.size)=some cs.length) (hl:old.length=cs.length) (h1:cs.all (·.oneCell')=true)
 (hK:K (a.put o.dst undef) (w.setRow g cs.toArray)):Oper.wp Tryz.prog o a w K Q:=wp_store_row ty x y ho g cs.toArray hx hy T old.toArray hb (by simpa using hi) (by simpa using hl) (by simpa using h1) hK
theorem Fk7:Ad4 Tryz.prog 35 22 1 24 (.slice none 0 0):=Ad4.mk1 Tryz.underlying35 (by kernel_rfl) rfl (by decide)
theorem Ex6{B:Nat}{e:TypeId}{w w':World}{v:Value}{n:Nat}{xs:List Value}(h:w.ownsRow B e 1 v n xs)(hb:Below w.heap.size w w'):w'.ownsRow B e 1 v n xs:=by
 obtain⟨h1,h2⟩:=h;refine⟨h1,?_⟩;rcases h2 with h2 | ⟨g,cap,cur,hv,hg,hh,r⟩
 ·exact .inl h2
 ·exact .inr ⟨g,cap,cur,hv,hg,by rw[hb.block g (Array.getElem?_eq_some_iff.1 hh).1];exact hh,r⟩
structure Df6 (B:Nat) (w:World) (a:Option Addr) (n cap:Nat) (xs:List Value):Prop where
 len:xs.length=n
 fresh:AtP (fun g=>B≤g) w a xs
 some':∃x,a=some x
 le:n≤cap
 full:cap=n∨w.ownsRow B 22 1 (.slice a n cap) n xs
theorem Df6.up{B:Nat}{w w':World}{a:Option Addr}{n cap:Nat}{xs:List Value}(h:Df6 B w a n cap xs)(hb:Below w.heap.size w w'):Df6 B w' a n cap xs:=
 ⟨h.len,h.fresh.up hb,h.some',h.le,h.full.imp id fun k=>Ex6 k hb⟩
structure Be3 (b:Nat) (w0 w:World):Prop where
 size:w0.heap.size≤w.heap.size
 blk:∀g,g<w0.heap.size→g≠b→w.heap[g]?=w0.heap[g]?
theorem Be3.of{b:Nat}{w0 w:World}(h:Below w0.heap.size w0 w):Be3 b w0 w:=⟨h.size,fun g hg _=>h.block g hg⟩
theorem Be3.row{b:Nat}{w0 w:World}(h:Below w0.heap.size w0 w)(ds:Array Value):Be3 b w0 (w.setRow b ds):=⟨by simpa using h.size,fun g hg hn=>by rw[setRow_other w b g ds hn];exact h.block g hg⟩
theorem A4.neP{w:World}{b:Nat}{cs:List Value}{a:Option Addr}{l:List UInt8}(h:A4 w a l)(hb:Blk w b cs)(hcs:∀v∈cs,∀k n,v≠.int k n):AtP (fun g=>g≠b) w a (B8s l):=by
 by_cases h0:l=[]
 ·subst h0;exact .inl rfl
 rcases h with h | ⟨b',off,rfl,hlt,hc⟩
 ·exact .inl h
 refine .inr ⟨b',off,rfl,?_,hlt,hc⟩;rintro rfl;have hl:0<l.length:=List.length_pos_iff.2 h0;have h1:=hc 0 (by simpa using hl);obtain⟨T,hg⟩:=hb;rw[cell_of_row w b' (off+0) cs.toArray T (0,0) hg] at h1;have h2:=Array.mem_of_getElem? h1;have h3:(B8s l).getD 0 undef=.int .u8 (bv (l.getD 0 0)):=by simp[List.getD,hl]
 rw[h3] at h2;exact hcs _ (by simpa using h2) _ _ rfl
theorem A4.keep{w w':World}{b:Nat}{x y:Bool}{p:Option Addr}{n c:Nat}{a:Option Addr}{l:List UInt8}(h:A4 w a l)(hb:Blk w b [.bool x,.slice p n c,.bool y])(k:Be3 b w w'):A4 w' a l:=
 (AtP.to (A4.neP h hb Df5) (q:=fun _=>True) k.size fun g hg hp=>⟨k.blk g hg hp,trivial⟩).at
theorem Aa2.keep{w w':World}{b:Nat}{x y:Bool}{p:Option Addr}{n c:Nat}{v:Value}{r:List UInt8}(h:Aa2 w v r)(hb:Blk w b [.bool x,.slice p n c,.bool y])(k:Be3 b w w'):Aa2 w' v r:=by
 obtain⟨q,d,h1,h2,h3,h4⟩:=h;exact⟨q,d,h1,h2,h3,A4.keep h4 hb k⟩
theorem Al8.keep{w w':World}{b:Nat}{x y:Bool}{p:Option Addr}{n c:Nat}{vs:List Value}{rows:List (List UInt8)}(h:Al8 w vs rows)(hb:Blk w b [.bool x,.slice p n c,.bool y])(k:Be3 b w w'):Al8 w' vs rows:=
 ⟨h.1,fun i hi=>(h.2 i hi).keep hb k⟩
theorem Y5.keep{w w':World}{b:Nat}{x y:Bool}{a A:Option Addr}{n c:Nat}{es:List Ent}(h:Y5 w A es)(hb:Blk w b [.bool x,.slice a n c,.bool y])(k:Be3 b w w'):Y5 w' A es:=by
 by_cases h0:es=[]
 ·subst h0;exact Y5.nil _ _
 obtain⟨vs,h1,h2,h3⟩:=h;refine⟨vs,h1,?_,fun i hi=>⟨(h3 i hi).1.keep hb k,(h3 i hi).2.keep hb k⟩⟩;rcases h2 with h2 | ⟨g,off,rfl,hlt,hc⟩
 ·exact .inl h2
 refine .inr ⟨g,off,rfl,Nat.lt_of_lt_of_le hlt k.size,fun i hi=>?_⟩;have hne:g≠b:=by
  rintro rfl;have hl:0<es.length:=List.length_pos_iff.2 h0;obtain⟨⟨p0,c0,e0,_⟩,⟨p1,c1,e1,_⟩⟩:=h3 0 hl;have k0:=hc 0 (by rw[h1];omega);have k1:=hc 1 (by rw[h1];omega);rw[show vs.getD 0 undef=_ from e0] at k0;rw[show vs.getD 1 undef=_ from e1] at k1;obtain⟨T,hg⟩:=hb;rw[cell_of_row w g (off+0) _ T (0,0) hg] at k0;rw[cell_of_row w g (off+1) _ T (0,0) hg] at k1
  match off,k0,k1 with
  | 0,k0,_=>simp at k0
  | 1,_,k1=>simp at k1
  | 2,k0,_=>simp at k0
  | off+3,k0,_=>simp at k0
 rw[World.cell?_of_block (w:=w) (a:=⟨g,off+i,none⟩) (k.blk g hlt hne)];exact hc i hi
theorem PrF.keep{w w':World}{b:Nat}{x y:Bool}{a A:Option Addr}{n c N C:Nat}{es:List Ent}(h:PrF w A N C es)(hb:Blk w b [.bool x,.slice a n c,.bool y])(k:Be3 b w w'):PrF w' A N C es:=
 ⟨h.ents.keep hb k,h.hn,h.hc,h.hcm,h.few⟩
theorem Df7(l m:List (List UInt8))(k:Nat)(hl:k<l.length)(hm:k<m.length):l.take (k+1)=m.take (k+1)↔(l.take k=m.take k∧l.getD k []=m.getD k []):=by
 rw[Ad1 l k hl [],Ad1 m k hm []];constructor
 ·intro h;have h1:=List.append_inj h (by simp[List.length_take];omega);exact⟨h1.1,by simpa using h1.2⟩
 ·rintro⟨h1,h2⟩;rw[h1,h2]
theorem Df8(a b:Option Addr)(ca cb:Nat)(l m:List (List UInt8))(hll:l.length≤maxLen)(hmm:m.length≤maxLen)(w:World)(hl:Y3 w a l)(hm:Y3 w b m):
 Calls Tryz.prog 73 #[.slice a l.length ca,.slice b m.length cb] w fun e w'=>e=.returned (.bool (decide (l=m)))∧Below w.heap.size w w':=by
 unfold maxLen at hll hmm;have Hl:=Lh hl;have Hm:=Lh hm;clear hl hm;by_cases hne:l.length=m.length
 ·have hd:((l.length:Int) != (m.length:Int))=false:=by simp[hne]
  have hm2:m.length=l.length:=hne.symm;generalize hML:m.length=ML at *;subst hm2;have HML:=Lh hML;clear hML hne;go_enter Tryz.func73,Tryz.ntmps73
  go_wp2_with fail
  go_loopw [5] (fun v5 wx=>∃k:Nat,k≤l.length∧v5=.int .i64 (k:Int)∧l.take k=m.take k∧Below w.heap.size w wx) (fun v5 _=>l.length-(intOf v5).toNat)
  case atStart=>exact⟨0,Nat.zero_le _,rfl,by simp,Below.refl _ _⟩
  case round=>
   obtain⟨k,hk,rfl,hu,hb⟩:=hrel;have Hu:=Lh hu;have Hb:=Lh hb;clear hu hb;by_cases hlt:k<l.length
   ·obtain⟨ab,ao,ap,ac,rfl,hal,hac,hp1,hp2,hat⟩:=Hl.out.row k hlt;obtain⟨bb,bo,bp,bc,rfl,hbl,hbc,hq1,hq2,hbt⟩:=Hm.out.row k (by rw[HML.out];exact hlt);have c0:wr.cell? ⟨ab,ao+k,none⟩=some (.slice ap (l.getD k []).length ac):=by rw[Hb.out.cell (p:=⟨ab,ao+k,none⟩) hal];exact hac
    have c1:wr.cell? ⟨bb,bo+k,none⟩=some (.slice bp (m.getD k []).length bc):=by rw[Hb.out.cell (p:=⟨bb,bo+k,none⟩) hbl];exact hbc
    have HT:=Lh (Df7 l m k hlt (by rw[HML.out];exact hlt));have Hx:=Lh (show l.getD k []=m.getD k []∨l≠m by
     by_cases h:l=m
     ·exact .inl (by rw[h])
     ·exact .inr h)
    have h1:=fun n=>Ap9 (hat.mono (btn Hb.out n)) 22 9 5 Tryz.underlying22 Tryz.underlying5 Tryz.underlying9 (l.getD k []).length ac rfl;have h2:=fun n=>Ap9 (hbt.mono (btn Hb.out n)) 22 9 5 Tryz.underlying22 Tryz.underlying5 Tryz.underlying9 (m.getD k []).length bc rfl;have h3:=Ap9 (hat.mono (btd Hb.out)) 22 9 5 Tryz.underlying22 Tryz.underlying5 Tryz.underlying9 (l.getD k []).length ac rfl;have h4:=Ap9 (hbt.mono (btd Hb.out)) 22 9 5 Tryz.underlying22 Tryz.underlying5 Tryz.underlying9 (m.getD k []).length bc rfl;have h5:=Ap9 (hat.mono Hb.out) 22 9 5 Tryz.underlying22 Tryz.underlying5 Tryz.underlying9 (l.getD k []).length ac rfl;have h6:=Ap9 (hbt.mono Hb.out) 22 9 5 Tryz.underlying22 Tryz.underlying5 Tryz.underlying9 (m.getD k []).length bc rfl;have hi0:(0:Int)≤(k:Int):=by omega
    have hi1:(k:Int)<(l.length:Int):=by omega
    clear hac hbc hp1 hp2 hq1 hq2 hat hbt;generalize l.getD k []=x at c0 HT Hx h1 h3 h5;generalize m.getD k []=y at c1 HT Hx h2 h4 h6;by_cases hxy:x=y
    ·subst hxy;have HT:=Lh (HT.out.2 ⟨Hu.out,rfl⟩);have hbe:(((⟨x.toArray⟩:ByteArray)).toList != ((⟨x.toArray⟩:ByteArray)).toList)=false:=by simp
     go_wp2_with fail
     go_quiet (fail)
     go_wp2_with fail
     exact⟨⟨k+1,by omega,by go_num,by first | exact HT.out | exact HT.out.2 ⟨Hu.out,trivial⟩,btn Hb.out _⟩,by simp[intOf];omega⟩
    ·have hv:decide (l=m)=false:=decide_eq_false (Hx.out.resolve_left hxy);have hbe:(((⟨x.toArray⟩:ByteArray)).toList != ((⟨y.toArray⟩:ByteArray)).toList)=true:=by
      rw[ByteArray.toList_mk,ByteArray.toList_mk];simpa using hxy
     have hbe2:(x==y)=false:=beq_eq_false_iff_ne.2 hxy;have Hv:=Lh hv;clear hv hxy;go_wp2_with fail
     go_quiet (fail)
     go_wp2_with fail
     go_ret;exact⟨by rw[Hv.out];rfl,btn Hb.out _⟩
   ·obtain rfl:k=l.length:=by omega
    have hv:=Lh (show decide (l=m)=true by
     have h:=Hu.out;rw[List.take_length,List.take_of_length_le (by rw[HML.out];exact Nat.le_refl _)] at h;exact decide_eq_true h)
    go_wp2_with fail
    go_ret;exact⟨by rw[hv.out];rfl,Hb.out⟩
 ·have hd:((l.length:Int) != (m.length:Int))=true:=by simp;omega
  have hv:=Lh (show decide (l=m)=false from decide_eq_false fun h=>hne (by rw[h]));clear hne;go_enter Tryz.func73,Tryz.ntmps73
  go_wp2_with fail
  go_ret;exact⟨by rw[hv.out];rfl,Below.refl _ _⟩
def Aa7(no:Int)(g:G):Bool:=decide (0<no)&&(g.no==no)
def J4(r:Rg)(no:Int):G×Bool:=bif Aa7 no r.c then(r.c,true) else bif Aa7 no r.o then(r.o,true) else bif Aa7 no r.p then(r.p,true) else(G0,false)
structure Az7 (w:World) (r:Rg) (kc ko kp:List UInt8):Prop where
 lc:r.c.len=kc.length
 c:A4 w r.c.a kc
 lo:r.o.len=ko.length
 o:A4 w r.o.a ko
 lp:r.p.len=kp.length
 p:A4 w r.p.a kp
theorem Az7.mono{w w':World}{r:Rg}{kc ko kp:List UInt8}(h:Az7 w r kc ko kp)(hb:Below w.heap.size w w'):Az7 w' r kc ko kp:=
 ⟨h.lc,h.c.mono hb,h.lo,h.o.mono hb,h.lp,h.p.mono hb⟩
def Ac6(n n':Int)(k k':List UInt8):Bool:=(n==n')&&(k==k')
def U1(r s:Rg)(kc ko kp jc jo jp:List UInt8):Bool:=Ac6 r.c.no s.c.no kc jc&&(Ac6 r.o.no s.o.no ko jo&&(Ac6 r.p.no s.p.no kp jp&&((r.l==s.l)&&(r.t==s.t))))
theorem Ep8(r:Rg)(no:Int)(w:World):
 Calls Tryz.prog 133 #[r.v,.int .i64 no] w fun e w'=>e=.returned (.tuple #[.slice (J4 r no).1.a (J4 r no).1.len (J4 r no).1.cap,.bool (J4 r no).2])∧Below w.heap.size w w':=by
 obtain⟨c,o,p,l,t⟩:=r;go_enter Tryz.func133,Tryz.ntmps133
 go_wp2_with fail
 refine(Bu2 c o p l t _).mono ?_;rintro e w1 ⟨rfl,hb1⟩;have Hb1:=Lh (bt (ba w _) hb1);clear hb1;go_wp2_with fail
 go_loopw [11] (fun i wr=>∃k:Int,0≤k∧k≤3∧i=.int .i64 k∧(0<k→Aa7 no c=false)∧(1<k→Aa7 no o=false)∧(2<k→Aa7 no p=false)∧Below w1.heap.size w1 wr) (fun i _=>3-(intOf i).toNat)
 case atStart=>exact⟨0,by omega,by omega,rfl,by omega,by omega,by omega,Below.refl _ _⟩
 case round=>
  obtain⟨k,hk0,hk3,rfl,h0,h1,h2,hb⟩:=hrel;have Hb:=Lh (bt Hb1.out hb);have Hbr:=Lh hb;clear hb;have e0:=fun W=>By9 (.int .i64 c.no) (.slice c.a c.len c.cap) (.int .i64 o.no) (.slice o.a o.len o.cap) (.int .i64 p.no) (.slice p.a p.len p.cap) W;have e1:=fun W=>Bz0 (.int .i64 c.no) (.slice c.a c.len c.cap) (.int .i64 o.no) (.slice o.a o.len o.cap) (.int .i64 p.no) (.slice p.a p.len p.cap) W;have e2:=fun W=>Bz1 (.int .i64 c.no) (.slice c.a c.len c.cap) (.int .i64 o.no) (.slice o.a o.len o.cap) (.int .i64 p.no) (.slice p.a p.len p.cap) W;rcases(show k=0∨k=1∨k=2∨k=3 by omega) with rfl | rfl | rfl | rfl
  ·clear h0 h1 h2;by_cases hn:0<no
   ·have hd:decide (0<no)=true:=by simpa using hn
    rcases hq:(c.no==no) with _ | _
    ·have HK:=Lh (show Aa7 no c=false by simp[Aa7];intro _;simpa using hq);go_wp2_with fail
     exact⟨⟨1,by decide,by decide,rfl,fun _=>HK.out,by omega,by omega,bt Hbr.out (ba _ _)⟩,by simp[intOf]⟩
    ·have HF:=Lh (show J4 ⟨c,o,p,l,t⟩ no=(c,true) by
      have:Aa7 no c=true:=by simp[Aa7,hn];simpa using hq
      simp[J4,this])
     go_wp2_with fail
     go_ret2
     exact⟨by rw[HF.out];rfl,bt Hb.out (ba _ _)⟩
   ·have hd:decide (0<no)=false:=by simpa using hn
    have HK:=Lh (show Aa7 no c=false by simp[Aa7];intro h;exact(hn h).elim);go_wp2_with fail
    exact⟨⟨1,by decide,by decide,rfl,fun _=>HK.out,by omega,by omega,bt Hbr.out (ba _ _)⟩,by simp[intOf]⟩
  ·have H0:=Lh (h0 (by decide));clear h0 h1 h2;by_cases hn:0<no
   ·have hd:decide (0<no)=true:=by simpa using hn
    rcases hq:(o.no==no) with _ | _
    ·have HK:=Lh (show Aa7 no o=false by simp[Aa7];intro _;simpa using hq);go_wp2_with fail
     exact⟨⟨2,by decide,by decide,rfl,fun _=>H0.out,fun _=>HK.out,by omega,bt Hbr.out (ba _ _)⟩,by simp[intOf]⟩
    ·have HF:=Lh (show J4 ⟨c,o,p,l,t⟩ no=(o,true) by
      have:Aa7 no o=true:=by simp[Aa7,hn];simpa using hq
      simp[J4,H0.out,this])
     go_wp2_with fail
     go_ret2
     exact⟨by rw[HF.out];rfl,bt Hb.out (ba _ _)⟩
   ·have hd:decide (0<no)=false:=by simpa using hn
    have HK:=Lh (show Aa7 no o=false by simp[Aa7];intro h;exact(hn h).elim);go_wp2_with fail
    exact⟨⟨2,by decide,by decide,rfl,fun _=>H0.out,fun _=>HK.out,by omega,bt Hbr.out (ba _ _)⟩,by simp[intOf]⟩
  ·have H0:=Lh (h0 (by decide));have H1:=Lh (h1 (by decide));clear h0 h1 h2;by_cases hn:0<no
   ·have hd:decide (0<no)=true:=by simpa using hn
    rcases hq:(p.no==no) with _ | _
    ·have HK:=Lh (show Aa7 no p=false by simp[Aa7];intro _;simpa using hq);go_wp2_with fail
     exact⟨⟨3,by decide,by decide,rfl,fun _=>H0.out,fun _=>H1.out,fun _=>HK.out,bt Hbr.out (ba _ _)⟩,by simp[intOf]⟩
    ·have HF:=Lh (show J4 ⟨c,o,p,l,t⟩ no=(p,true) by
      have:Aa7 no p=true:=by simp[Aa7,hn];simpa using hq
      simp[J4,H0.out,H1.out,this])
     go_wp2_with fail
     go_ret2
     exact⟨by rw[HF.out];rfl,bt Hb.out (ba _ _)⟩
   ·have hd:decide (0<no)=false:=by simpa using hn
    have HK:=Lh (show Aa7 no p=false by simp[Aa7];intro h;exact(hn h).elim);go_wp2_with fail
    exact⟨⟨3,by decide,by decide,rfl,fun _=>H0.out,fun _=>H1.out,fun _=>HK.out,bt Hbr.out (ba _ _)⟩,by simp[intOf]⟩
  ·have HF:=Lh (show J4 ⟨c,o,p,l,t⟩ no=(G0,false) by simp[J4,h0 (by decide),h1 (by decide),h2 (by decide)]);clear h0 h1 h2;go_wp2_with fail
   go_ret2
   exact⟨by rw[HF.out];rfl,Hb.out⟩
theorem Bw2(r:Rg)(no:Int)(w:World):
 Calls Tryz.prog 31 #[r.v,.int .i64 no] w fun e w'=>e=.returned (.tuple #[.slice (J4 r no).1.a (J4 r no).1.len (J4 r no).1.cap,.bool (J4 r no).2])∧Below w.heap.size w w':=by
 obtain⟨c,o,p,l,t⟩:=r;by_cases hn:no<1
 ·have HF:=Lh (show J4 ⟨c,o,p,l,t⟩ no=(G0,false) by
   have:decide (0<no)=false:=by simp;omega
   simp[J4,Aa7,this])
  go_enter Tryz.func31,Tryz.ntmps31
  go_wp2_with fail
  go_ret2
  exact⟨by rw[HF.out];rfl,ba w _⟩
 ·have HD:=Lh (show decide (0<no)=true by simp;omega);rcases hc:(c.no==no) with _ | _
  ·rcases ho:(o.no==no) with _ | _
   ·rcases hp:(p.no==no) with _ | _
    ·have HF:=Lh (show J4 ⟨c,o,p,l,t⟩ no=(G0,false) by simp[J4,Aa7,HD.out,hc,ho,hp]);clear HD;go_enter Tryz.func31,Tryz.ntmps31
     go_wp2_with fail
     go_ret2
     exact⟨by rw[HF.out];rfl,ba w _⟩
    ·have HF:=Lh (show J4 ⟨c,o,p,l,t⟩ no=(p,true) by simp[J4,Aa7,HD.out,hc,ho,hp]);clear HD;go_enter Tryz.func31,Tryz.ntmps31
     go_wp2_with fail
     go_ret2
     exact⟨by rw[HF.out];rfl,ba w _⟩
   ·have HF:=Lh (show J4 ⟨c,o,p,l,t⟩ no=(o,true) by simp[J4,Aa7,HD.out,hc,ho]);clear HD;go_enter Tryz.func31,Tryz.ntmps31
    go_wp2_with fail
    go_ret2
    exact⟨by rw[HF.out];rfl,ba w _⟩
  ·have HF:=Lh (show J4 ⟨c,o,p,l,t⟩ no=(c,true) by simp[J4,Aa7,HD.out,hc]);clear HD;go_enter Tryz.func31,Tryz.ntmps31
   go_wp2_with fail
   go_ret2
   exact⟨by rw[HF.out];rfl,ba w _⟩
theorem Bb4(g h:G)(k j:List UInt8)(w:World)(hg:g.len=k.length)(hh:h.len=j.length)(hk:A4 w g.a k)(hj:A4 w h.a j):
 Calls Tryz.prog 143 #[Cg7 g,Cg7 h] w fun e w'=>e=.returned (.bool (Ac6 g.no h.no k j))∧Below w.heap.size w w':=by
 have Hk:=Lh hk;have Hj:=Lh hj;have Hg:=Lh hg;have Hh:=Lh hh;clear hk hj hg hh;rcases hq:(g.no==h.no) with _ | _
 ·go_enter Tryz.func143,Tryz.ntmps143
  go_wp2_with fail
  go_ret;exact⟨by simp[Ac6, *],bt (ba w _) (ba _ _)⟩
 ·go_enter Tryz.func143,Tryz.ntmps143
  go_wp2_with (go_at_call 25;refine(Y8 g.a h.a g.len g.cap h.len h.cap k j _ Hg.out Hh.out (Hk.out.mono (bt (ba w _) (ba _ _))) (Hj.out.mono (bt (ba w _) (ba _ _)))).mono ?_;rintro e w2 ⟨rfl,rfl⟩)
  go_ret;exact⟨by simp[Ac6, *],bt (ba w _) (ba _ _)⟩
theorem Dg6{w W:World}{a b c:List Value}{A B C:TypeId}(h:((w.alloc (.cells a.toArray A)).alloc (.cells b.toArray B)).alloc (.cells c.toArray C)=W):Blk W w.heap.size a∧Blk W (w.heap.size+1) b∧Blk W (w.heap.size+1+1) c∧Below w.heap.size w W:=by
 obtain⟨h1,h2⟩:=Fl0 h;exact⟨h1.get 0 rfl,h1.get 1 rfl,h1.get 2 rfl,h2⟩
theorem Ck1{W:World}{b:Nat}{r:Rg}{e:Int}{fn:Func}{tmps:Array Value}{p u:Tmp}(h:fn.results=#[.cell p 32,.tmp u])(hp:tmps.getD p undef=.pointer (some ⟨b,0,none⟩))(hu:tmps.getD u undef=.int .i64 e)(hB:Blk W b r.L):
 (results fn tmps).run Tryz.prog W=.ok (.tuple #[r.v,.int .i64 e]) W:=
 G6 h tmps W b hp (.int .i64 e) hu hB Tryz.underlying32 rfl Ab4
theorem Ep9(r:Rg)(w:World):
 Calls Tryz.prog 64 #[r.v] w fun e w'=>e=.returned (.tuple #[(Aw1 r).1.v,.int .i64 (Aw1 r).2])∧Below w.heap.size w w':=by
 obtain⟨c,o,p,l,t⟩:=r;have HI:=Lh Ab4;rcases hP:U3 p with _ | _;all_goals
  go_enter Tryz.func64,Tryz.ntmps64
  go_wp2_with fail
  generalize hW:World.alloc _ _=W;obtain⟨HA,HB,HC,hb⟩:=Dg6 (a:=Aw0 c o p l t) (b:=R0.L) (c:=Aw0 c o p l t) hW;clear hW;refine(Bb3 p _).mono ?_;rintro e w2 ⟨rfl,hb2⟩;have HA:=Lh (HA.up hb2);have HB:=Lh (HB.up hb2);have HC:=Lh (HC.up hb2);have Hb:=Lh (bt hb hb2);clear hb hb2;generalize hn2:w.heap.size+1+1=n2 at HC ⊢;generalize hn1:w.heap.size+1=n1 at HB ⊢;have Hne:=Lh (show n1≠n2 by omega);have Hle:=Lh (show w.heap.size≤n1 by omega);have Hle2:=Lh (show w.heap.size≤n2 by omega);clear hn1 hn2
 ·obtain⟨c0,c1,c2,c3,c4,c5,c6,c7⟩:=J5 HC.out;have fC:=HC.out.frozen;have HC2:=Lh (((((((HC.out.set 2 (.int .i64 c.no)).set 3 (.slice c.a c.len c.cap)).set 0 (.int .i64 p.no)).set 1 (.slice p.a p.len p.cap)).set 4 (.int .i64 0)).set 5 (.slice none 0 0)).set 6 (.int .i64 16));have HB2:=Lh (((((((HB.out.other ⟨n2,2,none⟩ Hne.out (.int .i64 c.no)).other ⟨n2,3,none⟩ Hne.out (.slice c.a c.len c.cap)).other ⟨n2,0,none⟩ Hne.out (.int .i64 p.no)).other ⟨n2,1,none⟩ Hne.out (.slice p.a p.len p.cap)).other ⟨n2,4,none⟩ Hne.out (.int .i64 0)).other ⟨n2,5,none⟩ Hne.out (.slice none 0 0)).other ⟨n2,6,none⟩ Hne.out (.int .i64 16));go_wp2_with (first
   | (refine C4 32 (.tmp 27) n2 (cs:=Aw0 p c G0 16 t) rfl rfl rfl ?hb Tryz.underlying32 rfl HI.out ?_;(case hb=>exact HC2.out))
   | (refine I0 32 (.tmp 2) (.tmp 28) n1 (old:=R0.L) (cs:=Aw0 p c G0 16 t) rfl rfl rfl rfl ?hb HI.out rfl rfl ?_;(case hb=>exact HB2.out)))
  refine bodyPost_ret (Ck1 (r:=⟨p,c,G0,16,t⟩) rfl rfl rfl (HB2.out.row _)) rfl ⟨?_,F6 (((((((Hb.out.setCell Hle2.out _).setCell Hle2.out _).setCell Hle2.out _).setCell Hle2.out _).setCell Hle2.out _).setCell Hle2.out _).setCell Hle2.out _) Hle.out _⟩;simp[Aw1,hP]
 ·go_wp2_with (first
   | (refine C4 32 (.tmp 1) w.heap.size rfl rfl rfl HA.out Tryz.underlying32 rfl HI.out ?_)
   | (refine I0 32 (.tmp 2) (.tmp 11) n1 rfl rfl rfl rfl HB.out HI.out rfl rfl ?_))
  refine bodyPost_ret (Ck1 (r:=⟨c,o,p,l,t⟩) rfl rfl rfl (HB.out.row _)) rfl ⟨?_,F6 Hb.out Hle.out _⟩;simp[Aw1,hP]
theorem Cx1(r:Rg)(w:World)(hp:(r.p.no==0)=U3 r.p):
 Calls Tryz.prog 69 #[r.v] w fun e w'=>e=.returned (.tuple #[(Aw1 r).1.v,.int .i64 (Aw1 r).2])∧Below w.heap.size w w':=by
 obtain⟨c,o,p,l,t⟩:=r;simp only at hp;rcases hP:U3 p with _ | _
 ·rw[hP] at hp;go_enter Tryz.func69,Tryz.ntmps69
  go_wp2_with fail
  refine bodyPost_ret (v:=.tuple #[Bc1 p c G0 16 t,.int .i64 0]) (by simp[results,Tryz.results69,go_sem,G0]) rfl ⟨by simp[Aw1,hP],bt (ba w _) (ba _ _)⟩
 ·rw[hP] at hp;go_enter Tryz.func69,Tryz.ntmps69
  go_wp2_with fail
  refine bodyPost_ret (v:=.tuple #[Bc1 c o p l t,.int .i64 9]) (by simp[results,Tryz.results69,go_sem,G0]) rfl ⟨by simp[Aw1,hP],bt (ba w _) (ba _ _)⟩
theorem Bw3{w W:World}{a b:List Value}{A B:TypeId}(h:(w.alloc (.cells a.toArray A)).alloc (.cells b.toArray B)=W):Blk W w.heap.size a∧Blk W (w.heap.size+1) b∧Below w.heap.size w W:=by
 obtain⟨h1,h2⟩:=Fk9 h;exact⟨h1.get 0 rfl,h1.get 1 rfl,h2⟩
theorem Ch2(r s:Rg)(kc ko kp jc jo jp:List UInt8)(w:World)(hr:Az7 w r kc ko kp)(hs:Az7 w s jc jo jp):
 Calls Tryz.prog 71 #[r.v,s.v] w fun e w'=>e=.returned (.bool (U1 r s kc ko kp jc jo jp))∧Below w.heap.size w w':=by
 have Hr:=Lh hr;have Hs:=Lh hs;clear hr hs;rcases hX:Ac6 r.c.no s.c.no kc jc with _ | _;all_goals
  rcases hY:Ac6 r.o.no s.o.no ko jo with _ | _;all_goals
   rcases hZ:Ac6 r.p.no s.p.no kp jp with _ | _;all_goals
    go_enter Tryz.func71,Tryz.ntmps71
    go_wp2_with fail
    generalize hW:World.alloc _ _=W;obtain⟨HA,HB,hb⟩:=Bw3 (a:=r.L) (b:=s.L) hW;clear hW;have HA:=Lh HA;have HB:=Lh HB;have Hb:=Lh hb;clear hb;refine(Bb4 r.c s.c kc jc _ Hr.out.lc Hs.out.lc (Hr.out.c.mono Hb.out) (Hs.out.c.mono Hb.out)).mono ?_;rintro e w2 ⟨rfl,hb2⟩;have HA:=Lh (HA.out.up hb2);have HB:=Lh (HB.out.up hb2);have Hb:=Lh (bt Hb.out hb2);clear hb2;generalize hn1:w.heap.size+1=n1 at HB ⊢;clear hn1;obtain⟨c0,c1,c2,c3,c4,c5,c6,c7⟩:=J5 HA.out;obtain⟨d0,d1,d2,d3,d4,d5,d6,d7⟩:=J5 HB.out;go_wp2_with (first
     | (go_at_call 143;((with_reducible refine Calls.mono (Bb4 r.o s.o ko jo _ Hr.out.lo Hs.out.lo (Hr.out.o.mono Hb.out) (Hs.out.o.mono Hb.out)) ?_);rintro e w2 ⟨rfl,hb2⟩;have HA:=Lh (HA.out.up hb2);have HB:=Lh (HB.out.up hb2);have Hb:=Lh (bt Hb.out hb2);clear hb2;obtain⟨c0,c1,c2,c3,c4,c5,c6,c7⟩:=J5 HA.out;obtain⟨d0,d1,d2,d3,d4,d5,d6,d7⟩:=J5 HB.out))
     | (go_at_call 143;((with_reducible refine Calls.mono (Bb4 r.p s.p kp jp _ Hr.out.lp Hs.out.lp (Hr.out.p.mono Hb.out) (Hs.out.p.mono Hb.out)) ?_);rintro e w2 ⟨rfl,hb2⟩;have HA:=Lh (HA.out.up hb2);have HB:=Lh (HB.out.up hb2);have Hb:=Lh (bt Hb.out hb2);clear hb2;obtain⟨c0,c1,c2,c3,c4,c5,c6,c7⟩:=J5 HA.out;obtain⟨d0,d1,d2,d3,d4,d5,d6,d7⟩:=J5 HB.out)))
    all_goals
     go_ret;exact⟨by simp[U1, *],Hb.out⟩
abbrev Aw9(c o p:G):List Value:=[.int .i64 c.no,.slice c.a c.len c.cap,.int .i64 o.no,.slice o.a o.len o.cap,.int .i64 p.no,.slice p.a p.len p.cap]
theorem K5{W:World}{b:Nat}{c o p:G}(h:Blk W b (Aw9 c o p)):
 W.cell? ⟨b,0,none⟩=some (.int .i64 c.no)∧W.cell? ⟨b,1,none⟩=some (.slice c.a c.len c.cap)∧W.cell? ⟨b,2,none⟩=some (.int .i64 o.no)∧W.cell? ⟨b,3,none⟩=some (.slice o.a o.len o.cap)∧
 W.cell? ⟨b,4,none⟩=some (.int .i64 p.no)∧W.cell? ⟨b,5,none⟩=some (.slice p.a p.len p.cap):=
 ⟨h.cell 0 (by simp),h.cell 1 (by simp),h.cell 2 (by simp),h.cell 3 (by simp),h.cell 4 (by simp),h.cell 5 (by simp)⟩
end Go.Proofs.YtadpiemjgfndgaaGreatDoor
