/- Proved here, for use further on: MacD EnvA EnvB EnvC EnvD EnvE EnvF EnvG PrA MacE EnvH EnvI EnvJ. Conditions: none but those each theorem names. -/
import Derived.Test.YtadpiemjgfndgaaGreatDoorKb00
import Derived.Test.YtadpiemjgfndgaaGreatDoorKb09
import Derived.Test.YtadpiemjgfndgaaGreatDoorKb08
import Derived.Deep.DeepCutAuto
import Derived.Laws.BitsLemmas
import Derived.OwnWalk
import Derived.Lib.SliceRun
import Derived.ChangeKeysEq
import Derived.Test.YtadpiemjgfndgaaGreatDoorKb02
import Derived.Lib.AppendStr
import Derived.Lib.ConvBytes
import Derived.Lib.AtoiErrMem
import Derived.Deep.RegionHeld3
set_option linter.unusedSimpArgs false
set_option linter.unusedVariables false
set_option maxRecDepth 100000
set_option maxHeartbeats 8000000
namespace Go.Proofs.YtadpiemjgfndgaaGreatDoor
open Go.RowKit
def Be1(u v:Value):Prop:=∀k,u.ownBlock=some k→v.ownBlock=some k→False
theorem Be1.symm{u v:Value}(h:Be1 u v):Be1 v u:=fun k h1 h2=>h k h2 h1
theorem V5.other{B n m:Nat}{w w':World}{v u:Value}{xs ys:List Value}(h:V5 B w u m ys)(hg:w.grownBy w' v.ownBlock)(hd:Be1 u v):V5 B w' u m ys:=by
 obtain⟨⟨h1,h2⟩,h3⟩:=h;refine⟨⟨h1,?_⟩,Nat.le_trans h3 hg.size⟩;rcases h2 with h2 | ⟨g,cap,cur,hv,hgB,hh,r⟩
 ·exact .inl h2
 ·refine .inr ⟨g,cap,cur,hv,hgB,?_,r⟩;rw[hg.block g (Array.getElem?_eq_some_iff.1 hh).1 (fun hx=>hd g (by rw[hv];rfl) hx.symm)];exact hh
theorem Be1.grown{B m:Nat}{w:World}{u v v':Value}{ys:List Value}(hd:Be1 u v)(hu:V5 B w u m ys)(hat:v'.ownBlock=v.ownBlock∨v'.ownBlock=some w.heap.size):Be1 u v':=fun k h1 h2=>by
 rcases hat with hat | hat
 ·exact hd k h1 (hat▸h2)
 ·rw[hat] at h2;injection h2 with h2;have:=(hu.lt h1).2;omega
theorem Af9(l m:List UInt8):B8s (l++m)=B8s l++B8s m:=by simp
theorem V5.nil(w:World):V5 w.heap.size w (.slice none 0 0) 0 []:=⟨⟨rfl,.inl ⟨rfl,rfl⟩⟩,Nat.le_refl _⟩
@[go_sem high] theorem Fo6 (t : TypeId) (a : UInt8) : binOp .xor t (.int .u8 (bv a)) (.int .u8 54) = pure (.int .u8 (bv (a ^^^ 54))) := Fd7 t a 54
@[go_sem high] theorem Fo7 (t : TypeId) (a : UInt8) : binOp .xor t (.int .u8 (bv a)) (.int .u8 92) = pure (.int .u8 (bv (a ^^^ 92))) := Fd7 t a 92
theorem Cj2(k:List UInt8)(b:UInt8)(i:Nat)(h:i<k.length):B8s (Ad2 (k.take (i+1)) b)=B8s (Ad2 (k.take i) b)++B8s [k.getD i 0^^^b]:=by
 rw[Cj0 k b i h,Af9]
def Fn6(W wx:World)(K:List UInt8)(i:Nat)(v6 v7:Value):Prop:=
 ∃(ai ao:Option Addr) (ci co:Nat),v6=.slice ai i ci∧v7=.slice ao i co∧V5 W.heap.size wx v6 i (B8s (Ad2 (K.take i) 54))∧V5 W.heap.size wx v7 i (B8s (Ad2 (K.take i) 92))∧Be1 v6 v7∧Below W.heap.size W wx
theorem Ca6(a b:Option Addr)(c cb:Nat)(key m:List UInt8)(hk:key.length≤100000)(hm:m.length≤90000)(w:World)(hkey:A4 w a key)(hb:A4 w b m):
 Calls Tryz.prog 51 #[.slice a key.length c,.slice b m.length cb] w (Aq7 w (Ar5 key m)):=by
 have HM:=Lh hb;have HBk:=Lh (Cp5 a c key hk w hkey);have HKl:=Lh (Be0 key);have HTg:=Lh (show Ar5 key m=ofF (Ad2 (Ab8 key) 92++ofF (Ad2 (Ab8 key) 54++m)) from rfl);generalize Ab8 key=K at HBk HKl HTg;rw[show K.length=K.length from rfl] at HKl;clear hkey hb;go_enter Tryz.func51,Tryz.ntmps51
 go_wp2_with fail
 refine HBk.out.mono ?_;rintro e w2 ⟨a2,c2,rfl,hown2,hb2⟩;rw[HKl.out];have HK:=Lh (show A4 w2 a2 K from Ar2 hown2);have Hb2:=Lh hb2;clear hown2 hb2 HBk;go_wp2_with fail
 go_loopw [6,7,8] (fun v6 v7 v8 wx=>∃i:Nat,i≤64∧v8=.int .i64 (i:Int)∧Fn6 w2 wx K i v6 v7) (fun _ _ v8 _=>64-(intOf v8).toNat)
 case atStart=>exact⟨0,Nat.zero_le _,rfl,none,none,0,0,rfl,rfl,V5.nil w2,V5.nil w2,(fun k h _=>by cases h),Below.refl _ _⟩
 case round=>
  obtain⟨i,hi,rfl,ai,ao,ci,co,rfl,rfl,hA,hO,hap,hb⟩:=hrel;have HA:=Lh hA;have HO:=Lh hO;have Hap:=Lh hap;have Hb:=Lh hb;clear hA hO hap hb;by_cases hlt:i<64
  ·obtain⟨kb,ko,rfl,hkb,hkc⟩:=Ad5 HK.out (by rw[HKl.out];decide);have Hc:=Lh (show ∀w',Below w2.heap.size w2 w'→w'.cell? ⟨kb,ko+i,none⟩=some (.int .u8 (bv (K.getD i 0))) from fun w' h=>by rw[h.cell (p:=⟨kb,ko+i,none⟩) hkb];exact hkc i (by rw[HKl.out];exact hlt));have H54:=Lh (Cj2 K 54 i (by rw[HKl.out];exact hlt));have H92:=Lh (Cj2 K 92 i (by rw[HKl.out];exact hlt));clear hkc;generalize K.getD i 0=x at Hc H54 H92;have c0:=Hc.out wr Hb.out;have hi1:i+1≤1000:=by omega
   go_wp2_with (first
    | (at_builtin;(refine Ah6 (.tmp 15) (.tmp 21) rfl rfl rfl (HA.out.up (ba wr _)) (news:=B8s [x^^^54]) (m:=1) rfl (U7 wr (B8s [x^^^54]) 5) rfl (M4 _) (by omega) (i+1) rfl (B8s (Ad2 (K.take (i+1)) 54)) H54.out ?_;intro a3 c3 w3 h3 hg3 hat3;have H3:=Lh h3;have HO3:=Lh ((HO.out.up (ba wr _)).other (n:=i) (xs:=[]) hg3 Hap.out.symm);have Hap3:=Lh (Hap.out.symm.grown (HO.out.up (ba wr _)) hat3);have Hb3:=Lh (V3 (bta Hb.out _) (HA.out.up (ba wr _)).own hg3 (HA.out.up (ba wr _)).le (Nat.le_refl _));have d0:=Hc.out w3 Hb3.out;clear h3 hg3 hat3 c0))
    | (at_builtin;(refine Ah6 (.tmp 23) (.tmp 29) rfl rfl rfl (HO3.out.up (ba w3 _)) (news:=B8s [x^^^92]) (m:=1) rfl (U7 w3 (B8s [x^^^92]) 5) rfl (M4 _) (by omega) (i+1) rfl (B8s (Ad2 (K.take (i+1)) 92)) H92.out ?_;intro a4 c4 w4 h4 hg4 hat4;have H4:=Lh h4;have HA4:=Lh ((H3.out.up (ba w3 _)).other (n:=i) (xs:=[]) hg4 Hap3.out.symm);have Hap4:=Lh (Hap3.out.symm.grown (H3.out.up (ba w3 _)) hat4);have Hb4:=Lh (V3 (bta Hb3.out _) (HO3.out.up (ba w3 _)).own hg4 (HO3.out.up (ba w3 _)).le (Nat.le_refl _));clear h4 hg4 hat4 d0)))
   exact⟨⟨i+1,by omega,by go_num,a3,a4,c3,c4,rfl,rfl,HA4.out,H4.out,Hap4.out,Hb4.out⟩,by simp[intOf];omega⟩
  ·obtain rfl:i=64:=by omega
   rw[List.take_of_length_le (by rw[HKl.out];exact Nat.le_refl _)] at HA HO;have HXl:=Lh (show(Ad2 K 54).length=64 by rw[Aw8,HKl.out]);have HYl:=Lh (show(Ad2 K 92).length=64 by rw[Aw8,HKl.out]);generalize Ad2 K 54=X at HA HXl HTg;generalize Ad2 K 92=Y at HO HYl HTg;obtain⟨XM,hXM⟩:∃XM,XM=X++m:=⟨_,rfl⟩;have hXl:XM.length=64+m.length:=by rw[hXM,List.length_append,HXl.out]
   rw[←hXM] at HTg;have HXM:=Lh (show B8s XM=B8s X++B8s m by rw[hXM,Af9]);have HXMl:=Lh hXl;have HD:=Lh (Ag4 XM);have HOf1:=Lh (fun(a':Option Addr) (c':Nat) W'=>Bi4 a' c' XM (by omega) W');generalize ofF XM=D at HTg HOf1 HD;obtain⟨YD,hYD⟩:∃YD,YD=Y++D:=⟨_,rfl⟩;have hYl:YD.length=96:=by rw[hYD,List.length_append,HYl.out,HD.out]
   rw[←hYD] at HTg;have HYD:=Lh (show B8s YD=B8s Y++B8s D by rw[hYD,Af9]);have HYl2:=Lh hYl;have HOf2:=Lh (fun(a':Option Addr) (c':Nat) W'=>Bi4 a' c' YD (by omega) W');clear hXM hXl hYD hYl hlt hi;go_wp2_with (first
    | (at_builtin;(refine Ah6 (.tmp 32) (.tmp 33) rfl rfl rfl HA.out (news:=B8s m) (m:=m.length) rfl (HM.out.mono (bt Hb2.out Hb.out)) (by simp) (M4 _) (by omega) XM.length HXMl.out.symm (B8s XM) HXM.out ?_;intro a3 c3 w3 h3 hg3 hat3;have H3:=Lh h3;have HO3:=Lh (HO.out.other (n:=64) (xs:=[]) hg3 Hap.out.symm);have Hb3:=Lh (V3 Hb.out HA.out.own hg3 HA.out.le (Nat.le_refl _));clear h3 hg3 hat3)))
   refine(HOf1.out a3 c3 w3 H3.out.at).mono ?_;rintro e w4 ⟨a4,c4,rfl,hown4,hb4⟩;have HD4:=Lh (show A4 w4 a4 D from Ar2 hown4);have HO4:=Lh (HO3.out.up hb4);have Hb4:=Lh (bt Hb3.out hb4);rw[HD.out];clear hown4 hb4;go_wp2_with (first
    | (at_builtin;(refine Ah6 (.tmp 31) (.tmp 35) rfl rfl rfl HO4.out (news:=B8s D) (m:=32) rfl HD4.out (by rw[List.length_map,HD.out]) (M4 _) (by omega) YD.length (by rw[HYl2.out]) (B8s YD) HYD.out ?_;intro a5 c5 w5 h5 hg5 hat5;have H5:=Lh h5;have Hb5:=Lh (V3 Hb4.out HO4.out.own hg5 HO4.out.le (Nat.le_refl _));clear h5 hg5 hat5)))
   refine(HOf2.out a5 c5 w5 H5.out.at).mono ?_;rintro e w6 ⟨a6,c6,rfl,hown6,hb6⟩;have hT:ofF YD=Ar5 key m:=HTg.out.symm;have h32:(ofF YD).length=32:=Ag4 _;rw[h32] at hown6 ⊢;rw[hT] at hown6;have H6:=Lh (show A4 w6 a6 (Ar5 key m) from Ar2 hown6);have Hcp:=Lh (show 32≤c6∧c6≤maxLen by obtain⟨_,_,h4,h5,h6⟩:=U6 hown6;cases h4;exact⟨h5,h6⟩);have Hb6:=Lh (bt (bt Hb2.out Hb5.out) hb6);clear hown6 hb6 hT h32;go_wp2_with fail
   go_ret;exact⟨a6,c6,rfl,Hcp.out,H6.out,Hb6.out⟩
def Au4(n i:Nat):UInt8:=UInt8.ofNat (n/256^i)
def Ao3(n w k:Nat):List UInt8:=(List.range w).map fun i=>if w-1-i<k then Au4 n (w-1-i) else 0
def J6(n w:Nat):List UInt8:=Ao3 n w w
theorem Bx5(n w k:Nat):(Ao3 n w k).length=w:=by simp[Ao3]
theorem T7(n w:Nat):(J6 n w).length=w:=Bx5 n w w
theorem Cj3(n w:Nat):B8s (Ao3 n w 0)=List.replicate w (.int .u8 0):=by
 apply List.ext_getElem (by simp[Ao3]);intro i h1 h2;simp[Ao3,bv]
theorem Cp7(n w k P:Nat)(h:k<w)(hP:P+1+k=w)(x:UInt8)(hx:x=Au4 n k):(B8s (Ao3 n w k)).set P (.int .u8 (bv x))=B8s (Ao3 n w (k+1)):=by
 subst hx;apply List.ext_getElem (by simp[Ao3]);intro i h1 h2;have hi:i<w:=by simpa [Ao3] using h2
 by_cases hp:P=i
 ·subst hp;have e1:w-1-P=k:=by omega
  simp[Ao3,e1]
 ·have e1:(w-1-i<k)↔(w-1-i<k+1):=by omega
  simp[Ao3,List.getElem_set,hp];by_cases h3:w-1-i<k
  ·rw[if_pos h3,if_pos (e1.1 h3)]
  ·rw[if_neg h3,if_neg (fun h=>h3 (e1.2 h))]
theorem Cz6(m:Nat):J3 (m:Int)=UInt8.ofNat m:=by
 unfold J3;apply UInt8.toNat_inj.1;rw[UInt8.toNat_ofNat',UInt8.toNat_ofNat'];omega
theorem Dz0(k:Nat):(2:Int)^(8*k)=((256^k:Nat):Int):=by
 rw[Int.pow_mul];norm_cast
theorem Ew3(n k:Nat):J3 ((n:Int)/2^(8*(k:Int)).toNat)=Au4 n k:=by
 rw[show(8*(k:Int)).toNat=8*k by omega,Dz0,←Int.natCast_ediv,Cz6];rfl
theorem Em2(n w:Nat)(h:n<256^w):(n:Int)/2^(8*(w:Int)).toNat=0:=by
 rw[show(8*(w:Int)).toNat=8*w by omega,Dz0,←Int.natCast_ediv,Nat.div_eq_of_lt h];rfl
theorem Ew4(n k N:Nat)(h:N=n/256^k):J3 ((N%256:Nat):Int)=Au4 n k:=by
 rw[Cz6,h];apply UInt8.toNat_inj.1;unfold Au4;rw[UInt8.toNat_ofNat',UInt8.toNat_ofNat'];omega
theorem Dd9(n k:Nat):n/256^k/256=n/256^(k+1):=by rw[Nat.div_div_eq_div_mul,Nat.pow_succ]
def Br0(w:World)(n z:Nat)(e:Ending)(w':World):Prop:=
 e=.returned (.tuple #[.slice (some ⟨w.heap.size,0,none⟩) z z,.int .i64 0])∧A6 5 w' w.heap.size (B8s (J6 n z))∧Below w.heap.size w w'
theorem Ew5(n z:Nat)(hz:1≤z)(hz8:z≤8)(hn:n<256^z)(hn63:n≤9223372036854775807)(w:World):
 Calls Tryz.prog 112 #[.int .i64 n,.int .i64 z] w (Br0 w n z):=by
 obtain⟨Z,hZ⟩:∃Z,Z=List.replicate z (.int .u8 0:Value):=⟨_,rfl⟩;have hmk:∀w,(Instr.makeSlice 22 (.int .i64 z) (.int .i64 z)).run Tryz.prog w=.ok (.slice (some ⟨w.heap.size,0,none⟩) z z) (w.alloc (.cells Z.toArray 5)):=fun w=>by
  rw[hZ];exact Bl2 W5 w .i64 .i64 z (by omega) (by unfold maxLen;omega) rfl
 have HZ:=Lh (show Z=B8s (Ao3 n z 0) by rw[hZ,Cj3]);have hs0:=Co7 3 (n:Int) (8*(z:Int)) .i64 (by omega);rw[Em2 n z hn] at hs0;have d1:¬(z:Int)<1:=by omega
 have d2:¬(8:Int)<(z:Int):=by omega
 have d3:¬(n:Int)<0:=by omega
 clear hZ hn;go_enter Tryz.func112,Tryz.ntmps112
 go_upto_region 1 with(fail)
 go_cut [28] (fun v wx=>v=.bool false∧w=wx)
 case first=>
  by_cases h8:z<8
  ·have hd:(z:Int)<8:=by omega
   have hs1:=hs0 (by omega);clear hs0;go_wp2_with fail
   go_meet
   exact⟨rfl,rfl⟩
  ·have hd:¬(z:Int)<8:=by omega
   clear hs0;go_wp2_with fail
   go_meet
   exact⟨rfl,rfl⟩
 case rest=>
  obtain⟨rfl,rfl⟩:=hcut;clear hs0;go_wp2_with fail
  generalize hW:World.alloc w _=W;have hB0:A6 5 W w.heap.size (B8s (Ao3 n z 0))∧Below w.heap.size w W:=by rw[←hW,←HZ.out];exact⟨A6.new w Z _,ba w _⟩
  clear hW HZ hmk
  go_loopw [33] (fun v wx=>∃k:Nat,k≤z∧v=.int .i64 k∧A6 5 wx w.heap.size (B8s (Ao3 n z k))∧Below w.heap.size w wx) (fun v _=>z-(intOf v).toNat)
  case atStart=>exact⟨0,Nat.zero_le _,rfl,hB0.1,hB0.2⟩
  case round=>
   clear hB0;obtain⟨k,hk,rfl,hB,hb⟩:=hrel;have HB:=Lh hB;have Hb:=Lh hb;clear hB hb;by_cases hlt:k<z
   ·obtain⟨P,hP⟩:∃P,P+1+k=z:=⟨z-1-k,by omega⟩;have hPi:(z:Int)-1-k=(P:Int):=by omega
    have hs:=Co7 3 (n:Int) (8*(k:Int)) .i64 (by omega) (by omega);have hw:=Ay2 ((n:Int)/2^(8*(k:Int)).toNat);have Hset:=Lh (Cp7 n z k P hlt hP _ (Ew3 n k));have hcell:=HB.out.blk.cell P (by rw[List.length_map,Bx5];omega);have hfr:=HB.out.blk.frozen;generalize J3 ((n:Int)/2^(8*(k:Int)).toNat)=x at hw Hset;generalize (n:Int)/2^(8*(k:Int)).toNat=y at hw hs;go_wp2_with fail
    refine⟨⟨k+1,by omega,by go_num,?_,?_⟩,by simp[intOf];omega⟩
    ·rw[←Hset.out];exact HB.out.set P _
    ·exact Hb.out.setCell (Nat.le_refl _) _
   ·obtain rfl:k=z:=by omega
    go_wp2_with fail
    go_ret2
    exact⟨rfl,HB.out,Hb.out⟩
theorem Dz1(z:Nat)(hz:z≤7)(w:World):
 Calls Tryz.prog 168 #[.int .i64 256,.int .i64 z] w fun e w'=>e=.returned (.int .i64 ((256^z:Nat):Int))∧w=w':=by
 go_enter Tryz.func168,Tryz.ntmps168
 go_wp2_with fail
 go_loopw [5,6] (fun v5 v6 wx=>∃k p:Nat,k≤z∧p=256^k∧v5=.int .i64 p∧v6=.int .i64 k∧w=wx) (fun _ v6 _=>z-(intOf v6).toNat)
 case atStart=>exact⟨0,1,Nat.zero_le _,rfl,rfl,rfl,rfl⟩
 case round=>
  obtain⟨k,p,hk,hp,rfl,rfl,rfl⟩:=hrel;by_cases hlt:k<z
  ·have hp6:p≤281474976710656:=by rw[hp];exact Nat.le_trans (Nat.pow_le_pow_right (by decide) (by omega:k≤6)) (by decide)
   have Hp:=Lh hp;clear hp;go_wp2_with fail
   exact⟨⟨k+1,p*256,by omega,by rw[Hp.out,Nat.pow_succ],by go_num,by go_num,by trivial⟩,by simp[intOf];omega⟩
  ·obtain rfl:k=z:=by omega
   have Hp:=Lh hp;clear hp;go_wp2_with fail
   go_ret;exact⟨by rw[Hp.out];rfl,rfl⟩
theorem Ay9(n z:Nat)(hz:1≤z)(hz8:z≤8)(hn:n<256^z)(hn63:n≤9223372036854775807)(w:World):
 Calls Tryz.prog 113 #[.int .i64 n,.int .i64 z] w (Br0 w n z):=by
 obtain⟨Z,hZ⟩:∃Z,Z=List.replicate z (.int .u8 0:Value):=⟨_,rfl⟩;have hmk:∀w,(Instr.makeSlice 22 (.int .i64 z) (.int .i64 z)).run Tryz.prog w=.ok (.slice (some ⟨w.heap.size,0,none⟩) z z) (w.alloc (.cells Z.toArray 5)):=fun w=>by
  rw[hZ];exact Bl2 W5 w .i64 .i64 z (by omega) (by unfold maxLen;omega) rfl
 have HZ:=Lh (show Z=B8s (Ao3 n z 0) by rw[hZ,Cj3]);have d1:¬(z:Int)<1:=by omega
 have d2:¬(8:Int)<(z:Int):=by omega
 have d3:¬(n:Int)<0:=by omega
 have HP:=Lh (fun(h:z≤7)=>Dz1 z h);obtain⟨p,hp⟩:∃p,p=256^z:=⟨_,rfl⟩;rw[←hp] at HP hn;have Hn:=Lh hn;clear hZ hn hp;go_enter Tryz.func113,Tryz.ntmps113
 go_upto_region 3 with(fail)
 go_cut [25] (fun v wx=>v=.bool false∧w=wx)
 case first=>
  by_cases h8:z<8
  ·have hd:(z:Int)<8:=by omega
   go_wp2_with (first | (go_at_call 168;go_must ((refine(HP.out (by omega) _).mono ?_);rintro e w2 ⟨rfl,rfl⟩;have hd4:¬p≤n:=(by have:=Hn.out;omega))))
   go_meet
   exact⟨rfl,rfl⟩
  ·have hd:¬(z:Int)<8:=by omega
   go_wp2_with fail
   go_meet
   exact⟨rfl,rfl⟩
 case rest=>
  obtain⟨rfl,rfl⟩:=hcut;go_wp2_with fail
  generalize hW:World.alloc w _=W;have hB0:A6 5 W w.heap.size (B8s (Ao3 n z 0))∧Below w.heap.size w W:=by rw[←hW,←HZ.out];exact⟨A6.new w Z _,ba w _⟩
  clear hW HZ hmk HP Hn
  go_loopw [0,7] (fun v0 v7 wx=>∃(k N:Nat) (x:Int),k≤z∧N=n/256^k∧x=(z:Int)-1-k∧v0=.int .i64 N∧v7=.int .i64 x∧A6 5 wx w.heap.size (B8s (Ao3 n z k))∧Below w.heap.size w wx) (fun _ v7 _=>(intOf v7+1).toNat)
  case atStart=>exact⟨0,n,(z:Int)-1,Nat.zero_le _,by simp,by omega,rfl,by first | rfl | go_num,hB0.1,hB0.2⟩
  case round=>
   clear hB0;obtain⟨k,N,x,hk,hN,hx,rfl,rfl,hB,hb⟩:=hrel;have HB:=Lh hB;have Hb:=Lh hb;clear hB hb;have HN:=Lh hN;have hN63:N≤9223372036854775807:=by rw[hN];exact Nat.le_trans (Nat.div_le_self _ _) hn63
   clear hN;by_cases hlt:k<z
   ·obtain⟨P,hP⟩:∃P,P+1+k=z:=⟨z-1-k,by omega⟩;obtain rfl:x=(P:Int):=by omega
    have hr:Int.tmod (N:Int) 256=((N%256:Nat):Int):=by rw[Int.tmod_eq_emod_of_nonneg (by omega)];simp
    have hq:Int.tdiv (N:Int) 256=((N/256:Nat):Int):=by rw[Int.tdiv_eq_ediv_of_nonneg (by omega)];simp
    have hw:=Ay2 ((N%256:Nat):Int);have Hset:=Lh (Cp7 n z k P hlt hP _ (Ew4 n k N HN.out));have HN2:=Lh (show N/256=n/256^(k+1) by rw[HN.out,Dd9]);have hcell:=HB.out.blk.cell P (by rw[List.length_map,Bx5];omega);have hfr:=HB.out.blk.frozen;generalize J3 ((N%256:Nat):Int)=y at hw Hset;have hm:N%256≤255:=by omega
    have hdv:N/256≤9223372036854775807:=by omega
    generalize N%256=R at hr hw hm;generalize N/256=M at hq HN2 hdv;have Hx:=Lh hx;clear hx;go_wp2_with fail
    refine⟨⟨k+1,M,(P:Int)-1,by omega,HN2.out,by omega,by first | rfl | go_num,by first | rfl | go_num,?_,?_⟩,by first | (simp[intOf];done) | (simp[intOf];omega)⟩
    ·rw[←Hset.out];exact HB.out.set P _
    ·exact Hb.out.setCell (Nat.le_refl _) _
   ·obtain rfl:k=z:=by omega
    have hd:¬(0:Int)≤x:=by omega
    have Hx:=Lh hx;clear hx;go_wp2_with fail
    go_ret2
    exact⟨rfl,HB.out,Hb.out⟩
def I2(l:List UInt8)(at_:Nat):Nat→Nat
 | 0=>0
 | k+1=>I2 l at_ k*256+(l.getD (at_+k) 0).toNat
theorem Cz7(l:List UInt8)(at_:Nat):∀k,I2 l at_ k<256^k
 | 0=>by simp[I2]
 | k+1=>by
   have h1:=Cz7 l at_ k;have h2:=(l.getD (at_+k) 0).toNat_lt;show I2 l at_ k*256+(l.getD (at_+k) 0).toNat<256^(k+1);rw[Nat.pow_succ];omega
theorem Cp8(l:List UInt8)(at_:Nat)(h:(l.getD at_ 0).toNat≤127):∀k,I2 l at_ (k+1)<128*256^k
 | 0=>by
   show 0*256+(l.getD (at_+0) 0).toNat<128*256^0;rw[Nat.add_zero];omega
 | k+1=>by
   have h1:=Cp8 l at_ h k;have h2:=(l.getD (at_+(k+1)) 0).toNat_lt;show I2 l at_ (k+1)*256+(l.getD (at_+(k+1)) 0).toNat<128*256^(k+1);rw[Nat.pow_succ,←Nat.mul_assoc];omega
theorem Cz8(l:List UInt8)(at_ z k:Nat)(hz:z≤8)(h:z=8→(l.getD at_ 0).toNat≤127)(hk:k<z):I2 l at_ k*256+255≤9223372036854775807:=by
 by_cases h7:k=7
 ·subst h7;have:=Cp8 l at_ (h (by omega)) 6;have e:128*256^6=36028797018963968:=by decide
  rw[e] at this;change I2 l at_ 7<_ at this;omega
 ·have h1:=Cz7 l at_ k;have h2:256^k≤256^6:=Nat.pow_le_pow_right (by decide) (by omega);have e:256^6=281474976710656:=by decide
  omega
theorem Bd5(m:Nat)(h:m≤9223372036854775807):IntKind.i64.wrap (m:Int)=(m:Int):=by rw[IntKind.wrap_i64];omega
theorem Fe1(t:TypeId)(n b:Nat)(hb:b<256)(hn:n*256+b≤9223372036854775807):binOp .or t (.int .i64 ((n*256:Nat):Int)) (.int .i64 (b:Int))=pure (.int .i64 ((n*256+b:Nat):Int)):=by
 show pure (Value.int .i64 (IntKind.i64.wrap (((BitVec.ofInt 64 ((n*256:Nat):Int) ||| BitVec.ofInt 64 (b:Int)).toNat:Nat):Int)))=_;have e:(BitVec.ofInt 64 ((n*256:Nat):Int) ||| BitVec.ofInt 64 (b:Int)).toNat=n*256+b:=by
  rw[BitVec.ofInt_natCast,BitVec.ofInt_natCast,BitVec.toNat_or,BitVec.toNat_ofNat,BitVec.toNat_ofNat,Nat.mod_eq_of_lt (by omega),Nat.mod_eq_of_lt (by omega)];have:=Nat.shiftLeft_add_eq_or_of_lt (i:=8) (b:=b) (by omega) n;rw[Nat.shiftLeft_eq] at this;exact this.symm
 rw[e,Bd5 _ hn]
theorem Ew6(t:TypeId)(n:Nat)(hn:n*256≤9223372036854775807):binOp .shl t (.int .i64 (n:Int)) (.int .u64 8)=pure (.int .i64 ((n*256:Nat):Int)):=by
 show Op.shift .shl .i64 (n:Int) .u64 8=_;unfold Op.shift;rw[if_neg (by omega)];show pure (Value.int .i64 (IntKind.i64.wrap ((n:Int)*2^(Int.toNat 8))))=_;rw[show(2:Int)^(Int.toNat 8)=256 by decide,show(n:Int)*256=((n*256:Nat):Int) by omega,Bd5 _ hn]
theorem Cz9{P:Program}(s d:TypeId)(hs:(P.underlying s).isSome=true)(hd:P.underlying d=some (.int .i64))(x:UInt8)(w:World):(convert s d (.int .u8 (bv x))).run P w=.ok (.int .i64 (x.toNat:Int)) w:=by
 obtain⟨d',hd'⟩:=Option.isSome_iff_exists.mp hs;have h:=x.toNat_lt;have e:IntKind.i64.wrap (bv x)=(x.toNat:Int):=by rw[IntKind.wrap_i64];unfold bv;omega
 simp[convert,run_underlying hd',run_underlying hd,Conv.intToInt,e]
def Bt9(w:World)(l:List UInt8)(at_ z:Nat)(e:Ending)(w':World):Prop:=
 e=.returned (.tuple (if z=8∧127<(l.getD at_ 0).toNat then#[.int .i64 0,.int .i64 0,.int .i64 2] else#[.int .i64 (I2 l at_ z),.int .i64 ((at_+z:Nat):Int),.int .i64 0]))∧w=w'
theorem Dz2(x:UInt8):bv x=(x.toNat:Int):=rfl
theorem Cw0(a:Option Addr)(c:Nat)(l:List UInt8)(at_ z:Nat)(hz:1≤z)(hz8:z≤8)(hat:at_+z≤l.length)(hc:l.length≤c)(hc63:c≤maxLen)(w:World)(h:A4 w a l):
 Calls Tryz.prog 182 #[.slice a l.length c,.int .i64 at_,.int .i64 z] w (Bt9 w l at_ z):=by
 unfold maxLen at hc63;have d1:¬(z:Int)<1:=by omega
 have d2:¬(8:Int)<(z:Int):=by omega
 have d3:¬(at_:Int)<0:=by omega
 have d4:¬(l.length:Int)<(at_:Int):=by omega
 have d5:¬(l.length:Int)-(at_:Int)<(z:Int):=by omega
 obtain⟨b,off,rfl,hbw,hcs⟩:=Ad5 h (by omega);have Hcs:=Lh hcs;obtain⟨V,hV⟩:∃V:Array Value,V=(if z=8∧127<(l.getD at_ 0).toNat then#[.int .i64 0,.int .i64 0,.int .i64 2] else#[.int .i64 (I2 l at_ z),.int .i64 ((at_+z:Nat):Int),.int .i64 0]):=⟨_,rfl⟩;have HV:=Lh hV;unfold Bt9;rw[←hV];clear hV hcs;have h0:w.cell? ⟨b,off+at_,none⟩=some (.int .u8 (bv (l.getD at_ 0))):=Hcs.out at_ (by omega);have H127:=Lh (show(127:Int)<bv (l.getD at_ 0)↔127<(l.getD at_ 0).toNat by rw[Dz2];omega);have Hget:=Lh (show l.getD at_ 0=l.getD at_ 0 from rfl);have H63:=Lh (fun k=>Cz8 l at_ z k hz8);obtain⟨x0,hx0⟩:∃x0,x0=l.getD at_ 0:=⟨_,rfl⟩;rw[←hx0] at h0 H127 HV H63;clear Hget hx0;by_cases hbad:z=8∧127<x0.toNat
 ·obtain⟨rfl,h127⟩:=hbad;have hd:(127:Int)<bv x0:=H127.out.2 h127;have HV2:=Lh (show V=#[.int .i64 0,.int .i64 0,.int .i64 2] by rw[HV.out,if_pos ⟨rfl,h127⟩]);clear HV H63;go_enter Tryz.func182,Tryz.ntmps182
  go_wp2_with fail
  go_ret3
  exact⟨by rw[HV2.out];rfl,rfl⟩
 ·have HV2:=Lh (show V=#[.int .i64 (I2 l at_ z),.int .i64 ((at_+z:Nat):Int),.int .i64 0] by rw[HV.out,if_neg hbad]);have H63':=Lh (fun k=>H63.out k (fun h8=>by rcases Nat.lt_or_ge 127 x0.toNat with h | h;exact(hbad ⟨h8,h⟩).elim;exact h));have Hbad:=Lh hbad;clear HV H63;go_enter Tryz.func182,Tryz.ntmps182
  go_upto_region 5 with(fail)
  go_cut [36] (fun v wx=>v=.bool false∧w=wx)
  case first=>
   by_cases h8:z=8
   ·subst h8;have hd:¬(127:Int)<bv x0:=fun h=>Hbad.out ⟨rfl,H127.out.1 h⟩;go_wp2_with fail
    go_meet
    exact⟨rfl,rfl⟩
   ·have hd:¬(z:Int)=8:=by omega
    go_wp2_with fail
    go_meet
    exact⟨rfl,rfl⟩
  case rest=>
   obtain⟨rfl,rfl⟩:=hcut;have hsl:=fun W=>Bm5 Tryz.underlying22 Ai1 W (some ⟨b,off,none⟩) l.length c (at_:Int) ((at_:Int)+(z:Int)) (by omega) (by omega) (by omega);rw[show((at_:Int)+(z:Int)).toNat-(at_:Int).toNat=z by omega,Int.toNat_natCast] at hsl;have hadv:adv (some ⟨b,off,none⟩) c at_ 1=some ⟨b,off+at_,none⟩:=by unfold adv;rw[if_neg (by omega)];simp[Addr.add]
   rw[hadv] at hsl;clear hadv;go_wp2_with fail
   go_loopw [9,53] (fun v9 v53 wx=>∃k N:Nat,k≤z∧N=I2 l at_ k∧v9=.int .i64 N∧v53=.int .i64 k∧w=wx) (fun _ v53 _=>z-(intOf v53).toNat)
   case atStart=>exact⟨0,0,Nat.zero_le _,rfl,rfl,rfl,rfl⟩
   case round=>
    obtain⟨k,N,hk,hN,rfl,rfl,rfl⟩:=hrel;by_cases hlt:k<z
    ·have hck:w.cell? ⟨b,off+at_+k,none⟩=some (.int .u8 (bv (l.getD (at_+k) 0))):=by rw[Nat.add_assoc];exact Hcs.out (at_+k) (by omega)
     have hb:=H63'.out k hlt;rw[←hN] at hb;have HN:=Lh (show I2 l at_ (k+1)=N*256+(l.getD (at_+k) 0).toNat by rw[hN];rfl);generalize l.getD (at_+k) 0=x at hck HN;have hx:=x.toNat_lt;have h1:=Ew6 3 N (by omega);have h2:=Cz9 (P:=Tryz.prog) 5 3 (by kernel_rfl) Tryz.underlying3 x;have h3:=Fe1 3 N x.toNat hx (by omega);rw[←HN.out] at h3;have Hb:=Lh hb;clear hN hb hx;generalize x.toNat=M at h2 h3;obtain⟨N',hN'⟩:∃N',N'=I2 l at_ (k+1):=⟨_,rfl⟩;rw[←hN'] at h3;have HN':=Lh hN';clear hN' HN;generalize N*256=S at h1 h3;go_wp2_with fail
     exact⟨⟨k+1,N',by omega,HN'.out,rfl,by go_num,by trivial⟩,by first | (simp[intOf];done) | (simp[intOf];omega)⟩
    ·obtain rfl:k=z:=by omega
     have HN:=Lh hN;have hat2:(at_:Int)+(k:Int)=((at_+k:Nat):Int):=by omega
     generalize at_+k=T at hat2 HV2;clear hN hsl;go_wp2_with fail
     go_ret3
     exact⟨by rw[HV2.out,←HN.out];rfl,rfl⟩
theorem Cf3(a:Option Addr)(c:Nat)(l:List UInt8)(at_ z:Nat)(hz:1≤z)(hz8:z≤8)(hat:at_+z≤l.length)(hc:l.length≤c)(hc63:c≤maxLen)(w:World)(h:A4 w a l):
 Calls Tryz.prog 186 #[.slice a l.length c,.int .i64 at_,.int .i64 z] w (Bt9 w l at_ z):=by
 unfold maxLen at hc63;have d1:¬(z:Int)<1:=by omega
 have d2:¬(8:Int)<(z:Int):=by omega
 have d3:¬(at_:Int)<0:=by omega
 have d4:¬(l.length:Int)<(at_:Int):=by omega
 have d5:¬(l.length:Int)-(at_:Int)<(z:Int):=by omega
 obtain⟨b,off,rfl,hbw,hcs⟩:=Ad5 h (by omega);have Hcs:=Lh hcs;obtain⟨V,hV⟩:∃V:Array Value,V=(if z=8∧127<(l.getD at_ 0).toNat then#[.int .i64 0,.int .i64 0,.int .i64 2] else#[.int .i64 (I2 l at_ z),.int .i64 ((at_+z:Nat):Int),.int .i64 0]):=⟨_,rfl⟩;have HV:=Lh hV;unfold Bt9;rw[←hV];clear hV hcs;have h0:w.cell? ⟨b,off+at_,none⟩=some (.int .u8 (bv (l.getD at_ 0))):=Hcs.out at_ (by omega);have H127:=Lh (show(128:Int)≤bv (l.getD at_ 0)↔127<(l.getD at_ 0).toNat by rw[Dz2];omega);have Hget:=Lh (show l.getD at_ 0=l.getD at_ 0 from rfl);have H63:=Lh (fun k=>Cz8 l at_ z k hz8);obtain⟨x0,hx0⟩:∃x0,x0=l.getD at_ 0:=⟨_,rfl⟩;rw[←hx0] at h0 H127 HV H63;clear Hget hx0;by_cases hbad:z=8∧127<x0.toNat
 ·obtain⟨rfl,h127⟩:=hbad;have hd:(128:Int)≤bv x0:=H127.out.2 h127;have HV2:=Lh (show V=#[.int .i64 0,.int .i64 0,.int .i64 2] by rw[HV.out,if_pos ⟨rfl,h127⟩]);clear HV H63;go_enter Tryz.func186,Tryz.ntmps186
  go_wp2_with fail
  go_ret3
  exact⟨by rw[HV2.out];rfl,rfl⟩
 ·have HV2:=Lh (show V=#[.int .i64 (I2 l at_ z),.int .i64 ((at_+z:Nat):Int),.int .i64 0] by rw[HV.out,if_neg hbad]);have H63':=Lh (fun k=>H63.out k (fun h8=>by rcases Nat.lt_or_ge 127 x0.toNat with h | h;exact(hbad ⟨h8,h⟩).elim;exact h));have Hbad:=Lh hbad;clear HV H63;go_enter Tryz.func186,Tryz.ntmps186
  go_upto_region 5 with(fail)
  go_cut [41] (fun v wx=>v=.bool false∧w=wx)
  case first=>
   by_cases h8:z=8
   ·subst h8;have hd:¬(128:Int)≤bv x0:=fun h=>Hbad.out ⟨rfl,H127.out.1 h⟩;go_wp2_with fail
    go_meet
    exact⟨rfl,rfl⟩
   ·have hd:¬(z:Int)=8:=by omega
    go_wp2_with fail
    go_meet
    exact⟨rfl,rfl⟩
  case rest=>
   obtain⟨rfl,rfl⟩:=hcut;go_wp2_with fail
   go_loopw [9,10] (fun v9 v10 wx=>∃k N:Nat,k≤z∧N=I2 l at_ k∧v9=.int .i64 N∧v10=.int .i64 k∧w=wx) (fun _ v10 _=>z-(intOf v10).toNat)
   case atStart=>exact⟨0,0,Nat.zero_le _,rfl,rfl,rfl,rfl⟩
   case round=>
    obtain⟨k,N,hk,hN,rfl,rfl,rfl⟩:=hrel;by_cases hlt:k<z
    ·have hck:w.cell? ⟨b,off+(at_+k),none⟩=some (.int .u8 (bv (l.getD (at_+k) 0))):=by exact Hcs.out (at_+k) (by omega)
     have hb:=H63'.out k hlt;rw[←hN] at hb;have HN:=Lh (show I2 l at_ (k+1)=N*256+(l.getD (at_+k) 0).toNat by rw[hN];rfl);generalize l.getD (at_+k) 0=x at hck HN;have hx:=x.toNat_lt;have h1:(256:Int)*(N:Int)=((N*256:Nat):Int):=by omega
     have hat2:(at_:Int)+(k:Int)=((at_+k:Nat):Int):=by omega
     have hatl:at_+k<l.length:=by omega
     have h2:=Cz9 (P:=Tryz.prog) 5 3 (by kernel_rfl) Tryz.underlying3 x;have h3:((N*256:Nat):Int)+(x.toNat:Int)=((I2 l at_ (k+1):Nat):Int):=by rw[HN.out];omega
     have h4:N*256≤9223372036854775807:=by omega
     have h5:I2 l at_ (k+1)≤9223372036854775807:=by rw[HN.out];omega
     have Hb:=Lh hb;clear hN hb hx;have hM:=x.toNat_lt;generalize x.toNat=M at h2 h3 hM;obtain⟨N',hN'⟩:∃N',N'=I2 l at_ (k+1):=⟨_,rfl⟩;rw[←hN'] at h3 h5;have HN':=Lh hN';clear hN' HN;generalize N*256=S at h1 h3 h4;generalize at_+k=P at hat2 hatl hck;go_wp2_with fail
     exact⟨⟨k+1,N',by omega,HN'.out,rfl,by go_num,by trivial⟩,by first | (simp[intOf];done) | (simp[intOf];omega)⟩
    ·obtain rfl:k=z:=by omega
     have HN:=Lh hN;have hat2:(at_:Int)+(k:Int)=((at_+k:Nat):Int):=by omega
     generalize at_+k=T at hat2 HV2;clear hN;go_wp2_with fail
     go_ret3
     exact⟨by rw[HV2.out,←HN.out];rfl,rfl⟩
abbrev Az0(k d e0 e1 g s:Int)(vb vt:Value):Value:=.agg #[.int .i64 k,.int .i64 d,.int .i64 e0,.int .i64 e1,.int .i64 g,.int .i64 s,vb,vt]
def wB(x hi:Int):Bool:=decide (0≤x)&&decide (x≤hi)
abbrev An2:Int:=4611686018427387904
def Bi6(k:Int):Bool:=decide (k=1) || decide (k=2)
def Bn5(n:Nat):Bool:=decide (1≤n)&&decide (n≤900)
def Ai8(k d e0 e1 g s:Int)(n:Nat):Bool:=Bi6 k&&(wB e0 An2&&(wB e1 An2&&(wB s An2&&(wB d 1&&(wB g 2147483647&&Bn5 n)))))
def Af5(k d e0 e1 g s:Int)(n m:Nat):Bool:=Ai8 k d e0 e1 g s n&&decide (m=16)
theorem Ag6(n hi:Int)(w:World):
 Calls Tryz.prog 200 #[.int .i64 n,.int .i64 hi] w fun e w'=>e=.returned (.bool (wB n hi))∧w=w':=by
 go_enter Tryz.func200,Tryz.ntmps200
 go_wp2_with fail
 all_goals
  go_ret;exact⟨by simp[wB, *]<;>omega,rfl⟩
theorem De0(n:Int)(w:World):
 Calls Tryz.prog 144 #[.int .i64 n] w fun e w'=>e=.returned (.bool (wB n An2))∧w=w':=by
 go_enter Tryz.func144,Tryz.ntmps144
 go_wp2_with fail
 all_goals
  go_ret;exact⟨by simp[wB,An2, *]<;>omega,rfl⟩
theorem Fe2(a b c:Value)(w:World):(Instr.index 232 (.agg #[a,b,c]) (.int .i64 0)).run Tryz.prog w=.ok a w:=by kernel_rfl
theorem Fe3(a b c:Value)(w:World):(Instr.index 232 (.agg #[a,b,c]) (.int .i64 1)).run Tryz.prog w=.ok b w:=by kernel_rfl
theorem Fe4(a b c:Value)(w:World):(Instr.index 232 (.agg #[a,b,c]) (.int .i64 2)).run Tryz.prog w=.ok c w:=by kernel_rfl
theorem Cj4(k d e0 e1 g s:Int)(ba_ ta:Option Addr)(n bc m tc:Nat)(hn:n≤maxLen)(w:World):
 Calls Tryz.prog 173 #[Az0 k d e0 e1 g s (.slice ba_ n bc) (.slice ta m tc)] w fun e w'=>e=.returned (.bool (Ai8 k d e0 e1 g s n))∧Below w.heap.size w w':=by
 unfold maxLen at hn;obtain⟨V,hV⟩:∃V,V=Ai8 k d e0 e1 g s n:=⟨_,rfl⟩;rw[←hV];by_cases hk:k=1∨k=2
 ·have hkB:Bi6 k=true:=by rcases hk with rfl | rfl<;>rfl
  have hV2:V=(wB e0 An2&&(wB e1 An2&&(wB s An2&&(wB d 1&&(wB g 2147483647&&Bn5 n))))):=by rw[hV];unfold Ai8;rw[hkB];rfl
  have HV:=Lh hV2;clear hV hV2 hkB;go_enter Tryz.func173,Tryz.ntmps173
  go_upto_region 1 with(fail)
  go_cut [12] (fun v wx=>v=.bool false∧wx=w.alloc (.cells #[.int .i64 k,.int .i64 d,.int .i64 e0,.int .i64 e1,.int .i64 g,.int .i64 s,.slice ba_ n bc,.slice ta m tc] 65))
  case first=>
   rcases hk with rfl | rfl
   ·go_wp2_with fail
    go_meet
    exact⟨rfl,rfl⟩
   ·go_wp2_with fail
    go_meet
    exact⟨rfl,rfl⟩
  case rest=>
   obtain⟨rfl,rfl⟩:=hcut;clear hk;have i0:=fun W=>Fe2 (.int .i64 e0) (.int .i64 e1) (.int .i64 s) W;have i1:=fun W=>Fe3 (.int .i64 e0) (.int .i64 e1) (.int .i64 s) W;have i2:=fun W=>Fe4 (.int .i64 e0) (.int .i64 e1) (.int .i64 s) W;go_wp2_with fail
   go_loopw [22] (fun v22 wx=>∃j:Nat,j≤3∧v22=.int .i64 j∧(1≤j→wB e0 An2=true)∧(2≤j→wB e1 An2=true)∧(3≤j→wB s An2=true)∧wx=w.alloc (.cells #[.int .i64 k,.int .i64 d,.int .i64 e0,.int .i64 e1,.int .i64 g,.int .i64 s,.slice ba_ n bc,.slice ta m tc] 65)) (fun v22 _=>3-(intOf v22).toNat)
   case atStart=>exact⟨0,by omega,rfl,by omega,by omega,by omega,rfl⟩
   case round=>
    obtain⟨j,hj,rfl,h1,h2,h3,rfl⟩:=hrel;rcases(show j=0∨j=1∨j=2∨j=3 by omega) with rfl | rfl | rfl | rfl
    ·rcases hq:wB e0 An2 with _ | _
     ·go_wp2_with (first | (go_at_call 200;go_must ((refine(Ag6 _ _ _).mono ?_);rintro e w2 ⟨rfl,rfl⟩)))
      go_ret;exact⟨by rw[HV.out,hq];rfl,ba _ _⟩
     ·go_wp2_with (first | (go_at_call 200;go_must ((refine(Ag6 _ _ _).mono ?_);rintro e w2 ⟨rfl,rfl⟩)))
      exact⟨⟨1,by omega,by rfl,by simp,by omega,by omega,by trivial⟩,by simp[intOf]⟩
    ·rcases hq:wB e1 An2 with _ | _
     ·go_wp2_with (first | (go_at_call 200;go_must ((refine(Ag6 _ _ _).mono ?_);rintro e w2 ⟨rfl,rfl⟩)))
      go_ret;exact⟨by rw[HV.out,h1 (by omega),hq];rfl,ba _ _⟩
     ·go_wp2_with (first | (go_at_call 200;go_must ((refine(Ag6 _ _ _).mono ?_);rintro e w2 ⟨rfl,rfl⟩)))
      exact⟨⟨2,by omega,by rfl,by simpa using h1,by simp,by omega,by trivial⟩,by simp[intOf]⟩
    ·rcases hq:wB s An2 with _ | _
     ·go_wp2_with (first | (go_at_call 200;go_must ((refine(Ag6 _ _ _).mono ?_);rintro e w2 ⟨rfl,rfl⟩)))
      go_ret;exact⟨by rw[HV.out,h1 (by omega),h2 (by omega),hq];rfl,ba _ _⟩
     ·go_wp2_with (first | (go_at_call 200;go_must ((refine(Ag6 _ _ _).mono ?_);rintro e w2 ⟨rfl,rfl⟩)))
      exact⟨⟨3,by omega,by rfl,by simpa using h1,by simpa using h2,by simp,by trivial⟩,by simp[intOf]⟩
    ·have HV:=Lh (show V=(wB d 1&&(wB g 2147483647&&Bn5 n)) by rw[HV.out,h1 (by omega),h2 (by omega),h3 (by omega)];rfl);clear h1 h2 h3 i0 i1 i2;rcases hd:wB d 1 with _ | _
     ·go_wp2_with (first | (go_at_call 200;go_must ((refine(Ag6 _ _ _).mono ?_);rintro e w2 ⟨rfl,rfl⟩)))
      go_ret;exact⟨by rw[HV.out,hd];rfl,ba _ _⟩
     ·rcases hg:wB g 2147483647 with _ | _
      ·go_wp2_with (first | (go_at_call 200;go_must ((refine(Ag6 _ _ _).mono ?_);rintro e w2 ⟨rfl,rfl⟩)))
       go_ret;exact⟨by rw[HV.out,hd,hg];rfl,ba _ _⟩
      ·by_cases hl1:1≤n
       ·have hi1:(1:Int)≤(n:Int):=by omega
        go_wp2_with (first | (go_at_call 200;go_must ((refine(Ag6 _ _ _).mono ?_);rintro e w2 ⟨rfl,rfl⟩)))
        all_goals
         go_ret;exact⟨by rw[HV.out,hd,hg];simp[Bn5, *];try omega,ba _ _⟩
       ·have hi1:¬(1:Int)≤(n:Int):=by omega
        go_wp2_with (first | (go_at_call 200;go_must ((refine(Ag6 _ _ _).mono ?_);rintro e w2 ⟨rfl,rfl⟩)))
        all_goals
         go_ret;exact⟨by rw[HV.out,hd,hg];simp[Bn5, *];try omega,ba _ _⟩
 ·have h1:¬k=1:=fun h=>hk (.inl h);have h2:¬k=2:=fun h=>hk (.inr h);have HV:=Lh (show V=false by rw[hV];simp[Ai8,Bi6,h1,h2]);have b1:(k != 1)=true:=by simp[h1]
  have b2:(k != 2)=true:=by simp[h2]
  clear hV hk h1 h2;go_enter Tryz.func173,Tryz.ntmps173
  go_wp2_with fail
  go_ret;exact⟨by rw[HV.out];rfl,ba _ _⟩
theorem Fe5(d:Int):wB d 1=(decide (0≤d)&&decide (d≤1)):=rfl
theorem Fe6(g:Int):wB g 2147483647=(decide (0≤g)&&decide (g≤2147483647)):=rfl
theorem Bx6(n:Nat):Bn5 n=(decide ((1:Int)≤(n:Int))&&decide ((n:Int)≤900)):=by
 unfold Bn5;rw[show decide (1≤n)=decide ((1:Int)≤(n:Int)) from decide_eq_decide.2 (by omega),show decide (n≤900)=decide ((n:Int)≤900) from decide_eq_decide.2 (by omega)]
theorem Br1(k d e0 e1 g s:Int)(ba_ ta:Option Addr)(n bc m tc:Nat)(hn:n≤maxLen)(w:World):
 Calls Tryz.prog 76 #[Az0 k d e0 e1 g s (.slice ba_ n bc) (.slice ta m tc)] w fun e w'=>e=.returned (.bool (Ai8 k d e0 e1 g s n))∧Below w.heap.size w w':=by
 unfold maxLen at hn;obtain⟨V,hV⟩:∃V,V=Ai8 k d e0 e1 g s n:=⟨_,rfl⟩;rw[←hV];have HV:=Lh hV;clear hV;go_enter Tryz.func76,Tryz.ntmps76
 go_wp2_with (first | (go_at_call 144;go_must ((refine(De0 _ _).mono ?_);rintro e w2 ⟨rfl,rfl⟩)))
 all_goals
  go_ret;exact⟨by rw[HV.out];first | (simp[Ai8,Bi6,Bx6, *];done) | (simp[Ai8,Bi6,Bx6,Fe5,Fe6, *];done) | (simp[Ai8,Bi6,Bx6,Fe5,Fe6, *]<;>omega),ba _ _⟩
abbrev I7(k d e0 e1 g s:Int)(vb vt:Value):List Value:=[.int .i64 k,.int .i64 d,.int .i64 e0,.int .i64 e1,.int .i64 g,.int .i64 s,vb,vt]
theorem I4{w:World}{b:Nat}{k d e0 e1 g s:Int}{vb vt:Value}(h:Blk w b (I7 k d e0 e1 g s vb vt)):
 w.cell? ⟨b,0,none⟩=some (.int .i64 k)∧w.cell? ⟨b,1,none⟩=some (.int .i64 d)∧w.cell? ⟨b,2,none⟩=some (.int .i64 e0)∧w.cell? ⟨b,3,none⟩=some (.int .i64 e1)∧
 w.cell? ⟨b,4,none⟩=some (.int .i64 g)∧w.cell? ⟨b,5,none⟩=some (.int .i64 s)∧w.cell? ⟨b,6,none⟩=some vb∧w.cell? ⟨b,7,none⟩=some vt:=
 ⟨h.cell 0 (by simp),h.cell 1 (by simp),h.cell 2 (by simp),h.cell 3 (by simp),h.cell 4 (by simp),h.cell 5 (by simp),h.cell 6 (by simp),h.cell 7 (by simp)⟩
theorem Bl6(w:World)(k d e0 e1 g s:Int)(vb vt:Value){w2:World}(h:Below (w.alloc (.cells (I7 k d e0 e1 g s vb vt).toArray 65)).heap.size (w.alloc (.cells (I7 k d e0 e1 g s vb vt).toArray 65)) w2):A6 65 w2 w.heap.size (I7 k d e0 e1 g s vb vt):=
 (A6.new w (I7 k d e0 e1 g s vb vt) 65).up h
theorem Br2(k d e0 e1 g s:Int)(ba_ ta:Option Addr)(n bc m tc:Nat)(hn:n≤maxLen)(hm:m≤maxLen)(w:World):
 Calls Tryz.prog 179 #[Az0 k d e0 e1 g s (.slice ba_ n bc) (.slice ta m tc)] w fun e w'=>e=.returned (.bool (Af5 k d e0 e1 g s n m))∧Below w.heap.size w w':=by
 have Hp:=Lh (fun W=>Cj4 k d e0 e1 g s ba_ ta n bc m tc hn W);obtain⟨V,hV⟩:∃V,V=Af5 k d e0 e1 g s n m:=⟨_,rfl⟩;rw[←hV];have HV:=Lh hV;unfold maxLen at hn hm;clear hV;rcases hp:Ai8 k d e0 e1 g s n with _ | _
 ·go_enter Tryz.func179,Tryz.ntmps179
  go_wp2_with (first | (go_at_call 173;go_must ((refine(Hp.out _).mono ?_);rintro e w2 ⟨rfl,hb2⟩)))
  go_ret;exact⟨by rw[HV.out];unfold Af5;rw[hp];rfl,bt (ba _ _) hb2⟩
 ·go_enter Tryz.func179,Tryz.ntmps179
  go_wp2_with (first | (go_at_call 173;go_must ((refine(Hp.out _).mono ?_);rintro e w2 ⟨rfl,hb2⟩;obtain⟨-,-,-,-,-,-,-,c7⟩:=I4 (Bl6 w k d e0 e1 g s _ _ hb2).blk)))
  all_goals
   go_ret;exact⟨by rw[HV.out];unfold Af5;rw[hp];first | (simp[*];done) | (simp[*];rw[Bool.eq_iff_iff];simp;omega),bt (ba _ _) hb2⟩
theorem Ca9(k d e0 e1 g s:Int)(ba_ ta:Option Addr)(n bc m tc:Nat)(hn:n≤maxLen)(hm:m≤maxLen)(w:World):
 Calls Tryz.prog 139 #[Az0 k d e0 e1 g s (.slice ba_ n bc) (.slice ta m tc)] w fun e w'=>e=.returned (.bool (Af5 k d e0 e1 g s n m))∧Below w.heap.size w w':=by
 have Hp:=Lh (fun W=>Br1 k d e0 e1 g s ba_ ta n bc m tc hn W);obtain⟨V,hV⟩:∃V,V=Af5 k d e0 e1 g s n m:=⟨_,rfl⟩;rw[←hV];have HV:=Lh hV;unfold maxLen at hn hm;clear hV;rcases hp:Ai8 k d e0 e1 g s n with _ | _
 ·go_enter Tryz.func139,Tryz.ntmps139
  go_wp2_with (first | (go_at_call 76;go_must ((refine(Hp.out _).mono ?_);rintro e w2 ⟨rfl,hb2⟩)))
  go_ret;exact⟨by rw[HV.out];unfold Af5;rw[hp];rfl,bt (ba _ _) hb2⟩
 ·go_enter Tryz.func139,Tryz.ntmps139
  go_wp2_with (first | (go_at_call 76;go_must ((refine(Hp.out _).mono ?_);rintro e w2 ⟨rfl,hb2⟩;obtain⟨-,-,-,-,-,-,-,c7⟩:=I4 (Bl6 w k d e0 e1 g s _ _ hb2).blk)))
  all_goals
   go_ret;exact⟨by rw[HV.out];unfold Af5;rw[hp];first | (simp[*];done) | (simp[*];rw[Bool.eq_iff_iff];simp;omega),bt (ba _ _) hb2⟩
def Fk5(w:World)(l:List UInt8)(e:Ending)(w':World):Prop:=∃a c,e=.returned (.slice a l.length c)∧Buf w w' 5 (.slice a l.length c) l.length (B8s l)
theorem Cj5(a:Option Addr)(cap:Nat)(l:List UInt8)(w:World)(hc:l.length≤140737488355328)(hl:A4 w a l):
 Calls Tryz.prog 183 #[.slice a l.length cap] w (Fk5 w l):=by
 have q22:∀(w:World) (a:Option Addr) (n c n' c':Nat),(binOp .eql 22 (.slice a n c) (.slice none n' c')).run Tryz.prog w=.ok (.bool a.isNone) w:=fun w a n c n' c'=>Lib.run_eql_slice_nil w _ _ a n c n' c' Tryz.underlying22;rcases a with _ | ⟨b,o,s⟩
 ·have h0:l=[]:=by
   rcases hl with h | ⟨b,off,h,-⟩
   ·simpa using h
   ·cases h
  subst h0;go_enter Tryz.func183,Tryz.ntmps183
  go_wp2_with fail
  go_ret;exact⟨none,0,rfl,Buf.nil _ _⟩
 ·have Hl:=Lh (hl.mono (ba w (.cells #[] 5)));clear hl;go_enter Tryz.func183,Tryz.ntmps183
  go_wp2_with (at_builtin;go_must (refine Y7 (.tmp 5) (.tmp 6) 22 rfl rfl W5 rfl (Buf.made w 5 [] 0 0 (by decide) rfl (by decide)) (sp:=some ⟨b,o,s⟩) (m:=l.length) (news:=B8s l) rfl Hl.out (by simp) (M4 l) (by omega) (by decide) l.length (by omega) (B8s l) rfl ?_;intro a1 c1 w1 hB1))
  go_ret;exact⟨a1,c1,rfl,hB1⟩
theorem Ag3(a b:Option Addr)(la ca lb cb:Nat)(l m:List UInt8)(w:World)(ha:la=l.length)(hb:lb=m.length)(hl:A4 w a l)(hm:A4 w b m):
 Calls Tryz.prog 101 #[.slice a la ca,.slice b lb cb] w fun e w'=>e=.returned (.bool (l==m))∧w=w':=by
 have h1:=Ap9 hl 22 9 5 Tryz.underlying22 Tryz.underlying5 Tryz.underlying9 la ca ha;have h2:=Ap9 hm 22 9 5 Tryz.underlying22 Tryz.underlying5 Tryz.underlying9 lb cb hb;have h3:=Lh (Cz1 l m);clear hl hm ha hb;go_enter Tryz.func101,Tryz.ntmps101
 go_wp2_with fail
 go_ret;exact⟨rfl,rfl⟩
def Bu0(k d e0 e1 g s:Int)(bl tl:List UInt8)(k2 d2 f0 f1 g2 s2:Int)(bl2 tl2:List UInt8):Bool:=
 decide (k=k2)&&(decide (d=d2)&&(decide (e0=f0)&&(decide (e1=f1)&&(decide (g=g2)&&(decide (s=s2)&&((bl==bl2)&&(tl==tl2)))))))
theorem Cf4(k d e0 e1 g s:Int)(a1 t1:Option Addr)(bc tc:Nat)(bl tl:List UInt8)(k2 d2 f0 f1 g2 s2:Int)(a2 t2:Option Addr)(bc2 tc2:Nat)(bl2 tl2:List UInt8)(w:World)(hb1:A4 w a1 bl)(ht1:A4 w t1 tl)(hb2:A4 w a2 bl2)(ht2:A4 w t2 tl2):
 Calls Tryz.prog 21 #[Az0 k d e0 e1 g s (.slice a1 bl.length bc) (.slice t1 tl.length tc),Az0 k2 d2 f0 f1 g2 s2 (.slice a2 bl2.length bc2) (.slice t2 tl2.length tc2)] w fun e w'=>e=.returned (.bool (Bu0 k d e0 e1 g s bl tl k2 d2 f0 f1 g2 s2 bl2 tl2))∧Below w.heap.size w w':=by
 have HB:=Lh (fun(W:World) (h:Below w.heap.size w W)=>Y8 a1 a2 bl.length bc bl2.length bc2 bl bl2 W rfl rfl (hb1.mono h) (hb2.mono h));have HT:=Lh (fun(W:World) (h:Below w.heap.size w W)=>Y8 t1 t2 tl.length tc tl2.length tc2 tl tl2 W rfl rfl (ht1.mono h) (ht2.mono h));obtain⟨V,hV⟩:∃V,V=Bu0 k d e0 e1 g s bl tl k2 d2 f0 f1 g2 s2 bl2 tl2:=⟨_,rfl⟩;rw[←hV];have HV:=Lh hV;clear hV hb1 ht1 hb2 ht2;rcases hqb:(bl==bl2) with _ | _<;>rcases hqt:(tl==tl2) with _ | _;all_goals
  rw[hqb] at HB;rw[hqt] at HT;generalize bl.length=nb at HB ⊢;generalize tl.length=nt at HT ⊢;generalize bl2.length=nb2 at HB ⊢;generalize tl2.length=nt2 at HT ⊢;go_enter Tryz.func21,Tryz.ntmps21
  go_wp2_with (first
   | (go_at_call 25;(with_reducible refine Calls.mono (HB.out _ (bta (ba w _) _)) ?_);rintro e w2 ⟨rfl,rfl⟩)
   | (go_at_call 25;(with_reducible refine Calls.mono (HT.out _ (bta (ba w _) _)) ?_);rintro e w3 ⟨rfl,rfl⟩))
  all_goals
   go_ret;exact⟨by rw[HV.out];first | (simp[Bu0, *];done) | (simp[Bu0, *]<;>omega),bta (ba w _) _⟩
abbrev Ent:Type:=List UInt8×List UInt8
def isF(k b:List UInt8)(e:Ent):Bool:=(k==e.1)&&(b==e.2)
def An6(es:List Ent)(k b:List UInt8):Bool:=es.any (isF k b)
def X5(k b:List UInt8):List UInt8:=(Ar5 k b).take 16
theorem Ao6(k b:List UInt8):(X5 k b).length=16:=by unfold X5;rw[List.length_take,Bn3];rfl
def Y5(w:World)(a:Option Addr)(es:List Ent):Prop:=
 ∃vs:List Value,vs.length=es.length*2∧At w a vs∧∀i,i<es.length→Aa2 w (vs.getD (i*2) undef) (es.getD i ([],[])).1∧Aa2 w (vs.getD (i*2+1) undef) (es.getD i ([],[])).2
theorem Y5.mono{w w':World}{a:Option Addr}{es:List Ent}(h:Y5 w a es)(hb:Below w.heap.size w w'):Y5 w' a es:=by
 obtain⟨vs,h1,h2,h3⟩:=h;exact⟨vs,h1,h2.mono hb,fun i hi=>⟨(h3 i hi).1.mono hb,(h3 i hi).2.mono hb⟩⟩
theorem Y5.nil(w:World)(a:Option Addr):Y5 w a []:=⟨[],rfl,.inl rfl,fun i hi=>absurd hi (by simp)⟩
theorem Cb1{w:World}{b:Nat}{v0 v1:Value}(h:Blk w b [v0,v1]):w.cell? ⟨b,0,none⟩=some v0∧w.cell? ⟨b,1,none⟩=some v1:=
 ⟨h.cell 0 (by simp),h.cell 1 (by simp)⟩
theorem Fe8(a b a2 b2:Option Addr)(c d c2 d2:Nat)(k m k2 m2:List UInt8)(w:World)(h1:k.length≤maxLen)(h2:m.length≤maxLen)(h3:k2.length≤maxLen)(h4:m2.length≤maxLen)(ha:A4 w a k)(hb:A4 w b m)(ha2:A4 w a2 k2)(hb2:A4 w b2 m2):
 Calls Tryz.prog 201 #[.agg #[.slice a k.length c,.slice b m.length d],.agg #[.slice a2 k2.length c2,.slice b2 m2.length d2]] w (F9 w (isF k m (k2,m2))):=by
 have HE1:=Lh (fun(W:World) (h:Below w.heap.size w W)=>Bk4 a a2 c c2 k k2 h1 h3 W (ha.mono h) (ha2.mono h));have HE2:=Lh (fun(W:World) (h:Below w.heap.size w W)=>Bk4 b b2 d d2 m m2 h2 h4 W (hb.mono h) (hb2.mono h));have HS:=Lh (show isF k m (k2,m2)=((k==k2)&&(m==m2)) from rfl);clear ha hb ha2 hb2 h1 h2 h3 h4;generalize (k==k2)=p1 at HE1 HS;generalize (m==m2)=p2 at HE2 HS;rcases p1 with _ | _;all_goals
  rcases p2 with _ | _;all_goals
   go_enter Tryz.func201,Tryz.ntmps201
   go_wp2_with fail
   generalize hW:World.alloc _ _=W;obtain⟨B1,B2,hb⟩:=Aj9 (a:=[.slice a k.length c,.slice b m.length d]) (b:=[.slice a2 k2.length c2,.slice b2 m2.length d2]) hW;clear hW;generalize w.heap.size+1=n2 at B2 ⊢;refine(HE1.out _ hb).mono ?_;rintro e w2 ⟨rfl,hb2⟩;obtain⟨x0,x1⟩:=Cb1 (B1.up hb2);obtain⟨y0,y1⟩:=Cb1 (B2.up hb2);have Hb:=Lh (bt hb hb2);clear hb B1 B2 HE1 hb2;go_wp2_with fail
   try (refine(HE2.out _ Hb.out).mono ?_;rintro e w3 ⟨rfl,hb3⟩;replace Hb:=Lh (bt Hb.out hb3);clear hb3)
   try go_wp2_with fail
   go_ret;exact⟨by rw[HS.out];rfl,Hb.out⟩
def Br5(w:World)(T:List UInt8)(e:Ending)(w':World):Prop:=∃a c,e=.returned (.slice a 16 c)∧(16≤c∧c≤maxLen)∧A4 w' a T∧Below w.heap.size w w'
theorem Bw0(a b:Option Addr)(c d:Nat)(k m:List UInt8)(hk:k.length≤100000)(hm:m.length≤90000)(w:World)(ha:A4 w a k)(hb:A4 w b m)(hks:Q5 w):
 Calls Tryz.prog 178 #[.slice a k.length c,.slice b m.length d] w (Br5 w (X5 k m)):=by
 have HT:=Lh (Ca5 a b c d k m hk hm w ha hb hks);have HR:=Lh (show X5 k m=(Ar5 k m).take 16 from rfl);generalize Ar5 k m=T at HT HR;generalize X5 k m=R at HR ⊢;clear ha hb hks hk hm;go_enter Tryz.func178,Tryz.ntmps178
 go_wp2_with fail
 refine HT.out.mono ?_;rintro e w1 ⟨a1,c1,rfl,⟨hc1,hm1⟩,hat,hb1⟩;have hs:∀W,(Instr.sliceAt 22 (.slice a1 32 c1) none (some (.int .i64 16)) none).run Tryz.prog W=.ok (.slice a1 16 c1) W:=fun W=>Bm7 Tryz.underlying22 Ai1 W a1 32 c1 16 (by omega);have Hat:=Lh (A4.take hat 16);have Hb:=Lh hb1;have Hc:=Lh (show 16≤c1∧c1≤maxLen from⟨by omega,hm1⟩);clear hat hb1 hc1 hm1;go_wp2_with fail
 go_ret;exact⟨a1,c1,rfl,Hc.out,by rw[HR.out];exact Hat.out,Hb.out⟩
theorem Cf8(a b:Option Addr)(c d:Nat)(k m:List UInt8)(hk:k.length≤100000)(hm:m.length≤90000)(w:World)(ha:A4 w a k)(hb:A4 w b m):
 Calls Tryz.prog 140 #[.slice a k.length c,.slice b m.length d] w (Br5 w (X5 k m)):=by
 have HT:=Lh (Ca6 a b c d k m hk hm w ha hb);have HR:=Lh (show X5 k m=(Ar5 k m).take 16 from rfl);generalize Ar5 k m=T at HT HR;generalize X5 k m=R at HR ⊢;clear ha hb hk hm;go_enter Tryz.func140,Tryz.ntmps140
 go_wp2_with fail
 refine HT.out.mono ?_;rintro e w1 ⟨a1,c1,rfl,⟨hc1,hm1⟩,hat,hb1⟩;have hs:∀W,(Instr.sliceAt 22 (.slice a1 32 c1) none (some (.int .i64 16)) none).run Tryz.prog W=.ok (.slice a1 16 c1) W:=fun W=>Bm7 Tryz.underlying22 Ai1 W a1 32 c1 16 (by omega);have Hat:=Lh (A4.take hat 16);have Hb:=Lh hb1;have Hc:=Lh (show 16≤c1∧c1≤maxLen from⟨by omega,hm1⟩);clear hat hb1 hc1 hm1;go_wp2_with fail
 go_ret;exact⟨a1,c1,rfl,Hc.out,by rw[HR.out];exact Hat.out,Hb.out⟩
theorem V8.up{w0 w w':World}{v:Value}{l:List UInt8}(h:V8 w0 w v l)(hb:Below w.heap.size w w'):V8 w0 w' v l:=V8.of rfl (h.buf.later hb)
theorem Dy7{ops:Array Oper}{o:Oper}{a:Act}{w:World}{K:Act→World→Prop}{Q:Exit→Act→World→Prop}{F:Prop}(s x:Operand)(hgd:o.guard=Option.none)
 (ho:o.op=.call {callee:=.builtin .append,args:=#[s,x],argTypes:=#[22,22]}) {w0:World} {v:Value} {l:List UInt8} (hs:a.eval s=v) (hB:V8 w0 w v l)
 {sp:Option Addr} {m c:Nat} (news:List UInt8) (hx:a.eval x=.slice sp m c) (hS:A4 w sp news) (hl:m=news.length) (h63:l.length+m≤140737488355328) (l2:List UInt8) (hl2:l2=l++news)
 (hK:∀a' cap' w',V8 w0 w' (.slice a' l2.length cap') l2→K (a.put o.dst (.slice a' l2.length cap')) w'):if Region.wanted o (yielded ops a.tmps)=true then Oper.wp Tryz.prog o a w K Q else F:=by
 subst hl2;subst hl;exact Aw4 s x 22 hgd ho W5 hs hB.buf hx hS (by simp) (M4 news) (by omega) (by decide) (l++news).length (by simp) (B8s (l++news)) (by simp) fun a' cap' w' hb=>hK a' cap' w' (V8.of rfl hb)
def Eu3(x:List UInt8):List UInt8:=J3 ((x.length:Int)/256)::J3 (x.length:Int)::x
def An1(lab:List UInt8)(rows:List (List UInt8))(k:Nat):List UInt8:=J3 (lab.length:Int)::(lab++((rows.take k).map Eu3).flatten)
def At1(lab:List UInt8)(rows:List (List UInt8)):List UInt8:=An1 lab rows rows.length
theorem Ca7(lab:List UInt8)(rows:List (List UInt8)):An1 lab rows 0=[J3 (lab.length:Int)]++lab:=by simp[An1]
theorem Bn4(lab:List UInt8)(rows:List (List UInt8))(k:Nat)(h:k<rows.length):An1 lab rows (k+1)=(An1 lab rows k++[J3 (((rows.getD k []).length:Int)/256),J3 ((rows.getD k []).length:Int)])++rows.getD k []:=by
 unfold An1;rw[Ad1 rows k h []];simp[Eu3]
theorem Bi5(lab:List UInt8)(rows:List (List UInt8)):∀k,k≤rows.length→(An1 lab rows k).length=1+lab.length+2*k+An4 (rows.take k)
 | 0,_=>by simp[An1,An4];omega
 | k+1,h=>by
   rw[Bn4 lab rows k (by omega),Bc6 rows k (by omega)];simp only[List.length_append,List.length_cons,List.length_nil];rw[Bi5 lab rows k (by omega)];omega
theorem Cv9(n:Int):J3 (n%256)=J3 n:=by
 unfold J3;rw[Int.emod_emod_of_dvd _ (Int.dvd_refl 256)]
theorem Cp6{ops:Array Oper}{rest:List Oper}{o:Oper}{a:Act}{w:World}{Q:Exit→Act→World→Prop}(s x:Operand)(hgd:o.guard=Option.none)
 (ho:o.op=.call {callee:=.builtin .append,args:=#[s,x],argTypes:=#[22,9]}) {w0:World} {v:Value} {l:List UInt8} (hs:a.eval s=v) (hB:V8 w0 w v l)
 (str:ByteArray) (hx:a.eval x=.string str) (h63:l.length+str.size≤1000000) (l2:List UInt8) (hl2:l2=l++str.data.toList)
 (h:∀a' cap' w',V8 w0 w' (.slice a' l2.length cap') l2→wpList Tryz.prog ops Q rest (a.put o.dst (.slice a' l2.length cap')) w'):wpList Tryz.prog ops Q (o::rest) a w:=by
 subst hl2;refine wpList_plain hgd fun K hK=>?_;obtain⟨i,hi,hz,hsz,hby⟩:=W5.info;obtain⟨v',w',hr,ho',hg,-⟩:=Lib.run_append_own_string (P:=Tryz.prog) w w0.heap.size 22 9 o.type 5 i W5.slice Tryz.underlying9 hi hz hsz hby v l.length (B8s l) hB.own str (by unfold maxLen;omega) (by omega) hB.bel.size;have hn:(l++str.data.toList).length=l.length+str.size:=by rw[List.length_append,Array.length_toList];rfl
 obtain⟨a',cap',rfl,-,-⟩:=U6 ho';have hR:V8 w0 w' (.slice a' (l.length+str.size) cap') (l++str.data.toList):=by
  refine⟨?_,V3 hB.bel hB.own hg hB.bel.size (Nat.le_refl _)⟩;rw[hn,Af9];exact ho'
 unfold Oper.wp execOp;simp only[ho,resolve,List.map_toArray,List.map_cons,List.map_nil,hs,hx,invoke,builtin,Sem.run_bind,Sem.run_pure,Result.andThen_ok,hr];have hh:=h a' cap' w' (hn▸hR);rw[hn] at hh;exact hK _ _ hh
theorem El9{w:World}(str:ByteArray):A4 (Lib.bytesWorld w 5 str) (some ⟨w.heap.size,0,none⟩) str.data.toList:=by
 refine .inr ⟨w.heap.size,0,rfl,by rw[Lib.bytesWorld_size];omega,fun i hi=>?_⟩;have hi':i<str.data.toList.length:=by simpa using hi
 rw[Nat.zero_add,Ce7 _ _ hi',Lib.bytesWorld_cell w 5 str i (by rw[Array.length_toList] at hi';exact hi')];rfl
theorem Dy8{w:World}(str:ByteArray)(n:Nat)(hn:n=w.heap.size):A4 (Lib.bytesWorld w 5 str) (some ⟨n,0,none⟩) str.data.toList:=by
 subst hn;exact El9 str
theorem Bg0(s:ByteArray):s.data.toList.length=s.size:=by rw[Array.length_toList];rfl
theorem Em0(str:ByteArray)(a:Option Addr)(c:Nat)(rows:List (List UInt8))(hs:str.size≤1000)(hr:rows.length≤100)(ht:An4 rows≤10000)(w:World)(hrows:Y3 w a rows):
 Calls Tryz.prog 115 #[.string str,.slice a rows.length c] w (Ba9 w (At1 str.data.toList rows)):=by
 have Hr:=Lh hrows;have HL:=Lh (Bi5 str.data.toList rows);have HSt:=Lh (Bn4 str.data.toList rows);have HSl:=Lh (Bt8 rows);have HT:=Lh (show At1 str.data.toList rows=An1 str.data.toList rows rows.length from rfl);obtain⟨T0,hT0⟩:∃T0,T0=An1 str.data.toList rows 0:=⟨_,rfl⟩;have HT0:=Lh (show T0=[J3 (str.size:Int)]++str.data.toList by rw[hT0,Ca7,Bg0]);have HT0e:=Lh hT0;have hsz:=Lh (Bg0 str);have hw8:=Ay2 (str.size:Int);have hcv:=fun W=>Lib.run_convert_string_bytes (P:=Tryz.prog) W 9 22 5 str Tryz.underlying9 Tryz.underlying22 Tryz.underlying5;have hO:V8 w (Lib.bytesWorld (w.alloc (.cells #[.int .u8 (bv (J3 (str.size:Int)))] 5)) 5 str) (.slice (some ⟨w.heap.size,0,none⟩) 1 1) [J3 (str.size:Int)]:=
  V8.of rfl ((Buf.made w 5 (B8s [J3 (str.size:Int)]) 1 1 (Nat.le_refl _) rfl (by decide)).later (Lib.bytesWorld_below _ _ _))
 have HO:=Lh hO;clear hrows hO hT0;generalize J3 (str.size:Int)=lb at hw8 HO HT0;go_enter Tryz.func115,Tryz.ntmps115
 go_wp2_with (at_builtin;go_must (refine Ag5 (.tmp 10) (.tmp 12) rfl rfl rfl HO.out str.data.toList rfl (Dy8 str _ (I9 w _).symm) hsz.out.symm (by simp;omega) T0 HT0.out ?_;intro a1 c1 w1 h1;have H1:=Lh h1;clear h1))
 go_loopw [5,6] (fun v5 v6 wx=>∃(k:Nat) (L:List UInt8) (o:Option Addr) (oc:Nat),k≤rows.length∧v6=.int .i64 (k:Int)∧L=An1 str.data.toList rows k∧v5=.slice o L.length oc∧V8 w wx v5 L) (fun _ v6 _=>rows.length-(intOf v6).toNat)
 case atStart=>exact⟨0,T0,a1,c1,Nat.zero_le _,rfl,HT0e.out,rfl,H1.out⟩
 case round=>
  clear hw8 hcv H1;obtain⟨k,L,o,oc,hk,rfl,hL,rfl,hO⟩:=hrel;have HLe:=Lh hL;have hLl:L.length≤20000:=by rw[hL,HL.out k hk,hsz.out];have:=HSl.out k;omega
  have HO:=Lh hO;clear hL hO;by_cases hlt:k<rows.length
  ·obtain⟨b,off,p,cc,rfl,hbl,hcell,hp1,hp2,hat⟩:=Hr.out.row k hlt;have hxl:(rows.getD k []).length≤10000:=by
    have h1:=HSl.out (k+1);have h2:=Bc6 rows k hlt;omega
   have HN:=Lh (HSt.out k hlt);rw[←HLe.out] at HN;have HC:=Lh (show ∀w',Below w.heap.size w w'→w'.cell? ⟨b,off+k,none⟩=some (.slice p (rows.getD k []).length cc) from fun w' h=>by rw[h.cell (p:=⟨b,off+k,none⟩) hbl];exact hcell);have Hat:=Lh hat
   clear hcell hat hp1 hp2;generalize rows.getD k []=x at HN HC Hat hxl;obtain⟨q,hq⟩:∃q:Int,q=(x.length:Int)/256:=⟨_,rfl⟩;obtain⟨r,hr2⟩:∃r:Int,r=(x.length:Int)%256:=⟨_,rfl⟩;have hb1:IntKind.u8.wrap q=bv (J3 ((x.length:Int)/256)):=by rw[Ay2,hq]
   have hb2:IntKind.u8.wrap r=bv (J3 (x.length:Int)):=by rw[Ay2,hr2,Cv9]
   have hq0:0≤q∧q≤100000:=by omega
   have hd1:((x.length:Int)).tdiv 256=q:=by rw[hq,Int.tdiv_eq_ediv_of_nonneg (by omega)]
   have hd2:((x.length:Int)).tmod 256=r:=by rw[hr2,Int.tmod_eq_emod_of_nonneg (by omega)]
   have hwq:IntKind.i64.wrap q=q:=by rw[IntKind.wrap_i64];omega
   have hwq2:wrap64 q=q:=by unfold wrap64;omega
   obtain⟨L1,hL1⟩:∃L1,L1=L++[J3 ((x.length:Int)/256),J3 (x.length:Int)]:=⟨_,rfl⟩;have HL1l:=Lh (show L1.length=L.length+2 by rw[hL1];simp);rw[←hL1] at HN;generalize J3 ((x.length:Int)/256)=b1 at hb1 hL1;generalize J3 (x.length:Int)=b2 at hb2 hL1;have HL1:=Lh hL1;have hi1:(k:Int)<(rows.length:Int):=by omega
   have hi0:(0:Int)≤(k:Int):=by omega
   obtain⟨T1,hT1⟩:∃T1,T1=An1 str.data.toList rows (k+1):=⟨_,rfl⟩;rw[←hT1] at HN;have HT1:=Lh hT1;have c0:=HC.out wr HO.out.bel;clear hL1 hq hr2 hq0 hT1;go_wp2_with fail
   go_region_held3 (fun w'=>w'.cell? ⟨b,off+k,none⟩=some (.slice p x.length cc))
    (first
      | go_keep
      | (exact HC.out _ (HO.out.up (ba wr _)).bel)
      | (exact HC.out _ ((HO.out.up (ba wr _)).up (bd _)).bel)
      | (exact HC.out _ h6.bel))
    ((refine Dy7 (.tmp 20) (.tmp 35) rfl rfl rfl ((HO.out.up (ba wr _)).up (bd _)) [b1,b2] rfl ((U7 wr (B8s [b1,b2]) _).mono (bd _)) rfl (by omega) L1 HL1.out ?_;intro a6 c6 w6 h6))
   have H6:=Lh h6;clear h6 c0;have c0:=HC.out w6 H6.out.bel;go_wp2_with (at_builtin;go_must (refine Ag5 (.tmp 37) (.tmp 41) rfl rfl rfl H6.out x rfl (Hat.out.mono H6.out.bel) rfl (by have:=HL1l.out;omega) T1 HN.out ?_;intro a7 c7 w7 h7;have H7:=Lh h7;clear h7 c0))
   exact⟨⟨k+1,T1,a7,c7,by omega,by go_num,HT1.out,rfl,H7.out⟩,by simp[intOf];omega⟩
  ·obtain rfl:k=rows.length:=by omega
   have hE:At1 str.data.toList rows=L:=by rw[HLe.out];exact HT.out
   have HE:=Lh hE;clear hE;go_wp2_with fail
   go_ret;rw[HE.out];exact⟨o,oc,rfl,HO.out.at,HO.out.bel⟩
theorem Dy9(lab:List UInt8)(rows:List (List UInt8)):(At1 lab rows).length=1+lab.length+2*rows.length+An4 rows:=by
 unfold At1;rw[Bi5 lab rows _ (Nat.le_refl _),List.take_length]
theorem V5.cellset{T:TypeId}{B b j:Nat}{w:World}{v:Value}{n:Nat}{xs cs:List Value}(h:V5 B w v n xs)(hb:A6 T w b cs)(hT:T≠5)(u:Value):V5 B (w.setCell ⟨b,j,none⟩ u) v n xs:=by
 obtain⟨⟨h1,h2⟩,h3⟩:=h;refine⟨⟨h1,?_⟩,by simpa using h3⟩;rcases h2 with h2 | ⟨g',cap,cur,hv,hg',hh,r⟩
 ·exact .inl h2
 ·refine .inr ⟨g',cap,cur,hv,hg',?_,r⟩;rw[Below.heap_setCell _ _ _ _ ?_]
  ·exact hh
  ·intro he;have h9:=hh;rw[show g'=b from by first | exact he | exact he.symm,show w.heap[b]?=_ from hb] at h9;injection h9 with h9;injection h9 with _ k2 _;exact hT k2
def Be2(W0:World)(b:Nat)(w:World)(X:List UInt8):Prop:=
 ∃a c,A6 22 w b [.slice a X.length c]∧V5 W0.heap.size w (.slice a X.length c) X.length (B8s X)∧Below W0.heap.size W0 w
theorem Be2.up{W0 w w':World}{b:Nat}{X:List UInt8}(h:Be2 W0 b w X)(hb:Below w.heap.size w w'):Be2 W0 b w' X:=by
 obtain⟨a,c,h1,h2,h3⟩:=h;exact⟨a,c,h1.up hb,h2.up hb,bt h3 hb⟩
def An5(X:List UInt8)(z:Nat)(ns:List Nat):List UInt8:=ns.foldl (fun Y n=>Y++J6 n z) X
theorem Dz3(X:List UInt8)(z:Nat)(ns:List Nat)(k:Nat)(h:k<ns.length):An5 X z (ns.take (k+1))=An5 X z (ns.take k)++J6 (ns.getD k 0) z:=by
 rw[Ad1 ns k h 0];simp[An5,List.foldl_append]
theorem Ar6(X:List UInt8)(z:Nat)(ns:List Nat):(An5 X z ns).length=X.length+z*ns.length:=by
 induction ns generalizing X with
 | nil=>simp[An5]
 | cons n ns ih=>simp only[An5,List.foldl_cons] at ih ⊢;rw[ih,List.length_append,T7,List.length_cons,Nat.mul_add];omega
abbrev De1(n:Nat):Value:=.int .i64 (n:Int)
theorem Ew7(z:Nat)(hz:1≤z)(hz8:z≤8)(ns:List Nat)(hns:∀n∈ns,n<256^z∧n≤9223372036854775807)(hl:ns.length≤2)(gb c b:Nat)(hgb:gb≠b)(X:List UInt8)(hX:X.length≤1000)(W0 w:World)(hb0:W0.heap.size≤b)(hX0:Be2 W0 b w X)(hap:A6 3 w gb (ns.map De1)):
 Calls Tryz.prog 174 #[.int .i64 z,.slice (some ⟨gb,0,none⟩) ns.length c,.pointer (some ⟨b,0,none⟩)] w fun e w'=>e=.returned (.tuple #[])∧Be2 W0 b w' (An5 X z ns)∧(∀g T cs,g≠b→g<w.heap.size→T≠5→A6 T w g cs→A6 T w' g cs):=by
 have HX0:=Lh hX0;have HA:=Lh hap;have Hns:=Lh hns;clear hX0 hap hns;go_enter Tryz.func174,Tryz.ntmps174
 go_wp2_with fail
 go_loopw [11] (fun v11 wx=>∃k:Nat,k≤ns.length∧v11=.int .i64 k∧Be2 W0 b wx (An5 X z (ns.take k))∧(∀g T cs,g≠b→g<w.heap.size→T≠5→A6 T w g cs→A6 T wx g cs)) (fun v11 _=>ns.length-(intOf v11).toNat)
 case atStart=>exact⟨0,Nat.zero_le _,rfl,HX0.out,fun _ _ _ _ _ _ h=>h⟩
 case round=>
  clear HX0;obtain⟨k,hk,rfl,hXk,hkeep⟩:=hrel;have HK:=Lh hkeep;clear hkeep;by_cases hlt:k<ns.length
  ·obtain⟨a1,c1,hB,hO,hbel⟩:=hXk;have hn:=Hns.out (ns.getD k 0) (by rw[show ns.getD k 0=ns[k] by simp[List.getD,hlt]];exact List.getElem_mem hlt);have hc:wr.cell? ⟨gb,k,none⟩=some (De1 (ns.getD k 0)):=by
    rw[(HK.out gb 3 _ hgb HA.out.blk.lt (by decide) HA.out).blk.cell k (by simpa using hlt)];simp[List.getD,hlt]
   obtain⟨YK,hYK⟩:∃YK,YK=An5 X z (ns.take k):=⟨_,rfl⟩;obtain⟨YN,hYN⟩:∃YN,YN=An5 X z (ns.take (k+1)):=⟨_,rfl⟩;have hsn:=Dz3 X z ns k hlt;rw[←hYK,←hYN] at hsn;rw[←hYK] at hB hO;have hYl:YK.length≤1008:=by rw[hYK,Ar6,List.length_take];have:z*min k ns.length≤8*1:=Nat.mul_le_mul hz8 (by omega);omega
   generalize ns.getD k 0=n at hn hc hsn;have HSn:=Lh (show B8s YN=B8s YK++B8s (J6 n z) by rw[hsn,Af9]);have HSl:=Lh (show YK.length+z=YN.length by rw[hsn,List.length_append,T7]);have HYl:=Lh hYl;have HBig:=Lh (fun W=>Ew5 n z hz hz8 hn.1 hn.2 W);have HFl:=Lh (T7 n z);obtain⟨F,hF⟩:∃F,F=J6 n z:=⟨_,rfl⟩;rw[←hF] at HSn HFl;have HF:=Lh hF;clear hF;have HB:=Lh hB;have HO:=Lh hO;have Hbel:=Lh hbel;have HYN:=Lh hYN;clear hsn hYK hYN hB hO hbel hYl hn;go_wp2_with fail
   refine(HBig.out _).mono ?_;rintro e w2 ⟨rfl,hB2,hb2⟩;have H2:=Lh (show At w2 (some ⟨wr.heap.size,0,none⟩) (B8s F) from by rw[HF.out];exact hB2.blk.at);have HB2:=Lh (HB.out.up hb2);have HO2:=Lh (HO.out.up hb2);have Hbel2:=Lh (bt Hbel.out hb2);have k0:=HB2.out.blk.cell 0 (by simp);have kf:=HB2.out.blk.frozen;have Hb2:=Lh hb2;have hYl:=HYl.out;clear hB2 hb2 HBig;go_wp2_with (at_builtin;go_must ((refine Ah6 (.tmp 21) (.tmp 22) rfl rfl rfl HO2.out (news:=B8s F) (m:=z) rfl H2.out (by rw[List.length_map,HFl.out]) (M4 F) (by omega) YN.length HSl.out (B8s YN) HSn.out ?_);intro a3 c3 w3 h3 hg3 hat3;have HB3:=Lh (HB2.out.grownB (by decide) HO2.out hg3);have k0:=HB3.out.blk.cell 0 (by simp);have kf:=HB3.out.blk.frozen))
   have hb3:=V3 Hbel2.out HO2.out.own hg3 HO2.out.le (Nat.le_refl _);refine⟨⟨k+1,by omega,by go_num,?_,?_⟩,by first | (simp[intOf];done) | (simp[intOf];omega)⟩
   ·rw[←HYN.out];exact⟨a3,c3,HB3.out.set 0 _,h3.cellset HB3.out (by decide) _,hb3.setCell hb0 _⟩
   ·intro g T cs hgn hgl hT hG;exact(((HK.out g T cs hgn hgl hT hG).up Hb2.out).grownB hT HO2.out hg3).other hgn _
  ·obtain rfl:k=ns.length:=by omega
   rw[List.take_length] at hXk;have HX:=Lh hXk;clear hXk;go_wp2_with fail
   go_end0
   exact⟨rfl,HX.out,HK.out⟩
def inH(k d e0 e1 g s:Nat):List UInt8:=An5 (An5 (An5 (An5 [] 1 [k,d]) 8 [e0,e1]) 4 [g]) 8 [s]
def inF(k d e0 e1 g s:Nat)(bl:List UInt8):List UInt8:=inH k d e0 e1 g s++bl
theorem Cf5(k d e0 e1 g s:Nat):(inH k d e0 e1 g s).length=30:=by
 unfold inH;simp only[Ar6];rfl
structure Aj5 (k d e0 e1 g s n:Nat):Prop where
 k1:1≤k
 k2:k≤2
 d1:d≤1
 e0:e0≤4611686018427387904
 e1:e1≤4611686018427387904
 g1:g≤2147483647
 s1:s≤4611686018427387904
 n1:1≤n
 n2:n≤900
theorem Cj6{k d e0 e1 g s:Int}{n:Nat}(h:Ai8 k d e0 e1 g s n=true):∃K D E0 E1 G S:Nat,k=K∧d=D∧e0=E0∧e1=E1∧g=G∧s=S∧Aj5 K D E0 E1 G S n:=by
 simp[Ai8,Bi6,wB,Bn5,An2] at h;obtain⟨hk,⟨a0,a1⟩,⟨b0,b1⟩,⟨c0,c1⟩,⟨d0,d1⟩,⟨g0,g1⟩,n1,n2⟩:=h;refine⟨k.toNat,d.toNat,e0.toNat,e1.toNat,g.toNat,s.toNat,by omega,by omega,by omega,by omega,by omega,by omega,⟨by omega,by omega,by omega,by omega,by omega,by omega,by omega,n1,n2⟩⟩
theorem Aj5.parts{k d e0 e1 g s n:Nat}(h:Aj5 k d e0 e1 g s n):Ai8 k d e0 e1 g s n=true:=by
 obtain⟨h1,h2,h3,h4,h5,h6,h7,h8,h9⟩:=h;simp[Ai8,Bi6,wB,Bn5,An2];omega
def Au5(w:World)(L:List UInt8)(e:Ending)(w':World):Prop:=
 ∃a c,e=.returned (.tuple #[.slice a L.length c,.int .i64 0])∧V5 w.heap.size w' (.slice a L.length c) L.length (B8s L)∧Below w.heap.size w w'
theorem Bn6(z:Nat)(zi:Int)(hzi:zi=(z:Int))(hz:1≤z)(hz8:z≤8)(ns:List Nat)(hns:∀n∈ns,n<256^z∧n≤9223372036854775807)(len:Nat)(hlen:len=ns.length)(hl:len≤2)(c b b0:Nat)(hbb:b0≠b)(X:List UInt8)(hX:X.length≤1000)(W0 W:World)(hb0:W0.heap.size≤b)(hX0:Be2 W0 b W X){L:List Value}(hE:A6 65 W b0 L)(xs:Array Value)(hxs:xs=(ns.map De1).toArray):
 Calls Tryz.prog 174 #[.int .i64 zi,.slice (some ⟨W.heap.size,0,none⟩) len c,.pointer (some ⟨b,0,none⟩)] (W.alloc (.cells xs 3)) fun e w'=>e=.returned (.tuple #[])∧Be2 W0 b w' (An5 X z ns)∧A6 65 w' b0 L:=by
 subst hzi;subst hlen;subst hxs;have hbl:b<W.heap.size:=by obtain⟨a,c,h1,-,-⟩:=hX0;exact h1.blk.lt
 refine(Ew7 z hz hz8 ns hns hl W.heap.size c b (by omega) X hX W0 _ hb0 (hX0.up (ba _ _)) (A6.new W (ns.map De1) 3)).mono ?_;rintro e w' ⟨h1,h2,h3⟩;exact⟨h1,h2,h3 b0 _ _ hbb (by have:=hE.blk.lt;rw[I9];omega) (by decide) (hE.up (ba _ _))⟩
theorem Bx7(k d e0 e1 g s:Nat)(b_ t_:Option Addr)(bc m tc:Nat)(bl:List UInt8)(h:Aj5 k d e0 e1 g s bl.length)(w:World)(hbl:A4 w b_ bl):
 Calls Tryz.prog 122 #[Az0 k d e0 e1 g s (.slice b_ bl.length bc) (.slice t_ m tc)] w (Au5 w (inF k d e0 e1 g s bl)):=by
 have Hp:=Lh (fun W=>Cj4 k d e0 e1 g s b_ t_ bl.length bc m tc (by have:=h.n2;unfold maxLen;omega) W);rw[h.parts] at Hp;have HM:=Lh h;have Hbl:=Lh hbl;obtain⟨XF,hXF⟩:∃XF,XF=inF k d e0 e1 g s bl:=⟨_,rfl⟩;rw[←hXF];have HXF:=Lh hXF;clear h hbl hXF;go_enter Tryz.func122,Tryz.ntmps122
 go_wp2_with fail
 refine(Hp.out _).mono ?_;rintro e w1 ⟨rfl,hb1⟩;have E1:=Lh (Bl6 w k d e0 e1 g s _ _ hb1);have Hb1:=Lh (bt (ba w _) hb1);have hlt:=E1.out.blk.lt;clear hb1 Hp;go_upto_region 5 with(fail)
 generalize hW:World.alloc w1 _=W;have EW:A6 65 W w.heap.size (I7 k d e0 e1 g s (.slice b_ bl.length bc) (.slice t_ m tc)):=by rw[←hW];exact E1.out.up (ba _ _)
 have LW:Be2 w w1.heap.size W []:=by
  rw[←hW];exact⟨none,0,A6.new w1 [.slice none 0 0] 22,⟨⟨rfl,.inl ⟨rfl,rfl⟩⟩,by have:=Hb1.out.size;rw[I9];omega⟩,bt Hb1.out (ba _ _)⟩
 clear hW;have hbase:=Hb1.out.size;have hne:w.heap.size≠w1.heap.size:=by omega
 generalize w1.heap.size=b at LW hbase hne hlt ⊢;clear E1 Hb1 w1;obtain⟨c0,c1,c2,c3,c4,c5,c6,c7⟩:=I4 EW.blk;have H1:=Lh (Bn6 1 1 rfl (by decide) (by decide) [k,d] (by have:=HM.out.k2;have:=HM.out.d1;simp;omega) 2 rfl (by decide) 2 b w.heap.size hne [] (by simp) w W hbase LW EW #[.int .i64 (k:Int),.int .i64 (d:Int)] rfl);obtain⟨X1,hX1⟩:∃X1,X1=An5 [] 1 [k,d]:=⟨_,rfl⟩;rw[←hX1] at H1;have hl1:X1.length=2:=by rw[hX1,Ar6];rfl
 go_wp2_with fail
 refine H1.out.mono ?_;rintro e w2 ⟨rfl,L2,E2⟩;have H2:=Lh (Bn6 8 8 rfl (by decide) (by decide) [e0,e1] (by have:=HM.out.e0;have:=HM.out.e1;simp;omega) 2 rfl (by decide) 2 b w.heap.size hne X1 (by omega) w w2 hbase L2 E2 #[.int .i64 (e0:Int),.int .i64 (e1:Int)] rfl);obtain⟨X2,hX2⟩:∃X2,X2=An5 X1 8 [e0,e1]:=⟨_,rfl⟩;rw[←hX2] at H2;have hl2:X2.length=18:=by rw[hX2,Ar6,hl1];rfl
 clear c0 c1 c2 c3 c4 c5 c6 c7 H1 EW LW;obtain⟨c0,c1,c2,c3,c4,c5,c6,c7⟩:=I4 E2.blk;go_wp2_with fail
 refine H2.out.mono ?_;rintro e w3 ⟨rfl,L3,E3⟩;have H3:=Lh (Bn6 4 4 rfl (by decide) (by decide) [g] (by have:=HM.out.g1;simp;omega) 1 rfl (by decide) 1 b w.heap.size hne X2 (by omega) w w3 hbase L3 E3 #[.int .i64 (g:Int)] rfl);obtain⟨X3,hX3⟩:∃X3,X3=An5 X2 4 [g]:=⟨_,rfl⟩;rw[←hX3] at H3;have hl3:X3.length=22:=by rw[hX3,Ar6,hl2];rfl
 clear c0 c1 c2 c3 c4 c5 c6 c7 H2 E2 L2;obtain⟨c0,c1,c2,c3,c4,c5,c6,c7⟩:=I4 E3.blk;go_wp2_with fail
 refine H3.out.mono ?_;rintro e w4 ⟨rfl,L4,E4⟩;have H4:=Lh (Bn6 8 8 rfl (by decide) (by decide) [s] (by have:=HM.out.s1;simp;omega) 1 rfl (by decide) 1 b w.heap.size hne X3 (by omega) w w4 hbase L4 E4 #[.int .i64 (s:Int)] rfl);obtain⟨X4,hX4⟩:∃X4,X4=An5 X3 8 [s]:=⟨_,rfl⟩;rw[←hX4] at H4;have hl4:X4.length=30:=by rw[hX4,Ar6,hl3];rfl
 clear c0 c1 c2 c3 c4 c5 c6 c7 H3 E3 L3;obtain⟨c0,c1,c2,c3,c4,c5,c6,c7⟩:=I4 E4.blk;go_wp2_with fail
 refine H4.out.mono ?_;rintro e w5 ⟨rfl,L5,E5⟩;obtain⟨a5,cp5,B5,O5,hbel5⟩:=L5;have hx4:XF=X4++bl:=by rw[HXF.out,hX4,hX3,hX2,hX1];rfl
 clear c0 c1 c2 c3 c4 c5 c6 c7 H4 E4 L4;obtain⟨c0,c1,c2,c3,c4,c5,c6,c7⟩:=I4 E5.blk;have o0:w5.cell? ⟨b,0,none⟩=some (.slice a5 X4.length cp5):=B5.blk.cell 0 (by simp);have HXs:=Lh (show B8s XF=B8s X4++B8s bl by rw[hx4,Af9]);have HXl:=Lh (show 30+bl.length=XF.length by rw[hx4,List.length_append,hl4]);rw[hl4] at O5 o0;have hbl9:=HM.out.n2;have O5h:=Lh O5;have Hb5:=Lh (Hbl.out.mono hbel5);have Hbel:=Lh hbel5;clear hx4 hX1 hX2 hX3 hX4 O5 hbel5 E5 B5;go_wp2_with (at_builtin;go_must ((refine Ah6 (.tmp 36) (.tmp 38) rfl rfl rfl O5h.out (news:=B8s bl) (m:=bl.length) rfl Hb5.out (by simp) (M4 bl) (by omega) XF.length HXl.out (B8s XF) HXs.out ?_);intro a6 c6' w6 h6 hg6 hat6))
 go_ret2
 exact⟨a6,c6',rfl,h6,V3 Hbel.out O5h.out.own hg6 O5h.out.le (Nat.le_refl _)⟩
theorem V5.low{B C n:Nat}{w:World}{v:Value}{xs:List Value}(h:V5 C w v n xs)(hB:B≤C):V5 B w v n xs:=⟨Aw7 h.own hB,Nat.le_trans hB h.le⟩
theorem Bf0(k d e0 e1 g s:Nat)(bl:List UInt8):(inF k d e0 e1 g s bl).length=30+bl.length:=by unfold inF;rw[List.length_append,Cf5]
theorem Em3(k d e0 e1 g s:Nat)(b_ t_:Option Addr)(bc tc:Nat)(bl tl:List UInt8)(h:Aj5 k d e0 e1 g s bl.length)(ht:tl.length=16)(w:World)(hbl:A4 w b_ bl)(htl:A4 w t_ tl):
 Calls Tryz.prog 124 #[Az0 k d e0 e1 g s (.slice b_ bl.length bc) (.slice t_ tl.length tc)] w (Au5 w (inF k d e0 e1 g s bl++tl)):=by
 have Hp:=Lh (fun W=>Br2 k d e0 e1 g s b_ t_ bl.length bc tl.length tc (by have:=h.n2;unfold maxLen;omega) (by unfold maxLen;omega) W);rw[show Af5 k d e0 e1 g s bl.length tl.length=true by unfold Af5;rw[h.parts,ht];rfl] at Hp;have HI:=Lh (fun W hb=>Bx7 k d e0 e1 g s b_ t_ bc tl.length tc bl h W hb);have HL:=Lh (Bf0 k d e0 e1 g s bl);obtain⟨XF,hXF⟩:∃XF,XF=inF k d e0 e1 g s bl++tl:=⟨_,rfl⟩;rw[←hXF];have HXF:=Lh hXF;have Hbl:=Lh hbl;have Htl:=Lh htl;have h900:=h.n2;have htb:tl.length≤16:=by omega
 clear hXF hbl htl h ht;obtain⟨YF,hYF⟩:∃YF,YF=inF k d e0 e1 g s bl:=⟨_,rfl⟩;rw[←hYF] at HXF HL HI;have HXs:=Lh (show B8s XF=B8s YF++B8s tl by rw[HXF.out,Af9]);have HXl:=Lh (show YF.length+tl.length=XF.length by rw[HXF.out,List.length_append]);clear hYF;go_enter Tryz.func124,Tryz.ntmps124
 go_wp2_with fail
 refine(Hp.out _).mono ?_;rintro e w1 ⟨rfl,hb1⟩;have E1:=Lh (Bl6 w k d e0 e1 g s _ _ hb1);have Hb1:=Lh (bt (ba w _) hb1);clear hb1 Hp;obtain⟨c0,c1,c2,c3,c4,c5,c6,c7⟩:=I4 E1.out.blk;go_wp2_with fail
 refine(HI.out _ (Hbl.out.mono Hb1.out)).mono ?_;rintro e w2 ⟨a2,cp2,rfl,hO2,hb2⟩;have HO2:=Lh (hO2.low Hb1.out.size);have Hb2:=Lh (bt Hb1.out hb2);have E2:=Lh (E1.out.up hb2);clear c0 c1 c2 c3 c4 c5 c6 c7 hO2 hb2 HI;obtain⟨c0,c1,c2,c3,c4,c5,c6,c7⟩:=I4 E2.out.blk;have Ht2:=Lh (Htl.out.mono Hb2.out);have hYb:YF.length≤930:=by have:=HL.out;omega
 clear HL HXF E1;go_wp2_with (at_builtin;go_must ((refine Ah6 (.tmp 14) (.tmp 16) rfl rfl rfl HO2.out (news:=B8s tl) (m:=tl.length) rfl Ht2.out (by simp) (M4 tl) (by omega) XF.length HXl.out (B8s XF) HXs.out ?_);intro a6 c6' w6 h6 hg6 hat6))
 go_ret2
 exact⟨a6,c6',rfl,h6,V3 Hb2.out HO2.out.own hg6 HO2.out.le (Nat.le_refl _)⟩
theorem De2(n z:Nat)(hz:1≤z)(hz8:z≤8)(hn:n<256^z)(hn63:n≤9223372036854775807)(w:World):
 Calls Tryz.prog 77 #[.int .i64 n,.int .i64 z] w fun e w'=>e=.returned (.slice (some ⟨w.heap.size,0,none⟩) z z)∧A6 5 w' w.heap.size (B8s (J6 n z))∧Below w.heap.size w w':=by
 have HB:=Lh (fun W=>Ay9 n z hz hz8 hn hn63 W);go_enter Tryz.func77,Tryz.ntmps77
 go_wp2_with fail
 refine(HB.out _).mono ?_;rintro e w1 ⟨rfl,hB,hb⟩;go_wp2_with fail
 go_ret;exact⟨rfl,hB,hb⟩
end Go.Proofs.YtadpiemjgfndgaaGreatDoor
