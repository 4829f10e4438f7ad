/- Proved here, for use further on: MacD EnvA EnvB EnvC EnvE EnvF EnvG PrA MacE EnvH EnvI EnvJ EnvM EnvN EnvO. Conditions: none but those each theorem names. -/
import Derived.Test.YtadpiemjgfndgaaGreatDoorKi00
import Derived.Test.YtadpiemjgfndgaaGreatDoorKi09
import Derived.Test.YtadpiemjgfndgaaGreatDoorKi08
import Derived.Deep.DeepCutAuto
import Derived.Laws.BitsLemmas
import Derived.OwnWalk
import Derived.Lib.SliceRun
import Derived.ChangeKeysEq
import Derived.Test.YtadpiemjgfndgaaGreatDoorKi02
import Derived.Lib.AppendStr
import Derived.Lib.ConvBytes
import Derived.Lib.AtoiErrMem
import Derived.Deep.RegionHeld3
import Derived.Deep.DrawnRows
set_option linter.unusedSimpArgs false
set_option linter.unusedVariables false
set_option maxRecDepth 100000
set_option maxHeartbeats 8000000
namespace Go.Proofs.YtadpiemjgfndgaaGreatDoor
open Go.RowKit
def Bh4(u v:Value):Prop:=∀k,u.ownBlock=some k→v.ownBlock=some k→False
theorem Bh4.symm{u v:Value}(h:Bh4 u v):Bh4 v u:=fun k h1 h2=>h k h2 h1
theorem X7.other{B n m:Nat}{w w':World}{v u:Value}{xs ys:List Value}(h:X7 B w u m ys)(hg:w.grownBy w' v.ownBlock)(hd:Bh4 u v):X7 B w' u m ys:=by
 obtain⟨⟨h1,h2⟩,h3⟩:=h;refine⟨⟨h1,?_⟩,Nat.le_trans h3 hg.size⟩;rcases h2 with h2 | ⟨g,cap,cur,hv,hgB,hh,r⟩
 ·exact .inl h2
 ·refine .inr ⟨g,cap,cur,hv,hgB,?_,r⟩;rw[hg.block g (Array.getElem?_eq_some_iff.1 hh).1 (fun hx=>hd g (by rw[hv];rfl) hx.symm)];exact hh
theorem Bh4.grown{B m:Nat}{w:World}{u v v':Value}{ys:List Value}(hd:Bh4 u v)(hu:X7 B w u m ys)(hat:v'.ownBlock=v.ownBlock∨v'.ownBlock=some w.heap.size):Bh4 u v':=fun k h1 h2=>by
 rcases hat with hat | hat
 ·exact hd k h1 (hat▸h2)
 ·rw[hat] at h2;injection h2 with h2;have:=(hu.lt h1).2;omega
theorem As6(l m:List UInt8):B8s (l++m)=B8s l++B8s m:=by simp
theorem X7.nil(w:World):X7 w.heap.size w (.slice none 0 0) 0 []:=⟨⟨rfl,.inl ⟨rfl,rfl⟩⟩,Nat.le_refl _⟩
@[go_sem high] theorem Fo9 (t : TypeId) (a : UInt8) : binOp .xor t (.int .u8 (bv a)) (.int .u8 54) = pure (.int .u8 (bv (a ^^^ 54))) := Fe3 t a 54
@[go_sem high] theorem Fp0 (t : TypeId) (a : UInt8) : binOp .xor t (.int .u8 (bv a)) (.int .u8 92) = pure (.int .u8 (bv (a ^^^ 92))) := Fe3 t a 92
theorem Ch4(k:List UInt8)(b:UInt8)(i:Nat)(h:i<k.length):B8s (Ac0 (k.take (i+1)) b)=B8s (Ac0 (k.take i) b)++B8s [k.getD i 0^^^b]:=by
 rw[Ch2 k b i h,As6]
def Fo0(W wx:World)(K:List UInt8)(i:Nat)(v6 v7:Value):Prop:=
 ∃(ai ao:Option Addr) (ci co:Nat),v6=.slice ai i ci∧v7=.slice ao i co∧X7 W.heap.size wx v6 i (B8s (Ac0 (K.take i) 54))∧X7 W.heap.size wx v7 i (B8s (Ac0 (K.take i) 92))∧Bh4 v6 v7∧Below W.heap.size W wx
theorem Db7(a b:Option Addr)(c cb:Nat)(key m:List UInt8)(hk:key.length≤100000)(hm:m.length≤90000)(w:World)(hkey:A5 w a key)(hb:A5 w b m):
 Calls Tryz.prog 51 #[.slice a key.length c,.slice b m.length cb] w (Au7 w (Aw0 key m)):=by
 have HM:=Lh hb;have HBk:=Lh (Cn9 a c key hk w hkey);have HKl:=Lh (Bc9 key);have HTg:=Lh (show Aw0 key m=ofF (Ac0 (Z1 key) 92++ofF (Ac0 (Z1 key) 54++m)) from rfl);generalize Z1 key=K at HBk HKl HTg;rw[show K.length=K.length from rfl] at HKl;clear hkey hb;go_enter Tryz.func51,Tryz.ntmps51
 go_wp2_with fail
 refine HBk.out.mono ?_;rintro e w2 ⟨a2,c2,rfl,hown2,hb2⟩;rw[HKl.out];have HK:=Lh (show A5 w2 a2 K from Aq2 hown2);have Hb2:=Lh hb2;clear hown2 hb2 HBk;go_wp2_with fail
 go_loopw [6,7,8] (fun v6 v7 v8 wx=>∃i:Nat,i≤64∧v8=.int .i64 (i:Int)∧Fo0 w2 wx K i v6 v7) (fun _ _ v8 _=>64-(intOf v8).toNat)
 case atStart=>exact⟨0,Nat.zero_le _,rfl,none,none,0,0,rfl,rfl,X7.nil w2,X7.nil w2,(fun k h _=>by cases h),Below.refl _ _⟩
 case round=>
  obtain⟨i,hi,rfl,ai,ao,ci,co,rfl,rfl,hA,hO,hap,hb⟩:=hrel;have HA:=Lh hA;have HO:=Lh hO;have Hap:=Lh hap;have Hb:=Lh hb;clear hA hO hap hb;by_cases hlt:i<64
  ·obtain⟨kb,ko,rfl,hkb,hkc⟩:=Ad1 HK.out (by rw[HKl.out];decide);have Hc:=Lh (show ∀w',Below w2.heap.size w2 w'→w'.cell? ⟨kb,ko+i,none⟩=some (.int .u8 (bv (K.getD i 0))) from fun w' h=>by rw[h.cell (p:=⟨kb,ko+i,none⟩) hkb];exact hkc i (by rw[HKl.out];exact hlt));have H54:=Lh (Ch4 K 54 i (by rw[HKl.out];exact hlt));have H92:=Lh (Ch4 K 92 i (by rw[HKl.out];exact hlt));clear hkc;generalize K.getD i 0=x at Hc H54 H92;have c0:=Hc.out wr Hb.out;have hi1:i+1≤1000:=by omega
   go_wp2_with (first
    | (at_builtin;(refine Aj0 (.tmp 15) (.tmp 21) rfl rfl rfl (HA.out.up (ba wr _)) (news:=B8s [x^^^54]) (m:=1) rfl (S8 wr (B8s [x^^^54]) 5) rfl (Q1 _) (by omega) (i+1) rfl (B8s (Ac0 (K.take (i+1)) 54)) H54.out ?_;intro a3 c3 w3 h3 hg3 hat3;have H3:=Lh h3;have HO3:=Lh ((HO.out.up (ba wr _)).other (n:=i) (xs:=[]) hg3 Hap.out.symm);have Hap3:=Lh (Hap.out.symm.grown (HO.out.up (ba wr _)) hat3);have Hb3:=Lh (Ad9 (bta Hb.out _) (HA.out.up (ba wr _)).own hg3 (HA.out.up (ba wr _)).le (Nat.le_refl _));have d0:=Hc.out w3 Hb3.out;clear h3 hg3 hat3 c0))
    | (at_builtin;(refine Aj0 (.tmp 23) (.tmp 29) rfl rfl rfl (HO3.out.up (ba w3 _)) (news:=B8s [x^^^92]) (m:=1) rfl (S8 w3 (B8s [x^^^92]) 5) rfl (Q1 _) (by omega) (i+1) rfl (B8s (Ac0 (K.take (i+1)) 92)) H92.out ?_;intro a4 c4 w4 h4 hg4 hat4;have H4:=Lh h4;have HA4:=Lh ((H3.out.up (ba w3 _)).other (n:=i) (xs:=[]) hg4 Hap3.out.symm);have Hap4:=Lh (Hap3.out.symm.grown (H3.out.up (ba w3 _)) hat4);have Hb4:=Lh (Ad9 (bta Hb3.out _) (HO3.out.up (ba w3 _)).own hg4 (HO3.out.up (ba w3 _)).le (Nat.le_refl _));clear h4 hg4 hat4 d0)))
   exact⟨⟨i+1,by omega,by go_num,a3,a4,c3,c4,rfl,rfl,HA4.out,H4.out,Hap4.out,Hb4.out⟩,by simp[intOf];omega⟩
  ·obtain rfl:i=64:=by omega
   rw[List.take_of_length_le (by rw[HKl.out];exact Nat.le_refl _)] at HA HO;have HXl:=Lh (show(Ac0 K 54).length=64 by rw[Av9,HKl.out]);have HYl:=Lh (show(Ac0 K 92).length=64 by rw[Av9,HKl.out]);generalize Ac0 K 54=X at HA HXl HTg;generalize Ac0 K 92=Y at HO HYl HTg;obtain⟨XM,hXM⟩:∃XM,XM=X++m:=⟨_,rfl⟩;have hXl:XM.length=64+m.length:=by rw[hXM,List.length_append,HXl.out]
   rw[←hXM] at HTg;have HXM:=Lh (show B8s XM=B8s X++B8s m by rw[hXM,As6]);have HXMl:=Lh hXl;have HD:=Lh (Af4 XM);have HOf1:=Lh (fun(a':Option Addr) (c':Nat) W'=>Bh3 a' c' XM (by omega) W');generalize ofF XM=D at HTg HOf1 HD;obtain⟨YD,hYD⟩:∃YD,YD=Y++D:=⟨_,rfl⟩;have hYl:YD.length=96:=by rw[hYD,List.length_append,HYl.out,HD.out]
   rw[←hYD] at HTg;have HYD:=Lh (show B8s YD=B8s Y++B8s D by rw[hYD,As6]);have HYl2:=Lh hYl;have HOf2:=Lh (fun(a':Option Addr) (c':Nat) W'=>Bh3 a' c' YD (by omega) W');clear hXM hXl hYD hYl hlt hi;go_wp2_with (first
    | (at_builtin;(refine Aj0 (.tmp 32) (.tmp 33) rfl rfl rfl HA.out (news:=B8s m) (m:=m.length) rfl (HM.out.mono (bt Hb2.out Hb.out)) (by simp) (Q1 _) (by omega) XM.length HXMl.out.symm (B8s XM) HXM.out ?_;intro a3 c3 w3 h3 hg3 hat3;have H3:=Lh h3;have HO3:=Lh (HO.out.other (n:=64) (xs:=[]) hg3 Hap.out.symm);have Hb3:=Lh (Ad9 Hb.out HA.out.own hg3 HA.out.le (Nat.le_refl _));clear h3 hg3 hat3)))
   refine(HOf1.out a3 c3 w3 H3.out.at).mono ?_;rintro e w4 ⟨a4,c4,rfl,hown4,hb4⟩;have HD4:=Lh (show A5 w4 a4 D from Aq2 hown4);have HO4:=Lh (HO3.out.up hb4);have Hb4:=Lh (bt Hb3.out hb4);rw[HD.out];clear hown4 hb4;go_wp2_with (first
    | (at_builtin;(refine Aj0 (.tmp 31) (.tmp 35) rfl rfl rfl HO4.out (news:=B8s D) (m:=32) rfl HD4.out (by rw[List.length_map,HD.out]) (Q1 _) (by omega) YD.length (by rw[HYl2.out]) (B8s YD) HYD.out ?_;intro a5 c5 w5 h5 hg5 hat5;have H5:=Lh h5;have Hb5:=Lh (Ad9 Hb4.out HO4.out.own hg5 HO4.out.le (Nat.le_refl _));clear h5 hg5 hat5)))
   refine(HOf2.out a5 c5 w5 H5.out.at).mono ?_;rintro e w6 ⟨a6,c6,rfl,hown6,hb6⟩;have hT:ofF YD=Aw0 key m:=HTg.out.symm;have h32:(ofF YD).length=32:=Af4 _;rw[h32] at hown6 ⊢;rw[hT] at hown6;have H6:=Lh (show A5 w6 a6 (Aw0 key m) from Aq2 hown6);have Hcp:=Lh (show 32≤c6∧c6≤maxLen by obtain⟨_,_,h4,h5,h6⟩:=S7 hown6;cases h4;exact⟨h5,h6⟩);have Hb6:=Lh (bt (bt Hb2.out Hb5.out) hb6);clear hown6 hb6 hT h32;go_wp2_with fail
   go_ret;exact⟨a6,c6,rfl,Hcp.out,H6.out,Hb6.out⟩
def At7(n i:Nat):UInt8:=UInt8.ofNat (n/256^i)
def An3(n w k:Nat):List UInt8:=(List.range w).map fun i=>if w-1-i<k then At7 n (w-1-i) else 0
def Q8(n w:Nat):List UInt8:=An3 n w w
theorem Bv9(n w k:Nat):(An3 n w k).length=w:=by simp[An3]
theorem Ab5(n w:Nat):(Q8 n w).length=w:=Bv9 n w w
theorem Ch5(n w:Nat):B8s (An3 n w 0)=List.replicate w (.int .u8 0):=by
 apply List.ext_getElem (by simp[An3]);intro i h1 h2;simp[An3,bv]
theorem Co1(n w k P:Nat)(h:k<w)(hP:P+1+k=w)(x:UInt8)(hx:x=At7 n k):(B8s (An3 n w k)).set P (.int .u8 (bv x))=B8s (An3 n w (k+1)):=by
 subst hx;apply List.ext_getElem (by simp[An3]);intro i h1 h2;have hi:i<w:=by simpa [An3] using h2
 by_cases hp:P=i
 ·subst hp;have e1:w-1-P=k:=by omega
  simp[An3,e1]
 ·have e1:(w-1-i<k)↔(w-1-i<k+1):=by omega
  simp[An3,List.getElem_set,hp];by_cases h3:w-1-i<k
  ·rw[if_pos h3,if_pos (e1.1 h3)]
  ·rw[if_neg h3,if_neg (fun h=>h3 (e1.2 h))]
theorem Cx5(m:Nat):J3 (m:Int)=UInt8.ofNat m:=by
 unfold J3;apply UInt8.toNat_inj.1;rw[UInt8.toNat_ofNat',UInt8.toNat_ofNat'];omega
theorem Dx7(k:Nat):(2:Int)^(8*k)=((256^k:Nat):Int):=by
 rw[Int.pow_mul];norm_cast
theorem Ew8(n k:Nat):J3 ((n:Int)/2^(8*(k:Int)).toNat)=At7 n k:=by
 rw[show(8*(k:Int)).toNat=8*k by omega,Dx7,←Int.natCast_ediv,Cx5];rfl
theorem Ek7(n w:Nat)(h:n<256^w):(n:Int)/2^(8*(w:Int)).toNat=0:=by
 rw[show(8*(w:Int)).toNat=8*w by omega,Dx7,←Int.natCast_ediv,Nat.div_eq_of_lt h];rfl
theorem Ew9(n k N:Nat)(h:N=n/256^k):J3 ((N%256:Nat):Int)=At7 n k:=by
 rw[Cx5,h];apply UInt8.toNat_inj.1;unfold At7;rw[UInt8.toNat_ofNat',UInt8.toNat_ofNat'];omega
theorem Db8(n k:Nat):n/256^k/256=n/256^(k+1):=by rw[Nat.div_div_eq_div_mul,Nat.pow_succ]
def Bp6(w:World)(n z:Nat)(e:Ending)(w':World):Prop:=
 e=.returned (.tuple #[.slice (some ⟨w.heap.size,0,none⟩) z z,.int .i64 0])∧A6 5 w' w.heap.size (B8s (Q8 n z))∧Below w.heap.size w w'
theorem Ex0(n z:Nat)(hz:1≤z)(hz8:z≤8)(hn:n<256^z)(hn63:n≤9223372036854775807)(w:World):
 Calls Tryz.prog 112 #[.int .i64 n,.int .i64 z] w (Bp6 w n z):=by
 obtain⟨Z,hZ⟩:∃Z,Z=List.replicate z (.int .u8 0:Value):=⟨_,rfl⟩;have hmk:∀w,(Instr.makeSlice 22 (.int .i64 z) (.int .i64 z)).run Tryz.prog w=.ok (.slice (some ⟨w.heap.size,0,none⟩) z z) (w.alloc (.cells Z.toArray 5)):=fun w=>by
  rw[hZ];exact Bk2 V3 w .i64 .i64 z (by omega) (by unfold maxLen;omega) rfl
 have HZ:=Lh (show Z=B8s (An3 n z 0) by rw[hZ,Ch5]);have hs0:=Cn1 3 (n:Int) (8*(z:Int)) .i64 (by omega);rw[Ek7 n z hn] at hs0;have d1:¬(z:Int)<1:=by omega
 have d2:¬(8:Int)<(z:Int):=by omega
 have d3:¬(n:Int)<0:=by omega
 clear hZ hn;go_enter Tryz.func112,Tryz.ntmps112
 go_upto_region 1 with(fail)
 go_cut [28] (fun v wx=>v=.bool false∧w=wx)
 case first=>
  by_cases h8:z<8
  ·have hd:(z:Int)<8:=by omega
   have hs1:=hs0 (by omega);clear hs0;go_wp2_with fail
   go_meet
   exact⟨rfl,rfl⟩
  ·have hd:¬(z:Int)<8:=by omega
   clear hs0;go_wp2_with fail
   go_meet
   exact⟨rfl,rfl⟩
 case rest=>
  obtain⟨rfl,rfl⟩:=hcut;clear hs0;go_wp2_with fail
  generalize hW:World.alloc w _=W;have hB0:A6 5 W w.heap.size (B8s (An3 n z 0))∧Below w.heap.size w W:=by rw[←hW,←HZ.out];exact⟨A6.new w Z _,ba w _⟩
  clear hW HZ hmk
  go_loopw [33] (fun v wx=>∃k:Nat,k≤z∧v=.int .i64 k∧A6 5 wx w.heap.size (B8s (An3 n z k))∧Below w.heap.size w wx) (fun v _=>z-(intOf v).toNat)
  case atStart=>exact⟨0,Nat.zero_le _,rfl,hB0.1,hB0.2⟩
  case round=>
   clear hB0;obtain⟨k,hk,rfl,hB,hb⟩:=hrel;have HB:=Lh hB;have Hb:=Lh hb;clear hB hb;by_cases hlt:k<z
   ·obtain⟨P,hP⟩:∃P,P+1+k=z:=⟨z-1-k,by omega⟩;have hPi:(z:Int)-1-k=(P:Int):=by omega
    have hs:=Cn1 3 (n:Int) (8*(k:Int)) .i64 (by omega) (by omega);have hw:=Ax2 ((n:Int)/2^(8*(k:Int)).toNat);have Hset:=Lh (Co1 n z k P hlt hP _ (Ew8 n k));have hcell:=HB.out.blk.cell P (by rw[List.length_map,Bv9];omega);have hfr:=HB.out.blk.frozen;generalize J3 ((n:Int)/2^(8*(k:Int)).toNat)=x at hw Hset;generalize (n:Int)/2^(8*(k:Int)).toNat=y at hw hs;go_wp2_with fail
    refine⟨⟨k+1,by omega,by go_num,?_,?_⟩,by simp[intOf];omega⟩
    ·rw[←Hset.out];exact HB.out.set P _
    ·exact Hb.out.setCell (Nat.le_refl _) _
   ·obtain rfl:k=z:=by omega
    go_wp2_with fail
    go_ret2
    exact⟨rfl,HB.out,Hb.out⟩
theorem Dx8(z:Nat)(hz:z≤7)(w:World):
 Calls Tryz.prog 168 #[.int .i64 256,.int .i64 z] w fun e w'=>e=.returned (.int .i64 ((256^z:Nat):Int))∧w=w':=by
 go_enter Tryz.func168,Tryz.ntmps168
 go_wp2_with fail
 go_loopw [5,6] (fun v5 v6 wx=>∃k p:Nat,k≤z∧p=256^k∧v5=.int .i64 p∧v6=.int .i64 k∧w=wx) (fun _ v6 _=>z-(intOf v6).toNat)
 case atStart=>exact⟨0,1,Nat.zero_le _,rfl,rfl,rfl,rfl⟩
 case round=>
  obtain⟨k,p,hk,hp,rfl,rfl,rfl⟩:=hrel;by_cases hlt:k<z
  ·have hp6:p≤281474976710656:=by rw[hp];exact Nat.le_trans (Nat.pow_le_pow_right (by decide) (by omega:k≤6)) (by decide)
   have Hp:=Lh hp;clear hp;go_wp2_with fail
   exact⟨⟨k+1,p*256,by omega,by rw[Hp.out,Nat.pow_succ],by go_num,by go_num,by trivial⟩,by simp[intOf];omega⟩
  ·obtain rfl:k=z:=by omega
   have Hp:=Lh hp;clear hp;go_wp2_with fail
   go_ret;exact⟨by rw[Hp.out];rfl,rfl⟩
theorem Bd0(n z:Nat)(hz:1≤z)(hz8:z≤8)(hn:n<256^z)(hn63:n≤9223372036854775807)(w:World):
 Calls Tryz.prog 113 #[.int .i64 n,.int .i64 z] w (Bp6 w n z):=by
 obtain⟨Z,hZ⟩:∃Z,Z=List.replicate z (.int .u8 0:Value):=⟨_,rfl⟩;have hmk:∀w,(Instr.makeSlice 22 (.int .i64 z) (.int .i64 z)).run Tryz.prog w=.ok (.slice (some ⟨w.heap.size,0,none⟩) z z) (w.alloc (.cells Z.toArray 5)):=fun w=>by
  rw[hZ];exact Bk2 V3 w .i64 .i64 z (by omega) (by unfold maxLen;omega) rfl
 have HZ:=Lh (show Z=B8s (An3 n z 0) by rw[hZ,Ch5]);have d1:¬(z:Int)<1:=by omega
 have d2:¬(8:Int)<(z:Int):=by omega
 have d3:¬(n:Int)<0:=by omega
 have HP:=Lh (fun(h:z≤7)=>Dx8 z h);obtain⟨p,hp⟩:∃p,p=256^z:=⟨_,rfl⟩;rw[←hp] at HP hn;have Hn:=Lh hn;clear hZ hn hp;go_enter Tryz.func113,Tryz.ntmps113
 go_upto_region 3 with(fail)
 go_cut [25] (fun v wx=>v=.bool false∧w=wx)
 case first=>
  by_cases h8:z<8
  ·have hd:(z:Int)<8:=by omega
   go_wp2_with (first | (go_at_call 168;go_must ((refine(HP.out (by omega) _).mono ?_);rintro e w2 ⟨rfl,rfl⟩;have hd4:¬p≤n:=(by have:=Hn.out;omega))))
   go_meet
   exact⟨rfl,rfl⟩
  ·have hd:¬(z:Int)<8:=by omega
   go_wp2_with fail
   go_meet
   exact⟨rfl,rfl⟩
 case rest=>
  obtain⟨rfl,rfl⟩:=hcut;go_wp2_with fail
  generalize hW:World.alloc w _=W;have hB0:A6 5 W w.heap.size (B8s (An3 n z 0))∧Below w.heap.size w W:=by rw[←hW,←HZ.out];exact⟨A6.new w Z _,ba w _⟩
  clear hW HZ hmk HP Hn
  go_loopw [0,7] (fun v0 v7 wx=>∃(k N:Nat) (x:Int),k≤z∧N=n/256^k∧x=(z:Int)-1-k∧v0=.int .i64 N∧v7=.int .i64 x∧A6 5 wx w.heap.size (B8s (An3 n z k))∧Below w.heap.size w wx) (fun _ v7 _=>(intOf v7+1).toNat)
  case atStart=>exact⟨0,n,(z:Int)-1,Nat.zero_le _,by simp,by omega,rfl,by first | rfl | go_num,hB0.1,hB0.2⟩
  case round=>
   clear hB0;obtain⟨k,N,x,hk,hN,hx,rfl,rfl,hB,hb⟩:=hrel;have HB:=Lh hB;have Hb:=Lh hb;clear hB hb;have HN:=Lh hN;have hN63:N≤9223372036854775807:=by rw[hN];exact Nat.le_trans (Nat.div_le_self _ _) hn63
   clear hN;by_cases hlt:k<z
   ·obtain⟨P,hP⟩:∃P,P+1+k=z:=⟨z-1-k,by omega⟩;obtain rfl:x=(P:Int):=by omega
    have hr:Int.tmod (N:Int) 256=((N%256:Nat):Int):=by rw[Int.tmod_eq_emod_of_nonneg (by omega)];simp
    have hq:Int.tdiv (N:Int) 256=((N/256:Nat):Int):=by rw[Int.tdiv_eq_ediv_of_nonneg (by omega)];simp
    have hw:=Ax2 ((N%256:Nat):Int);have Hset:=Lh (Co1 n z k P hlt hP _ (Ew9 n k N HN.out));have HN2:=Lh (show N/256=n/256^(k+1) by rw[HN.out,Db8]);have hcell:=HB.out.blk.cell P (by rw[List.length_map,Bv9];omega);have hfr:=HB.out.blk.frozen;generalize J3 ((N%256:Nat):Int)=y at hw Hset;have hm:N%256≤255:=by omega
    have hdv:N/256≤9223372036854775807:=by omega
    generalize N%256=R at hr hw hm;generalize N/256=M at hq HN2 hdv;have Hx:=Lh hx;clear hx;go_wp2_with fail
    refine⟨⟨k+1,M,(P:Int)-1,by omega,HN2.out,by omega,by first | rfl | go_num,by first | rfl | go_num,?_,?_⟩,by first | (simp[intOf];done) | (simp[intOf];omega)⟩
    ·rw[←Hset.out];exact HB.out.set P _
    ·exact Hb.out.setCell (Nat.le_refl _) _
   ·obtain rfl:k=z:=by omega
    have hd:¬(0:Int)≤x:=by omega
    have Hx:=Lh hx;clear hx;go_wp2_with fail
    go_ret2
    exact⟨rfl,HB.out,Hb.out⟩
def I5(l:List UInt8)(at_:Nat):Nat→Nat
 | 0=>0
 | k+1=>I5 l at_ k*256+(l.getD (at_+k) 0).toNat
theorem Cx6(l:List UInt8)(at_:Nat):∀k,I5 l at_ k<256^k
 | 0=>by simp[I5]
 | k+1=>by
   have h1:=Cx6 l at_ k;have h2:=(l.getD (at_+k) 0).toNat_lt;show I5 l at_ k*256+(l.getD (at_+k) 0).toNat<256^(k+1);rw[Nat.pow_succ];omega
theorem Co2(l:List UInt8)(at_:Nat)(h:(l.getD at_ 0).toNat≤127):∀k,I5 l at_ (k+1)<128*256^k
 | 0=>by
   show 0*256+(l.getD (at_+0) 0).toNat<128*256^0;rw[Nat.add_zero];omega
 | k+1=>by
   have h1:=Co2 l at_ h k;have h2:=(l.getD (at_+(k+1)) 0).toNat_lt;show I5 l at_ (k+1)*256+(l.getD (at_+(k+1)) 0).toNat<128*256^(k+1);rw[Nat.pow_succ,←Nat.mul_assoc];omega
theorem Ex1(l:List UInt8)(at_ z k:Nat)(hz:z≤8)(h:z=8→(l.getD at_ 0).toNat≤127)(hk:k<z):I5 l at_ k*256+255≤9223372036854775807:=by
 by_cases h7:k=7
 ·subst h7;have:=Co2 l at_ (h (by omega)) 6;have e:128*256^6=36028797018963968:=by decide
  rw[e] at this;change I5 l at_ 7<_ at this;omega
 ·have h1:=Cx6 l at_ k;have h2:256^k≤256^6:=Nat.pow_le_pow_right (by decide) (by omega);have e:256^6=281474976710656:=by decide
  omega
theorem Bc4(m:Nat)(h:m≤9223372036854775807):IntKind.i64.wrap (m:Int)=(m:Int):=by rw[IntKind.wrap_i64];omega
theorem Fe7(t:TypeId)(n b:Nat)(hb:b<256)(hn:n*256+b≤9223372036854775807):binOp .or t (.int .i64 ((n*256:Nat):Int)) (.int .i64 (b:Int))=pure (.int .i64 ((n*256+b:Nat):Int)):=by
 show pure (Value.int .i64 (IntKind.i64.wrap (((BitVec.ofInt 64 ((n*256:Nat):Int) ||| BitVec.ofInt 64 (b:Int)).toNat:Nat):Int)))=_;have e:(BitVec.ofInt 64 ((n*256:Nat):Int) ||| BitVec.ofInt 64 (b:Int)).toNat=n*256+b:=by
  rw[BitVec.ofInt_natCast,BitVec.ofInt_natCast,BitVec.toNat_or,BitVec.toNat_ofNat,BitVec.toNat_ofNat,Nat.mod_eq_of_lt (by omega),Nat.mod_eq_of_lt (by omega)];have:=Nat.shiftLeft_add_eq_or_of_lt (i:=8) (b:=b) (by omega) n;rw[Nat.shiftLeft_eq] at this;exact this.symm
 rw[e,Bc4 _ hn]
theorem Ex2(t:TypeId)(n:Nat)(hn:n*256≤9223372036854775807):binOp .shl t (.int .i64 (n:Int)) (.int .u64 8)=pure (.int .i64 ((n*256:Nat):Int)):=by
 show Op.shift .shl .i64 (n:Int) .u64 8=_;unfold Op.shift;rw[if_neg (by omega)];show pure (Value.int .i64 (IntKind.i64.wrap ((n:Int)*2^(Int.toNat 8))))=_;rw[show(2:Int)^(Int.toNat 8)=256 by decide,show(n:Int)*256=((n*256:Nat):Int) by omega,Bc4 _ hn]
theorem Ex3{P:Program}(s d:TypeId)(hs:(P.underlying s).isSome=true)(hd:P.underlying d=some (.int .i64))(x:UInt8)(w:World):(convert s d (.int .u8 (bv x))).run P w=.ok (.int .i64 (x.toNat:Int)) w:=by
 obtain⟨d',hd'⟩:=Option.isSome_iff_exists.mp hs;have h:=x.toNat_lt;have e:IntKind.i64.wrap (bv x)=(x.toNat:Int):=by rw[IntKind.wrap_i64];unfold bv;omega
 simp[convert,run_underlying hd',run_underlying hd,Conv.intToInt,e]
def Cx7(w:World)(l:List UInt8)(at_ z:Nat)(e:Ending)(w':World):Prop:=
 e=.returned (.tuple (if z=8∧127<(l.getD at_ 0).toNat then#[.int .i64 0,.int .i64 0,.int .i64 2] else#[.int .i64 (I5 l at_ z),.int .i64 ((at_+z:Nat):Int),.int .i64 0]))∧w=w'
theorem Fe8(x:UInt8):bv x=(x.toNat:Int):=rfl
theorem Cu5(a:Option Addr)(c:Nat)(l:List UInt8)(at_ z:Nat)(hz:1≤z)(hz8:z≤8)(hat:at_+z≤l.length)(hc:l.length≤c)(hc63:c≤maxLen)(w:World)(h:A5 w a l):
 Calls Tryz.prog 182 #[.slice a l.length c,.int .i64 at_,.int .i64 z] w (Cx7 w l at_ z):=by
 unfold maxLen at hc63;have d1:¬(z:Int)<1:=by omega
 have d2:¬(8:Int)<(z:Int):=by omega
 have d3:¬(at_:Int)<0:=by omega
 have d4:¬(l.length:Int)<(at_:Int):=by omega
 have d5:¬(l.length:Int)-(at_:Int)<(z:Int):=by omega
 obtain⟨b,off,rfl,hbw,hcs⟩:=Ad1 h (by omega);have Hcs:=Lh hcs;obtain⟨V,hV⟩:∃V:Array Value,V=(if z=8∧127<(l.getD at_ 0).toNat then#[.int .i64 0,.int .i64 0,.int .i64 2] else#[.int .i64 (I5 l at_ z),.int .i64 ((at_+z:Nat):Int),.int .i64 0]):=⟨_,rfl⟩;have HV:=Lh hV;unfold Cx7;rw[←hV];clear hV hcs;have h0:w.cell? ⟨b,off+at_,none⟩=some (.int .u8 (bv (l.getD at_ 0))):=Hcs.out at_ (by omega);have H127:=Lh (show(127:Int)<bv (l.getD at_ 0)↔127<(l.getD at_ 0).toNat by rw[Fe8];omega);have Hget:=Lh (show l.getD at_ 0=l.getD at_ 0 from rfl);have H63:=Lh (fun k=>Ex1 l at_ z k hz8);obtain⟨x0,hx0⟩:∃x0,x0=l.getD at_ 0:=⟨_,rfl⟩;rw[←hx0] at h0 H127 HV H63;clear Hget hx0;by_cases hbad:z=8∧127<x0.toNat
 ·obtain⟨rfl,h127⟩:=hbad;have hd:(127:Int)<bv x0:=H127.out.2 h127;have HV2:=Lh (show V=#[.int .i64 0,.int .i64 0,.int .i64 2] by rw[HV.out,if_pos ⟨rfl,h127⟩]);clear HV H63;go_enter Tryz.func182,Tryz.ntmps182
  go_wp2_with fail
  go_ret3
  exact⟨by rw[HV2.out];rfl,rfl⟩
 ·have HV2:=Lh (show V=#[.int .i64 (I5 l at_ z),.int .i64 ((at_+z:Nat):Int),.int .i64 0] by rw[HV.out,if_neg hbad]);have H63':=Lh (fun k=>H63.out k (fun h8=>by rcases Nat.lt_or_ge 127 x0.toNat with h | h;exact(hbad ⟨h8,h⟩).elim;exact h));have Hbad:=Lh hbad;clear HV H63;go_enter Tryz.func182,Tryz.ntmps182
  go_upto_region 5 with(fail)
  go_cut [36] (fun v wx=>v=.bool false∧w=wx)
  case first=>
   by_cases h8:z=8
   ·subst h8;have hd:¬(127:Int)<bv x0:=fun h=>Hbad.out ⟨rfl,H127.out.1 h⟩;go_wp2_with fail
    go_meet
    exact⟨rfl,rfl⟩
   ·have hd:¬(z:Int)=8:=by omega
    go_wp2_with fail
    go_meet
    exact⟨rfl,rfl⟩
  case rest=>
   obtain⟨rfl,rfl⟩:=hcut;have hsl:=fun W=>By6 Tryz.underlying22 Am5 W (some ⟨b,off,none⟩) l.length c (at_:Int) ((at_:Int)+(z:Int)) (by omega) (by omega) (by omega);rw[show((at_:Int)+(z:Int)).toNat-(at_:Int).toNat=z by omega,Int.toNat_natCast] at hsl;have hadv:adv (some ⟨b,off,none⟩) c at_ 1=some ⟨b,off+at_,none⟩:=by unfold adv;rw[if_neg (by omega)];simp[Addr.add]
   rw[hadv] at hsl;clear hadv;go_wp2_with fail
   go_loopw [9,53] (fun v9 v53 wx=>∃k N:Nat,k≤z∧N=I5 l at_ k∧v9=.int .i64 N∧v53=.int .i64 k∧w=wx) (fun _ v53 _=>z-(intOf v53).toNat)
   case atStart=>exact⟨0,0,Nat.zero_le _,rfl,rfl,rfl,rfl⟩
   case round=>
    obtain⟨k,N,hk,hN,rfl,rfl,rfl⟩:=hrel;by_cases hlt:k<z
    ·have hck:w.cell? ⟨b,off+at_+k,none⟩=some (.int .u8 (bv (l.getD (at_+k) 0))):=by rw[Nat.add_assoc];exact Hcs.out (at_+k) (by omega)
     have hb:=H63'.out k hlt;rw[←hN] at hb;have HN:=Lh (show I5 l at_ (k+1)=N*256+(l.getD (at_+k) 0).toNat by rw[hN];rfl);generalize l.getD (at_+k) 0=x at hck HN;have hx:=x.toNat_lt;have h1:=Ex2 3 N (by omega);have h2:=Ex3 (P:=Tryz.prog) 5 3 (by kernel_rfl) Tryz.underlying3 x;have h3:=Fe7 3 N x.toNat hx (by omega);rw[←HN.out] at h3;have Hb:=Lh hb;clear hN hb hx;generalize x.toNat=M at h2 h3;obtain⟨N',hN'⟩:∃N',N'=I5 l at_ (k+1):=⟨_,rfl⟩;rw[←hN'] at h3;have HN':=Lh hN';clear hN' HN;generalize N*256=S at h1 h3;go_wp2_with fail
     exact⟨⟨k+1,N',by omega,HN'.out,rfl,by go_num,by trivial⟩,by first | (simp[intOf];done) | (simp[intOf];omega)⟩
    ·obtain rfl:k=z:=by omega
     have HN:=Lh hN;have hat2:(at_:Int)+(k:Int)=((at_+k:Nat):Int):=by omega
     generalize at_+k=T at hat2 HV2;clear hN hsl;go_wp2_with fail
     go_ret3
     exact⟨by rw[HV2.out,←HN.out];rfl,rfl⟩
abbrev Bp7(k d e0 e1 g s:Int)(vb vt:Value):Value:=.agg #[.int .i64 k,.int .i64 d,.int .i64 e0,.int .i64 e1,.int .i64 g,.int .i64 s,vb,vt]
def wB(x hi:Int):Bool:=decide (0≤x)&&decide (x≤hi)
abbrev Ap6:Int:=4611686018427387904
def Bz5(k:Int):Bool:=decide (k=1) || decide (k=2)
def Bw0(n:Nat):Bool:=decide (1≤n)&&decide (n≤900)
def At8(k d e0 e1 g s:Int)(n:Nat):Bool:=Bz5 k&&(wB e0 Ap6&&(wB e1 Ap6&&(wB s Ap6&&(wB d 1&&(wB g 2147483647&&Bw0 n)))))
def At9(k d e0 e1 g s:Int)(n m:Nat):Bool:=At8 k d e0 e1 g s n&&decide (m=16)
theorem Af6(n hi:Int)(w:World):
 Calls Tryz.prog 200 #[.int .i64 n,.int .i64 hi] w fun e w'=>e=.returned (.bool (wB n hi))∧w=w':=by
 go_enter Tryz.func200,Tryz.ntmps200
 go_wp2_with fail
 all_goals
  go_ret;exact⟨by simp[wB, *]<;>omega,rfl⟩
theorem Fe9(a b c:Value)(w:World):(Instr.index 232 (.agg #[a,b,c]) (.int .i64 0)).run Tryz.prog w=.ok a w:=by kernel_rfl
theorem Ff0(a b c:Value)(w:World):(Instr.index 232 (.agg #[a,b,c]) (.int .i64 1)).run Tryz.prog w=.ok b w:=by kernel_rfl
theorem Ff1(a b c:Value)(w:World):(Instr.index 232 (.agg #[a,b,c]) (.int .i64 2)).run Tryz.prog w=.ok c w:=by kernel_rfl
theorem Ch6(k d e0 e1 g s:Int)(ba_ ta:Option Addr)(n bc m tc:Nat)(hn:n≤maxLen)(w:World):
 Calls Tryz.prog 173 #[Bp7 k d e0 e1 g s (.slice ba_ n bc) (.slice ta m tc)] w fun e w'=>e=.returned (.bool (At8 k d e0 e1 g s n))∧Below w.heap.size w w':=by
 unfold maxLen at hn;obtain⟨V,hV⟩:∃V,V=At8 k d e0 e1 g s n:=⟨_,rfl⟩;rw[←hV];by_cases hk:k=1∨k=2
 ·have hkB:Bz5 k=true:=by rcases hk with rfl | rfl<;>rfl
  have hV2:V=(wB e0 Ap6&&(wB e1 Ap6&&(wB s Ap6&&(wB d 1&&(wB g 2147483647&&Bw0 n))))):=by rw[hV];unfold At8;rw[hkB];rfl
  have HV:=Lh hV2;clear hV hV2 hkB;go_enter Tryz.func173,Tryz.ntmps173
  go_upto_region 1 with(fail)
  go_cut [12] (fun v wx=>v=.bool false∧wx=w.alloc (.cells #[.int .i64 k,.int .i64 d,.int .i64 e0,.int .i64 e1,.int .i64 g,.int .i64 s,.slice ba_ n bc,.slice ta m tc] 65))
  case first=>
   rcases hk with rfl | rfl
   ·go_wp2_with fail
    go_meet
    exact⟨rfl,rfl⟩
   ·go_wp2_with fail
    go_meet
    exact⟨rfl,rfl⟩
  case rest=>
   obtain⟨rfl,rfl⟩:=hcut;clear hk;have i0:=fun W=>Fe9 (.int .i64 e0) (.int .i64 e1) (.int .i64 s) W;have i1:=fun W=>Ff0 (.int .i64 e0) (.int .i64 e1) (.int .i64 s) W;have i2:=fun W=>Ff1 (.int .i64 e0) (.int .i64 e1) (.int .i64 s) W;go_wp2_with fail
   go_loopw [22] (fun v22 wx=>∃j:Nat,j≤3∧v22=.int .i64 j∧(1≤j→wB e0 Ap6=true)∧(2≤j→wB e1 Ap6=true)∧(3≤j→wB s Ap6=true)∧wx=w.alloc (.cells #[.int .i64 k,.int .i64 d,.int .i64 e0,.int .i64 e1,.int .i64 g,.int .i64 s,.slice ba_ n bc,.slice ta m tc] 65)) (fun v22 _=>3-(intOf v22).toNat)
   case atStart=>exact⟨0,by omega,rfl,by omega,by omega,by omega,rfl⟩
   case round=>
    obtain⟨j,hj,rfl,h1,h2,h3,rfl⟩:=hrel;rcases(show j=0∨j=1∨j=2∨j=3 by omega) with rfl | rfl | rfl | rfl
    ·rcases hq:wB e0 Ap6 with _ | _
     ·go_wp2_with (first | (go_at_call 200;go_must ((refine(Af6 _ _ _).mono ?_);rintro e w2 ⟨rfl,rfl⟩)))
      go_ret;exact⟨by rw[HV.out,hq];rfl,ba _ _⟩
     ·go_wp2_with (first | (go_at_call 200;go_must ((refine(Af6 _ _ _).mono ?_);rintro e w2 ⟨rfl,rfl⟩)))
      exact⟨⟨1,by omega,by rfl,by simp,by omega,by omega,by trivial⟩,by simp[intOf]⟩
    ·rcases hq:wB e1 Ap6 with _ | _
     ·go_wp2_with (first | (go_at_call 200;go_must ((refine(Af6 _ _ _).mono ?_);rintro e w2 ⟨rfl,rfl⟩)))
      go_ret;exact⟨by rw[HV.out,h1 (by omega),hq];rfl,ba _ _⟩
     ·go_wp2_with (first | (go_at_call 200;go_must ((refine(Af6 _ _ _).mono ?_);rintro e w2 ⟨rfl,rfl⟩)))
      exact⟨⟨2,by omega,by rfl,by simpa using h1,by simp,by omega,by trivial⟩,by simp[intOf]⟩
    ·rcases hq:wB s Ap6 with _ | _
     ·go_wp2_with (first | (go_at_call 200;go_must ((refine(Af6 _ _ _).mono ?_);rintro e w2 ⟨rfl,rfl⟩)))
      go_ret;exact⟨by rw[HV.out,h1 (by omega),h2 (by omega),hq];rfl,ba _ _⟩
     ·go_wp2_with (first | (go_at_call 200;go_must ((refine(Af6 _ _ _).mono ?_);rintro e w2 ⟨rfl,rfl⟩)))
      exact⟨⟨3,by omega,by rfl,by simpa using h1,by simpa using h2,by simp,by trivial⟩,by simp[intOf]⟩
    ·have HV:=Lh (show V=(wB d 1&&(wB g 2147483647&&Bw0 n)) by rw[HV.out,h1 (by omega),h2 (by omega),h3 (by omega)];rfl);clear h1 h2 h3 i0 i1 i2;rcases hd:wB d 1 with _ | _
     ·go_wp2_with (first | (go_at_call 200;go_must ((refine(Af6 _ _ _).mono ?_);rintro e w2 ⟨rfl,rfl⟩)))
      go_ret;exact⟨by rw[HV.out,hd];rfl,ba _ _⟩
     ·rcases hg:wB g 2147483647 with _ | _
      ·go_wp2_with (first | (go_at_call 200;go_must ((refine(Af6 _ _ _).mono ?_);rintro e w2 ⟨rfl,rfl⟩)))
       go_ret;exact⟨by rw[HV.out,hd,hg];rfl,ba _ _⟩
      ·by_cases hl1:1≤n
       ·have hi1:(1:Int)≤(n:Int):=by omega
        go_wp2_with (first | (go_at_call 200;go_must ((refine(Af6 _ _ _).mono ?_);rintro e w2 ⟨rfl,rfl⟩)))
        all_goals
         go_ret;exact⟨by rw[HV.out,hd,hg];simp[Bw0, *];try omega,ba _ _⟩
       ·have hi1:¬(1:Int)≤(n:Int):=by omega
        go_wp2_with (first | (go_at_call 200;go_must ((refine(Af6 _ _ _).mono ?_);rintro e w2 ⟨rfl,rfl⟩)))
        all_goals
         go_ret;exact⟨by rw[HV.out,hd,hg];simp[Bw0, *];try omega,ba _ _⟩
 ·have h1:¬k=1:=fun h=>hk (.inl h);have h2:¬k=2:=fun h=>hk (.inr h);have HV:=Lh (show V=false by rw[hV];simp[At8,Bz5,h1,h2]);have b1:(k != 1)=true:=by simp[h1]
  have b2:(k != 2)=true:=by simp[h2]
  clear hV hk h1 h2;go_enter Tryz.func173,Tryz.ntmps173
  go_wp2_with fail
  go_ret;exact⟨by rw[HV.out];rfl,ba _ _⟩
abbrev I2(k d e0 e1 g s:Int)(vb vt:Value):List Value:=[.int .i64 k,.int .i64 d,.int .i64 e0,.int .i64 e1,.int .i64 g,.int .i64 s,vb,vt]
theorem Q5{w:World}{b:Nat}{k d e0 e1 g s:Int}{vb vt:Value}(h:Blk w b (I2 k d e0 e1 g s vb vt)):
 w.cell? ⟨b,0,none⟩=some (.int .i64 k)∧w.cell? ⟨b,1,none⟩=some (.int .i64 d)∧w.cell? ⟨b,2,none⟩=some (.int .i64 e0)∧w.cell? ⟨b,3,none⟩=some (.int .i64 e1)∧
 w.cell? ⟨b,4,none⟩=some (.int .i64 g)∧w.cell? ⟨b,5,none⟩=some (.int .i64 s)∧w.cell? ⟨b,6,none⟩=some vb∧w.cell? ⟨b,7,none⟩=some vt:=
 ⟨h.cell 0 (by simp),h.cell 1 (by simp),h.cell 2 (by simp),h.cell 3 (by simp),h.cell 4 (by simp),h.cell 5 (by simp),h.cell 6 (by simp),h.cell 7 (by simp)⟩
theorem Cd7(w:World)(k d e0 e1 g s:Int)(vb vt:Value){w2:World}(h:Below (w.alloc (.cells (I2 k d e0 e1 g s vb vt).toArray 65)).heap.size (w.alloc (.cells (I2 k d e0 e1 g s vb vt).toArray 65)) w2):A6 65 w2 w.heap.size (I2 k d e0 e1 g s vb vt):=
 (A6.new w (I2 k d e0 e1 g s vb vt) 65).up h
theorem Bp8(k d e0 e1 g s:Int)(ba_ ta:Option Addr)(n bc m tc:Nat)(hn:n≤maxLen)(hm:m≤maxLen)(w:World):
 Calls Tryz.prog 179 #[Bp7 k d e0 e1 g s (.slice ba_ n bc) (.slice ta m tc)] w fun e w'=>e=.returned (.bool (At9 k d e0 e1 g s n m))∧Below w.heap.size w w':=by
 have Hp:=Lh (fun W=>Ch6 k d e0 e1 g s ba_ ta n bc m tc hn W);obtain⟨V,hV⟩:∃V,V=At9 k d e0 e1 g s n m:=⟨_,rfl⟩;rw[←hV];have HV:=Lh hV;unfold maxLen at hn hm;clear hV;rcases hp:At8 k d e0 e1 g s n with _ | _
 ·go_enter Tryz.func179,Tryz.ntmps179
  go_wp2_with (first | (go_at_call 173;go_must ((refine(Hp.out _).mono ?_);rintro e w2 ⟨rfl,hb2⟩)))
  go_ret;exact⟨by rw[HV.out];unfold At9;rw[hp];rfl,bt (ba _ _) hb2⟩
 ·go_enter Tryz.func179,Tryz.ntmps179
  go_wp2_with (first | (go_at_call 173;go_must ((refine(Hp.out _).mono ?_);rintro e w2 ⟨rfl,hb2⟩;obtain⟨-,-,-,-,-,-,-,c7⟩:=Q5 (Cd7 w k d e0 e1 g s _ _ hb2).blk)))
  all_goals
   go_ret;exact⟨by rw[HV.out];unfold At9;rw[hp];first | (simp[*];done) | (simp[*];rw[Bool.eq_iff_iff];simp;omega),bt (ba _ _) hb2⟩
def Fk8(w:World)(l:List UInt8)(e:Ending)(w':World):Prop:=∃a c,e=.returned (.slice a l.length c)∧Buf w w' 5 (.slice a l.length c) l.length (B8s l)
theorem Ch7(a:Option Addr)(cap:Nat)(l:List UInt8)(w:World)(hc:l.length≤140737488355328)(hl:A5 w a l):
 Calls Tryz.prog 183 #[.slice a l.length cap] w (Fk8 w l):=by
 have q22:∀(w:World) (a:Option Addr) (n c n' c':Nat),(binOp .eql 22 (.slice a n c) (.slice none n' c')).run Tryz.prog w=.ok (.bool a.isNone) w:=fun w a n c n' c'=>Lib.run_eql_slice_nil w _ _ a n c n' c' Tryz.underlying22;rcases a with _ | ⟨b,o,s⟩
 ·have h0:l=[]:=by
   rcases hl with h | ⟨b,off,h,-⟩
   ·simpa using h
   ·cases h
  subst h0;go_enter Tryz.func183,Tryz.ntmps183
  go_wp2_with fail
  go_ret;exact⟨none,0,rfl,Buf.nil _ _⟩
 ·have Hl:=Lh (hl.mono (ba w (.cells #[] 5)));clear hl;go_enter Tryz.func183,Tryz.ntmps183
  go_wp2_with (at_builtin;go_must (refine W6 (.tmp 5) (.tmp 6) 22 rfl rfl V3 rfl (Buf.made w 5 [] 0 0 (by decide) rfl (by decide)) (sp:=some ⟨b,o,s⟩) (m:=l.length) (news:=B8s l) rfl Hl.out (by simp) (Q1 l) (by omega) (by decide) l.length (by omega) (B8s l) rfl ?_;intro a1 c1 w1 hB1))
  go_ret;exact⟨a1,c1,rfl,hB1⟩
theorem Af3(a b:Option Addr)(la ca lb cb:Nat)(l m:List UInt8)(w:World)(ha:la=l.length)(hb:lb=m.length)(hl:A5 w a l)(hm:A5 w b m):
 Calls Tryz.prog 101 #[.slice a la ca,.slice b lb cb] w fun e w'=>e=.returned (.bool (l==m))∧w=w':=by
 have h1:=Ao5 hl 22 9 5 Tryz.underlying22 Tryz.underlying5 Tryz.underlying9 la ca ha;have h2:=Ao5 hm 22 9 5 Tryz.underlying22 Tryz.underlying5 Tryz.underlying9 lb cb hb;have h3:=Lh (Cx1 l m);clear hl hm ha hb;go_enter Tryz.func101,Tryz.ntmps101
 go_wp2_with fail
 go_ret;exact⟨rfl,rfl⟩
abbrev Ent:Type:=List UInt8×List UInt8
def isF(k b:List UInt8)(e:Ent):Bool:=(k==e.1)&&(b==e.2)
def Ap1(es:List Ent)(k b:List UInt8):Bool:=es.any (isF k b)
def Z5(k b:List UInt8):List UInt8:=(Aw0 k b).take 16
theorem Ak7(k b:List UInt8):(Z5 k b).length=16:=by unfold Z5;rw[List.length_take,Bl9];rfl
def X8(w:World)(a:Option Addr)(es:List Ent):Prop:=
 ∃vs:List Value,vs.length=es.length*2∧At w a vs∧∀i,i<es.length→X9 w (vs.getD (i*2) undef) (es.getD i ([],[])).1∧X9 w (vs.getD (i*2+1) undef) (es.getD i ([],[])).2
theorem X8.mono{w w':World}{a:Option Addr}{es:List Ent}(h:X8 w a es)(hb:Below w.heap.size w w'):X8 w' a es:=by
 obtain⟨vs,h1,h2,h3⟩:=h;exact⟨vs,h1,h2.mono hb,fun i hi=>⟨(h3 i hi).1.mono hb,(h3 i hi).2.mono hb⟩⟩
theorem X8.nil(w:World)(a:Option Addr):X8 w a []:=⟨[],rfl,.inl rfl,fun i hi=>absurd hi (by simp)⟩
theorem Bz8{w:World}{b:Nat}{v0 v1:Value}(h:Blk w b [v0,v1]):w.cell? ⟨b,0,none⟩=some v0∧w.cell? ⟨b,1,none⟩=some v1:=
 ⟨h.cell 0 (by simp),h.cell 1 (by simp)⟩
theorem Ff3(a b a2 b2:Option Addr)(c d c2 d2:Nat)(k m k2 m2:List UInt8)(w:World)(h1:k.length≤maxLen)(h2:m.length≤maxLen)(h3:k2.length≤maxLen)(h4:m2.length≤maxLen)(ha:A5 w a k)(hb:A5 w b m)(ha2:A5 w a2 k2)(hb2:A5 w b2 m2):
 Calls Tryz.prog 201 #[.agg #[.slice a k.length c,.slice b m.length d],.agg #[.slice a2 k2.length c2,.slice b2 m2.length d2]] w (F6 w (isF k m (k2,m2))):=by
 have HE1:=Lh (fun(W:World) (h:Below w.heap.size w W)=>Bj6 a a2 c c2 k k2 h1 h3 W (ha.mono h) (ha2.mono h));have HE2:=Lh (fun(W:World) (h:Below w.heap.size w W)=>Bj6 b b2 d d2 m m2 h2 h4 W (hb.mono h) (hb2.mono h));have HS:=Lh (show isF k m (k2,m2)=((k==k2)&&(m==m2)) from rfl);clear ha hb ha2 hb2 h1 h2 h3 h4;generalize (k==k2)=p1 at HE1 HS;generalize (m==m2)=p2 at HE2 HS;rcases p1 with _ | _;all_goals
  rcases p2 with _ | _;all_goals
   go_enter Tryz.func201,Tryz.ntmps201
   go_wp2_with fail
   generalize hW:World.alloc _ _=W;obtain⟨B1,B2,hb⟩:=Ai3 (a:=[.slice a k.length c,.slice b m.length d]) (b:=[.slice a2 k2.length c2,.slice b2 m2.length d2]) hW;clear hW;generalize w.heap.size+1=n2 at B2 ⊢;refine(HE1.out _ hb).mono ?_;rintro e w2 ⟨rfl,hb2⟩;obtain⟨x0,x1⟩:=Bz8 (B1.up hb2);obtain⟨y0,y1⟩:=Bz8 (B2.up hb2);have Hb:=Lh (bt hb hb2);clear hb B1 B2 HE1 hb2;go_wp2_with fail
   try (refine(HE2.out _ Hb.out).mono ?_;rintro e w3 ⟨rfl,hb3⟩;replace Hb:=Lh (bt Hb.out hb3);clear hb3)
   try go_wp2_with fail
   go_ret;exact⟨by rw[HS.out];rfl,Hb.out⟩
def Cp1(w:World)(T:List UInt8)(e:Ending)(w':World):Prop:=∃a c,e=.returned (.slice a 16 c)∧(16≤c∧c≤maxLen)∧A5 w' a T∧Below w.heap.size w w'
theorem Bu3(a b:Option Addr)(c d:Nat)(k m:List UInt8)(hk:k.length≤100000)(hm:m.length≤90000)(w:World)(ha:A5 w a k)(hb:A5 w b m)(hks:O2 w):
 Calls Tryz.prog 178 #[.slice a k.length c,.slice b m.length d] w (Cp1 w (Z5 k m)):=by
 have HT:=Lh (Bz2 a b c d k m hk hm w ha hb hks);have HR:=Lh (show Z5 k m=(Aw0 k m).take 16 from rfl);generalize Aw0 k m=T at HT HR;generalize Z5 k m=R at HR ⊢;clear ha hb hks hk hm;go_enter Tryz.func178,Tryz.ntmps178
 go_wp2_with fail
 refine HT.out.mono ?_;rintro e w1 ⟨a1,c1,rfl,⟨hc1,hm1⟩,hat,hb1⟩;have hs:∀W,(Instr.sliceAt 22 (.slice a1 32 c1) none (some (.int .i64 16)) none).run Tryz.prog W=.ok (.slice a1 16 c1) W:=fun W=>Bv5 Tryz.underlying22 Am5 W a1 32 c1 16 (by omega);have Hat:=Lh (A5.take hat 16);have Hb:=Lh hb1;have Hc:=Lh (show 16≤c1∧c1≤maxLen from⟨by omega,hm1⟩);clear hat hb1 hc1 hm1;go_wp2_with fail
 go_ret;exact⟨a1,c1,rfl,Hc.out,by rw[HR.out];exact Hat.out,Hb.out⟩
theorem U2.up{w0 w w':World}{v:Value}{l:List UInt8}(h:U2 w0 w v l)(hb:Below w.heap.size w w'):U2 w0 w' v l:=U2.of rfl (h.buf.later hb)
theorem Dx4{ops:Array Oper}{o:Oper}{a:Act}{w:World}{K:Act→World→Prop}{Q:Exit→Act→World→Prop}{F:Prop}(s x:Operand)(hgd:o.guard=Option.none)
 (ho:o.op=.call {callee:=.builtin .append,args:=#[s,x],argTypes:=#[22,22]}) {w0:World} {v:Value} {l:List UInt8} (hs:a.eval s=v) (hB:U2 w0 w v l)
 {sp:Option Addr} {m c:Nat} (news:List UInt8) (hx:a.eval x=.slice sp m c) (hS:A5 w sp news) (hl:m=news.length) (h63:l.length+m≤140737488355328) (l2:List UInt8) (hl2:l2=l++news)
 (hK:∀a' cap' w',U2 w0 w' (.slice a' l2.length cap') l2→K (a.put o.dst (.slice a' l2.length cap')) w'):if Region.wanted o (yielded ops a.tmps)=true then Oper.wp Tryz.prog o a w K Q else F:=by
 subst hl2;subst hl;exact Av5 s x 22 hgd ho V3 hs hB.buf hx hS (by simp) (Q1 news) (by omega) (by decide) (l++news).length (by simp) (B8s (l++news)) (by simp) fun a' cap' w' hb=>hK a' cap' w' (U2.of rfl hb)
def Eu8(x:List UInt8):List UInt8:=J3 ((x.length:Int)/256)::J3 (x.length:Int)::x
def Am3(lab:List UInt8)(rows:List (List UInt8))(k:Nat):List UInt8:=J3 (lab.length:Int)::(lab++((rows.take k).map Eu8).flatten)
def As7(lab:List UInt8)(rows:List (List UInt8)):List UInt8:=Am3 lab rows rows.length
theorem Bz3(lab:List UInt8)(rows:List (List UInt8)):Am3 lab rows 0=[J3 (lab.length:Int)]++lab:=by simp[Am3]
theorem Bm0(lab:List UInt8)(rows:List (List UInt8))(k:Nat)(h:k<rows.length):Am3 lab rows (k+1)=(Am3 lab rows k++[J3 (((rows.getD k []).length:Int)/256),J3 ((rows.getD k []).length:Int)])++rows.getD k []:=by
 unfold Am3;rw[Ab7 rows k h []];simp[Eu8]
theorem Bh5(lab:List UInt8)(rows:List (List UInt8)):∀k,k≤rows.length→(Am3 lab rows k).length=1+lab.length+2*k+Am6 (rows.take k)
 | 0,_=>by simp[Am3,Am6];omega
 | k+1,h=>by
   rw[Bm0 lab rows k (by omega),Bb8 rows k (by omega)];simp only[List.length_append,List.length_cons,List.length_nil];rw[Bh5 lab rows k (by omega)];omega
theorem Cu4(n:Int):J3 (n%256)=J3 n:=by
 unfold J3;rw[Int.emod_emod_of_dvd _ (Int.dvd_refl 256)]
theorem Co0{ops:Array Oper}{rest:List Oper}{o:Oper}{a:Act}{w:World}{Q:Exit→Act→World→Prop}(s x:Operand)(hgd:o.guard=Option.none)
 (ho:o.op=.call {callee:=.builtin .append,args:=#[s,x],argTypes:=#[22,9]}) {w0:World} {v:Value} {l:List UInt8} (hs:a.eval s=v) (hB:U2 w0 w v l)
 (str:ByteArray) (hx:a.eval x=.string str) (h63:l.length+str.size≤1000000) (l2:List UInt8) (hl2:l2=l++str.data.toList)
 (h:∀a' cap' w',U2 w0 w' (.slice a' l2.length cap') l2→wpList Tryz.prog ops Q rest (a.put o.dst (.slice a' l2.length cap')) w'):wpList Tryz.prog ops Q (o::rest) a w:=by
 subst hl2;refine wpList_plain hgd fun K hK=>?_;obtain⟨i,hi,hz,hsz,hby⟩:=V3.info;obtain⟨v',w',hr,ho',hg,-⟩:=Lib.run_append_own_string (P:=Tryz.prog) w w0.heap.size 22 9 o.type 5 i V3.slice Tryz.underlying9 hi hz hsz hby v l.length (B8s l) hB.own str (by unfold maxLen;omega) (by omega) hB.bel.size;have hn:(l++str.data.toList).length=l.length+str.size:=by rw[List.length_append,Array.length_toList];rfl
 obtain⟨a',cap',rfl,-,-⟩:=S7 ho';have hR:U2 w0 w' (.slice a' (l.length+str.size) cap') (l++str.data.toList):=by
  refine⟨?_,Ad9 hB.bel hB.own hg hB.bel.size (Nat.le_refl _)⟩;rw[hn,As6];exact ho'
 unfold Oper.wp execOp;simp only[ho,resolve,List.map_toArray,List.map_cons,List.map_nil,hs,hx,invoke,builtin,Sem.run_bind,Sem.run_pure,Result.andThen_ok,hr];have hh:=h a' cap' w' (hn▸hR);rw[hn] at hh;exact hK _ _ hh
theorem Ek4{w:World}(str:ByteArray):A5 (Lib.bytesWorld w 5 str) (some ⟨w.heap.size,0,none⟩) str.data.toList:=by
 refine .inr ⟨w.heap.size,0,rfl,by rw[Lib.bytesWorld_size];omega,fun i hi=>?_⟩;have hi':i<str.data.toList.length:=by simpa using hi
 rw[Nat.zero_add,Cd1 _ _ hi',Lib.bytesWorld_cell w 5 str i (by rw[Array.length_toList] at hi';exact hi')];rfl
theorem Dx5{w:World}(str:ByteArray)(n:Nat)(hn:n=w.heap.size):A5 (Lib.bytesWorld w 5 str) (some ⟨n,0,none⟩) str.data.toList:=by
 subst hn;exact Ek4 str
theorem Bf0(s:ByteArray):s.data.toList.length=s.size:=by rw[Array.length_toList];rfl
theorem Ek5(str:ByteArray)(a:Option Addr)(c:Nat)(rows:List (List UInt8))(hs:str.size≤1000)(hr:rows.length≤100)(ht:Am6 rows≤10000)(w:World)(hrows:V6 w a rows):
 Calls Tryz.prog 115 #[.string str,.slice a rows.length c] w (Az7 w (As7 str.data.toList rows)):=by
 have Hr:=Lh hrows;have HL:=Lh (Bh5 str.data.toList rows);have HSt:=Lh (Bm0 str.data.toList rows);have HSl:=Lh (Br8 rows);have HT:=Lh (show As7 str.data.toList rows=Am3 str.data.toList rows rows.length from rfl);obtain⟨T0,hT0⟩:∃T0,T0=Am3 str.data.toList rows 0:=⟨_,rfl⟩;have HT0:=Lh (show T0=[J3 (str.size:Int)]++str.data.toList by rw[hT0,Bz3,Bf0]);have HT0e:=Lh hT0;have hsz:=Lh (Bf0 str);have hw8:=Ax2 (str.size:Int);have hcv:=fun W=>Lib.run_convert_string_bytes (P:=Tryz.prog) W 9 22 5 str Tryz.underlying9 Tryz.underlying22 Tryz.underlying5;have hO:U2 w (Lib.bytesWorld (w.alloc (.cells #[.int .u8 (bv (J3 (str.size:Int)))] 5)) 5 str) (.slice (some ⟨w.heap.size,0,none⟩) 1 1) [J3 (str.size:Int)]:=
  U2.of rfl ((Buf.made w 5 (B8s [J3 (str.size:Int)]) 1 1 (Nat.le_refl _) rfl (by decide)).later (Lib.bytesWorld_below _ _ _))
 have HO:=Lh hO;clear hrows hO hT0;generalize J3 (str.size:Int)=lb at hw8 HO HT0;go_enter Tryz.func115,Tryz.ntmps115
 go_wp2_with (at_builtin;go_must (refine Af5 (.tmp 10) (.tmp 12) rfl rfl rfl HO.out str.data.toList rfl (Dx5 str _ (J0 w _).symm) hsz.out.symm (by simp;omega) T0 HT0.out ?_;intro a1 c1 w1 h1;have H1:=Lh h1;clear h1))
 go_loopw [5,6] (fun v5 v6 wx=>∃(k:Nat) (L:List UInt8) (o:Option Addr) (oc:Nat),k≤rows.length∧v6=.int .i64 (k:Int)∧L=Am3 str.data.toList rows k∧v5=.slice o L.length oc∧U2 w wx v5 L) (fun _ v6 _=>rows.length-(intOf v6).toNat)
 case atStart=>exact⟨0,T0,a1,c1,Nat.zero_le _,rfl,HT0e.out,rfl,H1.out⟩
 case round=>
  clear hw8 hcv H1;obtain⟨k,L,o,oc,hk,rfl,hL,rfl,hO⟩:=hrel;have HLe:=Lh hL;have hLl:L.length≤20000:=by rw[hL,HL.out k hk,hsz.out];have:=HSl.out k;omega
  have HO:=Lh hO;clear hL hO;by_cases hlt:k<rows.length
  ·obtain⟨b,off,p,cc,rfl,hbl,hcell,hp1,hp2,hat⟩:=Hr.out.row k hlt;have hxl:(rows.getD k []).length≤10000:=by
    have h1:=HSl.out (k+1);have h2:=Bb8 rows k hlt;omega
   have HN:=Lh (HSt.out k hlt);rw[←HLe.out] at HN;have HC:=Lh (show ∀w',Below w.heap.size w w'→w'.cell? ⟨b,off+k,none⟩=some (.slice p (rows.getD k []).length cc) from fun w' h=>by rw[h.cell (p:=⟨b,off+k,none⟩) hbl];exact hcell);have Hat:=Lh hat
   clear hcell hat hp1 hp2;generalize rows.getD k []=x at HN HC Hat hxl;obtain⟨q,hq⟩:∃q:Int,q=(x.length:Int)/256:=⟨_,rfl⟩;obtain⟨r,hr2⟩:∃r:Int,r=(x.length:Int)%256:=⟨_,rfl⟩;have hb1:IntKind.u8.wrap q=bv (J3 ((x.length:Int)/256)):=by rw[Ax2,hq]
   have hb2:IntKind.u8.wrap r=bv (J3 (x.length:Int)):=by rw[Ax2,hr2,Cu4]
   have hq0:0≤q∧q≤100000:=by omega
   have hd1:((x.length:Int)).tdiv 256=q:=by rw[hq,Int.tdiv_eq_ediv_of_nonneg (by omega)]
   have hd2:((x.length:Int)).tmod 256=r:=by rw[hr2,Int.tmod_eq_emod_of_nonneg (by omega)]
   have hwq:IntKind.i64.wrap q=q:=by rw[IntKind.wrap_i64];omega
   have hwq2:wrap64 q=q:=by unfold wrap64;omega
   obtain⟨L1,hL1⟩:∃L1,L1=L++[J3 ((x.length:Int)/256),J3 (x.length:Int)]:=⟨_,rfl⟩;have HL1l:=Lh (show L1.length=L.length+2 by rw[hL1];simp);rw[←hL1] at HN;generalize J3 ((x.length:Int)/256)=b1 at hb1 hL1;generalize J3 (x.length:Int)=b2 at hb2 hL1;have HL1:=Lh hL1;have hi1:(k:Int)<(rows.length:Int):=by omega
   have hi0:(0:Int)≤(k:Int):=by omega
   obtain⟨T1,hT1⟩:∃T1,T1=Am3 str.data.toList rows (k+1):=⟨_,rfl⟩;rw[←hT1] at HN;have HT1:=Lh hT1;have c0:=HC.out wr HO.out.bel;clear hL1 hq hr2 hq0 hT1;go_wp2_with fail
   go_region_held3 (fun w'=>w'.cell? ⟨b,off+k,none⟩=some (.slice p x.length cc))
    (first
      | go_keep
      | (exact HC.out _ (HO.out.up (ba wr _)).bel)
      | (exact HC.out _ ((HO.out.up (ba wr _)).up (bd _)).bel)
      | (exact HC.out _ h6.bel))
    ((refine Dx4 (.tmp 20) (.tmp 35) rfl rfl rfl ((HO.out.up (ba wr _)).up (bd _)) [b1,b2] rfl ((S8 wr (B8s [b1,b2]) _).mono (bd _)) rfl (by omega) L1 HL1.out ?_;intro a6 c6 w6 h6))
   have H6:=Lh h6;clear h6 c0;have c0:=HC.out w6 H6.out.bel;go_wp2_with (at_builtin;go_must (refine Af5 (.tmp 37) (.tmp 41) rfl rfl rfl H6.out x rfl (Hat.out.mono H6.out.bel) rfl (by have:=HL1l.out;omega) T1 HN.out ?_;intro a7 c7 w7 h7;have H7:=Lh h7;clear h7 c0))
   exact⟨⟨k+1,T1,a7,c7,by omega,by go_num,HT1.out,rfl,H7.out⟩,by simp[intOf];omega⟩
  ·obtain rfl:k=rows.length:=by omega
   have hE:As7 str.data.toList rows=L:=by rw[HLe.out];exact HT.out
   have HE:=Lh hE;clear hE;go_wp2_with fail
   go_ret;rw[HE.out];exact⟨o,oc,rfl,HO.out.at,HO.out.bel⟩
theorem Dx6(lab:List UInt8)(rows:List (List UInt8)):(As7 lab rows).length=1+lab.length+2*rows.length+Am6 rows:=by
 unfold As7;rw[Bh5 lab rows _ (Nat.le_refl _),List.take_length]
theorem X7.cellset{T:TypeId}{B b j:Nat}{w:World}{v:Value}{n:Nat}{xs cs:List Value}(h:X7 B w v n xs)(hb:A6 T w b cs)(hT:T≠5)(u:Value):X7 B (w.setCell ⟨b,j,none⟩ u) v n xs:=by
 obtain⟨⟨h1,h2⟩,h3⟩:=h;refine⟨⟨h1,?_⟩,by simpa using h3⟩;rcases h2 with h2 | ⟨g',cap,cur,hv,hg',hh,r⟩
 ·exact .inl h2
 ·refine .inr ⟨g',cap,cur,hv,hg',?_,r⟩;rw[Below.heap_setCell _ _ _ _ ?_]
  ·exact hh
  ·intro he;have h9:=hh;rw[show g'=b from by first | exact he | exact he.symm,show w.heap[b]?=_ from hb] at h9;injection h9 with h9;injection h9 with _ k2 _;exact hT k2
def Bd1(W0:World)(b:Nat)(w:World)(X:List UInt8):Prop:=
 ∃a c,A6 22 w b [.slice a X.length c]∧X7 W0.heap.size w (.slice a X.length c) X.length (B8s X)∧Below W0.heap.size W0 w
theorem Bd1.up{W0 w w':World}{b:Nat}{X:List UInt8}(h:Bd1 W0 b w X)(hb:Below w.heap.size w w'):Bd1 W0 b w' X:=by
 obtain⟨a,c,h1,h2,h3⟩:=h;exact⟨a,c,h1.up hb,h2.up hb,bt h3 hb⟩
def An4(X:List UInt8)(z:Nat)(ns:List Nat):List UInt8:=ns.foldl (fun Y n=>Y++Q8 n z) X
theorem Dx9(X:List UInt8)(z:Nat)(ns:List Nat)(k:Nat)(h:k<ns.length):An4 X z (ns.take (k+1))=An4 X z (ns.take k)++Q8 (ns.getD k 0) z:=by
 rw[Ab7 ns k h 0];simp[An4,List.foldl_append]
theorem Az8(X:List UInt8)(z:Nat)(ns:List Nat):(An4 X z ns).length=X.length+z*ns.length:=by
 induction ns generalizing X with
 | nil=>simp[An4]
 | cons n ns ih=>simp only[An4,List.foldl_cons] at ih ⊢;rw[ih,List.length_append,Ab5,List.length_cons,Nat.mul_add];omega
abbrev Db9(n:Nat):Value:=.int .i64 (n:Int)
theorem Ex4(z:Nat)(hz:1≤z)(hz8:z≤8)(ns:List Nat)(hns:∀n∈ns,n<256^z∧n≤9223372036854775807)(hl:ns.length≤2)(gb c b:Nat)(hgb:gb≠b)(X:List UInt8)(hX:X.length≤1000)(W0 w:World)(hb0:W0.heap.size≤b)(hX0:Bd1 W0 b w X)(hap:A6 3 w gb (ns.map Db9)):
 Calls Tryz.prog 174 #[.int .i64 z,.slice (some ⟨gb,0,none⟩) ns.length c,.pointer (some ⟨b,0,none⟩)] w fun e w'=>e=.returned (.tuple #[])∧Bd1 W0 b w' (An4 X z ns)∧(∀g T cs,g≠b→g<w.heap.size→T≠5→A6 T w g cs→A6 T w' g cs):=by
 have HX0:=Lh hX0;have HA:=Lh hap;have Hns:=Lh hns;clear hX0 hap hns;go_enter Tryz.func174,Tryz.ntmps174
 go_wp2_with fail
 go_loopw [11] (fun v11 wx=>∃k:Nat,k≤ns.length∧v11=.int .i64 k∧Bd1 W0 b wx (An4 X z (ns.take k))∧(∀g T cs,g≠b→g<w.heap.size→T≠5→A6 T w g cs→A6 T wx g cs)) (fun v11 _=>ns.length-(intOf v11).toNat)
 case atStart=>exact⟨0,Nat.zero_le _,rfl,HX0.out,fun _ _ _ _ _ _ h=>h⟩
 case round=>
  clear HX0;obtain⟨k,hk,rfl,hXk,hkeep⟩:=hrel;have HK:=Lh hkeep;clear hkeep;by_cases hlt:k<ns.length
  ·obtain⟨a1,c1,hB,hO,hbel⟩:=hXk;have hn:=Hns.out (ns.getD k 0) (by rw[show ns.getD k 0=ns[k] by simp[List.getD,hlt]];exact List.getElem_mem hlt);have hc:wr.cell? ⟨gb,k,none⟩=some (Db9 (ns.getD k 0)):=by
    rw[(HK.out gb 3 _ hgb HA.out.blk.lt (by decide) HA.out).blk.cell k (by simpa using hlt)];simp[List.getD,hlt]
   obtain⟨YK,hYK⟩:∃YK,YK=An4 X z (ns.take k):=⟨_,rfl⟩;obtain⟨YN,hYN⟩:∃YN,YN=An4 X z (ns.take (k+1)):=⟨_,rfl⟩;have hsn:=Dx9 X z ns k hlt;rw[←hYK,←hYN] at hsn;rw[←hYK] at hB hO;have hYl:YK.length≤1008:=by rw[hYK,Az8,List.length_take];have:z*min k ns.length≤8*1:=Nat.mul_le_mul hz8 (by omega);omega
   generalize ns.getD k 0=n at hn hc hsn;have HSn:=Lh (show B8s YN=B8s YK++B8s (Q8 n z) by rw[hsn,As6]);have HSl:=Lh (show YK.length+z=YN.length by rw[hsn,List.length_append,Ab5]);have HYl:=Lh hYl;have HBig:=Lh (fun W=>Ex0 n z hz hz8 hn.1 hn.2 W);have HFl:=Lh (Ab5 n z);obtain⟨F,hF⟩:∃F,F=Q8 n z:=⟨_,rfl⟩;rw[←hF] at HSn HFl;have HF:=Lh hF;clear hF;have HB:=Lh hB;have HO:=Lh hO;have Hbel:=Lh hbel;have HYN:=Lh hYN;clear hsn hYK hYN hB hO hbel hYl hn;go_wp2_with fail
   refine(HBig.out _).mono ?_;rintro e w2 ⟨rfl,hB2,hb2⟩;have H2:=Lh (show At w2 (some ⟨wr.heap.size,0,none⟩) (B8s F) from by rw[HF.out];exact hB2.blk.at);have HB2:=Lh (HB.out.up hb2);have HO2:=Lh (HO.out.up hb2);have Hbel2:=Lh (bt Hbel.out hb2);have k0:=HB2.out.blk.cell 0 (by simp);have kf:=HB2.out.blk.frozen;have Hb2:=Lh hb2;have hYl:=HYl.out;clear hB2 hb2 HBig;go_wp2_with (at_builtin;go_must ((refine Aj0 (.tmp 21) (.tmp 22) rfl rfl rfl HO2.out (news:=B8s F) (m:=z) rfl H2.out (by rw[List.length_map,HFl.out]) (Q1 F) (by omega) YN.length HSl.out (B8s YN) HSn.out ?_);intro a3 c3 w3 h3 hg3 hat3;have HB3:=Lh (HB2.out.grownB (by decide) HO2.out hg3);have k0:=HB3.out.blk.cell 0 (by simp);have kf:=HB3.out.blk.frozen))
   have hb3:=Ad9 Hbel2.out HO2.out.own hg3 HO2.out.le (Nat.le_refl _);refine⟨⟨k+1,by omega,by go_num,?_,?_⟩,by first | (simp[intOf];done) | (simp[intOf];omega)⟩
   ·rw[←HYN.out];exact⟨a3,c3,HB3.out.set 0 _,h3.cellset HB3.out (by decide) _,hb3.setCell hb0 _⟩
   ·intro g T cs hgn hgl hT hG;exact(((HK.out g T cs hgn hgl hT hG).up Hb2.out).grownB hT HO2.out hg3).other hgn _
  ·obtain rfl:k=ns.length:=by omega
   rw[List.take_length] at hXk;have HX:=Lh hXk;clear hXk;go_wp2_with fail
   go_end0
   exact⟨rfl,HX.out,HK.out⟩
def inH(k d e0 e1 g s:Nat):List UInt8:=An4 (An4 (An4 (An4 [] 1 [k,d]) 8 [e0,e1]) 4 [g]) 8 [s]
def inF(k d e0 e1 g s:Nat)(bl:List UInt8):List UInt8:=inH k d e0 e1 g s++bl
theorem Cd8(k d e0 e1 g s:Nat):(inH k d e0 e1 g s).length=30:=by
 unfold inH;simp only[Az8];rfl
structure Ak6 (k d e0 e1 g s n:Nat):Prop where
 k1:1≤k
 k2:k≤2
 d1:d≤1
 e0:e0≤4611686018427387904
 e1:e1≤4611686018427387904
 g1:g≤2147483647
 s1:s≤4611686018427387904
 n1:1≤n
 n2:n≤900
theorem Dy0{k d e0 e1 g s:Int}{n:Nat}(h:At8 k d e0 e1 g s n=true):∃K D E0 E1 G S:Nat,k=K∧d=D∧e0=E0∧e1=E1∧g=G∧s=S∧Ak6 K D E0 E1 G S n:=by
 simp[At8,Bz5,wB,Bw0,Ap6] at h;obtain⟨hk,⟨a0,a1⟩,⟨b0,b1⟩,⟨c0,c1⟩,⟨d0,d1⟩,⟨g0,g1⟩,n1,n2⟩:=h;refine⟨k.toNat,d.toNat,e0.toNat,e1.toNat,g.toNat,s.toNat,by omega,by omega,by omega,by omega,by omega,by omega,⟨by omega,by omega,by omega,by omega,by omega,by omega,by omega,n1,n2⟩⟩
theorem Ak6.parts{k d e0 e1 g s n:Nat}(h:Ak6 k d e0 e1 g s n):At8 k d e0 e1 g s n=true:=by
 obtain⟨h1,h2,h3,h4,h5,h6,h7,h8,h9⟩:=h;simp[At8,Bz5,wB,Bw0,Ap6];omega
def Bf1(w:World)(L:List UInt8)(e:Ending)(w':World):Prop:=
 ∃a c,e=.returned (.tuple #[.slice a L.length c,.int .i64 0])∧X7 w.heap.size w' (.slice a L.length c) L.length (B8s L)∧Below w.heap.size w w'
theorem Bm1(z:Nat)(zi:Int)(hzi:zi=(z:Int))(hz:1≤z)(hz8:z≤8)(ns:List Nat)(hns:∀n∈ns,n<256^z∧n≤9223372036854775807)(len:Nat)(hlen:len=ns.length)(hl:len≤2)(c b b0:Nat)(hbb:b0≠b)(X:List UInt8)(hX:X.length≤1000)(W0 W:World)(hb0:W0.heap.size≤b)(hX0:Bd1 W0 b W X){L:List Value}(hE:A6 65 W b0 L)(xs:Array Value)(hxs:xs=(ns.map Db9).toArray):
 Calls Tryz.prog 174 #[.int .i64 zi,.slice (some ⟨W.heap.size,0,none⟩) len c,.pointer (some ⟨b,0,none⟩)] (W.alloc (.cells xs 3)) fun e w'=>e=.returned (.tuple #[])∧Bd1 W0 b w' (An4 X z ns)∧A6 65 w' b0 L:=by
 subst hzi;subst hlen;subst hxs;have hbl:b<W.heap.size:=by obtain⟨a,c,h1,-,-⟩:=hX0;exact h1.blk.lt
 refine(Ex4 z hz hz8 ns hns hl W.heap.size c b (by omega) X hX W0 _ hb0 (hX0.up (ba _ _)) (A6.new W (ns.map Db9) 3)).mono ?_;rintro e w' ⟨h1,h2,h3⟩;exact⟨h1,h2,h3 b0 _ _ hbb (by have:=hE.blk.lt;rw[J0];omega) (by decide) (hE.up (ba _ _))⟩
theorem Bw1(k d e0 e1 g s:Nat)(b_ t_:Option Addr)(bc m tc:Nat)(bl:List UInt8)(h:Ak6 k d e0 e1 g s bl.length)(w:World)(hbl:A5 w b_ bl):
 Calls Tryz.prog 122 #[Bp7 k d e0 e1 g s (.slice b_ bl.length bc) (.slice t_ m tc)] w (Bf1 w (inF k d e0 e1 g s bl)):=by
 have Hp:=Lh (fun W=>Ch6 k d e0 e1 g s b_ t_ bl.length bc m tc (by have:=h.n2;unfold maxLen;omega) W);rw[h.parts] at Hp;have HM:=Lh h;have Hbl:=Lh hbl;obtain⟨XF,hXF⟩:∃XF,XF=inF k d e0 e1 g s bl:=⟨_,rfl⟩;rw[←hXF];have HXF:=Lh hXF;clear h hbl hXF;go_enter Tryz.func122,Tryz.ntmps122
 go_wp2_with fail
 refine(Hp.out _).mono ?_;rintro e w1 ⟨rfl,hb1⟩;have E1:=Lh (Cd7 w k d e0 e1 g s _ _ hb1);have Hb1:=Lh (bt (ba w _) hb1);have hlt:=E1.out.blk.lt;clear hb1 Hp;go_upto_region 5 with(fail)
 generalize hW:World.alloc w1 _=W;have EW:A6 65 W w.heap.size (I2 k d e0 e1 g s (.slice b_ bl.length bc) (.slice t_ m tc)):=by rw[←hW];exact E1.out.up (ba _ _)
 have LW:Bd1 w w1.heap.size W []:=by
  rw[←hW];exact⟨none,0,A6.new w1 [.slice none 0 0] 22,⟨⟨rfl,.inl ⟨rfl,rfl⟩⟩,by have:=Hb1.out.size;rw[J0];omega⟩,bt Hb1.out (ba _ _)⟩
 clear hW;have hbase:=Hb1.out.size;have hne:w.heap.size≠w1.heap.size:=by omega
 generalize w1.heap.size=b at LW hbase hne hlt ⊢;clear E1 Hb1 w1;obtain⟨c0,c1,c2,c3,c4,c5,c6,c7⟩:=Q5 EW.blk;have H1:=Lh (Bm1 1 1 rfl (by decide) (by decide) [k,d] (by have:=HM.out.k2;have:=HM.out.d1;simp;omega) 2 rfl (by decide) 2 b w.heap.size hne [] (by simp) w W hbase LW EW #[.int .i64 (k:Int),.int .i64 (d:Int)] rfl);obtain⟨X1,hX1⟩:∃X1,X1=An4 [] 1 [k,d]:=⟨_,rfl⟩;rw[←hX1] at H1;have hl1:X1.length=2:=by rw[hX1,Az8];rfl
 go_wp2_with fail
 refine H1.out.mono ?_;rintro e w2 ⟨rfl,L2,E2⟩;have H2:=Lh (Bm1 8 8 rfl (by decide) (by decide) [e0,e1] (by have:=HM.out.e0;have:=HM.out.e1;simp;omega) 2 rfl (by decide) 2 b w.heap.size hne X1 (by omega) w w2 hbase L2 E2 #[.int .i64 (e0:Int),.int .i64 (e1:Int)] rfl);obtain⟨X2,hX2⟩:∃X2,X2=An4 X1 8 [e0,e1]:=⟨_,rfl⟩;rw[←hX2] at H2;have hl2:X2.length=18:=by rw[hX2,Az8,hl1];rfl
 clear c0 c1 c2 c3 c4 c5 c6 c7 H1 EW LW;obtain⟨c0,c1,c2,c3,c4,c5,c6,c7⟩:=Q5 E2.blk;go_wp2_with fail
 refine H2.out.mono ?_;rintro e w3 ⟨rfl,L3,E3⟩;have H3:=Lh (Bm1 4 4 rfl (by decide) (by decide) [g] (by have:=HM.out.g1;simp;omega) 1 rfl (by decide) 1 b w.heap.size hne X2 (by omega) w w3 hbase L3 E3 #[.int .i64 (g:Int)] rfl);obtain⟨X3,hX3⟩:∃X3,X3=An4 X2 4 [g]:=⟨_,rfl⟩;rw[←hX3] at H3;have hl3:X3.length=22:=by rw[hX3,Az8,hl2];rfl
 clear c0 c1 c2 c3 c4 c5 c6 c7 H2 E2 L2;obtain⟨c0,c1,c2,c3,c4,c5,c6,c7⟩:=Q5 E3.blk;go_wp2_with fail
 refine H3.out.mono ?_;rintro e w4 ⟨rfl,L4,E4⟩;have H4:=Lh (Bm1 8 8 rfl (by decide) (by decide) [s] (by have:=HM.out.s1;simp;omega) 1 rfl (by decide) 1 b w.heap.size hne X3 (by omega) w w4 hbase L4 E4 #[.int .i64 (s:Int)] rfl);obtain⟨X4,hX4⟩:∃X4,X4=An4 X3 8 [s]:=⟨_,rfl⟩;rw[←hX4] at H4;have hl4:X4.length=30:=by rw[hX4,Az8,hl3];rfl
 clear c0 c1 c2 c3 c4 c5 c6 c7 H3 E3 L3;obtain⟨c0,c1,c2,c3,c4,c5,c6,c7⟩:=Q5 E4.blk;go_wp2_with fail
 refine H4.out.mono ?_;rintro e w5 ⟨rfl,L5,E5⟩;obtain⟨a5,cp5,B5,O5,hbel5⟩:=L5;have hx4:XF=X4++bl:=by rw[HXF.out,hX4,hX3,hX2,hX1];rfl
 clear c0 c1 c2 c3 c4 c5 c6 c7 H4 E4 L4;obtain⟨c0,c1,c2,c3,c4,c5,c6,c7⟩:=Q5 E5.blk;have o0:w5.cell? ⟨b,0,none⟩=some (.slice a5 X4.length cp5):=B5.blk.cell 0 (by simp);have HXs:=Lh (show B8s XF=B8s X4++B8s bl by rw[hx4,As6]);have HXl:=Lh (show 30+bl.length=XF.length by rw[hx4,List.length_append,hl4]);rw[hl4] at O5 o0;have hbl9:=HM.out.n2;have O5h:=Lh O5;have Hb5:=Lh (Hbl.out.mono hbel5);have Hbel:=Lh hbel5;clear hx4 hX1 hX2 hX3 hX4 O5 hbel5 E5 B5;go_wp2_with (at_builtin;go_must ((refine Aj0 (.tmp 36) (.tmp 38) rfl rfl rfl O5h.out (news:=B8s bl) (m:=bl.length) rfl Hb5.out (by simp) (Q1 bl) (by omega) XF.length HXl.out (B8s XF) HXs.out ?_);intro a6 c6' w6 h6 hg6 hat6))
 go_ret2
 exact⟨a6,c6',rfl,h6,Ad9 Hbel.out O5h.out.own hg6 O5h.out.le (Nat.le_refl _)⟩
theorem X7.low{B C n:Nat}{w:World}{v:Value}{xs:List Value}(h:X7 C w v n xs)(hB:B≤C):X7 B w v n xs:=⟨Av8 h.own hB,Nat.le_trans hB h.le⟩
theorem Bk6(k d e0 e1 g s:Nat)(bl:List UInt8):(inF k d e0 e1 g s bl).length=30+bl.length:=by unfold inF;rw[List.length_append,Cd8]
theorem Ek8(k d e0 e1 g s:Nat)(b_ t_:Option Addr)(bc tc:Nat)(bl tl:List UInt8)(h:Ak6 k d e0 e1 g s bl.length)(ht:tl.length=16)(w:World)(hbl:A5 w b_ bl)(htl:A5 w t_ tl):
 Calls Tryz.prog 124 #[Bp7 k d e0 e1 g s (.slice b_ bl.length bc) (.slice t_ tl.length tc)] w (Bf1 w (inF k d e0 e1 g s bl++tl)):=by
 have Hp:=Lh (fun W=>Bp8 k d e0 e1 g s b_ t_ bl.length bc tl.length tc (by have:=h.n2;unfold maxLen;omega) (by unfold maxLen;omega) W);rw[show At9 k d e0 e1 g s bl.length tl.length=true by unfold At9;rw[h.parts,ht];rfl] at Hp;have HI:=Lh (fun W hb=>Bw1 k d e0 e1 g s b_ t_ bc tl.length tc bl h W hb);have HL:=Lh (Bk6 k d e0 e1 g s bl);obtain⟨XF,hXF⟩:∃XF,XF=inF k d e0 e1 g s bl++tl:=⟨_,rfl⟩;rw[←hXF];have HXF:=Lh hXF;have Hbl:=Lh hbl;have Htl:=Lh htl;have h900:=h.n2;have htb:tl.length≤16:=by omega
 clear hXF hbl htl h ht;obtain⟨YF,hYF⟩:∃YF,YF=inF k d e0 e1 g s bl:=⟨_,rfl⟩;rw[←hYF] at HXF HL HI;have HXs:=Lh (show B8s XF=B8s YF++B8s tl by rw[HXF.out,As6]);have HXl:=Lh (show YF.length+tl.length=XF.length by rw[HXF.out,List.length_append]);clear hYF;go_enter Tryz.func124,Tryz.ntmps124
 go_wp2_with fail
 refine(Hp.out _).mono ?_;rintro e w1 ⟨rfl,hb1⟩;have E1:=Lh (Cd7 w k d e0 e1 g s _ _ hb1);have Hb1:=Lh (bt (ba w _) hb1);clear hb1 Hp;obtain⟨c0,c1,c2,c3,c4,c5,c6,c7⟩:=Q5 E1.out.blk;go_wp2_with fail
 refine(HI.out _ (Hbl.out.mono Hb1.out)).mono ?_;rintro e w2 ⟨a2,cp2,rfl,hO2,hb2⟩;have HO2:=Lh (hO2.low Hb1.out.size);have Hb2:=Lh (bt Hb1.out hb2);have E2:=Lh (E1.out.up hb2);clear c0 c1 c2 c3 c4 c5 c6 c7 hO2 hb2 HI;obtain⟨c0,c1,c2,c3,c4,c5,c6,c7⟩:=Q5 E2.out.blk;have Ht2:=Lh (Htl.out.mono Hb2.out);have hYb:YF.length≤930:=by have:=HL.out;omega
 clear HL HXF E1;go_wp2_with (at_builtin;go_must ((refine Aj0 (.tmp 14) (.tmp 16) rfl rfl rfl HO2.out (news:=B8s tl) (m:=tl.length) rfl Ht2.out (by simp) (Q1 tl) (by omega) XF.length HXl.out (B8s XF) HXs.out ?_);intro a6 c6' w6 h6 hg6 hat6))
 go_ret2
 exact⟨a6,c6',rfl,h6,Ad9 Hb2.out HO2.out.own hg6 HO2.out.le (Nat.le_refl _)⟩
structure TS where
 at_:Nat
 ok:Bool
 L:List Value
def Az9(l:List UInt8)(at_ z:Nat):Prop:=z=8∧127<(l.getD at_ 0).toNat
instance (l:List UInt8) (at_ z:Nat):Decidable (Az9 l at_ z):=inferInstanceAs (Decidable (_∧_))
def An5(l:List UInt8)(z:Nat)(S:TS)(o:Nat):TS:=
 if Az9 l S.at_ z then⟨S.at_,false,S.L.set o (.int .i64 0)⟩ else⟨S.at_+z,S.ok,S.L.set o (.int .i64 (I5 l S.at_ z))⟩
def Af7(l:List UInt8)(z:Nat)(S:TS)(os:List Nat):TS:=os.foldl (An5 l z) S
theorem Dc0(l:List UInt8)(z:Nat)(S:TS)(os:List Nat)(k:Nat)(h:k<os.length):Af7 l z S (os.take (k+1))=An5 l z (Af7 l z S (os.take k)) (os.getD k 0):=by
 rw[Ab7 os k h 0];simp[Af7,List.foldl_append]
theorem Ek9(l:List UInt8)(z:Nat)(S:TS)(o:Nat):(An5 l z S o).at_≤S.at_+z:=by unfold An5;split<;>simp
theorem Dy1(l:List UInt8)(z:Nat)(S:TS)(o:Nat):(An5 l z S o).L.length=S.L.length:=by unfold An5;split<;>simp
theorem Bm2(l:List UInt8)(z:Nat)(S:TS)(os:List Nat):(Af7 l z S os).at_≤S.at_+z*os.length:=by
 induction os generalizing S with
 | nil=>simp[Af7]
 | cons o os ih=>
   have h1:=ih (An5 l z S o);have h2:=Ek9 l z S o;show(Af7 l z (An5 l z S o) os).at_≤_;rw[List.length_cons,Nat.mul_add];omega
theorem Bb9(l:List UInt8)(z:Nat)(S:TS)(os:List Nat):(Af7 l z S os).L.length=S.L.length:=by
 induction os generalizing S with
 | nil=>rfl
 | cons o os ih=>exact(ih (An5 l z S o)).trans (Dy1 l z S o)
def Bp9(w0:World)(ba_ bo be:Nat)(w:World)(S:TS):Prop:=
 A6 3 w ba_ [.int .i64 (S.at_:Int)]∧A6 4 w bo [.bool S.ok]∧A6 65 w be S.L∧Below w0.heap.size w0 w
abbrev Bm3(be o:Nat):Value:=.pointer (some ⟨be,o,none⟩)
theorem Co3{w0 wr:World}{ba_ bo be o N M:Nat}{B C:Bool}{L:List Value}(V:Value)(h1:w0.heap.size≤ba_)(h2:w0.heap.size≤bo)(h3:w0.heap.size≤be)(d1:ba_≠bo)(d2:ba_≠be)(d3:bo≠be)
 (hA:A6 3 wr ba_ [.int .i64 (M:Int)]) (hO:A6 4 wr bo [.bool C]) (hE:A6 65 wr be L) (hb:Below w0.heap.size w0 wr):
 Bp9 w0 ba_ bo be ((((wr.setCell ⟨be,o,none⟩ V).setCell ⟨ba_,0,none⟩ (.int .i64 (N:Int))).setCell ⟨bo,0,none⟩ (.bool B)).drew) ⟨N,B,L.set o V⟩:=
 ⟨((hA.other d2 _).set 0 _).other d1 _,((hO.other d3 _).other d1.symm _).set 0 _,((hE.set o _).other d2.symm _).other d3.symm _,(((hb.setCell h3 _).setCell h1 _).setCell h2 _).drew⟩
theorem El0(z:Nat)(hz:1≤z)(hz8:z≤8)(os:List Nat)(hos:∀o∈os,o<8)(hl:os.length≤2)(gp c bb ba_ bo be:Nat)(a:Option Addr)(ca:Nat)(l:List UInt8)(hla:l.length≤ca)(hca:ca≤maxLen)(S:TS)(hS8:S.L.length=8)(hfit:S.at_+z*os.length≤l.length)
 (w0 w:World) (h1:w0.heap.size≤ba_) (h2:w0.heap.size≤bo) (h3:w0.heap.size≤be) (d1:ba_≠bo) (d2:ba_≠be) (d3:bo≠be) (g1:gp≠ba_) (g2:gp≠bo) (g3:gp≠be) (b1:bb≠ba_) (b2:bb≠bo) (b3:bb≠be)
 (hbytes:A5 w0 a l) (hbb:A6 22 w bb [.slice a l.length ca]) (hp:A6 217 w gp (os.map (Bm3 be))) (hT:Bp9 w0 ba_ bo be w S):
 Calls Tryz.prog 181 #[.int .i64 z,.slice (some ⟨gp,0,none⟩) os.length c,.pointer (some ⟨bb,0,none⟩),.pointer (some ⟨ba_,0,none⟩),.pointer (some ⟨bo,0,none⟩)] w
  fun e w'=>e=.returned (.tuple #[])∧Bp9 w0 ba_ bo be w' (Af7 l z S os)∧(∀g T cs,g≠ba_→g≠bo→g≠be→A6 T w g cs→A6 T w' g cs):=by
 have HT:=Lh hT;have HP:=Lh hp;have HBB:=Lh hbb;have HBy:=Lh hbytes;have Hos:=Lh hos;have Hfit:=Lh hfit;have HS8:=Lh hS8;clear hT hp hbb hbytes hos hfit hS8;go_enter Tryz.func181,Tryz.ntmps181
 go_wp2_with fail
 go_loopw [14] (fun v14 wx=>∃k:Nat,k≤os.length∧v14=.int .i64 k∧Bp9 w0 ba_ bo be wx (Af7 l z S (os.take k))∧(∀g T cs,g≠ba_→g≠bo→g≠be→A6 T w g cs→A6 T wx g cs)) (fun v14 _=>os.length-(intOf v14).toNat)
 case atStart=>exact⟨0,Nat.zero_le _,rfl,HT.out,fun _ _ _ _ _ _ h=>h⟩
 case round=>
  clear HT;obtain⟨k,hk,rfl,hTk,hkeep⟩:=hrel;have HK:=Lh hkeep;clear hkeep;by_cases hlt:k<os.length
  ·have ho:=Hos.out (os.getD k 0) (by rw[show os.getD k 0=os[k] by simp[List.getD,hlt]];exact List.getElem_mem hlt);have hc:wr.cell? ⟨gp,k,none⟩=some (Bm3 be (os.getD k 0)):=by
    rw[(HK.out gp 217 _ g1 g2 g3 HP.out).blk.cell k (by simpa using hlt)];simp[List.getD,hlt]
   have Hsn:=Lh (Dc0 l z S os k hlt);have hat:=Bm2 l z S (os.take k);have hlen:=Bb9 l z S (os.take k);rw[List.length_take,Nat.min_eq_left (by omega)] at hat
   generalize Af7 l z S (os.take k)=U at hTk Hsn hat hlen;obtain⟨at_,ok,L⟩:=U;obtain⟨hA,hO,hE,hbel⟩:=hTk;simp only at hA hO hE hat hlen;have hfit2:at_+z≤l.length:=by
    have e:z*os.length≥z*(k+1):=Nat.mul_le_mul_left z (by omega);rw[Nat.mul_add] at e;have:=Hfit.out;omega
   have hL8:L.length=8:=by rw[hlen,HS8.out]
   generalize os.getD k 0=o at ho hc Hsn;have q0:wr.cell? ⟨bb,0,none⟩=some (.slice a l.length ca):=(HK.out bb 22 _ b1 b2 b3 HBB.out).blk.cell 0 (by simp);have q1:wr.cell? ⟨ba_,0,none⟩=some (.int .i64 (at_:Int)):=hA.blk.cell 0 (by simp);have q2:wr.cell? ⟨bo,0,none⟩=some (.bool ok):=hO.blk.cell 0 (by simp);have q3:wr.cell? ⟨be,o,none⟩=some (L.getD o undef):=hE.blk.cell o (by omega);have f1:=hA.blk.frozen;have f2:=hO.blk.frozen;have f3:=hE.blk.frozen;have HTk:=Lh (Cu5 a ca l at_ z hz hz8 hfit2 hla hca wr (HBy.out.mono hbel));have HA:=Lh hA;have HO:=Lh hO;have HE:=Lh hE;have Hbel:=Lh hbel;clear hA hO hE hbel hat hlen;by_cases hbad:Az9 l at_ z
   ·have hst:An5 l z ⟨at_,ok,L⟩ o=⟨at_,false,L.set o (.int .i64 0)⟩:=if_pos hbad;rw[hst] at Hsn;have HT2:=Lh (show Calls Tryz.prog 182 #[.slice a l.length ca,.int .i64 at_,.int .i64 z] wr fun e w'=>e=.returned (.tuple #[.int .i64 0,.int .i64 0,.int .i64 2])∧wr=w' from HTk.out.mono fun e w' ⟨h,h'⟩=>⟨by rw[h,if_pos (show z=8∧127<(l.getD at_ 0).toNat from hbad)],h'⟩);clear HTk hst hbad;go_wp2_with fail
    refine HT2.out.mono ?_;rintro e w2 ⟨rfl,rfl⟩;go_upto_region 4 with(fail)
    have e1:=d1.symm;have e2:=d2.symm;have e3:=d3.symm;rcases ok with _ | _;all_goals
     ·go_region
      go_wp2_with fail
      exact⟨⟨k+1,by omega,by go_num,by rw[Hsn.out];exact Co3 _ h1 h2 h3 d1 d2 d3 HA.out HO.out HE.out Hbel.out,fun g T cs n1 n2 n3 hG=>(((HK.out g T cs n1 n2 n3 hG).other n3 _).other n1 _).other n2 _⟩,by first | (simp[intOf];done) | (simp[intOf];omega)⟩
   ·have hst:An5 l z ⟨at_,ok,L⟩ o=⟨at_+z,ok,L.set o (.int .i64 (I5 l at_ z))⟩:=if_neg hbad;rw[hst] at Hsn;have HT2:=Lh (show Calls Tryz.prog 182 #[.slice a l.length ca,.int .i64 at_,.int .i64 z] wr fun e w'=>e=.returned (.tuple #[.int .i64 (I5 l at_ z),.int .i64 ((at_+z:Nat):Int),.int .i64 0])∧wr=w' from HTk.out.mono fun e w' ⟨h,h'⟩=>⟨by rw[h,if_neg (show ¬(z=8∧127<(l.getD at_ 0).toNat) from hbad)],h'⟩);have htz:at_<at_+z:=by omega
    clear HTk hst hbad;generalize at_+z=T at HT2 Hsn htz;generalize I5 l at_ z=M at HT2 Hsn;have htz2:(at_:Int)<(T:Int):=by omega
    go_wp2_with fail
    refine HT2.out.mono ?_;rintro e w2 ⟨rfl,rfl⟩;go_upto_region 4 with(fail)
    have e1:=d1.symm;have e2:=d2.symm;have e3:=d3.symm;rcases ok with _ | _;all_goals
     ·go_region
      go_wp2_with fail
      exact⟨⟨k+1,by omega,by go_num,by rw[Hsn.out];exact Co3 _ h1 h2 h3 d1 d2 d3 HA.out HO.out HE.out Hbel.out,fun g T cs n1 n2 n3 hG=>(((HK.out g T cs n1 n2 n3 hG).other n3 _).other n1 _).other n2 _⟩,by first | (simp[intOf];done) | (simp[intOf];omega)⟩
  ·obtain rfl:k=os.length:=by omega
   rw[List.take_length] at hTk;have HX:=Lh hTk;clear hTk;go_wp2_with fail
   go_end0
   exact⟨rfl,HX.out,HK.out⟩
abbrev D6:List Value:=I2 0 0 0 0 0 0 (.slice none 0 0) (.slice none 0 0)
def Ck8(w:World)(why:Int)(e:Ending)(w':World):Prop:=e=.returned (.tuple #[.agg D6.toArray,.int .i64 why])∧Below w.heap.size w w'
theorem Ab6:(Tryz.prog.info? 65).map (·.size)=some 8:=by kernel_rfl
theorem Dc1(a:Option Addr)(c:Nat)(l:List UInt8)(h:l.length<47)(w:World):
 Calls Tryz.prog 132 #[.slice a l.length c] w (Ck8 w 3):=by
 have hd:(l.length:Int)<47:=by omega
 go_enter Tryz.func132,Tryz.ntmps132
 go_wp2_with fail
 refine bodyPost_ret (G8 rfl _ _ (w.heap.size+1) (cs:=D6) rfl _ rfl ?hb Tryz.underlying65 rfl Ab6) rfl ?_
 case hb=>have:=Blk.new (w.alloc (.cells #[.slice a l.length c] 22)) D6 65;rwa [J0] at this
 exact⟨rfl,bta (ba w _) _⟩
theorem Dy2(a:Option Addr)(c:Nat)(l:List UInt8)(h:946<l.length)(hm:l.length≤maxLen)(w:World):
 Calls Tryz.prog 132 #[.slice a l.length c] w (Ck8 w 4):=by
 unfold maxLen at hm;have hd:¬(l.length:Int)<47:=by omega
 have hd2:(946:Int)<(l.length:Int):=by omega
 go_enter Tryz.func132,Tryz.ntmps132
 go_wp2_with fail
 refine bodyPost_ret (G8 rfl _ _ (w.heap.size+1) (cs:=D6) rfl _ rfl ?hb Tryz.underlying65 rfl Ab6) rfl ?_
 case hb=>have:=Blk.new (w.alloc (.cells #[.slice a l.length c] 22)) D6 65;rwa [J0] at this
 exact⟨rfl,bta (ba w _) _⟩
def Bz6(l:List UInt8):Prop:=¬Az9 l 2 8∧¬Az9 l 10 8∧¬Az9 l 22 8
instance (l:List UInt8):Decidable (Bz6 l):=inferInstanceAs (Decidable (_∧_))
def Bc0(l:List UInt8):TS:=Af7 l 8 (Af7 l 4 (Af7 l 8 (Af7 l 1 ⟨0,true,D6⟩ [0,1]) [2,3]) [4]) [5]
theorem Ad2{l:List UInt8}{z at_ o:Nat}{ok:Bool}{L:List Value}(h:¬Az9 l at_ z):An5 l z ⟨at_,ok,L⟩ o=⟨at_+z,ok,L.set o (.int .i64 (I5 l at_ z))⟩:=if_neg h
theorem Bq0{l:List UInt8}{z at_ o:Nat}{ok:Bool}{L:List Value}(h:Az9 l at_ z):An5 l z ⟨at_,ok,L⟩ o=⟨at_,false,L.set o (.int .i64 0)⟩:=if_pos h
theorem Bc1{l:List UInt8}{z o:Nat}{S:TS}(h:S.ok=false):(An5 l z S o).ok=false:=by unfold An5;split<;>simp[h]
theorem Be1{l:List UInt8}{at_ z:Nat}(h:z≠8):¬Az9 l at_ z:=fun h'=>h h'.1
theorem Cu6{l:List UInt8}(h:Bz6 l):Bc0 l=⟨30,true,I2 (I5 l 0 1) (I5 l 1 1) (I5 l 2 8) (I5 l 10 8) (I5 l 18 4) (I5 l 22 8) (.slice none 0 0) (.slice none 0 0)⟩:=by
 obtain⟨h1,h2,h3⟩:=h;unfold Bc0 Af7;simp only[List.foldl_cons,List.foldl_nil];rw[Ad2 (z:=1) (at_:=0) (o:=0) (Be1 (by decide)),Ad2 (z:=1) (at_:=1) (o:=1) (Be1 (by decide)),Ad2 (z:=8) (at_:=2) (o:=2) h1,Ad2 (z:=8) (at_:=10) (o:=3) h2,Ad2 (z:=4) (at_:=18) (o:=4) (Be1 (by decide)),Ad2 (z:=8) (at_:=22) (o:=5) h3];rfl
theorem Dc2{l:List UInt8}(h:¬Bz6 l):(Bc0 l).ok=false:=by
 unfold Bc0 Af7;simp only[List.foldl_cons,List.foldl_nil];rw[Ad2 (z:=1) (at_:=0) (o:=0) (Be1 (by decide)),Ad2 (z:=1) (at_:=1) (o:=1) (Be1 (by decide))];by_cases h1:Az9 l 2 8
 ·rw[Bq0 (z:=8) (at_:=2) (o:=2) h1];exact Bc1 (Bc1 (Bc1 rfl))
 ·rw[Ad2 (z:=8) (at_:=2) (o:=2) h1];by_cases h2:Az9 l 10 8
  ·rw[Bq0 (z:=8) (at_:=10) (o:=3) h2];exact Bc1 (Bc1 rfl)
  ·rw[Ad2 (z:=8) (at_:=10) (o:=3) h2,Ad2 (z:=4) (at_:=18) (o:=4) (Be1 (by decide))];by_cases h3:Az9 l 22 8
   ·rw[Bq0 (z:=8) (at_:=22) (o:=5) h3]
   ·exact(h ⟨h1,h2,h3⟩).elim
theorem Dc3(l:List UInt8):(Bc0 l).L.length=8:=by unfold Bc0;simp only[Bb9];rfl
structure RB (w:World) (rb ba_ bo be:Nat):Prop where
 r:rb=w.heap.size+1
 a:ba_=w.heap.size+2
 o:bo=w.heap.size+3
 e:be=w.heap.size+4
def Co4(w:World)(rb ba_ bo be:Nat)(a:Option Addr)(l:List UInt8)(c:Nat)(W:World)(S:TS):Prop:=
 Bp9 w ba_ bo be W S∧A6 22 W w.heap.size [.slice a l.length c]∧A6 65 W rb D6
theorem Bh6(z:Nat)(zi:Int)(hzi:zi=(z:Int))(hz:1≤z)(hz8:z≤8)(os:List Nat)(hos:∀o∈os,o<8)(len:Nat)(hlen:len=os.length)(hl:len≤2)(c:Nat)(a:Option Addr)(ca:Nat)(l:List UInt8)(hla:l.length≤ca)(hca:ca≤maxLen)(S:TS)(hS8:S.L.length=8)(hfit:S.at_+z*os.length≤l.length)
 (w W:World) (rb ba_ bo be:Nat) (hr:RB w rb ba_ bo be) (hbytes:A5 w a l) (h:Co4 w rb ba_ bo be a l ca W S) (xs:Array Value) (hxs:xs=(os.map (Bm3 be)).toArray):
 Calls Tryz.prog 181 #[.int .i64 zi,.slice (some ⟨W.heap.size,0,none⟩) len c,.pointer (some ⟨w.heap.size,0,none⟩),.pointer (some ⟨ba_,0,none⟩),.pointer (some ⟨bo,0,none⟩)] (W.alloc (.cells xs 217))
  fun e w'=>e=.returned (.tuple #[])∧Co4 w rb ba_ bo be a l ca w' (Af7 l z S os):=by
 subst hzi;subst hlen;subst hxs;obtain⟨r1,r2,r3,r4⟩:=hr;obtain⟨⟨hA,hO,hE,hb⟩,hB,hR⟩:=h;have hlt:be<W.heap.size:=hE.blk.lt;refine(El0 z hz hz8 os hos hl W.heap.size c w.heap.size ba_ bo be a ca l hla hca S hS8 hfit w _ (by omega) (by omega) (by omega) (by omega) (by omega) (by omega) (by omega) (by omega) (by omega) (by omega) (by omega) (by omega) hbytes (hB.up (ba _ _)) (A6.new W _ 217) ⟨hA.up (ba _ _),hO.up (ba _ _),hE.up (ba _ _),bt hb (ba _ _)⟩).mono ?_;rintro e w' ⟨h1,h2,h3⟩;exact⟨h1,h2,h3 _ _ _ (by omega) (by omega) (by omega) (hB.up (ba _ _)),h3 _ _ _ (by omega) (by omega) (by omega) (hR.up (ba _ _))⟩
end Go.Proofs.YtadpiemjgfndgaaGreatDoor
