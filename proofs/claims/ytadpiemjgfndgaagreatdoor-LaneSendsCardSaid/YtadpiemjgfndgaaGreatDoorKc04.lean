/- Proved here, for use further on: WnA WnB WnC WnD WnE WnF WnG WnH WnI WnJ WnK WnL WnM. Conditions: none but those each theorem names. -/
import Derived.Test.YtadpiemjgfndgaaGreatDoorKc00
import Derived.Test.YtadpiemjgfndgaaGreatDoorKc02
import Derived.Test.YtadpiemjgfndgaaGreatDoorProg
import Derived.Deep.QuietTactic
import Derived.BigQuiet
import Derived.Deep.DeepCutAuto
import Derived.OwnWalk
import Derived.Deep.MidRow
import Derived.ChangeKeysEq
import Derived.Laws.StructEq
import Derived.Deep.RegionHeld3
set_option linter.unusedSimpArgs false
set_option linter.unusedVariables false
set_option maxRecDepth 100000
set_option maxHeartbeats 8000000
namespace Go.Proofs.YtadpiemjgfndgaaGreatDoor
open Go.RowKit
def qv(x:UInt64):Int:=x.toNat
theorem Fc4{x y:UInt64}:qv x=qv y↔x=y:=by
 unfold qv;rw[Int.natCast_inj,UInt64.toNat_inj]
theorem Dx3{n:Int}(h:(Lit.int .u64 n).wf=true):∃x,n=qv x:=by
 simp[Lit.wf,IntKind.min,IntKind.max,IntKind.bits,IntKind.signed] at h;refine⟨UInt64.ofNat n.toNat,?_⟩;unfold qv;rw[UInt64.toNat_ofNat'];omega
theorem Ba8(x:UInt64):BitVec.ofInt 64 (qv x)=x.toBitVec:=by
 unfold qv;rw[BitVec.ofInt_natCast];exact BitVec.ofNat_toNat 64 x.toBitVec|>.trans (by simp)
theorem Ap1(n:Nat)(h:n<18446744073709551616):IntKind.u64.wrap (n:Int)=n:=by
 rw[IntKind.wrap_u64];omega
section
variable (t:TypeId) (x y:UInt64)
@[go_sem high] theorem Fp0 : binOp .xor t (.int .u64 (qv x)) (.int .u64 (qv y)) = pure (.int .u64 (qv (x ^^^ y))) := by
 show pure (Value.int .u64 (IntKind.u64.wrap (BitVec.ofInt 64 (qv x)^^^BitVec.ofInt 64 (qv y)).toNat))=_;rw[Ba8,Ba8,Ap1 _ (BitVec.isLt _)];rfl
@[go_sem high] theorem Fp1 : binOp .and t (.int .u64 (qv x)) (.int .u64 (qv y)) = pure (.int .u64 (qv (x &&& y))) := by
 show pure (Value.int .u64 (IntKind.u64.wrap (BitVec.ofInt 64 (qv x)&&& BitVec.ofInt 64 (qv y)).toNat))=_;rw[Ba8,Ba8,Ap1 _ (BitVec.isLt _)];rfl
@[go_sem high] theorem Fp6 : binOp .or t (.int .u64 (qv x)) (.int .u64 (qv y)) = pure (.int .u64 (qv (x ||| y))) := by
 show pure (Value.int .u64 (IntKind.u64.wrap (BitVec.ofInt 64 (qv x) ||| BitVec.ofInt 64 (qv y)).toNat))=_;rw[Ba8,Ba8,Ap1 _ (BitVec.isLt _)];rfl
@[go_sem high] theorem Fp2 : binOp .add t (.int .u64 (qv x)) (.int .u64 (qv y)) = pure (.int .u64 (qv (x + y))) := by
 show pure (Value.int .u64 (IntKind.u64.wrap (qv x+qv y)))=_;have h:IntKind.u64.wrap (qv x+qv y)=qv (x+y):=by unfold qv;rw[IntKind.wrap_u64,UInt64.toNat_add];omega
 rw[h]
end
def R6(k:Nat):UInt64:=UInt64.ofNat (2^k)
theorem Ax0(k:Nat)(hk:k<64):(R6 k).toNat=2^k:=by
 unfold R6;rw[UInt64.toNat_ofNat',Nat.mod_eq_of_lt];exact Nat.pow_lt_pow_right (by decide) hk
def U6(b:Nat→UInt64)(p:Nat):Bool:=(b (p/64)).toNat.testBit (p%64)
def Ag3(b:Nat→UInt64)(p:Nat):Nat→UInt64:=fun i=>if i=p/64 then b i ||| R6 (p%64) else b i
def Au2(b:Nat→UInt64)(p:Nat):Nat→UInt64:=fun i=>if i=p/64 then(b i ||| R6 (p%64))^^^R6 (p%64) else b i
theorem Ay4(k j:Nat)(hk:k<64):(R6 k).toNat.testBit j=decide (k=j):=by
 rw[Ax0 k hk,Nat.testBit_two_pow]
theorem Ch9(b:Nat→UInt64)(p q:Nat):U6 (Ag3 b p) q=(decide (q=p) || U6 b q):=by
 unfold U6 Ag3;have hp:p%64<64:=Nat.mod_lt _ (by decide);by_cases h:q/64=p/64
 ·rw[if_pos h,UInt64.toNat_or,Nat.testBit_or,Ay4 _ _ hp,Bool.or_comm]
  congr 1
  rw[Bool.eq_iff_iff,decide_eq_true_iff,decide_eq_true_iff];omega
 ·rw[if_neg h];have:decide (q=p)=false:=by rw[decide_eq_false_iff_not];intro e;exact h (by rw[e])
  rw[this,Bool.false_or]
theorem Dx4(b:Nat→UInt64)(p q:Nat):U6 (Au2 b p) q=(!decide (q=p)&&U6 b q):=by
 unfold U6 Au2;have hp:p%64<64:=Nat.mod_lt _ (by decide);by_cases h:q/64=p/64
 ·rw[if_pos h,UInt64.toNat_xor,Nat.testBit_xor,UInt64.toNat_or,Nat.testBit_or,Ay4 _ _ hp];have e:decide (p%64=q%64)=decide (q=p):=by
   rw[Bool.eq_iff_iff,decide_eq_true_iff,decide_eq_true_iff];omega
  rw[e];cases decide (q=p)<;>cases(b (q/64)).toNat.testBit (q%64)<;>rfl
 ·rw[if_neg h];have:decide (q=p)=false:=by rw[decide_eq_false_iff_not];intro e;exact h (by rw[e])
  rw[this];simp
theorem Cn8{b c:Nat→UInt64}(h:∀p,p<1024→U6 b p=U6 c p)(i:Nat)(hi:i<16):b i=c i:=by
 rw[←UInt64.toNat_inj];apply Nat.eq_of_testBit_eq;intro j;by_cases hj:j<64
 ·have:=h (i*64+j) (by omega);unfold U6 at this;rw[show(i*64+j)/64=i by omega,show(i*64+j)%64=j by omega] at this;exact this
 ·have e:∀x:UInt64,x.toNat.testBit j=false:=fun x=>Nat.testBit_lt_two_pow (Nat.lt_of_lt_of_le x.toNat_lt (Nat.pow_le_pow_right (by decide) (by omega:64≤j)));rw[e,e]
theorem Ev5(x:UInt64)(k:Nat)(hk:k<64):(qv (x&&& R6 k) != 0)=x.toNat.testBit k:=by
 have e:(x&&& R6 k).toNat=if x.toNat.testBit k then 2^k else 0:=by
  apply Nat.eq_of_testBit_eq;intro j;rw[UInt64.toNat_and,Nat.testBit_and,Ay4 k j hk];by_cases hkj:k=j
  ·subst hkj;cases hb:x.toNat.testBit k<;>simp[Nat.testBit_two_pow]
  ·cases hb:x.toNat.testBit k<;>simp[hkj,Nat.testBit_two_pow]
 unfold qv;rw[e];cases x.toNat.testBit k
 ·rfl
 ·simp only[if_true];rw[Bool.eq_iff_iff];simp only[bne_iff_ne,ne_eq,Int.natCast_eq_zero,iff_true];exact Nat.ne_of_gt (Nat.two_pow_pos k)
theorem Ev6(x:Nat)(k:Nat):(x/2^k%2==1)=x.testBit k:=by
 rw[Nat.testBit_eq_decide_div_mod_eq];rw[Bool.eq_iff_iff,beq_iff_eq,decide_eq_true_iff]
def T6:Nat→UInt64:=fun _=>0
theorem Au3(q:Nat):U6 T6 q=false:=by unfold U6 T6;simp
def Ac4(top:Int)(b:Nat→UInt64):Prop:=(0≤top∧top≤4611686018427387905)∧(∀p:Nat,p<1024→top≤(p:Int)→U6 b p=false)∧(top=0∨U6 b ((top-1).toNat%1024)=true)
def Af7(top:Int)(b:Nat→UInt64)(n:Int):Prop:=(0≤n∧n≤4611686018427387904∧top-1024≤n)∧(top≤n∨U6 b (n.toNat%1024)=false)
instance (top:Int) (b:Nat→UInt64) (n:Int):Decidable (Af7 top b n):=by unfold Af7;infer_instance
def Y5(b:Nat→UInt64)(t:Nat):Nat→Nat→UInt64
 | 0=>b
 | k+1=>Au2 (Y5 b t k) ((t+k)%1024)
theorem Bh3(b:Nat→UInt64)(t q:Nat):∀k,U6 (Y5 b t k) q=(U6 b q&&decide (∀j,j<k→(t+j)%1024≠q))
 | 0=>by simp[Y5]
 | k+1=>by
   unfold Y5;rw[Dx4,Bh3 b t q k];rw[Bool.eq_iff_iff];simp only[Bool.and_eq_true,Bool.not_eq_true',decide_eq_false_iff_not,decide_eq_true_eq];constructor
   ·rintro⟨h1,h2,h3⟩;refine⟨h2,fun j hj=>?_⟩;by_cases hjk:j=k
    ·subst hjk;exact fun e=>h1 e.symm
    ·exact h3 j (by omega)
   ·rintro⟨h1,h2⟩;exact⟨fun e=>h2 k (by omega) e.symm,h1,fun j hj=>h2 j (by omega)⟩
def Bc0(top n:Nat)(b:Nat→UInt64):Nat→UInt64:=Ag3 (Y5 (if 1024≤n-top then T6 else b) top (min (n-top) 1024)) (n%1024)
def W8(b:Nat→UInt64)(lo:Nat)(k:Nat):List Nat:=((List.range k).map (lo+·)).filter fun m=>U6 b (m%1024)
theorem Db4{b:Nat→UInt64}{lo k:Nat}(h:U6 b ((lo+k)%1024)=true):W8 b lo (k+1)=W8 b lo k++[lo+k]:=by
 simp[W8,List.range_succ,h]
theorem Dx5{b:Nat→UInt64}{lo k:Nat}(h:U6 b ((lo+k)%1024)=false):W8 b lo (k+1)=W8 b lo k:=by
 simp[W8,List.range_succ,h]
theorem Ax7{b:Nat→UInt64}{lo k m:Nat}:m∈W8 b lo k↔(lo≤m∧m<lo+k)∧U6 b (m%1024)=true:=by
 unfold W8;rw[List.mem_filter,List.mem_map];constructor
 ·rintro⟨⟨j,hj,rfl⟩,h⟩;rw[List.mem_range] at hj;exact⟨⟨by omega,by omega⟩,h⟩
 ·rintro⟨⟨h1,h2⟩,h⟩;exact⟨⟨m-lo,List.mem_range.2 (by omega),by omega⟩,h⟩
theorem Cv4(b:Nat→UInt64)(lo k:Nat):(W8 b lo k).Nodup:=by
 unfold W8;rw[List.nodup_iff_pairwise_ne];apply List.Pairwise.filter;rw[List.pairwise_map];exact(List.nodup_range (n:=k)).imp fun h e=>h (by omega)
def Ba9(acc:Nat→UInt64)(p:Nat):Nat→UInt64:=fun i=>if i=p/64 then acc i+R6 (p%64) else acc i
theorem Ev7(x:UInt64)(k:Nat)(hk:k<64)(h:x.toNat.testBit k=false):x+R6 k=x ||| R6 k:=by
 have h0:x.toBitVec&&& (R6 k).toBitVec=0#64:=by
  apply BitVec.eq_of_toNat_eq;rw[BitVec.toNat_and];show x.toNat&&& (R6 k).toNat=0;apply Nat.eq_of_testBit_eq;intro j;rw[Nat.testBit_and,Ay4 k j hk,Nat.zero_testBit];by_cases hkj:k=j
  ·subst hkj;rw[h];rfl
  ·simp[hkj]
 apply UInt64.toBitVec_inj.1;rw[UInt64.toBitVec_add,UInt64.toBitVec_or];exact BitVec.add_eq_or_of_and_eq_zero _ _ h0
theorem Ek2(acc:Nat→UInt64)(p q:Nat)(h:U6 acc p=false):U6 (Ba9 acc p) q=(decide (q=p) || U6 acc q):=by
 have hp:p%64<64:=Nat.mod_lt _ (by decide);have e:Ba9 acc p=Ag3 acc p:=by
  funext i;unfold Ba9 Ag3;by_cases hi:i=p/64
  ·rw[if_pos hi,if_pos hi,hi];exact Ev7 _ _ hp h
  ·rw[if_neg hi,if_neg hi]
 rw[e,Ch9]
def Z6(top:Nat)(l:List Nat):Nat→UInt64:=l.foldl (fun acc a=>if top≤a+1024 then Ba9 acc (a%1024) else acc) T6
theorem Bl8(top:Nat)(l:List Nat)(a:Nat):Z6 top (l++[a])=if top≤a+1024 then Ba9 (Z6 top l) (a%1024) else Z6 top l:=by
 unfold Z6;rw[List.foldl_append];rfl
theorem Dx6(top:Nat)(l:List Nat)(hn:l.Nodup)(hlt:∀a∈l,a<top):∀k,k≤l.length→∀q,U6 (Z6 top (l.take k)) q=true↔∃a∈l.take k,top≤a+1024∧a%1024=q:=by
 intro k
 induction k with
 | zero=>intro _ q;simp[Z6,Au3]
 | succ k ih=>
   intro hk q;have ih:=ih (by omega);have hkl:k<l.length:=by omega
   rw[List.take_succ_eq_append_getElem hkl,Bl8];have hmem:l[k]∈l:=List.getElem_mem hkl;by_cases hc:top≤l[k]+1024
   ·rw[if_pos hc,Ek2]
    ·rw[Bool.or_eq_true,decide_eq_true_iff,ih q];simp only[List.mem_append,List.mem_singleton];constructor
     ·rintro(rfl | ⟨a,ha,h1,h2⟩)
      ·exact⟨_,.inr rfl,hc,rfl⟩
      ·exact⟨a,.inl ha,h1,h2⟩
     ·rintro⟨a,ha | rfl,h1,h2⟩
      ·exact .inr ⟨a,ha,h1,h2⟩
      ·exact .inl h2.symm
    ·rw[Bool.eq_false_iff];intro h;obtain⟨a,ha,h1,h2⟩:=(ih _).1 h;have hal:a∈l:=List.mem_of_mem_take ha;have:=hlt a hal;have:=hlt _ hmem;have e:a=l[k]:=by omega
     rw[List.mem_take_iff_getElem] at ha;obtain⟨i,hi,hia⟩:=ha;have hik:i<k:=by omega
     have hne:=(List.nodup_iff_pairwise_ne.1 hn);rw[List.pairwise_iff_getElem] at hne;exact hne i k (by omega) hkl hik (hia.trans e)
   ·rw[if_neg hc,ih q];simp only[List.mem_append,List.mem_singleton];constructor
    ·rintro⟨a,ha,h⟩;exact⟨a,.inl ha,h⟩
    ·rintro⟨a,ha | rfl,h⟩
     ·exact⟨a,ha,h⟩
     ·exact absurd h.1 hc
theorem Dx7(top n:Nat)(b:Nat→UInt64)(hr:∀p,p<1024→top≤p→U6 b p=false)(h1:top≤n+1024)(h2:top≤n∨U6 b (n%1024)=false)(i:Nat)(hi:i<16):
 Bc0 top n b i=Z6 (max top (n+1)) (W8 b (top-1024) (top-(top-1024))++[n]) i:=by
 refine Cn8 (fun q hq=>?_) i hi;have hN:(W8 b (top-1024) (top-(top-1024))++[n]).Nodup:=by
  rw[List.nodup_append];refine⟨Cv4 _ _ _,by simp,?_⟩;intro a ha c hc e;rw[List.mem_singleton] at hc;subst hc;subst e;obtain⟨⟨g1,g2⟩,g3⟩:=Ax7.1 ha;rcases h2 with h2 | h2
  ·omega
  ·rw[h2] at g3;cases g3
 have hL:∀a∈W8 b (top-1024) (top-(top-1024))++[n],a<max top (n+1):=by
  intro a ha;rcases List.mem_append.1 ha with ha | ha
  ·obtain⟨⟨g1,g2⟩,-⟩:=Ax7.1 ha;omega
  ·rw[List.mem_singleton] at ha;omega
 have hF:=Dx6 (max top (n+1)) _ hN hL _ (Nat.le_refl _) q;rw[List.take_length] at hF;rw[Bool.eq_iff_iff,hF];unfold Bc0;rw[Ch9,Bool.or_eq_true,decide_eq_true_iff,Bh3,Bool.and_eq_true,decide_eq_true_iff];constructor
 ·rintro(rfl | ⟨hb,hc⟩)
  ·exact⟨n,by simp,by omega,rfl⟩
  ·by_cases hbig:1024≤n-top
   ·rw[if_pos hbig,Au3] at hb;cases hb
   ·rw[if_neg hbig] at hb;by_cases hqn:n%1024=q
    ·exact⟨n,by simp,by omega,hqn⟩
    ·rw[Nat.min_eq_left (by omega)] at hc;by_cases ht:top<1024
     ·have hqt:q<top:=by
       rcases Nat.lt_or_ge q top with h | h
       ·exact h
       ·rw[hr q hq h] at hb;cases hb
      refine⟨q,List.mem_append.2 (.inl (Ax7.2 ⟨⟨by omega,by omega⟩,by rw[Nat.mod_eq_of_lt hq];exact hb⟩)),?_,Nat.mod_eq_of_lt hq⟩;rcases Nat.lt_or_ge n (q+1024) with h | h
      ·omega
      ·have:=hc (q+1024-top);by_cases hj:q+1024-top<n-top
       ·exact absurd (by rw[show top+(q+1024-top)=q+1024 by omega];omega) (this hj)
       ·exfalso;apply hqn;omega
     ·have hr0:(q+1024-top%1024)%1024<1024:=Nat.mod_lt _ (by decide);obtain⟨r,hrr⟩:∃r,r=(q+1024-top%1024)%1024:=⟨_,rfl⟩;rw[←hrr] at hr0;have ham:(top-1024+r)%1024=q:=by omega
      refine⟨top-1024+r,List.mem_append.2 (.inl (Ax7.2 ⟨⟨by omega,by omega⟩,by rw[ham];exact hb⟩)),?_,ham⟩;rcases Nat.lt_or_ge n top with h | h
      ·omega
      ·rcases Nat.lt_or_ge (n-top) r with h' | h'
       ·omega
       ·rcases Nat.lt_or_ge r (n-top) with h3 | h3
        ·exact absurd (show(top+r)%1024=q by omega) (hc r h3)
        ·exfalso;apply hqn;omega
 ·rintro⟨a,ha,h3,h4⟩;rcases List.mem_append.1 ha with ha | ha
  ·obtain⟨⟨g1,g2⟩,g3⟩:=Ax7.1 ha;right;have hbig:¬1024≤n-top:=by omega
   rw[if_neg hbig];refine⟨by rw[←h4];exact g3,fun j hj e=>?_⟩;have hj2:j<n-top:=by omega
   omega
  ·rw[List.mem_singleton] at ha;left;rw[←h4,ha]
theorem Fi1(t:TypeId)(k:Nat)(hk:k<64)(yk:IntKind):binOp .shl t (.int .u64 1) (.int yk k)=pure (.int .u64 (qv (R6 k))):=by
 show Op.shift .shl .u64 1 yk k=_;unfold Op.shift;rw[if_neg (by omega)];show pure (Value.int .u64 (IntKind.u64.wrap (1*2^(min (Int.toNat k) 64))))=_;have h1:min (Int.toNat k) 64=k:=by rw[Int.toNat_natCast];omega
 rw[h1,Int.one_mul];have h2:IntKind.u64.wrap ((2:Int)^k)=qv (R6 k):=by
  have h3:(2:Int)^k=((2^k:Nat):Int):=by simp
  rw[h3,Ap1 _ (Nat.pow_lt_pow_right (by decide) hk)];unfold qv;rw[Ax0 k hk]
 rw[h2]
theorem Dx8(n:Nat)(hn:n≤9000000000000000000)(w:World):
 Calls Tryz.prog 185 #[.int .i64 n] w fun e w'=>e=.returned (.tuple #[.int .i64 ((n%1024/64:Nat):Int),.int .u64 (qv (R6 (n%1024%64)))])∧Below w.heap.size w w':=by
 obtain⟨p,hp⟩:∃p,p=n%1024:=⟨_,rfl⟩;obtain⟨i,hi⟩:∃i,i=p/64:=⟨_,rfl⟩;obtain⟨k,hk⟩:∃k,k=p%64:=⟨_,rfl⟩;rw[←hp,←hi,←hk];have c1:(n:Int).tmod 1024=(p:Int):=by rw[Int.tmod_eq_emod_of_nonneg (by omega),hp];omega
 have c2:IntKind.i64.wrap (p:Int)=(p:Int):=by rw[IntKind.wrap_i64];omega
 have c3:(p:Int).tdiv 64=(i:Int):=by rw[Int.tdiv_eq_ediv_of_nonneg (by omega),hi];omega
 have c4:IntKind.i64.wrap (i:Int)=(i:Int):=by rw[IntKind.wrap_i64];omega
 have c5:(p:Int).tmod 64=(k:Int):=by rw[Int.tmod_eq_emod_of_nonneg (by omega),hk];omega
 have c6:IntKind.i64.wrap (k:Int)=(k:Int):=by rw[IntKind.wrap_i64];omega
 have hk64:k<64:=by omega
 have c7:Op.shift .shl .u64 1 .i64 (k:Int)=pure (.int .u64 (qv (R6 k))):=Fi1 0 k hk64 .i64;have c8:¬(k:Int)<0:=by omega
 have c9:(0:Int)≤(k:Int):=by omega
 clear hp hi hk;go_enter Tryz.func185,Tryz.ntmps185
 go_upto_region 2 with(fail)
 go_quiet (fail)
 go_wp2_with fail
 go_ret2
 exact⟨rfl,btn (Below.refl _ _) nq⟩
theorem J0{P:Program}{ops:Array Oper}{rest:List Oper}{o:Oper}{a:Act}{w:World}{Q:Exit→Act→World→Prop}(ty:TypeId)(x:Operand)(g:Nat){cs:List Value}(hw:Region.wanted o (yielded ops a.tmps)=true)(ho:o.op=.load ty x)
 (hx:a.eval x=.pointer (some ⟨g,0,none⟩)) (hb:Blk w g cs) {d:TypeDesc} (hu:P.underlying ty=some d) (hd:(match d with | .struct _ | .array _ _=>true | _=>false)=true) (hi:(P.info? ty).map (·.size)=some cs.length)
 (h:wpList P ops Q rest (a.put o.dst (.agg cs.toArray)) w):wpList P ops Q (o::rest) a w:=by
 obtain⟨T,hg⟩:=hb;exact BigFrame.wpList_want hw fun _ hK=>wp_load_row ty x ho g hx T cs.toArray _ d hg hu hd (by simpa using hi) (hK _ _ h)
def D5(top:Int)(b:Nat→UInt64):List Value:=.int .i64 top::(List.range 16).map fun i=>.int .u64 (qv (b i))
theorem G6(top:Int)(b:Nat→UInt64):(D5 top b).length=17:=by simp[D5]
theorem Bk5(top:Int)(b:Nat→UInt64)(i:Nat)(hi:i<16):(D5 top b).getD (1+i) undef=.int .u64 (qv (b i)):=by
 rw[Nat.add_comm];simp[D5,List.getD,hi]
theorem Bw3(top:Int)(b:Nat→UInt64)(i:Nat)(hi:i<16)(x:UInt64):(D5 top b).set (1+i) (.int .u64 (qv x))=D5 top (fun j=>if j=i then x else b j):=by
 rw[Nat.add_comm];unfold D5;rw[List.set_cons_succ]
 congr 1
 apply List.ext_getElem?;intro j;rw[List.getElem?_set];by_cases hj:i=j
 ·subst hj;simp[hi]
 ·rw[if_neg hj];by_cases hj16:j<16
  ·simp[hj16,Ne.symm hj]
  ·rw[List.getElem?_eq_none (by simp;omega),List.getElem?_eq_none (by simp;omega)]
theorem Bl9(top:Int)(b:Nat→UInt64):∀v∈D5 top b,v.oneCell'=true:=by
 intro v hv;rcases List.mem_cons.1 hv with rfl | hv
 ·rfl
 ·obtain⟨i,-,rfl⟩:=List.mem_map.1 hv;rfl
theorem S5:(Tryz.prog.info? 28).map (·.size)=some 17:=by kernel_rfl
theorem Cz5(top:Int)(b:Nat→UInt64)(n:Nat)(hn:n≤9000000000000000000)(w:World):
 Calls Tryz.prog 154 #[.agg (D5 top b).toArray,.int .i64 n] w fun e w'=>e=.returned (.bool (U6 b (n%1024)))∧Below w.heap.size w w':=by
 have HA:=Lh (Dx8 n hn);obtain⟨p,hp⟩:∃p,p=n%1024:=⟨_,rfl⟩;rw[←hp] at HA;rw[←hp];have HB:=Lh (Ev5 (b (p/64)) (p%64) (Nat.mod_lt _ (by decide)));have hi:p/64<16:=by omega
 have HL:=Lh (Bk5 top b (p/64) hi);unfold U6;generalize p/64=i at *;generalize p%64=k at *;clear hp;go_enter Tryz.func154,Tryz.ntmps154
 go_upto_region 1 with(fail)
 generalize hW:World.alloc w _=W;have B:=Lh (show Blk W w.heap.size (D5 top b) by rw[←hW];exact Blk.new w (D5 top b) _);have G:=Lh (show Below w.heap.size w W by rw[←hW];exact ba w _);clear hW;generalize w.heap.size=bw at B ⊢;go_wp2_with fail
 refine(HA.out _).mono ?_;rintro e w1 ⟨rfl,hb⟩;have c:=B.out.up hb;have g:=c.cell (1+i) (by rw[G6];omega);rw[HL.out] at g;have i0:(0:Int)≤(i:Int):=by omega
 have i1:(i:Int)<16:=by omega
 have G2:=Lh (bt G.out hb);clear c hb;go_wp2_with fail
 go_ret;exact⟨by rw[←HB.out];rfl,G2.out⟩
theorem Dx9(top:Int)(b:Nat→UInt64)(p:Nat)(hp:p/64<16):(D5 top b).set (1+p/64) (.int .u64 (qv (b (p/64) ||| R6 (p%64))))=D5 top (Ag3 b p):=by
 rw[Bw3 top b _ hp]
 congr 1
 funext j;unfold Ag3;by_cases h:j=p/64
 ·rw[if_pos h,if_pos h,h]
 ·rw[if_neg h,if_neg h]
theorem Dy0(top:Int)(b:Nat→UInt64)(p:Nat)(hp:p/64<16):(D5 top b).set (1+p/64) (.int .u64 (qv ((b (p/64) ||| R6 (p%64))^^^R6 (p%64))))=D5 top (Au2 b p):=by
 rw[Bw3 top b _ hp]
 congr 1
 funext j;unfold Au2;by_cases h:j=p/64
 ·rw[if_pos h,if_pos h,h]
 ·rw[if_neg h,if_neg h]
def Aa0:List Value:=D5 0 T6
theorem Ce3(top:Int)(b:Nat→UInt64)(n:Nat)(hn:n≤9000000000000000000)(one:Bool)(w:World):
 Calls Tryz.prog 136 #[.agg (D5 top b).toArray,.int .i64 n,.bool one] w fun e w'=>e=.returned (.agg (D5 top (if one then Ag3 b (n%1024) else Au2 b (n%1024))).toArray)∧Below w.heap.size w w':=by
 have HA:=Lh (Dx8 n hn);have HI:=Lh S5;obtain⟨p,hp⟩:∃p,p=n%1024:=⟨_,rfl⟩;rw[←hp] at HA;rw[←hp];have hi:p/64<16:=by omega
 have HL:=Lh (Bk5 top b (p/64) hi);have H1:=Lh (Dx9 top b p hi);have H0:=Lh (Dy0 top b p hi);generalize p/64=i at *;generalize p%64=k at *;clear hp;go_enter Tryz.func136,Tryz.ntmps136
 go_upto_region 1 with(fail)
 generalize hW:World.alloc (World.alloc w _) _=W;have B:=Lh (show Blk W w.heap.size (D5 top b) by rw[←hW];exact(Blk.new w (D5 top b) _).alloc _);have Z:=Lh (show Blk W (w.heap.size+1) Aa0 by rw[←hW,←I9 w (.cells (D5 top b).toArray 28)];exact Blk.new _ Aa0 _);have G:=Lh (show Below w.heap.size w W by rw[←hW];exact bta (ba w _) _);obtain⟨bw,hbw⟩:∃x,x=w.heap.size:=⟨_,rfl⟩;obtain⟨bz,hbz⟩:∃x,x=bw+1:=⟨_,rfl⟩;rw[←hbw] at B Z;rw[←hbz] at Z;simp only[←hbw,←hbz];have N:=Lh (show bz≠bw by omega);have L0:=Lh (show w.heap.size≤bw by omega);have L1:=Lh (show w.heap.size≤bz by omega);clear hW hbw hbz;go_wp2_with fail
 refine(HA.out _).mono ?_;rintro e w1 ⟨rfl,hb⟩;have C:=Lh (B.out.up hb);have D:=Lh (Z.out.up hb);have G2:=Lh (bt G.out hb);have g:=C.out.cell (1+i) (by rw[G6];omega);rw[HL.out] at g;have zf:=C.out.frozen;have hlt:=C.out.lt;have i0:(0:Int)≤(i:Int):=by omega
 have i1:(i:Int)<16:=by omega
 clear hb B Z G;rcases one with _ | _
 ·have C2:=Lh (show Blk ((w1.setCell ⟨bw,1+i,none⟩ (.int .u64 (qv (b i ||| R6 k)))).setCell ⟨bw,1+i,none⟩ (.int .u64 (qv ((b i ||| R6 k)^^^R6 k)))) bw (D5 top (Au2 b p)) by
   have h:=(C.out.set (1+i) (.int .u64 (qv (b i ||| R6 k)))).set (1+i) (.int .u64 (qv ((b i ||| R6 k)^^^R6 k)));rw[List.set_set,H0.out] at h;exact h)
  have D2:=Lh ((D.out.other ⟨bw,1+i,none⟩ N.out (.int .u64 (qv (b i ||| R6 k)))).other ⟨bw,1+i,none⟩ N.out (.int .u64 (qv ((b i ||| R6 k)^^^R6 k))));have G3:=Lh (show Below w.heap.size w ((w1.setCell ⟨bw,1+i,none⟩ (.int .u64 (qv (b i ||| R6 k)))).setCell ⟨bw,1+i,none⟩ (.int .u64 (qv ((b i ||| R6 k)^^^R6 k)))) from Below.setCell (G2.out.setCell L0.out _) L0.out _);clear C D G2;go_wp2_with (first
   | (refine C4 28 (.tmp 3) bw (cs:=D5 top (Au2 b p)) rfl rfl rfl (C2.out) Tryz.underlying28 rfl (by rw[G6];exact HI.out) ?_)
   | (refine G9 28 (.tmp 6) (.tmp 32) bz (old:=Aa0) (cs:=D5 top (Au2 b p)) rfl rfl rfl rfl (D2.out) (by rw[G6];exact HI.out) (by rw[G6];exact G6 _ _) (List.all_eq_true.2 (Bl9 _ _)) ?_))
  refine bodyPost_ret (O3 rfl _ _ bz (cs:=D5 top (Au2 b p)) rfl ((D2.out).row _) Tryz.underlying28 rfl (by rw[G6];exact HI.out)) rfl ?_;exact⟨rfl,F5 G3.out L1.out _⟩
 ·have C2:=Lh (show Blk (w1.setCell ⟨bw,1+i,none⟩ (.int .u64 (qv (b i ||| R6 k)))) bw (D5 top (Ag3 b p)) by
   have h:=C.out.set (1+i) (.int .u64 (qv (b i ||| R6 k)));rw[H1.out] at h;exact h)
  have D2:=Lh (D.out.other ⟨bw,1+i,none⟩ N.out (.int .u64 (qv (b i ||| R6 k))));have G3:=Lh (show Below w.heap.size w (w1.setCell ⟨bw,1+i,none⟩ (.int .u64 (qv (b i ||| R6 k)))) from G2.out.setCell L0.out _);clear C D G2;go_wp2_with (first
   | (refine C4 28 (.tmp 3) bw (cs:=D5 top (Ag3 b p)) rfl rfl rfl (C2.out) Tryz.underlying28 rfl (by rw[G6];exact HI.out) ?_)
   | (refine G9 28 (.tmp 6) (.tmp 32) bz (old:=Aa0) (cs:=D5 top (Ag3 b p)) rfl rfl rfl rfl (D2.out) (by rw[G6];exact HI.out) (by rw[G6];exact G6 _ _) (List.all_eq_true.2 (Bl9 _ _)) ?_))
  refine bodyPost_ret (O3 rfl _ _ bz (cs:=D5 top (Ag3 b p)) rfl ((D2.out).row _) Tryz.underlying28 rfl (by rw[G6];exact HI.out)) rfl ?_;exact⟨rfl,F5 G3.out L1.out _⟩
theorem I5{a b:Bool}(h:a=b):Ending.returned (.bool a)=.returned (.bool b):=by rw[h]
theorem Ci0(top:Int)(b:Nat→UInt64)(n:Int)(ht:0≤top∧top≤4611686018427387905)(hn:-9223372036854775808≤n∧n≤9223372036854775807)(w:World):
 Calls Tryz.prog 135 #[.agg (D5 top b).toArray,.int .i64 n] w fun e w'=>e=.returned (.bool (decide (Af7 top b n)))∧Below w.heap.size w w':=by
 have HI:=Lh S5;have HH:=Lh (fun(m:Nat) (hm:(m:Int)=n) (h9:n≤4611686018427387904) W=>(show Calls Tryz.prog 154 #[.agg (D5 top b).toArray,.int .i64 n] W fun e w'=>e=.returned (.bool (U6 b (m%1024)))∧Below W.heap.size W w' from by rw[←hm];exact Cz5 top b m (by omega) W));have FL:=Lh (show ¬(0≤n∧n≤4611686018427387904∧top-1024≤n)→decide (Af7 top b n)=false from fun h=>decide_eq_false fun k=>h k.1);have FT:=Lh (show 0≤n→n≤4611686018427387904→top≤n→decide (Af7 top b n)=true from fun h1 h2 h3=>decide_eq_true ⟨⟨h1,h2,by omega⟩,.inl h3⟩);have FB:=Lh (show 0≤n→n≤4611686018427387904→¬top≤n→top-1024≤n→decide (Af7 top b n)=!U6 b (n.toNat%1024) from fun h1 h2 h3 h4=>by
  cases hb:U6 b (n.toNat%1024)
  ·exact decide_eq_true ⟨⟨h1,h2,h4⟩,.inr hb⟩
  ·refine decide_eq_false fun k=>?_;rcases k.2 with k | k
   ·exact h3 k
   ·rw[hb] at k;cases k)
 generalize decide (Af7 top b n)=F at *;obtain⟨ht1,ht2⟩:=ht;obtain⟨hn1,hn2⟩:=hn;go_enter Tryz.func135,Tryz.ntmps135
 go_upto_region 1 with(fail)
 generalize hW:World.alloc w _=W;have B:=Lh (show Blk W w.heap.size (D5 top b) by rw[←hW];exact Blk.new w (D5 top b) _);have G:=Lh (show Below w.heap.size w W by rw[←hW];exact ba w _);clear hW;generalize w.heap.size=bw at B ⊢;have g:W.cell? ⟨bw,0,none⟩=some (.int .i64 top):=B.out.cell 0 (by rw[G6];omega);by_cases h1:0≤n
 ·by_cases h2:n≤4611686018427387904
  ·by_cases h3:top≤n
   ·go_wp2_with fail
    go_ret;exact⟨I5 (FT.out h1 h2 h3).symm,G.out⟩
   ·by_cases h4:top-1024≤n
    ·go_wp2_with (refine J0 28 (.tmp 2) bw (cs:=D5 top b) (by first | rfl | simp[Region.wanted,yielded]) rfl rfl B.out Tryz.underlying28 rfl (by rw[G6];exact HI.out) ?_)
     refine(HH.out n.toNat (by omega) h2 _).mono ?_;rintro e w1 ⟨rfl,hb⟩;go_wp2_with fail
     go_ret;exact⟨I5 (FB.out h1 h2 h3 h4).symm,bt G.out hb⟩
    ·go_wp2_with fail
     go_ret;exact⟨I5 (FL.out (by omega)).symm,G.out⟩
  ·go_wp2_with fail
   go_ret;exact⟨I5 (FL.out (by omega)).symm,G.out⟩
 ·go_wp2_with fail
  go_ret;exact⟨I5 (FL.out (by omega)).symm,G.out⟩
def Av1(cs:List Value)(o:Nat):List Value→List Value
 | []=>cs
 | v::r=>Av1 (cs.set o v) (o+1) r
theorem Blk.setCells{b:Nat}:∀(vs:List Value) (o:Nat) {w:World} {cs:List Value},Blk w b cs→Blk (w.setCells b o vs) b (Av1 cs o vs)
 | [],_,_,_,h=>h
 | v::r,o,_,_,h=>by rw[World.setCells];exact Blk.setCells r (o+1) (h.set o v)
theorem Blk.setCellsOther{b g:Nat}(hb:b≠g):∀(vs:List Value) (o:Nat) {w:World} {cs:List Value},Blk w b cs→Blk (w.setCells g o vs) b cs
 | [],_,_,_,h=>h
 | v::r,o,_,_,h=>by rw[World.setCells];exact Blk.setCellsOther hb r (o+1) (h.other ⟨g,o,none⟩ hb v)
theorem Bk6{B g:Nat}{w0:World}(hg:B≤g):∀(vs:List Value) (o:Nat) {w:World},Below B w0 w→Below B w0 (w.setCells g o vs)
 | [],_,_,h=>h
 | v::r,o,_,h=>by rw[World.setCells];exact Bk6 hg r (o+1) (h.setCell hg v)
theorem Blk.there{w:World}{b:Nat}{cs:List Value}(h:Blk w b cs)(o n:Nat)(hn:o+n≤cs.length):w.there b o n:=fun j hj=>⟨by rw[h.cell (o+j) (by omega)];rfl,h.frozen _⟩
abbrev Ar4:Array Value:=#[.int .u64 0,.int .u64 0,.int .u64 0,.int .u64 0,.int .u64 0,.int .u64 0,.int .u64 0,.int .u64 0,.int .u64 0,.int .u64 0,.int .u64 0,.int .u64 0,.int .u64 0,.int .u64 0,.int .u64 0,.int .u64 0]
theorem Dy1:Ar4.all (·.oneCell')=true:=all_oneCell_toArray (cs:=Ar4.toList) (by intro v hv;simp only[Ar4,List.mem_cons,List.not_mem_nil,or_false,or_self] at hv;subst hv;rfl)
theorem Db5(top:Int)(b:Nat→UInt64):Av1 (D5 top b) 1 Ar4.toList=D5 top T6:=by
 have hz:∀i,qv (T6 i)=0:=fun i=>rfl;unfold D5;rw[show List.range 16=[0,1,2,3,4,5,6,7,8,9,10,11,12,13,14,15] from rfl];simp only[List.map_cons,List.map_nil,hz,Av1,List.set_cons_zero,List.set_cons_succ]
theorem Dy2:(Tryz.prog.info? 26).map (·.size)=some 16:=by kernel_rfl
theorem Aa7{ops:Array Oper}{rest:List Oper}{o:Oper}{a:Act}{w:World}{Q:Exit→Act→World→Prop}(x:Operand)(g:Nat){top:Int}{b:Nat→UInt64}(hgd:o.guard=none)(ho:o.op=.load 28 x)
 (hx:a.eval x=.pointer (some ⟨g,0,none⟩)) (hb:Blk w g (D5 top b)) (h:wpList Tryz.prog ops Q rest (a.put o.dst (.agg (D5 top b).toArray)) w):wpList Tryz.prog ops Q (o::rest) a w:=
 C4 28 x g hgd ho hx hb Tryz.underlying28 rfl (by rw[G6];exact S5) h
theorem Ah4{ops:Array Oper}{rest:List Oper}{o:Oper}{a:Act}{w:World}{Q:Exit→Act→World→Prop}(x y:Operand)(g:Nat){top:Int}{b:Nat→UInt64}{old:List Value}(hgd:o.guard=none)(ho:o.op=.store 28 x y)
 (hx:a.eval x=.pointer (some ⟨g,0,none⟩)) (hy:a.eval y=.agg (D5 top b).toArray) (hb:Blk w g old) (hl:old.length=17) (h:wpList Tryz.prog ops Q rest (a.put o.dst undef) (w.setRow g (D5 top b).toArray)):wpList Tryz.prog ops Q (o::rest) a w:=
 G9 28 x y g hgd ho hx hy hb (by rw[G6];exact S5) (by rw[G6];exact hl) (List.all_eq_true.2 (Bl9 _ _)) h
theorem Ev8(top n:Nat)(b:Nat→UInt64)(ht:top≤4611686018427387905)(hn:n≤4611686018427387904)(hf:Af7 top b n)(w:World):
 Calls Tryz.prog 62 #[.agg (D5 top b).toArray,.int .i64 n] w fun e w'=>e=.returned (.tuple #[.agg (D5 ((max top (n+1):Nat):Int) (Bc0 top n b)).toArray,.int .i64 0])∧Below w.heap.size w w':=by
 have HF:=Lh (fun W=>(show Calls Tryz.prog 135 #[.agg (D5 top b).toArray,.int .i64 n] W fun e w'=>e=.returned (.bool true)∧Below W.heap.size W w' from by
  have h:=Ci0 top b n ⟨by omega,by omega⟩ ⟨by omega,by omega⟩ W;rw[decide_eq_true hf] at h;exact h))
 have HS0:=Lh (fun(c:Nat→UInt64) (j:Nat) (hj:j≤1024) W=>(show Calls Tryz.prog 136 #[.agg (D5 top c).toArray,.int .i64 ((top:Int)+(j:Int)),.bool false] W fun e w'=>e=.returned (.agg (D5 top (Au2 c ((top+j)%1024))).toArray)∧Below W.heap.size W w' from by
  have h:=Ce3 top c (top+j) (by omega) false W;rw[Int.natCast_add] at h;exact h))
 have HS1:=Lh (fun(t:Int) (c:Nat→UInt64) W=>(show Calls Tryz.prog 136 #[.agg (D5 t c).toArray,.int .i64 n,.bool true] W fun e w'=>e=.returned (.agg (D5 t (Ag3 c (n%1024))).toArray)∧Below W.heap.size W w' from Ce3 t c n (by omega) true W));clear hf;go_enter Tryz.func62,Tryz.ntmps62
 go_upto_region 1 with(fail)
 generalize hW:World.alloc (World.alloc w _) _=W;have B:=Lh (show Blk W w.heap.size (D5 top b) by rw[←hW];exact(Blk.new w (D5 top b) _).alloc _);have Z:=Lh (show Blk W (w.heap.size+1) Aa0 by rw[←hW,←I9 w (.cells (D5 top b).toArray 28)];exact Blk.new _ Aa0 _);have G:=Lh (show Below w.heap.size w W by rw[←hW];exact bta (ba w _) _);obtain⟨bw,hbw⟩:∃x,x=w.heap.size:=⟨_,rfl⟩;obtain⟨bz,hbz⟩:∃x,x=bw+1:=⟨_,rfl⟩;rw[←hbw] at B Z;rw[←hbz] at Z;simp only[←hbw,←hbz];have N:=Lh (show bz≠bw by omega);have L0:=Lh (show w.heap.size≤bw by omega);have L1:=Lh (show w.heap.size≤bz by omega);clear hW hbw hbz;have d1:¬(n:Int)<0:=by omega
 have d2:¬(4611686018427387904:Int)<(n:Int):=by omega
 go_wp2_with (refine Aa7 (.tmp 2) bw rfl rfl rfl B.out ?_)
 refine(HF.out _).mono ?_;rintro e w1 ⟨rfl,hb⟩;replace B:=Lh (B.out.up hb);replace Z:=Lh (Z.out.up hb);replace G:=Lh (bt G.out hb);clear hb HF;go_upto_region 5 with(fail)
 have g:w1.cell? ⟨bw,0,none⟩=some (.int .i64 top):=B.out.cell 0 (by rw[G6];omega);obtain⟨m,hm⟩:∃m,m=min (n-top) 1024:=⟨_,rfl⟩;have HM:=Lh hm;have Hm9:=Lh (show m≤1024 by omega);by_cases hbig:1024≤n-top
 ·have HC:=Lh (show Bc0 top n b=Ag3 (Y5 T6 top m) (n%1024) by rw[hm];unfold Bc0;rw[if_pos hbig]);have h1:(1024:Int)≤(n:Int)-(top:Int):=by omega
  have HMX:=Lh (show(m:Int)=1024 by omega);have B2:=Lh (show Blk (w1.setCells bw 1 Ar4.toList) bw (D5 top T6) by rw[←Db5 top b];exact B.out.setCells Ar4.toList 1);have Z2:=Lh (Z.out.setCellsOther N.out Ar4.toList 1);have G2:=Lh (Bk6 L0.out Ar4.toList 1 G.out);have ht0:=B.out.there 1 16 (by rw[G6];decide);clear hm HM hbig;go_upto_region 7 with(refine wpList_store_mid rfl 26 (.tmp 25) (.tmp 24) rfl bw 1 Ar4 rfl rfl ht0 Dy2 Dy1 ?_)
  clear ht0 g B Z G;generalize w1.setCells bw 1 Ar4.toList=w2 at *;obtain⟨c0,hc0⟩:∃c,c=T6:=⟨_,rfl⟩;rw[←hc0] at HC B2;clear hc0;have g:w2.cell? ⟨bw,0,none⟩=some (.int .i64 top):=B2.out.cell 0 (by rw[G6];omega);go_wp2_with fail
  all_goals
   clear g
   go_loopw [32] (fun v32 wx=>∃j:Nat,j≤m∧v32=.int .i64 (j:Int)∧Blk wx bw (D5 top (Y5 c0 top j))∧Blk wx bz Aa0∧Below w.heap.size w wx) (fun v32 _=>m-(intOf v32).toNat)
   case atStart=>exact⟨0,Nat.zero_le _,rfl,B2.out,Z2.out,G2.out⟩
   case round=>
    clear B2 Z2 G2;obtain⟨j,hj,rfl,hB,hZ,hG⟩:=hrel;have B:=Lh hB;have Z:=Lh hZ;have G:=Lh hG;clear hB hZ hG;have g:wr.cell? ⟨bw,0,none⟩=some (.int .i64 top):=B.out.cell 0 (by rw[G6];omega);have hmx:=HMX.out;by_cases hlt:j<m
    ·have hm9:=Hm9.out
     (try have k1:(j:Int)<1024:=by omega)
     (try have k2:(j:Int)<(n:Int)-(top:Int):=by omega)
     (try have k3:¬(j:Int)<0:=by omega)
     clear hmx;go_wp2_with (refine Aa7 (.tmp 2) bw rfl rfl rfl B.out ?_)
     refine(HS0.out (Y5 c0 top j) j (by omega) _).mono ?_;rintro e w3 ⟨rfl,hb⟩;have B3:=Lh (B.out.up hb);have Z3:=Lh (Z.out.up hb);have G3:=Lh (bt G.out hb);clear B Z G hb g;go_wp2_with (refine Ah4 (.tmp 2) (.tmp 40) bw rfl rfl rfl rfl B3.out (G6 _ _) ?_)
     refine⟨⟨j+1,hlt,by go_num,B3.out.row _,Z3.out.rowOther bw N.out _,F5 G3.out L0.out _⟩,?_⟩;simp[intOf];omega
    ·have hjm:j=m:=by omega
     have BM:=Lh (show Blk wr bw (D5 top (Y5 c0 top m)) by rw[←hjm];exact B.out)
     (try have k1:¬(j:Int)<1024:=by omega)
     (try have k2:¬(j:Int)<(n:Int)-(top:Int):=by omega)
     (try have k3:¬(j:Int)<0:=by omega)
     clear hjm B hlt hmx;by_cases htn:top≤n+1
     ·have dm:(top:Int)≤(n:Int)+1:=by omega
      have HMax:=Lh (show((max top (n+1):Nat):Int)=((n:Int)+1) by omega);clear htn;have zf:=BM.out.frozen;have hbl:=BM.out.lt;have C:=Lh (show Blk (wr.setCell ⟨bw,0,none⟩ (.int .i64 ((n:Int)+1))) bw (D5 ((n:Int)+1) (Y5 c0 top m)) from BM.out.set 0 _);have D:=Lh (show Blk (wr.setCell ⟨bw,0,none⟩ (.int .i64 ((n:Int)+1))) bz Aa0 from Z.out.other _ N.out _);have E:=Lh (show Below w.heap.size w (wr.setCell ⟨bw,0,none⟩ (.int .i64 ((n:Int)+1))) from G.out.setCell L0.out _);go_upto_region 13 with(fail)
      clear zf hbl g BM Z G;generalize wr.setCell ⟨bw,0,none⟩ (.int .i64 ((n:Int)+1))=w4 at *;go_wp2_with (refine Aa7 (.tmp 2) bw rfl rfl rfl C.out ?_)
      refine(HS1.out _ _ _).mono ?_;rintro e w5 ⟨rfl,hb⟩;have D2:=Lh (D.out.up hb);have E2:=Lh (bt E.out hb);clear C D E hb;go_wp2_with (refine Ah4 (.tmp 4) (.tmp 50) bz rfl rfl rfl rfl D2.out (G6 _ _) ?_)
      refine bodyPost_ret (F2 rfl _ _ bz (cs:=D5 ((n:Int)+1) (Ag3 (Y5 c0 top m) (n%1024))) rfl _ rfl (D2.out.row _) Tryz.underlying28 rfl (by rw[G6];exact S5)) rfl ?_;exact⟨by rw[HMax.out,HC.out];rfl,F5 E2.out L1.out _⟩
     ·first
       | (exfalso;omega)
       | (skip
          have dm:¬(top:Int)≤(n:Int)+1:=by omega
          have HMax:=Lh (show((max top (n+1):Nat):Int)=(top:Int) by omega);clear htn;have zf:=BM.out.frozen;have hbl:=BM.out.lt;have C:=Lh (show Blk (wr.setCell ⟨bw,0,none⟩ (.int .i64 (top:Int))) bw (D5 (top:Int) (Y5 c0 top m)) from BM.out.set 0 _);have D:=Lh (show Blk (wr.setCell ⟨bw,0,none⟩ (.int .i64 (top:Int))) bz Aa0 from Z.out.other _ N.out _);have E:=Lh (show Below w.heap.size w (wr.setCell ⟨bw,0,none⟩ (.int .i64 (top:Int))) from G.out.setCell L0.out _);go_upto_region 13 with(fail)
          clear zf hbl g BM Z G;generalize wr.setCell ⟨bw,0,none⟩ (.int .i64 (top:Int))=w4 at *;go_wp2_with (refine Aa7 (.tmp 2) bw rfl rfl rfl C.out ?_)
          refine(HS1.out _ _ _).mono ?_;rintro e w5 ⟨rfl,hb⟩;have D2:=Lh (D.out.up hb);have E2:=Lh (bt E.out hb);clear C D E hb;go_wp2_with (refine Ah4 (.tmp 4) (.tmp 50) bz rfl rfl rfl rfl D2.out (G6 _ _) ?_)
          refine bodyPost_ret (F2 rfl _ _ bz (cs:=D5 (top:Int) (Ag3 (Y5 c0 top m) (n%1024))) rfl _ rfl (D2.out.row _) Tryz.underlying28 rfl (by rw[G6];exact S5)) rfl ?_;exact⟨by rw[HMax.out,HC.out];rfl,F5 E2.out L1.out _⟩)
 ·have HC:=Lh (show Bc0 top n b=Ag3 (Y5 b top m) (n%1024) by rw[hm];unfold Bc0;rw[if_neg hbig]);obtain⟨c0,hc0⟩:∃c,c=b:=⟨_,rfl⟩;have B2:=Lh (show Blk w1 bw (D5 top c0) by rw[hc0];exact B.out);have Z2:=Lh Z.out;have G2:=Lh G.out;have HC2:=Lh (show Bc0 top n b=Ag3 (Y5 c0 top m) (n%1024) by rw[hc0];exact HC.out);clear HC;have HC:=Lh HC2.out;have h1:¬(1024:Int)≤(n:Int)-(top:Int):=by omega
  by_cases hneg:n<top
  ·have HMX:=Lh (show(m:Int)=0 by omega);have h2:(n:Int)-(top:Int)<0:=by omega
   have hnt:n<top:=hneg;clear hm HM hbig hneg HC2 hc0;go_upto_region 7 with(fail)
   clear g B Z G;generalize w1=w2 at *;have g:w2.cell? ⟨bw,0,none⟩=some (.int .i64 top):=B2.out.cell 0 (by rw[G6];omega);go_wp2_with fail
   all_goals
    clear g
    go_loopw [32] (fun v32 wx=>∃j:Nat,j≤m∧v32=.int .i64 (j:Int)∧Blk wx bw (D5 top (Y5 c0 top j))∧Blk wx bz Aa0∧Below w.heap.size w wx) (fun v32 _=>m-(intOf v32).toNat)
    case atStart=>exact⟨0,Nat.zero_le _,rfl,B2.out,Z2.out,G2.out⟩
    case round=>
     clear B2 Z2 G2;obtain⟨j,hj,rfl,hB,hZ,hG⟩:=hrel;have B:=Lh hB;have Z:=Lh hZ;have G:=Lh hG;clear hB hZ hG;have g:wr.cell? ⟨bw,0,none⟩=some (.int .i64 top):=B.out.cell 0 (by rw[G6];omega);have hmx:=HMX.out;by_cases hlt:j<m
     ·exfalso;omega
     ·have hjm:j=m:=by omega
      have BM:=Lh (show Blk wr bw (D5 top (Y5 c0 top m)) by rw[←hjm];exact B.out)
      (try have k1:¬(j:Int)<1024:=by omega)
      (try have k2:¬(j:Int)<(n:Int)-(top:Int):=by omega)
      (try have k3:¬(j:Int)<0:=by omega)
      clear hjm B hlt hmx;have dm:(n:Int)+1≤(top:Int):=by omega
      have HMax:=Lh (show((max top (n+1):Nat):Int)=(top:Int) by omega);have zf:=BM.out.frozen;have hbl:=BM.out.lt;have C:=Lh (show Blk (wr.setCell ⟨bw,0,none⟩ (.int .i64 (top:Int))) bw (D5 (top:Int) (Y5 c0 top m)) from BM.out.set 0 _);have D:=Lh (show Blk (wr.setCell ⟨bw,0,none⟩ (.int .i64 (top:Int))) bz Aa0 from Z.out.other _ N.out _);have E:=Lh (show Below w.heap.size w (wr.setCell ⟨bw,0,none⟩ (.int .i64 (top:Int))) from G.out.setCell L0.out _);go_upto_region 13 with(fail)
      clear zf hbl g BM Z G;generalize wr.setCell ⟨bw,0,none⟩ (.int .i64 (top:Int))=w4 at *;go_wp2_with (refine Aa7 (.tmp 2) bw rfl rfl rfl C.out ?_)
      refine(HS1.out _ _ _).mono ?_;rintro e w5 ⟨rfl,hb⟩;have D2:=Lh (D.out.up hb);have E2:=Lh (bt E.out hb);clear C D E hb;go_wp2_with (refine Ah4 (.tmp 4) (.tmp 50) bz rfl rfl rfl rfl D2.out (G6 _ _) ?_)
      refine bodyPost_ret (F2 rfl _ _ bz (cs:=D5 (top:Int) (Ag3 (Y5 c0 top m) (n%1024))) rfl _ rfl (D2.out.row _) Tryz.underlying28 rfl (by rw[G6];exact S5)) rfl ?_;exact⟨by rw[HMax.out,HC.out];rfl,F5 E2.out L1.out _⟩
  ·have HMX:=Lh (show(m:Int)=(n:Int)-(top:Int) by omega);have h2:¬(n:Int)-(top:Int)<0:=by omega
   have h3:(n:Int)-(top:Int)<1024:=by omega
   clear hm HM hbig hneg HC2 hc0;go_upto_region 7 with(fail)
   clear g B Z G;generalize w1=w2 at *;have g:w2.cell? ⟨bw,0,none⟩=some (.int .i64 top):=B2.out.cell 0 (by rw[G6];omega);go_wp2_with fail
   all_goals
    clear g
    go_loopw [32] (fun v32 wx=>∃j:Nat,j≤m∧v32=.int .i64 (j:Int)∧Blk wx bw (D5 top (Y5 c0 top j))∧Blk wx bz Aa0∧Below w.heap.size w wx) (fun v32 _=>m-(intOf v32).toNat)
    case atStart=>exact⟨0,Nat.zero_le _,rfl,B2.out,Z2.out,G2.out⟩
    case round=>
     clear B2 Z2 G2;obtain⟨j,hj,rfl,hB,hZ,hG⟩:=hrel;have B:=Lh hB;have Z:=Lh hZ;have G:=Lh hG;clear hB hZ hG;have g:wr.cell? ⟨bw,0,none⟩=some (.int .i64 top):=B.out.cell 0 (by rw[G6];omega);have hmx:=HMX.out;by_cases hlt:j<m
     ·have hm9:=Hm9.out
      (try have k1:(j:Int)<1024:=by omega)
      (try have k2:(j:Int)<(n:Int)-(top:Int):=by omega)
      (try have k3:¬(j:Int)<0:=by omega)
      clear hmx;go_wp2_with (refine Aa7 (.tmp 2) bw rfl rfl rfl B.out ?_)
      refine(HS0.out (Y5 c0 top j) j (by omega) _).mono ?_;rintro e w3 ⟨rfl,hb⟩;have B3:=Lh (B.out.up hb);have Z3:=Lh (Z.out.up hb);have G3:=Lh (bt G.out hb);clear B Z G hb g;go_wp2_with (refine Ah4 (.tmp 2) (.tmp 40) bw rfl rfl rfl rfl B3.out (G6 _ _) ?_)
      refine⟨⟨j+1,hlt,by go_num,B3.out.row _,Z3.out.rowOther bw N.out _,F5 G3.out L0.out _⟩,?_⟩;simp[intOf];omega
     ·have hjm:j=m:=by omega
      have BM:=Lh (show Blk wr bw (D5 top (Y5 c0 top m)) by rw[←hjm];exact B.out)
      (try have k1:¬(j:Int)<1024:=by omega)
      (try have k2:¬(j:Int)<(n:Int)-(top:Int):=by omega)
      (try have k3:¬(j:Int)<0:=by omega)
      clear hjm B hlt hmx;by_cases htn:top≤n+1
      ·have dm:(top:Int)≤(n:Int)+1:=by omega
       have HMax:=Lh (show((max top (n+1):Nat):Int)=((n:Int)+1) by omega);clear htn;have zf:=BM.out.frozen;have hbl:=BM.out.lt;have C:=Lh (show Blk (wr.setCell ⟨bw,0,none⟩ (.int .i64 ((n:Int)+1))) bw (D5 ((n:Int)+1) (Y5 c0 top m)) from BM.out.set 0 _);have D:=Lh (show Blk (wr.setCell ⟨bw,0,none⟩ (.int .i64 ((n:Int)+1))) bz Aa0 from Z.out.other _ N.out _);have E:=Lh (show Below w.heap.size w (wr.setCell ⟨bw,0,none⟩ (.int .i64 ((n:Int)+1))) from G.out.setCell L0.out _);go_upto_region 13 with(fail)
       clear zf hbl g BM Z G;generalize wr.setCell ⟨bw,0,none⟩ (.int .i64 ((n:Int)+1))=w4 at *;go_wp2_with (refine Aa7 (.tmp 2) bw rfl rfl rfl C.out ?_)
       refine(HS1.out _ _ _).mono ?_;rintro e w5 ⟨rfl,hb⟩;have D2:=Lh (D.out.up hb);have E2:=Lh (bt E.out hb);clear C D E hb;go_wp2_with (refine Ah4 (.tmp 4) (.tmp 50) bz rfl rfl rfl rfl D2.out (G6 _ _) ?_)
       refine bodyPost_ret (F2 rfl _ _ bz (cs:=D5 ((n:Int)+1) (Ag3 (Y5 c0 top m) (n%1024))) rfl _ rfl (D2.out.row _) Tryz.underlying28 rfl (by rw[G6];exact S5)) rfl ?_;exact⟨by rw[HMax.out,HC.out];rfl,F5 E2.out L1.out _⟩
      ·first
        | (exfalso;omega)
        | (skip
           have dm:¬(top:Int)≤(n:Int)+1:=by omega
           have HMax:=Lh (show((max top (n+1):Nat):Int)=(top:Int) by omega);clear htn;have zf:=BM.out.frozen;have hbl:=BM.out.lt;have C:=Lh (show Blk (wr.setCell ⟨bw,0,none⟩ (.int .i64 (top:Int))) bw (D5 (top:Int) (Y5 c0 top m)) from BM.out.set 0 _);have D:=Lh (show Blk (wr.setCell ⟨bw,0,none⟩ (.int .i64 (top:Int))) bz Aa0 from Z.out.other _ N.out _);have E:=Lh (show Below w.heap.size w (wr.setCell ⟨bw,0,none⟩ (.int .i64 (top:Int))) from G.out.setCell L0.out _);go_upto_region 13 with(fail)
           clear zf hbl g BM Z G;generalize wr.setCell ⟨bw,0,none⟩ (.int .i64 (top:Int))=w4 at *;go_wp2_with (refine Aa7 (.tmp 2) bw rfl rfl rfl C.out ?_)
           refine(HS1.out _ _ _).mono ?_;rintro e w5 ⟨rfl,hb⟩;have D2:=Lh (D.out.up hb);have E2:=Lh (bt E.out hb);clear C D E hb;go_wp2_with (refine Ah4 (.tmp 4) (.tmp 50) bz rfl rfl rfl rfl D2.out (G6 _ _) ?_)
           refine bodyPost_ret (F2 rfl _ _ bz (cs:=D5 (top:Int) (Ag3 (Y5 c0 top m) (n%1024))) rfl _ rfl (D2.out.row _) Tryz.underlying28 rfl (by rw[G6];exact S5)) rfl ?_;exact⟨by rw[HMax.out,HC.out];rfl,F5 E2.out L1.out _⟩)
def Av9(b:Nat→UInt64):List Value:=(List.range 16).map fun i=>.int .u64 (qv (b i))
theorem Fm5(d:Nat)(x y:UInt64)(w:World):(Op.equalIn (d+1) 25 (.int .u64 (qv x)) (.int .u64 (qv y))).run Tryz.prog w=.ok (x==y) w:=by
 rw[run_equalIn_int w d 25 .u64 .u64 _ _ Tryz.underlying25]
 congr 1
 rw[Bool.eq_iff_iff,beq_iff_eq,beq_iff_eq,Fc4]
theorem Cn9(d:Nat)(b c:Nat→UInt64)(w:World):∀is:List Nat,(∀i∈is,i<16)→(Op.eqItems (d+1) 25 1 (Av9 b).toArray (Av9 c).toArray is).run Tryz.prog w=.ok (is.all fun i=>b i==c i) w
 | [],_=>by simp[Op.eqItems]
 | i::is,h=>by
   have hi:=h i List.mem_cons_self;have e:∀x:Nat→UInt64,(Av9 x).toArray[i*1]?=some (.int .u64 (qv (x i))):=fun x=>by rw[Nat.mul_one];simp[Av9,hi]
   have p:=fun(x:Nat→UInt64)=>run_part_plain (P:=Tryz.prog) w (e:=25) (by kernel_rfl) (e x);simp only[Op.eqItems,Sem.run_bind,p,Result.andThen_ok,Fm5];rw[List.all_cons];cases hb:(b i==c i)
   ·simp
   ·simpa using Cn9 d b c w is fun j hj=>h j (List.mem_cons_of_mem _ hj)
theorem Ev9(d:Nat)(b c:Nat→UInt64)(w:World):(Op.equalIn (d+2) 26 (.agg (Av9 b).toArray) (.agg (Av9 c).toArray)).run Tryz.prog w=.ok ((List.range 16).all fun i=>b i==c i) w:=by
 obtain⟨i,hi⟩:=Option.isSome_iff_exists.1 (show(Tryz.prog.info? 25).isSome=true by kernel_rfl);rw[run_equalIn_array w (d+1) (Av9 b).toArray (Av9 c).toArray Tryz.underlying26 hi];have hc:Tryz.prog.cellsOf 25=1:=by kernel_rfl
 rw[hc];exact Cn9 d b c w _ fun j hj=>List.mem_range.1 hj
theorem Bw4(top:Int)(b:Nat→UInt64)(w:World):(part 3 (D5 top b).toArray 0).run Tryz.prog w=.ok (.int .i64 top) w:=
 run_part_plain (P:=Tryz.prog) w (e:=3) (by kernel_rfl) (by simp[D5])
theorem Dy3(top:Int)(b:Nat→UInt64)(w:World):(part 26 (D5 top b).toArray 1).run Tryz.prog w=.ok (.agg (Av9 b).toArray) w:=by
 obtain⟨i,hi⟩:=Option.isSome_iff_exists.1 (show(Tryz.prog.info? 26).isSome=true by kernel_rfl);have hc:Tryz.prog.cellsOf 26=16:=by kernel_rfl
 have e:List.take 16 (D5 top b).tail=Av9 b:=by
  show List.take 16 ((List.range 16).map fun i=>Value.int .u64 (qv (b i)))=_;exact List.take_of_length_le (by simp)
 simp[part,isAgg,run_underlying Tryz.underlying26,run_sizeOf w hi,hc,e]
theorem Bz6(top t2:Int)(b c:Nat→UInt64)(w:World):(Op.equalIn 10000 28 (.agg (D5 top b).toArray) (.agg (D5 t2 c).toArray)).run Tryz.prog w=.ok ((top==t2)&&(List.range 16).all fun i=>b i==c i) w:=by
 have hf:Tryz.prog.underlying 28=some (.struct (Tryz.prog.fieldsOf 28)):=by
  simp[Program.fieldsOf,Tryz.underlying28]
 rw[run_equalIn_struct w 9999 28 _ _ hf (by kernel_rfl)];simp only[Program.fieldsOf,Tryz.underlying28];have q:(Op.equalIn 9999 26 (.agg (Av9 b).toArray) (.agg (Av9 c).toArray)).run Tryz.prog w=_:=Ev9 9997 b c w;have q0:(Op.equalIn 9999 3 (.int .i64 top) (.int .i64 t2)).run Tryz.prog w=.ok (top==t2) w:=run_equalIn_int w 9998 3 .i64 .i64 top t2 Tryz.underlying3;generalize (top==t2)=x at *;generalize ((List.range 16).all fun i=>b i==c i)=y at *;have p1:=fun z=>Bw4 top z w;have p2:=fun z=>Bw4 t2 z w;cases x<;>cases y<;>simp[Op.eqFields,Sem.run_bind,Bw4,Dy3,q,q0]
theorem Dy4(b:Nat→UInt64)(t k:Nat):Y5 b t (k+1)=Au2 (Y5 b t k) ((t+k)%1024):=rfl
instance (top:Int) (b:Nat→UInt64):Decidable (Ac4 top b):=by unfold Ac4;infer_instance
theorem Bz7(c:Nat→UInt64):((List.range 16).all fun i=>c i==T6 i)=true↔∀p,p<1024→U6 c p=false:=by
 rw[List.all_eq_true];constructor
 ·intro h p hp;have:=h (p/64) (List.mem_range.2 (by omega));rw[beq_iff_eq] at this;have hz:=Au3 p;unfold U6 at hz ⊢;rw[this];exact hz
 ·intro h i hi;rw[beq_iff_eq];exact Cn8 (fun p hp=>by rw[h p hp,Au3]) i (List.mem_range.1 hi)
theorem Db6(b:Nat→UInt64):decide (Ac4 0 b)=((List.range 16).all fun i=>b i==T6 i):=by
 rw[Bool.eq_iff_iff,decide_eq_true_iff,Bz7];unfold Ac4;constructor
 ·rintro⟨-,h,-⟩ p hp;exact h p hp (by omega)
 ·intro h;exact⟨⟨by omega,by omega⟩,fun p hp _=>h p hp,.inl rfl⟩
theorem Dy5(top:Nat)(b:Nat→UInt64)(h1:0<top)(h2:top≤4611686018427387905)(hb:U6 b ((top-1)%1024)=true):decide (Ac4 top b)=((List.range 16).all fun i=>Y5 b 0 (min top 1024) i==T6 i):=by
 rw[Bool.eq_iff_iff,decide_eq_true_iff,Bz7];unfold Ac4;constructor
 ·rintro⟨-,h,-⟩ p hp;rw[Bh3];by_cases hpt:top≤p
  ·rw[h p hp (by omega)];rfl
  ·rw[Bool.and_eq_false_iff];right;rw[decide_eq_false_iff_not];intro hj;exact hj p (by omega) (by omega)
 ·intro h;refine⟨⟨by omega,by omega⟩,fun p hp hpt=>?_,.inr (by rw[show((top:Int)-1).toNat=top-1 by omega];exact hb)⟩;have:=h p hp;rw[Bh3,Bool.and_eq_false_iff] at this;rcases this with h | h
  ·exact h
  ·rw[decide_eq_false_iff_not] at h;exact absurd (fun j hj e=>by omega) h
theorem Ek3(top:Nat)(b:Nat→UInt64)(h1:0<top)(hb:U6 b ((top-1)%1024)=false):decide (Ac4 top b)=false:=by
 rw[decide_eq_false_iff_not];rintro⟨-,-,h | h⟩
 ·omega
 ·rw[show((top:Int)-1).toNat=top-1 by omega,hb] at h;cases h
theorem Bh4(top:Int)(b:Nat→UInt64)(h:top<0∨4611686018427387905<top):decide (Ac4 top b)=false:=by
 rw[decide_eq_false_iff_not];rintro⟨⟨h1,h2⟩,-⟩;omega
abbrev Bs7(t:Int):Array Value:=#[.int .i64 t,.int .u64 0,.int .u64 0,.int .u64 0,.int .u64 0,.int .u64 0,.int .u64 0,.int .u64 0,.int .u64 0,.int .u64 0,.int .u64 0,.int .u64 0,.int .u64 0,.int .u64 0,.int .u64 0,.int .u64 0,.int .u64 0]
theorem Ax1(t:Int):Bs7 t=(D5 t T6).toArray:=by
 have hz:∀i,qv (T6 i)=0:=fun i=>rfl;unfold D5;rw[show List.range 16=[0,1,2,3,4,5,6,7,8,9,10,11,12,13,14,15] from rfl];simp only[List.map_cons,List.map_nil,hz]
theorem Co0(top:Int)(b:Nat→UInt64)(ht:-9223372036854775808≤top∧top≤9223372036854775807)(w:World):
 Calls Tryz.prog 94 #[.agg (D5 top b).toArray] w fun e w'=>e=.returned (.bool (decide (Ac4 top b)))∧Below w.heap.size w w':=by
 obtain⟨ht1,ht2⟩:=ht;go_enter Tryz.func94,Tryz.ntmps94
 go_upto_region 1 with(fail)
 generalize hW:World.alloc w _=W;have B:=Lh (show Blk W w.heap.size (D5 top b) by rw[←hW];exact Blk.new w (D5 top b) _);have G:=Lh (show Below w.heap.size w W by rw[←hW];exact ba w _);obtain⟨bw,hbw⟩:∃x,x=w.heap.size:=⟨_,rfl⟩;rw[←hbw] at B;simp only[←hbw];have L0:=Lh (show w.heap.size≤bw by omega);clear hW hbw;have g:W.cell? ⟨bw,0,none⟩=some (.int .i64 top):=B.out.cell 0 (by rw[G6];omega);by_cases h1:top<0
 ·have HF:=Lh (Bh4 top b (.inl h1));go_wp2_with fail
  go_ret;exact⟨I5 HF.out.symm,G.out⟩
 by_cases h2:4611686018427387905<top
 ·have HF:=Lh (Bh4 top b (.inr h2));go_wp2_with fail
  go_ret;exact⟨I5 HF.out.symm,G.out⟩
 by_cases h3:top=0
 ·subst h3;have HF:=Lh (Db6 b);have he:∀w,(Op.equalIn 10000 28 (.agg (D5 0 b).toArray) (.agg (Bs7 0))).run Tryz.prog w=.ok ((List.range 16).all fun i=>b i==T6 i) w:=fun w=>by
   rw[Ax1,Bz6];simp
  generalize ((List.range 16).all fun i=>b i==T6 i)=x at *;go_wp2_with (refine Aa7 (.tmp 1) bw rfl rfl rfl B.out ?_)
  go_ret;exact⟨I5 HF.out.symm,G.out⟩
 ·obtain⟨T,rfl⟩:∃T:Nat,top=T:=⟨top.toNat,by omega⟩;have hT0:0<T:=by omega
  have hT9:T≤4611686018427387905:=by omega
  have HH:=Lh (fun W=>(show Calls Tryz.prog 154 #[.agg (D5 T b).toArray,.int .i64 ((T:Int)-1)] W fun e w'=>e=.returned (.bool (U6 b ((T-1)%1024)))∧Below W.heap.size W w' from by
   have h:=Cz5 T b (T-1) (by omega) W;rw[show(((T-1:Nat)):Int)=(T:Int)-1 by omega] at h;exact h))
  cases hb:U6 b ((T-1)%1024) with
  | false=>
    have HF:=Lh (Ek3 T b hT0 hb);rw[hb] at HH;clear hb;go_wp2_with (refine Aa7 (.tmp 1) bw rfl rfl rfl B.out ?_)
    refine(HH.out _).mono ?_;rintro e w1 ⟨rfl,hb⟩;go_wp2_with fail
    go_ret;exact⟨I5 HF.out.symm,bt G.out hb⟩
  | true=>
    have HF:=Lh (Dy5 T b hT0 hT9 hb);rw[hb] at HH;clear hb;obtain⟨m,hm⟩:∃m,m=min T 1024:=⟨_,rfl⟩;rw[←hm] at HF;have Hm:=Lh hm;have HS:=Lh (fun(j:Nat) (hj:j<1024) W=>(show Calls Tryz.prog 136 #[.agg (D5 T (Y5 b 0 j)).toArray,.int .i64 j,.bool false] W fun e w'=>e=.returned (.agg (D5 T (Y5 b 0 (j+1))).toArray)∧Below W.heap.size W w' from by
     have h:=Ce3 T (Y5 b 0 j) j (by omega) false W;rw[show Y5 b 0 (j+1)=Au2 (Y5 b 0 j) (j%1024) from(Dy4 b 0 j).trans (by rw[Nat.zero_add])];exact h))
    have he:∀w,(Op.equalIn 10000 28 (.agg (D5 T (Y5 b 0 m)).toArray) (.agg (Bs7 T))).run Tryz.prog w=.ok ((List.range 16).all fun i=>Y5 b 0 m i==T6 i) w:=fun w=>by
     rw[Ax1,Bz6];simp
    generalize ((List.range 16).all fun i=>Y5 b 0 m i==T6 i)=x at *;have HEq:=Lh he;clear he;go_wp2_with (refine Aa7 (.tmp 1) bw rfl rfl rfl B.out ?_)
    refine(HH.out _).mono ?_;rintro e w1 ⟨rfl,hb⟩;have B1:=Lh (B.out.up hb);have G1:=Lh (bt G.out hb);clear g hb B G HH hm;go_upto_region 7 with(fail)
    go_cut [3] (fun v3 wx=>∃b3:Nat,v3=.pointer (some ⟨b3,0,none⟩)∧Blk wx b3 (D5 T b)∧Blk wx bw (D5 T b)∧bw≠b3∧w.heap.size≤b3∧Below w.heap.size w wx)
    case first=>
     go_wp2_with (first | (refine Aa7 (.tmp 1) bw rfl rfl rfl B1.out ?_) | (refine Ah4 (.tmp 3) (.tmp 28) w1.heap.size rfl rfl rfl rfl (Blk.new w1 Aa0 _) (G6 _ _) ?_))
     go_meet
     exact⟨_,rfl,(Blk.new w1 Aa0 28).row _,(B1.out.alloc _).rowOther _ (by have:=B1.out.lt;omega) _,by have:=B1.out.lt;omega,G1.out.size,F5 (bta G1.out _) G1.out.size _⟩
    case rest=>
     obtain⟨b3,rfl,hB,hC,hN,hL,hG⟩:=hcut;have B2:=Lh hB;have C2:=Lh hC;have N:=Lh hN;have L3:=Lh hL;have G2:=Lh hG;clear hB hC hN hL hG B1 G1;have g:wc.cell? ⟨bw,0,none⟩=some (.int .i64 T):=C2.out.cell 0 (by rw[G6];omega);by_cases hbig:T≤1024;all_goals
      go_upto_region 8 with(fail)
      (try have hbi:(T:Int)≤1024:=by omega)
      (try have hbi:¬(T:Int)≤1024:=by omega)
      go_wp2_with fail
     all_goals
      clear g
      go_loopw [32] (fun v32 wx=>∃j:Nat,j≤m∧v32=.int .i64 (j:Int)∧Blk wx b3 (D5 T (Y5 b 0 j))∧Blk wx bw (D5 T b)∧Below w.heap.size w wx) (fun v32 _=>m-(intOf v32).toNat)
      case atStart=>exact⟨0,Nat.zero_le _,rfl,B2.out,C2.out,G2.out⟩
      case round=>
       clear B2 C2 G2;obtain⟨j,hj,rfl,hB,hC,hG⟩:=hrel;have B:=Lh hB;have C:=Lh hC;have G:=Lh hG;clear hB hC hG;have hm:=Hm.out;by_cases hlt:j<m
       ·(try have k1:(j:Int)<1024:=by omega)
        (try have k2:(j:Int)<(T:Int):=by omega)
        have hj9:j<1024:=by omega
        clear hm;go_wp2_with (refine Aa7 (.tmp 3) b3 rfl rfl rfl B.out ?_)
        refine(HS.out j hj9 _).mono ?_;rintro e w3 ⟨rfl,hb⟩;have B3:=Lh (B.out.up hb);have C3:=Lh (C.out.up hb);have G3:=Lh (bt G.out hb);clear B C G hb;go_wp2_with (refine Ah4 (.tmp 3) (.tmp 37) b3 rfl rfl rfl rfl B3.out (G6 _ _) ?_)
        refine⟨⟨j+1,hlt,by go_num,B3.out.row _,C3.out.rowOther b3 N.out _,F5 G3.out L3.out _⟩,?_⟩;simp[intOf];omega
       ·have hjm:j=m:=by omega
        have BM:=Lh (show Blk wr b3 (D5 T (Y5 b 0 m)) by rw[←hjm];exact B.out)
        (try have k1:¬(j:Int)<1024:=by omega)
        (try have k2:¬(j:Int)<(T:Int):=by omega)
        have g:wr.cell? ⟨bw,0,none⟩=some (.int .i64 T):=C.out.cell 0 (by rw[G6];omega);have he:=HEq.out;clear hjm B hlt hm;go_wp2_with (refine Aa7 (.tmp 3) b3 rfl rfl rfl BM.out ?_)
        go_ret;exact⟨I5 HF.out.symm,G.out⟩
theorem Dy6:qv (R6 0)=1:=by unfold qv;rw[Ax0 0 (by decide)];rfl
theorem Ek4(k:Nat)(hk:k+1<64)(t:TypeId):binOp .mul t (.int .u64 2) (.int .u64 (qv (R6 k)))=pure (.int .u64 (qv (R6 (k+1)))):=by
 show pure (Value.int .u64 (IntKind.u64.wrap (2*qv (R6 k))))=_;have h:IntKind.u64.wrap (2*qv (R6 k))=qv (R6 (k+1)):=by
  unfold qv;rw[Ax0 k (by omega),Ax0 (k+1) hk];have e:(2:Int)*((2^k:Nat):Int)=((2^(k+1):Nat):Int):=by rw[Nat.pow_succ];omega
  rw[e,Ap1 _ (Nat.pow_lt_pow_right (by decide) hk)]
 rw[h]
theorem Bj7(k:Nat)(hk:k<64)(w:World):Calls Tryz.prog 142 #[.int .i64 k] w fun e w'=>e=.returned (.int .u64 (qv (R6 k)))∧w=w':=by
 go_enter Tryz.func142,Tryz.ntmps142
 go_wp2_with fail
 go_loopw [3,4] (fun v3 v4 wx=>∃j:Nat,j≤k∧v4=.int .i64 (j:Int)∧v3=.int .u64 (qv (R6 j))∧w=wx) (fun _ v4 _=>k-(intOf v4).toNat)
 case atStart=>exact⟨0,Nat.zero_le _,rfl,by rw[Dy6],rfl⟩
 case round=>
  obtain⟨j,hj,rfl,rfl,rfl⟩:=hrel;by_cases hlt:j<k
  ·have k1:(j:Int)<(k:Int):=by omega
   have hm:=Ek4 j (by omega) 25;have hm2:IntKind.u64.wrap (2*qv (R6 j))=qv (R6 (j+1)):=by
    have h:=hm;have h2:(pure (Value.int .u64 (IntKind.u64.wrap (2*qv (R6 j)))):Sem Value)=pure (.int .u64 (qv (R6 (j+1)))):=h;have h3:=congrArg (fun s=>s.run Tryz.prog w) h2;simp only[Sem.run_pure] at h3;injection h3 with h3;injection h3
   clear hm;go_wp2_with fail
   refine⟨⟨j+1,hlt,by go_num,by first | exact⟨rfl,rfl⟩ | trivial⟩,?_⟩;simp[intOf];omega
  ·have hjk:j=k:=by omega
   have k1:¬(j:Int)<(k:Int):=by omega
   go_wp2_with fail
   go_ret;first | exact⟨rfl,rfl⟩ | exact⟨by rw[hjk];rfl,rfl⟩
theorem Fm6(x:UInt64)(k:Nat)(hk:k<64):IntKind.u64.wrap ((qv x).tdiv (qv (R6 k)))=((x.toNat/2^k:Nat):Int):=by
 unfold qv;rw[Ax0 k hk,Int.tdiv_eq_ediv_of_nonneg (by omega),←Int.natCast_ediv];exact Ap1 _ (Nat.lt_of_le_of_lt (Nat.div_le_self _ _) x.toNat_lt)
theorem Ew0(k:Nat)(hk:k<64):(qv (R6 k)==0)=false:=by
 rw[beq_eq_false_iff_ne];unfold qv;rw[Ax0 k hk];have:=Nat.two_pow_pos k;omega
theorem Bh5(top:Int)(b:Nat→UInt64)(p:Nat)(hp:p<1024)(w:World):
 Calls Tryz.prog 79 #[.agg (D5 top b).toArray,.int .i64 p] w fun e w'=>e=.returned (.bool (U6 b p))∧Below w.heap.size w w':=by
 obtain⟨i,hi⟩:∃i,i=p/64:=⟨_,rfl⟩;obtain⟨k,hk⟩:∃k,k=p%64:=⟨_,rfl⟩;have hi16:i<16:=by omega
 have hk64:k<64:=by omega
 have HL:=Lh (Bk5 top b i hi16);have c3:(p:Int).tdiv 64=(i:Int):=by rw[Int.tdiv_eq_ediv_of_nonneg (by omega),hi];omega
 have c4:IntKind.i64.wrap (i:Int)=(i:Int):=by rw[IntKind.wrap_i64];omega
 have c5:(p:Int).tmod 64=(k:Int):=by rw[Int.tmod_eq_emod_of_nonneg (by omega),hk];omega
 have c6:IntKind.i64.wrap (k:Int)=(k:Int):=by rw[IntKind.wrap_i64];omega
 have c7:=Fm6 (b i) k hk64;have c8:=Ew0 k hk64;have c11:¬qv (R6 k)=0:=by rw[beq_eq_false_iff_ne] at c8;exact c8
 have c9:(((b i).toNat/2^k:Nat):Int).tmod 2=(((b i).toNat/2^k%2:Nat):Int):=by rw[Int.tmod_eq_emod_of_nonneg (Int.natCast_nonneg _)];exact(Int.natCast_emod _ 2).symm
 have c10:IntKind.u64.wrap (((b i).toNat/2^k%2:Nat):Int)=(((b i).toNat/2^k%2:Nat):Int):=Ap1 _ (by omega);have HB:=Lh (show((((b i).toNat/2^k%2:Nat):Int)==1)=U6 b p by
  unfold U6;rw[←hi,←hk,←Ev6];rw[Bool.eq_iff_iff,beq_iff_eq,beq_iff_eq];omega)
 have HP:=Lh (Bj7 k hk64);have i0:(0:Int)≤(i:Int):=by omega
 have i1:(i:Int)<16:=by omega
 generalize (b i).toNat/2^k%2=r2 at *;generalize (b i).toNat/2^k=r1 at *;generalize hx:qv (b i)=x at *;have HL2:=Lh (show(D5 top b).getD (1+i) undef=.int .u64 x from HL.out);generalize qv (R6 k)=y at *;clear hi hk hx HL;go_enter Tryz.func79,Tryz.ntmps79
 go_upto_region 1 with(fail)
 generalize hW:World.alloc w _=W;have B:=Lh (show Blk W w.heap.size (D5 top b) by rw[←hW];exact Blk.new w (D5 top b) _);have G:=Lh (show Below w.heap.size w W by rw[←hW];exact ba w _);clear hW;generalize w.heap.size=bw at B ⊢;have g:=B.out.cell (1+i) (by rw[G6];omega);rw[HL2.out] at g;go_quiet ((go_at_call 142;exact Calls.quiet_of_same ((HP.out _).mono (fun e w' h=>⟨h.1,h.2.symm⟩))))
 go_wp2_with fail
 go_ret;exact⟨by rw[←HB.out];rfl,btn G.out nq⟩
theorem Bu5(top:Int)(b:Nat→UInt64)(n:Int)(ht:0≤top∧top≤4611686018427387905)(hn:-9223372036854775808≤n∧n≤9223372036854775807)(w:World):
 Calls Tryz.prog 32 #[.agg (D5 top b).toArray,.int .i64 n] w fun e w'=>e=.returned (.bool (decide (Af7 top b n)))∧Below w.heap.size w w':=by
 have HI:=Lh S5;have HH:=Lh (fun W=>Bh5 top b (n.toNat%1024) (Nat.mod_lt _ (by decide)) W);have FL:=Lh (show ¬(0≤n∧n≤4611686018427387904∧top-1024≤n)→decide (Af7 top b n)=false from fun h=>decide_eq_false fun k=>h k.1);have FT:=Lh (show 0≤n→n≤4611686018427387904→top≤n→decide (Af7 top b n)=true from fun h1 h2 h3=>decide_eq_true ⟨⟨h1,h2,by omega⟩,.inl h3⟩);have FB:=Lh (show 0≤n→n≤4611686018427387904→¬top≤n→top-1024≤n→decide (Af7 top b n)=!U6 b (n.toNat%1024) from fun h1 h2 h3 h4=>by
  cases hb:U6 b (n.toNat%1024)
  ·exact decide_eq_true ⟨⟨h1,h2,h4⟩,.inr hb⟩
  ·refine decide_eq_false fun k=>?_;rcases k.2 with k | k
   ·exact h3 k
   ·rw[hb] at k;cases k)
 have HP:=Lh (show 0≤n→n.tmod 1024=((n.toNat%1024:Nat):Int)∧IntKind.i64.wrap ((n.toNat%1024:Nat):Int)=((n.toNat%1024:Nat):Int) from fun h=>⟨by rw[Int.tmod_eq_emod_of_nonneg h];omega,by rw[IntKind.wrap_i64];omega⟩);generalize decide (Af7 top b n)=F at *;generalize n.toNat%1024=p at *;obtain⟨ht1,ht2⟩:=ht;obtain⟨hn1,hn2⟩:=hn;go_enter Tryz.func32,Tryz.ntmps32
 go_upto_region 1 with(fail)
 generalize hW:World.alloc w _=W;have B:=Lh (show Blk W w.heap.size (D5 top b) by rw[←hW];exact Blk.new w (D5 top b) _);have G:=Lh (show Below w.heap.size w W by rw[←hW];exact ba w _);clear hW;generalize w.heap.size=bw at B ⊢;have g:W.cell? ⟨bw,0,none⟩=some (.int .i64 top):=B.out.cell 0 (by rw[G6];omega);by_cases h1:0≤n
 ·by_cases h2:n≤4611686018427387904
  ·by_cases h4:top-1024≤n
   ·by_cases h3:top≤n
    ·go_wp2_with fail
     go_ret;exact⟨I5 (FT.out h1 h2 h3).symm,G.out⟩
    ·obtain⟨p1,p2⟩:=HP.out h1;go_wp2_with (refine J0 28 (.tmp 2) bw (cs:=D5 top b) (by first | rfl | simp[Region.wanted,yielded]) rfl rfl B.out Tryz.underlying28 rfl (by rw[G6];exact HI.out) ?_)
     refine(HH.out _).mono ?_;rintro e w1 ⟨rfl,hb⟩;go_wp2_with fail
     go_ret;exact⟨I5 (FB.out h1 h2 h3 h4).symm,bt G.out hb⟩
   ·go_wp2_with fail
    go_ret;exact⟨I5 (FL.out (by omega)).symm,G.out⟩
  ·go_wp2_with fail
   go_ret;exact⟨I5 (FL.out (by omega)).symm,G.out⟩
 ·go_wp2_with fail
  go_ret;exact⟨I5 (FL.out (by omega)).symm,G.out⟩
theorem Db7(T:Nat)(b:Nat→UInt64)(h2:T≤4611686018427387905)(hz:∀p,p<1024→T≤p→U6 b p=false):decide (Ac4 T b)=(decide ((T:Int)=0) || U6 b ((T-1)%1024)):=by
 rw[Bool.eq_iff_iff,decide_eq_true_iff,Bool.or_eq_true,decide_eq_true_iff];unfold Ac4;rw[show((T:Int)-1).toNat=T-1 by omega];constructor
 ·rintro⟨-,-,h⟩;exact h
 ·intro h;exact⟨⟨by omega,by omega⟩,fun p hp hpt=>hz p hp (by omega),h⟩
theorem Dy7(T p:Nat)(b:Nat→UInt64)(hp:p<1024)(ht:T≤p)(hb:U6 b p=true):decide (Ac4 T b)=false:=by
 rw[decide_eq_false_iff_not];rintro⟨-,h,-⟩;rw[h p hp (by omega)] at hb;cases hb
theorem Ce4(top:Int)(b:Nat→UInt64)(ht:-9223372036854775808≤top∧top≤9223372036854775807)(w:World):
 Calls Tryz.prog 81 #[.agg (D5 top b).toArray] w fun e w'=>e=.returned (.bool (decide (Ac4 top b)))∧Below w.heap.size w w':=by
 obtain⟨ht1,ht2⟩:=ht;have HI:=Lh S5;go_enter Tryz.func81,Tryz.ntmps81
 go_upto_region 1 with(fail)
 generalize hW:World.alloc w _=W;have B:=Lh (show Blk W w.heap.size (D5 top b) by rw[←hW];exact Blk.new w (D5 top b) _);have G:=Lh (show Below w.heap.size w W by rw[←hW];exact ba w _);obtain⟨bw,hbw⟩:∃x,x=w.heap.size:=⟨_,rfl⟩;rw[←hbw] at B;simp only[←hbw];clear hW hbw;have g:W.cell? ⟨bw,0,none⟩=some (.int .i64 top):=B.out.cell 0 (by rw[G6];omega);by_cases h1:top<0
 ·have HF:=Lh (Bh4 top b (.inl h1));go_wp2_with fail
  go_ret;exact⟨I5 HF.out.symm,G.out⟩
 by_cases h2:4611686018427387905<top
 ·have HF:=Lh (Bh4 top b (.inr h2));go_wp2_with fail
  go_ret;exact⟨I5 HF.out.symm,G.out⟩
 obtain⟨T,rfl⟩:∃T:Nat,top=T:=⟨top.toNat,by omega⟩;have hT9:T≤4611686018427387905:=by omega
 go_wp2_with fail
 clear g
 go_loopw [3] (fun v3 wx=>∃j:Nat,T≤j∧(j≤1024∨j=T)∧v3=.int .i64 (j:Int)∧(∀p,p<1024→T≤p→p<j→U6 b p=false)∧Blk wx bw (D5 T b)∧Below w.heap.size w wx) (fun v3 _=>1024-(intOf v3).toNat)
 case atStart=>exact⟨T,Nat.le_refl _,.inr rfl,rfl,fun p _ h1 h2=>by omega,B.out,G.out⟩
 case round=>
  clear B G;obtain⟨j,hj,hj2,rfl,hz,hB,hG⟩:=hrel;have B:=Lh hB;have G:=Lh hG;have HZ:=Lh hz;clear hB hG hz;by_cases hlt:j<1024
  ·have k1:(j:Int)<1024:=by omega
   go_wp2_with (refine Aa7 (.tmp 1) bw rfl rfl rfl B.out ?_)
   refine(Bh5 T b j hlt _).mono ?_;rintro e w1 ⟨rfl,hb⟩;have B1:=Lh (B.out.up hb);have G1:=Lh (bt G.out hb);clear B G hb;cases hbj:U6 b j with
   | true=>
     have HF:=Lh (Dy7 T j b hlt hj hbj);clear hbj;go_wp2_with fail
     go_ret;exact⟨I5 HF.out.symm,G1.out⟩
   | false=>
     have Hbj:=Lh hbj;clear hbj;go_wp2_with fail
     refine⟨⟨j+1,by omega,.inl hlt,by go_num,fun p hp h1 h2=>by
      by_cases e:p=j
      ·rw[e];exact Hbj.out
      ·exact HZ.out p hp h1 (by omega),B1.out,G1.out⟩,?_⟩
     simp[intOf];omega
  ·have k1:¬(j:Int)<1024:=by omega
   have HF:=Lh (Db7 T b hT9 (fun p hp hpt=>HZ.out p hp hpt (by omega)));have g:wr.cell? ⟨bw,0,none⟩=some (.int .i64 T):=B.out.cell 0 (by rw[G6];omega);by_cases h0:T=0
   ·subst h0;rw[decide_eq_true (show((0:Nat):Int)=0 from rfl),Bool.true_or] at HF;have g0:wr.cell? ⟨bw,0,none⟩=some (.int .i64 0):=g;go_wp2_with fail
    go_ret;exact⟨I5 HF.out.symm,G.out⟩
   ·have h0':¬(T:Int)=0:=by omega
    have h0'':((T:Int)==0)=false:=by rw[beq_eq_false_iff_ne];exact h0'
    rw[decide_eq_false h0',Bool.false_or] at HF;have hp0:(((T:Int)-1).tmod 1024)=(((T-1)%1024:Nat):Int):=by rw[Int.tmod_eq_emod_of_nonneg (by omega)];omega
    have hp1:IntKind.i64.wrap (((T-1)%1024:Nat):Int)=(((T-1)%1024:Nat):Int):=by rw[IntKind.wrap_i64];omega
    have HH:=Lh (fun W=>Bh5 T b ((T-1)%1024) (Nat.mod_lt _ (by decide)) W);generalize (T-1)%1024=p at *;go_wp2_with (refine J0 28 (.tmp 1) bw (cs:=D5 T b) (by first | rfl | simp[Region.wanted,yielded]) rfl rfl B.out Tryz.underlying28 rfl (by rw[G6];exact HI.out) ?_)
    refine(HH.out _).mono ?_;rintro e w1 ⟨rfl,hb⟩;go_wp2_with fail
    go_ret;exact⟨I5 HF.out.symm,bt G.out hb⟩
theorem Ek5(top:Int)(b:Nat→UInt64)(n:Int)(hn:n<0∨4611686018427387904<n)(w:World):
 Calls Tryz.prog 62 #[.agg (D5 top b).toArray,.int .i64 n] w fun e w'=>e=.returned (.tuple #[.agg (D5 top b).toArray,.int .i64 1])∧Below w.heap.size w w':=by
 go_enter Tryz.func62,Tryz.ntmps62
 go_upto_region 1 with(fail)
 generalize hW:World.alloc (World.alloc w _) _=W;have B:=Lh (show Blk W w.heap.size (D5 top b) by rw[←hW];exact(Blk.new w (D5 top b) _).alloc _);have Z:=Lh (show Blk W (w.heap.size+1) Aa0 by rw[←hW,←I9 w (.cells (D5 top b).toArray 28)];exact Blk.new _ Aa0 _);have G:=Lh (show Below w.heap.size w W by rw[←hW];exact bta (ba w _) _);obtain⟨bw,hbw⟩:∃x,x=w.heap.size:=⟨_,rfl⟩;obtain⟨bz,hbz⟩:∃x,x=bw+1:=⟨_,rfl⟩;rw[←hbw] at B Z;rw[←hbz] at Z;simp only[←hbw,←hbz];have L1:=Lh (show w.heap.size≤bz by omega);clear hW hbw hbz;have H1:=Lh hn;by_cases h1:n<0
 ·clear hn;go_wp2_with (first | (refine Aa7 (.tmp 2) bw rfl rfl rfl B.out ?_) | (refine Ah4 (.tmp 4) (.tmp 13) bz rfl rfl rfl rfl Z.out (G6 _ _) ?_))
  refine bodyPost_ret (F2 rfl _ _ bz (cs:=D5 top b) rfl _ rfl (Z.out.row _) Tryz.underlying28 rfl (by rw[G6];exact S5)) rfl ?_;exact⟨rfl,F5 G.out L1.out _⟩
 ·have h2:4611686018427387904<n:=by omega
  clear hn;go_wp2_with (first | (refine Aa7 (.tmp 2) bw rfl rfl rfl B.out ?_) | (refine Ah4 (.tmp 4) (.tmp 13) bz rfl rfl rfl rfl Z.out (G6 _ _) ?_))
  refine bodyPost_ret (F2 rfl _ _ bz (cs:=D5 top b) rfl _ rfl (Z.out.row _) Tryz.underlying28 rfl (by rw[G6];exact S5)) rfl ?_;exact⟨rfl,F5 G.out L1.out _⟩
theorem Ek6(top:Int)(b:Nat→UInt64)(n:Int)(ht:0≤top∧top≤4611686018427387905)(hn:0≤n)(hn2:n≤4611686018427387904)(hf:¬Af7 top b n)(w:World):
 Calls Tryz.prog 62 #[.agg (D5 top b).toArray,.int .i64 n] w fun e w'=>e=.returned (.tuple #[.agg (D5 top b).toArray,.int .i64 6])∧Below w.heap.size w w':=by
 have HF:=Lh (fun W=>(show Calls Tryz.prog 135 #[.agg (D5 top b).toArray,.int .i64 n] W fun e w'=>e=.returned (.bool false)∧Below W.heap.size W w' from by
  have h:=Ci0 top b n ht ⟨by omega,by omega⟩ W;rw[decide_eq_false hf] at h;exact h))
 clear hf;go_enter Tryz.func62,Tryz.ntmps62
 go_upto_region 1 with(fail)
 generalize hW:World.alloc (World.alloc w _) _=W;have B:=Lh (show Blk W w.heap.size (D5 top b) by rw[←hW];exact(Blk.new w (D5 top b) _).alloc _);have Z:=Lh (show Blk W (w.heap.size+1) Aa0 by rw[←hW,←I9 w (.cells (D5 top b).toArray 28)];exact Blk.new _ Aa0 _);have G:=Lh (show Below w.heap.size w W by rw[←hW];exact bta (ba w _) _);obtain⟨bw,hbw⟩:∃x,x=w.heap.size:=⟨_,rfl⟩;obtain⟨bz,hbz⟩:∃x,x=bw+1:=⟨_,rfl⟩;rw[←hbw] at B Z;rw[←hbz] at Z;simp only[←hbw,←hbz];have L1:=Lh (show w.heap.size≤bz by omega);clear hW hbw hbz;have d1:¬n<0:=by omega
 have d2:¬4611686018427387904<n:=by omega
 clear ht hn hn2;go_wp2_with (refine Aa7 (.tmp 2) bw rfl rfl rfl B.out ?_)
 refine(HF.out _).mono ?_;rintro e w1 ⟨rfl,hb⟩;replace B:=Lh (B.out.up hb);replace Z:=Lh (Z.out.up hb);replace G:=Lh (bt G.out hb);clear hb HF;go_wp2_with (first | (refine Aa7 (.tmp 2) bw rfl rfl rfl B.out ?_) | (refine Ah4 (.tmp 4) (.tmp 18) bz rfl rfl rfl rfl Z.out (G6 _ _) ?_))
 refine bodyPost_ret (F2 rfl _ _ bz (cs:=D5 top b) rfl _ rfl (Z.out.row _) Tryz.underlying28 rfl (by rw[G6];exact S5)) rfl ?_;exact⟨rfl,F5 G.out L1.out _⟩
theorem Db8:Ab4 Tryz.prog 141 3 1 8 (.int .i64 0):=Ab4.mk1 Tryz.underlying141 (by kernel_rfl) rfl (by decide)
abbrev Co1(l:List Nat):List Value:=l.map fun(m:Nat)=>Value.int .i64 (m:Int)
theorem Buf.base{wA wB w:World}{e:TypeId}{v:Value}{n:Nat}{xs:List Value}(h:Buf wB w e v n xs)(hb:Below wA.heap.size wA wB):Buf wA w e v n xs:=by
 obtain⟨⟨h1,h2⟩,h3⟩:=h;refine⟨⟨h1,?_⟩,hb.trans (h3.mono hb.size)⟩;rcases h2 with h2 | ⟨g,cap,cur,hv,hg,r⟩
 ·exact .inl h2
 ·exact .inr ⟨g,cap,cur,hv,Nat.le_trans hb.size hg,r⟩
theorem Ci1(b:Nat→UInt64)(lo k:Nat):(W8 b lo k).length≤k:=by
 unfold W8;refine Nat.le_trans (List.length_filter_le _ _) ?_;simp
theorem Cv5(top:Nat)(b:Nat→UInt64)(ht:top≤4611686018427387905)(w:World):
 Calls Tryz.prog 141 #[.agg (D5 top b).toArray] w fun e w'=>∃a cap,e=.returned (.slice a (W8 b (top-1024) (top-(top-1024))).length cap)∧
  Buf w w' 3 (.slice a (W8 b (top-1024) (top-(top-1024))).length cap) (W8 b (top-1024) (top-(top-1024))).length (Co1 (W8 b (top-1024) (top-(top-1024)))):=by
 have HI:=Lh S5;obtain⟨lo,hlo⟩:∃lo,lo=top-1024:=⟨_,rfl⟩;rw[←hlo];obtain⟨N,hN⟩:∃N,N=top-lo:=⟨_,rfl⟩;rw[←hN];have HLO:=Lh (show(lo:Int)=max 0 ((top:Int)-1024) by omega);have HNT:=Lh (show lo+N=top∧N≤1024 by omega);go_enter Tryz.func141,Tryz.ntmps141
 go_upto_region 1 with(fail)
 generalize hW:World.alloc w _=W;have B:=Lh (show Blk W w.heap.size (D5 top b) by rw[←hW];exact Blk.new w (D5 top b) _);have G:=Lh (show Below w.heap.size w W by rw[←hW];exact ba w _);obtain⟨bw,hbw⟩:∃x,x=w.heap.size:=⟨_,rfl⟩;rw[←hbw] at B;simp only[←hbw];clear hW hbw hlo hN;have g:W.cell? ⟨bw,0,none⟩=some (.int .i64 top):=B.out.cell 0 (by rw[G6];omega);go_wp2_with fail
 all_goals
  clear g
  go_loopw [3,4] (fun v3 v4 wx=>∃(k:Nat) (a:Option Addr) (cap:Nat),k≤N∧v4=.int .i64 ((lo+k:Nat):Int)∧v3=.slice a (W8 b lo k).length cap∧Buf W wx 3 (.slice a (W8 b lo k).length cap) (W8 b lo k).length (Co1 (W8 b lo k))) (fun _ v4 _=>top-(intOf v4).toNat)
  case atStart=>
   have h1:=HLO.out;have h2:W8 b lo 0=[]:=rfl;refine⟨0,none,0,Nat.zero_le _,?_,by rw[h2];rfl,by rw[h2];exact Buf.nil' _ (Below.refl _ _)⟩
   congr 1
   omega
  case round=>
   obtain⟨k,a,cap,hk,rfl,rfl,hB⟩:=hrel;have HB:=Lh hB;clear hB;have Bx:=Lh (HB.out.blk B.out);have g:wr.cell? ⟨bw,0,none⟩=some (.int .i64 top):=Bx.out.cell 0 (by rw[G6];omega);have hnt:=HNT.out;by_cases hlt:k<N
   ·have k1:((lo+k:Nat):Int)<(top:Int):=by omega
    have hp0:(((lo+k:Nat):Int).tmod 1024)=(((lo+k)%1024:Nat):Int):=by rw[Int.tmod_eq_emod_of_nonneg (by omega)];omega
    have hp1:IntKind.i64.wrap (((lo+k)%1024:Nat):Int)=(((lo+k)%1024:Nat):Int):=by rw[IntKind.wrap_i64];omega
    have HH:=Lh (fun W=>Bh5 top b ((lo+k)%1024) (Nat.mod_lt _ (by decide)) W);have HY:=Lh (@Db4 b lo k);have HN:=Lh (@Dx5 b lo k);have HTL:=Lh (Ci1 b lo k);have HK1:=Lh (show((lo+k:Nat):Int)+1=((lo+(k+1):Nat):Int) by omega);have HK2:=Lh (show((lo+k:Nat):Int)+1≤4611686018427387905 by omega);have HM:=Lh (show top-(lo+(k+1))<top-(lo+k) by omega);have HK3:=Lh (show k+1≤N by omega);generalize (lo+k)%1024=p at *;generalize hL:W8 b lo k=L at *;generalize hq:lo+k=q at *;clear hnt;go_wp2_with (refine Aa7 (.tmp 1) bw rfl rfl rfl Bx.out ?_)
    refine(HH.out _).mono ?_;rintro e w1 ⟨rfl,hb⟩;have HB1:=Lh (HB.out.later hb);clear HB hb g Bx;cases hbp:U6 b p with
    | true=>
      have hy:=HY.out hbp;clear HN HY;go_wp2_with (at_builtin;go_must (refine V8 (.tmp 21) (.tmp 23) 141 rfl rfl Db8 rfl (HB1.out.alloc _) (news:=[.int .i64 (q:Int)]) rfl (U4 w1 _ _) rfl (by intro u hu;rw[List.mem_singleton] at hu;subst hu;rfl) (by have:=HTL.out;have:=HNT.out;omega) (by decide) (L.length+1) rfl (Co1 (L++[q])) (by simp) ?_;intro a2 c2 w2 h2;have H2:=Lh h2;clear h2))
      refine⟨⟨k+1,a2,c2,HK3.out,?_,?_,?_⟩,?_⟩
      ·rw[←HK1.out]
      ·rw[hy,List.length_append];rfl
      ·rw[hy,List.length_append];exact H2.out
      ·simp[intOf];have:=HM.out;omega
    | false=>
      have hy:=HN.out hbp;clear HN HY;go_wp2_with fail
      refine⟨⟨k+1,a,cap,HK3.out,?_,?_,?_⟩,?_⟩
      ·rw[←HK1.out]
      ·rw[hy]
      ·rw[hy];exact HB1.out
      ·simp[intOf];have:=HM.out;omega
   ·have hkN:k=N:=by omega
    have k1:¬((lo+k:Nat):Int)<(top:Int):=by omega
    subst hkN;go_wp2_with fail
    go_ret;exact⟨a,cap,rfl,HB.out.base G.out⟩
end Go.Proofs.YtadpiemjgfndgaaGreatDoor
