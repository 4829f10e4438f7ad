/- Proved here, for use further on: MacA MacB MacC. Conditions: none but those each theorem names. -/
import Derived.Test.YtadpiemjgfndgaaGreatDoorKb00
import Derived.Test.YtadpiemjgfndgaaGreatDoorKb08
import Derived.BigQuiet
import Derived.Deep.QuietTactic
set_option linter.unusedSimpArgs false
set_option linter.unusedVariables false
set_option maxRecDepth 100000
set_option maxHeartbeats 8000000
namespace Go.Proofs.YtadpiemjgfndgaaGreatDoor
open Go.RowKit
def Bq7(k:List UInt8):List UInt8:=k++List.replicate (64-k.length) 0
def Bq8(key:List UInt8):List UInt8:=if 64<key.length then ofF key else key
def Ab8(key:List UInt8):List UInt8:=Bq7 (Bq8 key)
theorem Cp0(key:List UInt8):(Bq8 key).length≤64:=by
 unfold Bq8;split
 ·rw[Ag4];decide
 ·omega
theorem El6(k:List UInt8)(h:k.length≤64):(Bq7 k).length=64:=by simp[Bq7];omega
theorem Be0(key:List UInt8):(Ab8 key).length=64:=El6 _ (Cp0 key)
def Ad2(l:List UInt8)(b:UInt8):List UInt8:=l.map (· ^^^b)
theorem Aw8(l:List UInt8)(b:UInt8):(Ad2 l b).length=l.length:=by simp[Ad2]
def Ar5(key b:List UInt8):List UInt8:=ofF (Ad2 (Ab8 key) 92++ofF (Ad2 (Ab8 key) 54++b))
theorem Bn3(key b:List UInt8):(Ar5 key b).length=32:=Ag4 _
@[go_sem high] theorem Fd7 (t : TypeId) (a b : UInt8) : binOp .xor t (.int .u8 (bv a)) (.int .u8 (bv b)) = pure (.int .u8 (bv (a ^^^ b))) := by
 show pure (Value.int .u8 (IntKind.u8.wrap (BitVec.ofInt 8 (bv a)^^^BitVec.ofInt 8 (bv b)).toNat))=_;rw[Bm6,Bm6,Bh9 _ (BitVec.isLt _)];rfl
@[go_sem high] theorem or8 (t : TypeId) (a b : UInt8) : binOp .or t (.int .u8 (bv a)) (.int .u8 (bv b)) = pure (.int .u8 (bv (a ||| b))) := by
 show pure (Value.int .u8 (IntKind.u8.wrap (BitVec.ofInt 8 (bv a) ||| BitVec.ofInt 8 (bv b)).toNat))=_;rw[Bm6,Bm6,Bh9 _ (BitVec.isLt _)];rfl
theorem Bi3{P:Program}{ops:Array Oper}{rest:List Oper}{o:Oper}{a:Act}{w:World}{Q:Exit→Act→World→Prop}(d s:Operand)(dT sT elem:TypeId)(hgd:o.guard=Option.none)
 (ho:o.op=.call {callee:=.builtin .copy,args:=#[d,s],argTypes:=#[dT,sT]}) {dp sp:Option Addr} (dLen dCap Ao1 sCap:Nat) (hd:a.eval d=.slice dp dLen dCap) (hs:a.eval s=.slice sp Ao1 sCap)
 {b:Nat} {cs scs:List Value} (hB:Blk w b cs) (hS:At w sp scs) (hu:P.underlying dT=some (.slice elem)) (hsz:(P.info? elem).map (·.size)=some 1)
 (off n:Nat) (hl:Ao1=scs.length) (hn:n=Nat.min Ao1 dLen) (hdp:0<n→dp=some ⟨b,off,Option.none⟩) (hfit:off+n≤cs.length) (h1:∀v∈scs,v.oneCell'=true)
 (h:∀w2,Blk w2 b (cs.take off++scs.take n++cs.drop (off+n))→(∀b' ds,b'≠b→Blk w b' ds→Blk w2 b' ds)→(∀B w0,Below B w0 w→B≤b→Below B w0 w2)→wpList P ops Q rest (a.put o.dst (goInt n)) w2):
 wpList P ops Q (o::rest) a w:=by
 refine wpList_plain hgd fun K hK=>?_;obtain⟨w2,hr,h2,h3,h4⟩:=Bh8 (P:=P) hB hS (dT:=dT) (sT:=sT) (ty:=o.type) hu hsz dp off dLen dCap Ao1 sCap n hl hn hdp hfit h1;unfold Oper.wp execOp;simp only[ho,resolve,List.map_toArray,List.map_cons,List.map_nil,hd,hs,invoke,builtin,Sem.run_bind,Sem.run_pure,Result.andThen_ok,hr];exact hK _ _ (h w2 h2 h3 h4)
def Bq9:List Value:=B8s (List.replicate 64 0)
theorem Fk4(k:List UInt8)(h:k.length≤64):Bq9.take 0++(B8s k).take k.length++Bq9.drop (0+k.length)=B8s (Bq7 k):=by
 unfold Bq9 Bq7;rw[List.take_zero,List.nil_append,Nat.zero_add,List.take_of_length_le (by simp),←List.map_drop,List.drop_replicate];simp
theorem Fd8(w:World):(Instr.makeSlice 22 (.int .i64 64) (.int .i64 64)).run Tryz.prog w=.ok (.slice (some ⟨w.heap.size,0,none⟩) 64 64) (w.alloc (.cells Bq9.toArray 5)):=by
 have:=Bl2 W5 w .i64 .i64 64 (by decide) (by decide) rfl;rw[show Bq9=List.replicate 64 (.int .u8 0) from rfl];exact this
theorem Cp1(a:Option Addr)(c:Nat)(key:List UInt8)(hk:key.length≤100000)(w:World)(hkey:A4 w a key)(hks:Q5 w):
 Calls Tryz.prog 192 #[.slice a key.length c] w fun e w'=>e=.returned (.slice (some ⟨w.heap.size,0,none⟩) 64 64)∧Blk w' w.heap.size (B8s (Ab8 key))∧Below w.heap.size w w':=by
 obtain⟨Z,hZ⟩:∃Z,Z=Bq9:=⟨_,rfl⟩;have hmk:=Fd8;rw[←hZ] at hmk;have HF:=Lh Fk4;rw[←hZ] at HF;have HKey:=Lh hkey;have Hks:=Lh hks;have HOf:=Lh (fun W'=>Fd5 a key.length c key rfl (by omega) W');have HZ:=Lh (show Z.length=64 by rw[hZ];rfl);clear hkey hks hZ;by_cases h:64<key.length
 ·have hd:(64:Int)<(key.length:Int):=by omega
  have Ho:=Lh (show Ab8 key=Bq7 (ofF key) by unfold Ab8 Bq8;rw[if_pos h]);go_enter Tryz.func192,Tryz.ntmps192
  go_wp2_with fail
  generalize hW:World.alloc w _=W;have hB:Blk W w.heap.size Z:=by rw[←hW];exact Blk.new w Z _
  have hb:Below w.heap.size w W:=by rw[←hW];exact ba w _
  clear hW hmk;refine(HOf.out W (HKey.out.mono hb) (Hks.out.mono hb)).mono ?_;rintro e w2 ⟨a2,c2,rfl,hat2,hb2⟩;have hl2:(ofF key).length=32:=Ag4 key;rw[hl2];have HB2:=Lh (hB.up hb2);have Hb2:=Lh (bt hb hb2);have Hat2:=Lh hat2;have Hl2:=Lh hl2;clear hB hb hat2 hb2 hl2;go_wp2_with (refine Bi3 (.tmp 10) (.tmp 11) 22 22 5 rfl rfl 64 64 32 c2 rfl rfl HB2.out Hat2.out Tryz.underlying22 (by kernel_rfl) 0 32 (by simp[Hl2.out]) rfl (fun _=>rfl) (by rw[HZ.out];decide) (M4 _) ?_;intro w3 h3 _ h4;have H3:=Lh h3;have H4:=Lh (h4 _ _ Hb2.out (Nat.le_refl _));clear h3 h4)
  go_ret;have:=HF.out (ofF key) (by rw[Hl2.out];decide);rw[Hl2.out] at this;exact⟨rfl,by rw[Ho.out,←this];exact H3.out,H4.out⟩
 ·have hd:¬(64:Int)<(key.length:Int):=by omega
  have Ho:=Lh (show Ab8 key=Bq7 key by unfold Ab8 Bq8;rw[if_neg h]);have Hle:=Lh (show key.length≤64 by omega);go_enter Tryz.func192,Tryz.ntmps192
  go_wp2_with (refine Bi3 (.tmp 10) (.tmp 11) 22 22 5 rfl rfl 64 64 key.length c rfl rfl (Blk.new w Z _) (HKey.out.mono (ba w _)) Tryz.underlying22 (by kernel_rfl) 0 key.length (by simp) (Nat.min_eq_left Hle.out).symm (fun _=>rfl) (by rw[HZ.out,Nat.zero_add];exact Hle.out) (M4 _) ?_;intro w3 h3 _ h4;have H3:=Lh h3;have H4:=Lh (h4 _ _ (ba w (.cells Z.toArray 5)) (Nat.le_refl _));clear h3 h4)
  go_ret;exact⟨rfl,by rw[Ho.out,←HF.out key Hle.out];exact H3.out,H4.out⟩
theorem El7(u x y:UInt8):(u ||| (x^^^y)=0)↔(u=0∧x=y):=by
 constructor
 ·intro h;have h1:(u.toBitVec ||| (x.toBitVec^^^y.toBitVec))=0#8:=by rw[←UInt8.toBitVec_xor,←UInt8.toBitVec_or,h];rfl
  have h2:=BitVec.or_eq_zero_iff.1 h1;exact⟨UInt8.toBitVec_inj.1 h2.1,UInt8.toBitVec_inj.1 (BitVec.xor_eq_zero_iff.1 h2.2)⟩
 ·rintro⟨rfl,rfl⟩;simp
theorem Cp2(l m:List UInt8)(k:Nat)(hl:k<l.length)(hm:k<m.length):l.take (k+1)=m.take (k+1)↔(l.take k=m.take k∧l.getD k 0=m.getD k 0):=by
 rw[Ad1 l k hl 0,Ad1 m k hm 0];constructor
 ·intro h;have h1:=List.append_inj h (by simp[List.length_take];omega);exact⟨h1.1,by simpa using h1.2⟩
 ·rintro⟨h1,h2⟩;rw[h1,h2]
theorem Bk4(a b:Option Addr)(ca cb:Nat)(l m:List UInt8)(hll:l.length≤maxLen)(hmm:m.length≤maxLen)(w:World)(hl:A4 w a l)(hm:A4 w b m):
 Calls Tryz.prog 184 #[.slice a l.length ca,.slice b m.length cb] w fun e w'=>e=.returned (.bool (l==m))∧Below w.heap.size w w':=by
 unfold maxLen at hll hmm;have Hl:=Lh hl;have Hm:=Lh hm;clear hl hm;by_cases hne:l.length=m.length
 ·have hd:((l.length:Int) != (m.length:Int))=false:=by simp[hne]
  have Hne:=Lh hne;have hm2:m.length=l.length:=hne.symm;generalize hML:m.length=ML at *;subst hm2;have HML:=Lh hML;clear hML hne;go_enter Tryz.func184,Tryz.ntmps184
  go_wp2_with fail
  go_loopw [5,6,14] (fun v5 v6 v14 wx=>∃(k:Nat) (u:UInt8),k≤l.length∧v14=.int .i64 (k:Int)∧v5=.int .u8 (bv u)∧(u=0↔l.take k=m.take k)∧Below w.heap.size w wx) (fun _ _ v14 _=>l.length-(intOf v14).toNat)
  case atStart=>exact⟨0,0,Nat.zero_le _,rfl,rfl,by simp,Below.refl _ _⟩
  case round=>
   obtain⟨k,u,hk,rfl,rfl,hu,hb⟩:=hrel;have Hu:=Lh hu;have Hb:=Lh hb;clear hu hb;by_cases hlt:k<l.length
   ·obtain⟨ab,ao,rfl,hal,hac⟩:=Ad5 Hl.out (by omega);obtain⟨bb,bo,rfl,hbl,hbc⟩:=Ad5 Hm.out (by rw[HML.out];omega);have c0:wr.cell? ⟨ab,ao+k,none⟩=some (.int .u8 (bv (l.getD k 0))):=by rw[Hb.out.cell (p:=⟨ab,ao+k,none⟩) hal];exact hac k hlt
    have c1:wr.cell? ⟨bb,bo+k,none⟩=some (.int .u8 (bv (m.getD k 0))):=by rw[Hb.out.cell (p:=⟨bb,bo+k,none⟩) hbl];exact hbc k (by rw[HML.out];exact hlt)
    have HT:=Lh (Cp2 l m k hlt (by rw[HML.out];exact hlt));clear hac hbc;generalize l.getD k 0=x at c0 HT;generalize m.getD k 0=y at c1 HT;have hi0:(0:Int)≤(k:Int):=by omega
    have hi1:(k:Int)<(l.length:Int):=by omega
    go_wp2_with fail
    go_quiet (fail)
    go_wp2_with fail
    go_roundw
    case rel=>exact⟨k+1,u ||| (x^^^y),by omega,by go_num,rfl,by rw[El7,HT.out,Hu.out],btn Hb.out _⟩
    case measure=>simp[intOf];omega
   ·obtain rfl:k=l.length:=by omega
    have hv:(bv u==0)=(l==m):=by
     have h:=Hu.out;rw[List.take_length,List.take_of_length_le (by rw[HML.out];exact Nat.le_refl _)] at h;rw[Bool.eq_iff_iff,beq_iff_eq,beq_iff_eq,←h];exact⟨fun h=>Dv9.1 (by rw[h];rfl),fun h=>by rw[h];rfl⟩
    go_wp2_with fail
    go_ret;exact⟨rfl,Hb.out⟩
 ·have hd:((l.length:Int) != (m.length:Int))=true:=by simp;omega
  have hv:(l==m)=false:=beq_eq_false_iff_ne.2 fun h=>hne (by rw[h]);rw[hv];clear hne hv;go_enter Tryz.func184,Tryz.ntmps184
  go_wp2_with fail
  go_ret;exact⟨rfl,Below.refl _ _⟩
def Aq7(w:World)(D:List UInt8)(e:Ending)(w':World):Prop:=∃b cb,e=.returned (.slice b 32 cb)∧(32≤cb∧cb≤maxLen)∧A4 w' b D∧Below w.heap.size w w'
theorem Dd4{w:World}{l D:List UInt8}(hl:l=D)(h32:D.length=32){e:Ending}{w':World}(h:Ay7 w l e w'):Aq7 w D e w':=by
 subst hl;obtain⟨a,c,h1,h2,h3⟩:=h;obtain⟨_,_,h4,h5,h6⟩:=U6 h2;cases h4
 exact⟨a,c,by rw[h1,h32],⟨h32▸h5,h6⟩,Ar2 h2,h3⟩
abbrev HsC(X:List UInt8)(a:Option Addr)(c:Nat):List Value:=O3 (Al4 iv X) (X.length:Int) a (Aa4 X).length c
def Cm3(w:World)(X:List UInt8)(e:Ending)(w':World):Prop:=∃a c,e=.returned (.agg (HsC X a c).toArray)∧A4 w' a (Aa4 X)∧Below w.heap.size w w'
theorem Cp3(X m:List UInt8)(a b:Option Addr)(c cb:Nat)(hsz:X.length+m.length≤100000)(w:World)(hl:A4 w a (Aa4 X))(hm:A4 w b m)(hk:Q5 w):
 Calls Tryz.prog 194 #[.agg (HsC X a c).toArray,.slice b m.length cb] w (Cm3 w (X++m)):=
 (Fd6 (Al4 iv X) X.length a b c cb X (Aa4 X) m (Aq1 X) rfl hsz w hl hm hk).mono fun e w' ⟨a',c',h1,h2,h3,_⟩=>
   ⟨a',c',by rw[h1,El3,Co9,←List.length_append],by rw[←Co9];exact h2,h3⟩
theorem Ci9(XM X m:List UInt8)(hXM:XM=X++m)(a b:Option Addr)(c cb:Nat)(hsz:X.length+m.length≤100000)(w:World)(hl:A4 w a (Aa4 X))(hm:A4 w b m)(hk:Q5 w):
 Calls Tryz.prog 194 #[.agg (HsC X a c).toArray,.slice b m.length cb] w (Cm3 w XM):=by
 subst hXM;exact Cp3 X m a b c cb hsz w hl hm hk
theorem Fd9(X:List UInt8)(a:Option Addr)(c:Nat)(hsz:X.length≤100000)(w:World)(hl:A4 w a (Aa4 X))(hk:Q5 w):
 Calls Tryz.prog 196 #[.agg (HsC X a c).toArray] w (Aq7 w (ofF X)):=
 (Cf2 (Al4 iv X) X.length a c (Aa4 X) (by omega) (Aq1 X) w hl hk).mono fun _ _ h=>Dd4 rfl (Ag4 X) h
theorem El8(X:List UInt8)(h:X.length%64=0):Aa4 X=[]:=List.eq_nil_of_length_eq_zero (by rw[Aq1,h])
theorem Dd5(X:List UInt8)(a:Option Addr)(c:Nat)(hsz:X.length≤100000)(w:World)(hl:A4 w a (Aa4 X))(hk:Q5 w):
 Calls Tryz.prog 196 #[.agg (HsC X a c).toArray] w (Ay7 w (ofF X)):=
 Cf2 (Al4 iv X) X.length a c (Aa4 X) (by omega) (Aq1 X) w hl hk
theorem Cj0(k:List UInt8)(b:UInt8)(i:Nat)(h:i<k.length):Ad2 (k.take (i+1)) b=Ad2 (k.take i) b++[k.getD i 0^^^b]:=by
 rw[Ad1 k i h 0];simp[Ad2]
def Av4(k:List UInt8)(b:UInt8)(i:Nat):List Value:=B8s (Ad2 (k.take i) b)++List.replicate (64-i) (.int .u8 0)
theorem Dy4(k:List UInt8)(b:UInt8)(i:Nat)(hk:k.length=64)(h:i<64):(Av4 k b i).set i (.int .u8 (bv (k.getD i 0^^^b)))=Av4 k b (i+1):=by
 unfold Av4;rw[Cy8 _ _ _ 64 i (by rw[List.length_map,Aw8,List.length_take];omega) h,Cj0 k b i (by omega)];simp
theorem Dy5(k:List UInt8)(b:UInt8)(i:Nat)(hk:k.length=64)(h:i≤64):(Av4 k b i).length=64:=by
 simp[Av4,Aw8];omega
theorem Dd6(k:List UInt8)(b:UInt8):Av4 k b 0=Bq9:=by
 unfold Av4;rfl
theorem Dy6(k:List UInt8)(b:UInt8)(hk:k.length=64):Av4 k b 64=B8s (Ad2 k b):=by
 unfold Av4;rw[List.take_of_length_le (by omega)];simp
theorem Dd7(by_:UInt8)(kb:Nat)(ka:Option Addr)(k:List UInt8)(hk:k.length=64)(w:World)(hc:w.cell? ⟨kb,0,none⟩=some (.slice ka 64 64))(hkl:kb<w.heap.size)(hka:A4 w ka k)(hks:Q5 w):
 Calls Tryz.prog 193 #[.int .u8 (bv by_),.pointer (some ⟨kb,0,none⟩)] w (Cm3 w (Ad2 k by_)):=by
 have HK:=Lh hka;have Hks:=Lh hks;have Hk:=Lh hk;have HI:=Lh (show(Tryz.prog.info? 210).map (·.size)=some 10 by kernel_rfl);obtain⟨Z,hZ⟩:∃Z,Z=Bq9:=⟨_,rfl⟩;have hmk:=Fd8;rw[←hZ] at hmk;have HZ:=Lh (show Z=Av4 k by_ 0 by rw[hZ,Dd6]);clear hka hks hk hZ;go_enter Tryz.func193,Tryz.ntmps193
 go_wp2_with fail
 generalize hW:World.alloc (World.alloc w _) _=W;have hB0:Blk W w.heap.size (O3 ⟨0,0,0,0,0,0,0,0⟩ 0 none 0 0):=by rw[←hW];exact(Blk.new w (O3 ⟨0,0,0,0,0,0,0,0⟩ 0 none 0 0) _).alloc _
 have hB1:Blk W (w.heap.size+1) (Av4 k by_ 0):=by rw[←hW,HZ.out];exact Bq3 (I9 w _).symm _ _
 have hb:Below w.heap.size w W:=by rw[←hW];exact bta (ba w _) _
 clear hW hmk HZ
 go_loopw [5,6,10] (fun v5 v6 v10 wx=>∃i:Nat,i≤64∧v10=.int .i64 (i:Int)∧Blk wx w.heap.size (O3 ⟨0,0,0,0,0,0,0,0⟩ 0 none 0 0)∧Blk wx (w.heap.size+1) (Av4 k by_ i)∧Below w.heap.size w wx) (fun _ _ v10 _=>64-(intOf v10).toNat)
 case atStart=>exact⟨0,Nat.zero_le _,rfl,hB0,hB1,hb⟩
 case round=>
  clear hB0 hB1 hb;obtain⟨i,hi,rfl,hB0,hB1,hb⟩:=hrel;have HB0:=Lh hB0;have HB1:=Lh hB1;have Hb:=Lh hb;by_cases hlt:i<64
  ·obtain⟨ab,ao,rfl,hal,hac⟩:=Ad5 HK.out (by rw[Hk.out];decide);have c0:wr.cell? ⟨ab,ao+i,none⟩=some (.int .u8 (bv (k.getD i 0))):=by rw[hb.cell (p:=⟨ab,ao+i,none⟩) hal];exact hac i (by rw[Hk.out];exact hlt)
   have HS:=Lh (Dy4 k by_ i Hk.out hlt);have c1:=hB1.cell i (by rw[Dy5 k by_ i Hk.out hi];exact hlt);have fz:=hB1.frozen;clear hac hB0 hB1 hb;generalize k.getD i 0=x at c0 HS;go_wp2_with fail
   go_roundw
   case rel=>exact⟨i+1,by omega,by go_num,HB0.out.other _ (by simp) _,by rw[←HS.out];exact HB1.out.set i _,Hb.out.setCell (by simp) _⟩
   case measure=>simp[intOf];omega
  ·obtain rfl:i=64:=by omega
   rw[Dy6 k by_ Hk.out] at HB1;have Hx:=Lh (show(Ad2 k by_).length=64 by rw[Aw8,Hk.out]);have HP:=Lh (fun(W':World)=>Cp3 [] (Ad2 k by_) none (some ⟨w.heap.size+1,0,none⟩) 0 64 (by rw[Hx.out];decide) W' (.inl rfl));rw[Hx.out,List.nil_append] at HP;generalize hXe:Ad2 k by_=X at HP HB1 Hx;have HXe:=Lh hXe;clear hXe;clear hB0 hB1 hb;go_wp2_with fail
   refine(Cz3 _).mono ?_;rintro e w5 ⟨rfl,hb5⟩;have Hb5:=Lh (bt Hb.out hb5);have HB0:=Lh (HB0.out.up hb5);have HB1:=Lh (HB1.out.up hb5);clear hb5;go_wp2_with fail
   refine Calls.mono (HP.out w5 HB1.out.at (Hks.out.mono Hb5.out)) ?_;rintro e w6 ⟨a6,cp6,rfl,hat6,hb6⟩;have Hat6:=Lh hat6;have Hb6:=Lh (bt Hb5.out hb6);have HB0:=Lh (HB0.out.up hb6);clear hat6 hb6;go_wp2_with (refine I0 210 (.tmp 3) (.tmp 24) w.heap.size (old:=O3 ⟨0,0,0,0,0,0,0,0⟩ 0 none 0 0) (cs:=HsC X a6 cp6) rfl rfl rfl rfl HB0.out HI.out rfl rfl ?_)
   refine bodyPost_ret (v:=.agg (HsC X a6 cp6).toArray) (J9 rfl _ _ w.heap.size rfl (HB0.out.row _) Tryz.underlying210 rfl HI.out) rfl ?_;rw[HXe.out];exact⟨a6,cp6,rfl,.inl (by rw[El8 X (by rw[Hx.out])];rfl),F6 Hb6.out (Nat.le_refl _) _⟩
theorem Cj1(by_:UInt8)(n:Int)(hn:n=bv by_)(kb:Nat)(ka:Option Addr)(K:List UInt8)(hK:K.length=64)(w w':World)(hc:w.cell? ⟨kb,0,none⟩=some (.slice ka 64 64))(hkl:kb<w.heap.size)(hka:A4 w ka K)(hks:Q5 w)(hb:Below w.heap.size w w'):
 Calls Tryz.prog 193 #[.int .u8 n,.pointer (some ⟨kb,0,none⟩)] w' (Cm3 w' (Ad2 K by_)):=by
 subst hn;exact Dd7 by_ kb ka K hK w' (by rw[hb.cell (p:=⟨kb,0,none⟩) hkl];exact hc) (Nat.lt_of_lt_of_le hkl hb.size) (hka.mono hb) (hks.mono hb)
theorem Dd8(a b:Option Addr)(c cb:Nat)(key m:List UInt8)(hk:key.length≤100000)(hm:m.length≤90000)(w:World)(hkey:A4 w a key)(hb:A4 w b m)(hks:Q5 w):
 Calls Tryz.prog 167 #[.slice a key.length c,.slice b m.length cb] w (Ay7 w (Ar5 key m)):=by
 have HKey:=Lh hkey;have Hm:=Lh hb;have Hks:=Lh hks;have HK:=Lh (Be0 key);have HX:=Lh (show(Ad2 (Ab8 key) 54).length=64 by rw[Aw8,Be0]);have HY:=Lh (show(Ad2 (Ab8 key) 92).length=64 by rw[Aw8,Be0]);have HTg:=Lh (show Ar5 key m=ofF (Ad2 (Ab8 key) 92++ofF (Ad2 (Ab8 key) 54++m)) from rfl);have HB:=Lh (Cp1 a c key hk w hkey hks);clear hkey hb hks;go_enter Tryz.func167,Tryz.ntmps167
 go_wp2_with fail
 refine HB.out.mono ?_;rintro e w2 ⟨rfl,hB2,hb2⟩;have H2:=Lh (Blk.at hB2);have Hb2:=Lh hb2;generalize (some ⟨w.heap.size,0,none⟩:Option Addr)=ka at H2 ⊢;clear hB2 hb2 HB;go_upto_region 2 with(fail)
 generalize hW:World.alloc w2 _=W;have hcb:Blk W w2.heap.size [.slice ka 64 64]:=by rw[←hW];exact Blk.new w2 [.slice ka 64 64] _
 have hbW:Below w.heap.size w W:=by rw[←hW];exact bt Hb2.out (ba w2 _)
 have hat:A4 W ka (Ab8 key):=by rw[←hW];exact At.mono H2.out (ba w2 _)
 generalize w2.heap.size=kb at hcb ⊢;have HbW:=Lh hbW;have HT:=Lh (Cj1 92 92 rfl kb ka (Ab8 key) HK.out W W (hcb.cell 0 Nat.zero_lt_one) hcb.lt hat (Hks.out.mono hbW) (Below.refl _ _));have HU:=Lh (fun W' (h:Below W.heap.size W W')=>Cj1 54 54 rfl kb ka (Ab8 key) HK.out W W' (hcb.cell 0 Nat.zero_lt_one) hcb.lt hat (Hks.out.mono hbW) h);clear hW hcb hbW hat
 generalize Ad2 (Ab8 key) 92=Y at HT HY HTg;generalize Ad2 (Ab8 key) 54=X at HU HX HTg;go_wp2_with fail
 refine HT.out.mono ?_;rintro e w3 ⟨a3,c3,rfl,hat3,hb3⟩;have Hb3:=Lh hb3;have Hat3:=Lh hat3;clear hb3 hat3;go_wp2_with fail
 refine(HU.out _ Hb3.out).mono ?_;rintro e w4 ⟨a4,c4,rfl,hat4,hb4⟩;have Hb4:=Lh (bt HbW.out (bt Hb3.out hb4));have Hat4:=Lh hat4;have Hat3:=Lh (Hat3.out.mono hb4);clear hb4 hat4;go_wp2_with fail
 obtain⟨XM,hXM⟩:∃XM,XM=X++m:=⟨_,rfl⟩;have HXl:=Lh (show XM.length≤100000 by rw[hXM,List.length_append,HX.out];omega);rw[←hXM] at HTg;have HXM:=Lh hXM;clear hXM;refine(Ci9 XM X m HXM.out a4 b c4 cb (by rw[HX.out];omega) w4 Hat4.out (Hm.out.mono Hb4.out) (Hks.out.mono Hb4.out)).mono ?_;rintro e w5 ⟨a5,c5,rfl,hat5,hb5⟩;have Hat5:=Lh hat5;have Hat3:=Lh (Hat3.out.mono hb5);have Hb5:=Lh (bt Hb4.out hb5);clear hb5 hat5;go_wp2_with fail
 refine(Fd9 XM a5 c5 HXl.out w5 Hat5.out (Hks.out.mono Hb5.out)).mono ?_;rintro e w6 ⟨a6,c6,rfl,-,hat6,hb6⟩;have Hat6:=Lh hat6;have Hat3:=Lh (Hat3.out.mono hb6);have Hb6:=Lh (bt Hb5.out hb6);have Hl:=Lh (Ag4 XM);clear hb6 hat6;generalize ofF XM=D at Hl HTg Hat6;obtain⟨YM,hYM⟩:∃YM,YM=Y++D:=⟨_,rfl⟩;have HYl:=Lh (show YM.length≤100000 by rw[hYM,List.length_append,HY.out,Hl.out];decide);have HP:=Lh (Ci9 YM Y D hYM a3 a6 c3 c6 (by rw[HY.out,Hl.out];decide) w6 Hat3.out Hat6.out (Hks.out.mono Hb6.out));rw[Hl.out] at HP;rw[←hYM] at HTg;clear hYM;go_wp2_with fail
 refine HP.out.mono ?_;rintro e w7 ⟨a7,c7,rfl,hat7,hb7⟩;have Hat7:=Lh hat7;have Hb7:=Lh (bt Hb6.out hb7);clear hb7 hat7;go_wp2_with fail
 refine(Dd5 YM a7 c7 HYl.out w7 Hat7.out (Hks.out.mono Hb7.out)).mono ?_;rintro e w8 ⟨a8,c8,rfl,hown8,hb8⟩;have Hown8:=Lh (Aw7 hown8 Hb7.out.size);clear hown8;go_wp2_with fail
 go_ret;rw[HTg.out];exact⟨a8,c8,rfl,Hown8.out,bt Hb7.out hb8⟩
theorem Ca5(a b:Option Addr)(c cb:Nat)(key m:List UInt8)(hk:key.length≤100000)(hm:m.length≤90000)(w:World)(hkey:A4 w a key)(hb:A4 w b m)(hks:Q5 w):
 Calls Tryz.prog 167 #[.slice a key.length c,.slice b m.length cb] w (Aq7 w (Ar5 key m)):=
 (Dd8 a b c cb key m hk hm w hkey hb hks).mono fun _ _ h=>Dd4 rfl (Bn3 key m) h
theorem Bi4(b:Option Addr)(cb:Nat)(m:List UInt8)(hsz:m.length≤2147483647)(w:World)(hm:A4 w b m):
 Calls Tryz.prog 117 #[.slice b m.length cb] w (Ay7 w (ofF m)):=by
 have Hm:=Lh hm;clear hm;go_enter Tryz.func117,Tryz.ntmps117
 go_wp2_with fail
 refine(Dc8 _).mono ?_;rintro e w1 ⟨rfl,hb1⟩;go_wp2_with fail
 refine(Dd3 b m.length cb m rfl hsz _ (At.mono Hm.out hb1)).mono ?_;rintro e w2 ⟨a2,c2,rfl,hat2,hb2⟩;have hb12:=bt hb1 hb2;have hS:=Dd2 (Al4 iv m) m.length a2 c2 (Aa4 m) (by omega) (Aq1 m) w2 hat2;go_wp2_with fail
 refine hS.mono ?_;rintro e w3 ⟨a3,c3,rfl,hown3,hb3⟩;go_wp2_with fail
 go_ret;exact⟨a3,c3,rfl,Aw7 hown3 hb12.size,bt hb12 hb3⟩
structure V8 (w0 w:World) (v:Value) (l:List UInt8):Prop where
 own:w.ownsRow w0.heap.size 5 1 v l.length (B8s l)
 bel:Below w0.heap.size w0 w
theorem V8.buf{w0 w:World}{v:Value}{l:List UInt8}(h:V8 w0 w v l):Buf w0 w 5 v l.length (B8s l):=⟨h.own,h.bel⟩
theorem V8.of{w0 w:World}{v:Value}{l:List UInt8}{n:Nat}(hn:n=l.length)(h:Buf w0 w 5 v n (B8s l)):V8 w0 w v l:=by subst hn;exact⟨h.own,h.bel⟩
theorem V8.at{w0 w:World}{a:Option Addr}{n c:Nat}{l:List UInt8}(h:V8 w0 w (.slice a n c) l):A4 w a l:=by
 obtain⟨_,_,h1,_,_⟩:=U6 h.own;cases h1;exact Ar2 h.own
theorem V8.slice{w0 w:World}{v:Value}{l:List UInt8}(h:V8 w0 w v l):∃a c,v=.slice a l.length c:=by
 obtain⟨a,c,h1,_,_⟩:=U6 h.own;exact⟨a,c,h1⟩
theorem Ag5{ops:Array Oper}{rest:List Oper}{o:Oper}{a:Act}{w:World}{Q:Exit→Act→World→Prop}(s x:Operand)(hgd:o.guard=Option.none)
 (ho:o.op=.call {callee:=.builtin .append,args:=#[s,x],argTypes:=#[22,22]}) {w0:World} {v:Value} {l:List UInt8} (hs:a.eval s=v) (hB:V8 w0 w v l)
 {sp:Option Addr} {m c:Nat} (news:List UInt8) (hx:a.eval x=.slice sp m c) (hS:A4 w sp news) (hl:m=news.length) (h63:l.length+m≤140737488355328) (l2:List UInt8) (hl2:l2=l++news)
 (h:∀a' cap' w',V8 w0 w' (.slice a' l2.length cap') l2→wpList Tryz.prog ops Q rest (a.put o.dst (.slice a' l2.length cap')) w'):wpList Tryz.prog ops Q (o::rest) a w:=by
 subst hl2;subst hl;refine Y7 s x 22 hgd ho W5 hs hB.buf hx hS (by simp) (M4 news) (by omega) (by decide) (l++news).length (by simp) (B8s (l++news)) (by simp) fun a' cap' w' hb=>h a' cap' w' (V8.of rfl hb)
theorem Cp4(k:List UInt8)(j:Nat):k++List.replicate j (0:UInt8)++[0]=k++List.replicate (j+1) 0:=Ek9 j k
theorem Cp5(a:Option Addr)(c:Nat)(key:List UInt8)(hk:key.length≤100000)(w:World)(hkey:A4 w a key):
 Calls Tryz.prog 116 #[.slice a key.length c] w (Ay7 w (Ab8 key)):=by
 have HKey:=Lh hkey;have HOf:=Lh (fun W'=>Bi4 a c key (by omega) W');have hO:V8 w (w.alloc (.cells #[] 5)) (.slice (some ⟨w.heap.size,0,none⟩) 0 0) []:=V8.of rfl (Buf.made w 5 [] 0 0 (Nat.le_refl _) rfl (by decide));have HO:=Lh hO;clear hkey hO;obtain⟨K,hKd⟩:∃K,K=Bq8 key:=⟨_,rfl⟩;have HKl:=Lh (show K.length≤64 by rw[hKd];exact Cp0 key);have HKe:=Lh (show Ab8 key=Bq7 K by rw[hKd];rfl);by_cases h:64<key.length
 ·have hd:(64:Int)<(key.length:Int):=by omega
  have Hof:=Lh (show ofF key=K by rw[hKd];unfold Bq8;rw[if_pos h]);clear hKd;go_enter Tryz.func116,Tryz.ntmps116
  go_wp2_with (refine Ag5 (.tmp 4) (.tmp 5) rfl rfl rfl HO.out key rfl (HKey.out.mono (ba w _)) rfl (by simp;omega) key rfl ?_;intro a1 c1 w1 h1;have H1:=Lh h1;clear h1)
  refine(HOf.out w1 (HKey.out.mono H1.out.bel)).mono ?_;rintro e w2 ⟨a2,c2,rfl,hown2,hb2⟩;have H2:=Lh (show V8 w w2 (.slice a2 (ofF key).length c2) (ofF key) from⟨Aw7 hown2 H1.out.bel.size,bt H1.out.bel hb2⟩);clear hown2 hb2;rw[Hof.out] at H2 ⊢;clear hd h;go_wp2_with fail
  go_loopw [3] (fun v3 wx=>∃(j:Nat) (L:List UInt8) (o:Option Addr) (oc:Nat),K.length+j≤64∧L=K++List.replicate j 0∧v3=.slice o L.length oc∧V8 w wx v3 L) (fun v3 _=>64-Ao1 v3)
  case atStart=>exact⟨0,K,_,_,by have:=HKl.out;omega,by simp,rfl,H2.out⟩
  case round=>
   obtain⟨j,L,o,oc,hj,hL,rfl,hO⟩:=hrel;have HL:=Lh hL;have HO:=Lh hO;have hLl:L.length=K.length+j:=by rw[hL];simp
   have HLl:=Lh hLl;clear hL hO;by_cases hlt:L.length<64
   ·have hL64:L.length≤64:=by omega
    have HL2:=Lh (Cp4 K j);obtain⟨L2,hL2⟩:∃L2,L2=L++[0]:=⟨_,rfl⟩;have hL2l:L2.length=L.length+1:=by rw[hL2];simp
    have HL2e:=Lh hL2;have HL2l:=Lh hL2l;clear hLl hL2 hL2l;go_wp2_with (refine Ag5 (.tmp 15) (.tmp 16) rfl rfl rfl (V8.of rfl (HO.out.buf.alloc _)) [0] rfl (U7 wr (B8s [0]) _) rfl (by omega) L2 HL2e.out ?_;intro a4 c4 w4 h4;have H4:=Lh h4;clear h4)
    exact⟨⟨j+1,L2,a4,c4,by have:=HLl.out;omega,by rw[HL2e.out,HL.out];exact HL2.out,rfl,H4.out⟩,by have:=HL2l.out;simp only[Ao1];omega⟩
   ·have h64:j=64-K.length:=by omega
    have hE:=Lh (show L=Ab8 key by rw[HL.out,h64,HKe.out];rfl);have hge:(64:Int)≤(L.length:Int):=by omega
    clear hLl h64 hlt;go_wp2_with fail
    go_ret;rw[←hE.out];exact⟨o,oc,rfl,HO.out.own,HO.out.bel⟩
 ·have hd:¬(64:Int)<(key.length:Int):=by omega
  have hKk:K=key:=by rw[hKd];unfold Bq8;rw[if_neg h]
  subst hKk;clear hKd;go_enter Tryz.func116,Tryz.ntmps116
  go_wp2_with (refine Ag5 (.tmp 4) (.tmp 5) rfl rfl rfl HO.out K rfl (HKey.out.mono (ba w _)) rfl (by simp;omega) K rfl ?_;intro a1 c1 w1 h1;have H2:=Lh h1;clear h1)
  go_loopw [3] (fun v3 wx=>∃(j:Nat) (L:List UInt8) (o:Option Addr) (oc:Nat),K.length+j≤64∧L=K++List.replicate j 0∧v3=.slice o L.length oc∧V8 w wx v3 L) (fun v3 _=>64-Ao1 v3)
  case atStart=>exact⟨0,K,_,_,by have:=HKl.out;omega,by simp,rfl,H2.out⟩
  case round=>
   obtain⟨j,L,o,oc,hj,hL,rfl,hO⟩:=hrel;have HL:=Lh hL;have HO:=Lh hO;have hLl:L.length=K.length+j:=by rw[hL];simp
   have HLl:=Lh hLl;clear hL hO;by_cases hlt:L.length<64
   ·have hL64:L.length≤64:=by omega
    have HL2:=Lh (Cp4 K j);obtain⟨L2,hL2⟩:∃L2,L2=L++[0]:=⟨_,rfl⟩;have hL2l:L2.length=L.length+1:=by rw[hL2];simp
    have HL2e:=Lh hL2;have HL2l:=Lh hL2l;clear hLl hL2 hL2l;go_wp2_with (refine Ag5 (.tmp 15) (.tmp 16) rfl rfl rfl (V8.of rfl (HO.out.buf.alloc _)) [0] rfl (U7 wr (B8s [0]) _) rfl (by omega) L2 HL2e.out ?_;intro a4 c4 w4 h4;have H4:=Lh h4;clear h4)
    exact⟨⟨j+1,L2,a4,c4,by have:=HLl.out;omega,by rw[HL2e.out,HL.out];exact HL2.out,rfl,H4.out⟩,by have:=HL2l.out;simp only[Ao1];omega⟩
   ·have h64:j=64-K.length:=by omega
    have hE:=Lh (show L=Ab8 K by rw[HL.out,h64,HKe.out];rfl);have hge:(64:Int)≤(L.length:Int):=by omega
    clear hLl h64 hlt;go_wp2_with fail
    go_ret;rw[←hE.out];exact⟨o,oc,rfl,HO.out.own,HO.out.bel⟩
end Go.Proofs.YtadpiemjgfndgaaGreatDoor
