/- Proved here, for use further on: LgO InV7. Conditions: none but those each theorem names. -/
import Derived.Test.YtadpiemjgfndgaaGreatDoorKh00
import Derived.Test.YtadpiemjgfndgaaGreatDoorKh25
import Derived.Test.YtadpiemjgfndgaaGreatDoorKh26
import Derived.Test.YtadpiemjgfndgaaGreatDoorKh21
set_option linter.unusedSimpArgs false
set_option linter.unusedVariables false
set_option maxRecDepth 100000
set_option maxRecDepth 100000
set_option maxHeartbeats 8000000
namespace Go.Proofs.YtadpiemjgfndgaaGreatDoor
open Go.RowKit
@[go_sem high] theorem Fh2 (t : TypeId) (a b : UInt8) : binOp .xor t (.int .u8 (bv a)) (.int .u8 (bv b)) = pure (.int .u8 (bv (a ^^^ b))) := by
 show pure (Value.int .u8 (IntKind.u8.wrap (BitVec.ofInt 8 (bv a)^^^BitVec.ofInt 8 (bv b)).toNat))=_;rw[Av2,Av2,Ax6 _ (BitVec.isLt _)];rfl
theorem Ez3{w0 w:World}{a:Option Addr}{n c:Nat}{l:List UInt8}(h:Q9 w0 w (.slice a n c) l)(I:Nat)(hI:I<l.length):
 ∃g,a=some ⟨g,0,none⟩∧w0.heap.size≤g∧w.cell? ⟨g,I,none⟩=some (.int .u8 (bv (l.getD I 0)))∧w.frozen? ⟨g,I,none⟩=false∧∀y,A4 (w.setCell ⟨g,I,none⟩ (.int .u8 (bv y))) (some ⟨g,0,none⟩) (l.set I y):=by
 rcases h.own.2 with⟨h1,h2⟩ | ⟨g,cap,cur,hv,hg,hh,h3,h4,h5,h6⟩
 ·have h0:l=[]:=by simpa using h2
  rw[h0] at hI;simp at hI
 ·cases hv
  have hB:Blk w g cur.toList:=⟨_,by rw[hh]⟩;have h6':cur.toList.take l.length=B8s l:=by simpa using h6
  have hlen:l.length≤cur.toList.length:=by
   have:=congrArg List.length h6';simp only[List.length_take,List.length_map] at this;omega
  have hget:∀i,i<l.length→cur.toList.getD i undef=.int .u8 (bv (l.getD i 0)):=fun i hi=>by
   rw[←Bf9 l i hi,←h6'];simp[List.getD,List.getElem?_take,hi]
  refine⟨g,rfl,hg,by rw[hB.cell I (by omega),hget I hI],hB.frozen I,fun y=>?_⟩;have hB2:=hB.set I (.int .u8 (bv y));refine .inr ⟨g,0,rfl,hB2.lt,fun i hi=>?_⟩;have hi':i<l.length:=by simpa using hi
  rw[Nat.zero_add,hB2.cell i (by simp;simp at hlen;omega),Bf9 _ i (by simpa using hi')];by_cases hiI:i=I
  ·subst hiI;have e1:(cur.toList.set i (Value.int .u8 (bv y))).getD i undef=.int .u8 (bv y):=by
    rw[List.getD,List.getElem?_set_self (by omega)];rfl
   have e2:(l.set i y).getD i 0=y:=by rw[List.getD,List.getElem?_set_self hi'];rfl
   rw[e1,e2]
  ·have h7:=hget i hi';have e1:(cur.toList.set I (Value.int .u8 (bv y))).getD i undef=cur.toList.getD i undef:=by
    rw[List.getD,List.getD,List.getElem?_set_ne (Ne.symm hiI)]
   have e2:(l.set I y).getD i 0=l.getD i 0:=by rw[List.getD,List.getD,List.getElem?_set_ne (Ne.symm hiI)]
   rw[e1,e2,h7]
theorem El4{x y:UInt8}(h:x^^^y=x):y=0:=by
 have h2:=congrArg (x^^^·) h
 simpa [←UInt8.xor_assoc] using h2
theorem Ea5(R:List UInt8)(I:Nat)(y:UInt8)(hI:I<R.length)(hy:y≠0):R.set I (R.getD I 0^^^y)≠R:=by
 intro e;have h2:=congrArg (fun l=>l.getD I 0) e;have h3:R.getD I 0^^^y=R.getD I 0:=by simpa [List.getD,hI] using h2
 exact hy (El4 h3)
theorem Et4(T:Sv)(w:World):(Instr.build 51 #[(0,.agg (A7 T.e).toArray),(1,.agg ([.bool T.i,.slice T.ta T.es.length T.tc,.bool T.f]:List Value).toArray)]).run Tryz.prog w=.ok (.agg (A6 T).toArray) w:=by kernel_rfl
theorem Ca5{ops:Array Oper}{rest:List Oper}{o:Oper}{a:Act}{w:World}{Q:Exit→Act→World→Prop}(x y:Operand)(hgd:o.guard=Option.none)(ho:o.op=.build 51 #[(0,x),(1,y)])(T:Sv)(hx:a.eval x=.agg (A7 T.e).toArray)(hy:a.eval y=.agg ([.bool T.i,.slice T.ta T.es.length T.tc,.bool T.f]:List Value).toArray)
 (h:wpList Tryz.prog ops Q rest (a.put o.dst (.agg (A6 T).toArray)) w):wpList Tryz.prog ops Q (o::rest) a w:=by
 refine wpList_plain hgd fun K hK=>?_;unfold Oper.wp execOp;simp only[ho,List.map_toArray,List.map_cons,List.map_nil,hx,hy,Sem.run_bind,Et4,Result.andThen_ok];exact hK _ _ h
theorem Dn4{s S:Sv}{bl:List UInt8}{c:Nat}{ta:Option Addr}{tc:Nat}{oa:Option Addr}{oc:Nat}(h:Cf7 s bl S c ta tc oa oc)(hi:s.i=false)(hf:s.f=false)(hes:s.es=[])(x:List UInt8)(hx:x≠Ak0 s bl):
 ((Q4 (Ax4 s S) x).2 != 0)=!(Q4 (Ax4 s S) x).1.f∧(Q4 (Ax4 s S) x).1.es.length=1:=by
 refine Cq8 (K:=s.e.kc) (I:=Ap5 s bl) ?_ ?_ ?_ hx rfl rfl
 ·rw[h.eq];exact hi
 ·rw[h.eq];exact hf
 ·rw[h.eq];show Al0 s.es s.e.kc (Ap5 s bl)=_;rw[hes];rfl
theorem Et5(a b:UInt8)(l:List UInt8)(i:Nat)(x:UInt8):(a::b::l).set (2+i) x=a::b::l.set i x:=by
 rw[Nat.add_comm];rfl
theorem El5(a b:UInt8)(l:List UInt8)(i:Nat):(a::b::l).getD (2+i) 0=l.getD i 0:=by
 rw[Nat.add_comm];rfl
def Bk5(s:Sv)(ya:Option Addr)(bn yc:Nat)(at_:Nat)(by_:UInt8):List Value:=A6 s++[.slice ya bn yc,.int .u16 at_,.int .u8 (bv by_)]
theorem Cn6{s:Sv}{ya:Option Addr}{bn yc at_:Nat}{by_:UInt8}{w:World}{b:Nat}{T:TypeId}(h:A5 T w b (Bk5 s ya bn yc at_ by_)):
 w.rangeAt b 0 (A6 s)∧w.cell? ⟨b,73,none⟩=some (.slice ya bn yc)∧w.cell? ⟨b,74,none⟩=some (.int .u16 at_)∧w.cell? ⟨b,75,none⟩=some (.int .u8 (bv by_)):=by
 have hl:(Bk5 s ya bn yc at_ by_).length=76:=by unfold Bk5;rw[List.length_append,D6];rfl
 refine⟨fun j v hj=>?_,h.blk.cell 73 (by rw[hl];decide),h.blk.cell 74 (by rw[hl];decide),h.blk.cell 75 (by rw[hl];decide)⟩;have hjl:j<73:=by have:=(List.getElem?_eq_some_iff.1 hj).1;rwa [D6] at this
 rw[Nat.zero_add,h.blk.cell j (by rw[hl];omega)];unfold Bk5;rw[List.getD_eq_getElem?_getD,List.getElem?_append_left (by rw[D6];exact hjl),hj];rfl
theorem Ca6(s0:Sv)(ya:Option Addr)(yc:Nat)(bl:List UInt8)(at_:Nat)(by_:UInt8)(hat:at_<65536)(w:World)(h:Ah8 w s0)(hc:bl.length≤yc∧yc≤maxLen)(hbl:A4 w ya bl)(hks:L9 w):
 Calls Tryz.prog 8 #[.agg (Bk5 s0 ya bl.length yc at_ by_).toArray] w (F7 w true):=by
 have HK:=Lh hks;have SS:=Lh (show ∀S:Sv,(Tryz.prog.info? 51).map (·.size)=some (A6 S).length from fun S=>by rw[D6];exact O2);have SE:=Lh (show ∀E:Ev,(Tryz.prog.info? 46).map (·.size)=some (A7 E).length from fun E=>by rw[D8];exact M5);have HA:=Lh (show Ah8 w (s0.l_p false false none 0 []) from⟨h.e,W8.nil w none,⟨Nat.le_refl _,Nat.zero_le _⟩⟩);have HB:=Lh hbl;have HC:=Lh hc;have HT:=Lh hat
 clear h hbl hc hks hat
 go_enter Tryz.func8,Tryz.ntmps8
 go_upto_region 1 with(fail)
 generalize hW:World.alloc w _=W;have B1:=Lh (show A5 97 W w.heap.size (Bk5 s0 ya bl.length yc at_ by_) by rw[←hW];exact A5.new w (Bk5 s0 ya bl.length yc at_ by_) _);have G:=Lh (show Below w.heap.size w W by rw[←hW];exact ba w _);clear hW;have L0:=Lh (Nat.le_refl w.heap.size);generalize hn1:w.heap.size=n1 at B1 ⊢;clear hn1;have r1:=Lh (Cn6 B1.out).1;have LG3:=Lh G.out.size;go_upto_region 2 with(first
  | (refine I0 51 (.tmp 17) rfl ?_;refine D7 51 (.tmp 17) n1 0 (by first | rfl | (simp[Region.wanted,yielded];done) | kernel_rfl) rfl rfl r1.out Tryz.underlying51 rfl (SS.out _) ?_)
  | (refine D9 51 (.tmp 3) (.tmp 18) rfl ?_;refine G9 51 (.tmp 3) (.tmp 18) _ (cs:=A6 s0) rfl rfl rfl rfl (A5.new _ I2 _) (SS.out _) (by rw[J2,D6]) (K7 _) ?_;intro wz hBn hK;have hh:=hK.below (ba _ _) (Nat.le_refl _);have B3:=Lh hBn;replace B1:=Lh (B1.out.up hh);replace G:=Lh (bt G.out hh);clear hBn hK hh))
 generalize W.heap.size=n3 at B3 LG3 ⊢;clear r1 L0;obtain⟨-,y1,y2,y3⟩:=Cn6 B1.out;go_upto_region 5 with(fail)
 clear y1 y2 y3 B1;go_wp2_with fail
 refine(Cq7 _ (HK.out.mono G.out)).mono ?_;rintro x w3 ⟨rfl,hb⟩;replace B3:=Lh (B3.out.up hb);replace G:=Lh (bt G.out hb);clear hb;go_upto_region 6 with(fail)
 go_wp2_with fail
 refine(An3 false w3).mono ?_;rintro x w4 ⟨rfl,hb⟩;replace B3:=Lh (B3.out.up hb);replace G:=Lh (bt G.out hb);clear hb;go_upto_region 7 with(refine D9 49 (.tmp 27) (.tmp 26) rfl ?_;refine Y6 49 (.tmp 27) (.tmp 26) n3 70 (cs:=[.bool false,.slice none 0 0,.bool false]) rfl rfl rfl rfl B3.out (by rw[D6];decide) Ac3 rfl (Bf0 s0 false false none 0 []) ?_;intro w4v hB hK;replace G:=Lh (hK.below G.out LG3.out);replace B3:=Lh hB;clear hB hK)
 obtain⟨s,hs,hsi,hsf,hse⟩:∃s,s=s0.l_p false false none 0 []∧s.i=false∧s.f=false∧s.es=[]:=⟨_,rfl,rfl,rfl,rfl⟩;rw[←hs] at B3 HA;clear hs;have HI:=Lh hsi;have HF:=Lh hsf;have HE:=Lh hse;clear hsi hsf hse;have MF:=Lh (@Fd8 s);have HM:=Lh (fun(W:World) (hb:Below w.heap.size w W)=>Dm6 s W (HA.out.mono hb));generalize Ca1 s=m at HM MF;go_wp2_with (refine I0 51 (.tmp 3) rfl ?_;refine J1 51 (.tmp 3) n3 (by first | rfl | (simp[Region.wanted,yielded];done) | kernel_rfl) rfl rfl B3.out.blk Tryz.underlying51 rfl (SS.out _) ?_)
 refine(HM.out _ G.out).mono ?_;rintro x w5 ⟨rfl,hb⟩;replace B3:=Lh (B3.out.up hb);replace G:=Lh (bt G.out hb);clear hb HM;rcases m with _ | _
 ·go_wp2_with fail
  go_ret;exact⟨rfl,G.out⟩
 by_cases hl:bl.length≤900;rotate_left
 ·have d1:(900:Int)<(bl.length:Int):=by omega
  go_wp2_with fail
  go_ret;exact⟨rfl,G.out⟩
 have d1:¬(900:Int)<(bl.length:Int):=by omega
 clear hl;by_cases hy:by_=0
 ·subst hy;have d2:(bv 0==0)=true:=rfl;go_wp2_with fail
  go_ret;exact⟨rfl,G.out⟩
 have d2:(bv by_==0)=false:=by
  rw[beq_eq_false_iff_ne];intro h;exact hy (Cg1.1 (by rw[h];rfl))
 have HY:=Lh hy;clear hy;obtain⟨hr,ho,hg,hes⟩:=MF.out (by simp);have RR:=Lh hr;have HO:=Lh ho;have X1:=Lh (fun(W:World) (hb:Below w.heap.size w W)=>Bb7 s ya yc bl W (fun _=>True) (fun _ _=>trivial) ((HA.out.mono hb).toP fun _ _=>trivial) hr (by omega) (by omega) (HB.out.mono hb) (HK.out.mono hb));clear hr ho hg hes MF;go_upto_region 9 with(fail)
 clear d1 d2;go_wp2_with (refine I0 51 (.tmp 3) rfl ?_;refine J1 51 (.tmp 3) n3 (by first | rfl | (simp[Region.wanted,yielded];done) | kernel_rfl) rfl rfl B3.out.blk Tryz.underlying51 rfl (SS.out _) ?_)
 refine(X1.out _ G.out).mono ?_;rintro x w6 ⟨S,E,rfl,h1,p1,hb⟩;have R1:=Lh h1;have P1:=Lh p1;replace B3:=Lh (B3.out.up hb);replace G:=Lh (bt G.out hb);clear hb h1 p1 X1;have LG8:=Lh (G.out.size);have N38:=Lh (show n3<w6.heap.size from B3.out.blk.lt);go_upto_region 10 with(refine D9 51 (.tmp 8) (.tmp 45) rfl ?_;refine G9 51 (.tmp 8) (.tmp 45) _ (cs:=A6 S) rfl rfl rfl rfl (A5.new _ I2 _) (SS.out _) (by rw[J2,D6]) (K7 _) ?_;intro w7 hBn hK;have hh:=hK.below (ba _ _) (Nat.le_refl _);have B8:=Lh hBn;replace B3:=Lh (B3.out.up hh);replace G:=Lh (bt G.out hh);replace P1:=Lh (P1.out.mono hh);clear hBn hK hh)
 generalize w6.heap.size=n8 at B8 LG8 N38 ⊢;by_cases hE:E=0;rotate_left
 ·have b1:(E != 0)=true:=by rw[bne_iff_ne];exact hE
  clear hE;go_wp2_with fail
  go_ret;exact⟨rfl,G.out⟩
 subst hE;obtain⟨c,ta,tc,oa,oc,hS⟩:=Ea4 R1.out;have SF:=Lh hS;have FR:=Lh (Dn4 hS HI.out HF.out HE.out);have SO:=Lh (show S.e.o=s.e.o++[((c:Int),Af0 (Ak0 s bl))] by rw[hS.eq];rfl);have HSl:=Lh (show S.es.length≤900 by rw[hS.eq];show(Al0 s.es s.e.kc (Ap5 s bl)).length≤900;rw[HE.out];exact(show(1:Nat)≤900 by decide));have RT:=Lh (Dn3 RR.out hS.link);clear hS R1;have b1:((0:Int) != 0)=false:=rfl;have y8:=B8.out.blk.siteIn.o;have y3:=B3.out.blk.siteIn.o;have hlen:S.e.o.length=s.e.o.length+1:=by rw[SO.out];simp
 rw[hlen] at y8;have hw:wrap64 ((s.e.o.length:Int)+1)=((s.e.o.length+1:Nat):Int):=by have:=HO.out;unfold wrap64;omega
 have b2:(((s.e.o.length+1:Nat):Int) != wrap64 ((s.e.o.length:Int)+1))=false:=by rw[hw];simp
 go_upto_region 12 with(fail)
 clear b1 b2 hw y8 y3;have LG10:=Lh (G.out.size);have NE3:=Lh (Nat.ne_of_lt B3.out.blk.lt);have NE8:=Lh (Nat.ne_of_lt B8.out.blk.lt);have LG:=LG10;have HA7:=Lh (HA.out.mono G.out);have HK7:=Lh (HK.out.mono G.out);have q3:=Lh (show _ from B3.out.blk.atE);go_upto_region 13 with(first
  | (refine I0 46 (.tmp 66) rfl ?_;refine D7 46 (.tmp 66) n3 0 (by first | rfl | (simp[Region.wanted,yielded];done) | kernel_rfl) rfl rfl q3.out Tryz.underlying46 rfl (SE.out _) ?_)
  | (refine D9 46 (.tmp 10) (.tmp 67) rfl ?_;refine G9 46 (.tmp 10) (.tmp 67) _ (cs:=A7 s.e) rfl rfl rfl rfl (A5.new _ V4 _) (SE.out _) (by rw[D8];exact Aa9) (Ad2 _) ?_;intro wa hBn hK;have hh:=hK.below (ba _ _) (Nat.le_refl _);have B10:=Lh hBn;replace B3:=Lh (B3.out.up hh);replace B8:=Lh (B8.out.up hh);replace G:=Lh (bt G.out hh);have G2:=Lh hh;clear hBn hK hh))
 generalize hn10:w7.heap.size=n10 at B10 LG10 LG NE3 NE8 ⊢;have LG2:=Lh (Nat.le_of_eq hn10);clear hn10;clear q3 LG10;have y0:=B3.out.blk.siteIn.id;go_upto_region 14 with(refine D9 3 (.tmp 72) (.tmp 71) rfl ?_;refine O0 3 (.tmp 72) (.tmp 71) n10 0 rfl rfl rfl rfl B10.out (by rw[D8];decide) (by kernel_rfl) rfl (Bq2 _ _) ?_;intro wb hB hK;replace B10:=Lh hB;replace B3:=Lh (B3.out.kp hK NE3.out);replace B8:=Lh (B8.out.kp hK NE8.out);replace G:=Lh (hK.below G.out LG.out);replace G2:=Lh (hK.below G2.out LG2.out);clear hB hK)
 clear y0;have y0:=B3.out.blk.siteIn.oth;go_upto_region 15 with(refine D9 3 (.tmp 76) (.tmp 75) rfl ?_;refine O0 3 (.tmp 76) (.tmp 75) n10 6 rfl rfl rfl rfl B10.out (by rw[D8];decide) (by kernel_rfl) rfl (Au3 _ _) ?_;intro wc hB hK;replace B10:=Lh hB;replace B3:=Lh (B3.out.kp hK NE3.out);replace B8:=Lh (B8.out.kp hK NE8.out);replace G:=Lh (hK.below G.out LG.out);replace G2:=Lh (hK.below G2.out LG2.out);clear hB hK)
 clear y0;have y0:=B3.out.blk.siteIn.own;go_upto_region 16 with(refine D9 3 (.tmp 80) (.tmp 79) rfl ?_;refine O0 3 (.tmp 80) (.tmp 79) n10 7 rfl rfl rfl rfl B10.out (by rw[D8];decide) (by kernel_rfl) rfl (An9 _ _) ?_;intro wd hB hK;replace B10:=Lh hB;replace B3:=Lh (B3.out.kp hK NE3.out);replace B8:=Lh (B8.out.kp hK NE8.out);replace G:=Lh (hK.below G.out LG.out);replace G2:=Lh (hK.below G2.out LG2.out);clear hB hK)
 clear y0;go_upto_region 17 with(refine D9 28 (.tmp 82) (.tmp 81) rfl ?_;refine Y6 28 (.tmp 82) (.tmp 81) n10 10 (cs:=C4 0 J8) rfl rfl rfl (by kernel_rfl) B10.out (by rw[D8,D5];decide) (by kernel_rfl) (Aw1 _ _) (Bj0 _ 0 J8) ?_;intro we hB hK;replace B10:=Lh hB;replace B3:=Lh (B3.out.kp hK NE3.out);replace B8:=Lh (B8.out.kp hK NE8.out);replace G:=Lh (hK.below G.out LG.out);replace G2:=Lh (hK.below G2.out LG2.out);clear hB hK)
 replace B10:=Lh (show A5 46 we n10 (A7 (Bp2 s.e)) from B10.out);have SP:=P1.out.at.e.o;rw[SO.out] at SP;obtain⟨sb,so,pa,pc,hoa,hpc1,hpc2,hpb,-,hcell⟩:=SP.last;have RR2:=Lh (El3 (Ap4 RR.out) SF.out.link SF.out.bd SF.out.seq).1;have HRl:=Lh (show(Af0 (Ak0 s bl)).length=(Ak0 s bl).length+2 from As5 _);obtain⟨I,hI⟩:∃I,I=at_%(Ak0 s bl).length:=⟨_,rfl⟩;have hIl:I<(Ak0 s bl).length:=by have:=RR2.out.1.1;rw[hI];exact Nat.mod_lt _ (by omega)
 obtain⟨C,hC⟩:∃C,C=(Ak0 s bl).set I ((Ak0 s bl).getD I 0^^^by_):=⟨_,rfl⟩;have HCl:=Lh (show C.length=(Ak0 s bl).length by rw[hC,List.length_set]);have FC:=Lh (FR.out C (by rw[hC];exact Ea5 _ _ _ hIl HY.out));have HCC:=Lh (show ∀x,x=(Ak0 s bl).getD I 0→(Af0 (Ak0 s bl)).set (2+I) (x^^^by_)=UInt8.ofNat ((Ak0 s bl).length/256)::UInt8.ofNat (Ak0 s bl).length::C from fun x hx=>by rw[hx,hC];exact Et5 _ _ _ _ _);have HGD:=Lh (show(Af0 (Ak0 s bl)).getD (2+I) 0=(Ak0 s bl).getD I 0 from El5 _ _ _ _);have HR47:=Lh RR2.out.1;clear RR2 FR hC;have FB:=Lh hpb;generalize Af0 (Ak0 s bl)=R at hcell FB hpc1 hpc2 HRl HCC HGD;generalize hRL:(Ak0 s bl).length=RL at *;have hm2:((at_:Int)).tmod (RL:Int)=(I:Int):=by rw[Int.tmod_eq_emod_of_nonneg (by omega),hI];exact(Int.natCast_emod _ _).symm
 have hz:¬(RL:Int)=0:=by have:=HR47.out;omega
 have hwa:IntKind.i64.wrap (at_:Int)=(at_:Int):=by have:=HT.out;rw[IntKind.wrap_i64];omega
 have hi0:(0:Int)≤(I:Int):=by omega
 have hi1:(I:Int)<(RL:Int):=by omega
 have HIl:=Lh hIl;clear hI hIl;have q8:∀o,(World.alloc we o).cell? ⟨n8,64,none⟩=some (.slice (some ⟨sb,so,none⟩) (s.e.o.length+1) S.e.oc):=fun o=>by rw[←hoa,←hlen];exact(B8.out.up (ba we o)).blk.siteIn.o
 have q3:∀o,(World.alloc we o).cell? ⟨n3,64,none⟩=some (.slice s.e.oa s.e.o.length s.e.oc):=fun o=>(B3.out.up (ba we o)).blk.siteIn.o;have qs:∀o,(World.alloc we o).cell? ⟨sb,so+s.e.o.length*2+1,none⟩=some (.slice pa R.length pc):=fun o=>hcell _ (bt G2.out (ba we o));have hk0:(0:Int)≤(s.e.o.length:Int):=by omega
 have hk1:(s.e.o.length:Int)<((s.e.o.length+1:Nat):Int):=by omega
 go_upto_region 18 with(at_builtin;(refine Aa8 (.tmp 83) (.tmp 93) rfl rfl rfl (Ee2 we) R rfl ((FB.out.mono G2.out).mono (ba we _)) rfl (by have:=HRl.out;have:=HR47.out;show 0+R.length≤_;omega) R rfl ?_;intro a5 c5 w17 h5;obtain⟨g,rfl,hg,hc,hf,hset⟩:=Ez3 h5 (2+I) (by rw[HRl.out];have:=HIl.out;omega);have Hset:=Lh (hset ((Ak0 s bl).getD I 0^^^by_));have Hg:=Lh hg;have Hcap:=Lh h5.buf.cap;have H5b:=Lh (h5.bel);have hc':=hc;rw[HGD.out] at hc';clear h5 hset hg hc))
 rw[HRl.out];have NW:=Lh (Nat.le_trans G.out.size Hg.out);have NW2:=Lh (Nat.le_trans G2.out.size Hg.out);have NG8:=Lh (Nat.ne_of_lt (Nat.lt_of_lt_of_le B8.out.blk.lt Hg.out));have NG10:=Lh (Nat.ne_of_lt (Nat.lt_of_lt_of_le B10.out.blk.lt Hg.out));replace B8:=Lh (B8.out.up H5b.out);replace B10:=Lh (B10.out.up H5b.out);replace G:=Lh (bt G.out H5b.out);replace G2:=Lh (bt G2.out H5b.out);clear q8 q3 qs hk0 hk1 B3 NE3;have b3:¬(((RL+2:Nat):Int)<3):=by have:=HR47.out;omega
 have hc5:RL+2≤c5:=by have:=Hcap.out;have:=HRl.out;omega
 have hs6:∀W,(Instr.sliceAt 22 (.slice (some ⟨g,0,none⟩) (RL+2) c5) (some (.int .i64 2)) none none).run Tryz.prog W=.ok (.slice (some ⟨g,2,none⟩) RL (c5-2)) W:=fun W=>by
  have h:=Bq7 (k:=2) Tryz.underlying22 Ah3 W (some ⟨g,0,none⟩) (RL+2) c5 (by omega);rw[show adv (some ⟨g,0,none⟩) c5 2 1=some ⟨g,2,none⟩ by unfold adv;rw[if_neg (by have:=HR47.out;omega)];rfl] at h;exact h
 have HC5:=Lh hc5;go_upto_region 20 with(fail)
 clear b3 hc5;go_upto_region 21 with(fail)
 go_upto_region 22 with(fail)
 clear hm2 hz hwa hs6;go_upto_region 23 with(fail)
 generalize hW18:World.setCell w17 _ _=w18;replace B8:=Lh (show A5 51 w18 n8 (A6 S) by rw[←hW18];exact B8.out.other NG8.out _);replace B10:=Lh (show A5 46 w18 n10 (A7 (Bp2 s.e)) by rw[←hW18];exact B10.out.other NG10.out _);replace G:=Lh (show Below w.heap.size w w18 by rw[←hW18];exact G.out.setCell NW.out _);replace G2:=Lh (show Below w7.heap.size w7 w18 by rw[←hW18];exact G2.out.setCell NW2.out _);have HX:=Lh (show A4 w18 (some ⟨g,2,none⟩) C from by
  have h:=Hset.out;rw[HCC.out _ rfl] at h;have h2:=A4.adv (cap:=RL+2) (k:=2) h rfl (by show C.length+1+1≤_;rw[HCl.out];exact Nat.le_refl (RL+2));rw[show adv (some ⟨g,0,none⟩) (RL+2) 2 1=some ⟨g,2,none⟩ by unfold adv;rw[if_neg (by have:=HR47.out;omega)];rfl] at h2;rw[←hW18];exact h2)
 clear hW18 hc' hf hi0 hi1 Hset NW NW2 NG8 NG10 H5b;have HTw:=Lh (show Ah8 w18 (Ax4 s S) from⟨(Et3 (HA7.out.mono G2.out).e),(P1.out.at.mono G2.out).p,(P1.out.at.mono G2.out).pl⟩);have X2:=Lh (show Calls Tryz.prog 19 #[.agg (A6 (Ax4 s S)).toArray,.slice (some ⟨g,2,none⟩) RL (c5-2)] w18 (Az6 w18 (Ax4 s S) C) from by
  have h:=Bc3 (Ax4 s S) (some ⟨g,2,none⟩) (c5-2) C w18 (HTw.out.toP fun _ _=>trivial) RT.out (Nat.le_trans HSl.out (by decide)) (by have:=HC5.out;have:=HCl.out;omega) (by have:=Hcap.out.2.2;omega) HX.out (HK7.out.mono G2.out);rw[HCl.out] at h;exact h)
 unfold Az6 at X2;generalize (Q4 (Ax4 s S) C).1=X at X2 FC;generalize (Q4 (Ax4 s S) C).2=E at X2 FC;have q10:=Lh (show _ from B8.out.blk.atP);go_wp2_with (first
  | (refine I0 46 (.tmp 10) rfl ?_;refine J1 46 (.tmp 10) n10 (by first | rfl | (simp[Region.wanted,yielded];done) | kernel_rfl) rfl rfl B10.out.blk Tryz.underlying46 rfl (SE.out _) ?_)
  | (refine I0 49 (.tmp 116) rfl ?_;refine D7 49 (.tmp 116) n8 70 (by first | rfl | (simp[Region.wanted,yielded];done) | kernel_rfl) rfl rfl q10.out Tryz.underlying49 rfl Ac3 ?_)
  | (refine Ca5 (.tmp 115) (.tmp 117) rfl rfl (Ax4 s S) rfl rfl ?_))
 refine X2.out.mono ?_;rintro x w19 ⟨v,rfl,hv,hb⟩;obtain⟨a1,c1,a2,c2,rfl,-,-⟩:=hv.out;replace G:=Lh (bt G.out hb);clear hb hv X2 q10 B8 B10;generalize ecE E (pdF C)=p;have HD:=Lh (show(Tryz.prog.info? 65).map (·.size)=some (I4 p.k p.d p.e0 p.e1 p.g p.q (.slice a1 p.b.length c1) (.slice a2 p.t.length c2)).length from Ab3);have HOO:=Lh (show(I4 p.k p.d p.e0 p.e1 p.g p.q (.slice a1 p.b.length c1) (.slice a2 p.t.length c2)).all (·.oneCell')=true from rfl);go_upto_region 24 with(first
  | (refine D9 51 (.tmp 14) (.tmp 121) rfl ?_;refine G9 51 (.tmp 14) (.tmp 121) _ (cs:=A6 X) rfl rfl rfl rfl (Ah9 (w:=w19) (a:=I2) (b:=G8) (A:=51) (B:=65) rfl).1 (SS.out _) (by rw[J2,D6]) (K7 _) ?_;intro wa hB hK;have B14:=Lh hB;have B15:=Lh ((Ah9 (w:=w19) (a:=I2) (b:=G8) (A:=51) (B:=65) rfl).2.1.kp hK (Nat.ne_of_gt (Nat.lt_succ_self _)));have N14:=Lh (Nat.ne_of_lt (Nat.lt_succ_self w19.heap.size));have G1:=Lh (hK.below (Ah9 (w:=w19) (a:=I2) (b:=G8) (A:=51) (B:=65) rfl).2.2 (Nat.le_refl _));have L2:=Lh (Nat.le_succ w19.heap.size);clear hB hK)
  | (refine D9 65 (.tmp 15) (.tmp 122) rfl ?_;refine G9 65 (.tmp 15) (.tmp 122) _ (cs:=(I4 p.k p.d p.e0 p.e1 p.g p.q (.slice a1 p.b.length c1) (.slice a2 p.t.length c2))) rfl rfl rfl rfl B15.out HD.out rfl HOO.out ?_;intro wb hB hK;replace B14:=Lh (B14.out.kp hK N14.out);replace G1:=Lh (hK.below G1.out L2.out);clear hB hK))
 replace G:=Lh (bt G.out G1.out);generalize w19.heap.size+1=n15 at N14 L2 ⊢;generalize w19.heap.size=n14 at B14 N14 ⊢;clear N14 L2 G1 HD HOO B15;have k0:_=some (Value.bool X.f):=B14.out.blk.cell 72 (by rw[D6];decide);have k1:_=some (Value.slice X.ta X.es.length X.tc):=B14.out.blk.cell 71 (by rw[D6];decide);obtain⟨fc1,fc2⟩:=FC.out;rw[fc2] at k1;clear FC fc2;generalize X.f=xf at k0 fc1;clear B14;cases xf
 ·have e1:(E != 0)=true:=fc1;clear fc1;go_wp2_with fail
  go_ret;exact⟨rfl,G.out⟩
 ·have e1:(E != 0)=false:=fc1;clear fc1;go_wp2_with fail
  go_ret;exact⟨rfl,G.out⟩
end Go.Proofs.YtadpiemjgfndgaaGreatDoor
namespace Go.Proofs.YtadpiemjgfndgaaGreatDoor
open Go.ChangeShapes Go.WideShapes Go.ChangeAt Go.RowKit
def Cf8(s:Sv)(ka:Option Addr)(kn kc:Nat)(u v:Int):List Value:=A6 s++[.slice ka kn kc,.int .u16 u,.int .u8 v]
section
variable {H:Type} {enc:TypeId×Value→H} {w:World}
theorem Cq9{fuel:Nat}{cs:List Value}{x:DataW H×List MemPlace}(h:DataW.trod enc Tryz.prog w 0 (fun _=>true) true fuel 97 cs=some x):∃(s:Sv) (ka:Option Addr) (kn kc:Nat) (kl:List UInt8) (u v1:Int),cs=Cf8 s ka kn kc u v1∧Ah8 w s∧Aa2 w ka kn kc kl∧(Lit.int .u16 u).wf=true∧(Lit.int .u8 v1).wf=true:=by
 obtain⟨xs,n,rfl,hx,hl,hxl,hg⟩:=DataW.trod_struct Tryz.underlying97 h;have hxl':xs.length=4:=hxl;have e_Luint8:Tryz.prog.cellsOf 22=1:=by kernel_rfl
 have e_uint16:Tryz.prog.cellsOf 95=1:=by kernel_rfl
 have e_uint8:Tryz.prog.cellsOf 5=1:=by kernel_rfl
 have e_yettapiSite:Tryz.prog.cellsOf 51=73:=by kernel_rfl
 have eN:Tryz.prog.cellsOf 97=76:=by kernel_rfl
 have hl':cs.length=76:=by rw[←eN];exact hl
 have k0:DataW.trod enc Tryz.prog w 0 (fun _=>true) true n 51 ((cs.drop 0).take (Tryz.prog.cellsOf 51))=some (xs[0]'(by omega)):=by
  have:=hg 0 _ rfl;rw[List.getElem?_eq_getElem (by omega:0<xs.length)] at this;exact this
 rw[e_yettapiSite] at k0;have k1:DataW.trod enc Tryz.prog w 0 (fun _=>true) true n 22 ((cs.drop 73).take (Tryz.prog.cellsOf 22))=some (xs[1]'(by omega)):=by
  have:=hg 1 _ rfl;rw[List.getElem?_eq_getElem (by omega:1<xs.length)] at this;exact this
 rw[e_Luint8] at k1;have k2:DataW.trod enc Tryz.prog w 0 (fun _=>true) true n 95 ((cs.drop 74).take (Tryz.prog.cellsOf 95))=some (xs[2]'(by omega)):=by
  have:=hg 2 _ rfl;rw[List.getElem?_eq_getElem (by omega:2<xs.length)] at this;exact this
 rw[e_uint16] at k2;have k3:DataW.trod enc Tryz.prog w 0 (fun _=>true) true n 5 ((cs.drop 75).take (Tryz.prog.cellsOf 5))=some (xs[3]'(by omega)):=by
  have:=hg 3 _ rfl;rw[List.getElem?_eq_getElem (by omega:3<xs.length)] at this;exact this
 rw[e_uint8] at k3;obtain⟨s,s0,hS⟩:=Et1 k0;obtain⟨ka,kn,kc,kl,s1,u1⟩:=Ca4 k1;obtain⟨u,s2,-,w2⟩:=DataW.trod_int Tryz.underlying95 k2;obtain⟨v,s3,-,w3⟩:=DataW.trod_int Tryz.underlying5 k3;have e':cs.drop 0=A6 s++([.slice ka kn kc]++([.int .u16 u]++([.int .u8 v]++[]))):=M6 (m:=73) s0 rfl (M6 (m:=74) s1 rfl (M6 (m:=75) s2 rfl (M6 (m:=76) s3 rfl (by rw[List.drop_eq_nil_iff];omega))));exact⟨s,ka,kn,kc,kl,u,v,e'.trans rfl,hS,u1,w2,w3⟩
theorem Cr0{r:Reach}{b0:Nat}{v:Value}{d:DataW H}{p:List MemPlace}(hv:Value.okWide Tryz.prog w r b0 97 v)(h:DataW.Trod enc Tryz.prog w 0 (fun _=>true) true 97 v d p):∃(s:Sv) (ka:Option Addr) (kn kc:Nat) (kl:List UInt8) (u v1:Int),v=.agg (Cf8 s ka kn kc u v1).toArray∧Ah8 w s∧Aa2 w ka kn kc kl∧(Lit.int .u16 u).wf=true∧(Lit.int .u8 v1).wf=true:=by
 obtain⟨⟨cs⟩,rfl,hsz⟩:=okWide_struct Tryz.underlying97 hv;obtain⟨fuel,hf⟩:=h;obtain⟨s,ka,kn,kc,kl,u,v1,h1,h2,h3,h4,h5⟩:=Cq9 hf;have h1':cs=Cf8 s ka kn kc u v1:=h1;exact⟨s,ka,kn,kc,kl,u,v1,by rw[h1'],h2,h3,h4,h5⟩
end
theorem Ce4(_t:True)(W:World)(hks:L9 W)(s:Sv)(ka:Option Addr)(kn kc:Nat)(kl:List UInt8)(u v:Int)(u0:Ah8 W s)(u1:Aa2 W ka kn kc kl)(hu:(Lit.int .u16 u).wf=true)(hv:(Lit.int .u8 v).wf=true):
 Calls Tryz.prog 8 #[.agg (Cf8 s ka kn kc u v).toArray] W (F7 W true):=by
 obtain⟨rfl,h1,h2,h3⟩:=u1;obtain⟨y,rfl⟩:=Ca7 hv;simp[Lit.wf,IntKind.min,IntKind.max,IntKind.bits,IntKind.signed] at hu;obtain⟨x,rfl⟩:∃x:Nat,u=x:=⟨u.toNat,by omega⟩;exact Ca6 s ka kc kl x y (by omega) W u0 ⟨h1,h2⟩ h3 hks
end Go.Proofs.YtadpiemjgfndgaaGreatDoor
