/- Proved here, for use further on: ShaJ ShaK. Conditions: none but those each theorem names. -/
import Derived.Test.YtadpiemjgfndgaaGreatDoorKc00
import Derived.Test.YtadpiemjgfndgaaGreatDoorKc06
import Derived.Deep.DeepCutAuto
import Derived.Deep.RegionHeld3
set_option linter.unusedSimpArgs false
set_option linter.unusedVariables false
set_option maxRecDepth 100000
set_option maxHeartbeats 8000000
namespace Go.Proofs.YtadpiemjgfndgaaGreatDoor
open Go.RowKit
theorem Buf.made'(wB w:World)(hb:Below wB.heap.size wB w)(e:TypeId)(cs:List Value)(k cap:Nat)(hk:k≤cap)(hl:cs.length=cap)(hm:cap≤maxLen):
 Buf wB (w.alloc (.cells cs.toArray e)) e (.slice (some ⟨w.heap.size,0,Option.none⟩) k cap) k (cs.take k):=
 ⟨⟨by rw[List.length_take];omega,.inr ⟨w.heap.size,cap,cs.toArray,rfl,hb.size,by simp only[World.alloc,Array.getElem?_push,if_true],hk,hm,by simp[hl],by simp⟩⟩,hb.trans ((ba w _).mono hb.size)⟩
theorem Dd1(t:TypeId)(x c:UInt32)(n:Int)(h:n=uv c)(h0:0<c):binOp .quo t (.int .u32 (uv x)) (.int .u32 n)=pure (.int .u32 (uv (x/c))):=by
 subst h;show Op.intDiv .quo .u32 (uv x) (uv c)=_;have hc:0<c.toNat:=by simpa [UInt32.lt_iff_toNat_lt] using h0
 unfold Op.intDiv;rw[if_neg (by unfold uv;omega)];show pure (Value.int .u32 (IntKind.u32.wrap ((uv x).tdiv (uv c))))=_;have e:(uv x).tdiv (uv c)=((x.toNat/c.toNat:Nat):Int):=by unfold uv;rw[Int.tdiv_eq_ediv_of_nonneg (by omega)];simp
 rw[e,Au1 _ (Nat.lt_of_le_of_lt (Nat.div_le_self _ _) x.toNat_lt)];unfold uv;rw[UInt32.toNat_div]
theorem Fk0(t:TypeId)(x c:UInt32)(n:Int)(h:n=uv c)(h0:0<c):binOp .rem t (.int .u32 (uv x)) (.int .u32 n)=pure (.int .u32 (uv (x%c))):=by
 subst h;show Op.intDiv .rem .u32 (uv x) (uv c)=_;have hc:0<c.toNat:=by simpa [UInt32.lt_iff_toNat_lt] using h0
 unfold Op.intDiv;rw[if_neg (by unfold uv;omega)];show pure (Value.int .u32 ((uv x).tmod (uv c)))=_;have e:(uv x).tmod (uv c)=((x.toNat%c.toNat:Nat):Int):=by unfold uv;rw[Int.tmod_eq_emod_of_nonneg (by omega)];simp
 rw[e];unfold uv;rw[UInt32.toNat_mod]
@[go_sem high] theorem Fp3 (t : TypeId) (x : UInt32) : binOp .quo t (.int .u32 (uv x)) (.int .u32 16777216) = pure (.int .u32 (uv (x >>> 24))) := by
 exact(Dd1 t x 16777216 16777216 rfl (by decide)).trans (by congr 3;exact UInt32.toNat_inj.1 (by simp[UInt32.toNat_div,UInt32.toNat_shiftRight,Nat.shiftRight_eq_div_pow]))
@[go_sem high] theorem Fp4 (t : TypeId) (x : UInt32) : binOp .quo t (.int .u32 (uv x)) (.int .u32 65536) = pure (.int .u32 (uv (x >>> 16))) := by
 exact(Dd1 t x 65536 65536 rfl (by decide)).trans (by congr 3;exact UInt32.toNat_inj.1 (by simp[UInt32.toNat_div,UInt32.toNat_shiftRight,Nat.shiftRight_eq_div_pow]))
@[go_sem high] theorem Fp7 (t : TypeId) (x : UInt32) : binOp .quo t (.int .u32 (uv x)) (.int .u32 256) = pure (.int .u32 (uv (x >>> 8))) := by
 exact(Dd1 t x 256 256 rfl (by decide)).trans (by congr 3;exact UInt32.toNat_inj.1 (by simp[UInt32.toNat_div,UInt32.toNat_shiftRight,Nat.shiftRight_eq_div_pow]))
@[go_sem high] theorem Fp8 (t : TypeId) (x : UInt32) : binOp .rem t (.int .u32 (uv x)) (.int .u32 256) = pure (.int .u32 (uv (x % 256))) := Fk0 t x 256 _ rfl (by decide)
theorem Fn1(x:UInt32):(x%256).toUInt8=x.toUInt8:=UInt8.toNat_inj.1 (by simp)
theorem Dd2(s:R8)(n:Nat)(a:Option Addr)(ca:Nat)(l:List UInt8)(hn:n≤1125899906842624)(hr:l.length=n%64)(w:World)(hl:A4 w a l):
 Calls Tryz.prog 169 #[.agg (Q2 s n a l.length ca).toArray] w (Ay8 w (Bm2 s l n)):=by
 have Hl:=Lh hl;have Hr:=Lh hr;have hr64:l.length<64:=by omega
 clear hl hr;obtain⟨s0,s1,s2,s3,s4,s5,s6,s7⟩:=s;go_enter Tryz.func169,Tryz.ntmps169
 go_wp2_with fail
 generalize hW:World.alloc w _=W;have hB0:Blk W w.heap.size (Q2 ⟨s0,s1,s2,s3,s4,s5,s6,s7⟩ n a l.length ca):=by rw[←hW];exact Blk.new _ _ _
 have hb0:Below w.heap.size w W:=by rw[←hW];exact ba _ _
 clear hW;have HB0:=Lh hB0;have Hb0:=Lh hb0;have Hat:=Lh (Hl.out.mono hb0);have hwW:w.heap.size<W.heap.size:=hB0.lt;clear hb0;obtain⟨P,hP⟩:∃P,P=Bp9 n:=⟨_,rfl⟩;have HP:=Lh hP;have hPl:P.length≤100:=by rw[hP,Bw5];unfold zc;omega
 have Hpad:=Lh (Ew2 n hn);rw[←hP] at Hpad;clear hP;go_cut [3] (fun v wx=>∃m,m=l.length+P.length∧Buf W wx 5 v m (B8s (l++P)))
 case first=>
  have c8:=HB0.out.cell 8 (by show 8<10;decide);have c9:=HB0.out.cell 9 (by show 9<10;decide);have e8:=(HB0.out.alloc (.cells #[] 5)).cell 8 (by show 8<10;decide);have e9:=(HB0.out.alloc (.cells #[] 5)).cell 9 (by show 9<10;decide)
  go_region_law (first
   | (refine Aw9 (.tmp 9) (.tmp 11) 22 rfl rfl V4 rfl (Buf.made W 5 [] 0 0 (by decide) rfl (by decide)).drew (sp:=a) (m:=l.length) (news:=B8s l) rfl (Hat.out.mono ((ba W _).trans ((bd _).mono (by simp)))) (by simp) (J9 l) (by omega) (by decide) l.length (by omega) (B8s l) rfl ?_;intro a1 c1 w1 hB1;have f8:=(hB1.blk HB0.out).cell 8 (by show 8<10;decide);have f9:=(hB1.blk HB0.out).cell 9 (by show 9<10;decide))
   | (refine Aw9 (.tmp 12) (.tmp 15) 22 rfl rfl V4 rfl (hB1.later hb2) (sp:=a2) (m:=P.length) (news:=B8s P) rfl hat2 (by simp) (J9 P) (by omega) (by decide) (l.length+P.length) rfl (B8s (l++P)) (by simp) ?_;intro a3 c3 w3 hB3)
   | (go_simp;go_at_call 197;refine Calls.mono (Hpad.out _) ?_;rintro e w' ⟨a2,c2,rfl,hat2,hb2⟩))
  all_goals
   go_wp2_with fail
   go_meet
   exact⟨_,rfl,hB3⟩
 case rest=>
  obtain⟨p,hp,hB⟩:=hcut;obtain⟨a3,c3,rfl,-,-⟩:=hB.slice;have HT:∃T,T=l++Bp9 n∧A4 wc a3 T∧T.length=p∧p%64=0∧p≤c3:=by
   have h1:=hB.at
   have h2:=hB.len;have h3:=hB.cap;have h4:=Hr.out;rw[HP.out] at h1 h2 hp;refine⟨_,rfl,h1,by simpa using h2,?_,h3.2.1⟩;rw[hp,h4,Bw5];unfold zc;omega
  obtain⟨T,hT,hTat,hTl,hp64,hpc⟩:=HT;have hp200:p≤200:=by omega
  have HTe:=Lh hT;have HTl:=Lh hTl;have Hp64:=Lh hp64;have Hbel:=Lh (Hb0.out.trans (hB.bel.mono Hb0.out.size));obtain⟨c0,c1,c2,c3',c4,c5,c6,c7,-,-⟩:=Am0 (hB.blk HB0.out);obtain⟨Wm,rfl⟩:∃x,x=wc:=⟨wc,rfl⟩;clear hT hTl hp64 hB hp HB0 Hat Hpad Hl HP hPl hwW;go_wp2_with (first
   | (go_at_call 198;go_must (refine(Co9 _).mono ?_;rintro e w3 ⟨rfl,rfl⟩))
   | fail)
  obtain⟨r0,hr0⟩:∃r0,r0=R8.mk s0 s1 s2 s3 s4 s5 s6 s7:=⟨_,rfl⟩;have HR0:=Lh hr0;have hBr:Blk ((Wm.alloc (.cells #[.int .u32 (uv s0),.int .u32 (uv s1),.int .u32 (uv s2),.int .u32 (uv s3),.int .u32 (uv s4),.int .u32 (uv s5),.int .u32 (uv s6),.int .u32 (uv s7)] 208)).alloc (.cells (Ai5 Ak3).toArray 110)) Wm.heap.size r0.cells:=by
   rw[hr0];exact(Blk.new Wm (R8.mk s0 s1 s2 s3 s4 s5 s6 s7).cells _).alloc _
  have hbr:Below Wm.heap.size Wm ((Wm.alloc (.cells #[.int .u32 (uv s0),.int .u32 (uv s1),.int .u32 (uv s2),.int .u32 (uv s3),.int .u32 (uv s4),.int .u32 (uv s5),.int .u32 (uv s6),.int .u32 (uv s7)] 208)).alloc (.cells (Ai5 Ak3).toArray 110)):=(ba Wm _).trans ((ba _ _).mono (by simp));have hKk:Blk ((Wm.alloc (.cells #[.int .u32 (uv s0),.int .u32 (uv s1),.int .u32 (uv s2),.int .u32 (uv s3),.int .u32 (uv s4),.int .u32 (uv s5),.int .u32 (uv s6),.int .u32 (uv s7)] 208)).alloc (.cells (Ai5 Ak3).toArray 110)) (Wm.heap.size+1) (Ai5 Ak3):=by
   have:=Blk.new (Wm.alloc (.cells #[.int .u32 (uv s0),.int .u32 (uv s1),.int .u32 (uv s2),.int .u32 (uv s3),.int .u32 (uv s4),.int .u32 (uv s5),.int .u32 (uv s6),.int .u32 (uv s7)] 208)) (Ai5 Ak3) 110
   rwa [World.size_alloc] at this
  generalize World.alloc (World.alloc Wm _) _=W3 at hBr hbr hKk;clear hr0 c0 c1 c2 c3' c4 c5 c6 c7
  go_loopw [6] (fun v wx=>∃k t:Nat,t=64*k∧t≤p∧v=.int .i64 (t:Int)∧Blk wx Wm.heap.size (Aa6 r0 T k).cells∧Blk wx (Wm.heap.size+1) (Ai5 Ak3)∧Below Wm.heap.size Wm wx) (fun v _=>p-(intOf v).toNat)
  case atStart=>exact⟨0,0,rfl,by omega,rfl,hBr,hKk,hbr⟩
  case round=>
   clear hBr hbr hKk;obtain⟨k,t,ht,htp,rfl,hBr,hKk,hb⟩:=hrel;by_cases h64:t<p
   ·have hge:t+64≤p:=by have:=Hp64.out;omega
    have Hnext:=Lh (show Aa6 r0 T (k+1)=Ah5 (Aa6 r0 T k) ((T.drop t).take 64) by rw[ht];rfl);have Ht:=Lh ht;clear ht;obtain⟨r,hr⟩:∃r,r=Aa6 r0 T k:=⟨_,rfl⟩;rw[←hr] at hBr Hnext;clear hr;obtain⟨c0,c1,c2,c3',c4,c5,c6,c7⟩:=Bf5 hBr;have Hcon:=Lh (Co8 r a3 (some ⟨Wm.heap.size+1,0,none⟩) t p c3 64 T wr HTl.out.symm (by unfold maxLen;omega) hge (hTat.mono hb) hKk.at);have HBr:=Lh hBr;have HK:=Lh hKk;have hbs:=hb.size;clear hBr hKk;go_wp2_with (first
     | (go_at_call 199;go_must (refine Calls.mono Hcon.out ?_;rintro e w' ⟨rfl,hb'⟩;obtain⟨d0,d1,d2,d3,d4,d5,d6,d7⟩:=Bf5 (HBr.out.below hb' HBr.out.lt);have fz:=(HBr.out.below hb' HBr.out.lt).frozen))
     | fail)
    exact⟨⟨k+1,t+64,by have:=Ht.out;omega,by omega,by go_num,by rw[Hnext.out];exact Dz5 (HBr.out.below hb' HBr.out.lt),Ay7 (HK.out.below hb' HK.out.lt) (by omega),Be0 (hb.trans (hb'.mono hb.size)) (Nat.le_refl _)⟩,by simp[intOf];omega⟩
   ·have hkn:=Lh (show k=nb T by unfold nb;have:=HTl.out;have:=Hp64.out;omega);have Hput:=Lh (show Aa6 r0 T k=Al3 r0 T by rw[hkn.out];rfl);generalize Aa6 r0 T k=R at hBr Hput;have HBr:=Lh hBr;have Hb:=Lh hb;clear hkn hBr hb hKk ht;go_wp2_with fail
    have hB1:Buf wr wr 5 (.slice none 0 0) 0 (B8s (R.bytes.take 0)):=Buf.nil wr _;obtain⟨Wn,rfl⟩:∃x,x=wr:=⟨wr,rfl⟩
    go_loopw [7,8] (fun v i wx=>∃k m:Nat,k≤8∧m=4*k∧i=.int .i64 k∧Buf Wn wx 5 v m (B8s (R.bytes.take m))) (fun _ i _=>8-(intOf i).toNat)
    case atStart=>exact⟨0,0,by omega,rfl,rfl,hB1⟩
    case round=>
     clear hB1;obtain⟨k,m,hk,hm,rfl,hB⟩:=hrel;obtain⟨a5,c5,rfl,-,-⟩:=hB.slice;have HB:=Lh hB;have hm2:m≤32:=by omega
     have Hm:=Lh hm;clear hB hm;by_cases hlt:k<8
     ·have hcell:=(HB.out.blk HBr.out).cell k hlt;have Hc:=Lh (show ∀w',Blk w' Wm.heap.size R.cells→w'.cell? ⟨Wm.heap.size,k,none⟩=some (.int .u32 (uv (R.l.getD k 0))) from fun w' h=>by rw[←Bm1 R k hlt];exact h.cell k hlt);rw[Bm1 R k hlt] at hcell;have Hst:=Lh (Bz9 R k hlt);generalize R.l.getD k 0=x at hcell Hst Hc;have hx:=Fi0 x;have hw1:=Ak0 (x>>>24);have hw2:=Ak0 ((x>>>16)%256);have hw3:=Ak0 ((x>>>8)%256);have hw4:=Ak0 (x%256);go_wp2_with fail
      go_region_held3 (fun w'=>w'.cell? ⟨Wm.heap.size,k,none⟩=some (.int .u32 (uv x)))
       (first
         | go_keep
         | (exact Hc.out _ ((HB.out.alloc _).blk HBr.out))
         | (exact Hc.out _ (((HB.out.alloc _).drew).blk HBr.out))
         | (exact Hc.out _ (hB6.blk HBr.out)))
       ((refine Aw9 (.tmp 35) (.tmp 58) 22 rfl rfl V4 rfl (HB.out.alloc _).drew (news:=[.int .u8 (bv (x>>>24).toUInt8),.int .u8 (bv ((x>>>16)%256).toUInt8),.int .u8 (bv ((x>>>8)%256).toUInt8),.int .u8 (bv (x%256).toUInt8)]) rfl ((U4 wr _ _).mono (bd _)) rfl (by simp;exact⟨rfl,rfl,rfl,rfl⟩) (by omega) (by decide) (m+4) rfl (B8s (R.bytes.take (m+4))) (by rw[Hm.out,show 4*k+4=4*(k+1) by omega,←Hst.out];simp[w4,Fn1]) ?_;intro a6 c6 w6 hB6))
      go_wp2_with fail
      go_roundw
      case rel=>exact⟨k+1,m+4,by omega,by have:=Hm.out;omega,by go_num,hB6⟩
      case measure=>simp[intOf];omega
     ·go_wp2_with fail
      go_ret;have h8:k=8:=by omega
      have hm8:m=32:=by rw[Hm.out,h8]
      subst hm8;refine⟨a5,c5,?_,?_,Hbel.out.trans ((Hb.out.trans (HB.out.bel.mono Hb.out.size)).mono Hbel.out.size)⟩
      ·unfold Bm2;rw[←HTe.out,←HR0.out,←Hput.out];rfl
      ·unfold Bm2;rw[←HTe.out,←HR0.out,←Hput.out];exact As8 HB.out.own (Nat.le_trans Hbel.out.size Hb.out.size)
def ofF(l:List UInt8):List UInt8:=Bm2 (Al3 iv l) (Y6 l) l.length
theorem Ar5(l:List UInt8):(Y6 l).length=l.length%64:=by unfold Y6 nb;rw[List.length_drop];omega
theorem Ag5(l:List UInt8):(ofF l).length=32:=rfl
theorem Ew3(s:R8)(n:Int)(a:Option Addr)(len ca:Nat)(l:List UInt8)(h0:0≤n)(hn:n≤1125899906842624)(hlen:len=l.length)(hr:(l.length:Int)=n%64)(w:World)(hl:A4 w a l)(hk:Q4 w):
 Calls Tryz.prog 196 #[.agg (Q2 s n a len ca).toArray] w (Bb0 w (Bm2 s l n.toNat)):=by
 subst hlen;have:=El7 s n.toNat a ca l (by omega) (by omega) w hl hk
 rwa [Int.toNat_of_nonneg h0] at this
theorem Cz7(w:World):A4 w none []:=.inl rfl
theorem Ew4(b:Option Addr)(lb cb:Nat)(m:List UInt8)(hb:lb=m.length)(hsz:lb≤2147483647)(w:World)(hm:A4 w b m)(hk:Q4 w):
 Calls Tryz.prog 194 #[.agg (Q2 iv 0 none 0 0).toArray,.slice b lb cb] w (Ce6 w (Al3 iv m) m.length (Y6 m)):=by
 subst hb;have:=El3 iv 0 none b 0 cb [] m (by omega) (by omega) (by omega) (by simpa using hsz) w (Cz7 w) hm hk
 rwa [Int.zero_add] at this
theorem Dd3(b:Option Addr)(lb cb:Nat)(m:List UInt8)(hb:lb=m.length)(hsz:lb≤2147483647)(w:World)(hm:A4 w b m):
 Calls Tryz.prog 170 #[.agg (Q2 iv 0 none 0 0).toArray,.slice b lb cb] w (Ce6 w (Al3 iv m) m.length (Y6 m)):=by
 subst hb;have:=Cw0 iv 0 none b 0 cb [] m (by omega) (by omega) (by omega) (by simpa using hsz) w (Cz7 w) hm
 rwa [Int.zero_add] at this
theorem Fd6(b:Option Addr)(lb cb:Nat)(m:List UInt8)(hb:lb=m.length)(hsz:lb≤2147483647)(w:World)(hm:A4 w b m)(hk:Q4 w):
 Calls Tryz.prog 203 #[.slice b lb cb] w (Bb0 w (ofF m)):=by
 have Hm:=Lh hm;have Hk:=Lh hk;have HB:=Lh hb;have hml:m.length≤2147483647:=by omega
 clear hm hk hb;go_enter Tryz.func203,Tryz.ntmps203
 go_wp2_with fail
 refine(Cz6 _).mono ?_;rintro e w1 ⟨rfl,hb1⟩;go_wp2_with fail
 refine(Ew4 b lb cb m HB.out hsz _ (At.mono Hm.out hb1) (Q4.mono Hk.out hb1)).mono ?_;rintro e w2 ⟨a2,c2,rfl,hat2,hb2⟩;have hb12:=bt hb1 hb2;go_wp2_with fail
 refine(Ew3 (Al3 iv m) m.length a2 _ c2 (Y6 m) (by omega) (by omega) rfl (by rw[Ar5];omega) _ hat2 (Q4.mono Hk.out hb12)).mono ?_;rintro e w3 ⟨a3,c3,rfl,hat3,hb3⟩;go_wp2_with fail
 go_ret;exact⟨a3,c3,rfl,hat3,bt hb12 hb3⟩
end Go.Proofs.YtadpiemjgfndgaaGreatDoor
