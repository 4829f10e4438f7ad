/- Proved here, for use further on: ShaF ShaI ShaG InB FrA RingA RingB RingC RingD. Conditions: none but those each theorem names. -/
import Derived.Test.YtadpiemjgfndgaaGreatDoorKb00
import Derived.Test.YtadpiemjgfndgaaGreatDoorKb02
import Derived.Deep.RegionWith
import Derived.Deep.DeepMust
import Derived.Test.YtadpiemjgfndgaaGreatDoorKb01
set_option linter.unusedSimpArgs false
set_option linter.unusedVariables false
set_option maxRecDepth 100000
set_option maxHeartbeats 8000000
namespace Go.Proofs.YtadpiemjgfndgaaGreatDoor
open Go.RowKit
def Ab5(s:R8)(l:List UInt8):Nat→R8
 | 0=>s
 | k+1=>Ah5 (Ab5 s l k) ((l.drop (64*k)).take 64)
def nb(l:List UInt8):Nat:=l.length/64
def Al4(s:R8)(l:List UInt8):R8:=Ab5 s l (nb l)
def Aa4(l:List UInt8):List UInt8:=l.drop (64*nb l)
theorem Fd2(w:World)(n:Nat)(v:Value)(T:TypeId):Blk (w.alloc (.cells (Array.replicate n v) T)) w.heap.size (List.replicate n v):=by
 have:=Blk.new w (List.replicate n v) T
 rwa [List.toArray_replicate] at this
theorem Ek7(b k cap:Nat)(h:cap≠k):adv (some ⟨b,0,none⟩) cap k 1=some ⟨b,k,none⟩:=by
 unfold adv;rw[if_neg h];by_cases h0:k=0
 ·subst h0;simp[Addr.add]
 ·simp[Addr.add,h0]
theorem Fk1(x:List Value)(k m:Nat)(z:Value)(h:x.length=k):List.take 0 (List.replicate (k+m) z)++List.take k x++List.drop (0+k) (List.replicate (k+m) z)=x++List.replicate m z:=by
 subst h;rw[List.take_of_length_le (Nat.le_refl _),List.take_zero,List.nil_append,Nat.zero_add,List.drop_replicate,Nat.add_sub_cancel_left]
theorem Fk2(x y:List Value)(k m:Nat)(z:Value)(h:x.length=k)(h':y.length=m):List.take k (x++List.replicate m z)++List.take m y++List.drop (k+m) (x++List.replicate m z)=x++y:=by
 subst h;subst h';rw[List.take_left,List.take_of_length_le (Nat.le_refl _),List.drop_of_length_le (by simp),List.append_nil]
def Ao1:Value→Nat | .slice _ n _=>n | _=>0
theorem Dx8{w:World}{b:Nat}{q:List UInt8}(h:Blk w b (B8s q))(o:Nat):A4 w (some ⟨b,o,none⟩) (q.drop o):=
 .inr ⟨b,o,rfl,h.lt,fun i hi=>by
  have hi':o+i<(B8s q).length:=by simp at hi ⊢;omega
  rw[h.cell (o+i) hi'];simp[List.getD,List.getElem?_drop]⟩
theorem Al9{w:World}{b:Nat}{r:R8}{n:Int}{a:Option Addr}{len cap:Nat}(h:Blk w b (O3 r n a len cap)):
 w.cell? ⟨b,0,none⟩=some (.int .u32 (uv r.a))∧w.cell? ⟨b,1,none⟩=some (.int .u32 (uv r.b))∧w.cell? ⟨b,2,none⟩=some (.int .u32 (uv r.c))∧w.cell? ⟨b,3,none⟩=some (.int .u32 (uv r.d))∧
 w.cell? ⟨b,4,none⟩=some (.int .u32 (uv r.e))∧w.cell? ⟨b,5,none⟩=some (.int .u32 (uv r.f))∧w.cell? ⟨b,6,none⟩=some (.int .u32 (uv r.g))∧w.cell? ⟨b,7,none⟩=some (.int .u32 (uv r.h))∧
 w.cell? ⟨b,8,none⟩=some (.int .i64 n)∧w.cell? ⟨b,9,none⟩=some (.slice a len cap):=
 ⟨h.cell 0 (by show 0<10;decide),h.cell 1 (by show 1<10;decide),h.cell 2 (by show 2<10;decide),h.cell 3 (by show 3<10;decide),h.cell 4 (by show 4<10;decide),h.cell 5 (by show 5<10;decide),h.cell 6 (by show 6<10;decide),h.cell 7 (by show 7<10;decide),h.cell 8 (by show 8<10;decide),h.cell 9 (by show 9<10;decide)⟩
theorem Dx9(b o k cap:Nat)(h:cap≠k)(h0:0<k):adv (some ⟨b,o,none⟩) cap k 1=some ⟨b,o+k,none⟩:=by
 unfold adv;rw[if_neg h];simp[Addr.add,Nat.ne_of_gt h0]
theorem Co6{w:World}{b:Nat}{r r':R8}{n:Int}{a:Option Addr}{len cap:Nat}(h:Blk w b (O3 r n a len cap)):
 Blk ((((((((w.setCell ⟨b,0,none⟩ (.int .u32 (uv r'.a))).setCell ⟨b,1,none⟩ (.int .u32 (uv r'.b))).setCell ⟨b,2,none⟩ (.int .u32 (uv r'.c))).setCell ⟨b,3,none⟩ (.int .u32 (uv r'.d))).setCell ⟨b,4,none⟩ (.int .u32 (uv r'.e))).setCell ⟨b,5,none⟩ (.int .u32 (uv r'.f))).setCell ⟨b,6,none⟩ (.int .u32 (uv r'.g))).setCell ⟨b,7,none⟩ (.int .u32 (uv r'.h))) b (O3 r' n a len cap):=
 (((((((h.set 0 _).set 1 _).set 2 _).set 3 _).set 4 _).set 5 _).set 6 _).set 7 _
theorem Ay6{w:World}{b c:Nat}{cs:List Value}{v0 v1 v2 v3 v4 v5 v6 v7:Value}(h:Blk w c cs)(hne:c≠b):
 Blk ((((((((w.setCell ⟨b,0,none⟩ v0).setCell ⟨b,1,none⟩ v1).setCell ⟨b,2,none⟩ v2).setCell ⟨b,3,none⟩ v3).setCell ⟨b,4,none⟩ v4).setCell ⟨b,5,none⟩ v5).setCell ⟨b,6,none⟩ v6).setCell ⟨b,7,none⟩ v7) c cs:=
 (((((((h.other _ hne _).other _ hne _).other _ hne _).other _ hne _).other _ hne _).other _ hne _).other _ hne _).other _ hne _
theorem Bd9{w0 w:World}{B b:Nat}{v0 v1 v2 v3 v4 v5 v6 v7:Value}(h:Below B w0 w)(hb:B≤b):
 Below B w0 ((((((((w.setCell ⟨b,0,none⟩ v0).setCell ⟨b,1,none⟩ v1).setCell ⟨b,2,none⟩ v2).setCell ⟨b,3,none⟩ v3).setCell ⟨b,4,none⟩ v4).setCell ⟨b,5,none⟩ v5).setCell ⟨b,6,none⟩ v6).setCell ⟨b,7,none⟩ v7):=
 (((((((h.setCell hb _).setCell hb _).setCell hb _).setCell hb _).setCell hb _).setCell hb _).setCell hb _).setCell hb _
theorem Ci6(s:R8)(n:Int)(a b:Option Addr)(ca cb:Nat)(l m:List UInt8)(h0:0≤n)(hn:n≤1125899906842624)(hle:(m.length:Int)≤1125899906842624-n)(hsz:l.length+m.length≤2147483647)
 (w:World) (hl:A4 w a l) (hm:A4 w b m) (hk:Q5 w):
 Calls Tryz.prog 194 #[.agg (O3 s n a l.length ca).toArray,.slice b m.length cb] w fun e w'=>
  ∃a' cap',e=.returned (.agg (O3 (Al4 s (l++m)) (n+m.length) a' (Aa4 (l++m)).length cap').toArray)∧A4 w' a' (Aa4 (l++m))∧Below w.heap.size w w'∧
   (Aa4 (l++m)=[]∨∃off,a'=some ⟨w.heap.size+1+1,off,none⟩):=by
 have hmk:∀w,(Instr.makeSlice 22 (.int .i64 (↑l.length+↑m.length)) (.int .i64 (↑l.length+↑m.length))).run Tryz.prog w=.ok (.slice (some ⟨w.heap.size,0,none⟩) (l.length+m.length) (l.length+m.length)) (w.alloc (.cells (List.replicate (l.length+m.length) (.int .u8 0)).toArray 5)):=fun w=>by
  have:=Bl2 W5 w .i64 .i64 (l.length+m.length) (by omega) (by unfold maxLen;omega) rfl
  rwa [Int.natCast_add] at this
 have Hl:=Lh hl;have Hm:=Lh hm;have Hk:=Lh hk;clear hl hm hk;obtain⟨s0,s1,s2,s3,s4,s5,s6,s7⟩:=s;go_enter Tryz.func194,Tryz.ntmps194
 go_wp2_with fail
 generalize hW:World.alloc _ (.cells (Array.replicate (l.length+m.length) (.int .u8 0)) _)=W1;have hB0:Blk W1 w.heap.size (O3 ⟨s0,s1,s2,s3,s4,s5,s6,s7⟩ (n+m.length) a l.length ca):=by rw[←hW];exact((Blk.new _ _ _).alloc _).alloc _
 have hB1:Blk W1 (w.heap.size+1) (O3 ⟨0,0,0,0,0,0,0,0⟩ 0 none 0 0):=by
  rw[←hW];have:=(Blk.new (w.alloc (.cells (O3 ⟨s0,s1,s2,s3,s4,s5,s6,s7⟩ (n+m.length) a l.length ca).toArray 210)) (O3 ⟨0,0,0,0,0,0,0,0⟩ 0 none 0 0) 210).alloc (.cells (Array.replicate (l.length+m.length) (.int .u8 0)) 5);rw[World.size_alloc] at this;exact this
 have hB2:Blk W1 (w.heap.size+1+1) (List.replicate (l.length+m.length) (.int .u8 0)):=by
  rw[←hW];have:=Fd2 ((w.alloc (.cells (O3 ⟨s0,s1,s2,s3,s4,s5,s6,s7⟩ (n+m.length) a l.length ca).toArray 210)).alloc (.cells (O3 ⟨0,0,0,0,0,0,0,0⟩ 0 none 0 0).toArray 210)) (l.length+m.length) (.int .u8 0) 5;rw[World.size_alloc,World.size_alloc] at this;exact this
 have hb1:Below w.heap.size w W1:=by rw[←hW];exact((ba w _).trans ((ba _ _).mono (by simp))).trans ((ba _ _).mono (by simp;omega))
 clear hW;obtain⟨W2,hcp1,hC2,hoth1,hbel1⟩:=Bh8 (P:=Tryz.prog) hB2 (At.mono Hl.out hb1) (dT:=22) (sT:=22) (ty:=3) Tryz.underlying22 (by kernel_rfl) (some ⟨w.heap.size+1+1,0,none⟩) 0 (l.length+m.length) (l.length+m.length) l.length ca l.length (by simp) (by simp[Nat.min_def]) (fun _=>rfl) (by simp) (M4 l);have hB0':=hoth1 _ _ (by omega) hB0;have hB1':=hoth1 _ _ (by omega) hB1;have hb2:=hbel1 _ _ hb1 (by omega);clear hB0 hB1 hB2 hoth1 hbel1 hb1;rw[hcp1];clear hcp1;have hC2':Blk W2 (w.heap.size+1+1) (B8s l++List.replicate m.length (.int .u8 0)):=by
  rwa [Fk1 (B8s l) l.length m.length _ (by simp)] at hC2
 clear hC2;have c9:W2.cell? ⟨w.heap.size,9,none⟩=some (.slice a l.length ca):=hB0'.cell 9 (by show 9<10;decide);have hsl:∀W,(Instr.sliceAt 22 (.slice (some ⟨w.heap.size+1+1,0,none⟩) (l.length+m.length) (l.length+m.length)) (some (.int .i64 l.length)) none none).run Tryz.prog W=.ok (.slice (adv (some ⟨w.heap.size+1+1,0,none⟩) (l.length+m.length) l.length 1) m.length m.length) W:=fun W=>by
  have:=Ax3 (P:=Tryz.prog) Tryz.underlying22 Ai1 W (some ⟨w.heap.size+1+1,0,none⟩) (l.length+m.length) (l.length+m.length) l.length (by omega) (by omega)
  rwa [Int.toNat_natCast,Nat.add_sub_cancel_left] at this
 have HB0:=Lh hB0';have HB1:=Lh hB1';have HC:=Lh hC2';have hbs:=hb2.size;clear hB0' hB1' hC2';go_wp2_with fail
 obtain⟨W3,hcp2,hC3,hoth2,hbel2⟩:=Bh8 (P:=Tryz.prog) HC.out (At.mono Hm.out hb2) (dT:=22) (sT:=22) (ty:=3) Tryz.underlying22 (by kernel_rfl) (adv (some ⟨w.heap.size+1+1,0,none⟩) (l.length+m.length) l.length 1) l.length m.length m.length m.length cb m.length (by simp) (by simp[Nat.min_def]) (fun h=>Ek7 _ _ _ (by omega)) (by simp) (M4 m);have hB0:=hoth2 _ _ (by omega) HB0.out;have hB1:=hoth2 _ _ (by omega) HB1.out;have hb3:=hbel2 _ _ hb2 (by omega);clear HB0 HB1 HC hoth2 hbel2 hb2 c9 hbs;rw[hcp2];clear hcp2;rw[Fk2 (B8s l) (B8s m) l.length m.length _ (by simp) (by simp),←List.map_append] at hC3;obtain⟨q,hq⟩:∃q,q=l++m:=⟨_,rfl⟩;rw[←hq] at hC3;have hlen:l.length+m.length=q.length:=by rw[hq];simp
 have Hq:=Lh hq;clear hq;rw[hlen];rw[hlen] at hsz;clear hmk hsl hle h0 hn;obtain⟨s,hs⟩:∃s:R8,s=⟨s0,s1,s2,s3,s4,s5,s6,s7⟩:=⟨_,rfl⟩;go_wp2_with fail
 go_loopw [5] (fun v wr=>∃(k:Nat) (a':Option Addr) (cap':Nat),64*k≤q.length∧v=.slice a' (q.length-64*k) cap'∧q.length-64*k≤cap'∧(q.length=64*k∨a'=some ⟨w.heap.size+1+1,64*k,none⟩)∧Blk wr w.heap.size (O3 (Ab5 ⟨s0,s1,s2,s3,s4,s5,s6,s7⟩ q k) (n+m.length) a l.length ca)∧Blk wr (w.heap.size+1) (O3 ⟨0,0,0,0,0,0,0,0⟩ 0 none 0 0)∧Blk wr (w.heap.size+1+1) (B8s q)∧Below w.heap.size w wr) (fun v _=>Ao1 v)
 case atStart=>exact⟨0,_,_,by omega,rfl,by omega,.inr rfl,hB0,hB1,hC3,hb3⟩
 case round=>
  clear hB0 hB1 hC3 hb3;obtain⟨k,a',cap',hk,rfl,hcap,ha',hB0,hB1,hC,hb⟩:=hrel;by_cases h64:64≤q.length-64*k
  ·obtain rfl:a'=some ⟨w.heap.size+1+1,64*k,none⟩:=by
    rcases ha' with h | h
    ·omega
    ·exact h
   have Hk1:=Lh (Q5.mono Hk.out hb);have Hat:=Lh (A4.take (Dx8 hC (64*k)) 64);have Hl64:=Lh (show((q.drop (64*k)).take 64).length=64 by rw[List.length_take,List.length_drop];omega);have Hnext:=Lh (show Ab5 ⟨s0,s1,s2,s3,s4,s5,s6,s7⟩ q (k+1)=Ah5 (Ab5 ⟨s0,s1,s2,s3,s4,s5,s6,s7⟩ q k) ((q.drop (64*k)).take 64) from rfl);generalize (q.drop (64*k)).take 64=bl at Hat Hl64 Hnext;obtain⟨r,hr⟩:∃r,r=Ab5 ⟨s0,s1,s2,s3,s4,s5,s6,s7⟩ q k:=⟨_,rfl⟩;rw[←hr] at hB0 Hnext;clear hr;obtain⟨c0,c1,c2,c3,c4,c5,c6,c7,-,-⟩:=Al9 hB0;have HB0:=Lh hB0;have HB1:=Lh hB1;have HC:=Lh hC;have hbs:=hb.size;clear hB0 hB1 hC ha';go_wp2_with fail
   have hsl9:∀W,(Instr.sliceAt 22 (.slice (some ⟨w.heap.size+1+1,64*k,none⟩) (q.length-64*k) cap') (some (.int .i64 64)) none none).run Tryz.prog W=.ok (.slice (adv (some ⟨w.heap.size+1+1,64*k,none⟩) cap' 64 1) (q.length-64*k-64) (cap'-64)) W:=fun W=>
    Ax3 (P:=Tryz.prog) Tryz.underlying22 Ai1 W (some ⟨w.heap.size+1+1,64*k,none⟩) (q.length-64*k) cap' 64 (by omega) (by omega)
   have Hcon:=Lh (Ci5 r (some ⟨w.heap.size+1+1,64*k,none⟩) cap' bl wr.drew Hl64.out Hat.out Hk1.out)
   go_region_with ((go_at_call 204;refine Calls.mono Hcon.out ?_;rintro e w' ⟨rfl,hb'⟩;obtain⟨d0,d1,d2,d3,d4,d5,d6,d7,-,-⟩:=Al9 (HB0.out.drew.below hb' HB0.out.lt);have fz:=(HB0.out.drew.below hb' HB0.out.lt).frozen))
   all_goals
    go_wp2_with fail
    exact⟨⟨k+1,_,_,by omega,by rw[show q.length-64*(k+1)=q.length-64*k-64 by omega],by omega,by
     by_cases hc:cap'=64
     ·exact .inl (by omega)
     ·exact .inr (by rw[Dx9 _ _ _ _ hc (by decide),Nat.mul_add]),
     by rw[Hnext.out];exact Co6 (HB0.out.drew.below hb' HB0.out.lt),Ay6 (HB1.out.drew.below hb' HB1.out.lt) (by omega),Ay6 (HC.out.drew.below hb' HC.out.lt) (by omega),Bd9 (hb.drew.trans (hb'.mono hb.size)) (Nat.le_refl _)⟩,by simp[Ao1];omega⟩
  ·have hkn:k=nb q:=by unfold nb;omega
   have Hput:=Lh (show Ab5 ⟨s0,s1,s2,s3,s4,s5,s6,s7⟩ q k=Al4 ⟨s0,s1,s2,s3,s4,s5,s6,s7⟩ q by rw[hkn];rfl);have Hrest:=Lh (show q.drop (64*k)=Aa4 q by rw[hkn];rfl);clear hkn;generalize Ab5 ⟨s0,s1,s2,s3,s4,s5,s6,s7⟩ q k=r at hB0 Hput;have f9:=hB0.frozen 9;obtain⟨-,-,-,-,-,-,-,-,-,c9⟩:=Al9 hB0;have HB0:Hid (Blk (wr.setCell ⟨w.heap.size,9,none⟩ (.slice a' (q.length-64*k) cap')) w.heap.size (O3 r (n+m.length) a' (q.length-64*k) cap')):=hB0.set 9 _;have HB1:Hid (Blk (wr.setCell ⟨w.heap.size,9,none⟩ (.slice a' (q.length-64*k) cap')) (w.heap.size+1) (O3 ⟨0,0,0,0,0,0,0,0⟩ 0 none 0 0)):=hB1.other _ (by simp) _;have HI:=Lh (show(Tryz.prog.info? 210).map (·.size)=some 10 by kernel_rfl);have Hb:=Lh (show Below w.heap.size w (wr.setCell ⟨w.heap.size,9,none⟩ (.slice a' (q.length-64*k) cap')) from hb.setCell (Nat.le_refl _) _);have Hat2:Hid (A4 ((wr.setCell ⟨w.heap.size,9,none⟩ (.slice a' (q.length-64*k) cap')).setRow (w.heap.size+1) (O3 r (n+m.length) a' (q.length-64*k) cap').toArray) a' (q.drop (64*k))):=by
    rcases ha' with h | h
    ·exact .inl (by rw[List.drop_of_length_le (by omega)];rfl)
    ·rw[h];exact Dx8 ((hC.other _ (by simp;omega) _).rowOther _ (by omega) _) _
   have Ha':=Lh ha';clear hB0 hB1 hC ha';go_wp2_with (first
    | (refine C4 210 (.tmp 2) w.heap.size rfl rfl rfl HB0.out Tryz.underlying210 rfl HI.out ?_)
    | (refine I0 210 (.tmp 4) (.tmp 53) (w.heap.size+1) rfl rfl rfl rfl HB1.out HI.out rfl rfl ?_))
   refine bodyPost_ret (v:=.agg (O3 r (n+m.length) a' (q.length-64*k) cap').toArray) (J9 rfl _ _ (w.heap.size+1) rfl (HB1.out.row _) Tryz.underlying210 rfl HI.out) rfl ⟨a',cap',?_,?_,F6 Hb.out (by omega) _,?_⟩
   ·rw[←Hq.out,←Hput.out,←Hrest.out,List.length_drop];rfl
   ·rw[←Hq.out,←Hrest.out];exact Hat2.out
   ·rw[←Hq.out,←Hrest.out];rcases Ha'.out with h | h
    ·exact .inl (List.drop_of_length_le (by omega))
    ·exact .inr ⟨_,h⟩
theorem Ek8(s:R8)(n:Int)(a b:Option Addr)(ca cb:Nat)(l m:List UInt8)(h0:0≤n)(hn:n≤1125899906842624)(hle:(m.length:Int)≤1125899906842624-n)(hsz:l.length+m.length≤2147483647)
 (w:World) (hl:A4 w a l) (hm:A4 w b m) (hk:Q5 w):
 Calls Tryz.prog 194 #[.agg (O3 s n a l.length ca).toArray,.slice b m.length cb] w fun e w'=>
  ∃a' cap',e=.returned (.agg (O3 (Al4 s (l++m)) (n+m.length) a' (Aa4 (l++m)).length cap').toArray)∧A4 w' a' (Aa4 (l++m))∧Below w.heap.size w w':=
 (Ci6 s n a b ca cb l m h0 hn hle hsz w hl hm hk).mono fun _ _ ⟨a',c',h1,h2,h3,_⟩=>⟨a',c',h1,h2,h3⟩
def w4(x:UInt32):List UInt8:=[(x>>>24).toUInt8,(x>>>16).toUInt8,(x>>>8).toUInt8,x.toUInt8]
def R8.bytes(s:R8):List UInt8:=w4 s.a++w4 s.b++w4 s.c++w4 s.d++w4 s.e++w4 s.f++w4 s.g++w4 s.h
def Bn2(s:R8)(l:List UInt8)(n:Nat):List UInt8:=(Al4 s (l++Bq6 n)).bytes
theorem Dy2(l:List UInt8)(k j:Nat)(m:Int)(b:UInt8)(hj:j<8)(hb:(be8 m).getD j 0=b):B8s (l++(128::(List.replicate k 0++(be8 m).take j)))++[.int .u8 (bv b)]=B8s (l++(128::(List.replicate k 0++(be8 m).take (j+1)))):=by
 rw[Ad1 (be8 m) j (by show j<8;exact hj) 0,hb];simp
theorem Bf9{w:World}{b:Nat}{r:R8}(h:Blk w b r.cells):
 w.cell? ⟨b,0,none⟩=some (.int .u32 (uv r.a))∧w.cell? ⟨b,1,none⟩=some (.int .u32 (uv r.b))∧w.cell? ⟨b,2,none⟩=some (.int .u32 (uv r.c))∧w.cell? ⟨b,3,none⟩=some (.int .u32 (uv r.d))∧
 w.cell? ⟨b,4,none⟩=some (.int .u32 (uv r.e))∧w.cell? ⟨b,5,none⟩=some (.int .u32 (uv r.f))∧w.cell? ⟨b,6,none⟩=some (.int .u32 (uv r.g))∧w.cell? ⟨b,7,none⟩=some (.int .u32 (uv r.h)):=
 ⟨h.cell 0 (by show 0<8;decide),h.cell 1 (by show 1<8;decide),h.cell 2 (by show 2<8;decide),h.cell 3 (by show 3<8;decide),h.cell 4 (by show 4<8;decide),h.cell 5 (by show 5<8;decide),h.cell 6 (by show 6<8;decide),h.cell 7 (by show 7<8;decide)⟩
theorem Dy3{w:World}{b:Nat}{r r':R8}(h:Blk w b r.cells):
 Blk ((((((((w.setCell ⟨b,0,none⟩ (.int .u32 (uv r'.a))).setCell ⟨b,1,none⟩ (.int .u32 (uv r'.b))).setCell ⟨b,2,none⟩ (.int .u32 (uv r'.c))).setCell ⟨b,3,none⟩ (.int .u32 (uv r'.d))).setCell ⟨b,4,none⟩ (.int .u32 (uv r'.e))).setCell ⟨b,5,none⟩ (.int .u32 (uv r'.f))).setCell ⟨b,6,none⟩ (.int .u32 (uv r'.g))).setCell ⟨b,7,none⟩ (.int .u32 (uv r'.h))) b r'.cells:=
 (((((((h.set 0 _).set 1 _).set 2 _).set 3 _).set 4 _).set 5 _).set 6 _).set 7 _
theorem Ca4(R:R8)(k:Nat)(h:k<8):R.bytes.take (4*k)++w4 (R.l.getD k 0)=R.bytes.take (4*(k+1)):=by
 rcases lt8 h with rfl | rfl | rfl | rfl | rfl | rfl | rfl | rfl<;>rfl
theorem Ak1(y:UInt32):IntKind.u8.wrap (uv y)=bv y.toUInt8:=by
 unfold uv bv;rw[IntKind.wrap_u8];simp
def z32:List Value:=List.replicate 32 (.int .u8 0)
def Dd0:List Value:=List.replicate 128 (.int .u8 0)
theorem Fd4(n:Nat):zc (n%64)=zc n:=by unfold zc;omega
def Ay7(w:World)(l:List UInt8)(e:Ending)(w':World):Prop:=∃a cap,e=.returned (.slice a l.length cap)∧w'.ownsRow w.heap.size 5 1 (.slice a l.length cap) l.length (B8s l)∧Below w.heap.size w w'
theorem Aw7{w:World}{b b':Nat}{e:TypeId}{size n:Nat}{v:Value}{xs:List Value}(h:w.ownsRow b e size v n xs)(hb:b'≤b):w.ownsRow b' e size v n xs:=
 ⟨h.1,h.2.imp id fun⟨g,cap,cur,hv,hg,r⟩=>⟨g,cap,cur,hv,Nat.le_trans hb hg,r⟩⟩
theorem Ay7.bytes{w:World}{l:List UInt8}{e:Ending}{w':World}(h:Ay7 w l e w'):Ba9 w l e w':=by
 obtain⟨a,c,h1,h2,h3⟩:=h;exact⟨a,c,h1,Ar2 h2,h3⟩
theorem Cf2(s:R8)(n:Nat)(a:Option Addr)(ca:Nat)(l:List UInt8)(hn:n≤1125899906842624)(hr:l.length=n%64)(w:World)(hl:A4 w a l)(hk:Q5 w):
 Calls Tryz.prog 196 #[.agg (O3 s n a l.length ca).toArray] w (Ay7 w (Bn2 s l n)):=by
 have Hl:=Lh hl;have Hk:=Lh hk;have Hr:=Lh hr;have hr64:l.length<64:=by omega
 clear hl hk hr;obtain⟨s0,s1,s2,s3,s4,s5,s6,s7⟩:=s;go_enter Tryz.func196,Tryz.ntmps196
 go_wp2_with fail
 have hmk:∀w,(Instr.makeSlice 22 (.int .i64 0) (.int .i64 128)).run Tryz.prog w=.ok (.slice (some ⟨w.heap.size,0,none⟩) 0 128) (w.alloc (.cells Dd0.toArray 5)):=fun w=>
  Cz0 W5 w .i64 .i64 128 (by decide) (by decide) rfl Dd0 rfl
 generalize hW:World.alloc w _=W;have hB0:Blk W w.heap.size (O3 ⟨s0,s1,s2,s3,s4,s5,s6,s7⟩ n a l.length ca):=by rw[←hW];exact Blk.new _ _ _
 have hb0:Below w.heap.size w W:=by rw[←hW];exact ba _ _
 clear hW;have c9:W.cell? ⟨w.heap.size,9,none⟩=some (.slice a l.length ca):=hB0.cell 9 (by show 9<10;decide);have c9':(W.alloc (.cells Dd0.toArray 5)).cell? ⟨w.heap.size,9,none⟩=some (.slice a l.length ca):=(hB0.alloc _).cell 9 (by show 9<10;decide);have HB0:=Lh hB0;have Hb0:=Lh hb0;have Hat:=Lh (Hl.out.mono hb0);clear hB0 hb0
 go_region_law ((refine Aw4 (.tmp 9) (.tmp 11) 22 rfl rfl W5 rfl (Buf.made W 5 Dd0 0 128 (by decide) rfl (by decide)).drew (sp:=a) (m:=l.length) (news:=B8s l) rfl (Hat.out.mono ((ba W _).trans ((bd _).mono (by simp)))) (by simp) (M4 l) (by omega) (by decide) l.length (by omega) (B8s l) rfl ?_;intro a1 c1 w1 hB1))
 all_goals
  clear c9 c9';have Hz:=Lh (show zc l.length=zc n by rw[Hr.out];exact Fd4 n);obtain⟨Z,hZ⟩:∃Z,Z=zc l.length:=⟨_,rfl⟩;have HZ:=Lh hZ;have hz63:Z≤63:=by rw[hZ];unfold zc;omega
  have hz64:(l.length+1+Z)%64=56:=by rw[hZ];unfold zc;omega
  have hzlt:∀k,k<Z→(l.length+1+k)%64≠56:=by intro k hk;rw[hZ] at hk;unfold zc at hk;omega
  have Hz64:=Lh hz64;have Hzlt:=Lh hzlt;clear hZ hz64 hzlt hmk;go_wp2_with (first
   | (at_builtin;go_must (refine Y7 (.tmp 13) (.tmp 14) 22 rfl rfl W5 rfl (hB1.alloc _) (news:=[.int .u8 128]) rfl (U7 w1 _ _) rfl (by decide) (by omega) (by decide) (l.length+1) rfl (B8s (l++(128::List.replicate 0 0))) (by simp;rfl) ?_;intro a2 c2 w2 hB2))
   | fail)
  clear hB1
  go_loopw [3] (fun v wr=>∃k m:Nat,k≤Z∧m=l.length+1+k∧Buf W wr 5 v m (B8s (l++(128::List.replicate k 0)))) (fun v _=>200-(match v with | .slice _ n _=>n | _=>0))
  case atStart=>exact⟨0,l.length+1,by omega,rfl,hB2⟩
  case round=>
   clear hB2;obtain⟨k,m,hk,hm,hB⟩:=hrel;obtain⟨a2,c2,rfl,-,-⟩:=hB.slice;have HB:=Lh hB;have hm1:m≤130:=by omega
   clear hB;by_cases hlt:k<Z
   ·have hne:((m:Int)%64 != 56)=true:=by have:=Hzlt.out k hlt;simp;omega
    have Hm:=Lh hm;clear hm;go_wp2_with (first
     | (at_builtin;go_must (refine Y7 (.tmp 20) (.tmp 21) 22 rfl rfl W5 rfl (HB.out.alloc _) (news:=[.int .u8 0]) rfl (U7 wr _ _) rfl (by decide) (by omega) (by decide) (m+1) rfl (B8s (l++(128::List.replicate (k+1) 0))) (by rw[List.replicate_succ'];simp;rfl) ?_;intro a3 c3 w3 hB3))
     | fail)
    go_roundw
    case rel=>exact⟨k+1,m+1,by omega,by have:=Hm.out;omega,hB3⟩
    case measure=>simp;omega
   ·obtain⟨Hm,Hm64⟩:Hid (m=l.length+1+Z)∧Hid (m%64=56):=by
     have h:k=Z:=by omega
     subst h;exact⟨hm,by rw[hm];exact Hz64.out⟩
    have hne:((m:Int)%64 != 56)=false:=by have:=Hm64.out;simp;omega
    have Hk2:=Lh (show k=zc n by rw[←Hz.out,←HZ.out];omega);clear hm;go_wp2_with fail
    go_loopw [3,4] (fun v i wr=>∃(j p:Nat) (x:Int),j≤8∧x=56-8*j∧i=.int .i64 x∧p=m+j∧Buf W wr 5 v p (B8s (l++(128::(List.replicate k 0++(be8 (8*n)).take j))))) (fun _ i _=>match i with | .int _ x=>(x+8).toNat | _=>0)
    case atStart=>exact⟨0,m,56,by omega,rfl,rfl,rfl,by simpa using HB.out⟩
    case round=>
     clear HB;obtain⟨j,p,x,hj,hx,rfl,hp,hB⟩:=hrel;obtain⟨a3,c3,rfl,-,-⟩:=hB.slice;have HB:=Lh hB;have hpb:p≤140:=by omega
     clear hB;have Hx:=Lh hx;have Hp:=Lh hp;have c8:wr.cell? ⟨w.heap.size,8,none⟩=some (.int .i64 n):=(HB.out.blk HB0.out).cell 8 (by show 8<10;decide);by_cases hj8:j<8
     ·have hx0:0≤x:=by omega
      have hx1:x≤56:=by omega
      clear hx hp;have hs:=Co7 3 (8*(n:Int)) x .i64 hx0 (by omega);have hw:=Ay2 (8*(n:Int)/2^x.toNat);have hby:=Lh (Dy1 (8*n) x j hj8 Hx.out);have hts:=Lh (Dy2 l k j (8*n) _ hj8 hby.out);clear hby;generalize J3 (8*(n:Int)/2^x.toNat)=by1 at hw hts;go_wp2_with (first
       | (at_builtin;go_must (refine Y7 (.tmp 27) (.tmp 34) 22 rfl rfl W5 rfl (HB.out.alloc _) (news:=[.int .u8 (bv by1)]) rfl (U7 wr _ _) rfl (by simp;rfl) (by omega) (by decide) (p+1) (by omega) (B8s (l++(128::(List.replicate k 0++(be8 (8*n)).take (j+1))))) hts.out ?_;intro a4 c4 w4 hB4))
       | fail)
      go_roundw
      case rel=>exact⟨j+1,p+1,x-8,by omega,by have:=Hx.out;omega,rfl,by have:=Hp.out;omega,hB4⟩
      case measure=>simp;omega
     ·have hx2:x<0:=by omega
      obtain rfl:j=8:=by omega
      have hn0:¬0≤x:=by omega
      clear hx hp hn0 c8;have HT:∃T,T=l++Bq6 n∧A4 wr a3 T∧T.length=p∧p%64=0∧p≤c3:=by
       have h1:=HB.out.at
       have h2:=HB.out.len;have h3:=HB.out.cap;have hk3:=Hk2.out;have hp3:=Hp.out;have hm3:=Hm64.out;subst hk3;refine⟨_,rfl,h1,?_,by omega,h3.2.1⟩;rw[←h2];simp[Bq6,be8]
      obtain⟨T,hT,hTat,hTl,hp64,hpc⟩:=HT;have HTe:=Lh hT;have HTl:=Lh hTl;have HI8:=Lh (show(Tryz.prog.info? 208).map (·.size)=some 8 by kernel_rfl);have Hbel:=Lh (Hb0.out.trans (HB.out.bel.mono Hb0.out.size));have Hkeys:=Lh (Q5.mono Hk.out Hbel.out);have hWs:=Nat.le_trans Hb0.out.size HB.out.size;obtain⟨c0,c1,c2,c3',c4,c5,c6,c7,-,-⟩:=Al9 (HB.out.blk HB0.out);have Hp64:=Lh hp64;clear hT hTl hp64 HB Hx Hp Hm Hm64 Hk2 Hz64 Hzlt Hat HB0;obtain⟨Wm,rfl⟩:∃x,x=wr:=⟨wr,rfl⟩;go_wp2_with fail
      obtain⟨r0,hr0⟩:∃r0,r0=R8.mk s0 s1 s2 s3 s4 s5 s6 s7:=⟨_,rfl⟩;have HR0:=Lh hr0;have hBr:Blk (Wm.alloc (.cells #[.int .u32 (uv s0),.int .u32 (uv s1),.int .u32 (uv s2),.int .u32 (uv s3),.int .u32 (uv s4),.int .u32 (uv s5),.int .u32 (uv s6),.int .u32 (uv s7)] 208)) Wm.heap.size r0.cells:=by
       rw[hr0];exact Blk.new Wm (R8.mk s0 s1 s2 s3 s4 s5 s6 s7).cells _
      have hbr:Below Wm.heap.size Wm (Wm.alloc (.cells #[.int .u32 (uv s0),.int .u32 (uv s1),.int .u32 (uv s2),.int .u32 (uv s3),.int .u32 (uv s4),.int .u32 (uv s5),.int .u32 (uv s6),.int .u32 (uv s7)] 208)):=ba Wm _;generalize World.alloc Wm _=W3 at hBr hbr;clear hr0 c0 c1 c2 c3' c4 c5 c6 c7
      go_loopw [3] (fun v wx=>∃(k:Nat) (a':Option Addr) (cap':Nat),64*k≤p∧v=.slice a' (p-64*k) cap'∧p-64*k≤cap'∧A4 Wm a' (T.drop (64*k))∧Blk wx Wm.heap.size (Ab5 r0 T k).cells∧Below Wm.heap.size Wm wx) (fun v _=>Ao1 v)
      case atStart=>exact⟨0,a3,c3,by omega,rfl,by omega,hTat,hBr,hbr⟩
      case round=>
       clear hTat hBr hbr;obtain⟨k,a',cap',hk,rfl,hcap,hat,hBr,hb⟩:=hrel;by_cases h64:0<p-64*k
       ·have hge:64≤p-64*k:=by have:=Hp64.out;omega
        have Hk1:=Lh ((Hkeys.out.mono hb).mono (bd wr));have Hat:=Lh (((A4.take hat 64).mono hb).mono (bd wr));have Hadv:=Lh (A4.adv (k:=64) hat (cap:=cap') (len:=p-64*k) (by rw[List.length_drop,HTl.out]) hcap);have Hl64:=Lh (show((T.drop (64*k)).take 64).length=64 by rw[List.length_take,List.length_drop,HTl.out];omega);have Hnext:=Lh (show Ab5 r0 T (k+1)=Ah5 (Ab5 r0 T k) ((T.drop (64*k)).take 64) from rfl);generalize (T.drop (64*k)).take 64=bl at Hat Hl64 Hnext;obtain⟨r,hr⟩:∃r,r=Ab5 r0 T k:=⟨_,rfl⟩;rw[←hr] at hBr Hnext;clear hr hat
        obtain⟨c0,c1,c2,c3,c4,c5,c6,c7⟩:=Bf9 hBr;have HBr:=Lh hBr;have hbs:=hb.size;clear hBr;have hsl0:∀W,(Instr.sliceAt 22 (.slice a' (p-64*k) cap') none (some (.int .i64 64)) none).run Tryz.prog W=.ok (.slice a' 64 cap') W:=fun W=>
         Bm7 (P:=Tryz.prog) Tryz.underlying22 Ai1 W a' (p-64*k) cap' 64 (by omega)
        have hsl9:∀W,(Instr.sliceAt 22 (.slice a' (p-64*k) cap') (some (.int .i64 64)) none none).run Tryz.prog W=.ok (.slice (adv a' cap' 64 1) (p-64*k-64) (cap'-64)) W:=fun W=>
         Cn3 (P:=Tryz.prog) Tryz.underlying22 Ai1 W a' (p-64*k) cap' 64 hge
        have Hcon:=Lh (Ci5 r a' cap' bl wr.drew Hl64.out Hat.out Hk1.out);go_wp2_with fail
        go_region_with ((go_at_call 204;refine Calls.mono Hcon.out ?_;rintro e w' ⟨rfl,hb'⟩;obtain⟨d0,d1,d2,d3,d4,d5,d6,d7⟩:=Bf9 (HBr.out.drew.below hb' HBr.out.lt);have fz:=(HBr.out.drew.below hb' HBr.out.lt).frozen))
        all_goals
         go_wp2_with fail
         exact⟨⟨k+1,_,_,by omega,by rw[show p-64*(k+1)=p-64*k-64 by omega],by omega,by
          have h:=Hadv.out;rw[List.drop_drop] at h;exact h,by rw[Hnext.out];exact Dy3 (HBr.out.drew.below hb' HBr.out.lt),Bd9 (hb.drew.trans (hb'.mono hb.size)) (Nat.le_refl _)⟩,by simp[Ao1];omega⟩
       ·have hkn:=Lh (show k=nb T by unfold nb;have:=HTl.out;have:=Hp64.out;omega);have Hput:=Lh (show Ab5 r0 T k=Al4 r0 T by rw[hkn.out];rfl);have hmk:∀w,(Instr.makeSlice 22 (.int .i64 0) (.int .i64 32)).run Tryz.prog w=.ok (.slice (some ⟨w.heap.size,0,none⟩) 0 32) (w.alloc (.cells z32.toArray 5)):=fun w=>
         Cz0 W5 w .i64 .i64 32 (by decide) (by decide) rfl z32 rfl
        generalize Ab5 r0 T k=R at hBr Hput;obtain⟨d0,d1,d2,d3,d4,d5,d6,d7⟩:=Bf9 (hBr.alloc (.cells z32.toArray 5));have hz0:¬0<p-64*k:=h64;have hp0:p-64*k=0:=by omega
        rw[hp0];have Hb:=Lh hb;clear hkn hat hBr hb hp0 hz0 h64 hk hcap;go_wp2_with fail
        have hB1:Buf wr (wr.alloc (.cells z32.toArray 5)) 5 (.slice (some ⟨wr.heap.size,0,none⟩) 0 32) 0 (B8s (R.bytes.take 0)):=Buf.made wr 5 z32 0 32 (by decide) rfl (by decide);obtain⟨Wn,rfl⟩:∃x,x=wr:=⟨wr,rfl⟩;clear d0 d1 d2 d3 d4 d5 d6 d7 hmk
        go_loopw [6,52] (fun v i wx=>∃k m:Nat,k≤8∧m=4*k∧i=.int .i64 k∧Buf Wn wx 5 v m (B8s (R.bytes.take m))) (fun _ i _=>8-(intOf i).toNat)
        case atStart=>exact⟨0,0,by omega,rfl,rfl,hB1⟩
        case round=>
         clear hB1;obtain⟨k,m,hk,hm,rfl,hB⟩:=hrel;obtain⟨a5,c5,rfl,-,-⟩:=hB.slice;have HB:=Lh hB;have hm2:m≤32:=by omega
         have Hm:=Lh hm;clear hB hm;by_cases hlt:k<8
         ·have hidx:∀W,(Instr.index 208 (.agg R.cells.toArray) (.int .i64 k)).run Tryz.prog W=.ok (.int .u32 (uv (R.l.getD k 0))) W:=fun W=>by
           have:=Bp7 (P:=Tryz.prog) Tryz.underlying208 Co2 Co3 R.cells rfl k hlt W
           rwa [Bn1 R k hlt] at this
          have Hst:=Lh (Ca4 R k hlt);generalize R.l.getD k 0=x at hidx Hst;have h24:Op.shift .shr .u32 (uv x) .u64 24=pure (.int .u32 (uv (x>>>24))):=Ac5 0 x 24 (by decide) .u64;have h16:Op.shift .shr .u32 (uv x) .u64 16=pure (.int .u32 (uv (x>>>16))):=Ac5 0 x 16 (by decide) .u64;have h08:Op.shift .shr .u32 (uv x) .u64 8=pure (.int .u32 (uv (x>>>8))):=Ac5 0 x 8 (by decide) .u64;have hw1:=Ak1 (x>>>24);have hw2:=Ak1 (x>>>16);have hw3:=Ak1 (x>>>8);have hw4:=Ak1 x;go_wp2_with (first
           | (at_builtin;go_must (refine Y7 (.tmp 55) (.tmp 67) 22 rfl rfl W5 rfl (HB.out.alloc _) (news:=[.int .u8 (bv (x>>>24).toUInt8),.int .u8 (bv (x>>>16).toUInt8),.int .u8 (bv (x>>>8).toUInt8),.int .u8 (bv x.toUInt8)]) rfl (U7 wr _ _) rfl (by simp;exact⟨rfl,rfl,rfl,rfl⟩) (by omega) (by decide) (m+4) rfl (B8s (R.bytes.take (m+4))) (by rw[Hm.out,show 4*k+4=4*(k+1) by omega,←Hst.out];simp[w4]) ?_;intro a6 c6 w6 hB6))
           | fail)
          go_roundw
          case rel=>exact⟨k+1,m+4,by omega,by have:=Hm.out;omega,by go_num,hB6⟩
          case measure=>simp[intOf];omega
         ·go_wp2_with fail
          go_ret;have h8:k=8:=by omega
          have hm8:m=32:=by rw[Hm.out,h8]
          subst hm8;refine⟨a5,c5,?_,?_,Hbel.out.trans ((Hb.out.trans (HB.out.bel.mono Hb.out.size)).mono Hbel.out.size)⟩
          ·unfold Bn2;rw[←HTe.out,←HR0.out,←Hput.out];rfl
          ·unfold Bn2;rw[←HTe.out,←HR0.out,←Hput.out];exact Aw7 HB.out.own (Nat.le_trans Hbel.out.size Hb.out.size)
theorem El2(s:R8)(n:Nat)(a:Option Addr)(ca:Nat)(l:List UInt8)(hn:n≤1125899906842624)(hr:l.length=n%64)(w:World)(hl:A4 w a l)(hk:Q5 w):
 Calls Tryz.prog 196 #[.agg (O3 s n a l.length ca).toArray] w (Ba9 w (Bn2 s l n)):=
 (Cf2 s n a ca l hn hr w hl hk).mono fun _ _ h=>h.bytes
theorem Dy0(w:World)(A B C:Obj):Below w.heap.size w (((w.alloc A).alloc B).alloc C):=
 ((ba w _).trans ((ba _ _).mono (by simp))).trans ((ba _ _).mono (by simp;omega))
theorem Dc9(w:World)(A B:Obj)(e:TypeId):(((w.alloc A).alloc B).alloc (.cells #[] e)).ownsRow (w.heap.size+1+1) e 1 (.slice (some ⟨w.heap.size+1+1,0,none⟩) 0 0) 0 []:=by
 have:=World.ownsRow_made (base:=w.heap.size+1+1) (e:=e) (size:=1) ((w.alloc A).alloc B) #[] 0 (by simp) (by decide) (by simp);rw[World.size_alloc,World.size_alloc] at this;exact this
theorem Bv8{P:Program}{ops:Array Oper}{rest:List Oper}{o:Oper}{a:Act}{w:World}{Q:Exit→Act→World→Prop}(s x:Operand)(t:TypeId){e:TypeId}{size bytes:Nat}{z:Value}(hgd:o.guard=none)
 (ho:o.op=.call {callee:=.builtin .append,args:=#[s,x],argTypes:=#[t,t]}) (E:Ad4 P t e size bytes z) {base n:Nat} {v:Value} {xs:List Value} (hs:a.eval s=v) (hown:w.ownsRow base e size v n xs)
 {sp:Option Addr} {m c:Nat} {news:List Value} (k:Nat) (hk:n+m=k) (ys:List Value) (hys:xs++news=ys) (hx:a.eval x=.slice sp m c) (hS:At w sp news) (hl:news.length=m*size) (h1:∀u∈news,u.oneCell'=true) (h63:k≤maxLen) (hbytes:k*bytes≤140737488355328) (hbase:base≤w.heap.size)
 (h:∀a' cap' w',w'.ownsRow base e size (.slice a' k cap') k ys→w.grownBy w' v.ownBlock→wpList P ops Q rest (a.put o.dst (.slice a' k cap')) w'):wpList P ops Q (o::rest) a w:=by
 subst hk hys;exact Db3 s x t hgd ho E hs hown hx hS hl h1 h63 hbytes hbase h
theorem Blk.grown{w w':World}{b:Nat}{cs:List Value}(h:Blk w b cs){base:Nat}{e:TypeId}{size n:Nat}{v:Value}{xs:List Value}(hg:w.grownBy w' v.ownBlock)(hown:w.ownsRow base e size v n xs)(hlt:b<base):Blk w' b cs:=by
 have hl:=h.lt;obtain⟨T,hT⟩:=h;exact⟨T,by rw[hg.block b hl (by intro he;have:=(hown.lt b he.symm).1;omega)];exact hT⟩
theorem Ci7(w:World)(A B:List Value)(TA TB T:TypeId):Blk (((w.alloc (.cells A.toArray TA)).alloc (.cells B.toArray TB)).alloc (.cells #[] T)) w.heap.size A∧Blk (((w.alloc (.cells A.toArray TA)).alloc (.cells B.toArray TB)).alloc (.cells #[] T)) (w.heap.size+1) B:=by
 have:=Blk.new (w.alloc (.cells A.toArray TA)) B TB;rw[World.size_alloc] at this;exact⟨((Blk.new w A TA).alloc _).alloc _,this.alloc _⟩
def Au1(B:Nat)(w:World)(a:Option Addr)(xs:List Value):Prop:=xs=[]∨∃g off,a=some ⟨g,off,none⟩∧B≤g∧g<w.heap.size∧∀i,i<xs.length→w.cell? ⟨g,off+i,none⟩=some (xs.getD i undef)
theorem Au1.at{B:Nat}{w:World}{a:Option Addr}{xs:List Value}(h:Au1 B w a xs):At w a xs:=by
 rcases h with h | ⟨g,off,h1,h2,h3,h4⟩
 ·exact .inl h
 ·exact .inr ⟨g,off,h1,h3,h4⟩
theorem Au1.set{B b i:Nat}{w:World}{a:Option Addr}{xs:List Value}(h:Au1 B w a xs)(hb:b<B)(v:Value):Au1 B (w.setCell ⟨b,i,none⟩ v) a xs:=by
 rcases h with h | ⟨g,off,h1,h2,h3,h4⟩
 ·exact .inl h
 ·refine .inr ⟨g,off,h1,h2,by simpa using h3,fun j hj=>?_⟩;rw[←h4 j hj];exact World.cell?_of_block (Below.heap_setCell _ _ _ _ (by show g≠b;omega))
theorem Au1.row{B b:Nat}{w:World}{a:Option Addr}{xs:List Value}(h:Au1 B w a xs)(hb:b<B)(ds:Array Value):Au1 B (w.setRow b ds) a xs:=by
 rcases h with h | ⟨g,off,h1,h2,h3,h4⟩
 ·exact .inl h
 ·refine .inr ⟨g,off,h1,h2,by simpa using h3,fun j hj=>?_⟩;rw[←h4 j hj];exact World.cell?_of_block (setRow_other w b g ds (by omega))
theorem Au1.set8{w:World}{B b:Nat}{a:Option Addr}{xs:List Value}{v0 v1 v2 v3 v4 v5 v6 v7:Value}(h:Au1 B w a xs)(hb:b<B):
 Au1 B ((((((((w.setCell ⟨b,0,none⟩ v0).setCell ⟨b,1,none⟩ v1).setCell ⟨b,2,none⟩ v2).setCell ⟨b,3,none⟩ v3).setCell ⟨b,4,none⟩ v4).setCell ⟨b,5,none⟩ v5).setCell ⟨b,6,none⟩ v6).setCell ⟨b,7,none⟩ v7) a xs:=
 (((((((h.set hb _).set hb _).set hb _).set hb _).set hb _).set hb _).set hb _).set hb _
theorem Au1.below{B C:Nat}{w w':World}{a:Option Addr}{xs:List Value}(h:Au1 B w a xs)(hb:Below C w w')(hC:w.heap.size≤C):Au1 B w' a xs:=by
 rcases h with h | ⟨g,off,h1,h2,h3,h4⟩
 ·exact .inl h
 ·refine .inr ⟨g,off,h1,h2,Nat.lt_of_lt_of_le h3 hb.size,fun j hj=>?_⟩;rw[←h4 j hj];exact hb.cell (p:=⟨g,off+j,none⟩) (by show g<C;omega)
theorem Fd3{w:World}{base:Nat}{e:TypeId}{size n cap:Nat}{a:Option Addr}{xs:List Value}(h:w.ownsRow base e size (.slice a n cap) n xs):Au1 base w a xs:=by
 rcases Ar2 h with h1 | ⟨g,off,h1,h2,h3⟩
 ·exact .inl h1
 ·exact .inr ⟨g,off,h1,(h.lt g (by rw[h1];rfl)).1,h2,h3⟩
def Cf1(w:World)(s:R8)(n:Int)(rest:List UInt8)(e:Ending)(w':World):Prop:=∃a' cap',e=.returned (.agg (O3 s n a' rest.length cap').toArray)∧A4 w' a' rest∧Below w.heap.size w w'
theorem Cv7(s:R8)(n:Int)(a b:Option Addr)(ca cb:Nat)(l m:List UInt8)(h0:0≤n)(hn:n≤1125899906842624)(hle:(m.length:Int)≤1125899906842624-n)(hsz:l.length+m.length≤2147483647)
 (w:World) (hl:A4 w a l) (hm:A4 w b m):
 Calls Tryz.prog 170 #[.agg (O3 s n a l.length ca).toArray,.slice b m.length cb] w (Cf1 w (Al4 s (l++m)) (n+m.length) (Aa4 (l++m))):=by
 have Hl:=Lh hl;have Hm:=Lh hm;clear hl hm;obtain⟨s0,s1,s2,s3,s4,s5,s6,s7⟩:=s;go_enter Tryz.func170,Tryz.ntmps170
 go_wp2_with (first
  | (at_builtin;first
      | (refine Bv8 (.tmp 15) (.tmp 17) 22 rfl rfl W5 (base:=w.heap.size+1+1) (n:=0) (xs:=[]) rfl (Dc9 w _ _ _) (sp:=a) (m:=l.length) (news:=B8s l) l.length (Nat.zero_add _) (B8s l) (List.nil_append _) rfl (At.mono Hl.out (Dy0 w _ _ _)) (by simp) (M4 l) (by unfold maxLen;omega) (by omega) (by simp) ?_
         intro a1 c1 w1 ho1 hg1;have hb1:Below w.heap.size w w1:=V3 (Dy0 w _ _ _) (Dc9 w _ _ _) hg1 (by simp;omega) (by omega);have hz1:w.heap.size+1+1≤w1.heap.size:=by have:=hg1.size;simp at this;omega
         have hB0:Blk w1 w.heap.size (O3 ⟨s0,s1,s2,s3,s4,s5,s6,s7⟩ n a l.length ca):=Blk.grown (Ci7 w (O3 ⟨s0,s1,s2,s3,s4,s5,s6,s7⟩ n a l.length ca) (O3 ⟨0,0,0,0,0,0,0,0⟩ 0 none 0 0) _ _ _).1 hg1 (Dc9 w _ _ _) (by omega);have hB1:Blk w1 (w.heap.size+1) (O3 ⟨0,0,0,0,0,0,0,0⟩ 0 none 0 0):=Blk.grown (Ci7 w (O3 ⟨s0,s1,s2,s3,s4,s5,s6,s7⟩ n a l.length ca) (O3 ⟨0,0,0,0,0,0,0,0⟩ 0 none 0 0) _ _ _).2 hg1 (Dc9 w _ _ _) (by omega);clear hg1)
      | (refine Bv8 (.tmp 18) (.tmp 19) 22 rfl rfl W5 (base:=w.heap.size+1+1) (n:=l.length) (xs:=B8s l) rfl ho1 (sp:=b) (m:=m.length) (news:=B8s m) (l.length+m.length) rfl (B8s (l++m)) (by simp) rfl (At.mono Hm.out hb1) (by simp) (M4 m) (by unfold maxLen;omega) (by omega) hz1 ?_
         intro a2 c2 w2 ho2 hg2;have hb2:Below w.heap.size w w2:=V3 hb1 ho1 hg2 (by omega) (by omega);have hz2:w.heap.size+1+1≤w2.heap.size:=Nat.le_trans hz1 hg2.size;have hC0:=hB0.grown hg2 ho1 (by omega);have hC1:=hB1.grown hg2 ho1 (by omega);have hq2:=Fd3 ho2;have hcap2:l.length+m.length≤c2∧c2≤maxLen:=by
          obtain⟨_,_,h,h2,h3⟩:=U6 ho2;cases h;exact⟨h2,h3⟩
         clear hB0 hB1 hg2 ho1 ho2 hb1 hz1))
  | (go_at_call 198;go_must (refine(Co5 _).mono ?_;rintro e w3 ⟨rfl,rfl⟩))
  | fail)
 obtain⟨q,hq⟩:∃q,q=l++m:=⟨_,rfl⟩;rw[←hq] at hq2;have hlen:l.length+m.length=q.length:=by rw[hq];simp
 have Hq:=Lh hq;clear hq;rw[hlen] at hcap2 hsz ⊢;have hK:Blk (w2.alloc (.cells (Ai4 Ak4).toArray 110)) w2.heap.size (Ai4 Ak4):=Blk.new _ _ _;have hD0:=hC0.alloc (.cells (Ai4 Ak4).toArray 110);have hD1:=hC1.alloc (.cells (Ai4 Ak4).toArray 110);have hqq:=hq2.below (ba w2 (.cells (Ai4 Ak4).toArray 110)) (Nat.le_refl _);have hbb:Below w.heap.size w (w2.alloc (.cells (Ai4 Ak4).toArray 110)):=hb2.trans ((ba _ _).mono hb2.size);obtain⟨gk,hgk⟩:∃gk,gk=w2.heap.size:=⟨_,rfl⟩;rw[←hgk] at hK hz2 ⊢;generalize w2.alloc _=W3 at hK hD0 hD1 hqq hbb;clear hC0 hC1 hq2 hb2 hlen hgk
 go_loopw [7] (fun v wr=>∃k t:Nat,t=64*k∧64*k≤q.length∧v=.int .i64 (t:Int)∧Blk wr w.heap.size (O3 (Ab5 ⟨s0,s1,s2,s3,s4,s5,s6,s7⟩ q k) n a l.length ca)∧Blk wr (w.heap.size+1) (O3 ⟨0,0,0,0,0,0,0,0⟩ 0 none 0 0)∧Au1 (w.heap.size+1+1) wr a2 (B8s q)∧Blk wr gk (Ai4 Ak4)∧Below w.heap.size w wr) (fun v _=>q.length-(match v with | .int _ i=>i.toNat | _=>0))
 case atStart=>exact⟨0,0,rfl,by omega,rfl,hD0,hD1,hqq,hK,hbb⟩
 case round=>
  clear hD0 hD1 hqq hK hbb;obtain⟨k,t,ht,hk,rfl,hB0,hB1,hQ,hKk,hb⟩:=hrel;by_cases h64:64≤q.length-64*k
  ·have Hnext:=Lh (show Ab5 ⟨s0,s1,s2,s3,s4,s5,s6,s7⟩ q (k+1)=Ah5 (Ab5 ⟨s0,s1,s2,s3,s4,s5,s6,s7⟩ q k) ((q.drop (64*k)).take 64) from rfl);obtain⟨r,hr⟩:∃r,r=Ab5 ⟨s0,s1,s2,s3,s4,s5,s6,s7⟩ q k:=⟨_,rfl⟩;rw[←hr] at hB0 Hnext;clear hr;obtain⟨c0,c1,c2',c3,c4,c5,c6,c7,-,-⟩:=Al9 hB0;have Hcon:=Lh (Co4 r a2 (some ⟨gk,0,none⟩) t q.length c2 64 q wr rfl (by omega) (by omega) hQ.at hKk.at);have HB0:=Lh hB0;have HB1:=Lh hB1;have HC:=Lh hQ;have HK:=Lh hKk;have hbs:=hb.size;clear hB0 hB1 hQ hKk;have hge:(64:Int)≤↑q.length-↑t:=by omega
   have Ht:=Lh ht;clear ht hk h64;go_wp2_with (first
    | (go_at_call 199;go_must (refine Calls.mono Hcon.out ?_;rintro e w' ⟨rfl,hb'⟩;obtain⟨d0,d1,d2,d3,d4,d5,d6,d7,-,-⟩:=Al9 (HB0.out.below hb' HB0.out.lt);have fz:=(HB0.out.below hb' HB0.out.lt).frozen))
    | fail)
   exact⟨⟨k+1,t+64,by have:=Ht.out;omega,by have:=Ht.out;omega,by simp,by rw[Hnext.out,←Ht.out];exact Co6 (HB0.out.below hb' HB0.out.lt),Ay6 (HB1.out.below hb' HB1.out.lt) (by omega),(HC.out.below hb' (Nat.le_refl _)).set8 (by omega),Ay6 (HK.out.below hb' HK.out.lt) (by omega),Bd9 (hb.trans (hb'.mono hb.size)) (Nat.le_refl _)⟩,by simp;omega⟩
  ·have hkn:k=nb q:=by unfold nb;omega
   have Hput:=Lh (show Ab5 ⟨s0,s1,s2,s3,s4,s5,s6,s7⟩ q k=Al4 ⟨s0,s1,s2,s3,s4,s5,s6,s7⟩ q by rw[hkn];rfl);have Hrest:=Lh (show q.drop t=Aa4 q by rw[ht,hkn];rfl);have htl:t≤q.length:=by omega
   have hge:¬(64:Int)≤↑q.length-↑t:=by omega
   clear hkn ht hk h64;generalize Ab5 ⟨s0,s1,s2,s3,s4,s5,s6,s7⟩ q k=r at hB0 Hput;obtain⟨-,-,-,-,-,-,-,-,c8,c9⟩:=Al9 hB0;have fz:=hB0.frozen;have hsl:∀W,(Instr.sliceAt 22 (.slice a2 q.length c2) (some (.int .i64 t)) none none).run Tryz.prog W=.ok (.slice (adv a2 c2 t 1) (q.length-t) (c2-t)) W:=fun W=>by
    have:=Ax3 (P:=Tryz.prog) Tryz.underlying22 Ai1 W a2 q.length c2 t (by omega) (by omega)
    rwa [Int.toNat_natCast] at this
   have HB0:Hid (Blk ((wr.setCell ⟨w.heap.size,8,none⟩ (.int .i64 (n+m.length))).setCell ⟨w.heap.size,9,none⟩ (.slice (adv a2 c2 t 1) (q.length-t) (c2-t))) w.heap.size (O3 r (n+m.length) (adv a2 c2 t 1) (q.length-t) (c2-t))):=(hB0.set 8 _).set 9 _;have HB1:Hid (Blk ((wr.setCell ⟨w.heap.size,8,none⟩ (.int .i64 (n+m.length))).setCell ⟨w.heap.size,9,none⟩ (.slice (adv a2 c2 t 1) (q.length-t) (c2-t))) (w.heap.size+1) (O3 ⟨0,0,0,0,0,0,0,0⟩ 0 none 0 0)):=(hB1.other _ (by simp) _).other _ (by simp) _;have HI:=Lh (show(Tryz.prog.info? 210).map (·.size)=some 10 by kernel_rfl);have Hb:=Lh (show Below w.heap.size w ((wr.setCell ⟨w.heap.size,8,none⟩ (.int .i64 (n+m.length))).setCell ⟨w.heap.size,9,none⟩ (.slice (adv a2 c2 t 1) (q.length-t) (c2-t))) from(hb.setCell (Nat.le_refl _) _).setCell (Nat.le_refl _) _);have Hat2:Hid (A4 (((wr.setCell ⟨w.heap.size,8,none⟩ (.int .i64 (n+m.length))).setCell ⟨w.heap.size,9,none⟩ (.slice (adv a2 c2 t 1) (q.length-t) (c2-t))).setRow (w.heap.size+1) (O3 r (n+m.length) (adv a2 c2 t 1) (q.length-t) (c2-t)).toArray) (adv a2 c2 t 1) (q.drop t)):=by
    have h:=(((hQ.set (b:=w.heap.size) (i:=8) (by omega) (.int .i64 (n+m.length))).set (b:=w.heap.size) (i:=9) (by omega) (.slice (adv a2 c2 t 1) (q.length-t) (c2-t))).row (b:=w.heap.size+1) (by omega) (O3 r (n+m.length) (adv a2 c2 t 1) (q.length-t) (c2-t)).toArray).at
    exact A4.adv h (len:=q.length) rfl hcap2.1
   clear hB0 hB1 hQ hKk hb hcap2;go_wp2_with (first
    | (refine C4 210 (.tmp 2) w.heap.size rfl rfl rfl HB0.out Tryz.underlying210 rfl HI.out ?_)
    | (refine I0 210 (.tmp 4) (.tmp 46) (w.heap.size+1) rfl rfl rfl rfl HB1.out HI.out rfl rfl ?_))
   refine bodyPost_ret (v:=.agg (O3 r (n+m.length) (adv a2 c2 t 1) (q.length-t) (c2-t)).toArray) (J9 rfl _ _ (w.heap.size+1) rfl (HB1.out.row _) Tryz.underlying210 rfl HI.out) rfl ⟨adv a2 c2 t 1,c2-t,?_,?_,F6 Hb.out (by omega) _⟩
   ·rw[←Hq.out,←Hput.out,←Hrest.out,List.length_drop]
   ·rw[←Hq.out,←Hrest.out];exact Hat2.out
end Go.Proofs.YtadpiemjgfndgaaGreatDoor
namespace Go.Proofs.YtadpiemjgfndgaaGreatDoor
open Go.ChangeShapes Go.WideShapes Go.ChangeAt Go.RowKit
theorem Em1(l:List Int)(h:∀n∈l,(Lit.int .u8 n).wf=true):∃m:List UInt8,l=m.map bv:=by
 induction l with
 | nil=>exact⟨[],rfl⟩
 | cons x l ih=>
   obtain⟨m,rfl⟩:=ih fun n hn=>h n (List.mem_cons_of_mem _ hn);obtain⟨b,rfl⟩:=Dw0 (h x List.mem_cons_self);exact⟨b::m,rfl⟩
def Ae9(w:World)(a:Option Addr)(len cap:Nat)(l:List UInt8):Prop:=len=l.length∧len≤cap∧cap≤maxLen∧A4 w a l
theorem Ak5{H:Type}{enc:TypeId×Value→H}{P:Program}{w:World}{t e:TypeId}{a:Option Addr}{len cap:Nat}{d:DataW H}{ps:List MemPlace}
 (ht:P.underlying t=some (.slice e)) (he:P.underlying e=some (.int .u8)) (hc:P.cellsOf e=1)
 (h:DataW.Trod enc P w 0 (fun _=>true) true t (.slice a len cap) d ps):∃l:List UInt8,Ae9 w a len cap l:=by
 obtain⟨l,rfl,h1,h2,h3,h4⟩:=Ew2 ht he hc h;obtain⟨m,rfl⟩:=Em1 l h4;refine⟨m,by simp,by simpa using h1,h2,?_⟩;have h5:At w a ((m.map bv).map (Value.int .u8)):=h3;rw[List.map_map] at h5;exact h5
end Go.Proofs.YtadpiemjgfndgaaGreatDoor
namespace Go.Proofs.YtadpiemjgfndgaaGreatDoor
open Go.RowKit
structure Fd where
 buf:List UInt8
 skip:Int
 bad:Int
def M5(b:List UInt8):Nat:=256*(b.getD 0 0).toNat+(b.getD 1 0).toNat
def Br6(n:Int):Int:=IntKind.i64.wrap (n+1)
def Aa5(s:Fd)(c:UInt8):Fd×List UInt8:=
 if 0<s.skip then(⟨s.buf,s.skip-1,s.bad⟩,[])
 else if s.buf.length+1<2 then(⟨s.buf++[c],s.skip,s.bad⟩,[])
 else if M5 (s.buf++[c])=0∨1024<M5 (s.buf++[c]) then(⟨[],M5 (s.buf++[c]),Br6 s.bad⟩,[])
 else if s.buf.length+1<M5 (s.buf++[c])+2 then(⟨s.buf++[c],s.skip,s.bad⟩,[])
 else(⟨[],0,s.bad⟩,(s.buf++[c]).drop 2)
def got(x:List UInt8):List (List UInt8):=if x=[] then[] else[x]
def Z5(s:Fd):List UInt8→Fd×List (List UInt8)
 | []=>(s,[])
 | c::t=>((Z5 (Aa5 s c).1 t).1,got (Aa5 s c).2++(Z5 (Aa5 s c).1 t).2)
theorem Cw7(s:Fd)(a b:List UInt8):Z5 s (a++b)=((Z5 (Z5 s a).1 b).1,(Z5 s a).2++(Z5 (Z5 s a).1 b).2):=by
 induction a generalizing s with
 | nil=>simp[Z5]
 | cons c t ih=>simp only[List.cons_append,Z5,ih,List.append_assoc]
theorem Ck0(s:Fd)(a:List UInt8)(c:UInt8):Z5 s (a++[c])=((Aa5 (Z5 s a).1 c).1,(Z5 s a).2++got (Aa5 (Z5 s a).1 c).2):=by
 rw[Cw7];simp[Z5]
def Bi9(b:List UInt8):Prop:=2≤b.length→1≤M5 b∧M5 b≤1024∧b.length<M5 b+2
theorem Cr3(x y:List UInt8)(h:2≤x.length):M5 (x++y)=M5 x:=by
 match x,h with
 | a::b::t,_=>simp[M5]
theorem Ea5{x y:List UInt8}(h:Bi9 (x++y)):Bi9 x:=by
 intro hx;have:=h (by simp;omega);rw[Cr3 x y hx] at this;simp at this;omega
theorem En9(bad:Int)(y:List UInt8):∀x,Bi9 (x++y)→Z5 ⟨x,0,bad⟩ y=(⟨x++y,0,bad⟩,[]):=by
 induction y with
 | nil=>intro x _;simp[Z5]
 | cons c t ih=>
   intro x h;have h1:Bi9 (x++[c]):=by
    have:x++c::t=(x++[c])++t:=by simp
    rw[this] at h;exact Ea5 h
   have e:Aa5 ⟨x,0,bad⟩ c=(⟨x++[c],0,bad⟩,[]):=by
    unfold Aa5;rw[if_neg (by simp)];by_cases h2:x.length+1<2
    ·rw[if_pos h2]
    ·rw[if_neg h2];have:=h1 (by simp;omega);simp only[List.length_append,List.length_singleton] at this;rw[if_neg (by simp only;omega),if_pos (by simp only;omega)]
   have h2:=ih (x++[c]) (by simpa using h);simp only[Z5,e,h2];simp[got]
theorem Eo0(bad:Int)(y:List UInt8)(h:Bi9 y):Z5 ⟨[],0,bad⟩ y=(⟨y,0,bad⟩,[]):=by
 have:=En9 bad y [] (by simpa using h)
 simpa using this
theorem Ea6(bad:Int)(x:List UInt8)(h1:1≤M5 x)(h2:M5 x≤1024)(h3:x.length=M5 x+2):Z5 ⟨[],0,bad⟩ x=(⟨[],0,bad⟩,[x.drop 2]):=by
 have hne:x≠[]:=by intro h;subst h;simp at h3
 obtain⟨y,c,rfl⟩:∃y c,x=y++[c]:=⟨x.dropLast,x.getLast hne,(List.dropLast_concat_getLast hne).symm⟩;simp only[List.length_append,List.length_singleton] at h3;have hw:Bi9 y:=by
  intro hy;rw[Cr3 y [c] hy] at h1 h2 h3;omega
 rw[Ck0,Eo0 bad y hw];have e:Aa5 ⟨y,0,bad⟩ c=(⟨[],0,bad⟩,(y++[c]).drop 2):=by
  unfold Aa5;rw[if_neg (by simp),if_neg (by simp only;omega),if_neg (by simp only;omega),if_neg (by simp only;omega)]
 have hd:(y++[c]).drop 2≠[]:=by
  intro h;have:=congrArg List.length h;simp only[List.length_drop,List.length_append,List.length_singleton,List.length_nil] at this;omega
 simp only[e,got,hd,if_false,List.nil_append]
abbrev R(skip bad:Int)(A:List UInt8):Fd×List (List UInt8):=Z5 ⟨[],skip,bad⟩ A
def Y6(s:Fd):Bool:=
 bif (decide (s.skip<0) || decide (65535<s.skip)) || (decide (0<s.skip)&&decide (0<s.buf.length)) then false
 else bif decide (s.buf.length<2) then true
 else decide (1≤M5 s.buf)&&decide (M5 s.buf≤1024)&&decide (s.buf.length<M5 s.buf+2)
theorem Bg3(s:Fd):Y6 s=true↔0≤s.skip∧s.skip≤65535∧(s.skip=0∨s.buf=[])∧Bi9 s.buf:=by
 unfold Y6 Bi9;by_cases h1:s.skip<0
 ·simp[h1];intro h;omega
 ·by_cases h2:65535<s.skip
  ·simp[h2];intro _ h;omega
  ·by_cases h3:0<s.skip∧0<s.buf.length
   ·simp[h3,h1,h2];intro _ _ h;rcases h with h | h
    ·omega
    ·rw[h] at h3;simp at h3
   ·have h3':s.skip=0∨s.buf=[]:=by
     by_cases h4:0<s.skip
     ·right;exact List.eq_nil_of_length_eq_zero (by omega)
     ·left;omega
    have e:(decide (0<s.skip)&&decide (0<s.buf.length))=false:=by
     rw[←Bool.decide_and];exact decide_eq_false h3
    have e1:decide (s.skip<0)=false:=decide_eq_false h1;have e2:decide (65535<s.skip)=false:=decide_eq_false h2;simp only[e,e1,e2,Bool.or_self,cond_false];by_cases h5:s.buf.length<2
    ·simp[h5,h3'];refine⟨by omega,by omega,fun h=>by omega⟩
    ·simp[h5];constructor
     ·rintro⟨⟨a,b⟩,c⟩;exact⟨by omega,by omega,h3',fun _=>⟨a,b,c⟩⟩
     ·rintro⟨_,_,_,h⟩;obtain⟨a,b,c⟩:=h (by omega);exact⟨⟨a,b⟩,c⟩
theorem Bf2(b:List UInt8):M5 b≤65535:=by
 unfold M5;have:=(b.getD 0 0).toNat_lt;have:=(b.getD 1 0).toNat_lt;omega
theorem Ea7{s:Fd}(h:Y6 s=true)(c:UInt8):Y6 (Aa5 s c).1=true:=by
 obtain⟨h1,h2,h3,h4⟩:=(Bg3 s).1 h;rw[Bg3];unfold Aa5;by_cases h5:0<s.skip
 ·rw[if_pos h5];have:s.buf=[]:=h3.resolve_left (by omega);exact⟨by simp only;omega,by simp only;omega,.inr this,h4⟩
 ·rw[if_neg h5];have h0:s.skip=0:=by omega
  by_cases h6:s.buf.length+1<2
  ·rw[if_pos h6];exact⟨h1,h2,.inl h0,fun h=>by simp at h;omega⟩
  ·rw[if_neg h6];have:=Bf2 (s.buf++[c]);by_cases h7:M5 (s.buf++[c])=0∨1024<M5 (s.buf++[c])
   ·rw[if_pos h7];exact⟨by simp only;omega,by simp only;omega,.inr rfl,fun h=>by simp at h⟩
   ·rw[if_neg h7];by_cases h8:s.buf.length+1<M5 (s.buf++[c])+2
    ·rw[if_pos h8];refine⟨h1,h2,.inl h0,fun _=>?_⟩;show 1≤M5 (s.buf++[c])∧M5 (s.buf++[c])≤1024∧(s.buf++[c]).length<M5 (s.buf++[c])+2;rw[List.length_append];exact⟨by omega,by omega,h8⟩
    ·rw[if_neg h8];exact⟨by simp,by simp,.inl rfl,fun h=>by simp at h⟩
theorem Ea8{s:Fd}(h:Y6 s=true)(b:List UInt8):Y6 (Z5 s b).1=true:=by
 induction b generalizing s with
 | nil=>exact h
 | cons c t ih=>exact ih (Ea7 h c)
structure G where
 no:Int
 a:Option Addr
 len:Nat
 cap:Nat
abbrev G0:G:=⟨0,none,0,0⟩
abbrev Cg7(g:G):Value:=.agg #[.int .i64 g.no,.slice g.a g.len g.cap]
abbrev Bc1(c o p:G)(l t:Int):Value:=.agg #[.int .i64 c.no,.slice c.a c.len c.cap,.int .i64 o.no,.slice o.a o.len o.cap,.int .i64 p.no,.slice p.a p.len p.cap,.int .i64 l,.int .i64 t]
def U3(g:G):Bool:=(g.no==0)&&((g.len:Int)==0)
def Af2(g:G):Bool:=decide (1≤g.no)&&(decide (g.no≤2147483647)&&((g.len:Int)==32))
def Ai9(c o p:G)(l t:Int):Bool:=U3 c&&(U3 o&&(U3 p&&((l==0)&&(t==0))))
def By7(c o:G)(l:Int):Bool:=bif U3 o then l==0 else Af2 o&&(decide (o.no<c.no)&&(decide (1≤l)&&decide (l≤16)))
def Cm7(c p:G):Bool:=U3 p || (Af2 p&&decide (c.no<p.no))
def Cg8(c p:G)(t:Int):Bool:=decide (c.no≤t)&&(decide (p.no≤t)&&decide (t≤2147483647))
def Af0(c o p:G)(l t:Int):Bool:=Ai9 c o p l t || (Af2 c&&(By7 c o l&&(Cm7 c p&&Cg8 c p t)))
theorem Bb3(g:G)(w:World):
 Calls Tryz.prog 137 #[Cg7 g] w fun e w'=>e=.returned (.bool (U3 g))∧Below w.heap.size w w':=by
 go_enter Tryz.func137,Tryz.ntmps137
 go_wp2_with fail
 all_goals
  go_ret;exact⟨by simp[U3, *],ba w _⟩
theorem Au7(g:G)(w:World):
 Calls Tryz.prog 147 #[Cg7 g] w fun e w'=>e=.returned (.bool (U3 g))∧Below w.heap.size w w':=by
 go_enter Tryz.func147,Tryz.ntmps147
 go_wp2_with fail
 all_goals
  go_ret;exact⟨by simp[U3, *],ba w _⟩
theorem By8(g:G)(w:World):
 Calls Tryz.prog 156 #[Cg7 g] w fun e w'=>e=.returned (.bool (Af2 g))∧Below w.heap.size w w':=by
 go_enter Tryz.func156,Tryz.ntmps156
 go_wp2_with fail
 all_goals
  go_ret;exact⟨by(try simp only[Int.not_lt,Int.not_le] at *);simp[Af2, *];try omega,ba w _⟩
theorem Au8(g:G)(w:World):
 Calls Tryz.prog 146 #[Cg7 g] w fun e w'=>e=.returned (.bool (Af2 g))∧Below w.heap.size w w':=by
 go_enter Tryz.func146,Tryz.ntmps146
 go_wp2_with fail
 all_goals
  go_ret;exact⟨by(try simp only[Int.not_lt,Int.not_le] at *);simp[Af2, *];try omega,ba w _⟩
theorem Bu2(c o p:G)(l t:Int)(w:World):
 Calls Tryz.prog 166 #[Bc1 c o p l t] w fun e w'=>e=.returned (.agg #[.int .i64 c.no,.slice c.a c.len c.cap,.int .i64 o.no,.slice o.a o.len o.cap,.int .i64 p.no,.slice p.a p.len p.cap])∧Below w.heap.size w w':=by
 go_enter Tryz.func166,Tryz.ntmps166
 go_wp2_with fail
 refine bodyPost_ret (v:=.agg #[.int .i64 c.no,.slice c.a c.len c.cap,.int .i64 o.no,.slice o.a o.len o.cap,.int .i64 p.no,.slice p.a p.len p.cap]) (by simp[results,Tryz.results166,go_sem]) rfl ⟨rfl,bt (ba w _) (ba _ _)⟩
theorem By9(a b c:Value)(x y z:Value)(w:World):(Instr.index 203 (.agg #[a,b,c,x,y,z]) (.int .i64 0)).run Tryz.prog w=.ok (.agg #[a,b]) w:=by kernel_rfl
theorem Bz0(a b c:Value)(x y z:Value)(w:World):(Instr.index 203 (.agg #[a,b,c,x,y,z]) (.int .i64 1)).run Tryz.prog w=.ok (.agg #[c,x]) w:=by kernel_rfl
theorem Bz1(a b c:Value)(x y z:Value)(w:World):(Instr.index 203 (.agg #[a,b,c,x,y,z]) (.int .i64 2)).run Tryz.prog w=.ok (.agg #[y,z]) w:=by kernel_rfl
abbrev Aw0(c o p:G)(l t:Int):List Value:=[.int .i64 c.no,.slice c.a c.len c.cap,.int .i64 o.no,.slice o.a o.len o.cap,.int .i64 p.no,.slice p.a p.len p.cap,.int .i64 l,.int .i64 t]
theorem J5{w:World}{b:Nat}{c o p:G}{l t:Int}(h:Blk w b (Aw0 c o p l t)):
 w.cell? ⟨b,0,none⟩=some (.int .i64 c.no)∧w.cell? ⟨b,1,none⟩=some (.slice c.a c.len c.cap)∧w.cell? ⟨b,2,none⟩=some (.int .i64 o.no)∧w.cell? ⟨b,3,none⟩=some (.slice o.a o.len o.cap)∧
 w.cell? ⟨b,4,none⟩=some (.int .i64 p.no)∧w.cell? ⟨b,5,none⟩=some (.slice p.a p.len p.cap)∧w.cell? ⟨b,6,none⟩=some (.int .i64 l)∧w.cell? ⟨b,7,none⟩=some (.int .i64 t):=
 ⟨h.cell 0 (by simp),h.cell 1 (by simp),h.cell 2 (by simp),h.cell 3 (by simp),h.cell 4 (by simp),h.cell 5 (by simp),h.cell 6 (by simp),h.cell 7 (by simp)⟩
theorem Dg4(c o p:G)(l t:Int)(w:World):
 Calls Tryz.prog 155 #[Bc1 c o p l t] w fun e w'=>e=.returned (.bool (Ai9 c o p l t))∧Below w.heap.size w w':=by
 go_enter Tryz.func155,Tryz.ntmps155
 go_wp2_with fail
 have Hb0:=Lh (Blk.new w (Aw0 c o p l t) 193);refine(Bu2 c o p l t _).mono ?_;rintro e w1 ⟨rfl,hb1⟩;have HB:=Lh (Hb0.out.below hb1 (by simp));have Hb1:=Lh (bt (ba w _) hb1);clear Hb0 hb1;go_wp2_with fail
 go_loopw [7] (fun i wr=>∃k:Int,0≤k∧k≤3∧i=.int .i64 k∧(0<k→U3 c=true)∧(1<k→U3 o=true)∧(2<k→U3 p=true)∧Below w1.heap.size w1 wr) (fun i _=>3-(intOf i).toNat)
 case atStart=>exact⟨0,by omega,by omega,rfl,by omega,by omega,by omega,Below.refl _ _⟩
 case round=>
  obtain⟨k,hk0,hk3,rfl,h0,h1,h2,hb⟩:=hrel;have Hb:=Lh hb;clear hb;have e0:=fun W=>By9 (.int .i64 c.no) (.slice c.a c.len c.cap) (.int .i64 o.no) (.slice o.a o.len o.cap) (.int .i64 p.no) (.slice p.a p.len p.cap) W;have e1:=fun W=>Bz0 (.int .i64 c.no) (.slice c.a c.len c.cap) (.int .i64 o.no) (.slice o.a o.len o.cap) (.int .i64 p.no) (.slice p.a p.len p.cap) W;have e2:=fun W=>Bz1 (.int .i64 c.no) (.slice c.a c.len c.cap) (.int .i64 o.no) (.slice o.a o.len o.cap) (.int .i64 p.no) (.slice p.a p.len p.cap) W;rcases(show k=0∨k=1∨k=2∨k=3 by omega) with rfl | rfl | rfl | rfl
  ·skip
   clear h0 h1 h2;go_wp2_with (go_at_call 137;refine(Bb3 c _).mono ?_;rintro e w2 ⟨rfl,hb2⟩)
   all_goals first
    | (rename_i hq;exact⟨⟨1,by decide,by decide,rfl,fun _=>by simpa using hq,by omega,by omega,bt Hb.out (bt (ba _ _) hb2)⟩,by simp[intOf]⟩)
    | (rename_i hq;have hq':U3 c=false:=by simpa using hq
       go_ret;exact⟨by simp[Ai9,hq'],bt Hb1.out (bt Hb.out (bt (ba _ _) hb2))⟩)
  ·have HC:=Lh (h0 (by decide));clear h0 h1 h2;go_wp2_with (go_at_call 137;refine(Bb3 o _).mono ?_;rintro e w2 ⟨rfl,hb2⟩)
   all_goals first
    | (rename_i hq;exact⟨⟨2,by decide,by decide,rfl,fun _=>HC.out,fun _=>by simpa using hq,by omega,bt Hb.out (bt (ba _ _) hb2)⟩,by simp[intOf]⟩)
    | (rename_i hq;have hq':U3 o=false:=by simpa using hq
       go_ret;exact⟨by simp[Ai9,HC.out,hq'],bt Hb1.out (bt Hb.out (bt (ba _ _) hb2))⟩)
  ·have HC:=Lh (h0 (by decide));have HO:=Lh (h1 (by decide));clear h0 h1 h2;go_wp2_with (go_at_call 137;refine(Bb3 p _).mono ?_;rintro e w2 ⟨rfl,hb2⟩)
   all_goals first
    | (rename_i hq;exact⟨⟨3,by decide,by decide,rfl,fun _=>HC.out,fun _=>HO.out,fun _=>by simpa using hq,bt Hb.out (bt (ba _ _) hb2)⟩,by simp[intOf]⟩)
    | (rename_i hq;have hq':U3 p=false:=by simpa using hq
       go_ret;exact⟨by simp[Ai9,HC.out,HO.out,hq'],bt Hb1.out (bt Hb.out (bt (ba _ _) hb2))⟩)
  ·have HC:=h0 (by decide);have HO:=h1 (by decide);have HP:=h2 (by decide);obtain⟨-,-,-,-,-,-,c6,c7⟩:=J5 (HB.out.below Hb.out HB.out.lt);clear h0 h1 h2 e0 e1 e2;go_wp2_with fail
   all_goals
    go_ret;exact⟨by simp[Ai9, *],bt Hb1.out Hb.out⟩
theorem Ey5(c o p:G)(l t:Int)(w:World):
 Calls Tryz.prog 157 #[Bc1 c o p l t] w fun e w'=>e=.returned (.bool (By7 c o l))∧Below w.heap.size w w':=by
 have HB:=Lh (Blk.new w (Aw0 c o p l t) 193);go_enter Tryz.func157,Tryz.ntmps157
 go_wp2_with fail
 refine(Bb3 o _).mono ?_;rintro e w2 ⟨rfl,hb2⟩;have HB2:=Lh (HB.out.up hb2);have Hb2:=Lh (bt (ba w _) hb2);clear HB hb2;obtain⟨c0,c1,c2,c3,c4,c5,c6,c7⟩:=J5 HB2.out;rcases hO:U3 o with _ | _
 ·go_wp2_with fail
  refine(By8 o _).mono ?_;rintro e w3 ⟨rfl,hb3⟩;have HB3:=Lh (HB2.out.up hb3);have Hb3:=Lh (bt Hb2.out hb3);clear HB2 hb3 c0 c1 c2 c3 c4 c5 c6 c7;obtain⟨c0,c1,c2,c3,c4,c5,c6,c7⟩:=J5 HB3.out;rcases hR:Af2 o with _ | _;all_goals
   go_wp2_with fail
   all_goals
    (try simp only[Int.not_lt,Int.not_le] at *)
    go_ret;exact⟨by(try simp only[Int.not_lt,Int.not_le] at *);simp[By7, *];try omega,Hb3.out⟩
 ·go_wp2_with fail
  all_goals
   go_ret;exact⟨by simp[By7, *],Hb2.out⟩
theorem Cg9(w:World)(o:Obj)(cs:List Value)(T:TypeId):Blk ((w.alloc o).alloc (.cells cs.toArray T)) (w.heap.size+1) cs:=by
 have:=Blk.new (w.alloc o) cs T;rwa [World.size_alloc] at this
theorem Cs0(c o p:G)(l t:Int)(w:World):
 Calls Tryz.prog 95 #[Bc1 c o p l t] w fun e w'=>e=.returned (.bool (Af0 c o p l t))∧Below w.heap.size w w':=by
 have HB:=Lh (Cg9 w (.cells (Aw0 c o p l t).toArray 32) (Aw0 c o p l t) 193);go_enter Tryz.func95,Tryz.ntmps95
 go_wp2_with fail
 refine(Dg4 c o p l t _).mono ?_;rintro e w2 ⟨rfl,hb2⟩;have HB2:=Lh (HB.out.up hb2);have Hb2:=Lh (bt (bt (ba w _) (ba _ _)) hb2);clear HB hb2;obtain⟨c0,c1,c2,c3,c4,c5,c6,c7⟩:=J5 HB2.out;rcases hE:Ai9 c o p l t with _ | _
 ·go_wp2_with fail
  refine(Bb3 p _).mono ?_;rintro e w3 ⟨rfl,hb3⟩;have HB3:=Lh (HB2.out.up hb3);have Hb3:=Lh (bt Hb2.out hb3);clear HB2 hb3 c0 c1 c2 c3 c4 c5 c6 c7;obtain⟨c0,c1,c2,c3,c4,c5,c6,c7⟩:=J5 HB3.out;rcases hP:U3 p with _ | _;all_goals
   rcases hR:Af2 p with _ | _;all_goals
    rcases hC:Af2 c with _ | _;all_goals
     rcases hO:By7 c o l with _ | _;all_goals
      go_wp2_with (first
       | (go_at_call 156;((with_reducible refine Calls.mono (By8 p _) ?_);rintro e w4 ⟨rfl,hb4⟩;have HB3:=Lh (HB3.out.up hb4);have Hb3:=Lh (bt Hb3.out hb4);clear hb4;obtain⟨c0,c1,c2,c3,c4,c5,c6,c7⟩:=J5 HB3.out))
       | (go_at_call 156;((with_reducible refine Calls.mono (By8 c _) ?_);rintro e w4 ⟨rfl,hb4⟩;have HB3:=Lh (HB3.out.up hb4);have Hb3:=Lh (bt Hb3.out hb4);clear hb4;obtain⟨c0,c1,c2,c3,c4,c5,c6,c7⟩:=J5 HB3.out))
       | (go_at_call 157;((with_reducible refine Calls.mono (Ey5 c o p l t _) ?_);rintro e w4 ⟨rfl,hb4⟩;have HB3:=Lh (HB3.out.up hb4);have Hb3:=Lh (bt Hb3.out hb4);clear hb4;obtain⟨c0,c1,c2,c3,c4,c5,c6,c7⟩:=J5 HB3.out)))
      all_goals
       go_ret;exact⟨by(try simp only[Int.not_lt,Int.not_le] at *);simp[Af0,Cm7,Cg8, *];try omega,Hb3.out⟩
 ·go_wp2_with fail
  go_ret;exact⟨by simp[Af0, *],Hb2.out⟩
theorem Ay3.get{W:World}{n:Nat}{L:List (List Value)}(h:Ay3 W n L)(i:Nat){l:List Value}(hl:L[i]?=some l):Blk W (n+i) l:=h i l hl
theorem Ay3.up{w w':World}{n:Nat}{L:List (List Value)}(h:Ay3 w n L)(hb:Below w.heap.size w w'):Ay3 w' n L:=fun i l hl=>(h i l hl).up hb
theorem Ay3.nil(w:World):Ay3 w w.heap.size []:=fun i l hl=>by simp at hl
theorem Ay3.alloc{w:World}{n:Nat}{L:List (List Value)}(h:Ay3 w n L)(hn:w.heap.size=n+L.length)(cs:List Value)(T:TypeId):Ay3 (w.alloc (.cells cs.toArray T)) n (L++[cs]):=by
 intro i l hl;by_cases hi:i<L.length
 ·rw[List.getElem?_append_left hi] at hl;exact(h i l hl).alloc _
 ·have:i=L.length:=by
   have:=(List.getElem?_eq_some_iff.1 hl).1;simp at this;omega
  subst this;simp at hl;subst hl;have:=Blk.new w cs T
  rwa [hn] at this
theorem Fk9{w W:World}{a b:List Value}{A B:TypeId}(h:(w.alloc (.cells a.toArray A)).alloc (.cells b.toArray B)=W):Ay3 W w.heap.size [a,b]∧Below w.heap.size w W:=by
 subst h;exact⟨(((Ay3.nil w).alloc (by simp) a A).alloc (by simp) b B),bt (ba _ _) (ba _ _)⟩
theorem Fl0{w W:World}{a b c:List Value}{A B C:TypeId}(h:((w.alloc (.cells a.toArray A)).alloc (.cells b.toArray B)).alloc (.cells c.toArray C)=W):Ay3 W w.heap.size [a,b,c]∧Below w.heap.size w W:=by
 subst h;exact⟨((((Ay3.nil w).alloc (by simp) a A).alloc (by simp) b B).alloc (by simp) c C),bt (bt (ba _ _) (ba _ _)) (ba _ _)⟩
structure Rg where
 c:G
 o:G
 p:G
 l:Int
 t:Int
abbrev Rg.v(r:Rg):Value:=Bc1 r.c r.o r.p r.l r.t
abbrev Rg.L(r:Rg):List Value:=Aw0 r.c r.o r.p r.l r.t
abbrev R0:Rg:=⟨G0,G0,G0,0,0⟩
theorem Ab4:(Tryz.prog.info? 32).map (·.size)=some 8:=by kernel_rfl
theorem Eb5{g:G}(h:Af2 g=true):U3 g=false:=by
 simp[Af2] at h;simp[U3];omega
theorem Ar9(c o p:G)(l t:Int)(w:World):
 Calls Tryz.prog 145 #[Bc1 c o p l t] w fun e w'=>e=.returned (.bool (Ai9 c o p l t))∧Below w.heap.size w w':=by
 have HB:=Lh (Blk.new w (Aw0 c o p l t) 32);rcases hC:U3 c with _ | _;all_goals
  rcases hO:U3 o with _ | _;all_goals
   rcases hP:U3 p with _ | _;all_goals
    go_enter Tryz.func145,Tryz.ntmps145
    go_wp2_with (first
     | (go_at_call 147;((with_reducible refine Calls.mono (Au7 c _) ?_);rintro e w2 ⟨rfl,hb2⟩;have HB:=Lh (HB.out.up hb2);have Hb:=Lh (bt (ba w _) hb2);clear hb2;obtain⟨c0,c1,c2,c3,c4,c5,c6,c7⟩:=J5 HB.out))
     | (go_at_call 147;((with_reducible refine Calls.mono (Au7 o _) ?_);rintro e w2 ⟨rfl,hb2⟩;have HB:=Lh (HB.out.up hb2);have Hb:=Lh (bt Hb.out hb2);clear hb2;obtain⟨c0,c1,c2,c3,c4,c5,c6,c7⟩:=J5 HB.out))
     | (go_at_call 147;((with_reducible refine Calls.mono (Au7 p _) ?_);rintro e w2 ⟨rfl,hb2⟩;have HB:=Lh (HB.out.up hb2);have Hb:=Lh (bt Hb.out hb2);clear hb2;obtain⟨c0,c1,c2,c3,c4,c5,c6,c7⟩:=J5 HB.out)))
    all_goals
     go_ret;exact⟨by simp[Ai9, *],Hb.out⟩
theorem Cb7(c o p:G)(l t:Int)(w:World):
 Calls Tryz.prog 82 #[Bc1 c o p l t] w fun e w'=>e=.returned (.bool (Af0 c o p l t))∧Below w.heap.size w w':=by
 have HB:=Lh (Blk.new w (Aw0 c o p l t) 32);rcases hE:Ai9 c o p l t with _ | _
 ·rcases hC:Af2 c with _ | _
  ·go_enter Tryz.func82,Tryz.ntmps82
   go_wp2_with (first
    | (go_at_call 145;((with_reducible refine Calls.mono (Ar9 c o p l t _) ?_);rintro e w2 ⟨rfl,hb2⟩;have HB:=Lh (HB.out.up hb2);have Hb:=Lh (bt (ba w _) hb2);clear hb2;obtain⟨c0,c1,c2,c3,c4,c5,c6,c7⟩:=J5 HB.out))
    | (go_at_call 146;((with_reducible refine Calls.mono (Au8 c _) ?_);rintro e w2 ⟨rfl,hb2⟩;have HB:=Lh (HB.out.up hb2);have Hb:=Lh (bt Hb.out hb2);clear hb2;obtain⟨c0,c1,c2,c3,c4,c5,c6,c7⟩:=J5 HB.out)))
   all_goals
    go_ret;exact⟨by simp[Af0, *],Hb.out⟩
  ·by_cases hT:t≤2147483647∧c.no≤t∧p.no≤t
   ·obtain⟨t1,t2,t3⟩:=hT;have HCN:=Lh (Eb5 hC);rcases hO:U3 o with _ | _;all_goals
     rcases hOR:Af2 o with _ | _;all_goals
      rcases hP:U3 p with _ | _;all_goals
       rcases hPR:Af2 p with _ | _;all_goals
        go_enter Tryz.func82,Tryz.ntmps82
        go_wp2_with (first
         | (go_at_call 145;((with_reducible refine Calls.mono (Ar9 c o p l t _) ?_);rintro e w2 ⟨rfl,hb2⟩;have HB:=Lh (HB.out.up hb2);have Hb:=Lh (bt (ba w _) hb2);clear hb2;obtain⟨c0,c1,c2,c3,c4,c5,c6,c7⟩:=J5 HB.out))
         | (go_at_call 146;((with_reducible refine Calls.mono (Au8 c _) ?_);rintro e w2 ⟨rfl,hb2⟩;have HB:=Lh (HB.out.up hb2);have Hb:=Lh (bt Hb.out hb2);clear hb2;obtain⟨c0,c1,c2,c3,c4,c5,c6,c7⟩:=J5 HB.out))
         | (go_at_call 147;((with_reducible refine Calls.mono (Au7 o _) ?_);rintro e w2 ⟨rfl,hb2⟩;have HB:=Lh (HB.out.up hb2);have Hb:=Lh (bt Hb.out hb2);clear hb2;obtain⟨c0,c1,c2,c3,c4,c5,c6,c7⟩:=J5 HB.out))
         | (go_at_call 146;((with_reducible refine Calls.mono (Au8 o _) ?_);rintro e w2 ⟨rfl,hb2⟩;have HB:=Lh (HB.out.up hb2);have Hb:=Lh (bt Hb.out hb2);clear hb2;obtain⟨c0,c1,c2,c3,c4,c5,c6,c7⟩:=J5 HB.out))
         | (go_at_call 147;((with_reducible refine Calls.mono (Au7 p _) ?_);rintro e w2 ⟨rfl,hb2⟩;have HB:=Lh (HB.out.up hb2);have Hb:=Lh (bt Hb.out hb2);clear hb2;obtain⟨c0,c1,c2,c3,c4,c5,c6,c7⟩:=J5 HB.out))
         | (go_at_call 146;((with_reducible refine Calls.mono (Au8 p _) ?_);rintro e w2 ⟨rfl,hb2⟩;have HB:=Lh (HB.out.up hb2);have Hb:=Lh (bt Hb.out hb2);clear hb2;obtain⟨c0,c1,c2,c3,c4,c5,c6,c7⟩:=J5 HB.out)))
        all_goals
         go_ret;exact⟨by(try simp only[Int.not_lt,Int.not_le] at *);simp[Af0,Ai9,HCN.out,By7,Cm7,Cg8, *];try omega,Hb.out⟩
   ·have hT':Cg8 c p t=false:=by
     rcases h:Cg8 c p t with _ | _
     ·rfl
     ·simp[Cg8] at h;exact(hT ⟨h.2.2,h.1,h.2.1⟩).elim
    have HR:Hid (Af0 c o p l t=false):=Lh (by simp[Af0,hE,hT']);have hq:2147483647<t∨(t≤2147483647∧t<c.no)∨(t≤2147483647∧c.no≤t∧t<p.no):=by omega
    clear hT hT';rcases hq with h | ⟨h1,h⟩ | ⟨h1,h2,h⟩;all_goals
     go_enter Tryz.func82,Tryz.ntmps82
     go_wp2_with (first
      | (go_at_call 145;((with_reducible refine Calls.mono (Ar9 c o p l t _) ?_);rintro e w2 ⟨rfl,hb2⟩;have HB:=Lh (HB.out.up hb2);have Hb:=Lh (bt (ba w _) hb2);clear hb2;obtain⟨c0,c1,c2,c3,c4,c5,c6,c7⟩:=J5 HB.out))
      | (go_at_call 146;((with_reducible refine Calls.mono (Au8 c _) ?_);rintro e w2 ⟨rfl,hb2⟩;have HB:=Lh (HB.out.up hb2);have Hb:=Lh (bt Hb.out hb2);clear hb2;obtain⟨c0,c1,c2,c3,c4,c5,c6,c7⟩:=J5 HB.out)))
     all_goals
      go_ret;exact⟨by rw[HR.out];rfl,Hb.out⟩
 ·go_enter Tryz.func82,Tryz.ntmps82
  go_wp2_with (first
   | (go_at_call 145;((with_reducible refine Calls.mono (Ar9 c o p l t _) ?_);rintro e w2 ⟨rfl,hb2⟩;have HB:=Lh (HB.out.up hb2);have Hb:=Lh (bt (ba w _) hb2);clear hb2;obtain⟨c0,c1,c2,c3,c4,c5,c6,c7⟩:=J5 HB.out)))
  go_ret;exact⟨by simp[Af0, *],Hb.out⟩
def Ch0(g:G):Rg×Int:=bif (g.len:Int)==32 then(⟨⟨1,g.a,g.len,g.cap⟩,G0,G0,0,1⟩,0) else(R0,1)
def Aw1(r:Rg):Rg×Int:=bif U3 r.p then(r,9) else(⟨r.p,r.c,G0,16,r.t⟩,0)
def Ch1(r:Rg):Bool:=decide ((r.c.len:Int)≤100)&&(decide ((r.o.len:Int)≤100)&&decide ((r.p.len:Int)≤100))
theorem Cl4(g:G)(w:World):
 Calls Tryz.prog 118 #[.slice g.a g.len g.cap] w fun e w'=>e=.returned (.tuple #[(Ch0 g).1.v,.int .i64 (Ch0 g).2])∧Below w.heap.size w w':=by
 obtain⟨no,a,len,cap⟩:=g;by_cases h:len=32
 ·have hd:((len:Int) != 32)=false:=by simp;omega
  have HF:=Lh (show Ch0 ⟨no,a,len,cap⟩=(⟨⟨1,a,len,cap⟩,G0,G0,0,1⟩,0) by simp[Ch0,h]);clear h;go_enter Tryz.func118,Tryz.ntmps118
  go_wp2_with fail
  rw[HF.out];exact bodyPost_ret (v:=.tuple #[Bc1 ⟨1,a,len,cap⟩ G0 G0 0 1,.int .i64 0]) (by simp[results,Tryz.results118,go_sem,G0]) rfl ⟨rfl,by first | exact bt (ba w _) (ba _ _) | exact ba w _⟩
 ·have hd:((len:Int) != 32)=true:=by simp;omega
  have HF:=Lh (show Ch0 ⟨no,a,len,cap⟩=(R0,1) by simp[Ch0,show((len:Int)==32)=false from beq_eq_false_iff_ne.2 (by omega)]);clear h;go_enter Tryz.func118,Tryz.ntmps118
  go_wp2_with fail
  rw[HF.out];exact bodyPost_ret (v:=.tuple #[R0.v,.int .i64 1]) (by simp[results,Tryz.results118,go_sem,G0,R0]) rfl ⟨rfl,by first | exact bt (ba w _) (ba _ _) | exact ba w _⟩
theorem Dg5(r:Rg)(w:World):
 Calls Tryz.prog 88 #[r.v] w fun e w'=>e=.returned (.bool (Ch1 r))∧Below w.heap.size w w':=by
 obtain⟨c,o,p,l,t⟩:=r;go_enter Tryz.func88,Tryz.ntmps88
 go_wp2_with fail
 all_goals
  go_ret;exact⟨by(try simp only[Int.not_lt,Int.not_le] at *);simp[Ch1, *];try omega,ba w _⟩
end Go.Proofs.YtadpiemjgfndgaaGreatDoor
