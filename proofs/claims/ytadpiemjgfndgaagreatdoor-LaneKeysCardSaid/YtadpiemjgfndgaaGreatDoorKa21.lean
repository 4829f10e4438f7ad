/- Proved here, for use further on: LeT LeU LeV LeW LeX LeY. Conditions: none but those each theorem names. -/
import Derived.Test.YtadpiemjgfndgaaGreatDoorKa00
import Derived.Test.YtadpiemjgfndgaaGreatDoorKa20
import Derived.Test.YtadpiemjgfndgaaGreatDoorKa05
import Derived.Test.YtadpiemjgfndgaaGreatDoorKa11
import Derived.Deep.RegionHeld3
import Derived.Test.YtadpiemjgfndgaaGreatDoorKa12
import Derived.Test.YtadpiemjgfndgaaGreatDoorKa18
import Derived.Defers
import Derived.Recover
set_option linter.unusedSimpArgs false
set_option linter.unusedVariables false
set_option maxRecDepth 100000
set_option maxHeartbeats 8000000
namespace Go.Proofs.YtadpiemjgfndgaaGreatDoor
open Go.RowKit
structure Pd where
 k:Nat
 d:Nat
 e0:Nat
 e1:Nat
 g:Nat
 q:Nat
 b:List UInt8
 t:List UInt8
def pdF(l:List UInt8):Pd:=⟨F8 l 0 1,F8 l 1 1,F8 l 2 8,F8 l 10 8,F8 l 18 4,F8 l 22 8,V2 l,Ad8 l⟩
def okR(l:List UInt8):Prop:=(47≤l.length∧l.length≤946)∧Ag6 l
instance (l:List UInt8):Decidable (okR l):=by unfold okR Ag6;infer_instance
def Aa0(top:Int)(b:Nat→UInt64)(n:Int):Int×(Nat→UInt64)×Int:=
 if n<0∨4611686018427387904<n then(top,b,1) else if Aa6 top b n then(((max top.toNat (n.toNat+1):Nat):Int),At9 top.toNat n.toNat b,0) else(top,b,6)
theorem Ea1(top:Int)(b:Nat→UInt64)(n:Int)(hr:Aa5 top b):
 (∀w,Calls Tryz.prog 62 #[.agg (C4 top b).toArray,.int .i64 n] w fun x w'=>x=.returned (.tuple #[.agg (C4 (Aa0 top b n).1 (Aa0 top b n).2.1).toArray,.int .i64 (Aa0 top b n).2.2])∧Below w.heap.size w w')∧
 (∀w,Calls Tryz.prog 68 #[.agg (C4 top b).toArray,.int .i64 n] w fun x w'=>x=.returned (.tuple #[.agg (C4 (Aa0 top b n).1 (Aa0 top b n).2.1).toArray,.int .i64 (Aa0 top b n).2.2])∧Below w.heap.size w w'):=by
 obtain⟨⟨h0,h1⟩,h2,-⟩:=hr;unfold Aa0;by_cases hn:n<0∨4611686018427387904<n
 ·rw[if_pos hn];exact⟨fun w=>Dt7 top b n hn w,fun w=>Co1 top b n hn w⟩
 rw[if_neg hn];by_cases hf:Aa6 top b n
 ·rw[if_pos hf];obtain⟨T,rfl⟩:∃T:Nat,top=T:=⟨top.toNat,by omega⟩;obtain⟨k,rfl⟩:∃k:Nat,n=k:=⟨n.toNat,by omega⟩;have hT:T≤4611686018427387905:=by omega
  have hk:k≤4611686018427387904:=by omega
  simp only[Int.toNat_natCast];refine⟨fun w=>Ed4 T k b hT hk hf w,fun w=>?_⟩;have h:=Di9 T k b hT hk hf w;obtain⟨⟨a1,a2,a3⟩,a4⟩:=hf;rw[Co3 _ (At9 T k b) _ (fun i hi=>Dh9 T k b (fun p hp hpt=>h2 p hp (by omega)) (by omega) (by rcases a4 with a4 | a4;exact .inl (by omega);exact .inr (by simpa using a4)) i hi)];exact h
 ·rw[if_neg hf];exact⟨fun w=>Dt8 top b n ⟨h0,h1⟩ (by omega) (by omega) hf w,fun w=>Co2 top b n ⟨h0,h1⟩ (by omega) (by omega) hf w⟩
theorem Cl1(top:Int)(b:Nat→UInt64)(n:Int)(h:-9223372036854775808≤top∧top≤9223372036854775807)(hr:Aa5 top b):-9223372036854775808≤(Aa0 top b n).1∧(Aa0 top b n).1≤9223372036854775807:=by
 obtain⟨⟨h0,h1⟩,-,-⟩:=hr;unfold Aa0;split
 ·exact h
 split
 ·simp only;omega
 ·exact h
def Bf2(e:Ev)(no:Int):List UInt8:=bif X5 no e.r.c then e.kc else bif X5 no e.r.o then e.ko else bif X5 no e.r.p then e.kp else[]
theorem Ch1{q:Nat→Prop}{w:World}{e:Ev}(h:S7 q w e)(no:Int):
 A4 w (J2 e.r no).1.a (Bf2 e no)∧(J2 e.r no).1.len=(Bf2 e no).length∧(J2 e.r no).1.len≤(J2 e.r no).1.cap∧(J2 e.r no).1.cap≤maxLen:=by
 unfold J2 Bf2;cases X5 no e.r.c
 ·cases X5 no e.r.o
  ·cases X5 no e.r.p
   ·exact⟨.inl rfl,rfl,Nat.le_refl _,Nat.zero_le _⟩
   ·exact⟨h.r.p,h.r.lp,h.rp.1,h.rp.2⟩
  ·exact⟨h.r.o,h.r.lo,h.ro.1,h.ro.2⟩
 ·exact⟨h.r.c,h.r.lc,h.rc.1,h.rc.2⟩
def Ap1(e:Ev)(p:Pd):List UInt8:=bif ((p.k:Int)==2) then Bf2 e p.g else Am4 e.k.l
def inT(p:Pd):List UInt8:=inF p.k p.d p.e0 p.e1 p.g p.q p.b
def X6(s:Sv)(p:Pd):Sv:=s.l_p s.i (Bh6 s.f s.es (Ap1 s.e p) (inT p) p.t) s.ta s.tc s.es
def Aj2(s:Sv)(p:Pd):Bool:=Bn9 s.i s.es (Ap1 s.e p) (inT p) p.t
def Ba3(e:Ev):Ev:=bif V3 e.r.p then e else{e with r:=⟨e.r.p,e.r.c,G0,16,e.r.t⟩,kc:=e.kp,ko:=e.kc,kp:=[]}
theorem Cu0(s:Sv):Am8 (A6 s) 27 ((Be7 s.e.r).1.L)=A6 (s.on (Ba3 s.e)):=by
 rw[Ck8];unfold Be7 Ba3;cases V3 s.e.r.p<;>rfl
theorem S7.turn{q:Nat→Prop}{w:World}{e:Ev}(h:S7 q w e):S7 q w (Ba3 e):=by
 unfold Ba3;cases V3 e.r.p
 ·exact⟨h.k,h.s1,h.s2,⟨h.r.lp,h.r.p,h.r.lc,h.r.c,rfl,.inl rfl⟩,h.rp,h.rc,⟨Nat.le_refl _,Nat.zero_le _⟩,h.q,h.ql,h.u,h.ul,h.h,h.hl,h.o,h.ol,h.g,h.gl,h.wt⟩
 ·exact h
def Af9(s:Sv)(n:Int):Sv:=s.on (s.e.l_w (Aa0 s.e.wt s.e.wb n).1 (Aa0 s.e.wt s.e.wb n).2.1)
def Bf3(s:Sv)(p:Pd):Sv:=bif ((p.g:Int)==s.e.r.p.no)&&(s.e.ph != 4) then(Af9 s p.q).on (Ba3 (Af9 s p.q).e) else Af9 s p.q
def V5(s:Sv)(l:List UInt8):Sv×Int:=
 bif !decide (okR l) then(Aj1 s 2,2)
 else bif U0 s.e (pdF l).k (pdF l).d (pdF l).e0 (pdF l).e1 (pdF l).g then(Aj1 s 13,13)
 else bif !Aj2 s (pdF l) then(Aj1 (X6 s (pdF l)) 5,5)
 else bif (((pdF l).k:Int)==1) then(X6 s (pdF l),0)
 else bif (Aa0 s.e.wt s.e.wb (pdF l).q).2.2 != 0 then(Aj1 (X6 s (pdF l)) 6,6) else(Bf3 (X6 s (pdF l)) (pdF l),0)
theorem J1.chk{q:Nat→Prop}{w:World}{s:Sv}(h:J1 q w s)(p:Pd):J1 q w (X6 s p):=⟨h.e,h.p,h.pl⟩
theorem J1.wind{q:Nat→Prop}{w:World}{s:Sv}(h:J1 q w s)(hr:Aa5 s.e.wt s.e.wb)(n:Int):J1 q w (Af9 s n):=
 ⟨⟨h.e.k,h.e.s1,h.e.s2,h.e.r,h.e.rc,h.e.ro,h.e.rp,h.e.q,h.e.ql,h.e.u,h.e.ul,h.e.h,h.e.hl,h.e.o,h.e.ol,h.e.g,h.e.gl,Cl1 _ _ _ h.e.wt hr⟩,h.p,h.pl⟩
theorem J1.gone{q:Nat→Prop}{w:World}{s:Sv}(h:J1 q w s)(hr:Aa5 s.e.wt s.e.wb)(p:Pd):J1 q w (Bf3 s p):=by
 unfold Bf3;cases((p.g:Int)==s.e.r.p.no)&&(s.e.ph != 4)
 ·exact h.wind hr _
 ·exact⟨(h.wind hr _).e.turn,(h.wind hr p.q).p,(h.wind hr p.q).pl⟩
theorem J1.take{q:Nat→Prop}{w:World}{s:Sv}(h:J1 q w s)(hr:Aa5 s.e.wt s.e.wb)(l:List UInt8):J1 q w (V5 s l).1:=by
 unfold V5;cases decide (okR l)
 ·exact h.bump 2
 cases U0 s.e (pdF l).k (pdF l).d (pdF l).e0 (pdF l).e1 (pdF l).g
 ·cases Aj2 s (pdF l)
  ·exact(h.chk _).bump 5
  ·cases(((pdF l).k:Int)==1)
   ·cases(Aa0 s.e.wt s.e.wb (pdF l).q).2.2 != 0
    ·exact(h.chk _).gone hr _
    ·exact(h.chk _).bump 6
   ·exact h.chk _
 ·exact h.bump 13
def Es3(w:World)(E:Int)(p:Pd)(v:Value):Prop:=
 (E≠0∧v=.agg F7.toArray)∨(E=0∧∃a1 c1 a2 c2,v=Bh1 p.k p.d p.e0 p.e1 p.g p.q (.slice a1 p.b.length c1) (.slice a2 p.t.length c2)∧(p.b.length≤c1∧c1≤maxLen)∧(p.t.length≤c2∧c2≤maxLen)∧A4 w a1 p.b∧A4 w a2 p.t)
def Bf4(w:World)(s:Sv)(l:List UInt8)(x:Ending)(w':World):Prop:=
 ∃v,x=.returned (.tuple #[.agg (A6 (V5 s l).1).toArray,v,.int .i64 (V5 s l).2])∧Es3 w' (V5 s l).2 (pdF l) v∧Below w.heap.size w w'
def Cu1(w:World)(l:List UInt8)(x:Ending)(w':World):Prop:=
 (okR l∧∃a1 c1 a2 c2,x=.returned (.tuple #[Bh1 (pdF l).k (pdF l).d (pdF l).e0 (pdF l).e1 (pdF l).g (pdF l).q (.slice a1 (pdF l).b.length c1) (.slice a2 (pdF l).t.length c2),.int .i64 0])∧((pdF l).b.length≤c1∧c1≤maxLen)∧((pdF l).t.length≤c2∧c2≤maxLen)∧A4 w' a1 (pdF l).b∧A4 w' a2 (pdF l).t∧Below w.heap.size w w')
 ∨(¬okR l∧∃why:Int,(why==0)=false∧x=.returned (.tuple #[.agg F7.toArray,.int .i64 why])∧Below w.heap.size w w')
theorem Do2{w:World}{l:List UInt8}(h1:47≤l.length)(h2:l.length≤946){x:Ending}{w':World}
 (h:(Ag6 l→Dk8 w (F8 l 0 1) (F8 l 1 1) (F8 l 2 8) (F8 l 10 8) (F8 l 18 4) (F8 l 22 8) (V2 l) (Ad8 l) x w')∧(¬Ag6 l→Ca0 w 2 x w')):Cu1 w l x w':=by
 by_cases hg:Ag6 l
 ·obtain⟨a1,c1,a2,c2,k1,k2,k3,k4,k5,k6,k7,k8⟩:=h.1 hg;exact .inl ⟨⟨⟨h1,h2⟩,hg⟩,a1,c1,a2,c2,k1,⟨k2,k3⟩,⟨k4,k5⟩,k6,k7,k8⟩
 ·exact .inr ⟨fun k=>hg k.2,2,rfl,(h.2 hg).1,(h.2 hg).2⟩
theorem Ch2(a:Option Addr)(c:Nat)(l:List UInt8)(hc:l.length≤c)(hcm:c≤maxLen)(w:World)(hl:A4 w a l):
 Calls Tryz.prog 132 #[.slice a l.length c] w (Cu1 w l):=by
 by_cases h1:l.length<47
 ·exact(Cq2 a c l h1 w).mono fun x w' h=>.inr ⟨fun k=>by have:=k.1.1;omega,3,rfl,h.1,h.2⟩
 by_cases h2:946<l.length
 ·exact(Dk7 a c l h2 (by omega) w).mono fun x w' h=>.inr ⟨fun k=>by have:=k.1.2;omega,4,rfl,h.1,h.2⟩
 exact(Dw0 a c l (by omega) (by omega) hc hcm w hl).mono fun x w' h=>Do2 (by omega) (by omega) h
theorem Eg8(w:World):(Instr.build 65 #[]).run Tryz.prog w=.ok (.agg F7.toArray) w:=by kernel_rfl
theorem A5.atAll{T:TypeId}{w:World}{b:Nat}{L:List Value}(h:A5 T w b L):w.rangeAt b 0 L:=fun j v hj=>by
 have hjl:j<L.length:=(List.getElem?_eq_some_iff.1 hj).1;rw[h.blk.cell (0+j) (by omega),Nat.zero_add,List.getD_eq_getElem?_getD,hj];rfl
noncomputable def Ar9:{ops:Array Oper//(Tryz.f19.body.bind (K6 5))=some (.region 5 ops true)}:=⟨_,rfl⟩
abbrev Ai2:List Nat:=[16,17]
theorem Do3:opx Ar9.1 2=some (.store 51 (.tmp 4) (.tmp 16),none,none):=by kernel_rfl
theorem Do4:opx Ar9.1 3=some (.store 65 (.tmp 5) (.tmp 17),none,none):=by kernel_rfl
theorem Do5:opx Ar9.1 4=some (.store 54 (.tmp 6) (.const (Value.int IntKind.i64 0)),none,none):=by kernel_rfl
theorem Cu2{s:Sv}{D:List Value}{n4 n5 n6:Nat}{c6:Int}{w0:World}{a1 a2:Option Addr}{b1 b2:List UInt8}{a:Act}{w:World}{Q:Exit→Act→World→Prop}(hsz:58≤a.tmps.size)
 (e4:a.tmps.getD 4 undef=.pointer (some ⟨n4,0,none⟩)) (e5:a.tmps.getD 5 undef=.pointer (some ⟨n5,0,none⟩)) (e6:a.tmps.getD 6 undef=.pointer (some ⟨n6,0,none⟩))
 (hP:∀c a d v w,Q (.panic c) (Act.put a d v) w→Q (.panic c) a w) (B4:A5 51 w n4 (A6 s)) (B5:A5 65 w n5 D) (B6:A5 54 w n6 [.int .i64 c6]) (N45:n4≠n5) (N46:n4≠n6) (N56:n5≠n6) (L6:w0.heap.size≤n6) (L4:w0.heap.size≤n4) (L5:w0.heap.size≤n5) (G:Below w0.heap.size w0 w) (QB:A4 w a1 b1) (QT:A4 w a2 b2)
 (hD1:D.all (·.oneCell')=true) (hD8:D.all no8=true) (env_len:(Tryz.prog.info? 65).map (·.size)=some D.length)
 (hQ:∀{x16 x17} w',A5 51 w' n4 (A6 s)→A5 65 w' n5 D→A5 54 w' n6 [.int .i64 0]→A4 w' a1 b1→A4 w' a2 b2→Below w0.heap.size w0 w'→Q .normal (B9 a Ai2 [x16,x17]) w'):
 (Code.region 5 Ar9.1 true).wp Tryz.prog Q a w:=by
 have site_len:(Tryz.prog.info? 51).map (·.size)=some (A6 s).length:=by rw[D7];exact M8
 have bd0:∀{u:World},Below w0.heap.size w0 u→Below w0.heap.size w0 u.drew:=fun h=>bt h (bd _);have hB48:(A6 s).all no8=true:=Q4 _;have hB58:D.all no8=true:=hD8;have hB68:[Value.int .i64 c6].all no8=true:=rfl;have rG:Rgn Ar9.1 Ai2 a Q:=⟨fun k hk=>Nat.lt_of_lt_of_le ((by decide:∀k∈Ai2,k<58) k hk) hsz,by kernel_rfl,hP⟩;have hb:=rG.b;obtain⟨i,h0⟩:=Y2 a Ai2;let S:World→Prop:=fun w'=>A5 51 w' n4 (A6 s)∧A5 65 w' n5 D;refine wp_region_held_drew (S:=S) (by kernel_rfl) (⟨B4.up (bd _),B5.up (bd _)⟩) fun hHeld=>?_;have N2_3_4:∀(u:World) (G:Below w0.heap.size w0 u) (B4:A5 51 u n4 (A6 s)) (B5:A5 65 u n5 (D)) (B6:A5 54 u n6 ([i6 0])) (QB:A4 u a1 b1) (QT:A4 u a2 b2),wpAnyH Tryz.prog .any Ar9.1 Q S 0 (lm 5 31) (B9 a Ai2 [.agg (A6 s).toArray,.agg (D).toArray]) u:=by
  intro u G B4 B5 B6 QB QT;refine W5 ?_;exact hQ _ B4 B5 B6 QB QT G
 have N2_3:∀(u:World) (G:Below w0.heap.size w0 u) (B4:A5 51 u n4 (A6 s)) (B5:A5 65 u n5 (D)) (B6:A5 54 u n6 [i6 c6]) (QB:A4 u a1 b1) (QT:A4 u a2 b2),wpAnyH Tryz.prog .any Ar9.1 Q S 1 (lm 5 15) (B9 a Ai2 [.agg (A6 s).toArray,.agg (D).toArray]) u:=by
  intro u G B4 B5 B6 QB QT;refine C9 [4] (C6 rG Do5 ?_ AllReadyH.nil);intro o hp hd;refine Ba2 54 (.tmp 6) (.const (i6 0)) hp n6 0 (rG.ev e6) rfl B6.blk (Nat.zero_lt_succ _) (by kernel_rfl) rfl ?_;exact X7 rG [] hd ⟨(B4.kp ((Kp.refl n6 u).set 0 _) N46),(B5.kp ((Kp.refl n6 u).set 0 _) N56)⟩ trivial (N2_3_4 _  (((Kp.refl n6 u).set 0 _).below G L6) (B4.kp ((Kp.refl n6 u).set 0 _) N46) (B5.kp ((Kp.refl n6 u).set 0 _) N56) (B6.set 0 _) (A4.kp8 QB B6.blk hB68 ((Kp.refl n6 u).set 0 _)) (A4.kp8 QT B6.blk hB68 ((Kp.refl n6 u).set 0 _)))
 have N2:∀(u:World) (G:Below w0.heap.size w0 u) (B4:A5 51 u n4 (A6 s)) (B5:A5 65 u n5 D) (B6:A5 54 u n6 [i6 c6]) (QB:A4 u a1 b1) (QT:A4 u a2 b2),wpAnyH Tryz.prog .any Ar9.1 Q S 2 (lm 5 7) (B9 a Ai2 [.agg (A6 s).toArray,.agg (D).toArray]) u:=by
  intro u G B4 B5 B6 QB QT;refine C9 [3] (C6 rG Do4 ?_ AllReadyH.nil);intro o hp hd;refine V6 65 (.tmp 5) (.tmp 17) hp n5 (rG.ev e5) rG.ev B5 env_len rfl hD1 ?_;exact X7 rG [] hd ⟨(B4.kp ((Kp.refl n5 u).row _) N45),(B5.row _)⟩ trivial (N2_3 _  (((Kp.refl n5 u).row _).below G L5) (B4.kp ((Kp.refl n5 u).row _) N45) (B5.row _) (B6.kp ((Kp.refl n5 u).row _) N56.symm) (A4.kp8 QB B5.blk (hB58) ((Kp.refl n5 u).row _)) (A4.kp8 QT B5.blk (hB58) ((Kp.refl n5 u).row _)))
 have N0:∀(u:World) (G:Below w0.heap.size w0 u) (B4:A5 51 u n4 (A6 s)) (B5:A5 65 u n5 D) (B6:A5 54 u n6 [i6 c6]) (QB:A4 u a1 b1) (QT:A4 u a2 b2),wpAnyH Tryz.prog .any Ar9.1 Q S 3 (lm 5 3) (B9 a Ai2 [.agg (A6 s).toArray,.agg (D).toArray]) u:=by
  intro u G B4 B5 B6 QB QT;refine C9 [2] (C6 rG Do3 ?_ AllReadyH.nil);intro o hp hd;refine V6 51 (.tmp 4) (.tmp 16) hp n4 (rG.ev e4) rG.ev B4 site_len rfl (K9 _) ?_;exact X7 rG [] hd ⟨(B4.row _),(B5.kp ((Kp.refl n4 u).row _) N45.symm)⟩ trivial (N2 _  (((Kp.refl n4 u).row _).below G L4) (B4.row _) (B5.kp ((Kp.refl n4 u).row _) N45.symm) (B6.kp ((Kp.refl n4 u).row _) N46.symm) (A4.kp8 QB B4.blk (hB48) ((Kp.refl n4 u).row _)) (A4.kp8 QT B4.blk (hB48) ((Kp.refl n4 u).row _)))
 exact O0 5 rG [(0,16,.agg (A6 s).toArray),(1,17,.agg (D).toArray)] h0 ⟨B4.up (bd _),B5.up (bd _)⟩ ⟨M6 (cs:=A6 s) rfl (fun w hw=>hw.1.atAll) site_len e4,M6 (cs:=D) rfl (fun w hw=>hw.2.atAll) env_len e5,trivial⟩ (N0 _  (bd0 G) (B4.up (bd _)) (B5.up (bd _)) (B6.up (bd _)) (QB.mono (bd _)) (QT.mono (bd _)))
noncomputable def Am5:{ops:Array Oper//(Tryz.f19.body.bind (K6 11))=some (.region 11 ops true)}:=⟨_,rfl⟩
abbrev Ag0:List Nat:=[56,57]
theorem Cu3:opx Am5.1 2=some (.store 51 (.tmp 4) (.tmp 56),none,none):=by kernel_rfl
theorem Cu4:opx Am5.1 3=some (.store 65 (.tmp 5) (.tmp 57),none,none):=by kernel_rfl
theorem Cu5:opx Am5.1 4=some (.store 54 (.tmp 6) (.const (Value.int IntKind.i64 0)),none,none):=by kernel_rfl
theorem Bb1{s:Sv}{D:List Value}{n4 n5 n6:Nat}{c6:Int}{w0:World}{a1 a2:Option Addr}{b1 b2:List UInt8}{a:Act}{w:World}{Q:Exit→Act→World→Prop}(hsz:58≤a.tmps.size)
 (e4:a.tmps.getD 4 undef=.pointer (some ⟨n4,0,none⟩)) (e5:a.tmps.getD 5 undef=.pointer (some ⟨n5,0,none⟩)) (e6:a.tmps.getD 6 undef=.pointer (some ⟨n6,0,none⟩))
 (hP:∀c a d v w,Q (.panic c) (Act.put a d v) w→Q (.panic c) a w) (B4:A5 51 w n4 (A6 s)) (B5:A5 65 w n5 D) (B6:A5 54 w n6 [.int .i64 c6]) (N45:n4≠n5) (N46:n4≠n6) (N56:n5≠n6) (L6:w0.heap.size≤n6) (L4:w0.heap.size≤n4) (L5:w0.heap.size≤n5) (G:Below w0.heap.size w0 w) (QB:A4 w a1 b1) (QT:A4 w a2 b2)
 (hD1:D.all (·.oneCell')=true) (hD8:D.all no8=true) (env_len:(Tryz.prog.info? 65).map (·.size)=some D.length)
 (hQ:∀{x56 x57} w',A5 51 w' n4 (A6 s)→A5 65 w' n5 D→A5 54 w' n6 [.int .i64 0]→A4 w' a1 b1→A4 w' a2 b2→Below w0.heap.size w0 w'→Q .normal (B9 a Ag0 [x56,x57]) w'):
 (Code.region 11 Am5.1 true).wp Tryz.prog Q a w:=by
 have site_len:(Tryz.prog.info? 51).map (·.size)=some (A6 s).length:=by rw[D7];exact M8
 have bd0:∀{u:World},Below w0.heap.size w0 u→Below w0.heap.size w0 u.drew:=fun h=>bt h (bd _);have hB48:(A6 s).all no8=true:=Q4 _;have hB58:D.all no8=true:=hD8;have hB68:[Value.int .i64 c6].all no8=true:=rfl;have rG:Rgn Am5.1 Ag0 a Q:=⟨fun k hk=>Nat.lt_of_lt_of_le ((by decide:∀k∈Ag0,k<58) k hk) hsz,by kernel_rfl,hP⟩;have hb:=rG.b;obtain⟨i,h0⟩:=Y2 a Ag0;let S:World→Prop:=fun w'=>A5 51 w' n4 (A6 s)∧A5 65 w' n5 D;refine wp_region_held_drew (S:=S) (by kernel_rfl) (⟨B4.up (bd _),B5.up (bd _)⟩) fun hHeld=>?_;have N2_3_4:∀(u:World) (G:Below w0.heap.size w0 u) (B4:A5 51 u n4 (A6 s)) (B5:A5 65 u n5 (D)) (B6:A5 54 u n6 ([i6 0])) (QB:A4 u a1 b1) (QT:A4 u a2 b2),wpAnyH Tryz.prog .any Am5.1 Q S 0 (lm 5 31) (B9 a Ag0 [.agg (A6 s).toArray,.agg (D).toArray]) u:=by
  intro u G B4 B5 B6 QB QT;refine W5 ?_;exact hQ _ B4 B5 B6 QB QT G
 have N2_3:∀(u:World) (G:Below w0.heap.size w0 u) (B4:A5 51 u n4 (A6 s)) (B5:A5 65 u n5 (D)) (B6:A5 54 u n6 [i6 c6]) (QB:A4 u a1 b1) (QT:A4 u a2 b2),wpAnyH Tryz.prog .any Am5.1 Q S 1 (lm 5 15) (B9 a Ag0 [.agg (A6 s).toArray,.agg (D).toArray]) u:=by
  intro u G B4 B5 B6 QB QT;refine C9 [4] (C6 rG Cu5 ?_ AllReadyH.nil);intro o hp hd;refine Ba2 54 (.tmp 6) (.const (i6 0)) hp n6 0 (rG.ev e6) rfl B6.blk (Nat.zero_lt_succ _) (by kernel_rfl) rfl ?_;exact X7 rG [] hd ⟨(B4.kp ((Kp.refl n6 u).set 0 _) N46),(B5.kp ((Kp.refl n6 u).set 0 _) N56)⟩ trivial (N2_3_4 _  (((Kp.refl n6 u).set 0 _).below G L6) (B4.kp ((Kp.refl n6 u).set 0 _) N46) (B5.kp ((Kp.refl n6 u).set 0 _) N56) (B6.set 0 _) (A4.kp8 QB B6.blk hB68 ((Kp.refl n6 u).set 0 _)) (A4.kp8 QT B6.blk hB68 ((Kp.refl n6 u).set 0 _)))
 have N2:∀(u:World) (G:Below w0.heap.size w0 u) (B4:A5 51 u n4 (A6 s)) (B5:A5 65 u n5 D) (B6:A5 54 u n6 [i6 c6]) (QB:A4 u a1 b1) (QT:A4 u a2 b2),wpAnyH Tryz.prog .any Am5.1 Q S 2 (lm 5 7) (B9 a Ag0 [.agg (A6 s).toArray,.agg (D).toArray]) u:=by
  intro u G B4 B5 B6 QB QT;refine C9 [3] (C6 rG Cu4 ?_ AllReadyH.nil);intro o hp hd;refine V6 65 (.tmp 5) (.tmp 57) hp n5 (rG.ev e5) rG.ev B5 env_len rfl hD1 ?_;exact X7 rG [] hd ⟨(B4.kp ((Kp.refl n5 u).row _) N45),(B5.row _)⟩ trivial (N2_3 _  (((Kp.refl n5 u).row _).below G L5) (B4.kp ((Kp.refl n5 u).row _) N45) (B5.row _) (B6.kp ((Kp.refl n5 u).row _) N56.symm) (A4.kp8 QB B5.blk (hB58) ((Kp.refl n5 u).row _)) (A4.kp8 QT B5.blk (hB58) ((Kp.refl n5 u).row _)))
 have N0:∀(u:World) (G:Below w0.heap.size w0 u) (B4:A5 51 u n4 (A6 s)) (B5:A5 65 u n5 D) (B6:A5 54 u n6 [i6 c6]) (QB:A4 u a1 b1) (QT:A4 u a2 b2),wpAnyH Tryz.prog .any Am5.1 Q S 3 (lm 5 3) (B9 a Ag0 [.agg (A6 s).toArray,.agg (D).toArray]) u:=by
  intro u G B4 B5 B6 QB QT;refine C9 [2] (C6 rG Cu3 ?_ AllReadyH.nil);intro o hp hd;refine V6 51 (.tmp 4) (.tmp 56) hp n4 (rG.ev e4) rG.ev B4 site_len rfl (K9 _) ?_;exact X7 rG [] hd ⟨(B4.row _),(B5.kp ((Kp.refl n4 u).row _) N45.symm)⟩ trivial (N2 _  (((Kp.refl n4 u).row _).below G L4) (B4.row _) (B5.kp ((Kp.refl n4 u).row _) N45.symm) (B6.kp ((Kp.refl n4 u).row _) N46.symm) (A4.kp8 QB B4.blk (hB48) ((Kp.refl n4 u).row _)) (A4.kp8 QT B4.blk (hB48) ((Kp.refl n4 u).row _)))
 exact O0 5 rG [(0,56,.agg (A6 s).toArray),(1,57,.agg (D).toArray)] h0 ⟨B4.up (bd _),B5.up (bd _)⟩ ⟨M6 (cs:=A6 s) rfl (fun w hw=>hw.1.atAll) site_len e4,M6 (cs:=D) rfl (fun w hw=>hw.2.atAll) env_len e5,trivial⟩ (N0 _  (bd0 G) (B4.up (bd _)) (B5.up (bd _)) (B6.up (bd _)) (QB.mono (bd _)) (QT.mono (bd _)))
theorem A4.up8{w w':World}{a:Option Addr}{l:List UInt8}(h:A4 w a l)(hb:Below w.heap.size w w'):A4 w' a l:=h.mono hb
theorem By7{s:Sv}{bl:List UInt8}{S:Sv}{E:Int}{w w':World}(hT:V5 s bl=(S,E))(hE:E≠0)(hb:Below w.heap.size w w'):
 Bf4 w s bl (.returned (.tuple #[.agg (A6 S).toArray,.agg F7.toArray,.int .i64 E])) w':=by
 unfold Bf4;rw[hT];exact⟨_,rfl,.inl ⟨hE,rfl⟩,hb⟩
theorem Bf5{s:Sv}{bl:List UInt8}{S:Sv}{p:Pd}(hp:pdF bl=p){w w':World}(hT:V5 s bl=(S,0))(hb:Below w.heap.size w w'){a1 a2:Option Addr}{c1 c2:Nat}
 (h1:p.b.length≤c1∧c1≤maxLen) (h2:p.t.length≤c2∧c2≤maxLen) (hb1:A4 w' a1 p.b) (hb2:A4 w' a2 p.t):
 Bf4 w s bl (.returned (.tuple #[.agg (A6 S).toArray,.agg (I1 p.k p.d p.e0 p.e1 p.g p.q (.slice a1 p.b.length c1) (.slice a2 p.t.length c2)).toArray,.int .i64 0])) w':=by
 unfold Bf4;rw[hT,hp];exact⟨_,rfl,.inr ⟨rfl,a1,c1,a2,c2,rfl,h1,h2,hb1,hb2⟩,hb⟩
structure Eu0 (s:Sv) (bl:List UInt8) (p:Pd):Prop where
 form:¬okR bl→V5 s bl=(Aj1 s 2,2)
 stray:okR bl→U0 s.e p.k p.d p.e0 p.e1 p.g=true→V5 s bl=(Aj1 s 13,13)
 tag:okR bl→U0 s.e p.k p.d p.e0 p.e1 p.g=false→Aj2 s p=false→V5 s bl=(Aj1 (X6 s p) 5,5)
 setup:okR bl→U0 s.e p.k p.d p.e0 p.e1 p.g=false→Aj2 s p=true→((p.k:Int)==1)=true→V5 s bl=(X6 s p,0)
 old:okR bl→U0 s.e p.k p.d p.e0 p.e1 p.g=false→Aj2 s p=true→((p.k:Int)==1)=false→((Aa0 s.e.wt s.e.wb p.q).2.2==0)=false→V5 s bl=(Aj1 (X6 s p) 6,6)
 gone:okR bl→U0 s.e p.k p.d p.e0 p.e1 p.g=false→Aj2 s p=true→((p.k:Int)==1)=false→((Aa0 s.e.wt s.e.wb p.q).2.2==0)=true→V5 s bl=(Bf3 (X6 s p) p,0)
theorem Cu6(s:Sv)(bl:List UInt8)(p:Pd)(hp:pdF bl=p):Eu0 s bl p:=by
 subst hp;constructor
 ·intro h;unfold V5;simp only[decide_eq_false h,Bool.not_false,cond_true]
 ·intro h h1;unfold V5;simp only[decide_eq_true h,Bool.not_true,cond_false,h1,cond_true]
 ·intro h h1 h2;unfold V5;simp only[decide_eq_true h,Bool.not_true,cond_false,h1,h2,Bool.not_false,cond_true]
 ·intro h h1 h2 h3;unfold V5;simp only[decide_eq_true h,Bool.not_true,cond_false,h1,h2,h3,cond_true]
 ·intro h h1 h2 h3 h4;unfold V5;simp only[decide_eq_true h,Bool.not_true,cond_false,h1,h2,h3,bne,h4,Bool.not_false,cond_true]
 ·intro h h1 h2 h3 h4;unfold V5;simp only[decide_eq_true h,Bool.not_true,cond_false,h1,h2,h3,bne,h4]
theorem Ch3{g:G}(h:V3 g=true∨Ak5 g=true):g.len≤32:=by
 unfold V3 Ak5 at h;simp only[Bool.and_eq_true,decide_eq_true_eq,beq_iff_eq] at h;omega
theorem Do6{e:Ev}(h:An4 e=true):(V3 e.r.c=true∨Ak5 e.r.c=true)∧(V3 e.r.o=true∨Ak5 e.r.o=true)∧(V3 e.r.p=true∨Ak5 e.r.p=true):=by
 unfold An4 Ap8 Aj5 Bv1 Cr9 at h;simp only[Bool.or_eq_true,Bool.and_eq_true] at h;rcases h with h | h
 ·exact⟨.inl h.1,.inl h.2.1,.inl h.2.2.1⟩
 ·refine⟨.inr h.1,?_,h.2.2.1.imp id fun h=>h.1⟩;have h2:=h.2.1;cases hn:V3 e.r.o
  ·rw[hn] at h2;simp only[cond_false,Bool.and_eq_true] at h2;exact .inr h2.1
  ·exact .inl rfl
theorem Do7{q:Nat→Prop}{w:World}{e:Ev}(h:S7 q w e)(hr:An4 e=true)(no:Int):(Bf2 e no).length≤32:=by
 rw[←(Ch1 h no).2.1];obtain⟨h1,h2,h3⟩:=Do6 hr;unfold J2;cases X5 no e.r.c
 ·cases X5 no e.r.o
  ·cases X5 no e.r.p
   ·exact Nat.zero_le _
   ·exact Ch3 h3
  ·exact Ch3 h2
 ·exact Ch3 h1
theorem As0(a b c:Addr)(w:World):
 CallsD Tryz.prog 60 #[.pointer (some a),.pointer (some b),.pointer (some c)] .returning w fun e u' w'=>e=.returned (.tuple #[])∧u'=.returning∧w'=w:=by
 refine callsD_of_wpS Tryz.func60 rfl fun c₀ cs hu=>?_;apply wpS_seq;apply wpS_region;simp[wpOpsS,go_sem,recoverD,hu,Tryz.ntmps60,Exit.thenS];refine wpS_of_wp ?_;go_wp2_with fail
 cases c₀
 simp_all [Exit.inBlock,Exit.then,bodyPostS,results,Tryz.results60]
theorem Ea2(E:Int)(w:World):(Instr.typeAssert (.iface 54 (.int .i64 E)) 20 54 true).run Tryz.prog w=.ok (.tuple #[.int .i64 E,.bool true]) w:=by kernel_rfl
theorem Bp3{P:Program}{w:World}{b o:Nat}{ty:TypeId}{v:Value}{d:TypeDesc}(hu:P.underlying ty=some d)(hd:d.isRow=false)(hc:w.cell? ⟨b,o,none⟩=some v):
 (loadVar ty ⟨b,o,none⟩).run P w=.ok v w:=by
 have hagg:(isAgg ty).run P w=.ok false w:=by
  unfold isAgg;rw[Sem.run_bind,run_underlying hu w];cases d<;>simp_all [TypeDesc.isRow]
 simp[loadVar,Sem.run_bind,hagg,hc]
theorem Ak0{P:Program}{fn:Func}{p r u:Tmp}{ty tz tx:TypeId}(h:fn.results=#[.cell p ty,.cell r tz,.cell u tx])(tmps:Array Value)(w:World)(g g2 g3:Nat){cs ds:List Value}{v:Value}{d d2 d3:TypeDesc}
 (hp:tmps.getD p undef=.pointer (some ⟨g,0,none⟩)) (hp2:tmps.getD r undef=.pointer (some ⟨g2,0,none⟩)) (hp3:tmps.getD u undef=.pointer (some ⟨g3,0,none⟩)) (hb:Blk w g cs) (hu:P.underlying ty=some d) (hd:(match d with | .struct _ | .array _ _=>true | _=>false)=true) (hi:(P.info? ty).map (·.size)=some cs.length)
 (hb2:Blk w g2 ds) (hu2:P.underlying tz=some d2) (hd2:(match d2 with | .struct _ | .array _ _=>true | _=>false)=true) (hi2:(P.info? tz).map (·.size)=some ds.length) (hc3:w.cell? ⟨g3,0,none⟩=some v) (hu3:P.underlying tx=some d3) (hd3:d3.isRow=false):
 (results fn tmps).run P w=.ok (.tuple #[.agg cs.toArray,.agg ds.toArray,v]) w:=by
 obtain⟨T,hg⟩:=hb;obtain⟨T2,hg2⟩:=hb2;have h1:=run_loadVar_row (P:=P) w g T ty cs.toArray _ d hg hu hd (by simpa using hi);have h2:=run_loadVar_row (P:=P) w g2 T2 tz ds.toArray _ d2 hg2 hu2 hd2 (by simpa using hi2);have h3:=Bp3 (P:=P) hu3 hd3 hc3;have e:(results fn tmps).run P w=((asAddr (tmps.getD p undef)).run P w).andThen fun a w₁=>((loadVar ty a).run P w₁).andThen fun v' w₂=>((asAddr (tmps.getD r undef)).run P w₂).andThen fun a2 w₃=>((loadVar tz a2).run P w₃).andThen fun v3 w₄=>((asAddr (tmps.getD u undef)).run P w₄).andThen fun a3 w₅=>((loadVar tx a3).run P w₅).andThen fun v4 w₆=>.ok (.tuple #[v',v3,v4]) w₆:=by
  simp only[results,h];simp[Sem.run_bind,Result.andThen]
 rw[e,hp,hp2,hp3];simp[asAddr,h1,h2,h3]
theorem Eg9(E:Int)(w:World):(binOp BinOp.eql 20 (.iface 54 (.int .i64 E)) .nilIface).run Tryz.prog w=.ok (.bool false) w:=by kernel_rfl
theorem Bg2(s:Sv)(D:List Value)(n4 n5 n6:Nat)(c6 E:Int)(older:List PanicEntry)(w0 w:World)(B4:A5 51 w n4 (A6 s))(B5:A5 65 w n5 D)(B6:A5 54 w n6 [.int .i64 c6])(hDl:D.length=8)
 (N4_5:n4≠n5) (N4_6:n4≠n6) (N5_6:n5≠n6) (L4:w0.heap.size≤n4) (L5:w0.heap.size≤n5) (L6:w0.heap.size≤n6) (G:Below w0.heap.size w0 w):
 CallsD Tryz.prog 60 #[.pointer (some ⟨n4,0,none⟩),.pointer (some ⟨n5,0,none⟩),.pointer (some ⟨n6,0,none⟩)] (.panicking ({v:=.iface 54 (.int .i64 E),recovered:=false}::older)) w fun e u' w'=>
  e=.returned (.tuple #[])∧u'=.panicking ({v:=.iface 54 (.int .i64 E),recovered:=true}::older)∧A5 51 w' n4 (A6 (Aj1 s E))∧A5 65 w' n5 F7∧A5 54 w' n6 [.int .i64 E]∧Below w0.heap.size w0 w':=by
 have SZ:=Lh (show ∀S:Sv,(Tryz.prog.info? 51).map (·.size)=some (A6 S).length from fun S=>by rw[D7];exact M8);have SV:=Lh Ab1;have B4:=Lh B4;have B5:=Lh B5;have B6:=Lh B6;have G:=Lh G;have N4_5:=Lh N4_5;have N4_6:=Lh N4_6;have N5_6:=Lh N5_6;have L4:=Lh L4;have L5:=Lh L5;have L6:=Lh L6;have DL:=Lh hDl;have HCt:=Lh (fun W=>Bz7 s E W);clear hDl;refine callsD_of_wpS Tryz.func60 rfl fun c₀ cs hu=>?_;apply wpS_seq;apply wpS_region;simp[wpOpsS,go_sem,recoverD,hu,Tryz.ntmps60,Exit.thenS];refine wpS_of_wp ?_;change Code.wp _ _ _ {tmps:=#[Value.pointer (some ⟨n4,0,none⟩),Value.pointer (some ⟨n5,0,none⟩),Value.pointer (some ⟨n6,0,none⟩),undef,undef,undef,(Value.iface 54 (Value.int .i64 E)),undef,undef,undef,undef,undef,undef,undef,undef,undef,undef],defers:=[]} w;have hta:=Ea2 E;have hen:=Eg9 E;go_wp2_with (refine I2 51 (.tmp 0) rfl ?_;refine A8 51 (.tmp 0) n4 rfl rfl rfl B4.out.blk Tryz.underlying51 rfl (SZ.out _) ?_)
 refine(HCt.out _).mono ?_;rintro x wC ⟨rfl,hb⟩;replace B4:=Lh (B4.out.up hb);replace B5:=Lh (B5.out.up hb);replace B6:=Lh (B6.out.up hb);replace G:=Lh (bt G.out hb);clear hb;have hbe:=Eg8;go_wp2_with (first
  | (refine D9 51 (.tmp 0) _ rfl ?_;go_must (refine G8 51 (.tmp 0) _ n4 rfl rfl rfl rfl B4.out (SZ.out _) (by rw[D7,D7]) (K9 _) ?_;intro wD hB hK;replace B5:=Lh (B5.out.kp hK N4_5.out.symm);replace B6:=Lh (B6.out.kp hK N4_6.out.symm);replace B4:=Lh hB;replace G:=Lh (hK.below G.out L4.out);clear hB hK))
  | (refine D9 65 (.tmp 1) _ rfl ?_;go_must (refine G8 65 (.tmp 1) _ n5 (cs:=F7) rfl rfl rfl rfl B5.out SV.out DL.out rfl ?_;intro wE hB hK;replace B4:=Lh (B4.out.kp hK N4_5.out);replace B6:=Lh (B6.out.kp hK N5_6.out.symm);replace B5:=Lh hB;replace G:=Lh (hK.below G.out L5.out);clear hB hK))
  | (refine D9 54 (.tmp 2) _ rfl ?_;go_must (refine O1 54 (.tmp 2) _ n6 0 rfl rfl rfl rfl B6.out (Nat.zero_lt_succ _) (by kernel_rfl) rfl rfl ?_;intro wF hB hK;replace B4:=Lh (B4.out.kp hK N4_6.out);replace B5:=Lh (B5.out.kp hK N5_6.out);replace B6:=Lh hB;replace G:=Lh (hK.below G.out L6.out);clear hB hK)))
 have R:=Lh (And.intro B4.out (And.intro B5.out (And.intro B6.out G.out)));clear B4 B5 B6 G;simp[Exit.inBlock,Exit.then,bodyPostS,results,Tryz.results60];exact R.out
theorem Bp5{w:World}{b:Nat}{k d e0 e1 g s:Int}{vb vt:Value}(h:A5 65 w b (I1 k d e0 e1 g s vb vt)):w.rangeAt b 2 [.int .i64 e0,.int .i64 e1]:=fun j v hj=>by
 obtain⟨-,-,h2,h3,-⟩:=Q0 h.blk;have hjl:j<2:=(List.getElem?_eq_some_iff.1 hj).1;rcases(by omega:j=0∨j=1) with rfl | rfl
 ·rw[h2];exact hj
 ·rw[h3];exact hj
noncomputable def op3:{ops:Array Oper//(Tryz.f61.body.bind (K6 3))=some (.region 3 ops true)}:=⟨_,rfl⟩
abbrev Ab0:List Nat:=[22,23,24,25,26,27,28,29,30,31,32,33,34,35,36,37,38,39,40,41,42,43,44,45,46,47]
theorem Bk6:opx op3.1 25=some (.call {callee:=.value (.func 63),args:=#[.tmp 46,.const (Value.int IntKind.i64 13)],argTypes:=#[4,54]},some 47,none):=by kernel_rfl
theorem Ea7{s:Sv}{k d e0 e1 g q:Int}{vb vt:Value}{n4 n5:Nat}{a:Act}{w:World}{Q:Exit→Act→World→Prop}(hsz:113≤a.tmps.size)
 (e0_:a.tmps.getD 0 undef=.pointer (some ⟨n4,0,none⟩)) (e5:a.tmps.getD 5 undef=.pointer (some ⟨n5,0,none⟩))
 (hP:∀c a d v w,Q (.panic c) (Act.put a d v) w→Q (.panic c) a w) (B4:A5 51 w n4 (A6 s)) (B5:A5 65 w n5 (I1 k d e0 e1 g q vb vt)) (h1:(d==wrap64 (1-s.e.id))=false)
 (hQ:∀a' w',a'.defers=a.defers→Below w.heap.size w w'→Q (.panic [{v:=.iface 54 (.int .i64 13),recovered:=false}]) a' w'):
 (Code.region 3 op3.1 true).wp Tryz.prog Q a w:=by
 have end_len:(Tryz.prog.info? 46).map (·.size)=some (A7 s.e).length:=by rw[F2];exact M7
 have rG:Rgn op3.1 Ab0 a Q:=⟨fun k hk=>Nat.lt_of_lt_of_le ((by decide:∀k∈Ab0,k<113) k hk) hsz,by kernel_rfl,hP⟩;have hb:=rG.b;obtain⟨i,h0⟩:=Y2 a Ab0;let S:World→Prop:=fun w'=>A5 51 w' n4 (A6 s)∧A5 65 w' n5 (I1 k d e0 e1 g q vb vt);refine wp_region_held_drew (S:=S) (by kernel_rfl) (⟨B4.up (bd _),B5.up (bd _)⟩) fun hHeld=>?_;have N0:∀(u:World) (G:Below w.heap.size w u),wpAnyH Tryz.prog .any op3.1 Q S 1 (lm 26 33554431) (B9 a Ab0 [pt n5 1,i6 d,pt n4 0,pt n4 0,pt n4 0,pt n4 0,i6 s.e.id,i6 (wrap64 (1-s.e.id)),.bool false,.bool false,undef,undef,undef,undef,undef,undef,.bool false,.bool false,undef,undef,undef,undef,undef,undef,.bool false,i 47]) u:=by
  intro u G;refine C9 [25] (C6 rG Bk6 ?_ AllReadyH.nil);intro o hp hd;refine Bc6 hp (rG.ev2 (.bool false) (i6 13)) (Ac2 13 _) ?_;rintro e u25 ⟨rfl,rfl⟩;exact .inr ⟨_,rfl,hQ _ _ (Ag9 _ _ _) G⟩
 exact O0 26 rG [(0,22,pt n5 1),(1,23,i6 d),(2,24,pt n4 0),(3,25,pt n4 0),(4,26,pt n4 0),(5,27,pt n4 0),(6,28,i6 s.e.id),(7,29,i6 (wrap64 (1-s.e.id))),(8,30,.bool false),(9,31,.bool false),(10,32,undef),(11,33,undef),(12,34,undef),(13,35,undef),(14,36,undef),(15,37,undef),(16,38,.bool false),(17,39,.bool false),(18,40,undef),(19,41,undef),(20,42,undef),(21,43,undef),(22,44,undef),(23,45,undef),(24,46,.bool false)] h0 ⟨B4.up (bd _),B5.up (bd _)⟩ ⟨A9 rfl e5,F6 rfl (fun w hw=>(Q0 hw.2.blk).2.1),F5 rfl e0_,Aa9 rfl,A9 rfl,A9 rfl,F6 rfl (fun w hw=>hw.1.blk.siteIn.id),As2 rfl (fun w=>Bk4 w _ _ _ 1 s.e.id),Aa4 rfl h1,F5 rfl,M5,M5,M5,M5,M5,M5,S0 rfl,F5 rfl,M5,M5,M5,M5,M5,M5,S0 rfl,trivial⟩ (N0 _  (bd w))
theorem Ea8{s:Sv}{k d e0 e1 g q:Int}{vb vt:Value}{n4 n5:Nat}{a:Act}{w:World}{Q:Exit→Act→World→Prop}(hsz:113≤a.tmps.size)
 (e0_:a.tmps.getD 0 undef=.pointer (some ⟨n4,0,none⟩)) (e5:a.tmps.getD 5 undef=.pointer (some ⟨n5,0,none⟩))
 (hP:∀c a d v w,Q (.panic c) (Act.put a d v) w→Q (.panic c) a w) (B4:A5 51 w n4 (A6 s)) (B5:A5 65 w n5 (I1 k d e0 e1 g q vb vt)) (h1:(d==wrap64 (1-s.e.id))=true) (h2:(s.e.ph != 7)=false)
 (hQ:∀a' w',a'.defers=a.defers→Below w.heap.size w w'→Q (.panic [{v:=.iface 54 (.int .i64 13),recovered:=false}]) a' w'):
 (Code.region 3 op3.1 true).wp Tryz.prog Q a w:=by
 have end_len:(Tryz.prog.info? 46).map (·.size)=some (A7 s.e).length:=by rw[F2];exact M7
 have rG:Rgn op3.1 Ab0 a Q:=⟨fun k hk=>Nat.lt_of_lt_of_le ((by decide:∀k∈Ab0,k<113) k hk) hsz,by kernel_rfl,hP⟩;have hb:=rG.b;obtain⟨i,h0⟩:=Y2 a Ab0;let S:World→Prop:=fun w'=>A5 51 w' n4 (A6 s)∧A5 65 w' n5 (I1 k d e0 e1 g q vb vt);refine wp_region_held_drew (S:=S) (by kernel_rfl) (⟨B4.up (bd _),B5.up (bd _)⟩) fun hHeld=>?_;have N0:∀(u:World) (G:Below w.heap.size w u),wpAnyH Tryz.prog .any op3.1 Q S 1 (lm 26 33554431) (B9 a Ab0 [pt n5 1,i6 d,pt n4 0,pt n4 0,pt n4 0,pt n4 0,i6 s.e.id,i6 (wrap64 (1-s.e.id)),.bool true,.bool true,pt n4 0,pt n4 0,pt n4 0,pt n4 2,i6 s.e.ph,.bool false,.bool false,.bool false,undef,undef,undef,undef,undef,undef,.bool false,i 47]) u:=by
  intro u G;refine C9 [25] (C6 rG Bk6 ?_ AllReadyH.nil);intro o hp hd;refine Bc6 hp (rG.ev2 (.bool false) (i6 13)) (Ac2 13 _) ?_;rintro e u25 ⟨rfl,rfl⟩;exact .inr ⟨_,rfl,hQ _ _ (Ag9 _ _ _) G⟩
 exact O0 26 rG [(0,22,pt n5 1),(1,23,i6 d),(2,24,pt n4 0),(3,25,pt n4 0),(4,26,pt n4 0),(5,27,pt n4 0),(6,28,i6 s.e.id),(7,29,i6 (wrap64 (1-s.e.id))),(8,30,.bool true),(9,31,.bool true),(10,32,pt n4 0),(11,33,pt n4 0),(12,34,pt n4 0),(13,35,pt n4 2),(14,36,i6 s.e.ph),(15,37,.bool false),(16,38,.bool false),(17,39,.bool false),(18,40,undef),(19,41,undef),(20,42,undef),(21,43,undef),(22,44,undef),(23,45,undef),(24,46,.bool false)] h0 ⟨B4.up (bd _),B5.up (bd _)⟩ ⟨A9 rfl e5,F6 rfl (fun w hw=>(Q0 hw.2.blk).2.1),F5 rfl e0_,Aa9 rfl,A9 rfl,A9 rfl,F6 rfl (fun w hw=>hw.1.blk.siteIn.id),As2 rfl (fun w=>Bk4 w _ _ _ 1 s.e.id),Aa4 rfl h1,F5 rfl,F5 rfl e0_,Aa9 rfl,A9 rfl,A9 rfl,F6 rfl (fun w hw=>hw.1.blk.siteIn.ph),Bs7 rfl h2,S0 rfl,F5 rfl,M5,M5,M5,M5,M5,M5,S0 rfl,trivial⟩ (N0 _  (bd w))
theorem Ea9{s:Sv}{k d e0 e1 g q:Int}{vb vt:Value}{n4 n5:Nat}{a:Act}{w:World}{Q:Exit→Act→World→Prop}(hsz:113≤a.tmps.size)
 (e0_:a.tmps.getD 0 undef=.pointer (some ⟨n4,0,none⟩)) (e5:a.tmps.getD 5 undef=.pointer (some ⟨n5,0,none⟩))
 (hP:∀c a d v w,Q (.panic c) (Act.put a d v) w→Q (.panic c) a w) (B4:A5 51 w n4 (A6 s)) (B5:A5 65 w n5 (I1 k d e0 e1 g q vb vt)) (h1:(d==wrap64 (1-s.e.id))=true) (h2:(s.e.ph != 7)=true) (h3:(s.e.ph != 8)=false)
 (hQ:∀a' w',a'.defers=a.defers→Below w.heap.size w w'→Q (.panic [{v:=.iface 54 (.int .i64 13),recovered:=false}]) a' w'):
 (Code.region 3 op3.1 true).wp Tryz.prog Q a w:=by
 have end_len:(Tryz.prog.info? 46).map (·.size)=some (A7 s.e).length:=by rw[F2];exact M7
 have rG:Rgn op3.1 Ab0 a Q:=⟨fun k hk=>Nat.lt_of_lt_of_le ((by decide:∀k∈Ab0,k<113) k hk) hsz,by kernel_rfl,hP⟩;have hb:=rG.b;obtain⟨i,h0⟩:=Y2 a Ab0;let S:World→Prop:=fun w'=>A5 51 w' n4 (A6 s)∧A5 65 w' n5 (I1 k d e0 e1 g q vb vt);refine wp_region_held_drew (S:=S) (by kernel_rfl) (⟨B4.up (bd _),B5.up (bd _)⟩) fun hHeld=>?_;have N0:∀(u:World) (G:Below w.heap.size w u),wpAnyH Tryz.prog .any op3.1 Q S 1 (lm 26 33554431) (B9 a Ab0 [pt n5 1,i6 d,pt n4 0,pt n4 0,pt n4 0,pt n4 0,i6 s.e.id,i6 (wrap64 (1-s.e.id)),.bool true,.bool true,pt n4 0,pt n4 0,pt n4 0,pt n4 2,i6 s.e.ph,.bool true,.bool true,.bool true,pt n4 0,pt n4 0,pt n4 0,pt n4 2,i6 s.e.ph,.bool false,.bool false,i 47]) u:=by
  intro u G;refine C9 [25] (C6 rG Bk6 ?_ AllReadyH.nil);intro o hp hd;refine Bc6 hp (rG.ev2 (.bool false) (i6 13)) (Ac2 13 _) ?_;rintro e u25 ⟨rfl,rfl⟩;exact .inr ⟨_,rfl,hQ _ _ (Ag9 _ _ _) G⟩
 exact O0 26 rG [(0,22,pt n5 1),(1,23,i6 d),(2,24,pt n4 0),(3,25,pt n4 0),(4,26,pt n4 0),(5,27,pt n4 0),(6,28,i6 s.e.id),(7,29,i6 (wrap64 (1-s.e.id))),(8,30,.bool true),(9,31,.bool true),(10,32,pt n4 0),(11,33,pt n4 0),(12,34,pt n4 0),(13,35,pt n4 2),(14,36,i6 s.e.ph),(15,37,.bool true),(16,38,.bool true),(17,39,.bool true),(18,40,pt n4 0),(19,41,pt n4 0),(20,42,pt n4 0),(21,43,pt n4 2),(22,44,i6 s.e.ph),(23,45,.bool false),(24,46,.bool false)] h0 ⟨B4.up (bd _),B5.up (bd _)⟩ ⟨A9 rfl e5,F6 rfl (fun w hw=>(Q0 hw.2.blk).2.1),F5 rfl e0_,Aa9 rfl,A9 rfl,A9 rfl,F6 rfl (fun w hw=>hw.1.blk.siteIn.id),As2 rfl (fun w=>Bk4 w _ _ _ 1 s.e.id),Aa4 rfl h1,F5 rfl,F5 rfl e0_,Aa9 rfl,A9 rfl,A9 rfl,F6 rfl (fun w hw=>hw.1.blk.siteIn.ph),Bs7 rfl h2,S0 rfl,F5 rfl,F5 rfl e0_,Aa9 rfl,A9 rfl,A9 rfl,F6 rfl (fun w hw=>hw.1.blk.siteIn.ph),Bs7 rfl h3,S0 rfl,trivial⟩ (N0 _  (bd w))
theorem Eb0{s:Sv}{k d e0 e1 g q:Int}{vb vt:Value}{n4 n5:Nat}{a:Act}{w:World}{Q:Exit→Act→World→Prop}(hsz:113≤a.tmps.size)
 (e0_:a.tmps.getD 0 undef=.pointer (some ⟨n4,0,none⟩)) (e5:a.tmps.getD 5 undef=.pointer (some ⟨n5,0,none⟩))
 (hP:∀c a d v w,Q (.panic c) (Act.put a d v) w→Q (.panic c) a w) (B4:A5 51 w n4 (A6 s)) (B5:A5 65 w n5 (I1 k d e0 e1 g q vb vt)) (h1:(d==wrap64 (1-s.e.id))=true) (h2:(s.e.ph != 7)=true) (h3:(s.e.ph != 8)=true)
 (hQ:∀{x22 x23 x24 x25 x26 x27 x28 x29 x30 x31 x32 x33 x34 x35 x36 x37 x38 x39 x40 x41 x42 x43 x44 x45 x46 x47} w',Below w.heap.size w w'→Q .normal (B9 a Ab0 [x22,x23,x24,x25,x26,x27,x28,x29,x30,x31,x32,x33,x34,x35,x36,x37,x38,x39,x40,x41,x42,x43,x44,x45,x46,x47]) w'):
 (Code.region 3 op3.1 true).wp Tryz.prog Q a w:=by
 have end_len:(Tryz.prog.info? 46).map (·.size)=some (A7 s.e).length:=by rw[F2];exact M7
 have rG:Rgn op3.1 Ab0 a Q:=⟨fun k hk=>Nat.lt_of_lt_of_le ((by decide:∀k∈Ab0,k<113) k hk) hsz,by kernel_rfl,hP⟩;have hb:=rG.b;obtain⟨i,h0⟩:=Y2 a Ab0;let S:World→Prop:=fun w'=>A5 51 w' n4 (A6 s)∧A5 65 w' n5 (I1 k d e0 e1 g q vb vt);refine wp_region_held_drew (S:=S) (by kernel_rfl) (⟨B4.up (bd _),B5.up (bd _)⟩) fun hHeld=>?_;have N25:∀(u:World) (G:Below w.heap.size w u),wpAnyH Tryz.prog .any op3.1 Q S 0 (lm 26 67108863) (B9 a Ab0 [pt n5 1,i6 d,pt n4 0,pt n4 0,pt n4 0,pt n4 0,i6 s.e.id,i6 (wrap64 (1-s.e.id)),.bool true,.bool true,pt n4 0,pt n4 0,pt n4 0,pt n4 2,i6 s.e.ph,.bool true,.bool true,.bool true,pt n4 0,pt n4 0,pt n4 0,pt n4 2,i6 s.e.ph,.bool true,.bool true,.tuple #[]]) u:=by
  intro u G;refine W5 ?_;exact hQ _ G
 have N0:∀(u:World) (G:Below w.heap.size w u),wpAnyH Tryz.prog .any op3.1 Q S 1 (lm 26 33554431) (B9 a Ab0 [pt n5 1,i6 d,pt n4 0,pt n4 0,pt n4 0,pt n4 0,i6 s.e.id,i6 (wrap64 (1-s.e.id)),.bool true,.bool true,pt n4 0,pt n4 0,pt n4 0,pt n4 2,i6 s.e.ph,.bool true,.bool true,.bool true,pt n4 0,pt n4 0,pt n4 0,pt n4 2,i6 s.e.ph,.bool true,.bool true,i 47]) u:=by
  intro u G;refine C9 [25] (C6 rG Bk6 ?_ AllReadyH.nil);intro o hp hd;refine J5 hp (rG.ev2 (.bool true) (i6 13)) (Aq1 13 _) ?_;rintro e u25 ⟨rfl,rfl⟩;refine⟨_,rfl,?_⟩;exact D8 rG [] hd ⟨B4.up (G),B5.up (G)⟩ trivial (N25 _  G)
 exact O0 26 rG [(0,22,pt n5 1),(1,23,i6 d),(2,24,pt n4 0),(3,25,pt n4 0),(4,26,pt n4 0),(5,27,pt n4 0),(6,28,i6 s.e.id),(7,29,i6 (wrap64 (1-s.e.id))),(8,30,.bool true),(9,31,.bool true),(10,32,pt n4 0),(11,33,pt n4 0),(12,34,pt n4 0),(13,35,pt n4 2),(14,36,i6 s.e.ph),(15,37,.bool true),(16,38,.bool true),(17,39,.bool true),(18,40,pt n4 0),(19,41,pt n4 0),(20,42,pt n4 0),(21,43,pt n4 2),(22,44,i6 s.e.ph),(23,45,.bool true),(24,46,.bool true)] h0 ⟨B4.up (bd _),B5.up (bd _)⟩ ⟨A9 rfl e5,F6 rfl (fun w hw=>(Q0 hw.2.blk).2.1),F5 rfl e0_,Aa9 rfl,A9 rfl,A9 rfl,F6 rfl (fun w hw=>hw.1.blk.siteIn.id),As2 rfl (fun w=>Bk4 w _ _ _ 1 s.e.id),Aa4 rfl h1,F5 rfl,F5 rfl e0_,Aa9 rfl,A9 rfl,A9 rfl,F6 rfl (fun w hw=>hw.1.blk.siteIn.ph),Bs7 rfl h2,S0 rfl,F5 rfl,F5 rfl e0_,Aa9 rfl,A9 rfl,A9 rfl,F6 rfl (fun w hw=>hw.1.blk.siteIn.ph),Bs7 rfl h3,S0 rfl,trivial⟩ (N0 _  (bd w))
noncomputable def op6:{ops:Array Oper//(Tryz.f61.body.bind (K6 6))=some (.region 6 ops true)}:=⟨_,rfl⟩
abbrev Bc7:List Nat:=[58,59,60,61,62,63,64,65,57,66,67,8,9]
theorem En7:opx op6.1 7=some (.call {callee:=.value (.func 133),args:=#[.tmp 62,.tmp 64],argTypes:=#[32,3]},some 65,none):=by kernel_rfl
theorem Eh3{s:Sv}{k d e0 e1 g q:Int}{vb vt:Value}{n4 n5:Nat}{a:Act}{w:World}{Q:Exit→Act→World→Prop}(hsz:113≤a.tmps.size)
 (e0_:a.tmps.getD 0 undef=.pointer (some ⟨n4,0,none⟩)) (e5:a.tmps.getD 5 undef=.pointer (some ⟨n5,0,none⟩))
 (hP:∀c a d v w,Q (.panic c) (Act.put a d v) w→Q (.panic c) a w) (B4:A5 51 w n4 (A6 s)) (B5:A5 65 w n5 (I1 k d e0 e1 g q vb vt))
 (hQ:∀{x58 x59 x60 x61 x62 x63 x64 x65 x57 x66 x67} w',Below w.heap.size w w'→Q .normal (B9 a Bc7 [x58,x59,x60,x61,x62,x63,x64,x65,x57,x66,x67,.slice (J2 s.e.r g).1.a (J2 s.e.r g).1.len (J2 s.e.r g).1.cap,.bool (J2 s.e.r g).2]) w'):
 (Code.region 6 op6.1 true).wp Tryz.prog Q a w:=by
 have end_len:(Tryz.prog.info? 46).map (·.size)=some (A7 s.e).length:=by rw[F2];exact M7
 have rG:Rgn op6.1 Bc7 a Q:=⟨fun k hk=>Nat.lt_of_lt_of_le ((by decide:∀k∈Bc7,k<113) k hk) hsz,by kernel_rfl,hP⟩;have hb:=rG.b;obtain⟨i,h0⟩:=Y2 a Bc7;let S:World→Prop:=fun w'=>A5 51 w' n4 (A6 s)∧A5 65 w' n5 (I1 k d e0 e1 g q vb vt);refine wp_region_held_drew (S:=S) (by kernel_rfl) (⟨B4.up (bd _),B5.up (bd _)⟩) fun hHeld=>?_;have N7:∀(u:World) (G:Below w.heap.size w u),wpAnyH Tryz.prog .any op6.1 Q S 0 (lm 13 8191) (B9 a Bc7 [pt n4 0,pt n4 0,pt n4 0,pt n4 27,.agg (s.e.r.L).toArray,pt n5 4,i6 g,.tuple #[.slice (J2 s.e.r g).1.a (J2 s.e.r g).1.len (J2 s.e.r g).1.cap,.bool (J2 s.e.r g).2],.tuple #[.slice (J2 s.e.r g).1.a (J2 s.e.r g).1.len (J2 s.e.r g).1.cap,.bool (J2 s.e.r g).2],.slice (J2 s.e.r g).1.a (J2 s.e.r g).1.len (J2 s.e.r g).1.cap,.bool (J2 s.e.r g).2,.slice (J2 s.e.r g).1.a (J2 s.e.r g).1.len (J2 s.e.r g).1.cap,.bool (J2 s.e.r g).2]) u:=by
  intro u G;refine W5 ?_;exact hQ _ G
 have N0:∀(u:World) (G:Below w.heap.size w u),wpAnyH Tryz.prog .any op6.1 Q S 6 (lm 13 127) (B9 a Bc7 [pt n4 0,pt n4 0,pt n4 0,pt n4 27,.agg (s.e.r.L).toArray,pt n5 4,i6 g,i 65,i 57,i 66,i 67,i 8,i 9]) u:=by
  intro u G;refine C9 [7] (C6 rG En7 ?_ AllReadyH.nil);intro o hp hd;refine J5 hp (rG.ev2 (.agg (s.e.r.L).toArray) (i6 g)) (Dy8 s.e.r g _) ?_;rintro x u7 ⟨rfl,hb7⟩;refine⟨_,rfl,?_⟩;exact D8 rG [(8,57,.tuple #[.slice (J2 s.e.r g).1.a (J2 s.e.r g).1.len (J2 s.e.r g).1.cap,.bool (J2 s.e.r g).2]),(9,66,.slice (J2 s.e.r g).1.a (J2 s.e.r g).1.len (J2 s.e.r g).1.cap),(10,67,.bool (J2 s.e.r g).2),(11,8,.slice (J2 s.e.r g).1.a (J2 s.e.r g).1.len (J2 s.e.r g).1.cap),(12,9,.bool (J2 s.e.r g).2)] hd ⟨B4.up (bt G hb7),B5.up (bt G hb7)⟩ ⟨F5 rfl,J8 rfl,J8 rfl,Ai0 rfl,Ai0 rfl,trivial⟩ (N7 _  (bt G hb7))
 exact O0 13 rG [(0,58,pt n4 0),(1,59,pt n4 0),(2,60,pt n4 0),(3,61,pt n4 27),(4,62,.agg (s.e.r.L).toArray),(5,63,pt n5 4),(6,64,i6 g)] h0 ⟨B4.up (bd _),B5.up (bd _)⟩ ⟨F5 rfl e0_,Aa9 rfl,A9 rfl,A9 rfl,M6 (cs:=s.e.r.L) rfl (fun w hw=>hw.1.blk.siteIn.at_r) Ac7,A9 rfl e5,F6 rfl (fun w hw=>(Q0 hw.2.blk).2.2.2.2.1),trivial⟩ (N0 _  (bd w))
noncomputable def op7:{ops:Array Oper//(Tryz.f61.body.bind (K6 7))=some (.region 7 ops true)}:=⟨_,rfl⟩
abbrev U1:List Nat:=[68,69,70,71,72,73,74,75,76,77,78,79,80,81,82,83,84,85,86,87]
theorem Bs8:opx op7.1 5=some (.call {callee:=.value (.func 59),args:=#[.tmp 72],argTypes:=#[3]},some 73,none):=by kernel_rfl
theorem Bv7:opx op7.1 13=some (.call {callee:=.value (.func 44),args:=#[.tmp 80],argTypes:=#[46]},some 81,some (6,true)):=by kernel_rfl
theorem Bk7:opx op7.1 19=some (.call {callee:=.value (.func 63),args:=#[.tmp 86,.const (Value.int IntKind.i64 13)],argTypes:=#[4,54]},some 87,none):=by kernel_rfl
theorem Eb1{s:Sv}{k d e0 e1 g q:Int}{vb vt:Value}{n4 n5:Nat}{a:Act}{w:World}{Q:Exit→Act→World→Prop}(hsz:113≤a.tmps.size)
 (e0_:a.tmps.getD 0 undef=.pointer (some ⟨n4,0,none⟩)) (e5:a.tmps.getD 5 undef=.pointer (some ⟨n5,0,none⟩))
 (hP:∀c a d v w,Q (.panic c) (Act.put a d v) w→Q (.panic c) a w) (B4:A5 51 w n4 (A6 s)) (B5:A5 65 w n5 (I1 k d e0 e1 g q vb vt)) (HL:∀W,Calls Tryz.prog 59 #[.int .i64 s.e.ph] W fun x w'=>x=.returned (.bool false)∧W=w')
 (hQ:∀a' w',a'.defers=a.defers→Below w.heap.size w w'→Q (.panic [{v:=.iface 54 (.int .i64 13),recovered:=false}]) a' w'):
 (Code.region 7 op7.1 true).wp Tryz.prog Q a w:=by
 have end_len:(Tryz.prog.info? 46).map (·.size)=some (A7 s.e).length:=by rw[F2];exact M7
 have rG:Rgn op7.1 U1 a Q:=⟨fun k hk=>Nat.lt_of_lt_of_le ((by decide:∀k∈U1,k<113) k hk) hsz,by kernel_rfl,hP⟩;have hb:=rG.b;obtain⟨i,h0⟩:=Y2 a U1;let S:World→Prop:=fun w'=>A5 51 w' n4 (A6 s)∧A5 65 w' n5 (I1 k d e0 e1 g q vb vt);refine wp_region_held_drew (S:=S) (by kernel_rfl) (⟨B4.up (bd _),B5.up (bd _)⟩) fun hHeld=>?_;have N5:∀(u:World) (G:Below w.heap.size w u),wpAnyH Tryz.prog .any op7.1 Q S 1 (lm 20 524287) (B9 a U1 [pt n4 0,pt n4 0,pt n4 0,pt n4 2,i6 s.e.ph,.bool false,.bool false,undef,undef,undef,undef,undef,undef,undef,undef,.bool false,.bool false,undef,.bool false,i 87]) u:=by
  intro u G;refine C9 [19] (C6 rG Bk7 ?_ AllReadyH.nil);intro o hp hd;refine Bc6 hp (rG.ev2 (.bool false) (i6 13)) (Ac2 13 _) ?_;rintro e u19 ⟨rfl,rfl⟩;exact .inr ⟨_,rfl,hQ _ _ (Ag9 _ _ _) G⟩
 have N0:∀(u:World) (G:Below w.heap.size w u),wpAnyH Tryz.prog .any op7.1 Q S 15 (lm 20 31) (B9 a U1 [pt n4 0,pt n4 0,pt n4 0,pt n4 2,i6 s.e.ph,i 73,i 74,i 75,i 76,i 77,i 78,i 79,i 80,i 81,i 82,i 83,i 84,i 85,i 86,i 87]) u:=by
  intro u G;refine C9 [5] (C6 rG Bs8 ?_ AllReadyH.nil);intro o hp hd;refine J5 hp (rG.ev1 (i6 s.e.ph)) (HL _) ?_;rintro x u5 ⟨rfl,rfl⟩;refine⟨_,rfl,?_⟩;exact D8 rG [(6,74,.bool false),(7,75,undef),(8,76,undef),(9,77,undef),(10,78,undef),(11,79,undef),(12,80,undef),(13,81,undef),(14,82,undef),(15,83,.bool false),(16,84,.bool false),(17,85,undef),(18,86,.bool false)] hd ⟨B4.up (G),B5.up (G)⟩ ⟨F5 rfl,M5,M5,M5,M5,M5,M5,M5,M5,S0 rfl,F5 rfl,M5,S0 rfl,trivial⟩ (N5 _  G)
 exact O0 20 rG [(0,68,pt n4 0),(1,69,pt n4 0),(2,70,pt n4 0),(3,71,pt n4 2),(4,72,i6 s.e.ph)] h0 ⟨B4.up (bd _),B5.up (bd _)⟩ ⟨F5 rfl e0_,Aa9 rfl,A9 rfl,A9 rfl,F6 rfl (fun w hw=>hw.1.blk.siteIn.ph),trivial⟩ (N0 _  (bd w))
theorem Eb2{s:Sv}{k d e0 e1 g q:Int}{vb vt:Value}{n4 n5:Nat}{a:Act}{w:World}{Q:Exit→Act→World→Prop}(hsz:113≤a.tmps.size)
 (e0_:a.tmps.getD 0 undef=.pointer (some ⟨n4,0,none⟩)) (e5:a.tmps.getD 5 undef=.pointer (some ⟨n5,0,none⟩))
 (hP:∀c a d v w,Q (.panic c) (Act.put a d v) w→Q (.panic c) a w) (B4:A5 51 w n4 (A6 s)) (B5:A5 65 w n5 (I1 k d e0 e1 g q vb vt)) (HL:∀W,Calls Tryz.prog 59 #[.int .i64 s.e.ph] W fun x w'=>x=.returned (.bool true)∧W=w') (h2:((e0==(C7 s.e).1)&&(e1==(C7 s.e).2))=false)
 (hQ:∀a' w',a'.defers=a.defers→Below w.heap.size w w'→Q (.panic [{v:=.iface 54 (.int .i64 13),recovered:=false}]) a' w'):
 (Code.region 7 op7.1 true).wp Tryz.prog Q a w:=by
 have end_len:(Tryz.prog.info? 46).map (·.size)=some (A7 s.e).length:=by rw[F2];exact M7
 have rG:Rgn op7.1 U1 a Q:=⟨fun k hk=>Nat.lt_of_lt_of_le ((by decide:∀k∈U1,k<113) k hk) hsz,by kernel_rfl,hP⟩;have hb:=rG.b;obtain⟨i,h0⟩:=Y2 a U1;let S:World→Prop:=fun w'=>A5 51 w' n4 (A6 s)∧A5 65 w' n5 (I1 k d e0 e1 g q vb vt);refine wp_region_held_drew (S:=S) (by kernel_rfl) (⟨B4.up (bd _),B5.up (bd _)⟩) fun hHeld=>?_;have N5_13:∀(u:World) (G:Below w.heap.size w u),wpAnyH Tryz.prog .any op7.1 Q S 1 (lm 20 524287) (B9 a U1 [pt n4 0,pt n4 0,pt n4 0,pt n4 2,i6 s.e.ph,.bool true,.bool true,pt n5 2,.agg #[i6 e0,i6 e1],pt n4 0,pt n4 0,pt n4 0,.agg (A7 s.e).toArray,.agg #[i6 (C7 s.e).1,i6 (C7 s.e).2],.bool false,.bool false,.bool false,undef,.bool false,i 87]) u:=by
  intro u G;refine C9 [19] (C6 rG Bk7 ?_ AllReadyH.nil);intro o hp hd;refine Bc6 hp (rG.ev2 (.bool false) (i6 13)) (Ac2 13 _) ?_;rintro e u19 ⟨rfl,rfl⟩;exact .inr ⟨_,rfl,hQ _ _ (Ag9 _ _ _) G⟩
 have N5:∀(u:World) (G:Below w.heap.size w u),wpAnyH Tryz.prog .any op7.1 Q S 7 (lm 20 8191) (B9 a U1 [pt n4 0,pt n4 0,pt n4 0,pt n4 2,i6 s.e.ph,.bool true,.bool true,pt n5 2,.agg #[i6 e0,i6 e1],pt n4 0,pt n4 0,pt n4 0,.agg (A7 s.e).toArray,i 81,i 82,i 83,i 84,i 85,i 86,i 87]) u:=by
  intro u G;refine C9 [13] (C6 rG Bv7 ?_ AllReadyH.nil);intro o hp hd;refine J5 hp (rG.ev1 (.agg (A7 s.e).toArray)) (Ac8 s.e _) ?_;rintro x u13 ⟨rfl,hb13⟩;refine⟨_,rfl,?_⟩;exact D8 rG [(14,82,.bool false),(15,83,.bool false),(16,84,.bool false),(17,85,undef),(18,86,.bool false)] hd ⟨B4.up (bt G hb13),B5.up (bt G hb13)⟩ ⟨As2 rfl (fun w=>⟨(Ah0 (.tmp 76) (.tmp 81) e0 e1 (C7 s.e).1 (C7 s.e).2 w).1,by rw[(Ah0 (.tmp 0) (.tmp 0) e0 e1 (C7 s.e).1 (C7 s.e).2 w).2,h2]⟩),S0 rfl,F5 rfl,M5,S0 rfl,trivial⟩ (N5_13 _  (bt G hb13))
 have N0:∀(u:World) (G:Below w.heap.size w u),wpAnyH Tryz.prog .any op7.1 Q S 15 (lm 20 31) (B9 a U1 [pt n4 0,pt n4 0,pt n4 0,pt n4 2,i6 s.e.ph,i 73,i 74,i 75,i 76,i 77,i 78,i 79,i 80,i 81,i 82,i 83,i 84,i 85,i 86,i 87]) u:=by
  intro u G;refine C9 [5] (C6 rG Bs8 ?_ AllReadyH.nil);intro o hp hd;refine J5 hp (rG.ev1 (i6 s.e.ph)) (HL _) ?_;rintro x u5 ⟨rfl,rfl⟩;refine⟨_,rfl,?_⟩;exact D8 rG [(6,74,.bool true),(7,75,pt n5 2),(8,76,.agg #[i6 e0,i6 e1]),(9,77,pt n4 0),(10,78,pt n4 0),(11,79,pt n4 0),(12,80,.agg (A7 s.e).toArray)] hd ⟨B4.up (G),B5.up (G)⟩ ⟨F5 rfl,A9 rfl e5,M6 (cs:=[i6 e0,i6 e1]) rfl (fun w hw=>Bp5 hw.2) Ap9,F5 rfl e0_,Aa9 rfl,A9 rfl,M6 (cs:=A7 s.e) rfl (fun w hw=>hw.1.blk.atE) end_len,trivial⟩ (N5 _  G)
 exact O0 20 rG [(0,68,pt n4 0),(1,69,pt n4 0),(2,70,pt n4 0),(3,71,pt n4 2),(4,72,i6 s.e.ph)] h0 ⟨B4.up (bd _),B5.up (bd _)⟩ ⟨F5 rfl e0_,Aa9 rfl,A9 rfl,A9 rfl,F6 rfl (fun w hw=>hw.1.blk.siteIn.ph),trivial⟩ (N0 _  (bd w))
theorem Eb3{s:Sv}{k d e0 e1 g q:Int}{vb vt:Value}{n4 n5:Nat}{a:Act}{w:World}{Q:Exit→Act→World→Prop}(hsz:113≤a.tmps.size)
 (e0_:a.tmps.getD 0 undef=.pointer (some ⟨n4,0,none⟩)) (e5:a.tmps.getD 5 undef=.pointer (some ⟨n5,0,none⟩)) (e9:a.tmps.getD 9 undef=.bool false)
 (hP:∀c a d v w,Q (.panic c) (Act.put a d v) w→Q (.panic c) a w) (B4:A5 51 w n4 (A6 s)) (B5:A5 65 w n5 (I1 k d e0 e1 g q vb vt)) (HL:∀W,Calls Tryz.prog 59 #[.int .i64 s.e.ph] W fun x w'=>x=.returned (.bool true)∧W=w') (h2:((e0==(C7 s.e).1)&&(e1==(C7 s.e).2))=true)
 (hQ:∀a' w',a'.defers=a.defers→Below w.heap.size w w'→Q (.panic [{v:=.iface 54 (.int .i64 13),recovered:=false}]) a' w'):
 (Code.region 7 op7.1 true).wp Tryz.prog Q a w:=by
 have end_len:(Tryz.prog.info? 46).map (·.size)=some (A7 s.e).length:=by rw[F2];exact M7
 have rG:Rgn op7.1 U1 a Q:=⟨fun k hk=>Nat.lt_of_lt_of_le ((by decide:∀k∈U1,k<113) k hk) hsz,by kernel_rfl,hP⟩;have hb:=rG.b;obtain⟨i,h0⟩:=Y2 a U1;let S:World→Prop:=fun w'=>A5 51 w' n4 (A6 s)∧A5 65 w' n5 (I1 k d e0 e1 g q vb vt);refine wp_region_held_drew (S:=S) (by kernel_rfl) (⟨B4.up (bd _),B5.up (bd _)⟩) fun hHeld=>?_;have N5_13:∀(u:World) (G:Below w.heap.size w u),wpAnyH Tryz.prog .any op7.1 Q S 1 (lm 20 524287) (B9 a U1 [pt n4 0,pt n4 0,pt n4 0,pt n4 2,i6 s.e.ph,.bool true,.bool true,pt n5 2,.agg #[i6 e0,i6 e1],pt n4 0,pt n4 0,pt n4 0,.agg (A7 s.e).toArray,.agg #[i6 (C7 s.e).1,i6 (C7 s.e).2],.bool true,.bool true,.bool true,.bool false,.bool false,i 87]) u:=by
  intro u G;refine C9 [19] (C6 rG Bk7 ?_ AllReadyH.nil);intro o hp hd;refine Bc6 hp (rG.ev2 (.bool false) (i6 13)) (Ac2 13 _) ?_;rintro e u19 ⟨rfl,rfl⟩;exact .inr ⟨_,rfl,hQ _ _ (Ag9 _ _ _) G⟩
 have N5:∀(u:World) (G:Below w.heap.size w u),wpAnyH Tryz.prog .any op7.1 Q S 7 (lm 20 8191) (B9 a U1 [pt n4 0,pt n4 0,pt n4 0,pt n4 2,i6 s.e.ph,.bool true,.bool true,pt n5 2,.agg #[i6 e0,i6 e1],pt n4 0,pt n4 0,pt n4 0,.agg (A7 s.e).toArray,i 81,i 82,i 83,i 84,i 85,i 86,i 87]) u:=by
  intro u G;refine C9 [13] (C6 rG Bv7 ?_ AllReadyH.nil);intro o hp hd;refine J5 hp (rG.ev1 (.agg (A7 s.e).toArray)) (Ac8 s.e _) ?_;rintro x u13 ⟨rfl,hb13⟩;refine⟨_,rfl,?_⟩;exact D8 rG [(14,82,.bool true),(15,83,.bool true),(16,84,.bool true),(17,85,.bool false),(18,86,.bool false)] hd ⟨B4.up (bt G hb13),B5.up (bt G hb13)⟩ ⟨As2 rfl (fun w=>⟨(Ah0 (.tmp 76) (.tmp 81) e0 e1 (C7 s.e).1 (C7 s.e).2 w).1,by rw[(Ah0 (.tmp 0) (.tmp 0) e0 e1 (C7 s.e).1 (C7 s.e).2 w).2,h2]⟩),S0 rfl,F5 rfl,F5 rfl e9,S0 rfl,trivial⟩ (N5_13 _  (bt G hb13))
 have N0:∀(u:World) (G:Below w.heap.size w u),wpAnyH Tryz.prog .any op7.1 Q S 15 (lm 20 31) (B9 a U1 [pt n4 0,pt n4 0,pt n4 0,pt n4 2,i6 s.e.ph,i 73,i 74,i 75,i 76,i 77,i 78,i 79,i 80,i 81,i 82,i 83,i 84,i 85,i 86,i 87]) u:=by
  intro u G;refine C9 [5] (C6 rG Bs8 ?_ AllReadyH.nil);intro o hp hd;refine J5 hp (rG.ev1 (i6 s.e.ph)) (HL _) ?_;rintro x u5 ⟨rfl,rfl⟩;refine⟨_,rfl,?_⟩;exact D8 rG [(6,74,.bool true),(7,75,pt n5 2),(8,76,.agg #[i6 e0,i6 e1]),(9,77,pt n4 0),(10,78,pt n4 0),(11,79,pt n4 0),(12,80,.agg (A7 s.e).toArray)] hd ⟨B4.up (G),B5.up (G)⟩ ⟨F5 rfl,A9 rfl e5,M6 (cs:=[i6 e0,i6 e1]) rfl (fun w hw=>Bp5 hw.2) Ap9,F5 rfl e0_,Aa9 rfl,A9 rfl,M6 (cs:=A7 s.e) rfl (fun w hw=>hw.1.blk.atE) end_len,trivial⟩ (N5 _  G)
 exact O0 20 rG [(0,68,pt n4 0),(1,69,pt n4 0),(2,70,pt n4 0),(3,71,pt n4 2),(4,72,i6 s.e.ph)] h0 ⟨B4.up (bd _),B5.up (bd _)⟩ ⟨F5 rfl e0_,Aa9 rfl,A9 rfl,A9 rfl,F6 rfl (fun w hw=>hw.1.blk.siteIn.ph),trivial⟩ (N0 _  (bd w))
theorem Eb4{s:Sv}{k d e0 e1 g q:Int}{vb vt:Value}{n4 n5:Nat}{a:Act}{w:World}{Q:Exit→Act→World→Prop}(hsz:113≤a.tmps.size)
 (e0_:a.tmps.getD 0 undef=.pointer (some ⟨n4,0,none⟩)) (e5:a.tmps.getD 5 undef=.pointer (some ⟨n5,0,none⟩)) (e9:a.tmps.getD 9 undef=.bool true)
 (hP:∀c a d v w,Q (.panic c) (Act.put a d v) w→Q (.panic c) a w) (B4:A5 51 w n4 (A6 s)) (B5:A5 65 w n5 (I1 k d e0 e1 g q vb vt)) (HL:∀W,Calls Tryz.prog 59 #[.int .i64 s.e.ph] W fun x w'=>x=.returned (.bool true)∧W=w') (h2:((e0==(C7 s.e).1)&&(e1==(C7 s.e).2))=true)
 (hQ:∀{x68 x69 x70 x71 x72 x73 x74 x75 x76 x77 x78 x79 x80 x81 x82 x83 x84 x85 x86 x87} w',Below w.heap.size w w'→Q .normal (B9 a U1 [x68,x69,x70,x71,x72,x73,x74,x75,x76,x77,x78,x79,x80,x81,x82,x83,x84,x85,x86,x87]) w'):
 (Code.region 7 op7.1 true).wp Tryz.prog Q a w:=by
 have end_len:(Tryz.prog.info? 46).map (·.size)=some (A7 s.e).length:=by rw[F2];exact M7
 have rG:Rgn op7.1 U1 a Q:=⟨fun k hk=>Nat.lt_of_lt_of_le ((by decide:∀k∈U1,k<113) k hk) hsz,by kernel_rfl,hP⟩;have hb:=rG.b;obtain⟨i,h0⟩:=Y2 a U1;let S:World→Prop:=fun w'=>A5 51 w' n4 (A6 s)∧A5 65 w' n5 (I1 k d e0 e1 g q vb vt);refine wp_region_held_drew (S:=S) (by kernel_rfl) (⟨B4.up (bd _),B5.up (bd _)⟩) fun hHeld=>?_;have N5_13_19:∀(u:World) (G:Below w.heap.size w u),wpAnyH Tryz.prog .any op7.1 Q S 0 (lm 20 1048575) (B9 a U1 [pt n4 0,pt n4 0,pt n4 0,pt n4 2,i6 s.e.ph,.bool true,.bool true,pt n5 2,.agg #[i6 e0,i6 e1],pt n4 0,pt n4 0,pt n4 0,.agg (A7 s.e).toArray,.agg #[i6 (C7 s.e).1,i6 (C7 s.e).2],.bool true,.bool true,.bool true,.bool true,.bool true,.tuple #[]]) u:=by
  intro u G;refine W5 ?_;exact hQ _ G
 have N5_13:∀(u:World) (G:Below w.heap.size w u),wpAnyH Tryz.prog .any op7.1 Q S 1 (lm 20 524287) (B9 a U1 [pt n4 0,pt n4 0,pt n4 0,pt n4 2,i6 s.e.ph,.bool true,.bool true,pt n5 2,.agg #[i6 e0,i6 e1],pt n4 0,pt n4 0,pt n4 0,.agg (A7 s.e).toArray,.agg #[i6 (C7 s.e).1,i6 (C7 s.e).2],.bool true,.bool true,.bool true,.bool true,.bool true,i 87]) u:=by
  intro u G;refine C9 [19] (C6 rG Bk7 ?_ AllReadyH.nil);intro o hp hd;refine J5 hp (rG.ev2 (.bool true) (i6 13)) (Aq1 13 _) ?_;rintro e u19 ⟨rfl,rfl⟩;refine⟨_,rfl,?_⟩;exact D8 rG [] hd ⟨B4.up (G),B5.up (G)⟩ trivial (N5_13_19 _  G)
 have N5:∀(u:World) (G:Below w.heap.size w u),wpAnyH Tryz.prog .any op7.1 Q S 7 (lm 20 8191) (B9 a U1 [pt n4 0,pt n4 0,pt n4 0,pt n4 2,i6 s.e.ph,.bool true,.bool true,pt n5 2,.agg #[i6 e0,i6 e1],pt n4 0,pt n4 0,pt n4 0,.agg (A7 s.e).toArray,i 81,i 82,i 83,i 84,i 85,i 86,i 87]) u:=by
  intro u G;refine C9 [13] (C6 rG Bv7 ?_ AllReadyH.nil);intro o hp hd;refine J5 hp (rG.ev1 (.agg (A7 s.e).toArray)) (Ac8 s.e _) ?_;rintro x u13 ⟨rfl,hb13⟩;refine⟨_,rfl,?_⟩;exact D8 rG [(14,82,.bool true),(15,83,.bool true),(16,84,.bool true),(17,85,.bool true),(18,86,.bool true)] hd ⟨B4.up (bt G hb13),B5.up (bt G hb13)⟩ ⟨As2 rfl (fun w=>⟨(Ah0 (.tmp 76) (.tmp 81) e0 e1 (C7 s.e).1 (C7 s.e).2 w).1,by rw[(Ah0 (.tmp 0) (.tmp 0) e0 e1 (C7 s.e).1 (C7 s.e).2 w).2,h2]⟩),S0 rfl,F5 rfl,F5 rfl e9,S0 rfl,trivial⟩ (N5_13 _  (bt G hb13))
 have N0:∀(u:World) (G:Below w.heap.size w u),wpAnyH Tryz.prog .any op7.1 Q S 15 (lm 20 31) (B9 a U1 [pt n4 0,pt n4 0,pt n4 0,pt n4 2,i6 s.e.ph,i 73,i 74,i 75,i 76,i 77,i 78,i 79,i 80,i 81,i 82,i 83,i 84,i 85,i 86,i 87]) u:=by
  intro u G;refine C9 [5] (C6 rG Bs8 ?_ AllReadyH.nil);intro o hp hd;refine J5 hp (rG.ev1 (i6 s.e.ph)) (HL _) ?_;rintro x u5 ⟨rfl,rfl⟩;refine⟨_,rfl,?_⟩;exact D8 rG [(6,74,.bool true),(7,75,pt n5 2),(8,76,.agg #[i6 e0,i6 e1]),(9,77,pt n4 0),(10,78,pt n4 0),(11,79,pt n4 0),(12,80,.agg (A7 s.e).toArray)] hd ⟨B4.up (G),B5.up (G)⟩ ⟨F5 rfl,A9 rfl e5,M6 (cs:=[i6 e0,i6 e1]) rfl (fun w hw=>Bp5 hw.2) Ap9,F5 rfl e0_,Aa9 rfl,A9 rfl,M6 (cs:=A7 s.e) rfl (fun w hw=>hw.1.blk.atE) end_len,trivial⟩ (N5 _  G)
 exact O0 20 rG [(0,68,pt n4 0),(1,69,pt n4 0),(2,70,pt n4 0),(3,71,pt n4 2),(4,72,i6 s.e.ph)] h0 ⟨B4.up (bd _),B5.up (bd _)⟩ ⟨F5 rfl e0_,Aa9 rfl,A9 rfl,A9 rfl,F6 rfl (fun w hw=>hw.1.blk.siteIn.ph),trivial⟩ (N0 _  (bd w))
theorem Dp2:∀w,(Instr.alloc 49 true (.tuple #[])).run Tryz.prog w=.ok (.pointer (some ⟨w.heap.size,0,none⟩)) (w.alloc (.cells ([.bool false,.slice none 0 0,.bool false]:List Value).toArray 49)):=fun w=>by kernel_rfl
noncomputable def Bb3:{ops:Array Oper//(Tryz.f61.body.bind (K6 10))=some (.region 10 ops true)}:=⟨_,rfl⟩
abbrev Am6:List Nat:=[95,96,97,98,99,100,101,102,103,94,104,105,12,13]
theorem Cn1:opx Bb3.1 8=some (.call {callee:=.value (.func 134),args:=#[.tmp 98,.tmp 99,.tmp 100,.tmp 102],argTypes:=#[49,22,22,22]},some 103,none):=by kernel_rfl
theorem Ch7:opx Bb3.1 12=some (.alloc 49,some 12,none):=by kernel_rfl
theorem Eb5:opx Bb3.1 13=some (.store 49 (.tmp 12) (.tmp 104),none,none):=by kernel_rfl
theorem Ch8{s:Sv}{k d e0 e1 g q:Int}{vb vt:Value}{n4 n5:Nat}{k7 i10:Value}{cf yb:Bool}{a:Act}{w:World}{Q:Exit→Act→World→Prop}(hsz:113≤a.tmps.size)
 (e0_:a.tmps.getD 0 undef=.pointer (some ⟨n4,0,none⟩)) (e5:a.tmps.getD 5 undef=.pointer (some ⟨n5,0,none⟩)) (e7:a.tmps.getD 7 undef=k7) (e10:a.tmps.getD 10 undef=i10)
 (hP:∀c a d v w,Q (.panic c) (Act.put a d v) w→Q (.panic c) a w) (B4:A5 51 w n4 (A6 s)) (B5:A5 65 w n5 (I1 k d e0 e1 g q vb vt)) (HC:∀u,Below w.heap.size w u→Calls Tryz.prog 134 #[.agg #[.bool s.i,.slice s.ta s.es.length s.tc,.bool s.f],k7,i10,vt] u (Cr1 u s.i cf s.ta s.es.length s.tc yb))
 (hQ:∀{x95 x96 x97 x98 x99 x100 x101 x102 x103 x94 x104 x105} z w',A5 49 w' z [.bool s.i,.slice s.ta s.es.length s.tc,.bool cf]→w.heap.size≤z→Below w.heap.size w w'→Q .normal (B9 a Am6 [x95,x96,x97,x98,x99,x100,x101,x102,x103,x94,x104,x105,.pointer (some ⟨z,0,none⟩),.bool yb]) w'):
 (Code.region 10 Bb3.1 true).wp Tryz.prog Q a w:=by
 have end_len:(Tryz.prog.info? 46).map (·.size)=some (A7 s.e).length:=by rw[F2];exact M7
 have rG:Rgn Bb3.1 Am6 a Q:=⟨fun k hk=>Nat.lt_of_lt_of_le ((by decide:∀k∈Am6,k<113) k hk) hsz,by kernel_rfl,hP⟩;have hb:=rG.b;obtain⟨i,h0⟩:=Y2 a Am6;let S:World→Prop:=fun w'=>A5 51 w' n4 (A6 s)∧A5 65 w' n5 (I1 k d e0 e1 g q vb vt);refine wp_region_held_drew (S:=S) (by kernel_rfl) (⟨B4.up (bd _),B5.up (bd _)⟩) fun hHeld=>?_;have N8_12_13:∀(u:World) (z:Nat) (G:Below w.heap.size w u) (B12:A5 49 u z [.bool s.i,.slice s.ta s.es.length s.tc,.bool cf]) (Lz:w.heap.size≤z),wpAnyH Tryz.prog .any Bb3.1 Q S 0 (lm 15 32767) (B9 a Am6 [pt n4 0,pt n4 0,pt n4 70,.agg #[.bool s.i,.slice s.ta s.es.length s.tc,.bool s.f],k7,i10,pt n5 7,vt,.tuple #[.agg #[.bool s.i,.slice s.ta s.es.length s.tc,.bool cf],.bool yb],.tuple #[.agg #[.bool s.i,.slice s.ta s.es.length s.tc,.bool cf],.bool yb],.agg #[.bool s.i,.slice s.ta s.es.length s.tc,.bool cf],.bool yb,pt z 0,.bool yb]) u:=by
  intro u z G B12 Lz;refine W5 ?_;exact hQ _ _ B12 Lz G
 have N8_12:∀(u:World) (z:Nat) (G:Below w.heap.size w u) (Z:A5 49 u z [.bool false,.slice none 0 0,.bool false]) (Lz:w.heap.size≤z),wpAnyH Tryz.prog .any Bb3.1 Q S 2 (lm 15 8191) (B9 a Am6 [pt n4 0,pt n4 0,pt n4 70,.agg #[.bool s.i,.slice s.ta s.es.length s.tc,.bool s.f],k7,i10,pt n5 7,vt,.tuple #[.agg #[.bool s.i,.slice s.ta s.es.length s.tc,.bool cf],.bool yb],.tuple #[.agg #[.bool s.i,.slice s.ta s.es.length s.tc,.bool cf],.bool yb],.agg #[.bool s.i,.slice s.ta s.es.length s.tc,.bool cf],.bool yb,pt z 0,i 13]) u:=by
  intro u z G Z Lz;refine C9 [13] (C6 rG Eb5 ?_ AllReadyH.nil);intro o hp hd;refine V6 49 (.tmp 12) (.tmp 104) hp z (cs:=[.bool s.i,.slice s.ta s.es.length s.tc,.bool cf]) rG.ev rG.ev Z Af6 rfl rfl ?_;exact X7 rG [(14,13,.bool yb)] hd ⟨(B4.up G).rowOther z (Nat.ne_of_lt (Nat.lt_of_lt_of_le B4.blk.lt Lz)) _,(B5.up G).rowOther z (Nat.ne_of_lt (Nat.lt_of_lt_of_le B5.blk.lt Lz)) _⟩ ⟨Ai0 rfl,trivial⟩ (N8_12_13 _ _ (D0 G Lz _) (Z.row _) Lz)
 have N8:∀(u:World) (G:Below w.heap.size w u),wpAnyH Tryz.prog .any Bb3.1 Q S 3 (lm 15 4095) (B9 a Am6 [pt n4 0,pt n4 0,pt n4 70,.agg #[.bool s.i,.slice s.ta s.es.length s.tc,.bool s.f],k7,i10,pt n5 7,vt,.tuple #[.agg #[.bool s.i,.slice s.ta s.es.length s.tc,.bool cf],.bool yb],.tuple #[.agg #[.bool s.i,.slice s.ta s.es.length s.tc,.bool cf],.bool yb],.agg #[.bool s.i,.slice s.ta s.es.length s.tc,.bool cf],.bool yb,i 12,i 13]) u:=by
  intro u G;refine C9 [12] (C6 rG Ch7 ?_ AllReadyH.nil);intro o hp hd;refine J4 49 hp Dp2 ?_;exact D8 rG [] hd ⟨B4.up (bt G (ba _ _)),B5.up (bt G (ba _ _))⟩ trivial (N8_12 _ _ (bt G (ba _ _)) (A5.new u [.bool false,.slice none 0 0,.bool false] _) G.size)
 have N12:∀(u:World) (z:Nat) (G:Below w.heap.size w u) (Z:A5 49 u z [.bool false,.slice none 0 0,.bool false]) (Lz:w.heap.size≤z),wpAnyH Tryz.prog .any Bb3.1 Q S 6 (lm 15 4351) (B9 a Am6 [pt n4 0,pt n4 0,pt n4 70,.agg #[.bool s.i,.slice s.ta s.es.length s.tc,.bool s.f],k7,i10,pt n5 7,vt,i 103,i 94,i 104,i 105,pt z 0,i 13]) u:=by
  intro u z G Z Lz;refine C9 [8] (C6 rG Cn1 ?_ AllReadyH.nil);intro o hp hd;refine J5 hp (rG.ev4 (.agg #[.bool s.i,.slice s.ta s.es.length s.tc,.bool s.f]) k7 i10 vt) (HC _ G) ?_;rintro x u8 ⟨rfl,hb8⟩;refine⟨_,rfl,?_⟩;exact D8 rG [(9,94,.tuple #[.agg #[.bool s.i,.slice s.ta s.es.length s.tc,.bool cf],.bool yb]),(10,104,.agg #[.bool s.i,.slice s.ta s.es.length s.tc,.bool cf]),(11,105,.bool yb)] hd ⟨B4.up (bt G hb8),B5.up (bt G hb8)⟩ ⟨F5 rfl,J8 rfl,J8 rfl,trivial⟩ (N8_12 _ _ (bt G hb8) (Z.up hb8) Lz)
 have N0:∀(u:World) (G:Below w.heap.size w u),wpAnyH Tryz.prog .any Bb3.1 Q S 7 (lm 15 255) (B9 a Am6 [pt n4 0,pt n4 0,pt n4 70,.agg #[.bool s.i,.slice s.ta s.es.length s.tc,.bool s.f],k7,i10,pt n5 7,vt,i 103,i 94,i 104,i 105,i 12,i 13]) u:=by
  intro u G;refine C9 [8,12] (C6 rG Cn1 ?_ (C6 rG Ch7 ?_ AllReadyH.nil))
  ·intro o hp hd;refine J5 hp (rG.ev4 (.agg #[.bool s.i,.slice s.ta s.es.length s.tc,.bool s.f]) k7 i10 vt) (HC _ G) ?_;rintro x u8 ⟨rfl,hb8⟩;refine⟨_,rfl,?_⟩;exact D8 rG [(9,94,.tuple #[.agg #[.bool s.i,.slice s.ta s.es.length s.tc,.bool cf],.bool yb]),(10,104,.agg #[.bool s.i,.slice s.ta s.es.length s.tc,.bool cf]),(11,105,.bool yb)] hd ⟨B4.up (bt G hb8),B5.up (bt G hb8)⟩ ⟨F5 rfl,J8 rfl,J8 rfl,trivial⟩ (N8 _  (bt G hb8))
  intro o hp hd;refine J4 49 hp Dp2 ?_;exact D8 rG [] hd ⟨B4.up (bt G (ba _ _)),B5.up (bt G (ba _ _))⟩ trivial (N12 _ _ (bt G (ba _ _)) (A5.new u [.bool false,.slice none 0 0,.bool false] _) G.size)
 exact O0 15 rG [(0,95,pt n4 0),(1,96,pt n4 0),(2,97,pt n4 70),(3,98,.agg #[.bool s.i,.slice s.ta s.es.length s.tc,.bool s.f]),(4,99,k7),(5,100,i10),(6,101,pt n5 7),(7,102,vt)] h0 ⟨B4.up (bd _),B5.up (bd _)⟩ ⟨F5 rfl e0_,Aa9 rfl,A9 rfl,M6 (cs:=[.bool s.i,.slice s.ta s.es.length s.tc,.bool s.f]) rfl (fun w hw=>hw.1.blk.atP) Af6,F5 rfl e7,F5 rfl e10,A9 rfl e5,F6 rfl (fun w hw=>(Q0 hw.2.blk).2.2.2.2.2.2.2),trivial⟩ (N0 _  (bd w))
end Go.Proofs.YtadpiemjgfndgaaGreatDoor
