/- Proved here, for use further on: LeN LeO LeP LeQ LeS LeT LeU LeV LeW LeX. Conditions: none but those each theorem names. -/
import Derived.Test.YtadpiemjgfndgaaGreatDoorKd00
import Derived.Test.YtadpiemjgfndgaaGreatDoorKd20
import Derived.Test.YtadpiemjgfndgaaGreatDoorKd13
import Derived.Test.YtadpiemjgfndgaaGreatDoorKd18
import Derived.LoopN
import Derived.WalkSmall
import Derived.Test.YtadpiemjgfndgaaGreatDoorKd05
import Derived.Test.YtadpiemjgfndgaaGreatDoorKd11
import Derived.Deep.RegionHeld3
import Derived.Test.YtadpiemjgfndgaaGreatDoorKd10
import Derived.Defers
import Derived.Recover
set_option linter.unusedSimpArgs false
set_option linter.unusedVariables false
set_option maxRecDepth 100000
set_option maxHeartbeats 8000000
namespace Go.Proofs.YtadpiemjgfndgaaGreatDoor
open Go.RowKit
def Bd8(s:Sv)(K I:List UInt8)(S:Sv)(E:Int):Prop:=(Ah5 s.e.h=none∧S=s∧E=11)∨(∃c ta tc oa oc,Ah5 s.e.h=some c∧S=Ca8 s K I c ta tc oa oc∧E=0)
def Aw5(qq:Nat→Prop)(w:World)(R:Sv→Int→Prop)(x:Ending)(w':World):Prop:=∃S E,x=.returned (.tuple #[.agg (A7 S).toArray,.int .i64 E])∧R S E∧M4 qq w' S∧Below w.heap.size w w'
theorem Bq8(s:Sv)(k d e0 e1 g q:Nat)(bda:Option Addr)(bdc:Nat)(bl:List UInt8)(ka:Option Addr)(kc:Nat)(K:List UInt8)(w:World)(qq:Nat→Prop)(hq:∀g,w.heap.size≤g→qq g)(h:M4 qq w s)(hm:Al6 k d e0 e1 g q bl.length)(hbl:A4 w bda bl)
 (hK:A4 w ka K) (hKl:K.length≤60) (hkc:K.length≤kc∧kc≤maxLen) (hnx:isC s.e.h.nx=true) (hes:s.es.length≤900) (hn:s.e.o.length≤1000) (hks:M6 w):
 Calls Tryz.prog 56 #[.agg (A7 s).toArray,.agg (J0 k d e0 e1 g q (.slice bda bl.length bdc) (.slice none 0 0)).toArray,.slice ka K.length kc] w (Aw5 qq w (Bd8 s K (inF k d e0 e1 g q bl))):=by
 cases hc:Ah5 s.e.h with
 | none=>exact(Cq5 s k d e0 e1 g q _ _ _ w hnx hc).mono fun x w' hx=>⟨s,11,hx.1,.inl ⟨hc,rfl,rfl⟩,h.mono hx.2,hx.2⟩
 | some c=>exact(Cv2 s k d e0 e1 g q bda bdc bl ka kc K c w qq hq h hm hbl hK hKl hkc hnx hc hes hn hks).mono fun x w' ⟨ta,tc,oa,oc,h1,h2,h3⟩=>⟨_,0,h1,.inr ⟨c,ta,tc,oa,oc,hc,rfl,rfl⟩,h2,h3⟩
theorem Ah2:∀w,(Instr.alloc 51 true (.tuple #[])).run Tryz.prog w=.ok (.pointer (some ⟨w.heap.size,0,none⟩)) (w.alloc (.cells J8.toArray 51)):=fun w=>by kernel_rfl
theorem A5.atSite{w:World}{b:Nat}{s:Sv}(h:A5 51 w b (A7 s)):w.rangeAt b 0 (A7 s):=fun j v hj=>by
 have hjl:j<(A7 s).length:=(List.getElem?_eq_some_iff.1 hj).1;rw[h.blk.cell (0+j) (by omega),Nat.zero_add,List.getD_eq_getElem?_getD,hj];rfl
theorem A5.atEnd{w:World}{b:Nat}{e:Ev}(h:A5 46 w b (A6 e)):w.rangeAt b 0 (A6 e):=fun j v hj=>by
 have hjl:j<(A6 e).length:=(List.getElem?_eq_some_iff.1 hj).1;rw[h.blk.cell (0+j) (by omega),Nat.zero_add,List.getD_eq_getElem?_getD,hj];rfl
noncomputable def Ar3:{ops:Array Oper//(Tryz.f14.body.bind (K5 5))=some (.region 5 ops true)}:=⟨_,rfl⟩
abbrev Ak0:List Nat:=[23,24,25,26,27,28,29,30,31,32,33,34,35,7]
theorem Ea2:opx Ar3.1 4=some (.call {callee:=.value (.func 44),args:=#[.tmp 26],argTypes:=#[46]},some 27,none):=by kernel_rfl
theorem Ea3:opx Ar3.1 9=some (.call {callee:=.value (.func 45),args:=#[.tmp 31],argTypes:=#[22]},some 32,none):=by kernel_rfl
theorem De0:opx Ar3.1 10=some (.call {callee:=.value (.func 56),args:=#[.tmp 23,.tmp 29,.tmp 32],argTypes:=#[51,65,22]},some 33,none):=by kernel_rfl
theorem De1:opx Ar3.1 13=some (.store 51 (.tmp 6) (.tmp 34),none,none):=by kernel_rfl
theorem De2{s:Sv}{e8:Ev}{n3 n6 n8:Nat}{bda:Option Addr}{bn bdc:Nat}{KB:List UInt8}{qq:Nat→Prop}{R0:Sv→Int→Prop}{a:Act}{w:World}{Q:Exit→Act→World→Prop}(hsz:36≤a.tmps.size)
 (e2:a.tmps.getD 2 undef=.slice bda bn bdc) (e3:a.tmps.getD 3 undef=.pointer (some ⟨n3,0,none⟩)) (e6:a.tmps.getD 6 undef=.pointer (some ⟨n6,0,none⟩)) (e8p:a.tmps.getD 8 undef=.pointer (some ⟨n8,0,none⟩)) (hid:e8.id=s.e.id) (hke:e8.k=s.e.k)
 (hP:∀c a d v w,Q (.panic c) (Act.put a d v) w→Q (.panic c) a w) (B3:A5 51 w n3 (A7 s)) (B8:A5 46 w n8 (A6 e8)) (B6:A5 51 w n6 J8) (N3:n3≠n6) (N8:n8≠n6)
 (HB:∀u,Below w.heap.size w u→Calls Tryz.prog 45 #[.slice s.e.k.a s.e.k.l.length s.e.k.c] u (Al4 u KB))
 (HE:∀u kb kbc,Below w.heap.size w u→A4 u kb KB→(32≤kbc∧kbc≤maxLen)→Calls Tryz.prog 56 #[.agg (A7 s).toArray,.agg #[.int .i64 1,.int .i64 s.e.id,.int .i64 (C8 e8).1,.int .i64 (C8 e8).2,.int .i64 0,.int .i64 0,.slice bda bn bdc,.slice none 0 0],.slice kb 32 kbc] u (Aw5 (fun g=>qq g∧g≠n6) u R0))
 (hQ:∀{x23 x24 x25 x26 x27 x28 x29 x30 x31 x32 x33 x34 x35} S9 E9 w',A5 51 w' n6 (A7 S9)→R0 S9 E9→M4 (fun g=>qq g∧g≠n6) w' S9→Kp n6 w w'→Q .normal (B9 a Ak0 [x23,x24,x25,x26,x27,x28,x29,x30,x31,x32,x33,x34,x35,.int .i64 E9]) w'):
 (Code.region 5 Ar3.1 true).wp Tryz.prog Q a w:=by
 have site_len:(Tryz.prog.info? 51).map (·.size)=some (A7 s).length:=by rw[G8];exact S6
 have end_len:(Tryz.prog.info? 46).map (·.size)=some (A6 e8).length:=by rw[D5];exact I8
 have rG:Rgn Ar3.1 Ak0 a Q:=⟨fun k hk=>Nat.lt_of_lt_of_le ((by decide:∀k∈Ak0,k<36) k hk) hsz,by kernel_rfl,hP⟩;have hb:=rG.b;obtain⟨i,h0⟩:=S7 a Ak0;let S:World→Prop:=fun w'=>A5 51 w' n3 (A7 s)∧A5 46 w' n8 (A6 e8);refine wp_region_held_drew (S:=S) (by kernel_rfl) (⟨B3.up (bd _),B8.up (bd _)⟩) fun hHeld=>?_;have N4_9_10_13:∀(u:World) (kb:Option Addr) (kbc:Nat) (S9:Sv) (E9:Int) (B6:A5 51 u n6 (A7 S9)) (K:Kp n6 w u) (R:R0 S9 E9) (SQ:M4 (fun g=>qq g∧g≠n6) u S9),wpAnyH Tryz.prog .any Ar3.1 Q S 0 (lm 15 32767) (B9 a Ak0 [.agg (A7 s).toArray,pt n8 0,i6 s.e.id,.agg (A6 e8).toArray,.agg #[i6 (C8 e8).1,i6 (C8 e8).2],.slice bda bn bdc,.agg #[i6 1,i6 s.e.id,i6 (C8 e8).1,i6 (C8 e8).2,i6 0,i6 0,.slice bda bn bdc,.slice none 0 0],pt n8 1,.slice s.e.k.a s.e.k.l.length s.e.k.c,.slice kb 32 kbc,.tuple #[.agg (A7 S9).toArray,i6 E9],.agg (A7 S9).toArray,i6 E9,i6 E9]) u:=by
  intro u kb kbc S9 E9 B6 K R SQ;refine O0 ?_;exact hQ _ _ _ B6 R SQ K
 have N4_9_10:∀(u:World) (kb:Option Addr) (kbc:Nat) (S9:Sv) (E9:Int) (G:Below w.heap.size w u) (R:R0 S9 E9) (SQ:M4 (fun g=>qq g∧g≠n6) u S9),wpAnyH Tryz.prog .any Ar3.1 Q S 2 (lm 15 8191) (B9 a Ak0 [.agg (A7 s).toArray,pt n8 0,i6 s.e.id,.agg (A6 e8).toArray,.agg #[i6 (C8 e8).1,i6 (C8 e8).2],.slice bda bn bdc,.agg #[i6 1,i6 s.e.id,i6 (C8 e8).1,i6 (C8 e8).2,i6 0,i6 0,.slice bda bn bdc,.slice none 0 0],pt n8 1,.slice s.e.k.a s.e.k.l.length s.e.k.c,.slice kb 32 kbc,.tuple #[.agg (A7 S9).toArray,i6 E9],.agg (A7 S9).toArray,i6 E9,i 7]) u:=by
  intro u kb kbc S9 E9 G R SQ;refine C7 [13] (C4 rG De1 ?_ AllReadyH.nil);intro o hp hd;have hB6:=B6.up G;refine Y6 51 (.tmp 6) (.tmp 34) hp n6 (rG.ev e6) rG.ev hB6 (by rw[G8];exact S6) (by rw[P9,G8]) (Q9 _) ?_;exact Aa1 rG [(14,7,i6 E9)] hd ⟨(B3.up G).rowOther n6 N3 _,(B8.up G).rowOther n6 N8 _⟩ ⟨Ai9 rfl,trivial⟩ (N4_9_10_13 _ _ _ _ _ (hB6.row _) ((Kp.of G).row _) R (SQ.k8 (hB6.k8 (by rfl) ((Kp.refl _ _).row _)) fun g hg=>hg.2))
 have N4_9:∀(u:World) (kb:Option Addr) (kbc:Nat) (G:Below w.heap.size w u) (KB:A4 u kb KB) (KC:32≤kbc∧kbc≤maxLen),wpAnyH Tryz.prog .any Ar3.1 Q S 5 (lm 15 1023) (B9 a Ak0 [.agg (A7 s).toArray,pt n8 0,i6 s.e.id,.agg (A6 e8).toArray,.agg #[i6 (C8 e8).1,i6 (C8 e8).2],.slice bda bn bdc,.agg #[i6 1,i6 s.e.id,i6 (C8 e8).1,i6 (C8 e8).2,i6 0,i6 0,.slice bda bn bdc,.slice none 0 0],pt n8 1,.slice s.e.k.a s.e.k.l.length s.e.k.c,.slice kb 32 kbc,i 33,i 34,i 35,i 7]) u:=by
  intro u kb kbc G KB KC;refine C7 [10] (C4 rG De0 ?_ AllReadyH.nil);intro o hp hd;refine I6 hp (rG.ev3 (.agg (A7 s).toArray) (.agg #[i6 1,i6 s.e.id,i6 (C8 e8).1,i6 (C8 e8).2,i6 0,i6 0,.slice bda bn bdc,.slice none 0 0]) (.slice kb 32 kbc)) (HE u kb kbc G KB KC) ?_;rintro x u10 ⟨S9,E9,rfl,hR,hQ9,hb10⟩;refine⟨_,rfl,?_⟩;exact D7 rG [(11,34,.agg (A7 S9).toArray),(12,35,i6 E9)] hd ⟨B3.up (bt G hb10),B8.up (bt G hb10)⟩ ⟨Q5 rfl,Q5 rfl,trivial⟩ (N4_9_10 _ _ _ _ _ (bt G hb10) hR hQ9)
 have N4:∀(u:World) (G:Below w.heap.size w u),wpAnyH Tryz.prog .any Ar3.1 Q S 6 (lm 15 511) (B9 a Ak0 [.agg (A7 s).toArray,pt n8 0,i6 s.e.id,.agg (A6 e8).toArray,.agg #[i6 (C8 e8).1,i6 (C8 e8).2],.slice bda bn bdc,.agg #[i6 1,i6 s.e.id,i6 (C8 e8).1,i6 (C8 e8).2,i6 0,i6 0,.slice bda bn bdc,.slice none 0 0],pt n8 1,.slice s.e.k.a s.e.k.l.length s.e.k.c,i 32,i 33,i 34,i 35,i 7]) u:=by
  intro u G;refine C7 [9] (C4 rG Ea3 ?_ AllReadyH.nil);intro o hp hd;refine I6 hp (rG.ev1 (.slice s.e.k.a s.e.k.l.length s.e.k.c)) (HB u G) ?_;rintro x u9 ⟨kb,kbc,rfl,hkc,hkb,hb9⟩;refine⟨_,rfl,?_⟩;exact D7 rG [] hd ⟨B3.up (bt G hb9),B8.up (bt G hb9)⟩ trivial (N4_9 _ _ _ (bt G hb9) hkb hkc)
 have N0:∀(u:World) (G:Below w.heap.size w u),wpAnyH Tryz.prog .any Ar3.1 Q S 8 (lm 15 431) (B9 a Ak0 [.agg (A7 s).toArray,pt n8 0,i6 s.e.id,.agg (A6 e8).toArray,i 27,.slice bda bn bdc,i 29,pt n8 1,.slice s.e.k.a s.e.k.l.length s.e.k.c,i 32,i 33,i 34,i 35,i 7]) u:=by
  intro u G;refine C7 [4] (C4 rG Ea2 ?_ AllReadyH.nil);intro o hp hd;refine I6 hp (rG.ev1 (.agg (A6 e8).toArray)) (Ad0 e8 _) ?_;rintro x u4 ⟨rfl,hb4⟩;refine⟨_,rfl,?_⟩;exact D7 rG [(6,29,.agg #[i6 1,i6 s.e.id,i6 (C8 e8).1,i6 (C8 e8).2,i6 0,i6 0,.slice bda bn bdc,.slice none 0 0])] hd ⟨B3.up (bt G hb4),B8.up (bt G hb4)⟩ ⟨Ag7 #[(0,i6 1),(1,i6 s.e.id),(2,.agg #[i6 (C8 e8).1,i6 (C8 e8).2]),(5,.slice bda bn bdc)] rfl,trivial⟩ (N4 _  (bt G hb4))
 exact J1 15 rG [(0,23,.agg (A7 s).toArray),(1,24,pt n8 0),(2,25,i6 s.e.id),(3,26,.agg (A6 e8).toArray),(5,28,.slice bda bn bdc),(7,30,pt n8 1),(8,31,.slice s.e.k.a s.e.k.l.length s.e.k.c)] h0 ⟨B3.up (bd _),B8.up (bd _)⟩ ⟨K9 (cs:=A7 s) rfl (fun w hw=>hw.1.atSite) site_len e3,A8 rfl e8p,D8 rfl (fun w hw=>(hw.2.blk.endIn.id).trans (by rw[hid])),K9 (cs:=A6 e8) rfl (fun w hw=>hw.2.atEnd) end_len e8p,A9 rfl e2,A8 rfl e8p,D8 rfl (fun w hw=>(hw.2.blk.endIn.k).trans (by rw[hke])),trivial⟩ (N0 _  (bd w))
noncomputable def Am2:{ops:Array Oper//(Tryz.f16.body.bind (K5 8))=some (.region 8 ops true)}:=⟨_,rfl⟩
abbrev Ag2:List Nat:=[28,29,30,31,32,33,34,35,36,37,38,39,40,41,42,43,44,45,27,46,47,7,8]
theorem Ci2:opx Am2.1 4=some (.call {callee:=.value (.func 44),args:=#[.tmp 31],argTypes:=#[46]},some 32,none):=by kernel_rfl
theorem Ca9:opx Am2.1 17=some (.call {callee:=.value (.func 56),args:=#[.tmp 28,.tmp 40,.tmp 44],argTypes:=#[51,65,22]},some 45,none):=by kernel_rfl
theorem Bn2:opx Am2.1 21=some (.alloc 51,some 7,none):=by kernel_rfl
theorem De3:opx Am2.1 22=some (.store 51 (.tmp 7) (.tmp 46),none,none):=by kernel_rfl
theorem De4{s:Sv}{n2:Nat}{n6:Nat}{bda:Option Addr}{bn bdc:Nat}{qq:Nat→Prop}{R0:Sv→Int→Prop}{a:Act}{w:World}{Q:Exit→Act→World→Prop}(hsz:58≤a.tmps.size)
 (e1:a.tmps.getD 1 undef=.slice bda bn bdc) (e2:a.tmps.getD 2 undef=.pointer (some ⟨n2,0,none⟩))
 (hP:∀c a d v w,Q (.panic c) (Act.put a d v) w→Q (.panic c) a w) (B2:A5 51 w n2 (A7 s)) (e6:a.tmps.getD 6 undef=.pointer (some ⟨n6,0,none⟩)) (B6:A5 46 w n6 (A6 s.e)) (hq:∀g,w.heap.size≤g→qq g)
 (HE:∀(q2:Nat→Prop) u,Below w.heap.size w u→(∀g,u.heap.size≤g→q2 g)→(∀g,g<w.heap.size→qq g→q2 g)→Calls Tryz.prog 56 #[.agg (A7 s).toArray,.agg #[.int .i64 2,.int .i64 s.e.id,.int .i64 (C8 s.e).1,.int .i64 (C8 s.e).2,.int .i64 s.e.r.c.no,.int .i64 s.e.seq,.slice bda bn bdc,.slice none 0 0],.slice s.e.r.c.a s.e.r.c.len s.e.r.c.cap] u (Aw5 q2 u R0))
 (hQ:∀{x28 x29 x30 x31 x32 x33 x34 x35 x36 x37 x38 x39 x40 x41 x42 x43 x44 x45 x27 x46 x47} z S9 E9 w',A5 51 w' z (A7 S9)→w.heap.size≤z→R0 S9 E9→M4 (fun g=>qq g∧g≠z) w' S9→Below w.heap.size w w'→Q .normal (B9 a Ag2 [x28,x29,x30,x31,x32,x33,x34,x35,x36,x37,x38,x39,x40,x41,x42,x43,x44,x45,x27,x46,x47,.pointer (some ⟨z,0,none⟩),.int .i64 E9]) w'):
 (Code.region 8 Am2.1 true).wp Tryz.prog Q a w:=by
 have site_len:(Tryz.prog.info? 51).map (·.size)=some (A7 s).length:=by rw[G8];exact S6
 have end_len:(Tryz.prog.info? 46).map (·.size)=some (A6 s.e).length:=by rw[D5];exact I8
 have rG:Rgn Am2.1 Ag2 a Q:=⟨fun k hk=>Nat.lt_of_lt_of_le ((by decide:∀k∈Ag2,k<58) k hk) hsz,by kernel_rfl,hP⟩;have hb:=rG.b;obtain⟨i,h0⟩:=S7 a Ag2;let S:World→Prop:=fun w'=>A5 51 w' n2 (A7 s)∧A5 46 w' n6 (A6 s.e);refine wp_region_held_drew (S:=S) (by kernel_rfl) (⟨B2.up (bd _),B6.up (bd _)⟩) fun hHeld=>?_;have N4_17_21_22:∀(u:World) (S9:Sv) (E9:Int) (z:Nat) (G:Below w.heap.size w u) (B7:A5 51 u z (A7 S9)) (Lz:w.heap.size≤z) (R:R0 S9 E9) (SQ:M4 (fun g=>qq g∧g≠z) u S9),wpAnyH Tryz.prog .any Am2.1 Q S 0 (lm 24 16777215) (B9 a Ag2 [.agg (A7 s).toArray,pt n6 0,i6 s.e.id,.agg (A6 s.e).toArray,.agg #[i6 (C8 s.e).1,i6 (C8 s.e).2],pt n6 27,pt n6 27,pt n6 27,i6 s.e.r.c.no,pt n6 9,i6 s.e.seq,.slice bda bn bdc,.agg #[i6 2,i6 s.e.id,i6 (C8 s.e).1,i6 (C8 s.e).2,i6 s.e.r.c.no,i6 s.e.seq,.slice bda bn bdc,.slice none 0 0],pt n6 27,pt n6 27,pt n6 28,.slice s.e.r.c.a s.e.r.c.len s.e.r.c.cap,.tuple #[.agg (A7 S9).toArray,i6 E9],.tuple #[.agg (A7 S9).toArray,i6 E9],.agg (A7 S9).toArray,i6 E9,pt z 0,i6 E9]) u:=by
  intro u S9 E9 z G B7 Lz R SQ;refine O0 ?_;exact hQ _ _ _ _ B7 Lz R SQ G
 have N4_17_21:∀(u:World) (S9:Sv) (E9:Int) (z:Nat) (G:Below w.heap.size w u) (R:R0 S9 E9) (Z:A5 51 u z J8) (Lz:w.heap.size≤z) (SQ:M4 (fun g=>qq g∧g≠z) u S9),wpAnyH Tryz.prog .any Am2.1 Q S 2 (lm 24 4194303) (B9 a Ag2 [.agg (A7 s).toArray,pt n6 0,i6 s.e.id,.agg (A6 s.e).toArray,.agg #[i6 (C8 s.e).1,i6 (C8 s.e).2],pt n6 27,pt n6 27,pt n6 27,i6 s.e.r.c.no,pt n6 9,i6 s.e.seq,.slice bda bn bdc,.agg #[i6 2,i6 s.e.id,i6 (C8 s.e).1,i6 (C8 s.e).2,i6 s.e.r.c.no,i6 s.e.seq,.slice bda bn bdc,.slice none 0 0],pt n6 27,pt n6 27,pt n6 28,.slice s.e.r.c.a s.e.r.c.len s.e.r.c.cap,.tuple #[.agg (A7 S9).toArray,i6 E9],.tuple #[.agg (A7 S9).toArray,i6 E9],.agg (A7 S9).toArray,i6 E9,pt z 0,i 8]) u:=by
  intro u S9 E9 z G R Z Lz SQ;refine C7 [22] (C4 rG De3 ?_ AllReadyH.nil);intro o hp hd;refine Y6 51 (.tmp 7) (.tmp 46) hp z rG.ev rG.ev Z (by rw[G8];exact S6) (by rw[P9,G8]) (Q9 _) ?_;exact Aa1 rG [(23,8,i6 E9)] hd ⟨((B2.up G).rowOther z (Nat.ne_of_lt (Nat.lt_of_lt_of_le B2.blk.lt Lz)) _),(B6.up G).rowOther z (Nat.ne_of_lt (Nat.lt_of_lt_of_le B6.blk.lt Lz)) _⟩ ⟨Ai9 rfl,trivial⟩ (N4_17_21_22 _ _ _ _ (F5 G Lz _) (Z.row _) Lz R (SQ.k8 (Z.k8 (by rfl) ((Kp.refl _ _).row _)) fun g hg=>hg.2))
 have N4_17:∀(u:World) (S9:Sv) (E9:Int) (G:Below w.heap.size w u) (R:R0 S9 E9) (SQ:M4 qq u S9),wpAnyH Tryz.prog .any Am2.1 Q S 3 (lm 24 2097151) (B9 a Ag2 [.agg (A7 s).toArray,pt n6 0,i6 s.e.id,.agg (A6 s.e).toArray,.agg #[i6 (C8 s.e).1,i6 (C8 s.e).2],pt n6 27,pt n6 27,pt n6 27,i6 s.e.r.c.no,pt n6 9,i6 s.e.seq,.slice bda bn bdc,.agg #[i6 2,i6 s.e.id,i6 (C8 s.e).1,i6 (C8 s.e).2,i6 s.e.r.c.no,i6 s.e.seq,.slice bda bn bdc,.slice none 0 0],pt n6 27,pt n6 27,pt n6 28,.slice s.e.r.c.a s.e.r.c.len s.e.r.c.cap,.tuple #[.agg (A7 S9).toArray,i6 E9],.tuple #[.agg (A7 S9).toArray,i6 E9],.agg (A7 S9).toArray,i6 E9,i 7,i 8]) u:=by
  intro u S9 E9 G R SQ;refine C7 [21] (C4 rG Bn2 ?_ AllReadyH.nil);intro o hp hd;refine M9 51 hp Ah2 ?_;exact D7 rG [] hd ⟨B2.up (bt G (ba _ _)),B6.up (bt G (ba _ _))⟩ trivial (N4_17_21 _ _ _ _ (bt G (ba _ _)) R (A5.new u J8 _) G.size ((SQ.to (fun g hg hp=>⟨hp,Nat.ne_of_lt hg⟩)).mono (ba _ _)))
 have N4_21:∀(u:World) (z:Nat) (G:Below w.heap.size w u) (Z:A5 51 u z J8) (Lz:w.heap.size≤z),wpAnyH Tryz.prog .any Am2.1 Q S 6 (lm 24 2228223) (B9 a Ag2 [.agg (A7 s).toArray,pt n6 0,i6 s.e.id,.agg (A6 s.e).toArray,.agg #[i6 (C8 s.e).1,i6 (C8 s.e).2],pt n6 27,pt n6 27,pt n6 27,i6 s.e.r.c.no,pt n6 9,i6 s.e.seq,.slice bda bn bdc,.agg #[i6 2,i6 s.e.id,i6 (C8 s.e).1,i6 (C8 s.e).2,i6 s.e.r.c.no,i6 s.e.seq,.slice bda bn bdc,.slice none 0 0],pt n6 27,pt n6 27,pt n6 28,.slice s.e.r.c.a s.e.r.c.len s.e.r.c.cap,i 45,i 27,i 46,i 47,pt z 0,i 8]) u:=by
  intro u z G Z Lz;refine C7 [17] (C4 rG Ca9 ?_ AllReadyH.nil);intro o hp hd;refine I6 hp (rG.ev3 (.agg (A7 s).toArray) (.agg #[i6 2,i6 s.e.id,i6 (C8 s.e).1,i6 (C8 s.e).2,i6 s.e.r.c.no,i6 s.e.seq,.slice bda bn bdc,.slice none 0 0]) (.slice s.e.r.c.a s.e.r.c.len s.e.r.c.cap)) (HE (fun g=>qq g∧g≠z) u G (fun g hg=>⟨hq g (Nat.le_trans G.size hg),Nat.ne_of_gt (Nat.lt_of_lt_of_le Z.blk.lt hg)⟩) (fun g hg hp=>⟨hp,Nat.ne_of_lt (Nat.lt_of_lt_of_le hg Lz)⟩)) ?_;rintro x u17 ⟨S9,E9,rfl,hR,hQ9,hb17⟩;refine⟨_,rfl,?_⟩;exact D7 rG [(18,27,.tuple #[.agg (A7 S9).toArray,i6 E9]),(19,46,.agg (A7 S9).toArray),(20,47,i6 E9)] hd ⟨B2.up (bt G hb17),B6.up (bt G hb17)⟩ ⟨A9 rfl,Q5 rfl,Q5 rfl,trivial⟩ (N4_17_21 _ _ _ _ (bt G hb17) hR (Z.up hb17) Lz hQ9)
 have N4:∀(u:World) (G:Below w.heap.size w u),wpAnyH Tryz.prog .any Am2.1 Q S 7 (lm 24 131071) (B9 a Ag2 [.agg (A7 s).toArray,pt n6 0,i6 s.e.id,.agg (A6 s.e).toArray,.agg #[i6 (C8 s.e).1,i6 (C8 s.e).2],pt n6 27,pt n6 27,pt n6 27,i6 s.e.r.c.no,pt n6 9,i6 s.e.seq,.slice bda bn bdc,.agg #[i6 2,i6 s.e.id,i6 (C8 s.e).1,i6 (C8 s.e).2,i6 s.e.r.c.no,i6 s.e.seq,.slice bda bn bdc,.slice none 0 0],pt n6 27,pt n6 27,pt n6 28,.slice s.e.r.c.a s.e.r.c.len s.e.r.c.cap,i 45,i 27,i 46,i 47,i 7,i 8]) u:=by
  intro u G;refine C7 [17,21] (C4 rG Ca9 ?_ (C4 rG Bn2 ?_ AllReadyH.nil))
  ·intro o hp hd;refine I6 hp (rG.ev3 (.agg (A7 s).toArray) (.agg #[i6 2,i6 s.e.id,i6 (C8 s.e).1,i6 (C8 s.e).2,i6 s.e.r.c.no,i6 s.e.seq,.slice bda bn bdc,.slice none 0 0]) (.slice s.e.r.c.a s.e.r.c.len s.e.r.c.cap)) (HE qq u G (fun g hg=>hq g (Nat.le_trans G.size hg)) (fun g hg hp=>hp)) ?_;rintro x u17 ⟨S9,E9,rfl,hR,hQ9,hb17⟩;refine⟨_,rfl,?_⟩;exact D7 rG [(18,27,.tuple #[.agg (A7 S9).toArray,i6 E9]),(19,46,.agg (A7 S9).toArray),(20,47,i6 E9)] hd ⟨B2.up (bt G hb17),B6.up (bt G hb17)⟩ ⟨A9 rfl,Q5 rfl,Q5 rfl,trivial⟩ (N4_17 _ _ _ (bt G hb17) hR hQ9)
  intro o hp hd;refine M9 51 hp Ah2 ?_;exact D7 rG [] hd ⟨B2.up (bt G (ba _ _)),B6.up (bt G (ba _ _))⟩ trivial (N4_21 _ _ (bt G (ba _ _)) (A5.new u J8 _) G.size)
 have N21:∀(u:World) (z:Nat) (G:Below w.heap.size w u) (Z:A5 51 u z J8) (Lz:w.heap.size≤z),wpAnyH Tryz.prog .any Am2.1 Q S 8 (lm 24 2224111) (B9 a Ag2 [.agg (A7 s).toArray,pt n6 0,i6 s.e.id,.agg (A6 s.e).toArray,i 32,pt n6 27,pt n6 27,pt n6 27,i6 s.e.r.c.no,pt n6 9,i6 s.e.seq,.slice bda bn bdc,i 40,pt n6 27,pt n6 27,pt n6 28,.slice s.e.r.c.a s.e.r.c.len s.e.r.c.cap,i 45,i 27,i 46,i 47,pt z 0,i 8]) u:=by
  intro u z G Z Lz;refine C7 [4] (C4 rG Ci2 ?_ AllReadyH.nil);intro o hp hd;refine I6 hp (rG.ev1 (.agg (A6 s.e).toArray)) (Ad0 s.e _) ?_;rintro x u4 ⟨rfl,hb4⟩;refine⟨_,rfl,?_⟩;exact D7 rG [(12,40,.agg #[i6 2,i6 s.e.id,i6 (C8 s.e).1,i6 (C8 s.e).2,i6 s.e.r.c.no,i6 s.e.seq,.slice bda bn bdc,.slice none 0 0])] hd ⟨B2.up (bt G hb4),B6.up (bt G hb4)⟩ ⟨Ag7 #[(0,i6 2),(1,i6 s.e.id),(2,.agg #[i6 (C8 s.e).1,i6 (C8 s.e).2]),(3,i6 s.e.r.c.no),(4,i6 s.e.seq),(5,.slice bda bn bdc)] rfl,trivial⟩ (N4_21 _ _ (bt G hb4) (Z.up hb4) Lz)
 have N0:∀(u:World) (G:Below w.heap.size w u),wpAnyH Tryz.prog .any Am2.1 Q S 9 (lm 24 126959) (B9 a Ag2 [.agg (A7 s).toArray,pt n6 0,i6 s.e.id,.agg (A6 s.e).toArray,i 32,pt n6 27,pt n6 27,pt n6 27,i6 s.e.r.c.no,pt n6 9,i6 s.e.seq,.slice bda bn bdc,i 40,pt n6 27,pt n6 27,pt n6 28,.slice s.e.r.c.a s.e.r.c.len s.e.r.c.cap,i 45,i 27,i 46,i 47,i 7,i 8]) u:=by
  intro u G;refine C7 [4,21] (C4 rG Ci2 ?_ (C4 rG Bn2 ?_ AllReadyH.nil))
  ·intro o hp hd;refine I6 hp (rG.ev1 (.agg (A6 s.e).toArray)) (Ad0 s.e _) ?_;rintro x u4 ⟨rfl,hb4⟩;refine⟨_,rfl,?_⟩;exact D7 rG [(12,40,.agg #[i6 2,i6 s.e.id,i6 (C8 s.e).1,i6 (C8 s.e).2,i6 s.e.r.c.no,i6 s.e.seq,.slice bda bn bdc,.slice none 0 0])] hd ⟨B2.up (bt G hb4),B6.up (bt G hb4)⟩ ⟨Ag7 #[(0,i6 2),(1,i6 s.e.id),(2,.agg #[i6 (C8 s.e).1,i6 (C8 s.e).2]),(3,i6 s.e.r.c.no),(4,i6 s.e.seq),(5,.slice bda bn bdc)] rfl,trivial⟩ (N4 _  (bt G hb4))
  intro o hp hd;refine M9 51 hp Ah2 ?_;exact D7 rG [] hd ⟨B2.up (bt G (ba _ _)),B6.up (bt G (ba _ _))⟩ trivial (N21 _ _ (bt G (ba _ _)) (A5.new u J8 _) G.size)
 exact J1 24 rG [(0,28,.agg (A7 s).toArray),(1,29,pt n6 0),(2,30,i6 s.e.id),(3,31,.agg (A6 s.e).toArray),(5,33,pt n6 27),(6,34,pt n6 27),(7,35,pt n6 27),(8,36,i6 s.e.r.c.no),(9,37,pt n6 9),(10,38,i6 s.e.seq),(11,39,.slice bda bn bdc),(13,41,pt n6 27),(14,42,pt n6 27),(15,43,pt n6 28),(16,44,.slice s.e.r.c.a s.e.r.c.len s.e.r.c.cap)] h0 ⟨B2.up (bd _),B6.up (bd _)⟩ ⟨K9 (cs:=A7 s) rfl (fun w hw=>hw.1.atSite) site_len e2,A8 rfl e6,D8 rfl (fun w hw=>hw.2.blk.endIn.id),K9 (cs:=A6 s.e) rfl (fun w hw=>hw.2.atEnd) end_len e6,A8 rfl e6,A8 rfl,A8 rfl,D8 rfl (fun w hw=>hw.2.blk.endIn.cno),A8 rfl e6,D8 rfl (fun w hw=>hw.2.blk.endIn.seq),A9 rfl e1,A8 rfl e6,A8 rfl,A8 rfl,D8 rfl (fun w hw=>hw.2.blk.endIn.ck),trivial⟩ (N0 _  (bd w))
structure Cq6 (e:Ev):Prop where
 id:0≤e.id∧e.id≤1
 ph:0≤e.ph∧e.ph≤8
 own:0≤e.own∧e.own≤4611686018427387904
 oth:0≤e.oth∧e.oth≤4611686018427387904
 seq:0≤e.seq∧e.seq≤4611686018427387904
 k:e.k.l.length=32
 nx:isC e.h.nx=true
 win:Ab2 e.wt e.wb
 ring:Am0 e=true
 linked:X5 e=true
theorem Ba1{e:Ev}(h:Aa5 e=true):Cq6 e:=by
 unfold Aa5 Bm9 Bq5 Bq6 Bs7 V4 Bc0 Ay2 S0 at h;simp only[Bool.and_eq_true,decide_eq_true_eq,beq_iff_eq,List.all_cons,List.all_nil,Bool.and_true] at h;obtain⟨⟨h1,h2,⟨h3,h4,h5,h6⟩,h7⟩,⟨h8,h9,h10,h11,h12,h13⟩,h14,h15,h16⟩:=h;exact⟨h1,h2,h3,h4,h6,h14,h13,h9,h10,h16⟩
theorem Cq6.cur{e:Ev}(h:Cq6 e)(hl:U0 e.ph=true):1≤e.r.c.no∧e.r.c.no≤2147483647∧e.r.c.len=32:=by
 have h1:=h.linked;have h2:=h.ring;unfold X5 at h1;rw[hl] at h1;simp only[Bool.and_eq_true,cond_true,decide_eq_true_eq] at h1;have h0:0<e.r.c.no:=h1.2.2.2.1;unfold Am0 Ad5 Ah0 T7 Af4 at h2;simp only[Bool.or_eq_true,Bool.and_eq_true,decide_eq_true_eq,beq_iff_eq] at h2;rcases h2 with h2 | h2
 ·omega
 ·exact⟨h2.1.1,h2.1.2.1,by omega⟩
theorem Bv0{e:Ev}(h:0≤e.id∧e.id≤1)(ho:0≤e.own∧e.own≤4611686018427387904)(ht:0≤e.oth∧e.oth≤4611686018427387904):(0≤(C8 e).1∧(C8 e).1≤4611686018427387904)∧(0≤(C8 e).2∧(C8 e).2≤4611686018427387904):=by
 unfold C8;split
 ·exact⟨ho,ht⟩
 ·split
  ·exact⟨ht,ho⟩
  ·exact⟨⟨by decide,by decide⟩,⟨by decide,by decide⟩⟩
def Cb0(s:Sv)(other:Int)(body:List UInt8):List UInt8:=inF 1 s.e.id.toNat (C8 {s.e with oth:=other}).1.toNat (C8 {s.e with oth:=other}).2.toNat 0 0 body
def Cb1(s:Sv)(body:List UInt8):List UInt8:=inF 2 s.e.id.toNat (C8 s.e).1.toNat (C8 s.e).2.toNat s.e.r.c.no.toNat s.e.seq.toNat body
def Bq9(s:Sv)(other:Int)(body:List UInt8)(S:Sv)(E:Int):Prop:=(¬(S8 other=true∧U4 body.length=true)∧S=s∧E=1)∨((S8 other=true∧U4 body.length=true)∧Bd8 s (An7 s.e.k.l) (Cb0 s other body) S E)
def Bt0(S:Sv):Sv:=S.on (S.e.s_seq (S.e.seq+1))
def Aq0(s:Sv)(body:List UInt8)(S:Sv)(E:Int):Prop:=(U4 body.length=false∧S=s∧E=1)∨(U4 body.length=true∧((U0 s.e.ph=false∧S=s∧E=7)∨(U0 s.e.ph=true∧((s.e.seq=4611686018427387904∧S=s∧E=10)∨
 (s.e.seq<4611686018427387904∧∃S1,Bd8 s s.e.kc (Cb1 s body) S1 E∧S=bif E==0 then Bt0 S1 else S1)))))
theorem Cx4{n:Nat}(h:U4 n=true):1≤n∧n≤900:=by unfold U4 at h;exact of_decide_eq_true h
theorem Ew8{x:Int}(h:S8 x=true):0≤x∧x≤4611686018427387904:=by unfold S8 at h;exact of_decide_eq_true h
theorem Ar4{x:Int}(h:0≤x):((x.toNat:Nat):Int)=x:=Int.toNat_of_nonneg h
theorem Cj2(s:Sv)(other:Int)(bda:Option Addr)(bdc:Nat)(bl:List UInt8)(w:World)(qq:Nat→Prop)(hq:∀g,w.heap.size≤g→qq g)(h:M4 qq w s)(hr:Aa5 s.e=true)(hes:s.es.length≤900)(hn:s.e.o.length≤1000)(hbl:A4 w bda bl)(hks:M6 w):
 Calls Tryz.prog 14 #[.agg (A7 s).toArray,.int .i64 other,.slice bda bl.length bdc] w (Aw5 qq w (Bq9 s other bl)):=by
 have SZ:=Lh (show ∀S:Sv,(Tryz.prog.info? 51).map (·.size)=some (A7 S).length from fun S=>by rw[G8];exact S6);have SE:=Lh (show ∀E:Ev,(Tryz.prog.info? 46).map (·.size)=some (A6 E).length from fun E=>by rw[D5];exact I8);have HS:=Lh h;have HQ:=Lh hq;have HR:=Lh (Ba1 hr);have HB:=Lh (fun(u:World) (hb:Below w.heap.size w u)=>(show Calls Tryz.prog 45 #[.slice s.e.k.a s.e.k.l.length s.e.k.c] u (Al4 u (An7 s.e.k.l)) from Ay1 s.e.k.a s.e.k.c s.e.k.l (by have:=(Ba1 hr).k;omega) u (h.e.k.b.mono hb) (hks.mono hb)));have HE:=Lh (fun(z1:S8 other=true) (z2:U4 bl.length=true) (q2:Nat→Prop) (u:World) (hb:Below w.heap.size w u) (hc:∀g,u.heap.size≤g→q2 g) (hc2:∀g,g<w.heap.size→qq g→q2 g) (kb:Option Addr) (kbc:Nat) (hkb:A4 u kb (An7 s.e.k.l)) (hkc:32≤kbc∧kbc≤maxLen)=>
  (show Calls Tryz.prog 56 #[.agg (A7 s).toArray,.agg #[.int .i64 1,.int .i64 s.e.id,.int .i64 (C8 {s.e with oth:=other}).1,.int .i64 (C8 {s.e with oth:=other}).2,.int .i64 0,.int .i64 0,.slice bda bl.length bdc,.slice none 0 0],.slice kb 32 kbc] u (Aw5 q2 u (Bd8 s (An7 s.e.k.l) (Cb0 s other bl))) from by
  have f:=Ba1 hr;have b:=Cx4 z2;have pb:=Bv0 (e:={s.e with oth:=other}) f.id f.own (Ew8 z1);have k2:=Bq8 s 1 s.e.id.toNat (C8 {s.e with oth:=other}).1.toNat (C8 {s.e with oth:=other}).2.toNat 0 0 bda bdc bl kb kbc (An7 s.e.k.l) u q2 hc ((h.to hc2).mono hb) ⟨by decide,by decide,by have:=f.id;omega,by omega,by omega,by decide,by decide,b.1,b.2⟩ (hbl.mono hb) hkb (by rw[Bb9];decide) (by rw[Bb9];exact hkc) f.nx hes hn (hks.mono hb);rw[Bb9,Ar4 f.id.1,Ar4 pb.1.1,Ar4 pb.2.1] at k2;exact k2))
 have HBad:=Lh (fun(hz:¬(S8 other=true∧U4 bl.length=true))=>(show Bq9 s other bl s 1 from .inl ⟨hz,rfl,rfl⟩));have HOk:=Lh (fun(z1:S8 other=true) (z2:U4 bl.length=true) S E (hR:Bd8 s (An7 s.e.k.l) (Cb0 s other bl) S E)=>(show Bq9 s other bl S E from .inr ⟨⟨z1,z2⟩,hR⟩));have WN:=Lh (fun r hr=>Bm8 (hi:=4611686018427387904) (x:=other) r hr);have HF:=Lh (fun W=>Bo8 bda bl.length bdc W);clear h hq hr hes hn hbl hks;go_enter Tryz.func14,Tryz.ntmps14
 go_upto_region 1 with(fail)
 generalize hW:World.alloc (World.alloc w _) _=W;obtain⟨B3,B6,hb⟩:=Al7 (a:=A7 s) (b:=J8) hW;clear hW;have B3:=Lh B3;have B6:=Lh B6;have G:=Lh hb;have N36:=Lh (show w.heap.size≠w.heap.size+1 by omega);have L3:=Lh (show w.heap.size≤w.heap.size by omega);have L6:=Lh (show w.heap.size≤w.heap.size+1 by omega);clear hb;generalize w.heap.size+1=n6 at B6 N36 L6 ⊢;generalize hn3:w.heap.size=n3 at B3 N36 ⊢;replace L3:=Lh (show w.heap.size≤n3 by omega);clear hn3;rcases hz1:S8 other with _ | _
 ·replace WN:=Lh (WN.out false (by unfold S8 at hz1;exact hz1));have HBd:=Lh (HBad.out (by rw[hz1];simp));clear hz1 HE HOk HBad HF;go_wp2_with fail
  refine(WN.out _).mono ?_;rintro x w1 ⟨rfl,hb⟩;replace B3:=Lh (B3.out.up hb);replace B6:=Lh (B6.out.up hb);replace G:=Lh (bt G.out hb);clear hb WN;go_wp2_with (first
   | (refine G6 51 (.tmp 3) rfl ?_;refine C9 51 (.tmp 3) n3 rfl rfl rfl B3.out.blk Tryz.underlying51 rfl (SZ.out _) ?_)
   | (refine G9 51 _ _ rfl ?_;refine I3 51 _ _ n6 rfl rfl rfl rfl B6.out (SZ.out _) (by rw[P9,G8]) (Q9 _) ?_;intro w3 hB hK;replace B6:=Lh hB;replace G:=Lh (hK.below G.out L6.out);clear hB hK))
  (try simp only[Act.put,List.setIfInBounds_toArray,List.set_cons_zero,List.set_cons_succ])
  refine bodyPost_ret (F8 rfl _ _ n6 (cs:=A7 s) rfl _ rfl B6.out.blk Tryz.underlying51 rfl (SZ.out _)) rfl ?_;exact⟨s,1,rfl,HBd.out,HS.out.mono G.out,G.out⟩
 replace WN:=Lh (WN.out true (by unfold S8 at hz1;exact hz1));go_wp2_with fail
 refine(WN.out _).mono ?_;rintro x w1 ⟨rfl,hb⟩;replace B3:=Lh (B3.out.up hb);replace B6:=Lh (B6.out.up hb);replace G:=Lh (bt G.out hb);clear hb WN;go_wp2_with fail
 refine(HF.out _).mono ?_;rintro x w2 ⟨rfl,rfl⟩;clear HF;rcases hz2:U4 bl.length with _ | _
 ·have HBd:=Lh (HBad.out (by rw[hz2];simp));clear hz1 hz2 HE HOk HBad;go_wp2_with (first
   | (refine G6 51 (.tmp 3) rfl ?_;refine C9 51 (.tmp 3) n3 rfl rfl rfl B3.out.blk Tryz.underlying51 rfl (SZ.out _) ?_)
   | (refine G9 51 _ _ rfl ?_;refine I3 51 _ _ n6 rfl rfl rfl rfl B6.out (SZ.out _) (by rw[P9,G8]) (Q9 _) ?_;intro w3 hB hK;replace B6:=Lh hB;replace G:=Lh (hK.below G.out L6.out);clear hB hK))
  (try simp only[Act.put,List.setIfInBounds_toArray,List.set_cons_zero,List.set_cons_succ])
  refine bodyPost_ret (F8 rfl _ _ n6 (cs:=A7 s) rfl _ rfl B6.out.blk Tryz.underlying51 rfl (SZ.out _)) rfl ?_;exact⟨s,1,rfl,HBd.out,HS.out.mono G.out,G.out⟩
 replace HE:=Lh (HE.out hz1 hz2);replace HOk:=Lh (HOk.out hz1 hz2);clear hz1 hz2 HBad;go_upto_region 4 with(first
  | (refine G6 46 (.tmp 19) rfl ?_;refine D6 46 (.tmp 19) n3 0 (by first | rfl | simp[Region.wanted,yielded]) rfl rfl B3.out.blk.atE Tryz.underlying46 rfl (SE.out _) ?_)
  | (refine G9 46 _ _ rfl ?_;refine I3 46 _ _ _ rfl rfl rfl rfl (A5.new _ _ _) (SE.out _) (by rw[D5];rfl) (Y9 _) ?_;intro w5 hB8 hK;have B8:=Lh hB8;have N8:=Lh (show n3≠w1.heap.size∧n6≠w1.heap.size from⟨Nat.ne_of_lt B3.out.blk.lt,Nat.ne_of_lt B6.out.blk.lt⟩);replace B3:=Lh ((B3.out.up (ba _ _)).kp hK N8.out.1);replace B6:=Lh ((B6.out.up (ba _ _)).kp hK N8.out.2);have L8:=Lh G.out.size;replace G:=Lh (hK.below (bt G.out (ba _ _)) G.out.size);clear hB8 hK))
 generalize w1.heap.size=n8 at B8 N8 L8 ⊢;go_upto_region 5 with(refine G9 3 (.tmp 22) _ rfl ?_;refine M0 3 (.tmp 22) _ n8 7 rfl rfl rfl rfl B8.out (by rw[D5];decide) (by kernel_rfl) rfl (Al9 _ other) ?_;intro w5 hB hK;replace B8:=Lh hB;replace G:=Lh (hK.below G.out L8.out);replace B3:=Lh (B3.out.kp hK N8.out.1);replace B6:=Lh (B6.out.kp hK N8.out.2);clear hB hK)
 refine De2 (e8:=s.e.s_oth other) (KB:=An7 s.e.k.l) (qq:=qq) (R0:=Bd8 s (An7 s.e.k.l) (Cb0 s other bl)) (Nat.le_refl _) rfl rfl rfl rfl rfl rfl (fun _ _ d _ _ h=>by cases d<;>exact h) B3.out B8.out B6.out N36.out N8.out.2.symm (fun u hu=>HB.out u (bt G.out hu)) (fun u kb kbc hu hkb hkc=>HE.out _ u (bt G.out hu) (fun g hg=>⟨HQ.out g (by have:=G.out.size;have:=hu.size;omega),Nat.ne_of_gt (Nat.lt_of_lt_of_le B6.out.blk.lt (Nat.le_trans hu.size hg))⟩) (fun g hg hp=>⟨hp,Nat.ne_of_lt (Nat.lt_of_lt_of_le hg L6.out)⟩) kb kbc hkb hkc) ?_;intro x23 x24 x25 x26 x27 x28 x29 x30 x31 x32 x33 x34 x35 S9 E9 w9 hB6 hR hSQ hK;simp only[B9,Act.put,List.setIfInBounds_toArray,List.set_cons_zero,List.set_cons_succ];have B6':=Lh hB6;have R9:=Lh (HOk.out S9 E9 hR);have SQ:=Lh hSQ;replace G:=Lh (hK.below G.out L6.out);clear hB6 hR hSQ hK;go_wp2_with fail
 (try simp only[Act.put,List.setIfInBounds_toArray,List.set_cons_zero,List.set_cons_succ])
 refine bodyPost_ret (F8 rfl _ _ n6 (cs:=A7 S9) rfl _ rfl B6'.out.blk Tryz.underlying51 rfl (SZ.out _)) rfl ?_;exact⟨S9,E9,rfl,R9.out,SQ.out.to (fun g hg hp=>hp.1),G.out⟩
theorem Ea4{x:Int}(h0:0≤x+1)(h1:x+1≤9223372036854775807):IntKind.i64.wrap (x+1)=x+1:=by
 obtain⟨n,hn⟩:∃n:Nat,x+1=n:=⟨(x+1).toNat,by omega⟩;rw[hn];exact Bc5 n (by omega)
theorem M4.seq{q:Nat→Prop}{w:World}{S:Sv}(h:M4 q w S):M4 q w (Bt0 S):=
 ⟨⟨h.e.k,h.e.s1,h.e.s2,h.e.r,h.e.rc,h.e.ro,h.e.rp,h.e.q,h.e.ql,h.e.u,h.e.ul,h.e.h,h.e.hl,h.e.o,h.e.ol,h.e.g,h.e.gl,h.e.wt⟩,h.p,h.pl⟩
theorem Br0(s:Sv)(bda:Option Addr)(bdc:Nat)(bl:List UInt8)(w:World)(qq:Nat→Prop)(hq:∀g,w.heap.size≤g→qq g)(h:M4 qq w s)(hr:Aa5 s.e=true)(hes:s.es.length≤900)(hn:s.e.o.length≤1000)(hbl:A4 w bda bl)(hks:M6 w):
 Calls Tryz.prog 16 #[.agg (A7 s).toArray,.slice bda bl.length bdc] w (Aw5 qq w (Aq0 s bl)):=by
 have SZ:=Lh (show ∀S:Sv,(Tryz.prog.info? 51).map (·.size)=some (A7 S).length from fun S=>by rw[G8];exact S6);have SE:=Lh (show ∀E:Ev,(Tryz.prog.info? 46).map (·.size)=some (A6 E).length from fun E=>by rw[D5];exact I8);have HS:=Lh h;have HQ:=Lh hq;have HR:=Lh (Ba1 hr);have HE:=Lh (fun(z1:U0 s.e.ph=true) (z2:U4 bl.length=true) (q2:Nat→Prop) (u:World) (hb:Below w.heap.size w u) (hc:∀g,u.heap.size≤g→q2 g) (hc2:∀g,g<w.heap.size→qq g→q2 g)=>
  (show Calls Tryz.prog 56 #[.agg (A7 s).toArray,.agg #[.int .i64 2,.int .i64 s.e.id,.int .i64 (C8 s.e).1,.int .i64 (C8 s.e).2,.int .i64 s.e.r.c.no,.int .i64 s.e.seq,.slice bda bl.length bdc,.slice none 0 0],.slice s.e.r.c.a s.e.r.c.len s.e.r.c.cap] u (Aw5 q2 u (Bd8 s s.e.kc (Cb1 s bl))) from by
  have f:=Ba1 hr;have b:=Cx4 z2;have pb:=Bv0 (e:=s.e) f.id f.own f.oth;have cu:=f.cur z1;have kl:s.e.kc.length=32:=by rw[←h.e.r.lc];exact cu.2.2
  have k2:=Bq8 s 2 s.e.id.toNat (C8 s.e).1.toNat (C8 s.e).2.toNat s.e.r.c.no.toNat s.e.seq.toNat bda bdc bl s.e.r.c.a s.e.r.c.cap s.e.kc u q2 hc ((h.to hc2).mono hb) ⟨by decide,by decide,by have:=f.id;omega,by omega,by omega,by omega,by have:=f.seq;omega,b.1,b.2⟩ (hbl.mono hb) (h.e.r.c.mono hb) (by omega) (by rw[←h.e.r.lc];exact h.e.rc) f.nx hes hn (hks.mono hb);rw[←h.e.r.lc,Ar4 f.id.1,Ar4 pb.1.1,Ar4 pb.2.1,Ar4 (show 0≤s.e.r.c.no by omega),Ar4 f.seq.1] at k2;exact k2))
 have HBad:=Lh (fun(hz:U4 bl.length=false)=>(show Aq0 s bl s 1 from .inl ⟨hz,rfl,rfl⟩));have HOff:=Lh (fun(hz:U4 bl.length=true) (hl:U0 s.e.ph=false)=>(show Aq0 s bl s 7 from .inr ⟨hz,.inl ⟨hl,rfl,rfl⟩⟩));have HSp:=Lh (fun(hz:U4 bl.length=true) (hl:U0 s.e.ph=true) (hs:s.e.seq=4611686018427387904)=>(show Aq0 s bl s 10 from .inr ⟨hz,.inr ⟨hl,.inl ⟨hs,rfl,rfl⟩⟩⟩));have HOk:=Lh (fun(hz:U4 bl.length=true) (hl:U0 s.e.ph=true) (hs:s.e.seq<4611686018427387904) S1 E (hR:Bd8 s s.e.kc (Cb1 s bl) S1 E)=>(show Aq0 s bl (bif E==0 then Bt0 S1 else S1) E from .inr ⟨hz,.inr ⟨hl,.inr ⟨hs,S1,hR,rfl⟩⟩⟩));have HLk:=Lh (fun W=>Ai8 s.e.ph W);have HF:=Lh (fun W=>Bo8 bda bl.length bdc W);clear h hq hr hes hn hbl hks;go_enter Tryz.func16,Tryz.ntmps16
 go_upto_region 1 with(fail)
 generalize hW:World.alloc (World.alloc w _) _=W;obtain⟨B3,B6,hb⟩:=Al7 (a:=A7 s) (b:=J8) hW;clear hW;have B3:=Lh B3;have B6:=Lh B6;have G:=Lh hb;have N36:=Lh (show w.heap.size≠w.heap.size+1 by omega);have L3:=Lh (show w.heap.size≤w.heap.size by omega);have L6:=Lh (show w.heap.size≤w.heap.size+1 by omega);clear hb;generalize w.heap.size+1=n6 at B6 N36 L6 ⊢;generalize hn3:w.heap.size=n3 at B3 N36 ⊢;replace L3:=Lh (show w.heap.size≤n3 by omega);clear hn3;go_upto_region 2 with(first
  | (refine G6 46 (.tmp 9) rfl ?_;refine D6 46 (.tmp 9) n3 0 (by first | rfl | simp[Region.wanted,yielded]) rfl rfl B3.out.blk.atE Tryz.underlying46 rfl (SE.out _) ?_)
  | (refine G9 46 _ _ rfl ?_;refine I3 46 _ _ _ rfl rfl rfl rfl (A5.new _ _ _) (SE.out _) (by rw[D5];rfl) (Y9 _) ?_;intro w5 hB8 hK;have B8:=Lh hB8;have N8:=Lh (show n3≠W.heap.size∧n6≠W.heap.size from⟨Nat.ne_of_lt B3.out.blk.lt,Nat.ne_of_lt B6.out.blk.lt⟩);replace B3:=Lh ((B3.out.up (ba _ _)).kp hK N8.out.1);replace B6:=Lh ((B6.out.up (ba _ _)).kp hK N8.out.2);have L8:=Lh G.out.size;replace G:=Lh (hK.below (bt G.out (ba _ _)) G.out.size);clear hB8 hK))
 generalize W.heap.size=n8 at B8 N8 L8 ⊢;go_wp2_with fail
 refine(HF.out _).mono ?_;rintro x w2 ⟨rfl,rfl⟩;clear HF;rcases hz2:U4 bl.length with _ | _
 ·have HBd:=Lh (HBad.out hz2);clear hz2 HE HOk HBad HOff HSp HLk;go_wp2_with (first
   | (refine G6 51 (.tmp 2) rfl ?_;refine C9 51 (.tmp 2) n3 rfl rfl rfl B3.out.blk Tryz.underlying51 rfl (SZ.out _) ?_)
   | (refine G9 51 _ _ rfl ?_;refine I3 51 _ _ n6 rfl rfl rfl rfl B6.out (SZ.out _) (by rw[P9,G8]) (Q9 _) ?_;intro w3 hB hK;replace B6:=Lh hB;replace G:=Lh (hK.below G.out L6.out);clear hB hK))
  (try simp only[Act.put,List.setIfInBounds_toArray,List.set_cons_zero,List.set_cons_succ])
  refine bodyPost_ret (F8 rfl _ _ n6 (cs:=A7 s) rfl _ rfl B6.out.blk Tryz.underlying51 rfl (SZ.out _)) rfl ?_;exact⟨s,1,rfl,HBd.out,HS.out.mono G.out,G.out⟩
 replace HOff:=Lh (HOff.out hz2);replace HSp:=Lh (HSp.out hz2);replace HOk:=Lh (HOk.out hz2);have Hz2:=Lh hz2;clear HBad hz2;have gp:=B8.out.blk.endIn.ph;go_wp2_with fail
 refine(HLk.out _).mono ?_;rintro x w2 ⟨rfl,rfl⟩;clear HLk gp;rcases hz1:U0 s.e.ph with _ | _
 ·have HBd:=Lh (HOff.out hz1);clear hz1 HE HOk HOff HSp;go_wp2_with (first
   | (refine G6 51 (.tmp 2) rfl ?_;refine C9 51 (.tmp 2) n3 rfl rfl rfl B3.out.blk Tryz.underlying51 rfl (SZ.out _) ?_)
   | (refine G9 51 _ _ rfl ?_;refine I3 51 _ _ n6 rfl rfl rfl rfl B6.out (SZ.out _) (by rw[P9,G8]) (Q9 _) ?_;intro w3 hB hK;replace B6:=Lh hB;replace G:=Lh (hK.below G.out L6.out);clear hB hK))
  (try simp only[Act.put,List.setIfInBounds_toArray,List.set_cons_zero,List.set_cons_succ])
  refine bodyPost_ret (F8 rfl _ _ n6 (cs:=A7 s) rfl _ rfl B6.out.blk Tryz.underlying51 rfl (SZ.out _)) rfl ?_;exact⟨s,7,rfl,HBd.out,HS.out.mono G.out,G.out⟩
 replace HSp:=Lh (HSp.out hz1);replace HOk:=Lh (HOk.out hz1);replace HE:=Lh (HE.out hz1 Hz2.out);clear HOff hz1;have gs:=B8.out.blk.endIn.seq;by_cases hz3:s.e.seq=4611686018427387904
 ·have HBd:=Lh (HSp.out hz3);rw[hz3] at gs;clear hz3 HE HOk HSp;go_wp2_with (first
   | (refine G6 51 (.tmp 2) rfl ?_;refine C9 51 (.tmp 2) n3 rfl rfl rfl B3.out.blk Tryz.underlying51 rfl (SZ.out _) ?_)
   | (refine G9 51 _ _ rfl ?_;refine I3 51 _ _ n6 rfl rfl rfl rfl B6.out (SZ.out _) (by rw[P9,G8]) (Q9 _) ?_;intro w3 hB hK;replace B6:=Lh hB;replace G:=Lh (hK.below G.out L6.out);clear hB hK))
  (try simp only[Act.put,List.setIfInBounds_toArray,List.set_cons_zero,List.set_cons_succ])
  refine bodyPost_ret (F8 rfl _ _ n6 (cs:=A7 s) rfl _ rfl B6.out.blk Tryz.underlying51 rfl (SZ.out _)) rfl ?_;exact⟨s,10,rfl,HBd.out,HS.out.mono G.out,G.out⟩
 have e3:(s.e.seq==4611686018427387904)=false:=by rw[beq_eq_false_iff_ne];exact hz3
 have h3:s.e.seq<4611686018427387904:=by have:=HR.out.seq;omega
 replace HOk:=Lh (HOk.out h3);have H3:=Lh h3;clear hz3 HSp h3;go_upto_region 8 with(fail)
 clear e3 gs;generalize hWr:w5=Wr at *;clear hWr;have Q6:=Lh (show ∀g,Wr.heap.size≤g→qq g∧g≠n6 from fun g hg=>⟨HQ.out g (Nat.le_trans G.out.size hg),Nat.ne_of_gt (Nat.lt_of_lt_of_le B6.out.blk.lt hg)⟩);refine De4 (qq:=fun g=>qq g∧g≠n6) (R0:=Bd8 s s.e.kc (Cb1 s bl)) (Nat.le_refl _) rfl rfl (fun _ _ d _ _ h=>by cases d<;>exact h) B3.out rfl B8.out Q6.out (fun q2 u hu hc hc2=>HE.out q2 u (bt G.out hu) hc (fun g hg hp=>hc2 g (Nat.lt_of_lt_of_le hg G.out.size) ⟨hp,Nat.ne_of_lt (Nat.lt_of_lt_of_le hg L6.out)⟩)) ?_;intro x28 x29 x30 x31 x32 x33 x34 x35 x36 x37 x38 x39 x40 x41 x42 x43 x44 x45 x27 x46 x47 z S9 E9 w9 hB7 hLz hR hSQ hG;simp only[B9,Act.put,List.setIfInBounds_toArray,List.set_cons_zero,List.set_cons_succ];have B7:=Lh hB7;have R9:=Lh (HOk.out S9 E9 hR);have SQ:=Lh hSQ;have LZ:=Lh (show w.heap.size≤z from Nat.le_trans G.out.size hLz);have NZ:=Lh (show n6≠z from Nat.ne_of_lt (Nat.lt_of_lt_of_le B6.out.blk.lt hLz));replace B6:=Lh (B6.out.up hG);replace G:=Lh (bt G.out hG);have HC:=Lh (show E9=11∨(E9=0∧S9.e.seq=s.e.seq) from by
  rcases hR with⟨_,_,rfl⟩ | ⟨c,ta,tc,oa,oc,_,rfl,rfl⟩
  ·exact .inl rfl
  ·exact .inr ⟨rfl,rfl⟩)
 clear hB7 hR hSQ hG hLz HOk HE;rcases HC.out with rfl | ⟨rfl,hsq⟩
 ·go_wp2_with (first
   | (refine G6 51 (.tmp 7) rfl ?_;refine C9 51 (.tmp 7) z rfl rfl rfl B7.out.blk Tryz.underlying51 rfl (SZ.out _) ?_)
   | (refine G9 51 _ _ rfl ?_;refine I3 51 _ _ n6 rfl rfl rfl rfl B6.out (SZ.out _) (by rw[P9,G8]) (Q9 _) ?_;intro w3 hB hK;replace SQ:=Lh (SQ.out.k8 (B6.out.k8 (by rfl) hK) fun g hg=>hg.1.2);replace B6:=Lh hB;replace G:=Lh (hK.below G.out L6.out);clear hB hK))
  (try simp only[Act.put,List.setIfInBounds_toArray,List.set_cons_zero,List.set_cons_succ])
  refine bodyPost_ret (F8 rfl _ _ n6 (cs:=A7 S9) rfl _ rfl B6.out.blk Tryz.underlying51 rfl (SZ.out _)) rfl ?_;exact⟨S9,11,rfl,R9.out,SQ.out.to (fun g hg hp=>hp.1.1),G.out⟩
 ·have gs:=B7.out.blk.siteIn.seq;have hw:IntKind.i64.wrap (S9.e.seq+1)=S9.e.seq+1:=Ea4 (by have:=HR.out.seq;omega) (by have:=HR.out.seq;have:=H3.out;omega);clear hsq;go_wp2_with (first
   | (refine G9 3 (.tmp 55) (.tmp 53) rfl ?_;refine M0 3 (.tmp 55) (.tmp 53) z 9 rfl rfl rfl rfl B7.out (by rw[G8];decide) (by kernel_rfl) rfl (Ci9 S9 (S9.e.seq+1)) ?_;intro w3 hB hK;replace SQ:=Lh (SQ.out.k8 (B7.out.k8 (U9 _) hK) fun g hg=>hg.2);replace B7:=Lh hB;replace B6:=Lh (B6.out.kp hK NZ.out);replace G:=Lh (hK.below G.out LZ.out);clear hB hK gs)
   | (refine G6 51 (.tmp 7) rfl ?_;refine C9 51 (.tmp 7) z rfl rfl rfl B7.out.blk Tryz.underlying51 rfl (SZ.out _) ?_)
   | (refine G9 51 _ _ rfl ?_;refine I3 51 _ _ n6 rfl rfl rfl rfl B6.out (SZ.out _) (by rw[P9,G8]) (Q9 _) ?_;intro w3 hB hK;replace SQ:=Lh (SQ.out.k8 (B6.out.k8 (by rfl) hK) fun g hg=>hg.1.2);replace B6:=Lh hB;replace G:=Lh (hK.below G.out L6.out);clear hB hK))
  (try simp only[Act.put,List.setIfInBounds_toArray,List.set_cons_zero,List.set_cons_succ])
  refine bodyPost_ret (F8 rfl _ _ n6 (cs:=A7 (Bt0 S9)) rfl _ rfl B6.out.blk Tryz.underlying51 rfl (SZ.out _)) rfl ?_;exact⟨Bt0 S9,0,rfl,R9.out,(SQ.out.to (fun g hg hp=>hp.1.1)).seq,G.out⟩
theorem Bf6(a b c d:Value)(w:World):(Instr.index 140 (.agg #[a,b,c,d]) (.int .i64 0)).run Tryz.prog w=.ok a w:=by kernel_rfl
theorem Bf7(a b c d:Value)(w:World):(Instr.index 140 (.agg #[a,b,c,d]) (.int .i64 1)).run Tryz.prog w=.ok b w:=by kernel_rfl
theorem Bf8(a b c d:Value)(w:World):(Instr.index 140 (.agg #[a,b,c,d]) (.int .i64 2)).run Tryz.prog w=.ok c w:=by kernel_rfl
theorem Bf9(a b c d:Value)(w:World):(Instr.index 140 (.agg #[a,b,c,d]) (.int .i64 3)).run Tryz.prog w=.ok d w:=by kernel_rfl
def An9(s:Sv)(b:Int):Sv:=
 if b=2 then s.on (s.e.s_c0 (wrap64 (s.e.c0+1))) else if b=5 then s.on (s.e.s_c1 (wrap64 (s.e.c1+1)))
 else if b=6 then s.on (s.e.s_c2 (wrap64 (s.e.c2+1))) else if b=13 then s.on (s.e.s_c3 (wrap64 (s.e.c3+1))) else s
theorem M4.bump{q:Nat→Prop}{w:World}{S:Sv}(h:M4 q w S)(b:Int):M4 q w (An9 S b):=by
 unfold An9;repeat' split
 all_goals first | exact h | exact⟨⟨h.e.k,h.e.s1,h.e.s2,h.e.r,h.e.rc,h.e.ro,h.e.rp,h.e.q,h.e.ql,h.e.u,h.e.ul,h.e.h,h.e.hl,h.e.o,h.e.ol,h.e.g,h.e.gl,h.e.wt⟩,h.p,h.pl⟩
theorem De5(s:Sv)(w:World):
 Calls Tryz.prog 22 #[.agg (A7 s).toArray,.int .i64 2] w fun x w'=>x=.returned (.agg (A7 (s.on (s.e.s_c0 (wrap64 (s.e.c0+1))))).toArray)∧Below w.heap.size w w':=by
 have SZ:=Lh (show ∀S:Sv,(Tryz.prog.info? 51).map (·.size)=some (A7 S).length from fun S=>by rw[G8];exact S6);go_enter Tryz.func22,Tryz.ntmps22
 go_upto_region 1 with(fail)
 generalize hW:World.alloc (World.alloc w _) _=W;obtain⟨B3,B6,hb⟩:=Al7 (a:=A7 s) (b:=J8) hW;clear hW;have B3:=Lh B3;have B6:=Lh B6;have G:=Lh hb;have N36:=Lh (show w.heap.size≠w.heap.size+1 by omega);have L3:=Lh (show w.heap.size≤w.heap.size by omega);have L6:=Lh (show w.heap.size≤w.heap.size+1 by omega);clear hb;generalize w.heap.size+1=n6 at B6 N36 L6 ⊢;generalize hn3:w.heap.size=n3 at B3 N36 ⊢;replace L3:=Lh (show w.heap.size≤n3 by omega);clear hn3;have gc0:=B3.out.blk.siteIn.c0;have hi0:=Bf6;have hi1:=Bf7;have hi2:=Bf8;have hi3:=Bf9;go_wp2_with fail
 refine wp_loop_rounds 5 ?_;rw[rounds_succ];go_wp2_with (first
  | (refine G9 3 (.tmp 23) (.tmp 20) rfl ?_;refine G9 3 (.tmp 23) (.tmp 20) rfl ?_;refine M0 3 (.tmp 23) (.tmp 20) n3 66 rfl rfl rfl rfl B3.out (by rw[G8];decide) (by kernel_rfl) rfl (Cp3 s (wrap64 (s.e.c0+1))) ?_;intro w3 hB hK;replace B6:=Lh (B6.out.kp hK N36.out.symm);replace B3:=Lh hB;replace G:=Lh (hK.below G.out L3.out);clear hB hK gc0))
 rw[rounds_succ];go_wp2_with fail
 rw[rounds_succ];go_wp2_with fail
 rw[rounds_succ];go_wp2_with fail
 rw[rounds_succ];go_wp2_with (first
  | (refine G6 51 (.tmp 2) rfl ?_;refine G6 51 (.tmp 2) rfl ?_;refine C9 51 (.tmp 2) n3 rfl rfl rfl B3.out.blk Tryz.underlying51 rfl (SZ.out _) ?_)
  | (refine G9 51 _ _ rfl ?_;refine G9 51 _ _ rfl ?_;refine I3 51 _ _ n6 rfl rfl rfl rfl B6.out (SZ.out _) (by rw[P9,G8]) (Q9 _) ?_;intro w3 hB hK;replace B6:=Lh hB;replace G:=Lh (hK.below G.out L6.out);clear hB hK))
 (try simp only[Act.put,List.setIfInBounds_toArray,List.set_cons_zero,List.set_cons_succ])
 refine bodyPost_ret (K7 rfl _ _ n6 (cs:=A7 (s.on (s.e.s_c0 (wrap64 (s.e.c0+1))))) rfl B6.out.blk Tryz.underlying51 rfl (SZ.out _)) rfl ?_;exact⟨rfl,G.out⟩
theorem De6(s:Sv)(w:World):
 Calls Tryz.prog 22 #[.agg (A7 s).toArray,.int .i64 5] w fun x w'=>x=.returned (.agg (A7 (s.on (s.e.s_c1 (wrap64 (s.e.c1+1))))).toArray)∧Below w.heap.size w w':=by
 have SZ:=Lh (show ∀S:Sv,(Tryz.prog.info? 51).map (·.size)=some (A7 S).length from fun S=>by rw[G8];exact S6);go_enter Tryz.func22,Tryz.ntmps22
 go_upto_region 1 with(fail)
 generalize hW:World.alloc (World.alloc w _) _=W;obtain⟨B3,B6,hb⟩:=Al7 (a:=A7 s) (b:=J8) hW;clear hW;have B3:=Lh B3;have B6:=Lh B6;have G:=Lh hb;have N36:=Lh (show w.heap.size≠w.heap.size+1 by omega);have L3:=Lh (show w.heap.size≤w.heap.size by omega);have L6:=Lh (show w.heap.size≤w.heap.size+1 by omega);clear hb;generalize w.heap.size+1=n6 at B6 N36 L6 ⊢;generalize hn3:w.heap.size=n3 at B3 N36 ⊢;replace L3:=Lh (show w.heap.size≤n3 by omega);clear hn3;have gc1:=B3.out.blk.siteIn.c1;have hi0:=Bf6;have hi1:=Bf7;have hi2:=Bf8;have hi3:=Bf9;go_wp2_with fail
 refine wp_loop_rounds 5 ?_;rw[rounds_succ];go_wp2_with fail
 rw[rounds_succ];go_wp2_with (first
  | (refine G9 3 (.tmp 23) (.tmp 20) rfl ?_;refine G9 3 (.tmp 23) (.tmp 20) rfl ?_;refine M0 3 (.tmp 23) (.tmp 20) n3 67 rfl rfl rfl rfl B3.out (by rw[G8];decide) (by kernel_rfl) rfl (Cp4 s (wrap64 (s.e.c1+1))) ?_;intro w3 hB hK;replace B6:=Lh (B6.out.kp hK N36.out.symm);replace B3:=Lh hB;replace G:=Lh (hK.below G.out L3.out);clear hB hK gc1))
 rw[rounds_succ];go_wp2_with fail
 rw[rounds_succ];go_wp2_with fail
 rw[rounds_succ];go_wp2_with (first
  | (refine G6 51 (.tmp 2) rfl ?_;refine G6 51 (.tmp 2) rfl ?_;refine C9 51 (.tmp 2) n3 rfl rfl rfl B3.out.blk Tryz.underlying51 rfl (SZ.out _) ?_)
  | (refine G9 51 _ _ rfl ?_;refine G9 51 _ _ rfl ?_;refine I3 51 _ _ n6 rfl rfl rfl rfl B6.out (SZ.out _) (by rw[P9,G8]) (Q9 _) ?_;intro w3 hB hK;replace B6:=Lh hB;replace G:=Lh (hK.below G.out L6.out);clear hB hK))
 (try simp only[Act.put,List.setIfInBounds_toArray,List.set_cons_zero,List.set_cons_succ])
 refine bodyPost_ret (K7 rfl _ _ n6 (cs:=A7 (s.on (s.e.s_c1 (wrap64 (s.e.c1+1))))) rfl B6.out.blk Tryz.underlying51 rfl (SZ.out _)) rfl ?_;exact⟨rfl,G.out⟩
theorem De7(s:Sv)(w:World):
 Calls Tryz.prog 22 #[.agg (A7 s).toArray,.int .i64 6] w fun x w'=>x=.returned (.agg (A7 (s.on (s.e.s_c2 (wrap64 (s.e.c2+1))))).toArray)∧Below w.heap.size w w':=by
 have SZ:=Lh (show ∀S:Sv,(Tryz.prog.info? 51).map (·.size)=some (A7 S).length from fun S=>by rw[G8];exact S6);go_enter Tryz.func22,Tryz.ntmps22
 go_upto_region 1 with(fail)
 generalize hW:World.alloc (World.alloc w _) _=W;obtain⟨B3,B6,hb⟩:=Al7 (a:=A7 s) (b:=J8) hW;clear hW;have B3:=Lh B3;have B6:=Lh B6;have G:=Lh hb;have N36:=Lh (show w.heap.size≠w.heap.size+1 by omega);have L3:=Lh (show w.heap.size≤w.heap.size by omega);have L6:=Lh (show w.heap.size≤w.heap.size+1 by omega);clear hb;generalize w.heap.size+1=n6 at B6 N36 L6 ⊢;generalize hn3:w.heap.size=n3 at B3 N36 ⊢;replace L3:=Lh (show w.heap.size≤n3 by omega);clear hn3;have gc2:=B3.out.blk.siteIn.c2;have hi0:=Bf6;have hi1:=Bf7;have hi2:=Bf8;have hi3:=Bf9;go_wp2_with fail
 refine wp_loop_rounds 5 ?_;rw[rounds_succ];go_wp2_with fail
 rw[rounds_succ];go_wp2_with fail
 rw[rounds_succ];go_wp2_with (first
  | (refine G9 3 (.tmp 23) (.tmp 20) rfl ?_;refine G9 3 (.tmp 23) (.tmp 20) rfl ?_;refine M0 3 (.tmp 23) (.tmp 20) n3 68 rfl rfl rfl rfl B3.out (by rw[G8];decide) (by kernel_rfl) rfl (Cp5 s (wrap64 (s.e.c2+1))) ?_;intro w3 hB hK;replace B6:=Lh (B6.out.kp hK N36.out.symm);replace B3:=Lh hB;replace G:=Lh (hK.below G.out L3.out);clear hB hK gc2))
 rw[rounds_succ];go_wp2_with fail
 rw[rounds_succ];go_wp2_with (first
  | (refine G6 51 (.tmp 2) rfl ?_;refine G6 51 (.tmp 2) rfl ?_;refine C9 51 (.tmp 2) n3 rfl rfl rfl B3.out.blk Tryz.underlying51 rfl (SZ.out _) ?_)
  | (refine G9 51 _ _ rfl ?_;refine G9 51 _ _ rfl ?_;refine I3 51 _ _ n6 rfl rfl rfl rfl B6.out (SZ.out _) (by rw[P9,G8]) (Q9 _) ?_;intro w3 hB hK;replace B6:=Lh hB;replace G:=Lh (hK.below G.out L6.out);clear hB hK))
 (try simp only[Act.put,List.setIfInBounds_toArray,List.set_cons_zero,List.set_cons_succ])
 refine bodyPost_ret (K7 rfl _ _ n6 (cs:=A7 (s.on (s.e.s_c2 (wrap64 (s.e.c2+1))))) rfl B6.out.blk Tryz.underlying51 rfl (SZ.out _)) rfl ?_;exact⟨rfl,G.out⟩
theorem De8(s:Sv)(w:World):
 Calls Tryz.prog 22 #[.agg (A7 s).toArray,.int .i64 13] w fun x w'=>x=.returned (.agg (A7 (s.on (s.e.s_c3 (wrap64 (s.e.c3+1))))).toArray)∧Below w.heap.size w w':=by
 have SZ:=Lh (show ∀S:Sv,(Tryz.prog.info? 51).map (·.size)=some (A7 S).length from fun S=>by rw[G8];exact S6);go_enter Tryz.func22,Tryz.ntmps22
 go_upto_region 1 with(fail)
 generalize hW:World.alloc (World.alloc w _) _=W;obtain⟨B3,B6,hb⟩:=Al7 (a:=A7 s) (b:=J8) hW;clear hW;have B3:=Lh B3;have B6:=Lh B6;have G:=Lh hb;have N36:=Lh (show w.heap.size≠w.heap.size+1 by omega);have L3:=Lh (show w.heap.size≤w.heap.size by omega);have L6:=Lh (show w.heap.size≤w.heap.size+1 by omega);clear hb;generalize w.heap.size+1=n6 at B6 N36 L6 ⊢;generalize hn3:w.heap.size=n3 at B3 N36 ⊢;replace L3:=Lh (show w.heap.size≤n3 by omega);clear hn3;have gc3:=B3.out.blk.siteIn.c3;have hi0:=Bf6;have hi1:=Bf7;have hi2:=Bf8;have hi3:=Bf9;go_wp2_with fail
 refine wp_loop_rounds 5 ?_;rw[rounds_succ];go_wp2_with fail
 rw[rounds_succ];go_wp2_with fail
 rw[rounds_succ];go_wp2_with fail
 rw[rounds_succ];go_wp2_with (first
  | (refine G9 3 (.tmp 23) (.tmp 20) rfl ?_;refine G9 3 (.tmp 23) (.tmp 20) rfl ?_;refine M0 3 (.tmp 23) (.tmp 20) n3 69 rfl rfl rfl rfl B3.out (by rw[G8];decide) (by kernel_rfl) rfl (Cp6 s (wrap64 (s.e.c3+1))) ?_;intro w3 hB hK;replace B6:=Lh (B6.out.kp hK N36.out.symm);replace B3:=Lh hB;replace G:=Lh (hK.below G.out L3.out);clear hB hK gc3))
 rw[rounds_succ];go_wp2_with (first
  | (refine G6 51 (.tmp 2) rfl ?_;refine G6 51 (.tmp 2) rfl ?_;refine C9 51 (.tmp 2) n3 rfl rfl rfl B3.out.blk Tryz.underlying51 rfl (SZ.out _) ?_)
  | (refine G9 51 _ _ rfl ?_;refine G9 51 _ _ rfl ?_;refine I3 51 _ _ n6 rfl rfl rfl rfl B6.out (SZ.out _) (by rw[P9,G8]) (Q9 _) ?_;intro w3 hB hK;replace B6:=Lh hB;replace G:=Lh (hK.below G.out L6.out);clear hB hK))
 (try simp only[Act.put,List.setIfInBounds_toArray,List.set_cons_zero,List.set_cons_succ])
 refine bodyPost_ret (K7 rfl _ _ n6 (cs:=A7 (s.on (s.e.s_c3 (wrap64 (s.e.c3+1))))) rfl B6.out.blk Tryz.underlying51 rfl (SZ.out _)) rfl ?_;exact⟨rfl,G.out⟩
theorem De9(s:Sv)(b:Int)(h0:(2==b)=false)(h1:(5==b)=false)(h2:(6==b)=false)(h3:(13==b)=false)(w:World):
 Calls Tryz.prog 22 #[.agg (A7 s).toArray,.int .i64 b] w fun x w'=>x=.returned (.agg (A7 (s)).toArray)∧Below w.heap.size w w':=by
 have SZ:=Lh (show ∀S:Sv,(Tryz.prog.info? 51).map (·.size)=some (A7 S).length from fun S=>by rw[G8];exact S6);go_enter Tryz.func22,Tryz.ntmps22
 go_upto_region 1 with(fail)
 generalize hW:World.alloc (World.alloc w _) _=W;obtain⟨B3,B6,hb⟩:=Al7 (a:=A7 s) (b:=J8) hW;clear hW;have B3:=Lh B3;have B6:=Lh B6;have G:=Lh hb;have N36:=Lh (show w.heap.size≠w.heap.size+1 by omega);have L3:=Lh (show w.heap.size≤w.heap.size by omega);have L6:=Lh (show w.heap.size≤w.heap.size+1 by omega);clear hb;generalize w.heap.size+1=n6 at B6 N36 L6 ⊢;generalize hn3:w.heap.size=n3 at B3 N36 ⊢;replace L3:=Lh (show w.heap.size≤n3 by omega);clear hn3;have hi0:=Bf6;have hi1:=Bf7;have hi2:=Bf8;have hi3:=Bf9;go_wp2_with fail
 refine wp_loop_rounds 5 ?_;rw[rounds_succ];go_wp2_with fail
 rw[rounds_succ];go_wp2_with fail
 rw[rounds_succ];go_wp2_with fail
 rw[rounds_succ];go_wp2_with fail
 rw[rounds_succ];go_wp2_with (first
  | (refine G6 51 (.tmp 2) rfl ?_;refine G6 51 (.tmp 2) rfl ?_;refine C9 51 (.tmp 2) n3 rfl rfl rfl B3.out.blk Tryz.underlying51 rfl (SZ.out _) ?_)
  | (refine G9 51 _ _ rfl ?_;refine G9 51 _ _ rfl ?_;refine I3 51 _ _ n6 rfl rfl rfl rfl B6.out (SZ.out _) (by rw[P9,G8]) (Q9 _) ?_;intro w3 hB hK;replace B6:=Lh hB;replace G:=Lh (hK.below G.out L6.out);clear hB hK))
 (try simp only[Act.put,List.setIfInBounds_toArray,List.set_cons_zero,List.set_cons_succ])
 refine bodyPost_ret (K7 rfl _ _ n6 (cs:=A7 (s)) rfl B6.out.blk Tryz.underlying51 rfl (SZ.out _)) rfl ?_;exact⟨rfl,G.out⟩
theorem Cj3(s:Sv)(b:Int)(w:World):Calls Tryz.prog 22 #[.agg (A7 s).toArray,.int .i64 b] w fun x w'=>x=.returned (.agg (A7 (An9 s b)).toArray)∧Below w.heap.size w w':=by
 unfold An9;split
 ·rename_i h;subst h;exact De5 s w
 split
 ·rename_i h;subst h;exact De6 s w
 split
 ·rename_i h;subst h;exact De7 s w
 split
 ·rename_i h;subst h;exact De8 s w
 ·exact De9 s b (by simp only[beq_eq_false_iff_ne,ne_eq];omega) (by simp only[beq_eq_false_iff_ne,ne_eq];omega) (by simp only[beq_eq_false_iff_ne,ne_eq];omega) (by simp only[beq_eq_false_iff_ne,ne_eq];omega) w
def Y0(e:Ev)(k d e0 e1 g:Int):Bool:=
 bif (d != wrap64 (1-e.id)) || ((e.ph==7) || (e.ph==8)) then true else bif k==1 then false
 else(!U0 e.ph) || ((!(M7 e.r g).2) || ((e0 != (C8 e).1) || (e1 != (C8 e).2)))
theorem Aw6(n:Int)(w:World):Calls Tryz.prog 63 #[.bool true,.int .i64 n] w fun x w'=>x=.returned (.tuple #[])∧w=w':=by
 have hmi:∀(w:World),(Instr.makeInterface 54 (.int .i64 n)).run Tryz.prog w=.ok (.iface 54 (.int .i64 n)) w:=fun w=>by kernel_rfl
 go_enter Tryz.func63,Tryz.ntmps63
 have hp:∀(w:World),(Instr.panic (.iface 54 (.int .i64 n))).run Tryz.prog w=.halt (.panic (.iface 54 (.int .i64 n))) w:=fun w=>by kernel_rfl
 go_wp2_with fail
 first | (go_end0;exact⟨rfl,rfl⟩) | exact⟨rfl,rfl⟩ | exact⟨rfl,rfl,rfl⟩
theorem Af7(n:Int)(w:World):Calls Tryz.prog 63 #[.bool false,.int .i64 n] w fun x w'=>x=.panicked [{v:=.iface 54 (.int .i64 n),recovered:=false}]∧w=w':=by
 have hmi:∀(w:World),(Instr.makeInterface 54 (.int .i64 n)).run Tryz.prog w=.ok (.iface 54 (.int .i64 n)) w:=fun w=>by kernel_rfl
 go_enter Tryz.func63,Tryz.ntmps63
 have hp:∀(w:World),(Instr.panic (.iface 54 (.int .i64 n))).run Tryz.prog w=.halt (.panic (.iface 54 (.int .i64 n))) w:=fun w=>by kernel_rfl
 go_wp2_with fail
 first | (go_end0;exact⟨rfl,rfl⟩) | exact⟨rfl,rfl⟩ | exact⟨rfl,rfl,rfl⟩
structure Pd where
 k:Nat
 d:Nat
 e0:Nat
 e1:Nat
 g:Nat
 q:Nat
 b:List UInt8
 t:List UInt8
def pdF(l:List UInt8):Pd:=⟨I1 l 0 1,I1 l 1 1,I1 l 2 8,I1 l 10 8,I1 l 18 4,I1 l 22 8,Aa2 l,Ah4 l⟩
def okR(l:List UInt8):Prop:=(47≤l.length∧l.length≤946)∧Ak7 l
instance (l:List UInt8):Decidable (okR l):=by unfold okR Ak7;infer_instance
def Ad2(top:Int)(b:Nat→UInt64)(n:Int):Int×(Nat→UInt64)×Int:=
 if n<0∨4611686018427387904<n then(top,b,1) else if Ad8 top b n then(((max top.toNat (n.toNat+1):Nat):Int),Ba5 top.toNat n.toNat b,0) else(top,b,6)
theorem Eo5(top:Int)(b:Nat→UInt64)(n:Int)(hr:Ab2 top b):
 (∀w,Calls Tryz.prog 62 #[.agg (D0 top b).toArray,.int .i64 n] w fun x w'=>x=.returned (.tuple #[.agg (D0 (Ad2 top b n).1 (Ad2 top b n).2.1).toArray,.int .i64 (Ad2 top b n).2.2])∧Below w.heap.size w w')∧
 (∀w,Calls Tryz.prog 68 #[.agg (D0 top b).toArray,.int .i64 n] w fun x w'=>x=.returned (.tuple #[.agg (D0 (Ad2 top b n).1 (Ad2 top b n).2.1).toArray,.int .i64 (Ad2 top b n).2.2])∧Below w.heap.size w w'):=by
 obtain⟨⟨h0,h1⟩,h2,-⟩:=hr;unfold Ad2;by_cases hn:n<0∨4611686018427387904<n
 ·rw[if_pos hn];exact⟨fun w=>Eh0 top b n hn w,fun w=>Cy8 top b n hn w⟩
 rw[if_neg hn];by_cases hf:Ad8 top b n
 ·rw[if_pos hf];obtain⟨T,rfl⟩:∃T:Nat,top=T:=⟨top.toNat,by omega⟩;obtain⟨k,rfl⟩:∃k:Nat,n=k:=⟨n.toNat,by omega⟩;have hT:T≤4611686018427387905:=by omega
  have hk:k≤4611686018427387904:=by omega
  simp only[Int.toNat_natCast];refine⟨fun w=>Et7 T k b hT hk hf w,fun w=>?_⟩;have h:=Du8 T k b hT hk hf w;obtain⟨⟨a1,a2,a3⟩,a4⟩:=hf;rw[Cz0 _ (Ba5 T k b) _ (fun i hi=>Dt7 T k b (fun p hp hpt=>h2 p hp (by omega)) (by omega) (by rcases a4 with a4 | a4;exact .inl (by omega);exact .inr (by simpa using a4)) i hi)];exact h
 ·rw[if_neg hf];exact⟨fun w=>Eh1 top b n ⟨h0,h1⟩ (by omega) (by omega) hf w,fun w=>Cy9 top b n ⟨h0,h1⟩ (by omega) (by omega) hf w⟩
theorem Cv3(top:Int)(b:Nat→UInt64)(n:Int)(h:-9223372036854775808≤top∧top≤9223372036854775807)(hr:Ab2 top b):-9223372036854775808≤(Ad2 top b n).1∧(Ad2 top b n).1≤9223372036854775807:=by
 obtain⟨⟨h0,h1⟩,-,-⟩:=hr;unfold Ad2;split
 ·exact h
 split
 ·simp only;omega
 ·exact h
def Bn3(e:Ev)(no:Int):List UInt8:=bif Ab3 no e.r.c then e.kc else bif Ab3 no e.r.o then e.ko else bif Ab3 no e.r.p then e.kp else[]
theorem Cq7{q:Nat→Prop}{w:World}{e:Ev}(h:V2 q w e)(no:Int):
 A4 w (M7 e.r no).1.a (Bn3 e no)∧(M7 e.r no).1.len=(Bn3 e no).length∧(M7 e.r no).1.len≤(M7 e.r no).1.cap∧(M7 e.r no).1.cap≤maxLen:=by
 unfold M7 Bn3;cases Ab3 no e.r.c
 ·cases Ab3 no e.r.o
  ·cases Ab3 no e.r.p
   ·exact⟨.inl rfl,rfl,Nat.le_refl _,Nat.zero_le _⟩
   ·exact⟨h.r.p,h.r.lp,h.rp.1,h.rp.2⟩
  ·exact⟨h.r.o,h.r.lo,h.ro.1,h.ro.2⟩
 ·exact⟨h.r.c,h.r.lc,h.rc.1,h.rc.2⟩
def Aw0(e:Ev)(p:Pd):List UInt8:=bif ((p.k:Int)==2) then Bn3 e p.g else An7 e.k.l
def inT(p:Pd):List UInt8:=inF p.k p.d p.e0 p.e1 p.g p.q p.b
def Ab4(s:Sv)(p:Pd):Sv:=s.l_p s.i (Bp9 s.f s.es (Aw0 s.e p) (inT p) p.t) s.ta s.tc s.es
def Ao0(s:Sv)(p:Pd):Bool:=Bw4 s.i s.es (Aw0 s.e p) (inT p) p.t
def Bi4(e:Ev):Ev:=bif T7 e.r.p then e else{e with r:=⟨e.r.p,e.r.c,G0,16,e.r.t⟩,kc:=e.kp,ko:=e.kc,kp:=[]}
theorem Df0(s:Sv):At0 (A7 s) 27 ((Bm6 s.e.r).1.L)=A7 (s.on (Bi4 s.e)):=by
 rw[Cu6];unfold Bm6 Bi4;cases T7 s.e.r.p<;>rfl
theorem V2.turn{q:Nat→Prop}{w:World}{e:Ev}(h:V2 q w e):V2 q w (Bi4 e):=by
 unfold Bi4;cases T7 e.r.p
 ·exact⟨h.k,h.s1,h.s2,⟨h.r.lp,h.r.p,h.r.lc,h.r.c,rfl,.inl rfl⟩,h.rp,h.rc,⟨Nat.le_refl _,Nat.zero_le _⟩,h.q,h.ql,h.u,h.ul,h.h,h.hl,h.o,h.ol,h.g,h.gl,h.wt⟩
 ·exact h
def Ak1(s:Sv)(n:Int):Sv:=s.on (s.e.l_w (Ad2 s.e.wt s.e.wb n).1 (Ad2 s.e.wt s.e.wb n).2.1)
def Bn4(s:Sv)(p:Pd):Sv:=bif ((p.g:Int)==s.e.r.p.no)&&(s.e.ph != 4) then(Ak1 s p.q).on (Bi4 (Ak1 s p.q).e) else Ak1 s p.q
def Aa3(s:Sv)(l:List UInt8):Sv×Int:=
 bif !decide (okR l) then(An9 s 2,2)
 else bif Y0 s.e (pdF l).k (pdF l).d (pdF l).e0 (pdF l).e1 (pdF l).g then(An9 s 13,13)
 else bif !Ao0 s (pdF l) then(An9 (Ab4 s (pdF l)) 5,5)
 else bif (((pdF l).k:Int)==1) then(Ab4 s (pdF l),0)
 else bif (Ad2 s.e.wt s.e.wb (pdF l).q).2.2 != 0 then(An9 (Ab4 s (pdF l)) 6,6) else(Bn4 (Ab4 s (pdF l)) (pdF l),0)
theorem M4.chk{q:Nat→Prop}{w:World}{s:Sv}(h:M4 q w s)(p:Pd):M4 q w (Ab4 s p):=⟨h.e,h.p,h.pl⟩
theorem M4.wind{q:Nat→Prop}{w:World}{s:Sv}(h:M4 q w s)(hr:Ab2 s.e.wt s.e.wb)(n:Int):M4 q w (Ak1 s n):=
 ⟨⟨h.e.k,h.e.s1,h.e.s2,h.e.r,h.e.rc,h.e.ro,h.e.rp,h.e.q,h.e.ql,h.e.u,h.e.ul,h.e.h,h.e.hl,h.e.o,h.e.ol,h.e.g,h.e.gl,Cv3 _ _ _ h.e.wt hr⟩,h.p,h.pl⟩
theorem M4.gone{q:Nat→Prop}{w:World}{s:Sv}(h:M4 q w s)(hr:Ab2 s.e.wt s.e.wb)(p:Pd):M4 q w (Bn4 s p):=by
 unfold Bn4;cases((p.g:Int)==s.e.r.p.no)&&(s.e.ph != 4)
 ·exact h.wind hr _
 ·exact⟨(h.wind hr _).e.turn,(h.wind hr p.q).p,(h.wind hr p.q).pl⟩
theorem M4.take{q:Nat→Prop}{w:World}{s:Sv}(h:M4 q w s)(hr:Ab2 s.e.wt s.e.wb)(l:List UInt8):M4 q w (Aa3 s l).1:=by
 unfold Aa3;cases decide (okR l)
 ·exact h.bump 2
 cases Y0 s.e (pdF l).k (pdF l).d (pdF l).e0 (pdF l).e1 (pdF l).g
 ·cases Ao0 s (pdF l)
  ·exact(h.chk _).bump 5
  ·cases(((pdF l).k:Int)==1)
   ·cases(Ad2 s.e.wt s.e.wb (pdF l).q).2.2 != 0
    ·exact(h.chk _).gone hr _
    ·exact(h.chk _).bump 6
   ·exact h.chk _
 ·exact h.bump 13
def Df1(w:World)(E:Int)(p:Pd)(v:Value):Prop:=
 (E≠0∧v=.agg I0.toArray)∨(E=0∧∃a1 c1 a2 c2,v=Bp4 p.k p.d p.e0 p.e1 p.g p.q (.slice a1 p.b.length c1) (.slice a2 p.t.length c2)∧(p.b.length≤c1∧c1≤maxLen)∧(p.t.length≤c2∧c2≤maxLen)∧A4 w a1 p.b∧A4 w a2 p.t)
def Bn5(w:World)(s:Sv)(l:List UInt8)(x:Ending)(w':World):Prop:=
 ∃v,x=.returned (.tuple #[.agg (A7 (Aa3 s l).1).toArray,v,.int .i64 (Aa3 s l).2])∧Df1 w' (Aa3 s l).2 (pdF l) v∧Below w.heap.size w w'
def Df2(w:World)(l:List UInt8)(x:Ending)(w':World):Prop:=
 (okR l∧∃a1 c1 a2 c2,x=.returned (.tuple #[Bp4 (pdF l).k (pdF l).d (pdF l).e0 (pdF l).e1 (pdF l).g (pdF l).q (.slice a1 (pdF l).b.length c1) (.slice a2 (pdF l).t.length c2),.int .i64 0])∧((pdF l).b.length≤c1∧c1≤maxLen)∧((pdF l).t.length≤c2∧c2≤maxLen)∧A4 w' a1 (pdF l).b∧A4 w' a2 (pdF l).t∧Below w.heap.size w w')
 ∨(¬okR l∧∃why:Int,(why==0)=false∧x=.returned (.tuple #[.agg I0.toArray,.int .i64 why])∧Below w.heap.size w w')
theorem Ea5{w:World}{l:List UInt8}(h1:47≤l.length)(h2:l.length≤946){x:Ending}{w':World}
 (h:(Ak7 l→Dw8 w (I1 l 0 1) (I1 l 1 1) (I1 l 2 8) (I1 l 10 8) (I1 l 18 4) (I1 l 22 8) (Aa2 l) (Ah4 l) x w')∧(¬Ak7 l→Cj7 w 2 x w')):Df2 w l x w':=by
 by_cases hg:Ak7 l
 ·obtain⟨a1,c1,a2,c2,k1,k2,k3,k4,k5,k6,k7,k8⟩:=h.1 hg;exact .inl ⟨⟨⟨h1,h2⟩,hg⟩,a1,c1,a2,c2,k1,⟨k2,k3⟩,⟨k4,k5⟩,k6,k7,k8⟩
 ·exact .inr ⟨fun k=>hg k.2,2,rfl,(h.2 hg).1,(h.2 hg).2⟩
theorem Cq8(a:Option Addr)(c:Nat)(l:List UInt8)(hc:l.length≤c)(hcm:c≤maxLen)(w:World)(hl:A4 w a l):
 Calls Tryz.prog 132 #[.slice a l.length c] w (Df2 w l):=by
 by_cases h1:l.length<47
 ·exact(Db2 a c l h1 w).mono fun x w' h=>.inr ⟨fun k=>by have:=k.1.1;omega,3,rfl,h.1,h.2⟩
 by_cases h2:946<l.length
 ·exact(Dw7 a c l h2 (by omega) w).mono fun x w' h=>.inr ⟨fun k=>by have:=k.1.2;omega,4,rfl,h.1,h.2⟩
 exact(Ej6 a c l (by omega) (by omega) hc hcm w hl).mono fun x w' h=>Ea5 (by omega) (by omega) h
theorem Ew9(w:World):(Instr.build 65 #[]).run Tryz.prog w=.ok (.agg I0.toArray) w:=by kernel_rfl
theorem A5.atAll{T:TypeId}{w:World}{b:Nat}{L:List Value}(h:A5 T w b L):w.rangeAt b 0 L:=fun j v hj=>by
 have hjl:j<L.length:=(List.getElem?_eq_some_iff.1 hj).1;rw[h.blk.cell (0+j) (by omega),Nat.zero_add,List.getD_eq_getElem?_getD,hj];rfl
noncomputable def Ay3:{ops:Array Oper//(Tryz.f19.body.bind (K5 5))=some (.region 5 ops true)}:=⟨_,rfl⟩
abbrev Am5:List Nat:=[16,17]
theorem Ea6:opx Ay3.1 2=some (.store 51 (.tmp 4) (.tmp 16),none,none):=by kernel_rfl
theorem Ea7:opx Ay3.1 3=some (.store 65 (.tmp 5) (.tmp 17),none,none):=by kernel_rfl
theorem Ea8:opx Ay3.1 4=some (.store 54 (.tmp 6) (.const (Value.int IntKind.i64 0)),none,none):=by kernel_rfl
theorem Df3{s:Sv}{D:List Value}{n4 n5 n6:Nat}{c6:Int}{w0:World}{a1 a2:Option Addr}{b1 b2:List UInt8}{a:Act}{w:World}{Q:Exit→Act→World→Prop}(hsz:58≤a.tmps.size)
 (e4:a.tmps.getD 4 undef=.pointer (some ⟨n4,0,none⟩)) (e5:a.tmps.getD 5 undef=.pointer (some ⟨n5,0,none⟩)) (e6:a.tmps.getD 6 undef=.pointer (some ⟨n6,0,none⟩))
 (hP:∀c a d v w,Q (.panic c) (Act.put a d v) w→Q (.panic c) a w) (B4:A5 51 w n4 (A7 s)) (B5:A5 65 w n5 D) (B6:A5 54 w n6 [.int .i64 c6]) (N45:n4≠n5) (N46:n4≠n6) (N56:n5≠n6) (L6:w0.heap.size≤n6) (L4:w0.heap.size≤n4) (L5:w0.heap.size≤n5) (G:Below w0.heap.size w0 w) (QB:A4 w a1 b1) (QT:A4 w a2 b2)
 (hD1:D.all (·.oneCell')=true) (hD8:D.all no8=true) (env_len:(Tryz.prog.info? 65).map (·.size)=some D.length)
 (hQ:∀{x16 x17} w',A5 51 w' n4 (A7 s)→A5 65 w' n5 D→A5 54 w' n6 [.int .i64 0]→A4 w' a1 b1→A4 w' a2 b2→Below w0.heap.size w0 w'→Q .normal (B9 a Am5 [x16,x17]) w'):
 (Code.region 5 Ay3.1 true).wp Tryz.prog Q a w:=by
 have site_len:(Tryz.prog.info? 51).map (·.size)=some (A7 s).length:=by rw[G8];exact S6
 have bd0:∀{u:World},Below w0.heap.size w0 u→Below w0.heap.size w0 u.drew:=fun h=>bt h (bd _);have hB48:(A7 s).all no8=true:=U9 _;have hB58:D.all no8=true:=hD8;have hB68:[Value.int .i64 c6].all no8=true:=rfl;have rG:Rgn Ay3.1 Am5 a Q:=⟨fun k hk=>Nat.lt_of_lt_of_le ((by decide:∀k∈Am5,k<58) k hk) hsz,by kernel_rfl,hP⟩;have hb:=rG.b;obtain⟨i,h0⟩:=S7 a Am5;let S:World→Prop:=fun w'=>A5 51 w' n4 (A7 s)∧A5 65 w' n5 D;refine wp_region_held_drew (S:=S) (by kernel_rfl) (⟨B4.up (bd _),B5.up (bd _)⟩) fun hHeld=>?_;have N2_3_4:∀(u:World) (G:Below w0.heap.size w0 u) (B4:A5 51 u n4 (A7 s)) (B5:A5 65 u n5 (D)) (B6:A5 54 u n6 ([i6 0])) (QB:A4 u a1 b1) (QT:A4 u a2 b2),wpAnyH Tryz.prog .any Ay3.1 Q S 0 (lm 5 31) (B9 a Am5 [.agg (A7 s).toArray,.agg (D).toArray]) u:=by
  intro u G B4 B5 B6 QB QT;refine O0 ?_;exact hQ _ B4 B5 B6 QB QT G
 have N2_3:∀(u:World) (G:Below w0.heap.size w0 u) (B4:A5 51 u n4 (A7 s)) (B5:A5 65 u n5 (D)) (B6:A5 54 u n6 [i6 c6]) (QB:A4 u a1 b1) (QT:A4 u a2 b2),wpAnyH Tryz.prog .any Ay3.1 Q S 1 (lm 5 15) (B9 a Am5 [.agg (A7 s).toArray,.agg (D).toArray]) u:=by
  intro u G B4 B5 B6 QB QT;refine C7 [4] (C4 rG Ea8 ?_ AllReadyH.nil);intro o hp hd;refine Bc1 54 (.tmp 6) (.const (i6 0)) hp n6 0 (rG.ev e6) rfl B6.blk (Nat.zero_lt_succ _) (by kernel_rfl) rfl ?_;exact Aa1 rG [] hd ⟨(B4.kp ((Kp.refl n6 u).set 0 _) N46),(B5.kp ((Kp.refl n6 u).set 0 _) N56)⟩ trivial (N2_3_4 _  (((Kp.refl n6 u).set 0 _).below G L6) (B4.kp ((Kp.refl n6 u).set 0 _) N46) (B5.kp ((Kp.refl n6 u).set 0 _) N56) (B6.set 0 _) (A4.kp8 QB B6.blk hB68 ((Kp.refl n6 u).set 0 _)) (A4.kp8 QT B6.blk hB68 ((Kp.refl n6 u).set 0 _)))
 have N2:∀(u:World) (G:Below w0.heap.size w0 u) (B4:A5 51 u n4 (A7 s)) (B5:A5 65 u n5 D) (B6:A5 54 u n6 [i6 c6]) (QB:A4 u a1 b1) (QT:A4 u a2 b2),wpAnyH Tryz.prog .any Ay3.1 Q S 2 (lm 5 7) (B9 a Am5 [.agg (A7 s).toArray,.agg (D).toArray]) u:=by
  intro u G B4 B5 B6 QB QT;refine C7 [3] (C4 rG Ea7 ?_ AllReadyH.nil);intro o hp hd;refine Y6 65 (.tmp 5) (.tmp 17) hp n5 (rG.ev e5) rG.ev B5 env_len rfl hD1 ?_;exact Aa1 rG [] hd ⟨(B4.kp ((Kp.refl n5 u).row _) N45),(B5.row _)⟩ trivial (N2_3 _  (((Kp.refl n5 u).row _).below G L5) (B4.kp ((Kp.refl n5 u).row _) N45) (B5.row _) (B6.kp ((Kp.refl n5 u).row _) N56.symm) (A4.kp8 QB B5.blk (hB58) ((Kp.refl n5 u).row _)) (A4.kp8 QT B5.blk (hB58) ((Kp.refl n5 u).row _)))
 have N0:∀(u:World) (G:Below w0.heap.size w0 u) (B4:A5 51 u n4 (A7 s)) (B5:A5 65 u n5 D) (B6:A5 54 u n6 [i6 c6]) (QB:A4 u a1 b1) (QT:A4 u a2 b2),wpAnyH Tryz.prog .any Ay3.1 Q S 3 (lm 5 3) (B9 a Am5 [.agg (A7 s).toArray,.agg (D).toArray]) u:=by
  intro u G B4 B5 B6 QB QT;refine C7 [2] (C4 rG Ea6 ?_ AllReadyH.nil);intro o hp hd;refine Y6 51 (.tmp 4) (.tmp 16) hp n4 (rG.ev e4) rG.ev B4 site_len rfl (Q9 _) ?_;exact Aa1 rG [] hd ⟨(B4.row _),(B5.kp ((Kp.refl n4 u).row _) N45.symm)⟩ trivial (N2 _  (((Kp.refl n4 u).row _).below G L4) (B4.row _) (B5.kp ((Kp.refl n4 u).row _) N45.symm) (B6.kp ((Kp.refl n4 u).row _) N46.symm) (A4.kp8 QB B4.blk (hB48) ((Kp.refl n4 u).row _)) (A4.kp8 QT B4.blk (hB48) ((Kp.refl n4 u).row _)))
 exact J1 5 rG [(0,16,.agg (A7 s).toArray),(1,17,.agg (D).toArray)] h0 ⟨B4.up (bd _),B5.up (bd _)⟩ ⟨K9 (cs:=A7 s) rfl (fun w hw=>hw.1.atAll) site_len e4,K9 (cs:=D) rfl (fun w hw=>hw.2.atAll) env_len e5,trivial⟩ (N0 _  (bd0 G) (B4.up (bd _)) (B5.up (bd _)) (B6.up (bd _)) (QB.mono (bd _)) (QT.mono (bd _)))
noncomputable def As6:{ops:Array Oper//(Tryz.f19.body.bind (K5 11))=some (.region 11 ops true)}:=⟨_,rfl⟩
abbrev Ak2:List Nat:=[56,57]
theorem Df4:opx As6.1 2=some (.store 51 (.tmp 4) (.tmp 56),none,none):=by kernel_rfl
theorem Df5:opx As6.1 3=some (.store 65 (.tmp 5) (.tmp 57),none,none):=by kernel_rfl
theorem Df6:opx As6.1 4=some (.store 54 (.tmp 6) (.const (Value.int IntKind.i64 0)),none,none):=by kernel_rfl
theorem Bj3{s:Sv}{D:List Value}{n4 n5 n6:Nat}{c6:Int}{w0:World}{a1 a2:Option Addr}{b1 b2:List UInt8}{a:Act}{w:World}{Q:Exit→Act→World→Prop}(hsz:58≤a.tmps.size)
 (e4:a.tmps.getD 4 undef=.pointer (some ⟨n4,0,none⟩)) (e5:a.tmps.getD 5 undef=.pointer (some ⟨n5,0,none⟩)) (e6:a.tmps.getD 6 undef=.pointer (some ⟨n6,0,none⟩))
 (hP:∀c a d v w,Q (.panic c) (Act.put a d v) w→Q (.panic c) a w) (B4:A5 51 w n4 (A7 s)) (B5:A5 65 w n5 D) (B6:A5 54 w n6 [.int .i64 c6]) (N45:n4≠n5) (N46:n4≠n6) (N56:n5≠n6) (L6:w0.heap.size≤n6) (L4:w0.heap.size≤n4) (L5:w0.heap.size≤n5) (G:Below w0.heap.size w0 w) (QB:A4 w a1 b1) (QT:A4 w a2 b2)
 (hD1:D.all (·.oneCell')=true) (hD8:D.all no8=true) (env_len:(Tryz.prog.info? 65).map (·.size)=some D.length)
 (hQ:∀{x56 x57} w',A5 51 w' n4 (A7 s)→A5 65 w' n5 D→A5 54 w' n6 [.int .i64 0]→A4 w' a1 b1→A4 w' a2 b2→Below w0.heap.size w0 w'→Q .normal (B9 a Ak2 [x56,x57]) w'):
 (Code.region 11 As6.1 true).wp Tryz.prog Q a w:=by
 have site_len:(Tryz.prog.info? 51).map (·.size)=some (A7 s).length:=by rw[G8];exact S6
 have bd0:∀{u:World},Below w0.heap.size w0 u→Below w0.heap.size w0 u.drew:=fun h=>bt h (bd _);have hB48:(A7 s).all no8=true:=U9 _;have hB58:D.all no8=true:=hD8;have hB68:[Value.int .i64 c6].all no8=true:=rfl;have rG:Rgn As6.1 Ak2 a Q:=⟨fun k hk=>Nat.lt_of_lt_of_le ((by decide:∀k∈Ak2,k<58) k hk) hsz,by kernel_rfl,hP⟩;have hb:=rG.b;obtain⟨i,h0⟩:=S7 a Ak2;let S:World→Prop:=fun w'=>A5 51 w' n4 (A7 s)∧A5 65 w' n5 D;refine wp_region_held_drew (S:=S) (by kernel_rfl) (⟨B4.up (bd _),B5.up (bd _)⟩) fun hHeld=>?_;have N2_3_4:∀(u:World) (G:Below w0.heap.size w0 u) (B4:A5 51 u n4 (A7 s)) (B5:A5 65 u n5 (D)) (B6:A5 54 u n6 ([i6 0])) (QB:A4 u a1 b1) (QT:A4 u a2 b2),wpAnyH Tryz.prog .any As6.1 Q S 0 (lm 5 31) (B9 a Ak2 [.agg (A7 s).toArray,.agg (D).toArray]) u:=by
  intro u G B4 B5 B6 QB QT;refine O0 ?_;exact hQ _ B4 B5 B6 QB QT G
 have N2_3:∀(u:World) (G:Below w0.heap.size w0 u) (B4:A5 51 u n4 (A7 s)) (B5:A5 65 u n5 (D)) (B6:A5 54 u n6 [i6 c6]) (QB:A4 u a1 b1) (QT:A4 u a2 b2),wpAnyH Tryz.prog .any As6.1 Q S 1 (lm 5 15) (B9 a Ak2 [.agg (A7 s).toArray,.agg (D).toArray]) u:=by
  intro u G B4 B5 B6 QB QT;refine C7 [4] (C4 rG Df6 ?_ AllReadyH.nil);intro o hp hd;refine Bc1 54 (.tmp 6) (.const (i6 0)) hp n6 0 (rG.ev e6) rfl B6.blk (Nat.zero_lt_succ _) (by kernel_rfl) rfl ?_;exact Aa1 rG [] hd ⟨(B4.kp ((Kp.refl n6 u).set 0 _) N46),(B5.kp ((Kp.refl n6 u).set 0 _) N56)⟩ trivial (N2_3_4 _  (((Kp.refl n6 u).set 0 _).below G L6) (B4.kp ((Kp.refl n6 u).set 0 _) N46) (B5.kp ((Kp.refl n6 u).set 0 _) N56) (B6.set 0 _) (A4.kp8 QB B6.blk hB68 ((Kp.refl n6 u).set 0 _)) (A4.kp8 QT B6.blk hB68 ((Kp.refl n6 u).set 0 _)))
 have N2:∀(u:World) (G:Below w0.heap.size w0 u) (B4:A5 51 u n4 (A7 s)) (B5:A5 65 u n5 D) (B6:A5 54 u n6 [i6 c6]) (QB:A4 u a1 b1) (QT:A4 u a2 b2),wpAnyH Tryz.prog .any As6.1 Q S 2 (lm 5 7) (B9 a Ak2 [.agg (A7 s).toArray,.agg (D).toArray]) u:=by
  intro u G B4 B5 B6 QB QT;refine C7 [3] (C4 rG Df5 ?_ AllReadyH.nil);intro o hp hd;refine Y6 65 (.tmp 5) (.tmp 57) hp n5 (rG.ev e5) rG.ev B5 env_len rfl hD1 ?_;exact Aa1 rG [] hd ⟨(B4.kp ((Kp.refl n5 u).row _) N45),(B5.row _)⟩ trivial (N2_3 _  (((Kp.refl n5 u).row _).below G L5) (B4.kp ((Kp.refl n5 u).row _) N45) (B5.row _) (B6.kp ((Kp.refl n5 u).row _) N56.symm) (A4.kp8 QB B5.blk (hB58) ((Kp.refl n5 u).row _)) (A4.kp8 QT B5.blk (hB58) ((Kp.refl n5 u).row _)))
 have N0:∀(u:World) (G:Below w0.heap.size w0 u) (B4:A5 51 u n4 (A7 s)) (B5:A5 65 u n5 D) (B6:A5 54 u n6 [i6 c6]) (QB:A4 u a1 b1) (QT:A4 u a2 b2),wpAnyH Tryz.prog .any As6.1 Q S 3 (lm 5 3) (B9 a Ak2 [.agg (A7 s).toArray,.agg (D).toArray]) u:=by
  intro u G B4 B5 B6 QB QT;refine C7 [2] (C4 rG Df4 ?_ AllReadyH.nil);intro o hp hd;refine Y6 51 (.tmp 4) (.tmp 56) hp n4 (rG.ev e4) rG.ev B4 site_len rfl (Q9 _) ?_;exact Aa1 rG [] hd ⟨(B4.row _),(B5.kp ((Kp.refl n4 u).row _) N45.symm)⟩ trivial (N2 _  (((Kp.refl n4 u).row _).below G L4) (B4.row _) (B5.kp ((Kp.refl n4 u).row _) N45.symm) (B6.kp ((Kp.refl n4 u).row _) N46.symm) (A4.kp8 QB B4.blk (hB48) ((Kp.refl n4 u).row _)) (A4.kp8 QT B4.blk (hB48) ((Kp.refl n4 u).row _)))
 exact J1 5 rG [(0,56,.agg (A7 s).toArray),(1,57,.agg (D).toArray)] h0 ⟨B4.up (bd _),B5.up (bd _)⟩ ⟨K9 (cs:=A7 s) rfl (fun w hw=>hw.1.atAll) site_len e4,K9 (cs:=D) rfl (fun w hw=>hw.2.atAll) env_len e5,trivial⟩ (N0 _  (bd0 G) (B4.up (bd _)) (B5.up (bd _)) (B6.up (bd _)) (QB.mono (bd _)) (QT.mono (bd _)))
theorem A4.up8{w w':World}{a:Option Addr}{l:List UInt8}(h:A4 w a l)(hb:Below w.heap.size w w'):A4 w' a l:=h.mono hb
theorem Ci3{s:Sv}{bl:List UInt8}{S:Sv}{E:Int}{w w':World}(hT:Aa3 s bl=(S,E))(hE:E≠0)(hb:Below w.heap.size w w'):
 Bn5 w s bl (.returned (.tuple #[.agg (A7 S).toArray,.agg I0.toArray,.int .i64 E])) w':=by
 unfold Bn5;rw[hT];exact⟨_,rfl,.inl ⟨hE,rfl⟩,hb⟩
theorem Bn6{s:Sv}{bl:List UInt8}{S:Sv}{p:Pd}(hp:pdF bl=p){w w':World}(hT:Aa3 s bl=(S,0))(hb:Below w.heap.size w w'){a1 a2:Option Addr}{c1 c2:Nat}
 (h1:p.b.length≤c1∧c1≤maxLen) (h2:p.t.length≤c2∧c2≤maxLen) (hb1:A4 w' a1 p.b) (hb2:A4 w' a2 p.t):
 Bn5 w s bl (.returned (.tuple #[.agg (A7 S).toArray,.agg (J0 p.k p.d p.e0 p.e1 p.g p.q (.slice a1 p.b.length c1) (.slice a2 p.t.length c2)).toArray,.int .i64 0])) w':=by
 unfold Bn5;rw[hT,hp];exact⟨_,rfl,.inr ⟨rfl,a1,c1,a2,c2,rfl,h1,h2,hb1,hb2⟩,hb⟩
structure Fl7 (s:Sv) (bl:List UInt8) (p:Pd):Prop where
 form:¬okR bl→Aa3 s bl=(An9 s 2,2)
 stray:okR bl→Y0 s.e p.k p.d p.e0 p.e1 p.g=true→Aa3 s bl=(An9 s 13,13)
 tag:okR bl→Y0 s.e p.k p.d p.e0 p.e1 p.g=false→Ao0 s p=false→Aa3 s bl=(An9 (Ab4 s p) 5,5)
 setup:okR bl→Y0 s.e p.k p.d p.e0 p.e1 p.g=false→Ao0 s p=true→((p.k:Int)==1)=true→Aa3 s bl=(Ab4 s p,0)
 old:okR bl→Y0 s.e p.k p.d p.e0 p.e1 p.g=false→Ao0 s p=true→((p.k:Int)==1)=false→((Ad2 s.e.wt s.e.wb p.q).2.2==0)=false→Aa3 s bl=(An9 (Ab4 s p) 6,6)
 gone:okR bl→Y0 s.e p.k p.d p.e0 p.e1 p.g=false→Ao0 s p=true→((p.k:Int)==1)=false→((Ad2 s.e.wt s.e.wb p.q).2.2==0)=true→Aa3 s bl=(Bn4 (Ab4 s p) p,0)
theorem Df7(s:Sv)(bl:List UInt8)(p:Pd)(hp:pdF bl=p):Fl7 s bl p:=by
 subst hp;constructor
 ·intro h;unfold Aa3;simp only[decide_eq_false h,Bool.not_false,cond_true]
 ·intro h h1;unfold Aa3;simp only[decide_eq_true h,Bool.not_true,cond_false,h1,cond_true]
 ·intro h h1 h2;unfold Aa3;simp only[decide_eq_true h,Bool.not_true,cond_false,h1,h2,Bool.not_false,cond_true]
 ·intro h h1 h2 h3;unfold Aa3;simp only[decide_eq_true h,Bool.not_true,cond_false,h1,h2,h3,cond_true]
 ·intro h h1 h2 h3 h4;unfold Aa3;simp only[decide_eq_true h,Bool.not_true,cond_false,h1,h2,h3,bne,h4,Bool.not_false,cond_true]
 ·intro h h1 h2 h3 h4;unfold Aa3;simp only[decide_eq_true h,Bool.not_true,cond_false,h1,h2,h3,bne,h4]
theorem Cq9{g:G}(h:T7 g=true∨Af4 g=true):g.len≤32:=by
 unfold T7 Af4 at h;simp only[Bool.and_eq_true,decide_eq_true_eq,beq_iff_eq] at h;omega
theorem Ea9{e:Ev}(h:Am0 e=true):(T7 e.r.c=true∨Af4 e.r.c=true)∧(T7 e.r.o=true∨Af4 e.r.o=true)∧(T7 e.r.p=true∨Af4 e.r.p=true):=by
 unfold Am0 Ad5 Ah0 Bw8 Ck2 at h;simp only[Bool.or_eq_true,Bool.and_eq_true] at h;rcases h with h | h
 ·exact⟨.inl h.1,.inl h.2.1,.inl h.2.2.1⟩
 ·refine⟨.inr h.1,?_,h.2.2.1.imp id fun h=>h.1⟩;have h2:=h.2.1;cases hn:T7 e.r.o
  ·rw[hn] at h2;simp only[cond_false,Bool.and_eq_true] at h2;exact .inr h2.1
  ·exact .inl rfl
theorem Eb0{q:Nat→Prop}{w:World}{e:Ev}(h:V2 q w e)(hr:Am0 e=true)(no:Int):(Bn3 e no).length≤32:=by
 rw[←(Cq7 h no).2.1];obtain⟨h1,h2,h3⟩:=Ea9 hr;unfold M7;cases Ab3 no e.r.c
 ·cases Ab3 no e.r.o
  ·cases Ab3 no e.r.p
   ·exact Nat.zero_le _
   ·exact Cq9 h3
  ·exact Cq9 h2
 ·exact Cq9 h1
theorem Ay4(a b c:Addr)(w:World):
 CallsD Tryz.prog 60 #[.pointer (some a),.pointer (some b),.pointer (some c)] .returning w fun e u' w'=>e=.returned (.tuple #[])∧u'=.returning∧w'=w:=by
 refine callsD_of_wpS Tryz.func60 rfl fun c₀ cs hu=>?_;apply wpS_seq;apply wpS_region;simp[wpOpsS,go_sem,recoverD,hu,Tryz.ntmps60,Exit.thenS];refine wpS_of_wp ?_;go_wp2_with fail
 cases c₀
 simp_all [Exit.inBlock,Exit.then,bodyPostS,results,Tryz.results60]
theorem Eo6(E:Int)(w:World):(Instr.typeAssert (.iface 54 (.int .i64 E)) 20 54 true).run Tryz.prog w=.ok (.tuple #[.int .i64 E,.bool true]) w:=by kernel_rfl
theorem Bx8{P:Program}{w:World}{b o:Nat}{ty:TypeId}{v:Value}{d:TypeDesc}(hu:P.underlying ty=some d)(hd:d.isRow=false)(hc:w.cell? ⟨b,o,none⟩=some v):
 (loadVar ty ⟨b,o,none⟩).run P w=.ok v w:=by
 have hagg:(isAgg ty).run P w=.ok false w:=by
  unfold isAgg;rw[Sem.run_bind,run_underlying hu w];cases d<;>simp_all [TypeDesc.isRow]
 simp[loadVar,Sem.run_bind,hagg,hc]
theorem Ap0{P:Program}{fn:Func}{p r u:Tmp}{ty tz tx:TypeId}(h:fn.results=#[.cell p ty,.cell r tz,.cell u tx])(tmps:Array Value)(w:World)(g g2 g3:Nat){cs ds:List Value}{v:Value}{d d2 d3:TypeDesc}
 (hp:tmps.getD p undef=.pointer (some ⟨g,0,none⟩)) (hp2:tmps.getD r undef=.pointer (some ⟨g2,0,none⟩)) (hp3:tmps.getD u undef=.pointer (some ⟨g3,0,none⟩)) (hb:Blk w g cs) (hu:P.underlying ty=some d) (hd:(match d with | .struct _ | .array _ _=>true | _=>false)=true) (hi:(P.info? ty).map (·.size)=some cs.length)
 (hb2:Blk w g2 ds) (hu2:P.underlying tz=some d2) (hd2:(match d2 with | .struct _ | .array _ _=>true | _=>false)=true) (hi2:(P.info? tz).map (·.size)=some ds.length) (hc3:w.cell? ⟨g3,0,none⟩=some v) (hu3:P.underlying tx=some d3) (hd3:d3.isRow=false):
 (results fn tmps).run P w=.ok (.tuple #[.agg cs.toArray,.agg ds.toArray,v]) w:=by
 obtain⟨T,hg⟩:=hb;obtain⟨T2,hg2⟩:=hb2;have h1:=run_loadVar_row (P:=P) w g T ty cs.toArray _ d hg hu hd (by simpa using hi);have h2:=run_loadVar_row (P:=P) w g2 T2 tz ds.toArray _ d2 hg2 hu2 hd2 (by simpa using hi2);have h3:=Bx8 (P:=P) hu3 hd3 hc3;have e:(results fn tmps).run P w=((asAddr (tmps.getD p undef)).run P w).andThen fun a w₁=>((loadVar ty a).run P w₁).andThen fun v' w₂=>((asAddr (tmps.getD r undef)).run P w₂).andThen fun a2 w₃=>((loadVar tz a2).run P w₃).andThen fun v3 w₄=>((asAddr (tmps.getD u undef)).run P w₄).andThen fun a3 w₅=>((loadVar tx a3).run P w₅).andThen fun v4 w₆=>.ok (.tuple #[v',v3,v4]) w₆:=by
  simp only[results,h];simp[Sem.run_bind,Result.andThen]
 rw[e,hp,hp2,hp3];simp[asAddr,h1,h2,h3]
theorem Ex0(E:Int)(w:World):(binOp BinOp.eql 20 (.iface 54 (.int .i64 E)) .nilIface).run Tryz.prog w=.ok (.bool false) w:=by kernel_rfl
theorem Bo6(s:Sv)(D:List Value)(n4 n5 n6:Nat)(c6 E:Int)(older:List PanicEntry)(w0 w:World)(B4:A5 51 w n4 (A7 s))(B5:A5 65 w n5 D)(B6:A5 54 w n6 [.int .i64 c6])(hDl:D.length=8)
 (N4_5:n4≠n5) (N4_6:n4≠n6) (N5_6:n5≠n6) (L4:w0.heap.size≤n4) (L5:w0.heap.size≤n5) (L6:w0.heap.size≤n6) (G:Below w0.heap.size w0 w):
 CallsD Tryz.prog 60 #[.pointer (some ⟨n4,0,none⟩),.pointer (some ⟨n5,0,none⟩),.pointer (some ⟨n6,0,none⟩)] (.panicking ({v:=.iface 54 (.int .i64 E),recovered:=false}::older)) w fun e u' w'=>
  e=.returned (.tuple #[])∧u'=.panicking ({v:=.iface 54 (.int .i64 E),recovered:=true}::older)∧A5 51 w' n4 (A7 (An9 s E))∧A5 65 w' n5 I0∧A5 54 w' n6 [.int .i64 E]∧Below w0.heap.size w0 w':=by
 have SZ:=Lh (show ∀S:Sv,(Tryz.prog.info? 51).map (·.size)=some (A7 S).length from fun S=>by rw[G8];exact S6);have SV:=Lh Ae3;have B4:=Lh B4;have B5:=Lh B5;have B6:=Lh B6;have G:=Lh G;have N4_5:=Lh N4_5;have N4_6:=Lh N4_6;have N5_6:=Lh N5_6;have L4:=Lh L4;have L5:=Lh L5;have L6:=Lh L6;have DL:=Lh hDl;have HCt:=Lh (fun W=>Cj3 s E W);clear hDl;refine callsD_of_wpS Tryz.func60 rfl fun c₀ cs hu=>?_;apply wpS_seq;apply wpS_region;simp[wpOpsS,go_sem,recoverD,hu,Tryz.ntmps60,Exit.thenS];refine wpS_of_wp ?_;change Code.wp _ _ _ {tmps:=#[Value.pointer (some ⟨n4,0,none⟩),Value.pointer (some ⟨n5,0,none⟩),Value.pointer (some ⟨n6,0,none⟩),undef,undef,undef,(Value.iface 54 (Value.int .i64 E)),undef,undef,undef,undef,undef,undef,undef,undef,undef,undef],defers:=[]} w;have hta:=Eo6 E;have hen:=Ex0 E;go_wp2_with (refine G6 51 (.tmp 0) rfl ?_;refine C9 51 (.tmp 0) n4 rfl rfl rfl B4.out.blk Tryz.underlying51 rfl (SZ.out _) ?_)
 refine(HCt.out _).mono ?_;rintro x wC ⟨rfl,hb⟩;replace B4:=Lh (B4.out.up hb);replace B5:=Lh (B5.out.up hb);replace B6:=Lh (B6.out.up hb);replace G:=Lh (bt G.out hb);clear hb;have hbe:=Ew9;go_wp2_with (first
  | (refine G9 51 (.tmp 0) _ rfl ?_;go_must (refine I3 51 (.tmp 0) _ n4 rfl rfl rfl rfl B4.out (SZ.out _) (by rw[G8,G8]) (Q9 _) ?_;intro wD hB hK;replace B5:=Lh (B5.out.kp hK N4_5.out.symm);replace B6:=Lh (B6.out.kp hK N4_6.out.symm);replace B4:=Lh hB;replace G:=Lh (hK.below G.out L4.out);clear hB hK))
  | (refine G9 65 (.tmp 1) _ rfl ?_;go_must (refine I3 65 (.tmp 1) _ n5 (cs:=I0) rfl rfl rfl rfl B5.out SV.out DL.out rfl ?_;intro wE hB hK;replace B4:=Lh (B4.out.kp hK N4_5.out);replace B6:=Lh (B6.out.kp hK N5_6.out.symm);replace B5:=Lh hB;replace G:=Lh (hK.below G.out L5.out);clear hB hK))
  | (refine G9 54 (.tmp 2) _ rfl ?_;go_must (refine M0 54 (.tmp 2) _ n6 0 rfl rfl rfl rfl B6.out (Nat.zero_lt_succ _) (by kernel_rfl) rfl rfl ?_;intro wF hB hK;replace B4:=Lh (B4.out.kp hK N4_6.out);replace B5:=Lh (B5.out.kp hK N5_6.out);replace B6:=Lh hB;replace G:=Lh (hK.below G.out L6.out);clear hB hK)))
 have R:=Lh (And.intro B4.out (And.intro B5.out (And.intro B6.out G.out)));clear B4 B5 B6 G;simp[Exit.inBlock,Exit.then,bodyPostS,results,Tryz.results60];exact R.out
end Go.Proofs.YtadpiemjgfndgaaGreatDoor
