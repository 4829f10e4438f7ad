/- Proved here, for use further on: LfJ LfK LfL LfN LgA LgC0 LgE LgG LgK. Conditions: none but those each theorem names. -/
import Derived.Test.YtadpiemjgfndgaaGreatDoorKg00
import Derived.Test.YtadpiemjgfndgaaGreatDoorKg24
import Derived.Test.YtadpiemjgfndgaaGreatDoorKg20
import Derived.Test.YtadpiemjgfndgaaGreatDoorKg22
import Derived.Test.YtadpiemjgfndgaaGreatDoorKg23
import Derived.Test.YtadpiemjgfndgaaGreatDoorKg13
import Derived.Test.YtadpiemjgfndgaaGreatDoorKg21
import Derived.Test.YtadpiemjgfndgaaGreatDoorKg18
set_option linter.unusedSimpArgs false
set_option linter.unusedVariables false
set_option maxRecDepth 100000
set_option maxHeartbeats 8000000
namespace Go.Proofs.YtadpiemjgfndgaaGreatDoor
open Go.RowKit
theorem Bp1(w:World):(Instr.buildSlice 22 1 #[(0,.int .u8 7)]).run Tryz.prog w=.ok (.slice (some ⟨w.heap.size,0,none⟩) 1 1) (w.alloc (.cells (B8s [7]).toArray 5)):=by kernel_rfl
noncomputable def sh2:{ops:Array Oper//(Tryz.f12.body.bind (M8 2))=some (.region 2 ops true)}:=⟨_,rfl⟩
abbrev Ai6:List Nat:=[23,24,25,26,27,22,28,29,3,4]
theorem By9:opx sh2.1 1=some (.call {callee:=.value (.func 36),args:=#[.const (Value.bool true)],argTypes:=#[4]},some 24,none):=by kernel_rfl
theorem Bz0:opx sh2.1 3=some (.buildSlice 22 1 #[(0,.const (Value.int IntKind.u8 7))],some 26,none):=by kernel_rfl
theorem Eb1:opx sh2.1 4=some (.call {callee:=.value (.func 16),args:=#[.tmp 25,.tmp 26],argTypes:=#[51,22]},some 27,none):=by kernel_rfl
theorem Bp2:opx sh2.1 8=some (.alloc 51,some 3,none):=by kernel_rfl
theorem Fb3:opx sh2.1 9=some (.store 51 (.tmp 3) (.tmp 28),none,none):=by kernel_rfl
theorem Eu3{A:Ev}{n1:Nat}{a:Act}{w:World}{Q:Exit→Act→World→Prop}(hsz:167≤a.tmps.size)
 (e1:a.tmps.getD 1 undef=.pointer (some ⟨n1,0,none⟩)) (hP:∀c a d v w,Q (.panic c) (Act.put a d v) w→Q (.panic c) a w) (B1:A5 46 w n1 (A7 A))
 (HS:∀(q2:Nat→Prop) u y,Below w.heap.size w u→(∀g,u.heap.size≤g→q2 g)→(∀g,g<w.heap.size→q2 g)→A4 u y [7]→Calls Tryz.prog 16 #[.agg (A6 (Ae1 A)).toArray,.slice y 1 1] u (Au6 q2 u (Ao5 (Ae1 A) [7])))
 (hQ:∀{x23 x24 x25 x26 x27 x22 x28 x29} z S9 E9 w',A5 51 w' z (A6 S9)→w.heap.size≤z→Ao5 (Ae1 A) [7] S9 E9→J9 (fun g=>True∧g≠z) w' S9→Below w.heap.size w w'→Q .normal (B9 a Ai6 [x23,x24,x25,x26,x27,x22,x28,x29,.pointer (some ⟨z,0,none⟩),.int .i64 E9]) w'):
 (Code.region 2 sh2.1 true).wp Tryz.prog Q a w:=by
 have rG:Rgn sh2.1 Ai6 a Q:=⟨fun k hk=>Nat.lt_of_lt_of_le ((by decide:∀k∈Ai6,k<167) k hk) hsz,by kernel_rfl,hP⟩;have hb:=rG.b;obtain⟨i,h0⟩:=Z9 a Ai6;let S:World→Prop:=fun w'=>A5 46 w' n1 (A7 A);refine wp_region_held_drew (S:=S) (by kernel_rfl) (B1.up (bd _)) fun hHeld=>?_;have N1_3_4_8_9:∀(u:World) (y:Nat) (S9:Sv) (E9:Int) (z:Nat) (G:Below w.heap.size w u) (B3:A5 51 u z (A6 S9)) (Lz:w.heap.size≤z) (R:Ao5 (Ae1 A) [7] S9 E9) (SQ:J9 (fun g=>True∧g≠z) u S9),wpAnyH Tryz.prog .any sh2.1 Q S 0 (lm 11 2047) (B9 a Ai6 [.agg (A7 A).toArray,.agg #[.bool true,.slice none 0 0,.bool false],.agg (A6 (Ae1 A)).toArray,.slice (some ⟨y,0,none⟩) 1 1,.tuple #[.agg (A6 S9).toArray,i6 E9],.tuple #[.agg (A6 S9).toArray,i6 E9],.agg (A6 S9).toArray,i6 E9,pt z 0,i6 E9]) u:=by
  intro u y S9 E9 z G B3 Lz R SQ;refine W4 ?_;exact hQ _ _ _ _ B3 Lz R SQ G
 have N1_3_4_8:∀(u:World) (y:Nat) (S9:Sv) (E9:Int) (z:Nat) (G:Below w.heap.size w u) (R:Ao5 (Ae1 A) [7] S9 E9) (Z:A5 51 u z I7) (Lz:w.heap.size≤z) (SQ:J9 (fun g=>True∧g≠z) u S9),wpAnyH Tryz.prog .any sh2.1 Q S 2 (lm 11 511) (B9 a Ai6 [.agg (A7 A).toArray,.agg #[.bool true,.slice none 0 0,.bool false],.agg (A6 (Ae1 A)).toArray,.slice (some ⟨y,0,none⟩) 1 1,.tuple #[.agg (A6 S9).toArray,i6 E9],.tuple #[.agg (A6 S9).toArray,i6 E9],.agg (A6 S9).toArray,i6 E9,pt z 0,i 4]) u:=by
  intro u y S9 E9 z G R Z Lz SQ;refine C8 [9] (C7 rG Fb3 ?_ AllReadyH.nil);intro o hp hd;refine Aa9 51 (.tmp 3) (.tmp 28) hp z rG.ev rG.ev Z (by rw[D8];exact R6) (by rw[M5,D8]) (Q3 _) ?_;exact Ab6 rG [(10,4,i6 E9)] hd ((B1.up G).rowOther z (Nat.ne_of_lt (Nat.lt_of_lt_of_le B1.blk.lt Lz)) _) ⟨Al4 rfl,trivial⟩ (N1_3_4_8_9 _ _ _ _ _ (D0 G Lz _) (Z.row _) Lz R (SQ.k8 (Z.k8 (by rfl) ((Kp.refl _ _).row _)) fun g hg=>hg.2))
 have N1_3_4:∀(u:World) (y:Nat) (S9:Sv) (E9:Int) (G:Below w.heap.size w u) (R:Ao5 (Ae1 A) [7] S9 E9) (SQ:J9 (fun _=>True) u S9),wpAnyH Tryz.prog .any sh2.1 Q S 3 (lm 11 255) (B9 a Ai6 [.agg (A7 A).toArray,.agg #[.bool true,.slice none 0 0,.bool false],.agg (A6 (Ae1 A)).toArray,.slice (some ⟨y,0,none⟩) 1 1,.tuple #[.agg (A6 S9).toArray,i6 E9],.tuple #[.agg (A6 S9).toArray,i6 E9],.agg (A6 S9).toArray,i6 E9,i 3,i 4]) u:=by
  intro u y S9 E9 G R SQ;refine C8 [8] (C7 rG Bp2 ?_ AllReadyH.nil);intro o hp hd;refine M6 51 hp Ag6 ?_;exact F5 rG [] hd (B1.up (bt G (ba _ _))) trivial (N1_3_4_8 _ _ _ _ _ (bt G (ba _ _)) R (A5.new u I7 _) G.size ((SQ.to (fun g hg hp=>⟨hp,Nat.ne_of_lt hg⟩)).mono (ba _ _)))
 have N1_3_8:∀(u:World) (y:Nat) (z:Nat) (G:Below w.heap.size w u) (Y:A4 u (some ⟨y,0,none⟩) [7]) (Z:A5 51 u z I7) (Lz:w.heap.size≤z),wpAnyH Tryz.prog .any sh2.1 Q S 6 (lm 11 271) (B9 a Ai6 [.agg (A7 A).toArray,.agg #[.bool true,.slice none 0 0,.bool false],.agg (A6 (Ae1 A)).toArray,.slice (some ⟨y,0,none⟩) 1 1,i 27,i 22,i 28,i 29,pt z 0,i 4]) u:=by
  intro u y z G Y Z Lz;refine C8 [4] (C7 rG Eb1 ?_ AllReadyH.nil);intro o hp hd;refine J8 hp (rG.ev2 (.agg (A6 (Ae1 A)).toArray) (.slice (some ⟨y,0,none⟩) 1 1)) (HS (fun g=>True∧g≠z) u _ G (fun g hg=>⟨trivial,Nat.ne_of_gt (Nat.lt_of_lt_of_le Z.blk.lt hg)⟩) (fun g hg=>⟨trivial,Nat.ne_of_lt (Nat.lt_of_lt_of_le hg Lz)⟩) Y) ?_;rintro x u4 ⟨S9,E9,rfl,hR,hQ9,hb4⟩;refine⟨_,rfl,?_⟩;exact F5 rG [(5,22,.tuple #[.agg (A6 S9).toArray,i6 E9]),(6,28,.agg (A6 S9).toArray),(7,29,i6 E9)] hd (B1.up (bt G hb4)) ⟨F9 rfl,P9 rfl,P9 rfl,trivial⟩ (N1_3_4_8 _ _ _ _ _ (bt G hb4) hR (Z.up hb4) Lz hQ9)
 have N1_3:∀(u:World) (y:Nat) (G:Below w.heap.size w u) (Y:A4 u (some ⟨y,0,none⟩) [7]),wpAnyH Tryz.prog .any sh2.1 Q S 7 (lm 11 15) (B9 a Ai6 [.agg (A7 A).toArray,.agg #[.bool true,.slice none 0 0,.bool false],.agg (A6 (Ae1 A)).toArray,.slice (some ⟨y,0,none⟩) 1 1,i 27,i 22,i 28,i 29,i 3,i 4]) u:=by
  intro u y G Y;refine C8 [4,8] (C7 rG Eb1 ?_ (C7 rG Bp2 ?_ AllReadyH.nil))
  ·intro o hp hd;refine J8 hp (rG.ev2 (.agg (A6 (Ae1 A)).toArray) (.slice (some ⟨y,0,none⟩) 1 1)) (HS (fun _=>True) u _ G (fun _ _=>trivial) (fun _ _=>trivial) Y) ?_;rintro x u4 ⟨S9,E9,rfl,hR,hQ9,hb4⟩;refine⟨_,rfl,?_⟩;exact F5 rG [(5,22,.tuple #[.agg (A6 S9).toArray,i6 E9]),(6,28,.agg (A6 S9).toArray),(7,29,i6 E9)] hd (B1.up (bt G hb4)) ⟨F9 rfl,P9 rfl,P9 rfl,trivial⟩ (N1_3_4 _ _ _ _ (bt G hb4) hR hQ9)
  intro o hp hd;refine M6 51 hp Ag6 ?_;exact F5 rG [] hd (B1.up (bt G (ba _ _))) trivial (N1_3_8 _ _ _ (bt G (ba _ _)) (Y.mono (ba _ _)) (A5.new u I7 _) G.size)
 have N1_8:∀(u:World) (z:Nat) (G:Below w.heap.size w u) (Z:A5 51 u z I7) (Lz:w.heap.size≤z),wpAnyH Tryz.prog .any sh2.1 Q S 7 (lm 11 263) (B9 a Ai6 [.agg (A7 A).toArray,.agg #[.bool true,.slice none 0 0,.bool false],.agg (A6 (Ae1 A)).toArray,i 26,i 27,i 22,i 28,i 29,pt z 0,i 4]) u:=by
  intro u z G Z Lz;refine C8 [3] (C7 rG Bz0 ?_ AllReadyH.nil);intro o hp hd;refine Au2 22 5 1 _ hp (ps:=#[(0,.int .u8 7)]) (by simp only[List.map_toArray,List.map_cons,List.map_nil];rfl) Bp1 ?_;exact F5 rG [] hd (B1.up (bt G (ba _ _))) trivial (N1_3_8 _ _ _ (bt G (ba _ _)) (U0 u (B8s [7]) _) (Z.up (ba _ _)) Lz)
 have N1:∀(u:World) (G:Below w.heap.size w u),wpAnyH Tryz.prog .any sh2.1 Q S 8 (lm 11 7) (B9 a Ai6 [.agg (A7 A).toArray,.agg #[.bool true,.slice none 0 0,.bool false],.agg (A6 (Ae1 A)).toArray,i 26,i 27,i 22,i 28,i 29,i 3,i 4]) u:=by
  intro u G;refine C8 [3,8] (C7 rG Bz0 ?_ (C7 rG Bp2 ?_ AllReadyH.nil))
  ·intro o hp hd;refine Au2 22 5 1 _ hp (ps:=#[(0,.int .u8 7)]) (by simp only[List.map_toArray,List.map_cons,List.map_nil];rfl) Bp1 ?_;exact F5 rG [] hd (B1.up (bt G (ba _ _))) trivial (N1_3 _ _ (bt G (ba _ _)) (U0 u (B8s [7]) _))
  intro o hp hd;refine M6 51 hp Ag6 ?_;exact F5 rG [] hd (B1.up (bt G (ba _ _))) trivial (N1_8 _ _ (bt G (ba _ _)) (A5.new u I7 _) G.size)
 have N3_8:∀(u:World) (y:Nat) (z:Nat) (G:Below w.heap.size w u) (Y:A4 u (some ⟨y,0,none⟩) [7]) (Z:A5 51 u z I7) (Lz:w.heap.size≤z),wpAnyH Tryz.prog .any sh2.1 Q S 8 (lm 11 265) (B9 a Ai6 [.agg (A7 A).toArray,i 24,i 25,.slice (some ⟨y,0,none⟩) 1 1,i 27,i 22,i 28,i 29,pt z 0,i 4]) u:=by
  intro u y z G Y Z Lz;refine C8 [1] (C7 rG By9 ?_ AllReadyH.nil);intro o hp hd;refine J8 hp (ev1 (show Act.eval _ _=.bool true from rfl)) (Aw0 true _) ?_;rintro x u1 ⟨rfl,hb1⟩;refine⟨_,rfl,?_⟩;exact F5 rG [(2,25,.agg (A6 (Ae1 A)).toArray)] hd (B1.up (bt G hb1)) ⟨Ai4 #[(0,.agg (A7 A).toArray),(1,.agg #[.bool true,.slice none 0 0,.bool false])] rfl,trivial⟩ (N1_3_8 _ _ _ (bt G hb1) (Y.mono hb1) (Z.up hb1) Lz)
 have N3:∀(u:World) (y:Nat) (G:Below w.heap.size w u) (Y:A4 u (some ⟨y,0,none⟩) [7]),wpAnyH Tryz.prog .any sh2.1 Q S 9 (lm 11 9) (B9 a Ai6 [.agg (A7 A).toArray,i 24,i 25,.slice (some ⟨y,0,none⟩) 1 1,i 27,i 22,i 28,i 29,i 3,i 4]) u:=by
  intro u y G Y;refine C8 [1,8] (C7 rG By9 ?_ (C7 rG Bp2 ?_ AllReadyH.nil))
  ·intro o hp hd;refine J8 hp (ev1 (show Act.eval _ _=.bool true from rfl)) (Aw0 true _) ?_;rintro x u1 ⟨rfl,hb1⟩;refine⟨_,rfl,?_⟩;exact F5 rG [(2,25,.agg (A6 (Ae1 A)).toArray)] hd (B1.up (bt G hb1)) ⟨Ai4 #[(0,.agg (A7 A).toArray),(1,.agg #[.bool true,.slice none 0 0,.bool false])] rfl,trivial⟩ (N1_3 _ _ (bt G hb1) (Y.mono hb1))
  intro o hp hd;refine M6 51 hp Ag6 ?_;exact F5 rG [] hd (B1.up (bt G (ba _ _))) trivial (N3_8 _ _ _ (bt G (ba _ _)) (Y.mono (ba _ _)) (A5.new u I7 _) G.size)
 have N8:∀(u:World) (z:Nat) (G:Below w.heap.size w u) (Z:A5 51 u z I7) (Lz:w.heap.size≤z),wpAnyH Tryz.prog .any sh2.1 Q S 9 (lm 11 257) (B9 a Ai6 [.agg (A7 A).toArray,i 24,i 25,i 26,i 27,i 22,i 28,i 29,pt z 0,i 4]) u:=by
  intro u z G Z Lz;refine C8 [1,3] (C7 rG By9 ?_ (C7 rG Bz0 ?_ AllReadyH.nil))
  ·intro o hp hd;refine J8 hp (ev1 (show Act.eval _ _=.bool true from rfl)) (Aw0 true _) ?_;rintro x u1 ⟨rfl,hb1⟩;refine⟨_,rfl,?_⟩;exact F5 rG [(2,25,.agg (A6 (Ae1 A)).toArray)] hd (B1.up (bt G hb1)) ⟨Ai4 #[(0,.agg (A7 A).toArray),(1,.agg #[.bool true,.slice none 0 0,.bool false])] rfl,trivial⟩ (N1_8 _ _ (bt G hb1) (Z.up hb1) Lz)
  intro o hp hd;refine Au2 22 5 1 _ hp (ps:=#[(0,.int .u8 7)]) (by simp only[List.map_toArray,List.map_cons,List.map_nil];rfl) Bp1 ?_;exact F5 rG [] hd (B1.up (bt G (ba _ _))) trivial (N3_8 _ _ _ (bt G (ba _ _)) (U0 u (B8s [7]) _) (Z.up (ba _ _)) Lz)
 have N0:∀(u:World) (G:Below w.heap.size w u),wpAnyH Tryz.prog .any sh2.1 Q S 10 (lm 11 1) (B9 a Ai6 [.agg (A7 A).toArray,i 24,i 25,i 26,i 27,i 22,i 28,i 29,i 3,i 4]) u:=by
  intro u G;refine C8 [1,3,8] (C7 rG By9 ?_ (C7 rG Bz0 ?_ (C7 rG Bp2 ?_ AllReadyH.nil)))
  ·intro o hp hd;refine J8 hp (ev1 (show Act.eval _ _=.bool true from rfl)) (Aw0 true _) ?_;rintro x u1 ⟨rfl,hb1⟩;refine⟨_,rfl,?_⟩;exact F5 rG [(2,25,.agg (A6 (Ae1 A)).toArray)] hd (B1.up (bt G hb1)) ⟨Ai4 #[(0,.agg (A7 A).toArray),(1,.agg #[.bool true,.slice none 0 0,.bool false])] rfl,trivial⟩ (N1 _  (bt G hb1))
  ·intro o hp hd;refine Au2 22 5 1 _ hp (ps:=#[(0,.int .u8 7)]) (by simp only[List.map_toArray,List.map_cons,List.map_nil];rfl) Bp1 ?_;exact F5 rG [] hd (B1.up (bt G (ba _ _))) trivial (N3 _ _ (bt G (ba _ _)) (U0 u (B8s [7]) _))
  intro o hp hd;refine M6 51 hp Ag6 ?_;exact F5 rG [] hd (B1.up (bt G (ba _ _))) trivial (N8 _ _ (bt G (ba _ _)) (A5.new u I7 _) G.size)
 exact O3 11 rG [(0,23,.agg (A7 A).toArray)] h0 (B1.up (bd _)) ⟨Q2 (cs:=A7 A) rfl (fun w hw=>hw.atAll) (by rw[G6];exact O2) e1,trivial⟩ (N0 _  (bd w))
theorem Az9:∀w,(Instr.alloc 65 true (.tuple #[])).run Tryz.prog w=.ok (.pointer (some ⟨w.heap.size,0,none⟩)) (w.alloc (.cells (I0:List Value).toArray 65)):=fun w=>by kernel_rfl
noncomputable def sh8:{ops:Array Oper//(Tryz.f12.body.bind (M8 8))=some (.region 8 ops true)}:=⟨_,rfl⟩
abbrev Ak0:List Nat:=[54,55,56,57,58,59,60,61,53,62,63,64,7,8,9]
theorem Bz1:opx sh8.1 7=some (.call {callee:=.value (.func 19),args:=#[.tmp 57,.tmp 60],argTypes:=#[51,22]},some 61,none):=by kernel_rfl
theorem Bq9:opx sh8.1 12=some (.alloc 51,some 7,none):=by kernel_rfl
theorem Br0:opx sh8.1 13=some (.alloc 65,some 8,none):=by kernel_rfl
theorem Eu4:opx sh8.1 14=some (.store 51 (.tmp 7) (.tmp 62),none,none):=by kernel_rfl
theorem Eu5:opx sh8.1 15=some (.store 65 (.tmp 8) (.tmp 63),none,none):=by kernel_rfl
theorem Eu6{B:Ev}{S1 S3:Sv}{n2 n3:Nat}{g o rc nX pc:Nat}{p:Option Addr}{a:Act}{w:World}{Q:Exit→Act→World→Prop}(hsz:167≤a.tmps.size)
 (e2:a.tmps.getD 2 undef=.pointer (some ⟨n2,0,none⟩)) (e3:a.tmps.getD 3 undef=.pointer (some ⟨n3,0,none⟩)) (e6:a.tmps.getD 6 undef=.slice (some ⟨g,o,none⟩) 1 rc) (hP:∀c a d v w,Q (.panic c) (Act.put a d v) w→Q (.panic c) a w) (B2:A5 46 w n2 (A7 B)) (B3:A5 51 w n3 (A6 S1))
 (hI:∀w,(Instr.indexAt 35 (.slice (some ⟨g,o,none⟩) 1 rc) (.int .i64 0)).run Tryz.prog w=.ok (.pointer (some ⟨g,o,none⟩)) w) (hg:g<w.heap.size) (hc:w.cell? ⟨g,o,none⟩=some (.slice p nX pc))
 (HT:∀u,Below w.heap.size w u→Calls Tryz.prog 19 #[.agg (A6 (⟨B,S1.i,S1.f,S1.ta,S1.tc,S1.es⟩:Sv)).toArray,.slice p nX pc] u (fun x w'=>∃a1 c1 a2 c2,x=.returned (.tuple #[.agg (A6 S3).toArray,.agg (I5 2 0 3 4 1 0 (.slice a1 1 c1) (.slice a2 16 c2)).toArray,.int .i64 0])∧A4 w' a1 [7]∧Below u.heap.size u w'))
 (hQ:∀{x54 x55 x56 x57 x58 x59 x60 x61 x53 x62 x63 x64} z7 z8 a1 c1 a2 c2 w',A5 51 w' z7 (A6 S3)→A5 65 w' z8 (I5 2 0 3 4 1 0 (.slice a1 1 c1) (.slice a2 16 c2))→A4 w' a1 [7]→w.heap.size≤z7→w.heap.size≤z8→Below w.heap.size w w'→Q .normal (B9 a Ak0 [x54,x55,x56,x57,x58,x59,x60,x61,x53,x62,x63,x64,.pointer (some ⟨z7,0,none⟩),.pointer (some ⟨z8,0,none⟩),.int .i64 0]) w'):
 (Code.region 8 sh8.1 true).wp Tryz.prog Q a w:=by
 have rG:Rgn sh8.1 Ak0 a Q:=⟨fun k hk=>Nat.lt_of_lt_of_le ((by decide:∀k∈Ak0,k<167) k hk) hsz,by kernel_rfl,hP⟩;have hb:=rG.b;obtain⟨i,h0⟩:=Z9 a Ak0;let S:World→Prop:=fun w'=>A5 46 w' n2 (A7 B)∧A5 51 w' n3 (A6 S1)∧Below w.heap.size w w';refine wp_region_held_drew (S:=S) (by kernel_rfl) (⟨B2.up ((bd w)),B3.up ((bd w)),(bd w)⟩) fun hHeld=>?_;have N7_12_13_14_15:∀(u:World) (a1:Option Addr) (c1:Nat) (a2:Option Addr) (c2:Nat) (z7:Nat) (z8:Nat) (G:Below w.heap.size w u) (QB:A4 u a1 [7]) (Z7:A5 51 u z7 (A6 S3)) (L7:w.heap.size≤z7) (Z8:A5 65 u z8 ((I5 2 0 3 4 1 0 (.slice a1 1 c1) (.slice a2 16 c2)))) (L8:w.heap.size≤z8) (N:z7≠z8),wpAnyH Tryz.prog .any sh8.1 Q S 0 (lm 17 131071) (B9 a Ak0 [.agg (A7 B).toArray,pt n3 70,.agg #[.bool S1.i,.slice S1.ta S1.es.length S1.tc,.bool S1.f],.agg (A6 (⟨B,S1.i,S1.f,S1.ta,S1.tc,S1.es⟩:Sv)).toArray,.slice (some ⟨g,o,none⟩) 1 rc,pt g o,.slice p nX pc,.tuple #[.agg (A6 S3).toArray,.agg ((I5 2 0 3 4 1 0 (.slice a1 1 c1) (.slice a2 16 c2))).toArray,i6 0],.tuple #[.agg (A6 S3).toArray,.agg ((I5 2 0 3 4 1 0 (.slice a1 1 c1) (.slice a2 16 c2))).toArray,i6 0],.agg (A6 S3).toArray,.agg ((I5 2 0 3 4 1 0 (.slice a1 1 c1) (.slice a2 16 c2))).toArray,i6 0,pt z7 0,pt z8 0,i6 0]) u:=by
  intro u a1 c1 a2 c2 z7 z8 G QB Z7 L7 Z8 L8 N;refine W4 ?_;exact hQ _ _ _ _ _ _ _ Z7 Z8 QB L7 L8 G
 have N7_12_13_14:∀(u:World) (a1:Option Addr) (c1:Nat) (a2:Option Addr) (c2:Nat) (z7:Nat) (z8:Nat) (G:Below w.heap.size w u) (QB:A4 u a1 [7]) (Z7:A5 51 u z7 (A6 S3)) (L7:w.heap.size≤z7) (Z8:A5 65 u z8 I0) (L8:w.heap.size≤z8) (N:z7≠z8),wpAnyH Tryz.prog .any sh8.1 Q S 2 (lm 17 32767) (B9 a Ak0 [.agg (A7 B).toArray,pt n3 70,.agg #[.bool S1.i,.slice S1.ta S1.es.length S1.tc,.bool S1.f],.agg (A6 (⟨B,S1.i,S1.f,S1.ta,S1.tc,S1.es⟩:Sv)).toArray,.slice (some ⟨g,o,none⟩) 1 rc,pt g o,.slice p nX pc,.tuple #[.agg (A6 S3).toArray,.agg ((I5 2 0 3 4 1 0 (.slice a1 1 c1) (.slice a2 16 c2))).toArray,i6 0],.tuple #[.agg (A6 S3).toArray,.agg ((I5 2 0 3 4 1 0 (.slice a1 1 c1) (.slice a2 16 c2))).toArray,i6 0],.agg (A6 S3).toArray,.agg ((I5 2 0 3 4 1 0 (.slice a1 1 c1) (.slice a2 16 c2))).toArray,i6 0,pt z7 0,pt z8 0,i 9]) u:=by
  intro u a1 c1 a2 c2 z7 z8 G QB Z7 L7 Z8 L8 N;refine C8 [15] (C7 rG Eu5 ?_ AllReadyH.nil);intro o hp hd;refine Aa9 65 (.tmp 8) (.tmp 63) hp z8 (cs:=(I5 2 0 3 4 1 0 (.slice a1 1 c1) (.slice a2 16 c2))) rG.ev rG.ev Z8 Ac0 rfl rfl ?_;exact Ab6 rG [(16,9,i6 0)] hd ⟨(B2.up G).rowOther z8 (Nat.ne_of_lt (Nat.lt_of_lt_of_le B2.blk.lt L8)) _,(B3.up G).rowOther z8 (Nat.ne_of_lt (Nat.lt_of_lt_of_le B3.blk.lt L8)) _,D0 G L8 _⟩ ⟨Al4 rfl,trivial⟩ (N7_12_13_14_15 _ _ _ _ _ _ _ (D0 G L8 _) (A4.kp8 QB Z8.blk (by rfl) ((Kp.refl _ _).row _)) (Z7.rowOther z8 N _) L7 (Z8.row _) L8 N)
 have N7_12_13:∀(u:World) (a1:Option Addr) (c1:Nat) (a2:Option Addr) (c2:Nat) (z7:Nat) (z8:Nat) (G:Below w.heap.size w u) (QB:A4 u a1 [7]) (Z7:A5 51 u z7 I7) (L7:w.heap.size≤z7) (Z8:A5 65 u z8 I0) (L8:w.heap.size≤z8) (N:z7≠z8),wpAnyH Tryz.prog .any sh8.1 Q S 3 (lm 17 16383) (B9 a Ak0 [.agg (A7 B).toArray,pt n3 70,.agg #[.bool S1.i,.slice S1.ta S1.es.length S1.tc,.bool S1.f],.agg (A6 (⟨B,S1.i,S1.f,S1.ta,S1.tc,S1.es⟩:Sv)).toArray,.slice (some ⟨g,o,none⟩) 1 rc,pt g o,.slice p nX pc,.tuple #[.agg (A6 S3).toArray,.agg ((I5 2 0 3 4 1 0 (.slice a1 1 c1) (.slice a2 16 c2))).toArray,i6 0],.tuple #[.agg (A6 S3).toArray,.agg ((I5 2 0 3 4 1 0 (.slice a1 1 c1) (.slice a2 16 c2))).toArray,i6 0],.agg (A6 S3).toArray,.agg ((I5 2 0 3 4 1 0 (.slice a1 1 c1) (.slice a2 16 c2))).toArray,i6 0,pt z7 0,pt z8 0,i 9]) u:=by
  intro u a1 c1 a2 c2 z7 z8 G QB Z7 L7 Z8 L8 N;refine C8 [14] (C7 rG Eu4 ?_ AllReadyH.nil);intro o hp hd;refine Aa9 51 (.tmp 7) (.tmp 62) hp z7 (cs:=A6 S3) rG.ev rG.ev Z7 (by rw[D8];exact R6) (by rw[M5,D8]) (Q3 _) ?_;exact Ab6 rG [] hd ⟨(B2.up G).rowOther z7 (Nat.ne_of_lt (Nat.lt_of_lt_of_le B2.blk.lt L7)) _,(B3.up G).rowOther z7 (Nat.ne_of_lt (Nat.lt_of_lt_of_le B3.blk.lt L7)) _,D0 G L7 _⟩ trivial (N7_12_13_14 _ _ _ _ _ _ _ (D0 G L7 _) (A4.kp8 QB Z7.blk (by rfl) ((Kp.refl _ _).row _)) (Z7.row _) L7 (Z8.rowOther z7 N.symm _) L8 N)
 have N7_12:∀(u:World) (a1:Option Addr) (c1:Nat) (a2:Option Addr) (c2:Nat) (z7:Nat) (G:Below w.heap.size w u) (QB:A4 u a1 [7]) (Z7:A5 51 u z7 I7) (L7:w.heap.size≤z7),wpAnyH Tryz.prog .any sh8.1 Q S 4 (lm 17 8191) (B9 a Ak0 [.agg (A7 B).toArray,pt n3 70,.agg #[.bool S1.i,.slice S1.ta S1.es.length S1.tc,.bool S1.f],.agg (A6 (⟨B,S1.i,S1.f,S1.ta,S1.tc,S1.es⟩:Sv)).toArray,.slice (some ⟨g,o,none⟩) 1 rc,pt g o,.slice p nX pc,.tuple #[.agg (A6 S3).toArray,.agg ((I5 2 0 3 4 1 0 (.slice a1 1 c1) (.slice a2 16 c2))).toArray,i6 0],.tuple #[.agg (A6 S3).toArray,.agg ((I5 2 0 3 4 1 0 (.slice a1 1 c1) (.slice a2 16 c2))).toArray,i6 0],.agg (A6 S3).toArray,.agg ((I5 2 0 3 4 1 0 (.slice a1 1 c1) (.slice a2 16 c2))).toArray,i6 0,pt z7 0,i 8,i 9]) u:=by
  intro u a1 c1 a2 c2 z7 G QB Z7 L7;refine C8 [13] (C7 rG Br0 ?_ AllReadyH.nil);intro o hp hd;refine M6 65 hp Az9 ?_;exact F5 rG [] hd ⟨B2.up ((bt G (ba _ _))),B3.up ((bt G (ba _ _))),(bt G (ba _ _))⟩ trivial (N7_12_13 _ _ _ _ _ _ _ (bt G (ba _ _)) (QB.mono (ba _ _)) (Z7.up (ba _ _)) L7 (A5.new u I0 _) G.size (Nat.ne_of_lt Z7.blk.lt))
 have N7_13:∀(u:World) (a1:Option Addr) (c1:Nat) (a2:Option Addr) (c2:Nat) (z8:Nat) (G:Below w.heap.size w u) (QB:A4 u a1 [7]) (Z8:A5 65 u z8 I0) (L8:w.heap.size≤z8),wpAnyH Tryz.prog .any sh8.1 Q S 4 (lm 17 12287) (B9 a Ak0 [.agg (A7 B).toArray,pt n3 70,.agg #[.bool S1.i,.slice S1.ta S1.es.length S1.tc,.bool S1.f],.agg (A6 (⟨B,S1.i,S1.f,S1.ta,S1.tc,S1.es⟩:Sv)).toArray,.slice (some ⟨g,o,none⟩) 1 rc,pt g o,.slice p nX pc,.tuple #[.agg (A6 S3).toArray,.agg ((I5 2 0 3 4 1 0 (.slice a1 1 c1) (.slice a2 16 c2))).toArray,i6 0],.tuple #[.agg (A6 S3).toArray,.agg ((I5 2 0 3 4 1 0 (.slice a1 1 c1) (.slice a2 16 c2))).toArray,i6 0],.agg (A6 S3).toArray,.agg ((I5 2 0 3 4 1 0 (.slice a1 1 c1) (.slice a2 16 c2))).toArray,i6 0,i 7,pt z8 0,i 9]) u:=by
  intro u a1 c1 a2 c2 z8 G QB Z8 L8;refine C8 [12] (C7 rG Bq9 ?_ AllReadyH.nil);intro o hp hd;refine M6 51 hp Ag6 ?_;exact F5 rG [] hd ⟨B2.up ((bt G (ba _ _))),B3.up ((bt G (ba _ _))),(bt G (ba _ _))⟩ trivial (N7_12_13 _ _ _ _ _ _ _ (bt G (ba _ _)) (QB.mono (ba _ _)) (A5.new u I7 _) G.size (Z8.up (ba _ _)) L8 (Nat.ne_of_gt Z8.blk.lt))
 have N7:∀(u:World) (a1:Option Addr) (c1:Nat) (a2:Option Addr) (c2:Nat) (G:Below w.heap.size w u) (QB:A4 u a1 [7]),wpAnyH Tryz.prog .any sh8.1 Q S 5 (lm 17 4095) (B9 a Ak0 [.agg (A7 B).toArray,pt n3 70,.agg #[.bool S1.i,.slice S1.ta S1.es.length S1.tc,.bool S1.f],.agg (A6 (⟨B,S1.i,S1.f,S1.ta,S1.tc,S1.es⟩:Sv)).toArray,.slice (some ⟨g,o,none⟩) 1 rc,pt g o,.slice p nX pc,.tuple #[.agg (A6 S3).toArray,.agg ((I5 2 0 3 4 1 0 (.slice a1 1 c1) (.slice a2 16 c2))).toArray,i6 0],.tuple #[.agg (A6 S3).toArray,.agg ((I5 2 0 3 4 1 0 (.slice a1 1 c1) (.slice a2 16 c2))).toArray,i6 0],.agg (A6 S3).toArray,.agg ((I5 2 0 3 4 1 0 (.slice a1 1 c1) (.slice a2 16 c2))).toArray,i6 0,i 7,i 8,i 9]) u:=by
  intro u a1 c1 a2 c2 G QB;refine C8 [12,13] (C7 rG Bq9 ?_ (C7 rG Br0 ?_ AllReadyH.nil))
  ·intro o hp hd;refine M6 51 hp Ag6 ?_;exact F5 rG [] hd ⟨B2.up ((bt G (ba _ _))),B3.up ((bt G (ba _ _))),(bt G (ba _ _))⟩ trivial (N7_12 _ _ _ _ _ _ (bt G (ba _ _)) (QB.mono (ba _ _)) (A5.new u I7 _) G.size)
  intro o hp hd;refine M6 65 hp Az9 ?_;exact F5 rG [] hd ⟨B2.up ((bt G (ba _ _))),B3.up ((bt G (ba _ _))),(bt G (ba _ _))⟩ trivial (N7_13 _ _ _ _ _ _ (bt G (ba _ _)) (QB.mono (ba _ _)) (A5.new u I0 _) G.size)
 have N12_13:∀(u:World) (z7:Nat) (z8:Nat) (G:Below w.heap.size w u) (Z7:A5 51 u z7 I7) (L7:w.heap.size≤z7) (Z8:A5 65 u z8 I0) (L8:w.heap.size≤z8) (N:z7≠z8),wpAnyH Tryz.prog .any sh8.1 Q S 8 (lm 17 12415) (B9 a Ak0 [.agg (A7 B).toArray,pt n3 70,.agg #[.bool S1.i,.slice S1.ta S1.es.length S1.tc,.bool S1.f],.agg (A6 (⟨B,S1.i,S1.f,S1.ta,S1.tc,S1.es⟩:Sv)).toArray,.slice (some ⟨g,o,none⟩) 1 rc,pt g o,.slice p nX pc,i 61,i 53,i 62,i 63,i 64,pt z7 0,pt z8 0,i 9]) u:=by
  intro u z7 z8 G Z7 L7 Z8 L8 N;refine C8 [7] (C7 rG Bz1 ?_ AllReadyH.nil);intro o hp hd;refine J8 hp (rG.ev2 (.agg (A6 (⟨B,S1.i,S1.f,S1.ta,S1.tc,S1.es⟩:Sv)).toArray) (.slice p nX pc)) (HT u G) ?_;rintro x u7 ⟨a1,c1,a2,c2,rfl,hqb,hb7⟩;refine⟨_,rfl,?_⟩;exact F5 rG [(8,53,.tuple #[.agg (A6 S3).toArray,.agg ((I5 2 0 3 4 1 0 (.slice a1 1 c1) (.slice a2 16 c2))).toArray,i6 0]),(9,62,.agg (A6 S3).toArray),(10,63,.agg ((I5 2 0 3 4 1 0 (.slice a1 1 c1) (.slice a2 16 c2))).toArray),(11,64,i6 0)] hd ⟨B2.up ((bt G hb7)),B3.up ((bt G hb7)),(bt G hb7)⟩ ⟨F9 rfl,P9 rfl,P9 rfl,P9 rfl,trivial⟩ (N7_12_13 _ _ _ _ _ _ _ (bt G hb7) hqb (Z7.up hb7) L7 (Z8.up hb7) L8 N)
 have N12:∀(u:World) (z7:Nat) (G:Below w.heap.size w u) (Z7:A5 51 u z7 I7) (L7:w.heap.size≤z7),wpAnyH Tryz.prog .any sh8.1 Q S 9 (lm 17 4223) (B9 a Ak0 [.agg (A7 B).toArray,pt n3 70,.agg #[.bool S1.i,.slice S1.ta S1.es.length S1.tc,.bool S1.f],.agg (A6 (⟨B,S1.i,S1.f,S1.ta,S1.tc,S1.es⟩:Sv)).toArray,.slice (some ⟨g,o,none⟩) 1 rc,pt g o,.slice p nX pc,i 61,i 53,i 62,i 63,i 64,pt z7 0,i 8,i 9]) u:=by
  intro u z7 G Z7 L7;refine C8 [7,13] (C7 rG Bz1 ?_ (C7 rG Br0 ?_ AllReadyH.nil))
  ·intro o hp hd;refine J8 hp (rG.ev2 (.agg (A6 (⟨B,S1.i,S1.f,S1.ta,S1.tc,S1.es⟩:Sv)).toArray) (.slice p nX pc)) (HT u G) ?_;rintro x u7 ⟨a1,c1,a2,c2,rfl,hqb,hb7⟩;refine⟨_,rfl,?_⟩;exact F5 rG [(8,53,.tuple #[.agg (A6 S3).toArray,.agg ((I5 2 0 3 4 1 0 (.slice a1 1 c1) (.slice a2 16 c2))).toArray,i6 0]),(9,62,.agg (A6 S3).toArray),(10,63,.agg ((I5 2 0 3 4 1 0 (.slice a1 1 c1) (.slice a2 16 c2))).toArray),(11,64,i6 0)] hd ⟨B2.up ((bt G hb7)),B3.up ((bt G hb7)),(bt G hb7)⟩ ⟨F9 rfl,P9 rfl,P9 rfl,P9 rfl,trivial⟩ (N7_12 _ _ _ _ _ _ (bt G hb7) hqb (Z7.up hb7) L7)
  intro o hp hd;refine M6 65 hp Az9 ?_;exact F5 rG [] hd ⟨B2.up ((bt G (ba _ _))),B3.up ((bt G (ba _ _))),(bt G (ba _ _))⟩ trivial (N12_13 _ _ _ (bt G (ba _ _)) (Z7.up (ba _ _)) L7 (A5.new u I0 _) G.size (Nat.ne_of_lt Z7.blk.lt))
 have N13:∀(u:World) (z8:Nat) (G:Below w.heap.size w u) (Z8:A5 65 u z8 I0) (L8:w.heap.size≤z8),wpAnyH Tryz.prog .any sh8.1 Q S 9 (lm 17 8319) (B9 a Ak0 [.agg (A7 B).toArray,pt n3 70,.agg #[.bool S1.i,.slice S1.ta S1.es.length S1.tc,.bool S1.f],.agg (A6 (⟨B,S1.i,S1.f,S1.ta,S1.tc,S1.es⟩:Sv)).toArray,.slice (some ⟨g,o,none⟩) 1 rc,pt g o,.slice p nX pc,i 61,i 53,i 62,i 63,i 64,i 7,pt z8 0,i 9]) u:=by
  intro u z8 G Z8 L8;refine C8 [7,12] (C7 rG Bz1 ?_ (C7 rG Bq9 ?_ AllReadyH.nil))
  ·intro o hp hd;refine J8 hp (rG.ev2 (.agg (A6 (⟨B,S1.i,S1.f,S1.ta,S1.tc,S1.es⟩:Sv)).toArray) (.slice p nX pc)) (HT u G) ?_;rintro x u7 ⟨a1,c1,a2,c2,rfl,hqb,hb7⟩;refine⟨_,rfl,?_⟩;exact F5 rG [(8,53,.tuple #[.agg (A6 S3).toArray,.agg ((I5 2 0 3 4 1 0 (.slice a1 1 c1) (.slice a2 16 c2))).toArray,i6 0]),(9,62,.agg (A6 S3).toArray),(10,63,.agg ((I5 2 0 3 4 1 0 (.slice a1 1 c1) (.slice a2 16 c2))).toArray),(11,64,i6 0)] hd ⟨B2.up ((bt G hb7)),B3.up ((bt G hb7)),(bt G hb7)⟩ ⟨F9 rfl,P9 rfl,P9 rfl,P9 rfl,trivial⟩ (N7_13 _ _ _ _ _ _ (bt G hb7) hqb (Z8.up hb7) L8)
  intro o hp hd;refine M6 51 hp Ag6 ?_;exact F5 rG [] hd ⟨B2.up ((bt G (ba _ _))),B3.up ((bt G (ba _ _))),(bt G (ba _ _))⟩ trivial (N12_13 _ _ _ (bt G (ba _ _)) (A5.new u I7 _) G.size (Z8.up (ba _ _)) L8 (Nat.ne_of_gt Z8.blk.lt))
 have N0:∀(u:World) (G:Below w.heap.size w u),wpAnyH Tryz.prog .any sh8.1 Q S 10 (lm 17 127) (B9 a Ak0 [.agg (A7 B).toArray,pt n3 70,.agg #[.bool S1.i,.slice S1.ta S1.es.length S1.tc,.bool S1.f],.agg (A6 (⟨B,S1.i,S1.f,S1.ta,S1.tc,S1.es⟩:Sv)).toArray,.slice (some ⟨g,o,none⟩) 1 rc,pt g o,.slice p nX pc,i 61,i 53,i 62,i 63,i 64,i 7,i 8,i 9]) u:=by
  intro u G;refine C8 [7,12,13] (C7 rG Bz1 ?_ (C7 rG Bq9 ?_ (C7 rG Br0 ?_ AllReadyH.nil)))
  ·intro o hp hd;refine J8 hp (rG.ev2 (.agg (A6 (⟨B,S1.i,S1.f,S1.ta,S1.tc,S1.es⟩:Sv)).toArray) (.slice p nX pc)) (HT u G) ?_;rintro x u7 ⟨a1,c1,a2,c2,rfl,hqb,hb7⟩;refine⟨_,rfl,?_⟩;exact F5 rG [(8,53,.tuple #[.agg (A6 S3).toArray,.agg ((I5 2 0 3 4 1 0 (.slice a1 1 c1) (.slice a2 16 c2))).toArray,i6 0]),(9,62,.agg (A6 S3).toArray),(10,63,.agg ((I5 2 0 3 4 1 0 (.slice a1 1 c1) (.slice a2 16 c2))).toArray),(11,64,i6 0)] hd ⟨B2.up ((bt G hb7)),B3.up ((bt G hb7)),(bt G hb7)⟩ ⟨F9 rfl,P9 rfl,P9 rfl,P9 rfl,trivial⟩ (N7 _ _ _ _ _ (bt G hb7) hqb)
  ·intro o hp hd;refine M6 51 hp Ag6 ?_;exact F5 rG [] hd ⟨B2.up ((bt G (ba _ _))),B3.up ((bt G (ba _ _))),(bt G (ba _ _))⟩ trivial (N12 _ _ (bt G (ba _ _)) (A5.new u I7 _) G.size)
  intro o hp hd;refine M6 65 hp Az9 ?_;exact F5 rG [] hd ⟨B2.up ((bt G (ba _ _))),B3.up ((bt G (ba _ _))),(bt G (ba _ _))⟩ trivial (N13 _ _ (bt G (ba _ _)) (A5.new u I0 _) G.size)
 exact O3 17 rG [(0,54,.agg (A7 B).toArray),(1,55,pt n3 70),(2,56,.agg #[.bool S1.i,.slice S1.ta S1.es.length S1.tc,.bool S1.f]),(3,57,.agg (A6 (⟨B,S1.i,S1.f,S1.ta,S1.tc,S1.es⟩:Sv)).toArray),(4,58,.slice (some ⟨g,o,none⟩) 1 rc),(5,59,pt g o),(6,60,.slice p nX pc)] h0 ⟨B2.up ((bd w)),B3.up ((bd w)),(bd w)⟩ ⟨Q2 (cs:=A7 B) rfl (fun w hw=>hw.1.atAll) (by rw[G6];exact O2) e2,A8 rfl e3,Q2 (cs:=[.bool S1.i,.slice S1.ta S1.es.length S1.tc,.bool S1.f]) rfl (fun w hw=>hw.2.1.blk.atP) Aa1,Ai4 #[(0,.agg (A7 B).toArray),(1,.agg #[.bool S1.i,.slice S1.ta S1.es.length S1.tc,.bool S1.f])] rfl,F9 rfl e6,Cn2 rfl rfl rfl (fun w=>hI w),F8 rfl (fun w' hw=>(hw.2.2.cell (p:=⟨g,o,none⟩) hg).trans hc),trivial⟩ (N0 _  (bd w))
noncomputable def sh9:{ops:Array Oper//(Tryz.f12.body.bind (M8 9))=some (.region 9 ops true)}:=⟨_,rfl⟩
abbrev Ak1:List Nat:=[66,67,68,69,70,65,71,72,73,10,11,12]
theorem Bz2:opx sh9.1 4=some (.call {callee:=.value (.func 19),args:=#[.tmp 66,.tmp 69],argTypes:=#[51,22]},some 70,none):=by kernel_rfl
theorem Bz3:opx sh9.1 9=some (.alloc 51,some 10,none):=by kernel_rfl
theorem Br1:opx sh9.1 10=some (.alloc 65,some 11,none):=by kernel_rfl
theorem Eu7:opx sh9.1 11=some (.store 51 (.tmp 10) (.tmp 71),none,none):=by kernel_rfl
theorem Eu8:opx sh9.1 12=some (.store 65 (.tmp 11) (.tmp 72),none,none):=by kernel_rfl
theorem Eu9{S3 S4:Sv}{n7:Nat}{g o rc nX pc:Nat}{p:Option Addr}{a:Act}{w:World}{Q:Exit→Act→World→Prop}(hsz:167≤a.tmps.size)
 (e7:a.tmps.getD 7 undef=.pointer (some ⟨n7,0,none⟩)) (e6:a.tmps.getD 6 undef=.slice (some ⟨g,o,none⟩) 1 rc) (hP:∀c a d v w,Q (.panic c) (Act.put a d v) w→Q (.panic c) a w) (B7:A5 51 w n7 (A6 S3))
 (hI:∀w,(Instr.indexAt 35 (.slice (some ⟨g,o,none⟩) 1 rc) (.int .i64 0)).run Tryz.prog w=.ok (.pointer (some ⟨g,o,none⟩)) w) (hg:g<w.heap.size) (hc:w.cell? ⟨g,o,none⟩=some (.slice p nX pc))
 (HT:∀u,Below w.heap.size w u→Calls Tryz.prog 19 #[.agg (A6 S3).toArray,.slice p nX pc] u (fun x w'=>x=.returned (.tuple #[.agg (A6 S4).toArray,.agg I0.toArray,.int .i64 6])∧Below u.heap.size u w'))
 (hQ:∀{x66 x67 x68 x69 x70 x65 x71 x72 x73} z7 z8 w',A5 51 w' z7 (A6 S4)→A5 65 w' z8 I0→w.heap.size≤z7→w.heap.size≤z8→Below w.heap.size w w'→Q .normal (B9 a Ak1 [x66,x67,x68,x69,x70,x65,x71,x72,x73,.pointer (some ⟨z7,0,none⟩),.pointer (some ⟨z8,0,none⟩),.int .i64 6]) w'):
 (Code.region 9 sh9.1 true).wp Tryz.prog Q a w:=by
 have rG:Rgn sh9.1 Ak1 a Q:=⟨fun k hk=>Nat.lt_of_lt_of_le ((by decide:∀k∈Ak1,k<167) k hk) hsz,by kernel_rfl,hP⟩;have hb:=rG.b;obtain⟨i,h0⟩:=Z9 a Ak1;let S:World→Prop:=fun w'=>A5 51 w' n7 (A6 S3)∧Below w.heap.size w w';refine wp_region_held_drew (S:=S) (by kernel_rfl) (⟨B7.up ((bd w)),(bd w)⟩) fun hHeld=>?_;have N4_9_10_11_12:∀(u:World) (z7:Nat) (z8:Nat) (G:Below w.heap.size w u) (Z7:A5 51 u z7 (A6 S4)) (L7:w.heap.size≤z7) (Z8:A5 65 u z8 (I0)) (L8:w.heap.size≤z8) (N:z7≠z8),wpAnyH Tryz.prog .any sh9.1 Q S 0 (lm 14 16383) (B9 a Ak1 [.agg (A6 S3).toArray,.slice (some ⟨g,o,none⟩) 1 rc,pt g o,.slice p nX pc,.tuple #[.agg (A6 S4).toArray,.agg (I0).toArray,i6 6],.tuple #[.agg (A6 S4).toArray,.agg (I0).toArray,i6 6],.agg (A6 S4).toArray,.agg (I0).toArray,i6 6,pt z7 0,pt z8 0,i6 6]) u:=by
  intro u z7 z8 G Z7 L7 Z8 L8 N;refine W4 ?_;exact hQ _ _ _ Z7 Z8 L7 L8 G
 have N4_9_10_11:∀(u:World) (z7:Nat) (z8:Nat) (G:Below w.heap.size w u) (Z7:A5 51 u z7 (A6 S4)) (L7:w.heap.size≤z7) (Z8:A5 65 u z8 I0) (L8:w.heap.size≤z8) (N:z7≠z8),wpAnyH Tryz.prog .any sh9.1 Q S 2 (lm 14 4095) (B9 a Ak1 [.agg (A6 S3).toArray,.slice (some ⟨g,o,none⟩) 1 rc,pt g o,.slice p nX pc,.tuple #[.agg (A6 S4).toArray,.agg (I0).toArray,i6 6],.tuple #[.agg (A6 S4).toArray,.agg (I0).toArray,i6 6],.agg (A6 S4).toArray,.agg (I0).toArray,i6 6,pt z7 0,pt z8 0,i 12]) u:=by
  intro u z7 z8 G Z7 L7 Z8 L8 N;refine C8 [12] (C7 rG Eu8 ?_ AllReadyH.nil);intro o hp hd;refine Aa9 65 (.tmp 11) (.tmp 72) hp z8 (cs:=I0) rG.ev rG.ev Z8 Ac0 rfl rfl ?_;exact Ab6 rG [(13,12,i6 6)] hd ⟨(B7.up G).rowOther z8 (Nat.ne_of_lt (Nat.lt_of_lt_of_le B7.blk.lt L8)) _,D0 G L8 _⟩ ⟨Al4 rfl,trivial⟩ (N4_9_10_11_12 _ _ _ (D0 G L8 _) (Z7.rowOther z8 N _) L7 (Z8.row _) L8 N)
 have N4_9_10:∀(u:World) (z7:Nat) (z8:Nat) (G:Below w.heap.size w u) (Z7:A5 51 u z7 I7) (L7:w.heap.size≤z7) (Z8:A5 65 u z8 I0) (L8:w.heap.size≤z8) (N:z7≠z8),wpAnyH Tryz.prog .any sh9.1 Q S 3 (lm 14 2047) (B9 a Ak1 [.agg (A6 S3).toArray,.slice (some ⟨g,o,none⟩) 1 rc,pt g o,.slice p nX pc,.tuple #[.agg (A6 S4).toArray,.agg (I0).toArray,i6 6],.tuple #[.agg (A6 S4).toArray,.agg (I0).toArray,i6 6],.agg (A6 S4).toArray,.agg (I0).toArray,i6 6,pt z7 0,pt z8 0,i 12]) u:=by
  intro u z7 z8 G Z7 L7 Z8 L8 N;refine C8 [11] (C7 rG Eu7 ?_ AllReadyH.nil);intro o hp hd;refine Aa9 51 (.tmp 10) (.tmp 71) hp z7 (cs:=A6 S4) rG.ev rG.ev Z7 (by rw[D8];exact R6) (by rw[M5,D8]) (Q3 _) ?_;exact Ab6 rG [] hd ⟨(B7.up G).rowOther z7 (Nat.ne_of_lt (Nat.lt_of_lt_of_le B7.blk.lt L7)) _,D0 G L7 _⟩ trivial (N4_9_10_11 _ _ _ (D0 G L7 _) (Z7.row _) L7 (Z8.rowOther z7 N.symm _) L8 N)
 have N4_9:∀(u:World) (z7:Nat) (G:Below w.heap.size w u) (Z7:A5 51 u z7 I7) (L7:w.heap.size≤z7),wpAnyH Tryz.prog .any sh9.1 Q S 4 (lm 14 1023) (B9 a Ak1 [.agg (A6 S3).toArray,.slice (some ⟨g,o,none⟩) 1 rc,pt g o,.slice p nX pc,.tuple #[.agg (A6 S4).toArray,.agg (I0).toArray,i6 6],.tuple #[.agg (A6 S4).toArray,.agg (I0).toArray,i6 6],.agg (A6 S4).toArray,.agg (I0).toArray,i6 6,pt z7 0,i 11,i 12]) u:=by
  intro u z7 G Z7 L7;refine C8 [10] (C7 rG Br1 ?_ AllReadyH.nil);intro o hp hd;refine M6 65 hp Az9 ?_;exact F5 rG [] hd ⟨B7.up ((bt G (ba _ _))),(bt G (ba _ _))⟩ trivial (N4_9_10 _ _ _ (bt G (ba _ _)) (Z7.up (ba _ _)) L7 (A5.new u I0 _) G.size (Nat.ne_of_lt Z7.blk.lt))
 have N4_10:∀(u:World) (z8:Nat) (G:Below w.heap.size w u) (Z8:A5 65 u z8 I0) (L8:w.heap.size≤z8),wpAnyH Tryz.prog .any sh9.1 Q S 4 (lm 14 1535) (B9 a Ak1 [.agg (A6 S3).toArray,.slice (some ⟨g,o,none⟩) 1 rc,pt g o,.slice p nX pc,.tuple #[.agg (A6 S4).toArray,.agg (I0).toArray,i6 6],.tuple #[.agg (A6 S4).toArray,.agg (I0).toArray,i6 6],.agg (A6 S4).toArray,.agg (I0).toArray,i6 6,i 10,pt z8 0,i 12]) u:=by
  intro u z8 G Z8 L8;refine C8 [9] (C7 rG Bz3 ?_ AllReadyH.nil);intro o hp hd;refine M6 51 hp Ag6 ?_;exact F5 rG [] hd ⟨B7.up ((bt G (ba _ _))),(bt G (ba _ _))⟩ trivial (N4_9_10 _ _ _ (bt G (ba _ _)) (A5.new u I7 _) G.size (Z8.up (ba _ _)) L8 (Nat.ne_of_gt Z8.blk.lt))
 have N4:∀(u:World) (G:Below w.heap.size w u),wpAnyH Tryz.prog .any sh9.1 Q S 5 (lm 14 511) (B9 a Ak1 [.agg (A6 S3).toArray,.slice (some ⟨g,o,none⟩) 1 rc,pt g o,.slice p nX pc,.tuple #[.agg (A6 S4).toArray,.agg (I0).toArray,i6 6],.tuple #[.agg (A6 S4).toArray,.agg (I0).toArray,i6 6],.agg (A6 S4).toArray,.agg (I0).toArray,i6 6,i 10,i 11,i 12]) u:=by
  intro u G;refine C8 [9,10] (C7 rG Bz3 ?_ (C7 rG Br1 ?_ AllReadyH.nil))
  ·intro o hp hd;refine M6 51 hp Ag6 ?_;exact F5 rG [] hd ⟨B7.up ((bt G (ba _ _))),(bt G (ba _ _))⟩ trivial (N4_9 _ _ (bt G (ba _ _)) (A5.new u I7 _) G.size)
  intro o hp hd;refine M6 65 hp Az9 ?_;exact F5 rG [] hd ⟨B7.up ((bt G (ba _ _))),(bt G (ba _ _))⟩ trivial (N4_10 _ _ (bt G (ba _ _)) (A5.new u I0 _) G.size)
 have N9_10:∀(u:World) (z7:Nat) (z8:Nat) (G:Below w.heap.size w u) (Z7:A5 51 u z7 I7) (L7:w.heap.size≤z7) (Z8:A5 65 u z8 I0) (L8:w.heap.size≤z8) (N:z7≠z8),wpAnyH Tryz.prog .any sh9.1 Q S 8 (lm 14 1551) (B9 a Ak1 [.agg (A6 S3).toArray,.slice (some ⟨g,o,none⟩) 1 rc,pt g o,.slice p nX pc,i 70,i 65,i 71,i 72,i 73,pt z7 0,pt z8 0,i 12]) u:=by
  intro u z7 z8 G Z7 L7 Z8 L8 N;refine C8 [4] (C7 rG Bz2 ?_ AllReadyH.nil);intro o hp hd;refine J8 hp (rG.ev2 (.agg (A6 S3).toArray) (.slice p nX pc)) (HT u G) ?_;rintro x u4 ⟨rfl,hb4⟩;refine⟨_,rfl,?_⟩;exact F5 rG [(5,65,.tuple #[.agg (A6 S4).toArray,.agg (I0).toArray,i6 6]),(6,71,.agg (A6 S4).toArray),(7,72,.agg (I0).toArray),(8,73,i6 6)] hd ⟨B7.up ((bt G hb4)),(bt G hb4)⟩ ⟨F9 rfl,P9 rfl,P9 rfl,P9 rfl,trivial⟩ (N4_9_10 _ _ _ (bt G hb4) (Z7.up hb4) L7 (Z8.up hb4) L8 N)
 have N9:∀(u:World) (z7:Nat) (G:Below w.heap.size w u) (Z7:A5 51 u z7 I7) (L7:w.heap.size≤z7),wpAnyH Tryz.prog .any sh9.1 Q S 9 (lm 14 527) (B9 a Ak1 [.agg (A6 S3).toArray,.slice (some ⟨g,o,none⟩) 1 rc,pt g o,.slice p nX pc,i 70,i 65,i 71,i 72,i 73,pt z7 0,i 11,i 12]) u:=by
  intro u z7 G Z7 L7;refine C8 [4,10] (C7 rG Bz2 ?_ (C7 rG Br1 ?_ AllReadyH.nil))
  ·intro o hp hd;refine J8 hp (rG.ev2 (.agg (A6 S3).toArray) (.slice p nX pc)) (HT u G) ?_;rintro x u4 ⟨rfl,hb4⟩;refine⟨_,rfl,?_⟩;exact F5 rG [(5,65,.tuple #[.agg (A6 S4).toArray,.agg (I0).toArray,i6 6]),(6,71,.agg (A6 S4).toArray),(7,72,.agg (I0).toArray),(8,73,i6 6)] hd ⟨B7.up ((bt G hb4)),(bt G hb4)⟩ ⟨F9 rfl,P9 rfl,P9 rfl,P9 rfl,trivial⟩ (N4_9 _ _ (bt G hb4) (Z7.up hb4) L7)
  intro o hp hd;refine M6 65 hp Az9 ?_;exact F5 rG [] hd ⟨B7.up ((bt G (ba _ _))),(bt G (ba _ _))⟩ trivial (N9_10 _ _ _ (bt G (ba _ _)) (Z7.up (ba _ _)) L7 (A5.new u I0 _) G.size (Nat.ne_of_lt Z7.blk.lt))
 have N10:∀(u:World) (z8:Nat) (G:Below w.heap.size w u) (Z8:A5 65 u z8 I0) (L8:w.heap.size≤z8),wpAnyH Tryz.prog .any sh9.1 Q S 9 (lm 14 1039) (B9 a Ak1 [.agg (A6 S3).toArray,.slice (some ⟨g,o,none⟩) 1 rc,pt g o,.slice p nX pc,i 70,i 65,i 71,i 72,i 73,i 10,pt z8 0,i 12]) u:=by
  intro u z8 G Z8 L8;refine C8 [4,9] (C7 rG Bz2 ?_ (C7 rG Bz3 ?_ AllReadyH.nil))
  ·intro o hp hd;refine J8 hp (rG.ev2 (.agg (A6 S3).toArray) (.slice p nX pc)) (HT u G) ?_;rintro x u4 ⟨rfl,hb4⟩;refine⟨_,rfl,?_⟩;exact F5 rG [(5,65,.tuple #[.agg (A6 S4).toArray,.agg (I0).toArray,i6 6]),(6,71,.agg (A6 S4).toArray),(7,72,.agg (I0).toArray),(8,73,i6 6)] hd ⟨B7.up ((bt G hb4)),(bt G hb4)⟩ ⟨F9 rfl,P9 rfl,P9 rfl,P9 rfl,trivial⟩ (N4_10 _ _ (bt G hb4) (Z8.up hb4) L8)
  intro o hp hd;refine M6 51 hp Ag6 ?_;exact F5 rG [] hd ⟨B7.up ((bt G (ba _ _))),(bt G (ba _ _))⟩ trivial (N9_10 _ _ _ (bt G (ba _ _)) (A5.new u I7 _) G.size (Z8.up (ba _ _)) L8 (Nat.ne_of_gt Z8.blk.lt))
 have N0:∀(u:World) (G:Below w.heap.size w u),wpAnyH Tryz.prog .any sh9.1 Q S 10 (lm 14 15) (B9 a Ak1 [.agg (A6 S3).toArray,.slice (some ⟨g,o,none⟩) 1 rc,pt g o,.slice p nX pc,i 70,i 65,i 71,i 72,i 73,i 10,i 11,i 12]) u:=by
  intro u G;refine C8 [4,9,10] (C7 rG Bz2 ?_ (C7 rG Bz3 ?_ (C7 rG Br1 ?_ AllReadyH.nil)))
  ·intro o hp hd;refine J8 hp (rG.ev2 (.agg (A6 S3).toArray) (.slice p nX pc)) (HT u G) ?_;rintro x u4 ⟨rfl,hb4⟩;refine⟨_,rfl,?_⟩;exact F5 rG [(5,65,.tuple #[.agg (A6 S4).toArray,.agg (I0).toArray,i6 6]),(6,71,.agg (A6 S4).toArray),(7,72,.agg (I0).toArray),(8,73,i6 6)] hd ⟨B7.up ((bt G hb4)),(bt G hb4)⟩ ⟨F9 rfl,P9 rfl,P9 rfl,P9 rfl,trivial⟩ (N4 _  (bt G hb4))
  ·intro o hp hd;refine M6 51 hp Ag6 ?_;exact F5 rG [] hd ⟨B7.up ((bt G (ba _ _))),(bt G (ba _ _))⟩ trivial (N9 _ _ (bt G (ba _ _)) (A5.new u I7 _) G.size)
  intro o hp hd;refine M6 65 hp Az9 ?_;exact F5 rG [] hd ⟨B7.up ((bt G (ba _ _))),(bt G (ba _ _))⟩ trivial (N10 _ _ (bt G (ba _ _)) (A5.new u I0 _) G.size)
 exact O3 14 rG [(0,66,.agg (A6 S3).toArray),(1,67,.slice (some ⟨g,o,none⟩) 1 rc),(2,68,pt g o),(3,69,.slice p nX pc)] h0 ⟨B7.up ((bd w)),(bd w)⟩ ⟨Q2 (cs:=A6 S3) rfl (fun w hw=>hw.1.atSite) (by rw[D8];exact R6) e7,F9 rfl e6,Cn2 rfl rfl rfl (fun w=>hI w),F8 rfl (fun w' hw=>(hw.2.cell (p:=⟨g,o,none⟩) hg).trans hc),trivial⟩ (N0 _  (bd w))
theorem Cn9{w:World}{e:Ev}(h:Ae9 w e):Ay1 e e=true:=by
 have hG:∀g l,Ae8 g g l l=true:=fun g l=>by unfold Ae8;simp
 unfold Ay1 Ay0 Au8 Bl3 Bj9 Aq1 V7;simp[hG,Cz6]
theorem Co0(e:Ev)(h:e.id=0):Ay1 e (twE e)=false:=by
 have:Bl3 e (twE e)=false:=by
  unfold Bl3;rw[show(e.id==(twE e).id)=false from by rw[h];rfl];rfl
 unfold Ay1;rw[this];simp
theorem Eb2{q:Nat→Prop}{w:World}{e:Ev}(h:X7 (fun _=>False) w e):J9 q w (Ae1 e):=
 ⟨h.to fun _ _ hf=>hf.elim,⟨[],rfl,.inl rfl,fun i hi=>absurd hi (Nat.not_lt_zero i)⟩,⟨Nat.le_refl _,Nat.zero_le _⟩⟩
theorem Eb3{q:Nat→Prop}{w:World}{e:Ev}(h:X7 q w e):X7 q w (twE e):=⟨h.k,h.s1,h.s2,h.r,h.rc,h.ro,h.rp,h.q,h.ql,h.u,h.ul,h.h,h.hl,h.o,h.ol,h.g,h.gl,h.wt⟩
section
variable {k s1 s2:Sl} {b:Option Addr} {cb:Nat} {K:List UInt8} {ta:Option Addr} {tc:Nat} {oa:Option Addr} {oc:Nat} {q:Nat→Prop} {w w':World}
theorem Co1(hA:X7 (fun _=>False) w (exE k s1 s2 (exR b cb) K K5))(hS:J9 q w (Do9 (exE k s1 s2 (exR b cb) K K5) K ta tc oa oc)):J9 q w (exT (twE (exE k s1 s2 (exR b cb) K K5)) false ta tc K):=
 ⟨Eb3 (hA.to fun _ _ hf=>hf.elim),hS.p,hS.pl⟩
theorem Eb4(h:J9 q w (exT (twE (exE k s1 s2 (exR b cb) K K5)) false ta tc K)):J9 q w (Ak8 k s1 s2 b cb K false ta tc):=
 (h.chk (pdF (exX K))).gone (show Y0 0 Q5 from⟨⟨by decide,by decide⟩,fun p _ _=>Am0 p,.inl rfl⟩) (pdF (exX K))
theorem Eb5:(exT (twE (exE k s1 s2 (exR b cb) K K5)) false ta tc K).es.length≤1000:=by
 show(As5 [] K exI).length≤1000;rw[Du2];cases Ai1 [] K exI<;>decide
theorem Ev0:(Ak8 k s1 s2 b cb K false ta tc).es.length≤1000:=by rw[(Cn7 false ta tc).2];exact Eb5 (k:=k) (s1:=s1) (s2:=s2) (b:=b) (cb:=cb) (ta:=ta) (tc:=tc)
theorem Eb6{x:Ending}(h:Bf9 w (exT (twE (exE k s1 s2 (exR b cb) K K5)) false ta tc K) (exX K) x w'):
 ∃a1 c1 a2 c2,x=.returned (.tuple #[.agg (A6 (Ak8 k s1 s2 b cb K false ta tc)).toArray,.agg (I5 2 0 3 4 1 0 (.slice a1 1 c1) (.slice a2 16 c2)).toArray,.int .i64 0])∧A4 w' a1 [7]∧Below w.heap.size w w':=by
 obtain⟨v,h1,h2,hb⟩:=h;have hT:T6 (exT (twE (exE k s1 s2 (exR b cb) K K5)) false ta tc K) (exX K)=(Ak8 k s1 s2 b cb K false ta tc,0):=Em2 false ta tc;rw[hT] at h1 h2;rw[An4] at h2;clear hT;generalize Ak8 k s1 s2 b cb K false ta tc=S3 at h1 h2 ⊢;have hl:=Aq4 K exI;generalize Aa8 K exI=T at h2 hl;rcases h2 with⟨h2,-⟩ | ⟨-,a1,c1,a2,c2,rfl,-,-,h5,-⟩
 ·exact absurd rfl h2
 ·refine⟨a1,c1,a2,c2,?_,h5,hb⟩;rw[h1,←hl];rfl
theorem Eb7{S:Sv}(hT:T6 (Ak8 k s1 s2 b cb K false ta tc) (exX K)=(S,6)){x:Ending}(h:Bf9 w (Ak8 k s1 s2 b cb K false ta tc) (exX K) x w'):
 x=.returned (.tuple #[.agg (A6 S).toArray,.agg I0.toArray,.int .i64 6])∧Below w.heap.size w w':=by
 obtain⟨v,h1,h2,hb⟩:=h;rw[hT] at h1 h2;rcases h2 with⟨-,rfl⟩ | ⟨h2,-⟩
 ·exact⟨h1,hb⟩
 ·exact absurd h2 (show ¬(6:Int)=0 by decide)
def Ay2(e:Ev):Sv:=⟨e,false,false,none,0,[]⟩
theorem Co2{e:Ev}(h:X7 q w e):J9 q w (Ay2 e):=⟨h,⟨[],rfl,.inl rfl,fun i hi=>absurd hi (Nat.not_lt_zero i)⟩,⟨Nat.le_refl _,Nat.zero_le _⟩⟩
theorem Em5{e:Ev}(h:T4 e.ph=false){S:Sv}{E:Int}(hR:Ao5 (Ay2 e) [7] S E):S=Ay2 e∧E=7:=by
 unfold Ao5 at hR;have h':T4 (Ay2 e).e.ph=false:=h;rcases hR with⟨h1,-⟩ | ⟨-,⟨-,h1⟩ | ⟨h1,-⟩⟩
 ·exact absurd h1 (by decide)
 ·exact h1
 ·rw[h'] at h1;cases h1
theorem Eb8{e:Ev}(hp:Ag8 e.h=some 0)(ho:e.o=[]){S:Sv}{E:Int}(hR:Bo7 (Ay2 e) 0 [7] S E):E=0∧S.e.o.length=1:=by
 unfold Bo7 at hR;rcases hR with⟨h1,-⟩ | ⟨-,h1 | ⟨c,t,d,oa,oc,h1,rfl,rfl⟩⟩
 ·exact absurd ⟨by decide,by decide⟩ h1
 ·have h':Ag8 (Ay2 e).e.h=some 0:=hp;rw[h'] at h1;cases h1.1
 ·refine⟨rfl,?_⟩;show((e.o)++[_]).length=1;rw[ho];rfl
end
theorem Em6(E:Ev)(w:World):(Instr.build 51 #[(0,.agg (A7 E).toArray)]).run Tryz.prog w=.ok (.agg (A6 (Ay2 E)).toArray) w:=by kernel_rfl
theorem Eb9(w:World):(Instr.build 46 #[]).run Tryz.prog w=.ok (.agg (A7 Bi6).toArray) w:=by kernel_rfl
theorem Ev1(w:World):(Instr.build 38 #[]).run Tryz.prog w=.ok Am8.v w:=by kernel_rfl
theorem Bz4(g o c:Nat)(w:World):(Instr.indexAt 35 (.slice (some ⟨g,o,none⟩) 1 c) (.int .i64 0)).run Tryz.prog w=.ok (.pointer (some ⟨g,o,none⟩)) w:=by kernel_rfl
theorem Bg1{ops:Array Oper}{rest:List Oper}{o:Oper}{a:Act}{w:World}{Q:Exit→Act→World→Prop}(x:Operand)(hgd:o.guard=Option.none)(ho:o.op=.build 51 #[(0,x)])(E:Ev)(hx:a.eval x=.agg (A7 E).toArray)
 (h:wpList Tryz.prog ops Q rest (a.put o.dst (.agg (A6 (Ay2 E)).toArray)) w):wpList Tryz.prog ops Q (o::rest) a w:=by
 refine wpList_plain hgd fun K hK=>?_;unfold Oper.wp execOp;simp only[ho,List.map_toArray,List.map_cons,List.map_nil,hx,Sem.run_bind,Em6,Result.andThen_ok];exact hK _ _ h
theorem Cs0(w:World)(hks:M9 w):Calls Tryz.prog 12 #[] w (D9 w true):=by
 have KS:=Lh hks;have SE:=Lh (show ∀E:Ev,(Tryz.prog.info? 46).map (·.size)=some (A7 E).length from fun E=>by rw[G6];exact O2);have SS:=Lh (show ∀S:Sv,(Tryz.prog.info? 51).map (·.size)=some (A6 S).length from fun S=>by rw[D8];exact R6);have SF:=Lh Bf3;have hbz:=Eb9;have hbf:=Ev1;have hb7:=Bp1;have hbp:=Cu3;clear hks;go_enter Tryz.func12,Tryz.ntmps12
 go_wp2_with fail
 refine(Eb0 _).mono ?_;rintro x w1 ⟨k,s1,s2,b,cb,rfl,hEA,hk,h1,h2,hb⟩;generalize Bd0 Ak7 3 4 1 []=K at hEA ⊢;have EA:=Lh hEA;have HK:=Lh (And.intro hk (And.intro h1 h2));have G:=Lh hb;clear hEA hk h1 h2 hb;go_upto_region 2 with(first
  | (refine G8 46 (.tmp 1) (.tmp 20) rfl ?_;refine I4 46 (.tmp 1) (.tmp 20) _ (cs:=A7 (exE k s1 s2 (exR b cb) K K5)) rfl rfl rfl rfl (Aj6 (w:=w1) (a:=Aa0) (b:=Aa0) (A:=46) (B:=46) rfl).1 (SE.out _) (by rw[G6];exact Af2) (Ag4 _) ?_;intro wa hB hK;have B1:=Lh hB;have B2:=Lh ((Aj6 (w:=w1) (a:=Aa0) (b:=Aa0) (A:=46) (B:=46) rfl).2.1.kp hK (Nat.ne_of_gt (Nat.lt_succ_self _)));have N12:=Lh (Nat.ne_of_lt (Nat.lt_succ_self w1.heap.size));have G1:=Lh (hK.below (Aj6 (w:=w1) (a:=Aa0) (b:=Aa0) (A:=46) (B:=46) rfl).2.2 (Nat.le_refl _));have L2:=Lh (Nat.le_succ w1.heap.size);clear hB hK)
  | (refine G8 46 (.tmp 2) (.tmp 21) rfl ?_;refine I4 46 (.tmp 2) (.tmp 21) _ (cs:=A7 (twE (exE k s1 s2 (exR b cb) K K5))) rfl rfl rfl rfl B2.out (SE.out _) (by rw[G6];exact Af2) (Ag4 _) ?_;intro wb hB hK;replace B1:=Lh (B1.out.kp hK N12.out);replace B2:=Lh hB;replace G1:=Lh (hK.below G1.out L2.out);clear hB hK))
 replace G:=Lh (bt G.out G1.out);generalize w1.heap.size+1=n2 at B2 N12 L2 ⊢;generalize hn1:w1.heap.size=n1 at B1 N12 ⊢;clear hn1 N12 L2;refine Eu3 (A:=(exE k s1 s2 (exR b cb) K K5)) (Nat.le_refl _) rfl (fun _ _ d _ _ h=>by cases d<;>exact h) B1.out (fun q2 u y hu hq1 hq2 hy=>Bo8 (Ae1 (exE k s1 s2 (exR b cb) K K5)) y 1 [7] u q2 hq1 (Eb2 (EA.out.mono (bt G1.out hu))) (Ce6 HK.out.1 HK.out.2.1 HK.out.2.2) (Nat.zero_le _) (Nat.zero_le _) hy (KS.out.mono (bt G.out hu))) ?_;intro x23 x24 x25 x26 x27 x22 x28 x29 n3 S9 E9 w3 hB3 hL3 hR hSQ hb;obtain⟨rfl,ta,tc,oa,oc,rfl⟩:=Eu0 hR;have B3:=Lh hB3;replace B1:=Lh (B1.out.up hb);replace B2:=Lh (B2.out.up hb);replace G:=Lh (bt G.out hb);replace G1:=Lh (bt G1.out hb);have SQ:=Lh (J9.to (p:=fun _=>True) hSQ (fun _ _ _=>trivial));have G3:=Lh (Below.refl w3.heap.size w3);clear hB3 hL3 hR hSQ hb;simp only[B9,Act.put,List.setIfInBounds_toArray,List.set_cons_zero,List.set_cons_succ];have hs:Ae0 w3 oa [(0,Am6 (exX K))]:=by
  have h:=SQ.out.at.e.o;rw[Fb1 _ _ _ _ _ rfl] at h;exact h
 have co:_=some (Value.slice oa 1 oc):=B3.out.blk.siteIn.o;obtain⟨g,off,rfl,hg,hcs⟩:=hs.cell (Nat.zero_lt_succ 0);obtain⟨p,pc,x0,x1,-,-,b0⟩:=hcs 0 (Nat.zero_lt_succ 0);simp only[Nat.zero_mul,Nat.add_zero,List.getD_cons_zero] at x0 x1 b0;have PB:=Lh b0;clear x0 hcs hs hg b0;go_upto_region 5 with(fail)
 go_wp2_with fail
 refine(Em4 _ _ _ _ PB.out).mono ?_;rintro x w4 ⟨f,g2,o2,rc,p2,pc2,rfl,hg2,hc2,hl2,hX,hb⟩;replace B1:=Lh (B1.out.up hb);replace B2:=Lh (B2.out.up hb);replace B3:=Lh (B3.out.up hb);replace G:=Lh (bt G.out hb);replace G1:=Lh (bt G1.out hb);replace G3:=Lh (bt G3.out hb);have HX:=Lh hX;have HC:=Lh (And.intro hg2 (And.intro hc2 hl2));have G4:=Lh (Below.refl w4.heap.size w4);clear hg2 hc2 hl2 hX hb co x1 PB;go_upto_region 6 with(refine G8 38 (.tmp 5) (.tmp 48) rfl ?_;refine I4 38 (.tmp 5) (.tmp 48) _ (cs:=[.slice f.a f.len f.cap,.int .i64 f.skip,.int .i64 f.bad]) rfl rfl rfl rfl (A5.new _ _ _) SF.out rfl rfl ?_;intro w45 hBn hK;have hh:=hK.below (ba _ _) (Nat.le_refl _);have B5:=Lh hBn;replace B1:=Lh (B1.out.up hh);replace B2:=Lh (B2.out.up hh);replace B3:=Lh (B3.out.up hh);replace G:=Lh (bt G.out hh);replace G1:=Lh (bt G1.out hh);replace G3:=Lh (bt G3.out hh);replace G4:=Lh (bt G4.out hh);clear hBn hK hh)
 clear B5;go_upto_region 8 with(fail)
 refine Eu6 (B:=twE (exE k s1 s2 (exR b cb) K K5)) (S1:=Do9 (exE k s1 s2 (exR b cb) K K5) K ta tc (some ⟨g,off,none⟩) oc) (S3:=Ak8 k s1 s2 b cb K false ta tc) (nX:=(exX K).length) (Nat.le_refl _) rfl rfl rfl (fun _ _ d _ _ h=>by cases d<;>exact h) B2.out B3.out (Bz4 g2 o2 rc) (Nat.lt_of_lt_of_le HC.out.1 G4.out.size) ((G4.out.cell (p:=⟨g2,o2,none⟩) HC.out.1).trans HC.out.2.1) (fun u hu=>(Bd9 (exT (twE (exE k s1 s2 (exR b cb) K K5)) false ta tc K) p2 pc2 (exX K) u (Co1 (EA.out.mono (bt G1.out hu)) (SQ.out.mono (bt G3.out hu))) (Ea3 HK.out.1 HK.out.2.1 HK.out.2.2) Eb5 HC.out.2.2.1 HC.out.2.2.2 (HX.out.mono (bt G4.out hu)) (KS.out.mono (bt G.out hu))).mono fun x w' h=>Eb6 h) ?_;intro x54 x55 x56 x57 x58 x59 x60 x61 x53 x62 x63 x64 n7 n8 a1 c1 a2 c2 w5 hB7 hB8 hQB hL7 hL8 hb;have B7:=Lh hB7;have B8:=Lh hB8;have QB:=Lh hQB;have G5:=Lh (Below.refl w5.heap.size w5);replace B1:=Lh (B1.out.up hb);replace B2:=Lh (B2.out.up hb);replace B3:=Lh (B3.out.up hb);replace G:=Lh (bt G.out hb);replace G1:=Lh (bt G1.out hb);replace G3:=Lh (bt G3.out hb);replace G4:=Lh (bt G4.out hb);clear hB7 hB8 hQB hL7 hL8 hb;simp only[B9,Act.put,List.setIfInBounds_toArray,List.set_cons_zero,List.set_cons_succ];obtain⟨S4,hT2,hS4⟩:=Em3 (k:=k) (s1:=s1) (s2:=s2) (b:=b) (cb:=cb) (K:=K) false ta tc;have HS4:=Lh hS4;clear hS4;go_upto_region 9 with(fail)
 refine Eu9 (S3:=Ak8 k s1 s2 b cb K false ta tc) (S4:=S4) (nX:=(exX K).length) (Nat.le_refl _) rfl rfl (fun _ _ d _ _ h=>by cases d<;>exact h) B7.out (Bz4 g2 o2 rc) (Nat.lt_of_lt_of_le HC.out.1 G4.out.size) ((G4.out.cell (p:=⟨g2,o2,none⟩) HC.out.1).trans HC.out.2.1) (fun u hu=>(Bd9 (Ak8 k s1 s2 b cb K false ta tc) p2 pc2 (exX K) u (Eb4 (Co1 (EA.out.mono (bt G1.out hu)) (SQ.out.mono (bt G3.out hu)))) (Do7 HK.out.1 HK.out.2.1 HK.out.2.2 false ta tc) Ev0 HC.out.2.2.1 HC.out.2.2.2 (HX.out.mono (bt G4.out hu)) (KS.out.mono (bt G.out hu))).mono fun x w' h=>Eb7 hT2 h) ?_;intro x66 x67 x68 x69 x70 x65 x71 x72 x73 n10 n11 w6 hB10 hB11 hL10 hL11 hb;have B10:=Lh hB10;replace B1:=Lh (B1.out.up hb);replace B2:=Lh (B2.out.up hb);replace B8:=Lh (B8.out.up hb);replace G:=Lh (bt G.out hb);replace G1:=Lh (bt G1.out hb);replace G5:=Lh (bt G5.out hb);clear hB10 hB11 hL10 hL11 hb hT2 B3 B7 SQ HX HC G3 G4;simp only[B9,Act.put,List.setIfInBounds_toArray,List.set_cons_zero,List.set_cons_succ];go_wp2_with (refine I2 46 (.tmp 1) rfl ?_;refine C6 46 (.tmp 1) n1 (by first | rfl | simp[Region.wanted,yielded]) rfl rfl B1.out.blk Tryz.underlying46 rfl (SE.out _) ?_)
 refine(Cm3 (exE k s1 s2 (exR b cb) K K5) 0 _ (fun _=>True) (fun _ _=>trivial) ((EA.out.mono G1.out).to fun _ _ hf=>hf.elim) (Nat.zero_le _)).mono ?_;rintro x w7 ⟨la,lc,rfl,hEL,hb⟩;have EL:=Lh hEL;have G7:=Lh (Below.refl w7.heap.size w7);replace B1:=Lh (B1.out.up hb);replace B2:=Lh (B2.out.up hb);replace B8:=Lh (B8.out.up hb);replace B10:=Lh (B10.out.up hb);replace G:=Lh (bt G.out hb);replace G1:=Lh (bt G1.out hb);replace G5:=Lh (bt G5.out hb);have OR:=Lh (Ea5 (b:=b) (cb:=cb) (K:=K) HK.out.1 HK.out.2.1 HK.out.2.2 la lc);obtain⟨og,oo,ol,op⟩:=Et6 (k:=k) (s1:=s1) (s2:=s2) (b:=b) (cb:=cb) (K:=K) la lc;have OG:=Lh og;have OO:=Lh oo;have OL:=Lh ol;have OP:=Lh op;clear hEL hb og oo ol op;generalize Aw6 (exE k s1 s2 (exR b cb) K K5) 0 la lc=OF at EL OR OG OO OL OP ⊢;go_upto_region 11 with(refine G8 46 (.tmp 13) (.tmp 75) rfl ?_;refine I4 46 (.tmp 13) (.tmp 75) _ (cs:=A7 OF) rfl rfl rfl rfl (A5.new _ _ _) (SE.out _) (by rw[G6];exact Af2) (Ag4 _) ?_;intro w75 hBn hK;have hh:=hK.below (ba _ _) (Nat.le_refl _);have B13:=Lh hBn;replace B1:=Lh (B1.out.up hh);replace B2:=Lh (B2.out.up hh);replace B8:=Lh (B8.out.up hh);replace B10:=Lh (B10.out.up hh);replace G:=Lh (bt G.out hh);replace G1:=Lh (bt G1.out hh);replace G5:=Lh (bt G5.out hh);replace G7:=Lh (bt G7.out hh);clear hBn hK hh)
 generalize w7.heap.size=n13 at B13 ⊢;go_wp2_with (first
  | (refine I2 46 (.tmp 13) rfl ?_;refine C6 46 (.tmp 13) n13 (by first | rfl | simp[Region.wanted,yielded]) rfl rfl B13.out.blk Tryz.underlying46 rfl (SE.out _) ?_)
  | (refine Bg1 (.tmp 77) rfl rfl OF rfl ?_))
 refine(Bo8 (Ay2 OF) _ 1 [7] _ (fun _=>True) (fun _ _=>trivial) (Co2 (EL.out.mono (bta G7.out _))) OR.out (Nat.zero_le _) (by rw[show(Ay2 OF).e.o=[] from OO.out];decide) (U0 _ (B8s [7]) _) (KS.out.mono (bta G.out _))).mono ?_;rintro x w8 ⟨S,E,rfl,hR,-,hb⟩;obtain⟨rfl,rfl⟩:=Em5 OL.out hR;have hbb:=bt (ba _ _) hb;replace B1:=Lh (B1.out.up hbb);replace B2:=Lh (B2.out.up hbb);replace B8:=Lh (B8.out.up hbb);replace B10:=Lh (B10.out.up hbb);replace B13:=Lh (B13.out.up hbb);replace G:=Lh (bt G.out hbb);replace G1:=Lh (bt G1.out hbb);replace G5:=Lh (bt G5.out hbb);replace G7:=Lh (bt G7.out hbb);clear hb hbb hR;go_upto_region 12 with(refine G8 51 (.tmp 14) (.tmp 81) rfl ?_;refine I4 51 (.tmp 14) (.tmp 81) _ (cs:=A6 (Ay2 OF)) rfl rfl rfl rfl (A5.new _ _ _) (SS.out _) (by rw[D8];exact M5) (Q3 _) ?_;intro w85 hBn hK;have hh:=hK.below (ba _ _) (Nat.le_refl _);have B14:=Lh hBn;replace B1:=Lh (B1.out.up hh);replace B2:=Lh (B2.out.up hh);replace B8:=Lh (B8.out.up hh);replace B10:=Lh (B10.out.up hh);replace B13:=Lh (B13.out.up hh);replace G:=Lh (bt G.out hh);replace G1:=Lh (bt G1.out hh);replace G5:=Lh (bt G5.out hh);replace G7:=Lh (bt G7.out hh);clear hBn hK hh)
 clear B14;go_wp2_with (first
  | (refine I2 46 (.tmp 13) rfl ?_;refine C6 46 (.tmp 13) n13 (by first | rfl | simp[Region.wanted,yielded]) rfl rfl B13.out.blk Tryz.underlying46 rfl (SE.out _) ?_)
  | (refine Bg1 (.tmp 84) rfl rfl OF rfl ?_))
 refine(Cf4 (Ay2 OF) 0 _ 1 [7] _ (fun _=>True) (fun _ _=>trivial) (Co2 (EL.out.mono (bta G7.out _))) OR.out (Nat.zero_le _) (by rw[show(Ay2 OF).e.o=[] from OO.out];decide) (U0 _ (B8s [7]) _) (KS.out.mono (bta G.out _))).mono ?_;rintro x w9 ⟨S,E,rfl,hR,-,hb⟩;obtain⟨rfl,hso⟩:=Eb8 OP.out OO.out hR;have HSO:=Lh hso;have hbb:=bt (ba _ _) hb;replace B1:=Lh (B1.out.up hbb);replace B2:=Lh (B2.out.up hbb);replace B8:=Lh (B8.out.up hbb);replace B10:=Lh (B10.out.up hbb);replace B13:=Lh (B13.out.up hbb);replace G:=Lh (bt G.out hbb);replace G1:=Lh (bt G1.out hbb);replace G5:=Lh (bt G5.out hbb);replace G7:=Lh (bt G7.out hbb);clear hb hbb hR hso;go_upto_region 13 with(refine G8 51 (.tmp 16) (.tmp 88) rfl ?_;refine I4 51 (.tmp 16) (.tmp 88) _ (cs:=A6 S) rfl rfl rfl rfl (A5.new _ _ _) (SS.out _) (by rw[D8];exact M5) (Q3 _) ?_;intro w95 hBn hK;have hh:=hK.below (ba _ _) (Nat.le_refl _);have B16:=Lh hBn;replace B1:=Lh (B1.out.up hh);replace B2:=Lh (B2.out.up hh);replace B8:=Lh (B8.out.up hh);replace B10:=Lh (B10.out.up hh);replace B13:=Lh (B13.out.up hh);replace G:=Lh (bt G.out hh);replace G1:=Lh (bt G1.out hh);replace G5:=Lh (bt G5.out hh);replace G7:=Lh (bt G7.out hh);clear hBn hK hh)
 generalize w9.heap.size=n16 at B16 ⊢;simp only[List.append];obtain⟨v0,v1,v2,v3,v4,v5,v6,v7⟩:=G9 B8.out.blk;clear v0 v1 v2 v3 v4 v5 v7;go_wp2_with fail
 refine(show Calls Tryz.prog 25 #[.slice a1 1 c1,.slice _ 1 1] _ (fun e w'=>e=.returned (.bool true)∧_=w') from Ap9 a1 _ 1 c1 1 1 [7] [7] _ rfl rfl (QB.out.mono (bta G5.out _)) (U0 _ (B8s [7]) _)).mono ?_;rintro x wA ⟨rfl,rfl⟩;clear v6;have hA:Below w95.heap.size w95 (w95.alloc (.cells #[.int .u8 (bv 7)] 5)):=ba _ _;replace B1:=Lh (B1.out.up hA);replace B2:=Lh (B2.out.up hA);replace B10:=Lh (B10.out.up hA);replace B13:=Lh (B13.out.up hA);replace B16:=Lh (B16.out.up hA);replace G:=Lh (bt G.out hA);replace G1:=Lh (bt G1.out hA);replace G7:=Lh (bt G7.out hA);clear hA;have cc:=B10.out.blk.siteIn.c2;have co:=B16.out.blk.siteIn.o;rw[HS4.out] at cc;rw[HSO.out] at co;go_wp2_with (refine I2 46 (.tmp 1) rfl ?_;refine J7 46 (.tmp 1) n1 (cs:=A7 (exE k s1 s2 (exR b cb) K K5)) (by first | rfl | (simp[Region.wanted,yielded];done) | kernel_rfl) rfl rfl B1.out.blk Tryz.underlying46 rfl (SE.out _) ?_)
 refine(show Calls Tryz.prog 42 #[.agg (A7 (exE k s1 s2 (exR b cb) K K5)).toArray] _ (D9 _ true) from by have h:=Ba2 (exE k s1 s2 (exR b cb) K K5) _ (EA.out.mono G1.out).at;rw[Ce6 HK.out.1 HK.out.2.1 HK.out.2.2] at h;exact h).mono ?_;rintro x wB ⟨rfl,hb⟩;clear cc co B8 B10 B16 QB G5 HS4 HSO;replace B1:=Lh (B1.out.up hb);replace B2:=Lh (B2.out.up hb);replace B13:=Lh (B13.out.up hb);replace G:=Lh (bt G.out hb);replace G1:=Lh (bt G1.out hb);replace G7:=Lh (bt G7.out hb);clear hb;go_wp2_with (refine I2 46 (.tmp 13) rfl ?_;refine J7 46 (.tmp 13) n13 (cs:=A7 OF) (by first | rfl | (simp[Region.wanted,yielded];done) | kernel_rfl) rfl rfl B13.out.blk Tryz.underlying46 rfl (SE.out _) ?_)
 refine(show Calls Tryz.prog 42 #[.agg (A7 OF).toArray] _ (D9 _ true) from by have h:=Ba2 OF _ (EL.out.mono G7.out).at;rw[OR.out] at h;exact h).mono ?_;rintro x wC ⟨rfl,hb⟩;replace B1:=Lh (B1.out.up hb);replace B2:=Lh (B2.out.up hb);replace B13:=Lh (B13.out.up hb);replace G:=Lh (bt G.out hb);replace G1:=Lh (bt G1.out hb);replace G7:=Lh (bt G7.out hb);clear hb;go_wp2_with fail
 refine(show Calls Tryz.prog 42 #[.agg (A7 Bi6).toArray] _ (D9 _ false) from by have h:=Ba2 Bi6 wC (Ea6 wC);rw[Cn8] at h;exact h).mono ?_;rintro x wC ⟨rfl,hb⟩;replace B1:=Lh (B1.out.up hb);replace B2:=Lh (B2.out.up hb);replace B13:=Lh (B13.out.up hb);replace G:=Lh (bt G.out hb);replace G1:=Lh (bt G1.out hb);replace G7:=Lh (bt G7.out hb);clear hb;go_wp2_with (refine I2 46 (.tmp 2) rfl ?_;refine J7 46 (.tmp 2) n2 (cs:=A7 (twE (exE k s1 s2 (exR b cb) K K5))) (by first | rfl | (simp[Region.wanted,yielded];done) | kernel_rfl) rfl rfl B2.out.blk Tryz.underlying46 rfl (SE.out _) ?_)
 refine(show Calls Tryz.prog 44 #[.agg (A7 (twE (exE k s1 s2 (exR b cb) K K5))).toArray] _ (fun x w'=>x=.returned (.agg #[.int .i64 3,.int .i64 4])∧Below wC.heap.size wC w') from Ag0 (twE (exE k s1 s2 (exR b cb) K K5)) _).mono ?_;rintro x wC ⟨rfl,hb⟩;replace B1:=Lh (B1.out.up hb);replace B2:=Lh (B2.out.up hb);replace B13:=Lh (B13.out.up hb);replace G:=Lh (bt G.out hb);replace G1:=Lh (bt G1.out hb);replace G7:=Lh (bt G7.out hb);clear hb;have hpr:=fun W=>(Ak5 (.tmp 139) (.tmp 140) 3 4 3 4 W).2;rw[show(((3:Int)==3)&&((4:Int)==4))=true from rfl] at hpr;go_wp2_with (refine I2 46 (.tmp 1) rfl ?_;refine J7 46 (.tmp 1) n1 (cs:=A7 (exE k s1 s2 (exR b cb) K K5)) (by first | rfl | (simp[Region.wanted,yielded];done) | kernel_rfl) rfl rfl B1.out.blk Tryz.underlying46 rfl (SE.out _) ?_)
 refine(show Calls Tryz.prog 43 #[.agg (A7 (exE k s1 s2 (exR b cb) K K5)).toArray,.agg (A7 (exE k s1 s2 (exR b cb) K K5)).toArray] _ (D9 _ true) from by have h:=Bo9 (exE k s1 s2 (exR b cb) K K5) (exE k s1 s2 (exR b cb) K K5) _ (EA.out.mono G1.out).at (EA.out.mono G1.out).at ⟨Nat.zero_le _,Nat.zero_le _⟩ ⟨Nat.zero_le _,Nat.zero_le _⟩;rw[Cn9 (EA.out.mono G1.out).at] at h;exact h).mono ?_;rintro x wC ⟨rfl,hb⟩;replace B1:=Lh (B1.out.up hb);replace B2:=Lh (B2.out.up hb);replace B13:=Lh (B13.out.up hb);replace G:=Lh (bt G.out hb);replace G1:=Lh (bt G1.out hb);replace G7:=Lh (bt G7.out hb);clear hb;clear hpr;go_wp2_with (first
  | (refine I2 46 (.tmp 1) rfl ?_;refine J7 46 (.tmp 1) n1 (cs:=A7 (exE k s1 s2 (exR b cb) K K5)) (by first | rfl | (simp[Region.wanted,yielded];done) | kernel_rfl) rfl rfl B1.out.blk Tryz.underlying46 rfl (SE.out _) ?_)
  | (refine I2 46 (.tmp 2) rfl ?_;refine J7 46 (.tmp 2) n2 (cs:=A7 (twE (exE k s1 s2 (exR b cb) K K5))) (by first | rfl | (simp[Region.wanted,yielded];done) | kernel_rfl) rfl rfl B2.out.blk Tryz.underlying46 rfl (SE.out _) ?_))
 refine(show Calls Tryz.prog 43 #[.agg (A7 (exE k s1 s2 (exR b cb) K K5)).toArray,.agg (A7 (twE (exE k s1 s2 (exR b cb) K K5))).toArray] _ (D9 _ false) from by have h:=Bo9 (exE k s1 s2 (exR b cb) K K5) (twE (exE k s1 s2 (exR b cb) K K5)) _ (EA.out.mono G1.out).at (Eb3 (EA.out.mono G1.out)).at ⟨Nat.zero_le _,Nat.zero_le _⟩ ⟨Nat.zero_le _,Nat.zero_le _⟩;rw[Co0 _ rfl] at h;exact h).mono ?_;rintro x wC ⟨rfl,hb⟩;replace B1:=Lh (B1.out.up hb);replace B2:=Lh (B2.out.up hb);replace B13:=Lh (B13.out.up hb);replace G:=Lh (bt G.out hb);replace G1:=Lh (bt G1.out hb);replace G7:=Lh (bt G7.out hb);clear hb;have ck:=B1.out.blk.endIn.k;go_wp2_with fail
 refine(Bd1 (exE k s1 s2 (exR b cb) K K5).k.a (exE k s1 s2 (exR b cb) K K5).k.c (exE k s1 s2 (exR b cb) K K5).k.l (by show k.l.length≤1000;rw[HK.out.1];decide) _ ((EA.out.mono G1.out).k.b) (KS.out.mono G.out)).mono ?_;rintro x wD ⟨bb,bc,rfl,-,-,hb⟩;replace B1:=Lh (B1.out.up hb);replace B2:=Lh (B2.out.up hb);replace B13:=Lh (B13.out.up hb);replace G:=Lh (bt G.out hb);replace G1:=Lh (bt G1.out hb);replace G7:=Lh (bt G7.out hb);clear hb ck;have cg:=B13.out.blk.endIn.g;rw[OG.out] at cg;go_wp2_with fail
 go_ret;exact⟨rfl,G.out⟩
def Fb4(key A B:List UInt8)(m n:Nat)(e0 e1 f0 f1:Int):Prop:=key.length≤100∧A.length≤100∧B.length≤100∧m≤2147483647∧n≤2147483647∧EpF e0 e1∧EpF f0 f1
instance (key A B:List UInt8) (m n:Nat) (e0 e1 f0 f1:Int):Decidable (Fb4 key A B m n e0 e1 f0 f1):=by unfold Fb4;infer_instance
structure Bh2 (s S:Sv):Prop where
 o:S.e.o=s.e.o
 g:S.e.g=s.e.g
 es:S.es=s.es
 i:S.i=s.i
theorem Bh2.refl(s:Sv):Bh2 s s:=⟨rfl,rfl,rfl,rfl⟩
theorem Bh2.trans{a b c:Sv}(h:Bh2 a b)(k:Bh2 b c):Bh2 a c:=⟨k.o.trans h.o,k.g.trans h.g,k.es.trans h.es,k.i.trans h.i⟩
theorem Bg2(s:Sv)(b:Int):Bh2 s (Ah1 s b):=by
 unfold Ah1;repeat' split
 all_goals exact⟨rfl,rfl,rfl,rfl⟩
theorem Bl6(s:Sv)(p:Pd):Bh2 s (V8 s p):=⟨rfl,rfl,rfl,rfl⟩
theorem Ec0(s:Sv)(p:Pd):Bh2 s (Ah4 s p):=by
 unfold Ah4;cases(((p.g:Int)==s.e.r.p.no)&&(s.e.ph != 4))
 ·exact⟨rfl,rfl,rfl,rfl⟩
 ·simp only[cond_true];unfold As9;cases S7 (Ah3 s p.q).e.r.p<;>exact⟨rfl,rfl,rfl,rfl⟩
theorem Ec1(s:Sv)(l:List UInt8):Bh2 s (T6 s l).1:=by
 unfold T6;cases decide (okR l)
 ·exact Bg2 s 2
 cases U1 s.e (pdF l).k (pdF l).d (pdF l).e0 (pdF l).e1 (pdF l).g
 ·cases Ai5 s (pdF l)
  ·exact(Bl6 s _).trans (Bg2 _ 5)
  ·cases(((pdF l).k:Int)==1)
   ·cases(U2 s.e.wt s.e.wb (pdF l).q).2.2 != 0
    ·exact(Bl6 s _).trans (Ec0 _ _)
    ·exact(Bl6 s _).trans (Bg2 _ 6)
   ·exact Bl6 s _
 ·exact Bg2 s 13
structure Fi2 (s:Sv):Prop where
 r:R1 s.e=true
 o:s.e.o.length≤20
 g:s.e.g.length≤40
 es:s.es.length≤40
theorem Fg4{s:Sv}(h:Cb9 s=true):Fi2 s:=by
 unfold Cb9 Bv2 at h;simp only[Bool.and_eq_true,decide_eq_true_eq] at h;exact⟨h.2.2,h.1.2.2.2.2.2.2.1,h.1.2.2.2.2.2.2.2.1,h.2.1.1⟩
def ecE(E:Int)(p:Pd):Pd:=if E=0 then p else⟨0,0,0,0,0,0,[],[]⟩
theorem Db7.out{w:World}{E:Int}{p:Pd}{v:Value}(h:Db7 w E p v):∃a1 c1 a2 c2,v=.agg (I5 (ecE E p).k (ecE E p).d (ecE E p).e0 (ecE E p).e1 (ecE E p).g (ecE E p).q (.slice a1 (ecE E p).b.length c1) (.slice a2 (ecE E p).t.length c2)).toArray∧A4 w a1 (ecE E p).b∧A4 w a2 (ecE E p).t:=by
 unfold ecE;rcases h with⟨h,rfl⟩ | ⟨h,a1,c1,a2,c2,rfl,-,-,h1,h2⟩
 ·rw[if_neg h];exact⟨none,0,none,0,rfl,.inl rfl,.inl rfl⟩
 ·rw[if_pos h];exact⟨a1,c1,a2,c2,rfl,h1,h2⟩
structure Fb5 (s S:Sv):Prop where
 o:S.e.o.length≤s.e.o.length+1
 g:S.e.g=s.e.g
 es:S.es.length≤s.es.length+1
theorem Fb5.refl(s:Sv):Fb5 s s:=⟨Nat.le_succ _,rfl,Nat.le_succ _⟩
theorem Ec2(x y:Operand)(a b:Int)(w:World):(eqGuard .neq 63 x y (.agg #[.int .i64 a,.int .i64 b]) (.agg #[.int .i64 a,.int .i64 b])).run Tryz.prog w=.ok () w∧
 (binOp .neq 63 (.agg #[.int .i64 a,.int .i64 b]) (.agg #[.int .i64 a,.int .i64 b])).run Tryz.prog w=.ok (.bool false) w:=by
 refine⟨run_eqGuard_agg (P:=Tryz.prog) w .neq 63 x y _ _ (by kernel_rfl),?_⟩;have h:=(Ak5 x y a b a b w).2;rw[run_eql_struct] at h;rw[run_neq_struct];rw[show((a==a)&&(b==b))=true by simp] at h;generalize (Op.equalIn 10000 63 (.agg #[.int .i64 a,.int .i64 b]) (.agg #[.int .i64 a,.int .i64 b])).run Tryz.prog w=r at h;cases r with
 | ok v u=>
   simp only[Result.andThen_ok,Result.ok.injEq,Value.bool.injEq] at h;obtain⟨rfl,rfl⟩:=h;rfl
 | _=>simp[Result.andThen] at h
theorem Dp0{top:Int}{b:Nat→UInt64}(n:Int)(hr:Y0 top b):Y0 (U2 top b n).1 (U2 top b n).2.1:=by
 unfold U2;split
 ·exact hr
 split
 ·rename_i h1 h2
  obtain⟨⟨h0,h3⟩,hz,ht⟩:=hr;have hn:0≤n∧n≤4611686018427387904:=by omega
  obtain⟨T,rfl⟩:=Int.eq_ofNat_of_zero_le h0;obtain⟨N,rfl⟩:=Int.eq_ofNat_of_zero_le hn.1;show Y0 ((max (T:Int).toNat ((N:Int).toNat+1):Nat):Int) (Am1 (T:Int).toNat (N:Int).toNat b);rw[Int.toNat_natCast,Int.toNat_natCast];refine⟨⟨by omega,by omega⟩,fun p hp ht'=>?_,.inr ?_⟩
  ·unfold Am1;rw[Az1,At9];have hpN:p≠N%1024:=by omega
   have hb:S8 (if 1024≤N-T then Q5 else b) p=false:=by
    split
    ·exact Am0 p
    ·exact hz p hp (by omega)
   rw[hb,decide_eq_false hpN];rfl
  ·unfold Am1;rw[Az1];by_cases hTN:T≤N
   ·rw[show(((max T (N+1):Nat):Int)-1).toNat=N by omega];simp
   ·rw[show(((max T (N+1):Nat):Int)-1).toNat=T-1 by omega,At9,show N-T=0 by omega,if_neg (by omega)];have hb:=ht.resolve_left (by omega);rw[show((T:Int)-1).toNat=T-1 by omega] at hb;rw[hb];simp
 ·exact hr
theorem Bb1(s:Sv)(b:Int):R1 (Ah1 s b).e=R1 s.e:=by
 unfold Ah1;repeat' split
 all_goals first | rfl | kernel_rfl
theorem Ev2{e:Ev}{t:Int}{b:Nat→UInt64}(h:R1 e=true)(hl:T4 e.ph=true)(hw:Y0 t b):R1 (e.l_w t b)=true:=by
 unfold R1 Ar8 at h ⊢;simp only[Bool.and_eq_true] at h ⊢;obtain⟨h1,⟨h2,h3,h4,h5,h6⟩,h7,h8,h9⟩:=h;refine⟨h1,⟨h2,decide_eq_true hw,h4,h5,h6⟩,h7,h8,?_⟩;unfold V9 at h9 ⊢;rw[show T4 (e.l_w t b).ph=true from hl];rw[hl] at h9;exact h9
theorem Dp1{e:Ev}(h:R1 e=true)(hl:T4 e.ph=true)(h4:(e.ph != 4)=true):R1 (As9 e)=true:=by
 unfold As9;cases hn:S7 e.r.p
 ·simp only[cond_false];unfold R1 Ar8 at h ⊢;simp only[Bool.and_eq_true] at h ⊢;obtain⟨h1,⟨h2,h3,h5,h6,h7⟩,h8,h9,h10⟩:=h;unfold Aj5 Ab0 Af9 Bp8 at h5;rw[hn] at h5;simp only[Bool.false_and,Bool.and_false,Bool.false_or,Bool.and_eq_true,decide_eq_true_eq] at h5;obtain⟨k1,-,⟨k2,k3⟩,k4⟩:=h5;have k1':=k1;have k2':=k2;unfold Ad3 at k1 k2;unfold Bo1 at k4;simp only[Bool.and_eq_true,decide_eq_true_eq,beq_iff_eq] at k1 k2 k4;refine⟨h1,⟨h2,h3,?_,h6,h7⟩,h8,h9,?_⟩
  ·show Ab0 e.r.p e.r.c G0 16 e.r.t=true;unfold Ab0 Bo0 Bp8 Bo1;rw[k1',k2',show S7 e.r.c=false from by unfold S7;rw[show(e.r.c.no==0)=false by rw[beq_eq_false_iff_ne];omega];rfl];simp only[cond_false,Bool.true_and,Bool.or_eq_true,Bool.and_eq_true,decide_eq_true_eq];refine .inr ⟨⟨k3,by omega,by omega⟩,.inl rfl,k4.2.1,?_,k4.2.2⟩;show(0:Int)≤e.r.t;omega
  ·unfold V9 at h10 ⊢;rw[hl] at h10;show(Ax8 e&&bif T4 e.ph then decide (0<e.own∧0<e.oth∧0<e.r.p.no∧(e.ph≠4∨0<G0.no)) else _)=true;rw[hl];simp only[cond_true,Bool.and_eq_true,decide_eq_true_eq] at h10 ⊢;exact⟨h10.1,h10.2.1,h10.2.2.1,by omega,.inl (by simpa using h4)⟩
 ·exact h
theorem Dp2{e:Ev}{k d e0 e1 g:Int}(h:U1 e k d e0 e1 g=false)(hk:(k==1)=false):T4 e.ph=true:=by
 unfold U1 at h;rw[hk] at h
 revert h
 cases((d != wrap64 (1-e.id)) || ((e.ph==7) || (e.ph==8)))<;>cases T4 e.ph<;>simp
theorem Dp3(s:Sv)(l:List UInt8)(h:R1 s.e=true):R1 (T6 s l).1.e=true:=by
 unfold T6;cases decide (okR l)
 ·exact(Bb1 s 2).trans h
 cases hs:U1 s.e (pdF l).k (pdF l).d (pdF l).e0 (pdF l).e1 (pdF l).g
 ·cases Ai5 s (pdF l)
  ·exact(Bb1 (V8 s (pdF l)) 5).trans h
  ·cases hk:(((pdF l).k:Int)==1)
   ·cases(U2 s.e.wt s.e.wb (pdF l).q).2.2 != 0
    ·have hl:=Dp2 hs hk;have hw:=Ev2 (t:=(U2 s.e.wt s.e.wb (pdF l).q).1) (b:=(U2 s.e.wt s.e.wb (pdF l).q).2.1) h hl (Dp0 _ (An7 h).win);show R1 (Ah4 (V8 s (pdF l)) (pdF l)).e=true;unfold Ah4;cases hg:((((pdF l).g:Int)==(V8 s (pdF l)).e.r.p.no)&&((V8 s (pdF l)).e.ph != 4))
     ·exact hw
     ·simp only[Bool.and_eq_true] at hg;exact Dp1 hw hl hg.2
    ·exact(Bb1 (V8 s (pdF l)) 6).trans h
   ·exact h
 ·exact(Bb1 s 13).trans h
theorem Ec3{top:Int}{b:Nat→UInt64}{n:Int}(h:(U2 top b n).2.2=0):Y8 top b n:=by
 unfold U2 at h;split at h
 ·simp at h
 split at h
 ·assumption
 ·simp at h
theorem Dp4{top:Int}{b:Nat→UInt64}{n:Int}(h0:0≤top)(h:Y8 top b n):¬Y8 (U2 top b n).1 (U2 top b n).2.1 n:=by
 obtain⟨T,rfl⟩:=Int.eq_ofNat_of_zero_le h0;obtain⟨N,rfl⟩:=Int.eq_ofNat_of_zero_le h.1.1;have h1:=h.1;unfold U2;rw[if_neg (by omega),if_pos h];show ¬Y8 ((max (T:Int).toNat ((N:Int).toNat+1):Nat):Int) (Am1 (T:Int).toNat (N:Int).toNat b) (N:Int);rw[Int.toNat_natCast,Int.toNat_natCast];rintro⟨-,k | k⟩
 ·omega
 ·unfold Am1 at k;rw[Int.toNat_natCast,Az1] at k;simp at k
structure Fg5 (s X:Sv) (p:Pd):Prop where
 k:p.k=1∨p.k=2
 d:(p.d:Int)=wrap64 (1-s.e.id)
 had:Ai1 s.es (Ah2 s.e p) (inT p)=true
 i:X.i=s.i
 f:X.f=s.f
 es:X.es=s.es
 sess:p.k=2→(I8 s.e.r p.g).2=true∧(p.e0:Int)=(A9 s.e).1∧(p.e1:Int)=(A9 s.e).2∧Y8 s.e.wt s.e.wb p.q∧¬Y8 X.e.wt X.e.wb p.q
theorem Em7{e:Ev}{k d e0 e1 g:Int}(h:U1 e k d e0 e1 g=false):d=wrap64 (1-e.id)∧((k==1)=false→(I8 e.r g).2=true∧e0=(A9 e).1∧e1=(A9 e).2):=by
 unfold U1 at h;cases hd:(d != wrap64 (1-e.id))
 ·refine⟨by simpa using hd,fun hk=>?_⟩;rw[hd,hk] at h;cases hp:((e.ph==7) || (e.ph==8))
  ·rw[hp] at h;simp only[Bool.or_self,cond_false,Bool.or_eq_false_iff,Bool.not_eq_false',bne_eq_false_iff_eq] at h;exact⟨h.2.1,h.2.2.1,h.2.2.2⟩
  ·rw[hp] at h;simp at h
 ·rw[hd] at h;simp at h
theorem Cu4{l:List UInt8}(h:okR l):(pdF l).k=1∨(pdF l).k=2:=by
 have hm:=h.2.may;have h1:=hm.k1;have h2:=hm.k2;show I1 l 0 1=1∨I1 l 0 1=2;omega
theorem Ec4(s:Sv)(p:Pd):(Ah4 s p).i=s.i∧(Ah4 s p).f=s.f∧(Ah4 s p).es=s.es∧(Ah4 s p).e.wt=(U2 s.e.wt s.e.wb p.q).1∧(Ah4 s p).e.wb=(U2 s.e.wt s.e.wb p.q).2.1:=by
 unfold Ah4;cases(((p.g:Int)==s.e.r.p.no)&&(s.e.ph != 4))
 ·exact⟨rfl,rfl,rfl,rfl,rfl⟩
 ·simp only[cond_true];unfold As9;cases S7 (Ah3 s p.q).e.r.p<;>exact⟨rfl,rfl,rfl,rfl,rfl⟩
theorem Ec5{s:Sv}{l:List UInt8}(hi:s.i=true)(ht:0≤s.e.wt)(hE:(T6 s l).2=0):Fg5 s (T6 s l).1 (pdF l):=by
 unfold T6 at hE ⊢;cases ho:decide (okR l)
 ·rw[ho] at hE;simp at hE
 rw[ho] at hE;have hok:=of_decide_eq_true ho;cases hs:U1 s.e (pdF l).k (pdF l).d (pdF l).e0 (pdF l).e1 (pdF l).g
 ·rw[hs] at hE;have hn:=Em7 hs;cases hy:Ai5 s (pdF l)
  ·rw[hy] at hE;simp at hE
  ·rw[hy] at hE;have hh:(Aa8 (Ah2 s.e (pdF l)) (inT (pdF l))==(pdF l).t)=true∧Ai1 s.es (Ah2 s.e (pdF l)) (inT (pdF l))=true:=by
    unfold Ai5 Bn4 at hy;rw[hi] at hy;cases hr:(Aa8 (Ah2 s.e (pdF l)) (inT (pdF l))==(pdF l).t)
    ·rw[hr] at hy;simp at hy
    ·rw[hr] at hy;simp at hy;exact⟨rfl,hy⟩
   have hf:(V8 s (pdF l)).f=s.f:=by
    show Bg7 s.f s.es (Ah2 s.e (pdF l)) (inT (pdF l)) (pdF l).t=s.f;unfold Bg7;rw[hh.1,hh.2];simp
   cases hk:(((pdF l).k:Int)==1)
   ·rw[hk] at hE;cases hm:(U2 s.e.wt s.e.wb (pdF l).q).2.2 != 0
    ·have hfr:=Ec3 (by simpa using hm);obtain⟨g1,g2,g3,g4,g5⟩:=Ec4 (V8 s (pdF l)) (pdF l);refine⟨Cu4 hok,hn.1,hh.2,g1,g2.trans hf,g3,fun _=>⟨(hn.2 hk).1,(hn.2 hk).2.1,(hn.2 hk).2.2,hfr,?_⟩⟩;show ¬Y8 (Ah4 (V8 s (pdF l)) (pdF l)).e.wt (Ah4 (V8 s (pdF l)) (pdF l)).e.wb (pdF l).q;rw[g4,g5];exact Dp4 ht hfr
    ·rw[hm] at hE;simp at hE
   ·refine⟨Cu4 hok,hn.1,hh.2,rfl,hf,rfl,fun h2=>?_⟩;rw[h2] at hk;simp at hk
 ·rw[hs] at hE;simp at hE
end Go.Proofs.YtadpiemjgfndgaaGreatDoor
