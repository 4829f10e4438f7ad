/- Proved here, for use further on: LfA2 LfB LfC LfF. Conditions: none but those each theorem names. -/
import Derived.Test.YtadpiemjgfndgaaGreatDoorKf00
import Derived.Test.YtadpiemjgfndgaaGreatDoorKf22
import Derived.Test.YtadpiemjgfndgaaGreatDoorKf19
import Derived.Test.YtadpiemjgfndgaaGreatDoorKf11
import Derived.Test.YtadpiemjgfndgaaGreatDoorKf17
import Derived.Test.YtadpiemjgfndgaaGreatDoorKf20
import Derived.Test.YtadpiemjgfndgaaGreatDoorKf10
import Derived.Test.YtadpiemjgfndgaaGreatDoorKf08
import Derived.Test.YtadpiemjgfndgaaGreatDoorKf16
set_option linter.unusedSimpArgs false
set_option linter.unusedVariables false
set_option maxRecDepth 100000
set_option maxHeartbeats 8000000
namespace Go.Proofs.YtadpiemjgfndgaaGreatDoor
open Go.RowKit
noncomputable def Ap8:{ops:Array Oper//(Tryz.f75.body.bind (K6 6))=some (.region 6 ops true)}:=⟨_,rfl⟩
abbrev S7:List Nat:=(17::18::19::20::21::22::23::24::25::26::27::28::29::30::31::32::33::34::35::36::37::38::39::40::41::42::43::44::45::46::47::48::49::50::51::52::53::54::55::56::57::58::59::60::61::62::63::64::65::66::67::68::69::70::71::72::73::74::75::76::77::78::79::80::81::82::83::84::[])
theorem Ek6:opx Ap8.1 65=some (.call {callee:=.value (.func 25),args:=#[.tmp 76,.tmp 81],argTypes:=#[22,22]},some 82,some (54,false)):=by kernel_rfl
theorem Dw9{A B:Value}{k:Nat}{g1 g2 oa ob n0 m0 c0 d0:Nat}{p0 q0:Option Addr}{x0 z0 x1 z1 x2 z2 x3 z3:Int}{a:Act}{w:World}{Q:Exit→Act→World→Prop}(hsz:85≤a.tmps.size)
 (e0_:a.tmps.getD 0 undef=A) (e1_:a.tmps.getD 1 undef=B) (e5_:a.tmps.getD 5 undef=.int .i64 (k:Int))
 (hP:∀c a d v w,Q (.panic c) (Act.put a d v) w→Q (.panic c) a w) (hI1:∀w,(Instr.indexAt 44 A (.int .i64 (k:Int))).run Tryz.prog w=.ok (.pointer (some ⟨g1,oa,none⟩)) w) (hI2:∀w,(Instr.indexAt 44 B (.int .i64 (k:Int))).run Tryz.prog w=.ok (.pointer (some ⟨g2,ob,none⟩)) w)
 (hg1:g1<w.heap.size) (hg2:g2<w.heap.size) (cx0:w.cell? ⟨g1,oa,none⟩=some (.int .i64 x0)) (cz0:w.cell? ⟨g2,ob,none⟩=some (.int .i64 z0)) (cx1:w.cell? ⟨g1,oa+1,none⟩=some (.int .i64 x1)) (cz1:w.cell? ⟨g2,ob+1,none⟩=some (.int .i64 z1)) (cx2:w.cell? ⟨g1,oa+2,none⟩=some (.int .i64 x2)) (cz2:w.cell? ⟨g2,ob+2,none⟩=some (.int .i64 z2)) (cx3:w.cell? ⟨g1,oa+3,none⟩=some (.int .i64 x3)) (cz3:w.cell? ⟨g2,ob+3,none⟩=some (.int .i64 z3))
 (cxb:w.cell? ⟨g1,oa+4,none⟩=some (.slice p0 n0 c0)) (czb:w.cell? ⟨g2,ob+4,none⟩=some (.slice q0 m0 d0)) (hn0:(x0 != z0)=true)
 (hQ:∀{y17 y18 y19 y20 y21 y22 y23 y24 y25 y26 y27 y28 y29 y30 y31 y32 y33 y34 y35 y36 y37 y38 y39 y40 y41 y42 y43 y44 y45 y46 y47 y48 y49 y50 y51 y52 y53 y54 y55 y56 y57 y58 y59 y60 y61 y62 y63 y64 y65 y66 y67 y68 y69 y70 y71 y72 y73 y74 y75 y76 y77 y78 y79 y80 y81 y82 y83} w',Below w.heap.size w w'→Q .normal (C4 a S7 (y17::y18::y19::y20::y21::y22::y23::y24::y25::y26::y27::y28::y29::y30::y31::y32::y33::y34::y35::y36::y37::y38::y39::y40::y41::y42::y43::y44::y45::y46::y47::y48::y49::y50::y51::y52::y53::y54::y55::y56::y57::y58::y59::y60::y61::y62::y63::y64::y65::y66::y67::y68::y69::y70::y71::y72::y73::y74::y75::y76::y77::y78::y79::y80::y81::y82::y83::.bool true::[])) w'):
 (Code.region 6 Ap8.1 true).wp Tryz.prog Q a w:=by
 have rG:Rgn Ap8.1 S7 a Q:=⟨fun k hk=>Nat.lt_of_lt_of_le ((by decide:∀k∈S7,k<85) k hk) hsz,by kernel_rfl,hP⟩;have hb:=rG.b;obtain⟨i,h0⟩:=R7 a S7;let S:World→Prop:=fun w'=>Below w.heap.size w w';refine wp_region_held_drew (S:=S) (by kernel_rfl) (bd w) fun hHeld=>?_;have N0:∀(u:World) (G:Below w.heap.size w u),wpAnyH Tryz.prog .any Ap8.1 Q S 0 (lm 68 295147905179352825855) (C4 a S7 (A::i6 (k:Int)::pt g1 oa::pt g1 oa::i6 x0::B::i6 (k:Int)::pt g2 ob::pt g2 ob::i6 z0::.bool true::.bool true::undef::undef::undef::undef::undef::undef::undef::undef::undef::undef::undef::undef::undef::.bool true::.bool true::undef::undef::undef::undef::undef::undef::undef::undef::undef::undef::undef::undef::undef::.bool true::.bool true::undef::undef::undef::undef::undef::undef::undef::undef::undef::undef::undef::.bool true::.bool true::undef::undef::undef::undef::undef::undef::undef::undef::undef::undef::undef::undef::.bool true::[])) u:=by
  intro u G;refine Q0 ?_;exact hQ _ G
 refine J6 (lz:=(lm 68 1073741823)) (fuel':=38) 68 rG [(0,17,A),(1,18,i6 (k:Int)),(2,19,pt g1 oa),(3,20,pt g1 oa),(4,21,i6 x0),(5,22,B),(6,23,i6 (k:Int)),(7,24,pt g2 ob),(8,25,pt g2 ob),(9,26,i6 z0),(10,27,.bool true),(11,28,.bool true),(12,29,undef),(13,30,undef),(14,31,undef),(15,32,undef),(16,33,undef),(17,34,undef),(18,35,undef),(19,36,undef),(20,37,undef),(21,38,undef),(22,39,undef),(23,40,undef),(24,41,undef),(25,42,.bool true),(26,43,.bool true),(27,44,undef),(28,45,undef),(29,46,undef)] h0 (bd w) ⟨A9 rfl e0_,A9 rfl e5_,I2 rfl rfl rfl (fun w=>hI1 w),A7 rfl,D5 rfl (fun w' hw=>(hw.cell (p:=⟨g1,oa,none⟩) hg1).trans cx0),A9 rfl e1_,A9 rfl e5_,I2 rfl rfl rfl (fun w=>hI2 w),A7 rfl,D5 rfl (fun w' hw=>(hw.cell (p:=⟨g2,ob,none⟩) hg2).trans cz0),W5 rfl hn0,A9 rfl,B9,B9,B9,B9,B9,B9,B9,B9,B9,B9,B9,B9,B9,I5 rfl,A9 rfl,B9,B9,B9,trivial⟩ ?_;refine Ai7 (lz:=(lm 68 1152921504606846975)) (fuel':=8) rG [(30,47,undef),(31,48,undef),(32,49,undef),(33,50,undef),(34,51,undef),(35,52,undef),(36,53,undef),(37,54,undef),(38,55,undef),(39,56,undef),(40,57,.bool true),(41,58,.bool true),(42,59,undef),(43,60,undef),(44,61,undef),(45,62,undef),(46,63,undef),(47,64,undef),(48,65,undef),(49,66,undef),(50,67,undef),(51,68,undef),(52,69,undef),(53,70,.bool true),(54,71,.bool true),(55,72,undef),(56,73,undef),(57,74,undef),(58,75,undef),(59,76,undef)] (bd w) ⟨B9,B9,B9,B9,B9,B9,B9,B9,B9,B9,I5 rfl,A9 rfl,B9,B9,B9,B9,B9,B9,B9,B9,B9,B9,B9,I5 rfl,A9 rfl,B9,B9,B9,B9,B9,trivial⟩ ?_;exact Ai7 rG [(60,77,undef),(61,78,undef),(62,79,undef),(63,80,undef),(64,81,undef),(65,82,undef),(66,83,undef),(67,84,.bool true)] (bd w) ⟨B9,B9,B9,B9,B9,B9,B9,I5 rfl,trivial⟩ (N0 _  (bd w))
theorem Dx0{A B:Value}{k:Nat}{g1 g2 oa ob n0 m0 c0 d0:Nat}{p0 q0:Option Addr}{x0 z0 x1 z1 x2 z2 x3 z3:Int}{a:Act}{w:World}{Q:Exit→Act→World→Prop}(hsz:85≤a.tmps.size)
 (e0_:a.tmps.getD 0 undef=A) (e1_:a.tmps.getD 1 undef=B) (e5_:a.tmps.getD 5 undef=.int .i64 (k:Int))
 (hP:∀c a d v w,Q (.panic c) (Act.put a d v) w→Q (.panic c) a w) (hI1:∀w,(Instr.indexAt 44 A (.int .i64 (k:Int))).run Tryz.prog w=.ok (.pointer (some ⟨g1,oa,none⟩)) w) (hI2:∀w,(Instr.indexAt 44 B (.int .i64 (k:Int))).run Tryz.prog w=.ok (.pointer (some ⟨g2,ob,none⟩)) w)
 (hg1:g1<w.heap.size) (hg2:g2<w.heap.size) (cx0:w.cell? ⟨g1,oa,none⟩=some (.int .i64 x0)) (cz0:w.cell? ⟨g2,ob,none⟩=some (.int .i64 z0)) (cx1:w.cell? ⟨g1,oa+1,none⟩=some (.int .i64 x1)) (cz1:w.cell? ⟨g2,ob+1,none⟩=some (.int .i64 z1)) (cx2:w.cell? ⟨g1,oa+2,none⟩=some (.int .i64 x2)) (cz2:w.cell? ⟨g2,ob+2,none⟩=some (.int .i64 z2)) (cx3:w.cell? ⟨g1,oa+3,none⟩=some (.int .i64 x3)) (cz3:w.cell? ⟨g2,ob+3,none⟩=some (.int .i64 z3))
 (cxb:w.cell? ⟨g1,oa+4,none⟩=some (.slice p0 n0 c0)) (czb:w.cell? ⟨g2,ob+4,none⟩=some (.slice q0 m0 d0)) (hn0:(x0 != z0)=false) (hn1:(x1 != z1)=true)
 (hQ:∀{y17 y18 y19 y20 y21 y22 y23 y24 y25 y26 y27 y28 y29 y30 y31 y32 y33 y34 y35 y36 y37 y38 y39 y40 y41 y42 y43 y44 y45 y46 y47 y48 y49 y50 y51 y52 y53 y54 y55 y56 y57 y58 y59 y60 y61 y62 y63 y64 y65 y66 y67 y68 y69 y70 y71 y72 y73 y74 y75 y76 y77 y78 y79 y80 y81 y82 y83} w',Below w.heap.size w w'→Q .normal (C4 a S7 (y17::y18::y19::y20::y21::y22::y23::y24::y25::y26::y27::y28::y29::y30::y31::y32::y33::y34::y35::y36::y37::y38::y39::y40::y41::y42::y43::y44::y45::y46::y47::y48::y49::y50::y51::y52::y53::y54::y55::y56::y57::y58::y59::y60::y61::y62::y63::y64::y65::y66::y67::y68::y69::y70::y71::y72::y73::y74::y75::y76::y77::y78::y79::y80::y81::y82::y83::.bool true::[])) w'):
 (Code.region 6 Ap8.1 true).wp Tryz.prog Q a w:=by
 have rG:Rgn Ap8.1 S7 a Q:=⟨fun k hk=>Nat.lt_of_lt_of_le ((by decide:∀k∈S7,k<85) k hk) hsz,by kernel_rfl,hP⟩;have hb:=rG.b;obtain⟨i,h0⟩:=R7 a S7;let S:World→Prop:=fun w'=>Below w.heap.size w w';refine wp_region_held_drew (S:=S) (by kernel_rfl) (bd w) fun hHeld=>?_;have N0:∀(u:World) (G:Below w.heap.size w u),wpAnyH Tryz.prog .any Ap8.1 Q S 0 (lm 68 295147905179352825855) (C4 a S7 (A::i6 (k:Int)::pt g1 oa::pt g1 oa::i6 x0::B::i6 (k:Int)::pt g2 ob::pt g2 ob::i6 z0::.bool false::.bool false::A::i6 (k:Int)::pt g1 oa::pt g1 (oa+1)::pt g1 (oa+1)::i6 x1::B::i6 (k:Int)::pt g2 ob::pt g2 (ob+1)::pt g2 (ob+1)::i6 z1::.bool true::.bool true::.bool true::undef::undef::undef::undef::undef::undef::undef::undef::undef::undef::undef::undef::undef::.bool true::.bool true::undef::undef::undef::undef::undef::undef::undef::undef::undef::undef::undef::.bool true::.bool true::undef::undef::undef::undef::undef::undef::undef::undef::undef::undef::undef::undef::.bool true::[])) u:=by
  intro u G;refine Q0 ?_;exact hQ _ G
 refine J6 (lz:=(lm 68 1073741823)) (fuel':=38) 68 rG [(0,17,A),(1,18,i6 (k:Int)),(2,19,pt g1 oa),(3,20,pt g1 oa),(4,21,i6 x0),(5,22,B),(6,23,i6 (k:Int)),(7,24,pt g2 ob),(8,25,pt g2 ob),(9,26,i6 z0),(10,27,.bool false),(11,28,.bool false),(12,29,A),(13,30,i6 (k:Int)),(14,31,pt g1 oa),(15,32,pt g1 (oa+1)),(16,33,pt g1 (oa+1)),(17,34,i6 x1),(18,35,B),(19,36,i6 (k:Int)),(20,37,pt g2 ob),(21,38,pt g2 (ob+1)),(22,39,pt g2 (ob+1)),(23,40,i6 z1),(24,41,.bool true),(25,42,.bool true),(26,43,.bool true),(27,44,undef),(28,45,undef),(29,46,undef)] h0 (bd w) ⟨A9 rfl e0_,A9 rfl e5_,I2 rfl rfl rfl (fun w=>hI1 w),A7 rfl,D5 rfl (fun w' hw=>(hw.cell (p:=⟨g1,oa,none⟩) hg1).trans cx0),A9 rfl e1_,A9 rfl e5_,I2 rfl rfl rfl (fun w=>hI2 w),A7 rfl,D5 rfl (fun w' hw=>(hw.cell (p:=⟨g2,ob,none⟩) hg2).trans cz0),W5 rfl hn0,A9 rfl,A9 rfl e0_,A9 rfl e5_,I2 rfl rfl rfl (fun w=>hI1 w),A7 rfl,I2 rfl,D5 rfl (fun w' hw=>(hw.cell (p:=⟨g1,oa+1,none⟩) hg1).trans cx1),A9 rfl e1_,A9 rfl e5_,I2 rfl rfl rfl (fun w=>hI2 w),A7 rfl,I2 rfl,D5 rfl (fun w' hw=>(hw.cell (p:=⟨g2,ob+1,none⟩) hg2).trans cz1),W5 rfl hn1,I5 rfl,A9 rfl,B9,B9,B9,trivial⟩ ?_;refine Ai7 (lz:=(lm 68 1152921504606846975)) (fuel':=8) rG [(30,47,undef),(31,48,undef),(32,49,undef),(33,50,undef),(34,51,undef),(35,52,undef),(36,53,undef),(37,54,undef),(38,55,undef),(39,56,undef),(40,57,.bool true),(41,58,.bool true),(42,59,undef),(43,60,undef),(44,61,undef),(45,62,undef),(46,63,undef),(47,64,undef),(48,65,undef),(49,66,undef),(50,67,undef),(51,68,undef),(52,69,undef),(53,70,.bool true),(54,71,.bool true),(55,72,undef),(56,73,undef),(57,74,undef),(58,75,undef),(59,76,undef)] (bd w) ⟨B9,B9,B9,B9,B9,B9,B9,B9,B9,B9,I5 rfl,A9 rfl,B9,B9,B9,B9,B9,B9,B9,B9,B9,B9,B9,I5 rfl,A9 rfl,B9,B9,B9,B9,B9,trivial⟩ ?_;exact Ai7 rG [(60,77,undef),(61,78,undef),(62,79,undef),(63,80,undef),(64,81,undef),(65,82,undef),(66,83,undef),(67,84,.bool true)] (bd w) ⟨B9,B9,B9,B9,B9,B9,B9,I5 rfl,trivial⟩ (N0 _  (bd w))
theorem Dx1{A B:Value}{k:Nat}{g1 g2 oa ob n0 m0 c0 d0:Nat}{p0 q0:Option Addr}{x0 z0 x1 z1 x2 z2 x3 z3:Int}{a:Act}{w:World}{Q:Exit→Act→World→Prop}(hsz:85≤a.tmps.size)
 (e0_:a.tmps.getD 0 undef=A) (e1_:a.tmps.getD 1 undef=B) (e5_:a.tmps.getD 5 undef=.int .i64 (k:Int))
 (hP:∀c a d v w,Q (.panic c) (Act.put a d v) w→Q (.panic c) a w) (hI1:∀w,(Instr.indexAt 44 A (.int .i64 (k:Int))).run Tryz.prog w=.ok (.pointer (some ⟨g1,oa,none⟩)) w) (hI2:∀w,(Instr.indexAt 44 B (.int .i64 (k:Int))).run Tryz.prog w=.ok (.pointer (some ⟨g2,ob,none⟩)) w)
 (hg1:g1<w.heap.size) (hg2:g2<w.heap.size) (cx0:w.cell? ⟨g1,oa,none⟩=some (.int .i64 x0)) (cz0:w.cell? ⟨g2,ob,none⟩=some (.int .i64 z0)) (cx1:w.cell? ⟨g1,oa+1,none⟩=some (.int .i64 x1)) (cz1:w.cell? ⟨g2,ob+1,none⟩=some (.int .i64 z1)) (cx2:w.cell? ⟨g1,oa+2,none⟩=some (.int .i64 x2)) (cz2:w.cell? ⟨g2,ob+2,none⟩=some (.int .i64 z2)) (cx3:w.cell? ⟨g1,oa+3,none⟩=some (.int .i64 x3)) (cz3:w.cell? ⟨g2,ob+3,none⟩=some (.int .i64 z3))
 (cxb:w.cell? ⟨g1,oa+4,none⟩=some (.slice p0 n0 c0)) (czb:w.cell? ⟨g2,ob+4,none⟩=some (.slice q0 m0 d0)) (hn0:(x0 != z0)=false) (hn1:(x1 != z1)=false) (hn2:(x2 != z2)=true)
 (hQ:∀{y17 y18 y19 y20 y21 y22 y23 y24 y25 y26 y27 y28 y29 y30 y31 y32 y33 y34 y35 y36 y37 y38 y39 y40 y41 y42 y43 y44 y45 y46 y47 y48 y49 y50 y51 y52 y53 y54 y55 y56 y57 y58 y59 y60 y61 y62 y63 y64 y65 y66 y67 y68 y69 y70 y71 y72 y73 y74 y75 y76 y77 y78 y79 y80 y81 y82 y83} w',Below w.heap.size w w'→Q .normal (C4 a S7 (y17::y18::y19::y20::y21::y22::y23::y24::y25::y26::y27::y28::y29::y30::y31::y32::y33::y34::y35::y36::y37::y38::y39::y40::y41::y42::y43::y44::y45::y46::y47::y48::y49::y50::y51::y52::y53::y54::y55::y56::y57::y58::y59::y60::y61::y62::y63::y64::y65::y66::y67::y68::y69::y70::y71::y72::y73::y74::y75::y76::y77::y78::y79::y80::y81::y82::y83::.bool true::[])) w'):
 (Code.region 6 Ap8.1 true).wp Tryz.prog Q a w:=by
 have rG:Rgn Ap8.1 S7 a Q:=⟨fun k hk=>Nat.lt_of_lt_of_le ((by decide:∀k∈S7,k<85) k hk) hsz,by kernel_rfl,hP⟩;have hb:=rG.b;obtain⟨i,h0⟩:=R7 a S7;let S:World→Prop:=fun w'=>Below w.heap.size w w';refine wp_region_held_drew (S:=S) (by kernel_rfl) (bd w) fun hHeld=>?_;have N0:∀(u:World) (G:Below w.heap.size w u),wpAnyH Tryz.prog .any Ap8.1 Q S 0 (lm 68 295147905179352825855) (C4 a S7 (A::i6 (k:Int)::pt g1 oa::pt g1 oa::i6 x0::B::i6 (k:Int)::pt g2 ob::pt g2 ob::i6 z0::.bool false::.bool false::A::i6 (k:Int)::pt g1 oa::pt g1 (oa+1)::pt g1 (oa+1)::i6 x1::B::i6 (k:Int)::pt g2 ob::pt g2 (ob+1)::pt g2 (ob+1)::i6 z1::.bool false::.bool false::.bool false::A::i6 (k:Int)::pt g1 oa::pt g1 (oa+1)::pt g1 (oa+2)::i6 x2::B::i6 (k:Int)::pt g2 ob::pt g2 (ob+1)::pt g2 (ob+2)::i6 z2::.bool true::.bool true::.bool true::undef::undef::undef::undef::undef::undef::undef::undef::undef::undef::undef::.bool true::.bool true::undef::undef::undef::undef::undef::undef::undef::undef::undef::undef::undef::undef::.bool true::[])) u:=by
  intro u G;refine Q0 ?_;exact hQ _ G
 refine J6 (lz:=(lm 68 1073741823)) (fuel':=38) 68 rG [(0,17,A),(1,18,i6 (k:Int)),(2,19,pt g1 oa),(3,20,pt g1 oa),(4,21,i6 x0),(5,22,B),(6,23,i6 (k:Int)),(7,24,pt g2 ob),(8,25,pt g2 ob),(9,26,i6 z0),(10,27,.bool false),(11,28,.bool false),(12,29,A),(13,30,i6 (k:Int)),(14,31,pt g1 oa),(15,32,pt g1 (oa+1)),(16,33,pt g1 (oa+1)),(17,34,i6 x1),(18,35,B),(19,36,i6 (k:Int)),(20,37,pt g2 ob),(21,38,pt g2 (ob+1)),(22,39,pt g2 (ob+1)),(23,40,i6 z1),(24,41,.bool false),(25,42,.bool false),(26,43,.bool false),(27,44,A),(28,45,i6 (k:Int)),(29,46,pt g1 oa)] h0 (bd w) ⟨A9 rfl e0_,A9 rfl e5_,I2 rfl rfl rfl (fun w=>hI1 w),A7 rfl,D5 rfl (fun w' hw=>(hw.cell (p:=⟨g1,oa,none⟩) hg1).trans cx0),A9 rfl e1_,A9 rfl e5_,I2 rfl rfl rfl (fun w=>hI2 w),A7 rfl,D5 rfl (fun w' hw=>(hw.cell (p:=⟨g2,ob,none⟩) hg2).trans cz0),W5 rfl hn0,A9 rfl,A9 rfl e0_,A9 rfl e5_,I2 rfl rfl rfl (fun w=>hI1 w),A7 rfl,I2 rfl,D5 rfl (fun w' hw=>(hw.cell (p:=⟨g1,oa+1,none⟩) hg1).trans cx1),A9 rfl e1_,A9 rfl e5_,I2 rfl rfl rfl (fun w=>hI2 w),A7 rfl,I2 rfl,D5 rfl (fun w' hw=>(hw.cell (p:=⟨g2,ob+1,none⟩) hg2).trans cz1),W5 rfl hn1,I5 rfl,A9 rfl,A9 rfl e0_,A9 rfl e5_,I2 rfl rfl rfl (fun w=>hI1 w),trivial⟩ ?_;refine Ai7 (lz:=(lm 68 1152921504606846975)) (fuel':=8) rG [(30,47,pt g1 (oa+1)),(31,48,pt g1 (oa+2)),(32,49,i6 x2),(33,50,B),(34,51,i6 (k:Int)),(35,52,pt g2 ob),(36,53,pt g2 (ob+1)),(37,54,pt g2 (ob+2)),(38,55,i6 z2),(39,56,.bool true),(40,57,.bool true),(41,58,.bool true),(42,59,undef),(43,60,undef),(44,61,undef),(45,62,undef),(46,63,undef),(47,64,undef),(48,65,undef),(49,66,undef),(50,67,undef),(51,68,undef),(52,69,undef),(53,70,.bool true),(54,71,.bool true),(55,72,undef),(56,73,undef),(57,74,undef),(58,75,undef),(59,76,undef)] (bd w) ⟨A7 rfl,I2 rfl,D5 rfl (fun w' hw=>(hw.cell (p:=⟨g1,oa+2,none⟩) hg1).trans cx2),A9 rfl e1_,A9 rfl e5_,I2 rfl rfl rfl (fun w=>hI2 w),A7 rfl,I2 rfl,D5 rfl (fun w' hw=>(hw.cell (p:=⟨g2,ob+2,none⟩) hg2).trans cz2),W5 rfl hn2,I5 rfl,A9 rfl,B9,B9,B9,B9,B9,B9,B9,B9,B9,B9,B9,I5 rfl,A9 rfl,B9,B9,B9,B9,B9,trivial⟩ ?_;exact Ai7 rG [(60,77,undef),(61,78,undef),(62,79,undef),(63,80,undef),(64,81,undef),(65,82,undef),(66,83,undef),(67,84,.bool true)] (bd w) ⟨B9,B9,B9,B9,B9,B9,B9,I5 rfl,trivial⟩ (N0 _  (bd w))
theorem Dx2{A B:Value}{k:Nat}{g1 g2 oa ob n0 m0 c0 d0:Nat}{p0 q0:Option Addr}{x0 z0 x1 z1 x2 z2 x3 z3:Int}{a:Act}{w:World}{Q:Exit→Act→World→Prop}(hsz:85≤a.tmps.size)
 (e0_:a.tmps.getD 0 undef=A) (e1_:a.tmps.getD 1 undef=B) (e5_:a.tmps.getD 5 undef=.int .i64 (k:Int))
 (hP:∀c a d v w,Q (.panic c) (Act.put a d v) w→Q (.panic c) a w) (hI1:∀w,(Instr.indexAt 44 A (.int .i64 (k:Int))).run Tryz.prog w=.ok (.pointer (some ⟨g1,oa,none⟩)) w) (hI2:∀w,(Instr.indexAt 44 B (.int .i64 (k:Int))).run Tryz.prog w=.ok (.pointer (some ⟨g2,ob,none⟩)) w)
 (hg1:g1<w.heap.size) (hg2:g2<w.heap.size) (cx0:w.cell? ⟨g1,oa,none⟩=some (.int .i64 x0)) (cz0:w.cell? ⟨g2,ob,none⟩=some (.int .i64 z0)) (cx1:w.cell? ⟨g1,oa+1,none⟩=some (.int .i64 x1)) (cz1:w.cell? ⟨g2,ob+1,none⟩=some (.int .i64 z1)) (cx2:w.cell? ⟨g1,oa+2,none⟩=some (.int .i64 x2)) (cz2:w.cell? ⟨g2,ob+2,none⟩=some (.int .i64 z2)) (cx3:w.cell? ⟨g1,oa+3,none⟩=some (.int .i64 x3)) (cz3:w.cell? ⟨g2,ob+3,none⟩=some (.int .i64 z3))
 (cxb:w.cell? ⟨g1,oa+4,none⟩=some (.slice p0 n0 c0)) (czb:w.cell? ⟨g2,ob+4,none⟩=some (.slice q0 m0 d0)) (hn0:(x0 != z0)=false) (hn1:(x1 != z1)=false) (hn2:(x2 != z2)=false) (hn3:(x3 != z3)=true)
 (hQ:∀{y17 y18 y19 y20 y21 y22 y23 y24 y25 y26 y27 y28 y29 y30 y31 y32 y33 y34 y35 y36 y37 y38 y39 y40 y41 y42 y43 y44 y45 y46 y47 y48 y49 y50 y51 y52 y53 y54 y55 y56 y57 y58 y59 y60 y61 y62 y63 y64 y65 y66 y67 y68 y69 y70 y71 y72 y73 y74 y75 y76 y77 y78 y79 y80 y81 y82 y83} w',Below w.heap.size w w'→Q .normal (C4 a S7 (y17::y18::y19::y20::y21::y22::y23::y24::y25::y26::y27::y28::y29::y30::y31::y32::y33::y34::y35::y36::y37::y38::y39::y40::y41::y42::y43::y44::y45::y46::y47::y48::y49::y50::y51::y52::y53::y54::y55::y56::y57::y58::y59::y60::y61::y62::y63::y64::y65::y66::y67::y68::y69::y70::y71::y72::y73::y74::y75::y76::y77::y78::y79::y80::y81::y82::y83::.bool true::[])) w'):
 (Code.region 6 Ap8.1 true).wp Tryz.prog Q a w:=by
 have rG:Rgn Ap8.1 S7 a Q:=⟨fun k hk=>Nat.lt_of_lt_of_le ((by decide:∀k∈S7,k<85) k hk) hsz,by kernel_rfl,hP⟩;have hb:=rG.b;obtain⟨i,h0⟩:=R7 a S7;let S:World→Prop:=fun w'=>Below w.heap.size w w';refine wp_region_held_drew (S:=S) (by kernel_rfl) (bd w) fun hHeld=>?_;have N0:∀(u:World) (G:Below w.heap.size w u),wpAnyH Tryz.prog .any Ap8.1 Q S 0 (lm 68 295147905179352825855) (C4 a S7 (A::i6 (k:Int)::pt g1 oa::pt g1 oa::i6 x0::B::i6 (k:Int)::pt g2 ob::pt g2 ob::i6 z0::.bool false::.bool false::A::i6 (k:Int)::pt g1 oa::pt g1 (oa+1)::pt g1 (oa+1)::i6 x1::B::i6 (k:Int)::pt g2 ob::pt g2 (ob+1)::pt g2 (ob+1)::i6 z1::.bool false::.bool false::.bool false::A::i6 (k:Int)::pt g1 oa::pt g1 (oa+1)::pt g1 (oa+2)::i6 x2::B::i6 (k:Int)::pt g2 ob::pt g2 (ob+1)::pt g2 (ob+2)::i6 z2::.bool false::.bool false::.bool false::A::i6 (k:Int)::pt g1 oa::pt g1 (oa+3)::i6 x3::B::i6 (k:Int)::pt g2 ob::pt g2 (ob+3)::i6 z3::.bool true::.bool true::.bool true::undef::undef::undef::undef::undef::undef::undef::undef::undef::undef::undef::undef::.bool true::[])) u:=by
  intro u G;refine Q0 ?_;exact hQ _ G
 refine J6 (lz:=(lm 68 1073741823)) (fuel':=38) 68 rG [(0,17,A),(1,18,i6 (k:Int)),(2,19,pt g1 oa),(3,20,pt g1 oa),(4,21,i6 x0),(5,22,B),(6,23,i6 (k:Int)),(7,24,pt g2 ob),(8,25,pt g2 ob),(9,26,i6 z0),(10,27,.bool false),(11,28,.bool false),(12,29,A),(13,30,i6 (k:Int)),(14,31,pt g1 oa),(15,32,pt g1 (oa+1)),(16,33,pt g1 (oa+1)),(17,34,i6 x1),(18,35,B),(19,36,i6 (k:Int)),(20,37,pt g2 ob),(21,38,pt g2 (ob+1)),(22,39,pt g2 (ob+1)),(23,40,i6 z1),(24,41,.bool false),(25,42,.bool false),(26,43,.bool false),(27,44,A),(28,45,i6 (k:Int)),(29,46,pt g1 oa)] h0 (bd w) ⟨A9 rfl e0_,A9 rfl e5_,I2 rfl rfl rfl (fun w=>hI1 w),A7 rfl,D5 rfl (fun w' hw=>(hw.cell (p:=⟨g1,oa,none⟩) hg1).trans cx0),A9 rfl e1_,A9 rfl e5_,I2 rfl rfl rfl (fun w=>hI2 w),A7 rfl,D5 rfl (fun w' hw=>(hw.cell (p:=⟨g2,ob,none⟩) hg2).trans cz0),W5 rfl hn0,A9 rfl,A9 rfl e0_,A9 rfl e5_,I2 rfl rfl rfl (fun w=>hI1 w),A7 rfl,I2 rfl,D5 rfl (fun w' hw=>(hw.cell (p:=⟨g1,oa+1,none⟩) hg1).trans cx1),A9 rfl e1_,A9 rfl e5_,I2 rfl rfl rfl (fun w=>hI2 w),A7 rfl,I2 rfl,D5 rfl (fun w' hw=>(hw.cell (p:=⟨g2,ob+1,none⟩) hg2).trans cz1),W5 rfl hn1,I5 rfl,A9 rfl,A9 rfl e0_,A9 rfl e5_,I2 rfl rfl rfl (fun w=>hI1 w),trivial⟩ ?_;refine Ai7 (lz:=(lm 68 1152921504606846975)) (fuel':=8) rG [(30,47,pt g1 (oa+1)),(31,48,pt g1 (oa+2)),(32,49,i6 x2),(33,50,B),(34,51,i6 (k:Int)),(35,52,pt g2 ob),(36,53,pt g2 (ob+1)),(37,54,pt g2 (ob+2)),(38,55,i6 z2),(39,56,.bool false),(40,57,.bool false),(41,58,.bool false),(42,59,A),(43,60,i6 (k:Int)),(44,61,pt g1 oa),(45,62,pt g1 (oa+3)),(46,63,i6 x3),(47,64,B),(48,65,i6 (k:Int)),(49,66,pt g2 ob),(50,67,pt g2 (ob+3)),(51,68,i6 z3),(52,69,.bool true),(53,70,.bool true),(54,71,.bool true),(55,72,undef),(56,73,undef),(57,74,undef),(58,75,undef),(59,76,undef)] (bd w) ⟨A7 rfl,I2 rfl,D5 rfl (fun w' hw=>(hw.cell (p:=⟨g1,oa+2,none⟩) hg1).trans cx2),A9 rfl e1_,A9 rfl e5_,I2 rfl rfl rfl (fun w=>hI2 w),A7 rfl,I2 rfl,D5 rfl (fun w' hw=>(hw.cell (p:=⟨g2,ob+2,none⟩) hg2).trans cz2),W5 rfl hn2,I5 rfl,A9 rfl,A9 rfl e0_,A9 rfl e5_,I2 rfl rfl rfl (fun w=>hI1 w),A7 rfl,D5 rfl (fun w' hw=>(hw.cell (p:=⟨g1,oa+3,none⟩) hg1).trans cx3),A9 rfl e1_,A9 rfl e5_,I2 rfl rfl rfl (fun w=>hI2 w),A7 rfl,D5 rfl (fun w' hw=>(hw.cell (p:=⟨g2,ob+3,none⟩) hg2).trans cz3),W5 rfl hn3,I5 rfl,A9 rfl,B9,B9,B9,B9,B9,trivial⟩ ?_;exact Ai7 rG [(60,77,undef),(61,78,undef),(62,79,undef),(63,80,undef),(64,81,undef),(65,82,undef),(66,83,undef),(67,84,.bool true)] (bd w) ⟨B9,B9,B9,B9,B9,B9,B9,I5 rfl,trivial⟩ (N0 _  (bd w))
theorem Dx3{A B:Value}{k:Nat}{g1 g2 oa ob n0 m0 c0 d0:Nat}{p0 q0:Option Addr}{x0 z0 x1 z1 x2 z2 x3 z3:Int}{r:Bool}{a:Act}{w:World}{Q:Exit→Act→World→Prop}(hsz:85≤a.tmps.size)
 (e0_:a.tmps.getD 0 undef=A) (e1_:a.tmps.getD 1 undef=B) (e5_:a.tmps.getD 5 undef=.int .i64 (k:Int))
 (hP:∀c a d v w,Q (.panic c) (Act.put a d v) w→Q (.panic c) a w) (hI1:∀w,(Instr.indexAt 44 A (.int .i64 (k:Int))).run Tryz.prog w=.ok (.pointer (some ⟨g1,oa,none⟩)) w) (hI2:∀w,(Instr.indexAt 44 B (.int .i64 (k:Int))).run Tryz.prog w=.ok (.pointer (some ⟨g2,ob,none⟩)) w)
 (hg1:g1<w.heap.size) (hg2:g2<w.heap.size) (cx0:w.cell? ⟨g1,oa,none⟩=some (.int .i64 x0)) (cz0:w.cell? ⟨g2,ob,none⟩=some (.int .i64 z0)) (cx1:w.cell? ⟨g1,oa+1,none⟩=some (.int .i64 x1)) (cz1:w.cell? ⟨g2,ob+1,none⟩=some (.int .i64 z1)) (cx2:w.cell? ⟨g1,oa+2,none⟩=some (.int .i64 x2)) (cz2:w.cell? ⟨g2,ob+2,none⟩=some (.int .i64 z2)) (cx3:w.cell? ⟨g1,oa+3,none⟩=some (.int .i64 x3)) (cz3:w.cell? ⟨g2,ob+3,none⟩=some (.int .i64 z3))
 (cxb:w.cell? ⟨g1,oa+4,none⟩=some (.slice p0 n0 c0)) (czb:w.cell? ⟨g2,ob+4,none⟩=some (.slice q0 m0 d0)) (hn0:(x0 != z0)=false) (hn1:(x1 != z1)=false) (hn2:(x2 != z2)=false) (hn3:(x3 != z3)=false) (KA:∀W,Below w.heap.size w W→Calls Tryz.prog 25 #[.slice p0 n0 c0,.slice q0 m0 d0] W fun e w'=>e=.returned (.bool r)∧W=w')
 (hQ:∀{y17 y18 y19 y20 y21 y22 y23 y24 y25 y26 y27 y28 y29 y30 y31 y32 y33 y34 y35 y36 y37 y38 y39 y40 y41 y42 y43 y44 y45 y46 y47 y48 y49 y50 y51 y52 y53 y54 y55 y56 y57 y58 y59 y60 y61 y62 y63 y64 y65 y66 y67 y68 y69 y70 y71 y72 y73 y74 y75 y76 y77 y78 y79 y80 y81 y82 y83} w',Below w.heap.size w w'→Q .normal (C4 a S7 (y17::y18::y19::y20::y21::y22::y23::y24::y25::y26::y27::y28::y29::y30::y31::y32::y33::y34::y35::y36::y37::y38::y39::y40::y41::y42::y43::y44::y45::y46::y47::y48::y49::y50::y51::y52::y53::y54::y55::y56::y57::y58::y59::y60::y61::y62::y63::y64::y65::y66::y67::y68::y69::y70::y71::y72::y73::y74::y75::y76::y77::y78::y79::y80::y81::y82::y83::.bool (!r)::[])) w'):
 (Code.region 6 Ap8.1 true).wp Tryz.prog Q a w:=by
 have rG:Rgn Ap8.1 S7 a Q:=⟨fun k hk=>Nat.lt_of_lt_of_le ((by decide:∀k∈S7,k<85) k hk) hsz,by kernel_rfl,hP⟩;have hb:=rG.b;obtain⟨i,h0⟩:=R7 a S7;let S:World→Prop:=fun w'=>Below w.heap.size w w';refine wp_region_held_drew (S:=S) (by kernel_rfl) (bd w) fun hHeld=>?_;have N65:∀(u:World) (G:Below w.heap.size w u),wpAnyH Tryz.prog .any Ap8.1 Q S 0 (lm 68 295147905179352825855) (C4 a S7 (A::i6 (k:Int)::pt g1 oa::pt g1 oa::i6 x0::B::i6 (k:Int)::pt g2 ob::pt g2 ob::i6 z0::.bool false::.bool false::A::i6 (k:Int)::pt g1 oa::pt g1 (oa+1)::pt g1 (oa+1)::i6 x1::B::i6 (k:Int)::pt g2 ob::pt g2 (ob+1)::pt g2 (ob+1)::i6 z1::.bool false::.bool false::.bool false::A::i6 (k:Int)::pt g1 oa::pt g1 (oa+1)::pt g1 (oa+2)::i6 x2::B::i6 (k:Int)::pt g2 ob::pt g2 (ob+1)::pt g2 (ob+2)::i6 z2::.bool false::.bool false::.bool false::A::i6 (k:Int)::pt g1 oa::pt g1 (oa+3)::i6 x3::B::i6 (k:Int)::pt g2 ob::pt g2 (ob+3)::i6 z3::.bool false::.bool false::.bool false::A::i6 (k:Int)::pt g1 oa::pt g1 (oa+4)::.slice p0 n0 c0::B::i6 (k:Int)::pt g2 ob::pt g2 (ob+4)::.slice q0 m0 d0::.bool r::.bool (!r)::.bool (!r)::[])) u:=by
  intro u G;refine Q0 ?_;exact hQ _ G
 have N0:∀(u:World) (G:Below w.heap.size w u),wpAnyH Tryz.prog .any Ap8.1 Q S 3 (lm 68 36893488147419103231) (C4 a S7 (A::i6 (k:Int)::pt g1 oa::pt g1 oa::i6 x0::B::i6 (k:Int)::pt g2 ob::pt g2 ob::i6 z0::.bool false::.bool false::A::i6 (k:Int)::pt g1 oa::pt g1 (oa+1)::pt g1 (oa+1)::i6 x1::B::i6 (k:Int)::pt g2 ob::pt g2 (ob+1)::pt g2 (ob+1)::i6 z1::.bool false::.bool false::.bool false::A::i6 (k:Int)::pt g1 oa::pt g1 (oa+1)::pt g1 (oa+2)::i6 x2::B::i6 (k:Int)::pt g2 ob::pt g2 (ob+1)::pt g2 (ob+2)::i6 z2::.bool false::.bool false::.bool false::A::i6 (k:Int)::pt g1 oa::pt g1 (oa+3)::i6 x3::B::i6 (k:Int)::pt g2 ob::pt g2 (ob+3)::i6 z3::.bool false::.bool false::.bool false::A::i6 (k:Int)::pt g1 oa::pt g1 (oa+4)::.slice p0 n0 c0::B::i6 (k:Int)::pt g2 ob::pt g2 (ob+4)::.slice q0 m0 d0::i 82::i 83::i 84::[])) u:=by
  intro u G;refine D6 [65] (D0 rG Ek6 ?_ AllReadyH.nil);intro o hp hd;refine J7 hp (rG.ev2 (.slice p0 n0 c0) (.slice q0 m0 d0)) (KA _ G) ?_;rintro e u65 ⟨rfl,rfl⟩;refine⟨_,rfl,?_⟩;exact F6 rG [(66,83,.bool (!r)),(67,84,.bool (!r))] hd G ⟨Dw6 rfl rfl,I5 rfl,trivial⟩ (N65 _  G)
 refine J6 (lz:=(lm 68 1073741823)) (fuel':=38) 68 rG [(0,17,A),(1,18,i6 (k:Int)),(2,19,pt g1 oa),(3,20,pt g1 oa),(4,21,i6 x0),(5,22,B),(6,23,i6 (k:Int)),(7,24,pt g2 ob),(8,25,pt g2 ob),(9,26,i6 z0),(10,27,.bool false),(11,28,.bool false),(12,29,A),(13,30,i6 (k:Int)),(14,31,pt g1 oa),(15,32,pt g1 (oa+1)),(16,33,pt g1 (oa+1)),(17,34,i6 x1),(18,35,B),(19,36,i6 (k:Int)),(20,37,pt g2 ob),(21,38,pt g2 (ob+1)),(22,39,pt g2 (ob+1)),(23,40,i6 z1),(24,41,.bool false),(25,42,.bool false),(26,43,.bool false),(27,44,A),(28,45,i6 (k:Int)),(29,46,pt g1 oa)] h0 (bd w) ⟨A9 rfl e0_,A9 rfl e5_,I2 rfl rfl rfl (fun w=>hI1 w),A7 rfl,D5 rfl (fun w' hw=>(hw.cell (p:=⟨g1,oa,none⟩) hg1).trans cx0),A9 rfl e1_,A9 rfl e5_,I2 rfl rfl rfl (fun w=>hI2 w),A7 rfl,D5 rfl (fun w' hw=>(hw.cell (p:=⟨g2,ob,none⟩) hg2).trans cz0),W5 rfl hn0,A9 rfl,A9 rfl e0_,A9 rfl e5_,I2 rfl rfl rfl (fun w=>hI1 w),A7 rfl,I2 rfl,D5 rfl (fun w' hw=>(hw.cell (p:=⟨g1,oa+1,none⟩) hg1).trans cx1),A9 rfl e1_,A9 rfl e5_,I2 rfl rfl rfl (fun w=>hI2 w),A7 rfl,I2 rfl,D5 rfl (fun w' hw=>(hw.cell (p:=⟨g2,ob+1,none⟩) hg2).trans cz1),W5 rfl hn1,I5 rfl,A9 rfl,A9 rfl e0_,A9 rfl e5_,I2 rfl rfl rfl (fun w=>hI1 w),trivial⟩ ?_;refine Ai7 (lz:=(lm 68 1152921504606846975)) (fuel':=8) rG [(30,47,pt g1 (oa+1)),(31,48,pt g1 (oa+2)),(32,49,i6 x2),(33,50,B),(34,51,i6 (k:Int)),(35,52,pt g2 ob),(36,53,pt g2 (ob+1)),(37,54,pt g2 (ob+2)),(38,55,i6 z2),(39,56,.bool false),(40,57,.bool false),(41,58,.bool false),(42,59,A),(43,60,i6 (k:Int)),(44,61,pt g1 oa),(45,62,pt g1 (oa+3)),(46,63,i6 x3),(47,64,B),(48,65,i6 (k:Int)),(49,66,pt g2 ob),(50,67,pt g2 (ob+3)),(51,68,i6 z3),(52,69,.bool false),(53,70,.bool false),(54,71,.bool false),(55,72,A),(56,73,i6 (k:Int)),(57,74,pt g1 oa),(58,75,pt g1 (oa+4)),(59,76,.slice p0 n0 c0)] (bd w) ⟨A7 rfl,I2 rfl,D5 rfl (fun w' hw=>(hw.cell (p:=⟨g1,oa+2,none⟩) hg1).trans cx2),A9 rfl e1_,A9 rfl e5_,I2 rfl rfl rfl (fun w=>hI2 w),A7 rfl,I2 rfl,D5 rfl (fun w' hw=>(hw.cell (p:=⟨g2,ob+2,none⟩) hg2).trans cz2),W5 rfl hn2,I5 rfl,A9 rfl,A9 rfl e0_,A9 rfl e5_,I2 rfl rfl rfl (fun w=>hI1 w),A7 rfl,D5 rfl (fun w' hw=>(hw.cell (p:=⟨g1,oa+3,none⟩) hg1).trans cx3),A9 rfl e1_,A9 rfl e5_,I2 rfl rfl rfl (fun w=>hI2 w),A7 rfl,D5 rfl (fun w' hw=>(hw.cell (p:=⟨g2,ob+3,none⟩) hg2).trans cz3),W5 rfl hn3,I5 rfl,A9 rfl,A9 rfl e0_,A9 rfl e5_,I2 rfl rfl rfl (fun w=>hI1 w),A7 rfl,D5 rfl (fun w' hw=>(hw.cell (p:=⟨g1,oa+4,none⟩) hg1).trans cxb),trivial⟩ ?_;exact Ai7 rG [(60,77,B),(61,78,i6 (k:Int)),(62,79,pt g2 ob),(63,80,pt g2 (ob+4)),(64,81,.slice q0 m0 d0)] (bd w) ⟨A9 rfl e1_,A9 rfl e5_,I2 rfl rfl rfl (fun w=>hI2 w),A7 rfl,D5 rfl (fun w' hw=>(hw.cell (p:=⟨g2,ob+4,none⟩) hg2).trans czb),trivial⟩ (N0 _  (bd w))
theorem Dx4(w:World):(sizeOf 103).run Tryz.prog w=.ok 5 w:=by kernel_rfl
theorem Ce6:Tryz.prog.elem 44=103:=by simp[Program.elem,Tryz.underlying44]
theorem X7(g off n c j:Nat)(hj:j<n)(w:World):(Instr.indexAt 44 (.slice (some ⟨g,off,none⟩) n c) (.int .i64 (j:Int))).run Tryz.prog w=.ok (.pointer (some ⟨g,off+j*5,none⟩)) w:=by
 rw[run_indexAt_slice (h:=by rw[Ce6];exact Tryz.underlying44),if_pos (by omega),Ce6,Dx4,Result.andThen_ok,Int.toNat_natCast,Addr.add_mid]
theorem Cf7(a b:Option Addr)(c d:Nat)(es es2:List Gt)(w:World)(h1:es.length≤100000)(h2:es2.length≤100000)(hE:Ac6 w a es)(hE2:Ac6 w b es2):
 Calls Tryz.prog 75 #[.slice a es.length c,.slice b es2.length d] w (D9 w (decide (es=es2))):=by
 have HE:=Lh hE;have HE2:=Lh hE2;have HQ:=Lh (fun h h'=>Aw9 (z:=default) (l:=es) (m:=es2) h h');obtain⟨R,hR⟩:∃R,R=decide (es=es2):=⟨_,rfl⟩;have HR:=Lh hR;rw[←hR];clear hE hE2 hR;by_cases hl:es.length=es2.length;rotate_left
 ·have hRf:R=false:=by rw[HR.out,decide_eq_false];intro h;exact hl (by rw[h])
  have hd:((es.length:Int) != (es2.length:Int))=true:=by rw[bne_iff_ne];omega
  subst hRf;clear HQ hl;go_enter Tryz.func75,Tryz.ntmps75
  go_wp2_with fail
  go_ret;exact⟨rfl,Below.refl _ _⟩
 have hdl:((es.length:Int) != (es2.length:Int))=false:=by simp[hl]
 have Hl:=Lh hl;clear hl;go_enter Tryz.func75,Tryz.ntmps75
 go_wp2_with fail
 go_loopw [5] (fun v wr=>∃k:Nat,k≤es.length∧v=.int .i64 (k:Int)∧(∀j,j<k→es.getD j default=es2.getD j default)∧Below w.heap.size w wr) (fun v _=>es.length-(intOf v).toNat)
 case atStart=>exact⟨0,Nat.zero_le _,rfl,fun j hj=>absurd hj (by omega),Below.refl _ _⟩
 case round=>
  obtain⟨k,hk,rfl,hno,hG⟩:=hrel;have Hno:=Lh hno;have G:=Lh hG;clear hno hG;by_cases hlt:k<es.length
  ·have hlt2:k<es2.length:=by have:=Hl.out;omega
   obtain⟨g1,o1,rfl,hg1,hcs1⟩:=(HE.out.mono G.out).cell (by omega);obtain⟨g2,o2,rfl,hg2,hcs2⟩:=(HE2.out.mono G.out).cell (by omega);obtain⟨p0,c0,x0,x1,x2,x3,x4,l0,m0,b0⟩:=hcs1 k hlt;obtain⟨q0,d0,z0,z1,z2,z3,z4,s0,t0,u0⟩:=hcs2 k hlt2;obtain⟨e1,he1⟩:∃e,e=es.getD k default:=⟨_,rfl⟩;obtain⟨e2,he2⟩:∃e,e=es2.getD k default:=⟨_,rfl⟩;rw[←he1] at x0 x1 x2 x3 x4 b0;rw[←he2] at z0 z1 z2 z3 z4 u0;have KA:=fun(W':World) (h:Below wr.heap.size wr W')=>(show Calls Tryz.prog 25 #[.slice p0 e1.b.length c0,.slice q0 e2.b.length d0] W' fun e w'=>e=.returned (.bool (e1.b==e2.b))∧W'=w' from Ae0 p0 q0 e1.b.length c0 e2.b.length d0 e1.b e2.b W' rfl rfl (b0.mono h) (u0.mono h));have HF:=Lh (show Ag0 e1 e2=true↔e1=e2 from By4);have HN:=Lh (show Ag0 e1 e2=false→R=false from fun hs=>by
    rw[HR.out,decide_eq_false];intro h;rw[HF.out.2 (by rw[he1,he2,h])] at hs;cases hs)
   have hi1:(k:Int)<(es.length:Int):=by omega
   have hi0:(0:Int)≤(k:Int):=by omega
   have He1:=Lh he1;have He2:=Lh he2;have HX:=Lh (show Ag0 e1 e2=((e1.kind==e2.kind)&&((e1.e0==e2.e0)&&((e1.e1==e2.e1)&&((e1.seq==e2.seq)&&(e1.b==e2.b))))) from rfl);clear hcs1 hcs2 l0 m0 b0 s0 t0 u0 he1 he2;generalize (e1.b==e2.b)=r1 at HX KA;go_upto_region 6 with(fail)
   rcases hq0:(e1.kind==e2.kind) with _ | _
   ·have hn0:(e1.kind != e2.kind)=true:=by rw[bne,hq0];rfl
    have hne:R=false:=HN.out (by rw[HX.out,hq0];rfl);subst hne;clear hq0;refine Dw9 (Nat.le_refl _) rfl rfl rfl (fun _ _ d _ _ h=>by cases d<;>exact h) (fun w=>X7 g1 o1 es.length c k hlt w) (fun w=>X7 g2 o2 es2.length d k hlt2 w) hg1 hg2 x0 z0 x1 z1 x2 z2 x3 z3 x4 z4 hn0 ?_;intro y17 y18 y19 y20 y21 y22 y23 y24 y25 y26 y27 y28 y29 y30 y31 y32 y33 y34 y35 y36 y37 y38 y39 y40 y41 y42 y43 y44 y45 y46 y47 y48 y49 y50 y51 y52 y53 y54 y55 y56 y57 y58 y59 y60 y61 y62 y63 y64 y65 y66 y67 y68 y69 y70 y71 y72 y73 y74 y75 y76 y77 y78 y79 y80 y81 y82 y83 w9 hb;simp only[C4,Act.put,List.setIfInBounds_toArray,List.set_cons_zero,List.set_cons_succ];go_wp2_with fail
    go_ret;exact⟨rfl,bt G.out hb⟩
   have hn0:(e1.kind != e2.kind)=false:=by rw[bne,hq0];rfl
   replace HX:=Lh (show Ag0 e1 e2=((e1.e0==e2.e0)&&((e1.e1==e2.e1)&&((e1.seq==e2.seq)&&(r1)))) by rw[HX.out,hq0,Bool.true_and]);clear hq0;rcases hq1:(e1.e0==e2.e0) with _ | _
   ·have hn1:(e1.e0 != e2.e0)=true:=by rw[bne,hq1];rfl
    have hne:R=false:=HN.out (by rw[HX.out,hq1];rfl);subst hne;clear hq1;refine Dx0 (Nat.le_refl _) rfl rfl rfl (fun _ _ d _ _ h=>by cases d<;>exact h) (fun w=>X7 g1 o1 es.length c k hlt w) (fun w=>X7 g2 o2 es2.length d k hlt2 w) hg1 hg2 x0 z0 x1 z1 x2 z2 x3 z3 x4 z4 hn0 hn1 ?_;intro y17 y18 y19 y20 y21 y22 y23 y24 y25 y26 y27 y28 y29 y30 y31 y32 y33 y34 y35 y36 y37 y38 y39 y40 y41 y42 y43 y44 y45 y46 y47 y48 y49 y50 y51 y52 y53 y54 y55 y56 y57 y58 y59 y60 y61 y62 y63 y64 y65 y66 y67 y68 y69 y70 y71 y72 y73 y74 y75 y76 y77 y78 y79 y80 y81 y82 y83 w9 hb;simp only[C4,Act.put,List.setIfInBounds_toArray,List.set_cons_zero,List.set_cons_succ];go_wp2_with fail
    go_ret;exact⟨rfl,bt G.out hb⟩
   have hn1:(e1.e0 != e2.e0)=false:=by rw[bne,hq1];rfl
   replace HX:=Lh (show Ag0 e1 e2=((e1.e1==e2.e1)&&((e1.seq==e2.seq)&&(r1))) by rw[HX.out,hq1,Bool.true_and]);clear hq1;rcases hq2:(e1.e1==e2.e1) with _ | _
   ·have hn2:(e1.e1 != e2.e1)=true:=by rw[bne,hq2];rfl
    have hne:R=false:=HN.out (by rw[HX.out,hq2];rfl);subst hne;clear hq2;refine Dx1 (Nat.le_refl _) rfl rfl rfl (fun _ _ d _ _ h=>by cases d<;>exact h) (fun w=>X7 g1 o1 es.length c k hlt w) (fun w=>X7 g2 o2 es2.length d k hlt2 w) hg1 hg2 x0 z0 x1 z1 x2 z2 x3 z3 x4 z4 hn0 hn1 hn2 ?_;intro y17 y18 y19 y20 y21 y22 y23 y24 y25 y26 y27 y28 y29 y30 y31 y32 y33 y34 y35 y36 y37 y38 y39 y40 y41 y42 y43 y44 y45 y46 y47 y48 y49 y50 y51 y52 y53 y54 y55 y56 y57 y58 y59 y60 y61 y62 y63 y64 y65 y66 y67 y68 y69 y70 y71 y72 y73 y74 y75 y76 y77 y78 y79 y80 y81 y82 y83 w9 hb;simp only[C4,Act.put,List.setIfInBounds_toArray,List.set_cons_zero,List.set_cons_succ];go_wp2_with fail
    go_ret;exact⟨rfl,bt G.out hb⟩
   have hn2:(e1.e1 != e2.e1)=false:=by rw[bne,hq2];rfl
   replace HX:=Lh (show Ag0 e1 e2=((e1.seq==e2.seq)&&(r1)) by rw[HX.out,hq2,Bool.true_and]);clear hq2;rcases hq3:(e1.seq==e2.seq) with _ | _
   ·have hn3:(e1.seq != e2.seq)=true:=by rw[bne,hq3];rfl
    have hne:R=false:=HN.out (by rw[HX.out,hq3];rfl);subst hne;clear hq3;refine Dx2 (Nat.le_refl _) rfl rfl rfl (fun _ _ d _ _ h=>by cases d<;>exact h) (fun w=>X7 g1 o1 es.length c k hlt w) (fun w=>X7 g2 o2 es2.length d k hlt2 w) hg1 hg2 x0 z0 x1 z1 x2 z2 x3 z3 x4 z4 hn0 hn1 hn2 hn3 ?_;intro y17 y18 y19 y20 y21 y22 y23 y24 y25 y26 y27 y28 y29 y30 y31 y32 y33 y34 y35 y36 y37 y38 y39 y40 y41 y42 y43 y44 y45 y46 y47 y48 y49 y50 y51 y52 y53 y54 y55 y56 y57 y58 y59 y60 y61 y62 y63 y64 y65 y66 y67 y68 y69 y70 y71 y72 y73 y74 y75 y76 y77 y78 y79 y80 y81 y82 y83 w9 hb;simp only[C4,Act.put,List.setIfInBounds_toArray,List.set_cons_zero,List.set_cons_succ];go_wp2_with fail
    go_ret;exact⟨rfl,bt G.out hb⟩
   have hn3:(e1.seq != e2.seq)=false:=by rw[bne,hq3];rfl
   replace HX:=Lh (show Ag0 e1 e2=(r1) by rw[HX.out,hq3,Bool.true_and]);clear hq3;refine Dx3 (Nat.le_refl _) rfl rfl rfl (fun _ _ d _ _ h=>by cases d<;>exact h) (fun w=>X7 g1 o1 es.length c k hlt w) (fun w=>X7 g2 o2 es2.length d k hlt2 w) hg1 hg2 x0 z0 x1 z1 x2 z2 x3 z3 x4 z4 hn0 hn1 hn2 hn3 KA ?_;intro y17 y18 y19 y20 y21 y22 y23 y24 y25 y26 y27 y28 y29 y30 y31 y32 y33 y34 y35 y36 y37 y38 y39 y40 y41 y42 y43 y44 y45 y46 y47 y48 y49 y50 y51 y52 y53 y54 y55 y56 y57 y58 y59 y60 y61 y62 y63 y64 y65 y66 y67 y68 y69 y70 y71 y72 y73 y74 y75 y76 y77 y78 y79 y80 y81 y82 y83 w9 hb;simp only[C4,Act.put,List.setIfInBounds_toArray,List.set_cons_zero,List.set_cons_succ];rcases r1 with _ | _
   ·have hne:R=false:=HN.out HX.out;subst hne;go_wp2_with fail
    go_ret;exact⟨rfl,bt G.out hb⟩
   ·go_wp2_with fail
    exact⟨⟨k+1,by omega,by go_num,fun j hj=>by
     rcases Nat.lt_or_ge j k with h | h
     ·exact Hno.out j h
     ·rw[show j=k by omega,←He1.out,←He2.out];exact HF.out.1 HX.out,bt G.out hb⟩,by simp[intOf];omega⟩
  ·obtain rfl:k=es.length:=by omega
   go_wp2_with fail
   go_ret;refine⟨?_,G.out⟩;have:R=true:=by rw[HR.out,decide_eq_true];exact HQ.out Hl.out Hno.out
   rw[this];rfl
theorem Fd9{w W:World}{a b c d:List Value}{A B C D:TypeId}(h:(((w.alloc (.cells a.toArray A)).alloc (.cells b.toArray B)).alloc (.cells c.toArray C)).alloc (.cells d.toArray D)=W):A5 A W w.heap.size a∧A5 B W (w.heap.size+1) b∧A5 C W (w.heap.size+1+1) c∧A5 D W (w.heap.size+1+1+1) d∧Below w.heap.size w W:=by
 obtain⟨h1,h2,h3,hb⟩:=Cz4 (rfl:((w.alloc (.cells a.toArray A)).alloc (.cells b.toArray B)).alloc (.cells c.toArray C)=_);subst h;refine⟨h1.up (ba _ _),h2.up (ba _ _),h3.up (ba _ _),?_,bta hb _⟩;have:=A5.new (((w.alloc (.cells a.toArray A)).alloc (.cells b.toArray B)).alloc (.cells c.toArray C)) d D
 rwa [I6,I6,I6] at this
theorem Bp8{P:Program}{c:Code}{Q:Exit→Act→World→Prop}{a:Act}{w:World}(h:c.wp P (fun e a w=>e=.normal∧Q .normal a w) a w):c.wp P Q a w:=
 Code.wp_mono (fun e a w h=>by obtain⟨rfl,h⟩:=h;exact h) h
theorem Dc0{s:Sv}{bl:List UInt8}{p:Pd}(hp:pdF bl=p)(h:Em9 s bl):okR bl∧W6 s.e p.k p.d p.e0 p.e1 p.g=false∧An0 s p=true:=by
 subst hp;exact h
theorem Bo0(s:Sv)(bda:Option Addr)(bdc:Nat)(bl:List UInt8)(w:World)(h:J9 (fun _=>True) w s)(hr:U2 s.e=true)(hes:s.es.length≤1000)(hc:bl.length≤bdc)(hcm:bdc≤maxLen)(hbl:A4 w bda bl)(hks:M4 w):
 Calls Tryz.prog 19 #[.agg (A6 s).toArray,.slice bda bl.length bdc] w (Bl0 w s bl):=by
 obtain⟨p,hp⟩:∃p,pdF bl=p:=⟨_,rfl⟩;have HP:=Lh hp;have f:=Ay4 hr;have HW:=Lh (Db3 s bl p hp);have SZ:=Lh (show ∀S:Sv,(Tryz.prog.info? 51).map (·.size)=some (A6 S).length from fun S=>by rw[G6];exact Q4);have SV:=Lh Ad8;have SW:=Lh (show ∀t c,(Tryz.prog.info? 28).map (·.size)=some (C9 t c).length from fun t c=>by rw[F2];exact O1);have SR:=Lh Y9;have HOp:=Lh (fun(n4:Nat) (W:World) (B4:A5 51 W n4 (A6 s)) (hb:Below w.heap.size w W)=>(show Calls Tryz.prog 61 #[.pointer (some ⟨n4,0,none⟩),.slice bda bl.length bdc] W (By3 n4 W s bl) from Cb6 n4 s bda bdc bl W B4 (h.mono hb) hr hes hc hcm (hbl.mono hb) (hks.mono hb)));have HMk:=Lh (fun W=>(Ej1 s.e.wt s.e.wb p.q f.win).1 W);have HTu:=Lh (fun W=>Eh7 s.e.r W);have HKd:=Lh (fun(hok:okR bl)=>show p.k=1∨p.k=2 from by
  have hm:=hok.2.may;subst hp;have h1:=hm.k1;have h2:=hm.k2;show I0 bl 0 1=1∨I0 bl 0 1=2;omega)
 have HYw:=Lh (fun hy=>Dc0 (s:=s) hp hy);unfold By3 at HOp;rw[hp] at HOp;have hmf:∀(fn:Fn) (first cap:Array Value) (w:World),(Instr.makeFunc fn first cap).run Tryz.prog w=.ok (.func fn first cap) w:=fun _ _ _ _=>rfl;clear h hr hes hc hcm hbl f hks
 go_enter_defers Tryz.func19,Tryz.ntmps19
 go_upto_region 1 with(fail)
 generalize hW:World.alloc (World.alloc (World.alloc (World.alloc w _) _) _) _=W;obtain⟨B2,B4,B5,B6,hb⟩:=Fd9 (a:=A6 s) (b:=J4) (c:=G9) (d:=[.int .i64 0]) hW;clear hW;have B2:=Lh B2;have B4:=Lh B4;have B5:=Lh B5;have B6:=Lh B6;have G:=Lh hb;have N2_4:=Lh (show w.heap.size≠w.heap.size+1 by omega);have N4_5:=Lh (show w.heap.size+1≠w.heap.size+1+1 by omega);have N4_6:=Lh (show w.heap.size+1≠w.heap.size+1+1+1 by omega);have N5_6:=Lh (show w.heap.size+1+1≠w.heap.size+1+1+1 by omega);have L4:=Lh (show w.heap.size≤w.heap.size+1 by omega);have L5:=Lh (show w.heap.size≤w.heap.size+1+1 by omega);have L6:=Lh (show w.heap.size≤w.heap.size+1+1+1 by omega);clear hb;generalize w.heap.size+1+1+1=n6 at B6 N4_6 N5_6 L6 ⊢;generalize w.heap.size+1+1=n5 at B5 N4_5 N5_6 L5 ⊢;generalize w.heap.size+1=n4 at B4 N2_4 N4_5 N4_6 L4 ⊢;generalize w.heap.size=n2 at B2 N2_4 ⊢;go_wp2_with (first
  | (refine F5 51 (.tmp 2) rfl ?_;refine C7 51 (.tmp 2) n2 rfl rfl rfl B2.out.blk Tryz.underlying51 rfl (SZ.out _) ?_)
  | (refine G8 51 (.tmp 4) (.tmp 9) rfl ?_;have hq:=B4.out;refine I3 51 (.tmp 4) (.tmp 9) n4 rfl rfl rfl rfl B4.out (SZ.out _) (by rw[M6,G6]) (O3 _) ?_;intro w1 hB hK;replace B2:=Lh (B2.out.kp hK N2_4.out);replace B5:=Lh (B5.out.kp hK N4_5.out.symm);replace B6:=Lh (B6.out.kp hK N4_6.out.symm);replace B4:=Lh hB;replace G:=Lh (hK.below G.out L4.out);clear hB hK hq))
 clear B2 N2_4;refine(HOp.out n4 _ B4.out G.out).mono ?_;rintro x w2 ⟨hK,(⟨S,E,rfl,hB,hT,hE⟩ | ⟨a1,c1,a2,c2,rfl,hB,hY,l1,l2,q1,q2⟩)⟩
 case inl=>
  replace B4:=Lh hB;replace B5:=Lh (B5.out.kp hK N4_5.out.symm);replace B6:=Lh (B6.out.kp hK N4_6.out.symm);replace G:=Lh (hK.below G.out L4.out);have HT:=Lh hT;have HE:=Lh hE;clear hB hK hT hE HW HMk HTu HKd HYw HOp
  (try go_wp2_with fail)
  (try simp only[C4,Act.put,List.setIfInBounds_toArray,List.set_cons_zero,List.set_cons_succ])
  refine leaves_cons (f:=60) (args:=#[.pointer (some ⟨n4,0,none⟩),.pointer (some ⟨n5,0,none⟩),.pointer (some ⟨n6,0,none⟩)]) (by simp) (by simp[go_sem]) ?_;refine(Bl6 (S) (G9) n4 n5 n6 0 E [] w _ B4.out B5.out B6.out rfl N4_5.out N4_6.out N5_6.out L4.out L5.out L6.out G.out).mono ?_;rintro e u' w9 ⟨rfl,rfl,hB4,hB5,hB6,hG⟩;simp only[settle,List.dropWhile];exact⟨_,An8 rfl _ _ n4 n5 n6 rfl rfl rfl hB4.blk Tryz.underlying51 rfl (SZ.out _) hB5.blk Tryz.underlying65 rfl SV.out (hB6.blk.cell 0 (Nat.zero_lt_succ _)) Tryz.underlying54 rfl,Ce5 HT.out HE.out hG⟩
 obtain⟨hok,hst,hy⟩:=HYw.out hY;have OK:=Lh hok;have ST:=Lh hst;have YY:=Lh hy;have C1:=Lh l1;have C2:=Lh l2;have QB:=Lh q1;have QT:=Lh q2;replace B4:=Lh hB;replace B5:=Lh (B5.out.kp hK N4_5.out.symm);replace B6:=Lh (B6.out.kp hK N4_6.out.symm);replace G:=Lh (hK.below G.out L4.out);clear hB hK hY hok hst hy l1 l2 q1 q2 HOp HYw hmf;go_upto_region 4 with(refine G8 65 (.tmp 5) (.tmp 12) rfl ?_;have hq:=B5.out;refine I3 65 (.tmp 5) (.tmp 12) n5 (cs:=I8 p.k p.d p.e0 p.e1 p.g p.q (.slice a1 p.b.length c1) (.slice a2 p.t.length c2)) rfl rfl rfl rfl B5.out SV.out rfl rfl ?_;intro w3 hB hK;replace B4:=Lh (B4.out.kp hK N4_5.out);replace B6:=Lh (B6.out.kp hK N5_6.out.symm);replace QB:=Lh (A4.kp8 QB.out hq.blk (by rfl) hK);replace QT:=Lh (A4.kp8 QT.out hq.blk (by rfl) hK);replace B5:=Lh hB;replace G:=Lh (hK.below G.out L5.out);clear hB hK hq)
 obtain⟨v0,v1,v2,v3,v4,v5,v6,v7⟩:=S6 B5.out.blk;clear v1 v2 v3 v4 v6 v7;rcases HKd.out OK.out with hk | hk
 ·have hk1:((p.k:Int)==1)=true:=by rw[hk];rfl
  have hk2:((p.k:Int) != 2)=true:=by rw[hk];rfl
  clear hk;have HX:=Lh (HW.out.setup OK.out ST.out YY.out hk1);clear HW HMk HTu HKd;go_upto_region 5 with(fail)
  clear hk1 hk2 v0 v5;refine Bp8 ?_;refine Da9 (s:=Aa4 s p) (D:=I8 p.k p.d p.e0 p.e1 p.g p.q (.slice a1 p.b.length c1) (.slice a2 p.t.length c2)) (c6:=0) (w0:=w) (b1:=p.b) (b2:=p.t) (Nat.le_refl _) rfl rfl rfl (fun _ _ _ _ _ h=>nomatch h.1) B4.out B5.out B6.out N4_5.out N4_6.out N5_6.out L6.out L4.out L5.out G.out QB.out QT.out rfl rfl SV.out ?_;intro x16 x17 wE hB4 hB5 hB6 hQB hQT hG;refine⟨rfl,?_⟩
  (try simp only[C4,Act.put,List.setIfInBounds_toArray,List.set_cons_zero,List.set_cons_succ])
  clear B4 B5 B6 QB QT G;go_wp2_with fail
  (try simp only[C4,Act.put,List.setIfInBounds_toArray,List.set_cons_zero,List.set_cons_succ])
  refine leaves_cons (f:=60) (args:=#[.pointer (some ⟨n4,0,none⟩),.pointer (some ⟨n5,0,none⟩),.pointer (some ⟨n6,0,none⟩)]) (by simp) (by simp[go_sem]) ?_;refine(Aw7 ⟨n4,0,none⟩ ⟨n5,0,none⟩ ⟨n6,0,none⟩ _).mono ?_;rintro e u' w9 ⟨rfl,rfl,rfl⟩;simp only[settle];exact⟨_,An8 rfl _ _ n4 n5 n6 rfl rfl rfl hB4.blk Tryz.underlying51 rfl (SZ.out _) hB5.blk Tryz.underlying65 rfl SV.out (hB6.blk.cell 0 (Nat.zero_lt_succ _)) Tryz.underlying54 rfl,Bl1 HP.out HX.out hG C1.out C2.out hQB hQT⟩
 ·have hk1:((p.k:Int)==1)=false:=by rw[hk];rfl
  have hk2:((p.k:Int) != 2)=false:=by rw[hk];rfl
  clear hk;have HOld:=Lh (HW.out.old OK.out ST.out YY.out hk1);have HGo:=Lh (HW.out.gone OK.out ST.out YY.out hk1);clear HW;go_wp2_with (refine F5 28 (.tmp 20) rfl ?_;refine C6 28 (.tmp 20) n4 10 (by first | rfl | simp[Region.wanted,yielded]) rfl rfl B4.out.blk.siteIn.at_w Tryz.underlying28 rfl (SW.out _ _) ?_)
  refine(HMk.out _).mono ?_;rintro x w10 ⟨rfl,hb⟩;replace B4:=Lh (B4.out.up hb);replace B5:=Lh (B5.out.up hb);replace B6:=Lh (B6.out.up hb);replace QB:=Lh (A4.up8 QB.out hb);replace QT:=Lh (A4.up8 QT.out hb);replace G:=Lh (bt G.out hb);clear hb HMk v0 v5 hk2;have HWd:=Lh (show Ar4 (A6 (Aa4 s p)) 10 (C9 (Ac9 s.e.wt s.e.wb p.q).1 (Ac9 s.e.wt s.e.wb p.q).2.1)=A6 (Aj3 (Aa4 s p) p.q) from Cq4 (Aa4 s p) _ _);generalize Ac9 s.e.wt s.e.wb p.q=mk at HWd HOld HGo ⊢;obtain⟨mt,mc,me⟩:=mk;go_upto_region 7 with(refine G8 28 _ _ rfl ?_;refine I3 28 _ _ _ rfl rfl rfl rfl (A5.new _ _ _) (SW.out _ _) (by rw[F2];rfl) (Bc6 _ _) ?_;intro w11 hBn hK;have B7:=Lh hBn;have N4_7:=Lh (Nat.ne_of_lt B4.out.blk.lt);have N5_7:=Lh (Nat.ne_of_lt B5.out.blk.lt);have N6_7:=Lh (Nat.ne_of_lt B6.out.blk.lt);replace B4:=Lh ((B4.out.up (ba _ _)).kp hK N4_7.out);replace B5:=Lh ((B5.out.up (ba _ _)).kp hK N5_7.out);replace B6:=Lh ((B6.out.up (ba _ _)).kp hK N6_7.out);replace QB:=Lh (A4.up8 QB.out (hK.below (ba _ _) (Nat.le_refl _)));replace QT:=Lh (A4.up8 QT.out (hK.below (ba _ _) (Nat.le_refl _)));have L7:=Lh G.out.size;replace G:=Lh (hK.below (bt G.out (ba _ _)) G.out.size);clear hBn hK)
  generalize w10.heap.size=n7 at B7 N4_7 N5_7 N6_7 ⊢;go_wp2_with fail
  rcases hm:(me==0) with _ | _
  ·have HX:=Lh (HOld.out hm);clear HOld HGo HTu HWd;refine(Af2 6 _).mono ?_;rintro x w13 ⟨rfl,rfl⟩
   (try go_wp2_with fail)
   (try simp only[C4,Act.put,List.setIfInBounds_toArray,List.set_cons_zero,List.set_cons_succ])
   refine leaves_cons (f:=60) (args:=#[.pointer (some ⟨n4,0,none⟩),.pointer (some ⟨n5,0,none⟩),.pointer (some ⟨n6,0,none⟩)]) (by simp) (by simp[go_sem]) ?_;refine(Bl6 (Aa4 s p) (I8 p.k p.d p.e0 p.e1 p.g p.q (.slice a1 p.b.length c1) (.slice a2 p.t.length c2)) n4 n5 n6 0 6 [] w _ B4.out B5.out B6.out rfl N4_5.out N4_6.out N5_6.out L4.out L5.out L6.out G.out).mono ?_;rintro e u' w9 ⟨rfl,rfl,hB4,hB5,hB6,hG⟩;simp only[settle,List.dropWhile];exact⟨_,An8 rfl _ _ n4 n5 n6 rfl rfl rfl hB4.blk Tryz.underlying51 rfl (SZ.out _) hB5.blk Tryz.underlying65 rfl SV.out (hB6.blk.cell 0 (Nat.zero_lt_succ _)) Tryz.underlying54 rfl,Ce5 HX.out (by decide) hG⟩
  have HX:=Lh (HGo.out hm);clear HOld HGo;refine(Au8 6 _).mono ?_;rintro x w13 ⟨rfl,rfl⟩;go_upto_region 9 with(first
  | (refine F5 28 (.tmp 7) rfl ?_;refine C7 28 (.tmp 7) n7 rfl rfl rfl B7.out.blk Tryz.underlying28 rfl (SW.out _ _) ?_)
  | (refine G8 28 (.tmp 32) (.tmp 30) rfl ?_;have hq:=B4.out;refine Ab6 28 (.tmp 32) (.tmp 30) n4 10 (cs:=C9 mt mc) rfl rfl rfl rfl B4.out (by rw[G6,F2];decide) (SW.out _ _) (Bc6 _ _) (HWd.out) ?_;intro w12 hB hK;replace B5:=Lh (B5.out.kp hK N4_5.out.symm);replace B6:=Lh (B6.out.kp hK N4_6.out.symm);replace B7:=Lh (B7.out.kp hK N4_7.out.symm);replace QB:=Lh (A4.kp8 QB.out hq.blk (U3 _) hK);replace QT:=Lh (A4.kp8 QT.out hq.blk (U3 _) hK);replace B4:=Lh hB;replace G:=Lh (hK.below G.out L4.out);clear hB hK hq))
  clear B7 N4_7 N5_7 N6_7 L7 HWd hm;have gp:=B4.out.blk.siteIn.pno;have g2:=B4.out.blk.siteIn.ph;obtain⟨v0,v1,v2,v3,v4,v5,v6,v7⟩:=S6 B5.out.blk;clear v0 v1 v2 v3 v5 v6 v7;have HGt:=Lh (show Bk9 (Aa4 s p) p=bif ((p.g:Int)==s.e.r.p.no)&&(s.e.ph != 4) then(Aj3 (Aa4 s p) p.q).on (Bg1 (Aj3 (Aa4 s p) p.q).e) else Aj3 (Aa4 s p) p.q from rfl);have gp':_=some (Value.int .i64 s.e.r.p.no):=gp;have g2':_=some (Value.int .i64 s.e.ph):=g2;clear gp g2 hk1;rcases hg1:((p.g:Int)==s.e.r.p.no) with _ | _
  ·replace HX:=Lh (show Y6 s bl=(Aj3 (Aa4 s p) p.q,0) by rw[HX.out,HGt.out,hg1];rfl);clear HGt HTu;go_upto_region 11 with(fail)
   clear hg1 gp' g2' v4;refine Bp8 ?_;refine Bg9 (s:=Aj3 (Aa4 s p) p.q) (D:=I8 p.k p.d p.e0 p.e1 p.g p.q (.slice a1 p.b.length c1) (.slice a2 p.t.length c2)) (c6:=0) (w0:=w) (b1:=p.b) (b2:=p.t) (Nat.le_refl _) rfl rfl rfl (fun _ _ _ _ _ h=>nomatch h.1) B4.out B5.out B6.out N4_5.out N4_6.out N5_6.out L6.out L4.out L5.out G.out QB.out QT.out rfl rfl SV.out ?_;intro x56 x57 wE hB4 hB5 hB6 hQB hQT hG;refine⟨rfl,?_⟩
   (try simp only[C4,Act.put,List.setIfInBounds_toArray,List.set_cons_zero,List.set_cons_succ])
   clear B4 B5 B6 QB QT G;go_wp2_with fail
   (try simp only[C4,Act.put,List.setIfInBounds_toArray,List.set_cons_zero,List.set_cons_succ])
   refine leaves_cons (f:=60) (args:=#[.pointer (some ⟨n4,0,none⟩),.pointer (some ⟨n5,0,none⟩),.pointer (some ⟨n6,0,none⟩)]) (by simp) (by simp[go_sem]) ?_;refine(Aw7 ⟨n4,0,none⟩ ⟨n5,0,none⟩ ⟨n6,0,none⟩ _).mono ?_;rintro e u' w9 ⟨rfl,rfl,rfl⟩;simp only[settle];exact⟨_,An8 rfl _ _ n4 n5 n6 rfl rfl rfl hB4.blk Tryz.underlying51 rfl (SZ.out _) hB5.blk Tryz.underlying65 rfl SV.out (hB6.blk.cell 0 (Nat.zero_lt_succ _)) Tryz.underlying54 rfl,Bl1 HP.out HX.out hG C1.out C2.out hQB hQT⟩
  rcases hg2:(s.e.ph != 4) with _ | _
  ·replace HX:=Lh (show Y6 s bl=(Aj3 (Aa4 s p) p.q,0) by rw[HX.out,HGt.out,hg1,hg2];rfl);clear HGt HTu;go_upto_region 11 with(fail)
   clear hg1 gp' g2' v4 hg2;refine Bp8 ?_;refine Bg9 (s:=Aj3 (Aa4 s p) p.q) (D:=I8 p.k p.d p.e0 p.e1 p.g p.q (.slice a1 p.b.length c1) (.slice a2 p.t.length c2)) (c6:=0) (w0:=w) (b1:=p.b) (b2:=p.t) (Nat.le_refl _) rfl rfl rfl (fun _ _ _ _ _ h=>nomatch h.1) B4.out B5.out B6.out N4_5.out N4_6.out N5_6.out L6.out L4.out L5.out G.out QB.out QT.out rfl rfl SV.out ?_;intro x56 x57 wE hB4 hB5 hB6 hQB hQT hG;refine⟨rfl,?_⟩
   (try simp only[C4,Act.put,List.setIfInBounds_toArray,List.set_cons_zero,List.set_cons_succ])
   clear B4 B5 B6 QB QT G;go_wp2_with fail
   (try simp only[C4,Act.put,List.setIfInBounds_toArray,List.set_cons_zero,List.set_cons_succ])
   refine leaves_cons (f:=60) (args:=#[.pointer (some ⟨n4,0,none⟩),.pointer (some ⟨n5,0,none⟩),.pointer (some ⟨n6,0,none⟩)]) (by simp) (by simp[go_sem]) ?_;refine(Aw7 ⟨n4,0,none⟩ ⟨n5,0,none⟩ ⟨n6,0,none⟩ _).mono ?_;rintro e u' w9 ⟨rfl,rfl,rfl⟩;simp only[settle];exact⟨_,An8 rfl _ _ n4 n5 n6 rfl rfl rfl hB4.blk Tryz.underlying51 rfl (SZ.out _) hB5.blk Tryz.underlying65 rfl SV.out (hB6.blk.cell 0 (Nat.zero_lt_succ _)) Tryz.underlying54 rfl,Bl1 HP.out HX.out hG C1.out C2.out hQB hQT⟩
  replace HX:=Lh (show Y6 s bl=((Aj3 (Aa4 s p) p.q).on (Bg1 (Aj3 (Aa4 s p) p.q).e),0) by rw[HX.out,HGt.out,hg1,hg2];rfl);clear HGt;go_wp2_with (refine F5 32 (.tmp 49) rfl ?_;refine C6 32 (.tmp 49) n4 27 (by first | rfl | simp[Region.wanted,yielded]) rfl rfl B4.out.blk.siteIn.at_r Tryz.underlying32 rfl SR.out ?_)
  refine(HTu.out _).mono ?_;rintro x w14 ⟨rfl,hb⟩;clear v4 gp' g2' hg1 hg2;replace B4:=Lh (B4.out.up hb);replace B5:=Lh (B5.out.up hb);replace B6:=Lh (B6.out.up hb);replace QB:=Lh (A4.up8 QB.out hb);replace QT:=Lh (A4.up8 QT.out hb);replace G:=Lh (bt G.out hb);clear hb HTu;go_upto_region 11 with(refine G8 32 (.tmp 55) (.tmp 52) rfl ?_;have hq:=B4.out;refine Ab6 32 (.tmp 55) (.tmp 52) n4 27 (cs:=(Bk0 s.e.r).1.L) rfl rfl rfl rfl B4.out (by rw[G6];exact(by decide:27+8≤73)) SR.out (by rfl) (Da6 (Aj3 (Aa4 s p) p.q)) ?_;intro w15 hB hK;replace B5:=Lh (B5.out.kp hK N4_5.out.symm);replace B6:=Lh (B6.out.kp hK N4_6.out.symm);replace QB:=Lh (A4.kp8 QB.out hq.blk (U3 _) hK);replace QT:=Lh (A4.kp8 QT.out hq.blk (U3 _) hK);replace B4:=Lh hB;replace G:=Lh (hK.below G.out L4.out);clear hB hK hq)
  refine Bp8 ?_;refine Bg9 (s:=(Aj3 (Aa4 s p) p.q).on (Bg1 (Aj3 (Aa4 s p) p.q).e)) (D:=I8 p.k p.d p.e0 p.e1 p.g p.q (.slice a1 p.b.length c1) (.slice a2 p.t.length c2)) (c6:=0) (w0:=w) (b1:=p.b) (b2:=p.t) (Nat.le_refl _) rfl rfl rfl (fun _ _ _ _ _ h=>nomatch h.1) B4.out B5.out B6.out N4_5.out N4_6.out N5_6.out L6.out L4.out L5.out G.out QB.out QT.out rfl rfl SV.out ?_;intro x56 x57 wE hB4 hB5 hB6 hQB hQT hG;refine⟨rfl,?_⟩
  (try simp only[C4,Act.put,List.setIfInBounds_toArray,List.set_cons_zero,List.set_cons_succ])
  clear B4 B5 B6 QB QT G;go_wp2_with fail
  (try simp only[C4,Act.put,List.setIfInBounds_toArray,List.set_cons_zero,List.set_cons_succ])
  refine leaves_cons (f:=60) (args:=#[.pointer (some ⟨n4,0,none⟩),.pointer (some ⟨n5,0,none⟩),.pointer (some ⟨n6,0,none⟩)]) (by simp) (by simp[go_sem]) ?_;refine(Aw7 ⟨n4,0,none⟩ ⟨n5,0,none⟩ ⟨n6,0,none⟩ _).mono ?_;rintro e u' w9 ⟨rfl,rfl,rfl⟩;simp only[settle];exact⟨_,An8 rfl _ _ n4 n5 n6 rfl rfl rfl hB4.blk Tryz.underlying51 rfl (SZ.out _) hB5.blk Tryz.underlying65 rfl SV.out (hB6.blk.cell 0 (Nat.zero_lt_succ _)) Tryz.underlying54 rfl,Bl1 HP.out HX.out hG C1.out C2.out hQB hQT⟩
def Ar2(a b:Ev):Bool:=(a.wt==b.wt)&&(List.range 16).all fun i=>a.wb i==b.wb i
def An9(a b:Ev):Bool:=(a.c0==b.c0)&&((a.c1==b.c1)&&((a.c2==b.c2)&&(a.c3==b.c3)))
def Au2(a b:Ev):Bool:=(a.id==b.id)&&((a.ph==b.ph)&&((a.pw==b.pw)&&((a.own==b.own)&&((a.oth==b.oth)&&((a.seen==b.seen)&&((a.seq==b.seq)&&((a.stan==b.stan)&&((a.day==b.day)))))))))
def Ao0(a b:Ev):Bool:=Ak7 a.s1.l a.s2.l b.s1.l b.s2.l&&(Q3 a.r b.r a.kc a.ko a.kp b.kc b.ko b.kp&&(Ad2 a.q b.q&&(decide (a.u=b.u)&&(Ab5 a.h a.hs b.h b.hs&&(decide (a.o=b.o)&&(decide (a.g=b.g)&&((a.k.l==b.k.l)&&(Ar2 a b&&(An9 a b&&Au2 a b)))))))))
abbrev Y3(e:Ev):List Value:=[.int .i64 e.c0,.int .i64 e.c1,.int .i64 e.c2,.int .i64 e.c3]
theorem Dx5(a b:Ev)(w:World):(Op.equalIn 10000 40 (.agg (Y3 a).toArray) (.agg (Y3 b).toArray)).run Tryz.prog w=.ok (An9 a b) w:=by
 obtain⟨i,hi⟩:=Option.isSome_iff_exists.1 (show(Tryz.prog.info? 3).isSome=true by kernel_rfl);rw[run_equalIn_array w 9999 _ _ Tryz.underlying40 hi];have hc:Tryz.prog.cellsOf 3=1:=by kernel_rfl
 rw[hc];have p0:=fun(z:Ev)=>run_part_plain (P:=Tryz.prog) w (e:=3) (xs:=(Y3 z).toArray) (off:=0) (by kernel_rfl) rfl;have p1:=fun(z:Ev)=>run_part_plain (P:=Tryz.prog) w (e:=3) (xs:=(Y3 z).toArray) (off:=1) (by kernel_rfl) rfl;have p2:=fun(z:Ev)=>run_part_plain (P:=Tryz.prog) w (e:=3) (xs:=(Y3 z).toArray) (off:=2) (by kernel_rfl) rfl;have p3:=fun(z:Ev)=>run_part_plain (P:=Tryz.prog) w (e:=3) (xs:=(Y3 z).toArray) (off:=3) (by kernel_rfl) rfl;have q:=fun(z z':Int)=>run_equalIn_int (P:=Tryz.prog) w 9998 3 .i64 .i64 z z' Tryz.underlying3;have e:(List.range 4)=[0,1,2,3]:=by decide
 rw[e];unfold An9;cases h0:(a.c0==b.c0)<;>cases h1:(a.c1==b.c1)<;>cases h2:(a.c2==b.c2)<;>cases h3:(a.c3==b.c3)<;>simp[Op.eqItems,Sem.run_bind,p0,p1,p2,p3,q,h0,h1,h2,h3]
theorem Ct3(a b:Ev)(w:World):(Op.equalIn 10000 28 (.agg (C9 a.wt a.wb).toArray) (.agg (C9 b.wt b.wb).toArray)).run Tryz.prog w=.ok (Ar2 a b) w:=Bv1 _ _ _ _ w
theorem Cf8(a b:Ev)(w:World)(ha:Y5 w a)(hb:Y5 w b)(ho:a.o.length≤100000∧b.o.length≤100000)(hg:a.g.length≤100000∧b.g.length≤100000):
 Calls Tryz.prog 27 #[.agg (A8 a).toArray,.agg (A8 b).toArray] w (D9 w (Ao0 a b)):=by
 have P1:=Lh (fun(W:World) (h:Below w.heap.size w W)=>(show Calls Tryz.prog 40 #[.agg #[.slice a.s1.a a.s1.l.length a.s1.c,.slice a.s2.a a.s2.l.length a.s2.c],.agg #[.slice b.s1.a b.s1.l.length b.s1.c,.slice b.s2.a b.s2.l.length b.s2.c]] W (D9 W (Ak7 a.s1.l a.s2.l b.s1.l b.s2.l)) from Ba0 _ _ _ _ _ _ W (Ah9 (ha.mono h)) (Ah9 (hb.mono h))));have P2:=Lh (fun(W:World) (h:Below w.heap.size w W)=>(show Calls Tryz.prog 71 #[.agg a.r.L.toArray,.agg b.r.L.toArray] W (D9 W (Q3 a.r b.r a.kc a.ko a.kp b.kc b.ko b.kp)) from Cb2 a.r b.r a.kc a.ko a.kp b.kc b.ko b.kp W (ha.r.mono h) (hb.r.mono h)));have P3:=Lh (fun(W:World) (h:Below w.heap.size w W)=>(show Calls Tryz.prog 72 #[.agg (J8 a.q a.qa a.qc).toArray,.agg (J8 b.q b.qa b.qc).toArray] W (D9 W (Ad2 a.q b.q)) from Cu9 a.q b.q a.qa b.qa a.qc b.qc W (Nat.le_trans ha.ql.1 ha.ql.2) (Nat.le_trans hb.ql.1 hb.ql.2) (ha.q.mono h) (hb.q.mono h)));have P4:=Lh (fun(W:World) (h:Below w.heap.size w W)=>(show Calls Tryz.prog 73 #[.slice a.ua a.u.length a.uc,.slice b.ua b.u.length b.uc] W (D9 W (decide (a.u=b.u))) from Cy2 a.ua b.ua a.uc b.uc a.u b.u (Nat.le_trans ha.ul.1 ha.ul.2) (Nat.le_trans hb.ul.1 hb.ul.2) W (ha.u.mono h) (hb.u.mono h)));have P5:=Lh (fun(W:World) (h:Below w.heap.size w W)=>(show Calls Tryz.prog 41 #[.agg a.h.L.toArray,.agg b.h.L.toArray] W (D9 W (Ab5 a.h a.hs b.h b.hs)) from Ax9 a.h b.h a.hs b.hs W (ha.h.mono h) (hb.h.mono h)));have P6:=Lh (fun(W:World) (h:Below w.heap.size w W)=>Cn5 a.oa b.oa a.oc b.oc a.o b.o W ho.1 ho.2 (ha.o.mono h) (hb.o.mono h));have P7:=Lh (fun(W:World) (h:Below w.heap.size w W)=>Cf7 a.ga b.ga a.gc b.gc a.g b.g W hg.1 hg.2 (ha.g.mono h) (hb.g.mono h));have P8:=Lh (fun(W:World) (h:Below w.heap.size w W)=>(show Calls Tryz.prog 25 #[.slice a.k.a a.k.l.length a.k.c,.slice b.k.a b.k.l.length b.k.c] W fun e w'=>e=.returned (.bool (a.k.l==b.k.l))∧W=w' from Ae0 a.k.a b.k.a _ a.k.c _ b.k.c a.k.l b.k.l W rfl rfl (ha.k.b.mono h) (hb.k.b.mono h)));have Z9:=Lh (Ct3 a b);have Z10:=Lh (Dx5 a b);have HF:=Lh (show Ao0 a b=(Ak7 a.s1.l a.s2.l b.s1.l b.s2.l&&(Q3 a.r b.r a.kc a.ko a.kp b.kc b.ko b.kp&&(Ad2 a.q b.q&&(decide (a.u=b.u)&&(Ab5 a.h a.hs b.h b.hs&&(decide (a.o=b.o)&&(decide (a.g=b.g)&&((a.k.l==b.k.l)&&(Ar2 a b&&(An9 a b&&Au2 a b)))))))))) from rfl);have HI:=Lh (show Au2 a b=((a.id==b.id)&&((a.ph==b.ph)&&((a.pw==b.pw)&&((a.own==b.own)&&((a.oth==b.oth)&&((a.seen==b.seen)&&((a.seq==b.seq)&&((a.stan==b.stan)&&((a.day==b.day)))))))))) from rfl);have SS:=Lh Ae9;have SR:=Lh Y9;have SA:=Lh (show(Tryz.prog.info? 34).map (·.size)=some (J8 a.q a.qa a.qc).length from Ay2);have SH:=Lh (show(Tryz.prog.info? 42).map (·.size)=some a.h.L.length by kernel_rfl);have SW:=Lh (show ∀t c,(Tryz.prog.info? 28).map (·.size)=some (C9 t c).length from fun t c=>by rw[F2];exact O1);have S4:=Lh Bk1;unfold D9 at P1 P2 P3 P4 P5 P6 P7;generalize Ao0 a b=R at HF ⊢;generalize Ak7 a.s1.l a.s2.l b.s1.l b.s2.l=s1 at P1 HF;generalize Q3 a.r b.r a.kc a.ko a.kp b.kc b.ko b.kp=s2 at P2 HF;generalize Ad2 a.q b.q=s3 at P3 HF;generalize decide (a.u=b.u)=s4 at P4 HF;generalize Ab5 a.h a.hs b.h b.hs=s5 at P5 HF;generalize decide (a.o=b.o)=s6 at P6 HF;generalize decide (a.g=b.g)=s7 at P7 HF;generalize (a.k.l==b.k.l)=s8 at P8 HF;generalize Ar2 a b=s9 at Z9 HF;generalize An9 a b=s10 at Z10 HF;clear ha hb ho hg;go_enter Tryz.func27,Tryz.ntmps27
 go_upto_region 1 with(fail)
 generalize hW:World.alloc (World.alloc w _) _=W;obtain⟨B2,B3,hb⟩:=Am8 (a:=A8 a) (b:=A8 b) hW;clear hW;have B2:=Lh B2;have B3:=Lh B3;have G:=Lh hb;clear hb;generalize w.heap.size+1=n3 at B3 ⊢;generalize hn2:w.heap.size=n2 at B2 ⊢;clear hn2;have y2:W.cell? ⟨n2,3,none⟩=some (.slice a.s1.a a.s1.l.length a.s1.c):=B2.out.blk.endIn.cell 3 (by decide);have z2:W.cell? ⟨n2,4,none⟩=some (.slice a.s2.a a.s2.l.length a.s2.c):=B2.out.blk.endIn.cell 4 (by decide);have y3:W.cell? ⟨n3,3,none⟩=some (.slice b.s1.a b.s1.l.length b.s1.c):=B3.out.blk.endIn.cell 3 (by decide);have z3:W.cell? ⟨n3,4,none⟩=some (.slice b.s2.a b.s2.l.length b.s2.c):=B3.out.blk.endIn.cell 4 (by decide);go_wp2_with fail
 refine(P1.out _ G.out).mono ?_;rintro x w1 ⟨rfl,hb⟩;replace B2:=Lh (B2.out.up hb);replace B3:=Lh (B3.out.up hb);replace G:=Lh (bt G.out hb);clear hb P1 y2 y3 z2 z3;go_wp2_with (first
  | (refine F5 32 (.tmp 17) rfl ?_;refine C6 32 (.tmp 17) n2 27 (by first | rfl | simp[Region.wanted,yielded]) rfl rfl B2.out.blk.endIn.at_r Tryz.underlying32 rfl SR.out ?_)
  | (refine F5 32 (.tmp 19) rfl ?_;refine C6 32 (.tmp 19) n3 27 (by first | rfl | simp[Region.wanted,yielded]) rfl rfl B3.out.blk.endIn.at_r Tryz.underlying32 rfl SR.out ?_))
 refine(P2.out _ G.out).mono ?_;rintro x w2 ⟨rfl,hb⟩;replace B2:=Lh (B2.out.up hb);replace B3:=Lh (B3.out.up hb);replace G:=Lh (bt G.out hb);clear hb P2;go_wp2_with (first
  | (refine F5 34 (.tmp 22) rfl ?_;refine C6 34 (.tmp 22) n2 35 (by first | rfl | simp[Region.wanted,yielded]) rfl rfl B2.out.blk.endIn.at_q Tryz.underlying34 rfl SA.out ?_)
  | (refine F5 34 (.tmp 24) rfl ?_;refine C6 34 (.tmp 24) n3 35 (by first | rfl | simp[Region.wanted,yielded]) rfl rfl B3.out.blk.endIn.at_q Tryz.underlying34 rfl SA.out ?_))
 refine(P3.out _ G.out).mono ?_;rintro x w3 ⟨rfl,hb⟩;replace B2:=Lh (B2.out.up hb);replace B3:=Lh (B3.out.up hb);replace G:=Lh (bt G.out hb);clear hb P3;have y2:=B2.out.blk.endIn.u;have y3:=B3.out.blk.endIn.u;go_wp2_with fail
 refine(P4.out _ G.out).mono ?_;rintro x w4 ⟨rfl,hb⟩;replace B2:=Lh (B2.out.up hb);replace B3:=Lh (B3.out.up hb);replace G:=Lh (bt G.out hb);clear hb P4 y2 y3;go_wp2_with (first
  | (refine F5 42 (.tmp 32) rfl ?_;refine C6 42 (.tmp 32) n2 43 (by first | rfl | simp[Region.wanted,yielded]) rfl rfl B2.out.blk.endIn.at_h Tryz.underlying42 rfl SH.out ?_)
  | (refine F5 42 (.tmp 34) rfl ?_;refine C6 42 (.tmp 34) n3 43 (by first | rfl | simp[Region.wanted,yielded]) rfl rfl B3.out.blk.endIn.at_h Tryz.underlying42 rfl SH.out ?_))
 refine(P5.out _ G.out).mono ?_;rintro x w5 ⟨rfl,hb⟩;replace B2:=Lh (B2.out.up hb);replace B3:=Lh (B3.out.up hb);replace G:=Lh (bt G.out hb);clear hb P5;have y2:=B2.out.blk.endIn.o;have y3:=B3.out.blk.endIn.o;go_wp2_with fail
 refine(P6.out _ G.out).mono ?_;rintro x w6 ⟨rfl,hb⟩;replace B2:=Lh (B2.out.up hb);replace B3:=Lh (B3.out.up hb);replace G:=Lh (bt G.out hb);clear hb P6 y2 y3;have y2:=B2.out.blk.endIn.g;have y3:=B3.out.blk.endIn.g;go_wp2_with fail
 refine(P7.out _ G.out).mono ?_;rintro x w7 ⟨rfl,hb⟩;replace B2:=Lh (B2.out.up hb);replace B3:=Lh (B3.out.up hb);replace G:=Lh (bt G.out hb);clear hb P7 y2 y3;have k2:=B2.out.blk.endIn.k;have k3:=B3.out.blk.endIn.k;go_upto_region 8 with(fail)
 rcases s1 with _ | _
 ·have hR:R=false:=by rw[HF.out];rfl
  subst hR;go_wp2_with fail
  go_ret;exact⟨rfl,G.out⟩
 rcases s2 with _ | _
 ·have hR:R=false:=by rw[HF.out];rfl
  subst hR;go_wp2_with fail
  go_ret;exact⟨rfl,G.out⟩
 rcases s3 with _ | _
 ·have hR:R=false:=by rw[HF.out];rfl
  subst hR;go_wp2_with fail
  go_ret;exact⟨rfl,G.out⟩
 rcases s4 with _ | _
 ·have hR:R=false:=by rw[HF.out];rfl
  subst hR;go_wp2_with fail
  go_ret;exact⟨rfl,G.out⟩
 rcases s5 with _ | _
 ·have hR:R=false:=by rw[HF.out];rfl
  subst hR;go_wp2_with fail
  go_ret;exact⟨rfl,G.out⟩
 rcases s6 with _ | _
 ·have hR:R=false:=by rw[HF.out];rfl
  subst hR;go_wp2_with fail
  go_ret;exact⟨rfl,G.out⟩
 rcases s7 with _ | _
 ·have hR:R=false:=by rw[HF.out];rfl
  subst hR;go_wp2_with fail
  go_ret;exact⟨rfl,G.out⟩
 rcases s8 with _ | _
 ·have hR:R=false:=by rw[HF.out];rfl
  subst hR;go_wp2_with fail
  refine(P8.out _ G.out).mono ?_;rintro x w8 ⟨rfl,rfl⟩;have hz:=Z9.out;have hz4:=Z10.out;go_wp2_with (first
  | (refine F5 28 (.tmp 82) rfl ?_;refine C6 28 (.tmp 82) n2 10 (by first | rfl | simp[Region.wanted,yielded]) rfl rfl B2.out.blk.endIn.at_w Tryz.underlying28 rfl (SW.out _ _) ?_)
  | (refine F5 28 (.tmp 84) rfl ?_;refine C6 28 (.tmp 84) n3 10 (by first | rfl | simp[Region.wanted,yielded]) rfl rfl B3.out.blk.endIn.at_w Tryz.underlying28 rfl (SW.out _ _) ?_)
  | (refine F5 40 (.tmp 89) rfl ?_;refine C6 40 (.tmp 89) n2 66 (by first | rfl | simp[Region.wanted,yielded]) rfl rfl B2.out.blk.endIn.at_c Tryz.underlying40 rfl S4.out ?_)
  | (refine F5 40 (.tmp 91) rfl ?_;refine C6 40 (.tmp 91) n3 66 (by first | rfl | simp[Region.wanted,yielded]) rfl rfl B3.out.blk.endIn.at_c Tryz.underlying40 rfl S4.out ?_))
  go_ret;exact⟨rfl,G.out⟩
 rcases s9 with _ | _
 ·have hR:R=false:=by rw[HF.out];rfl
  subst hR;go_wp2_with fail
  refine(P8.out _ G.out).mono ?_;rintro x w8 ⟨rfl,rfl⟩;have hz:=Z9.out;have hz4:=Z10.out;go_wp2_with (first
  | (refine F5 28 (.tmp 82) rfl ?_;refine C6 28 (.tmp 82) n2 10 (by first | rfl | simp[Region.wanted,yielded]) rfl rfl B2.out.blk.endIn.at_w Tryz.underlying28 rfl (SW.out _ _) ?_)
  | (refine F5 28 (.tmp 84) rfl ?_;refine C6 28 (.tmp 84) n3 10 (by first | rfl | simp[Region.wanted,yielded]) rfl rfl B3.out.blk.endIn.at_w Tryz.underlying28 rfl (SW.out _ _) ?_)
  | (refine F5 40 (.tmp 89) rfl ?_;refine C6 40 (.tmp 89) n2 66 (by first | rfl | simp[Region.wanted,yielded]) rfl rfl B2.out.blk.endIn.at_c Tryz.underlying40 rfl S4.out ?_)
  | (refine F5 40 (.tmp 91) rfl ?_;refine C6 40 (.tmp 91) n3 66 (by first | rfl | simp[Region.wanted,yielded]) rfl rfl B3.out.blk.endIn.at_c Tryz.underlying40 rfl S4.out ?_))
  go_ret;exact⟨rfl,G.out⟩
 rcases s10 with _ | _
 ·have hR:R=false:=by rw[HF.out];rfl
  subst hR;go_wp2_with fail
  refine(P8.out _ G.out).mono ?_;rintro x w8 ⟨rfl,rfl⟩;have hz:=Z9.out;have hz4:=Z10.out;go_wp2_with (first
  | (refine F5 28 (.tmp 82) rfl ?_;refine C6 28 (.tmp 82) n2 10 (by first | rfl | simp[Region.wanted,yielded]) rfl rfl B2.out.blk.endIn.at_w Tryz.underlying28 rfl (SW.out _ _) ?_)
  | (refine F5 28 (.tmp 84) rfl ?_;refine C6 28 (.tmp 84) n3 10 (by first | rfl | simp[Region.wanted,yielded]) rfl rfl B3.out.blk.endIn.at_w Tryz.underlying28 rfl (SW.out _ _) ?_)
  | (refine F5 40 (.tmp 89) rfl ?_;refine C6 40 (.tmp 89) n2 66 (by first | rfl | simp[Region.wanted,yielded]) rfl rfl B2.out.blk.endIn.at_c Tryz.underlying40 rfl S4.out ?_)
  | (refine F5 40 (.tmp 91) rfl ?_;refine C6 40 (.tmp 91) n3 66 (by first | rfl | simp[Region.wanted,yielded]) rfl rfl B3.out.blk.endIn.at_c Tryz.underlying40 rfl S4.out ?_))
  go_ret;exact⟨rfl,G.out⟩
 have HR:=Lh (show R=Au2 a b by rw[HF.out];rfl);clear HF;go_wp2_with fail
 refine(P8.out _ G.out).mono ?_;rintro x w8 ⟨rfl,rfl⟩;have hz:=Z9.out;have hz4:=Z10.out;go_upto_region 10 with(first
  | (refine F5 28 (.tmp 82) rfl ?_;refine C6 28 (.tmp 82) n2 10 (by first | rfl | simp[Region.wanted,yielded]) rfl rfl B2.out.blk.endIn.at_w Tryz.underlying28 rfl (SW.out _ _) ?_)
  | (refine F5 28 (.tmp 84) rfl ?_;refine C6 28 (.tmp 84) n3 10 (by first | rfl | simp[Region.wanted,yielded]) rfl rfl B3.out.blk.endIn.at_w Tryz.underlying28 rfl (SW.out _ _) ?_)
  | (refine F5 40 (.tmp 89) rfl ?_;refine C6 40 (.tmp 89) n2 66 (by first | rfl | simp[Region.wanted,yielded]) rfl rfl B2.out.blk.endIn.at_c Tryz.underlying40 rfl S4.out ?_)
  | (refine F5 40 (.tmp 91) rfl ?_;refine C6 40 (.tmp 91) n3 66 (by first | rfl | simp[Region.wanted,yielded]) rfl rfl B3.out.blk.endIn.at_c Tryz.underlying40 rfl S4.out ?_))
 clear hz hz4 Z9 Z10 P8 k2 k3;have x_id:=B2.out.blk.endIn.id;have z_id:=B3.out.blk.endIn.id;have x_ph:=B2.out.blk.endIn.ph;have z_ph:=B3.out.blk.endIn.ph;have x_pw:=B2.out.blk.endIn.pw;have z_pw:=B3.out.blk.endIn.pw;have x_own:=B2.out.blk.endIn.own;have z_own:=B3.out.blk.endIn.own;have x_oth:=B2.out.blk.endIn.oth;have z_oth:=B3.out.blk.endIn.oth;have x_seen:=B2.out.blk.endIn.seen;have z_seen:=B3.out.blk.endIn.seen;have x_seq:=B2.out.blk.endIn.seq;have z_seq:=B3.out.blk.endIn.seq;have x_stan:=B2.out.blk.endIn.stan;have z_stan:=B3.out.blk.endIn.stan;have x_day:=B2.out.blk.endIn.day;have z_day:=B3.out.blk.endIn.day;rcases hq0:(a.id==b.id) with _ | _
 ·have hR:R=false:=by rw[HR.out,HI.out,hq0];rfl
  subst hR;go_wp2_with fail
  go_ret;exact⟨rfl,G.out⟩
 rcases hq1:(a.ph==b.ph) with _ | _
 ·have hR:R=false:=by rw[HR.out,HI.out,hq0,hq1];rfl
  subst hR;go_wp2_with fail
  go_ret;exact⟨rfl,G.out⟩
 rcases hq2:(a.pw==b.pw) with _ | _
 ·have hR:R=false:=by rw[HR.out,HI.out,hq0,hq1,hq2];rfl
  subst hR;go_wp2_with fail
  go_ret;exact⟨rfl,G.out⟩
 rcases hq3:(a.own==b.own) with _ | _
 ·have hR:R=false:=by rw[HR.out,HI.out,hq0,hq1,hq2,hq3];rfl
  subst hR;go_wp2_with fail
  go_ret;exact⟨rfl,G.out⟩
 rcases hq4:(a.oth==b.oth) with _ | _
 ·have hR:R=false:=by rw[HR.out,HI.out,hq0,hq1,hq2,hq3,hq4];rfl
  subst hR;go_wp2_with fail
  go_ret;exact⟨rfl,G.out⟩
 rcases hq5:(a.seen==b.seen) with _ | _
 ·have hR:R=false:=by rw[HR.out,HI.out,hq0,hq1,hq2,hq3,hq4,hq5];rfl
  subst hR;go_wp2_with fail
  go_ret;exact⟨rfl,G.out⟩
 rcases hq6:(a.seq==b.seq) with _ | _
 ·have hR:R=false:=by rw[HR.out,HI.out,hq0,hq1,hq2,hq3,hq4,hq5,hq6];rfl
  subst hR;go_wp2_with fail
  go_ret;exact⟨rfl,G.out⟩
 rcases hq7:(a.stan==b.stan) with _ | _
 ·have hR:R=false:=by rw[HR.out,HI.out,hq0,hq1,hq2,hq3,hq4,hq5,hq6,hq7];rfl
  subst hR;go_wp2_with fail
  go_ret;exact⟨rfl,G.out⟩
 have hR:R=(a.day==b.day):=by rw[HR.out,HI.out,hq0,hq1,hq2,hq3,hq4,hq5,hq6,hq7];rfl
 go_wp2_with fail
 go_ret;exact⟨by rw[hR];rfl,G.out⟩
def Ap9(e:Ev):Bool:=decide (∀j,j<e.o.length→(e.o.getD j (0,[])).2.length≤1100)
def Aq0(e:Ev):Bool:=decide (∀j,j<e.g.length→(e.g.getD j default).b.length≤1000)
def Cb7(e:Ev):Bool:=Bc2 e.s1.l e.s2.l&&(Cb1 e.r&&(Bj9 e.h&&(decide (e.k.l.length≤100)&&(decide (e.q.body.length≤1000)&&(decide (Af5 e.u≤9000)&&(decide (e.o.length≤20)&&(decide (e.g.length≤40)&&(Ap9 e&&Aq0 e))))))))
theorem Cn6(e:Ev)(w:World)(h:Y5 w e):Calls Tryz.prog 37 #[.agg (A8 e).toArray] w (D9 w (Cb7 e)):=by
 have P1:=Lh (fun(W:World) (hb:Below w.heap.size w W)=>(show Calls Tryz.prog 87 #[.agg #[.slice e.s1.a e.s1.l.length e.s1.c,.slice e.s2.a e.s2.l.length e.s2.c]] W (D9 W (Bc2 e.s1.l e.s2.l)) from Ds2 _ _ _ W (Ah9 (h.mono hb))));have P2:=Lh (fun(W:World)=>(show Calls Tryz.prog 88 #[.agg e.r.L.toArray] W (D9 W (Cb1 e.r)) from Cy9 e.r W));have P3:=Lh (fun(W:World)=>(show Calls Tryz.prog 89 #[.agg e.h.L.toArray] W (D9 W (Bj9 e.h)) from Eg9 e.h h.hl W));have P4:=Lh (fun(W:World) (hb:Below w.heap.size w W)=>(show Calls Tryz.prog 90 #[.slice e.ua e.u.length e.uc,.int .i64 9000] W fun x w'=>x=.returned (.int .i64 (if Af5 e.u≤9000 then(Af5 e.u:Int) else 9001))∧w'=W from Ed5 e.ua e.uc e.u 9000 W (by decide) (Nat.le_trans h.ul.1 h.ul.2) (h.u.mono hb)));have HO:=Lh (fun(W:World) (hb:Below w.heap.size w W)=>h.o.mono hb);have HG:=Lh (fun(W:World) (hb:Below w.heap.size w W)=>h.g.mono hb);have hol:=h.ol;have hgl:=h.gl;unfold maxLen at hol hgl;have HF:=Lh (show Cb7 e=(Bc2 e.s1.l e.s2.l&&(Cb1 e.r&&(Bj9 e.h&&(decide (e.k.l.length≤100)&&(decide (e.q.body.length≤1000)&&(decide (Af5 e.u≤9000)&&(decide (e.o.length≤20)&&(decide (e.g.length≤40)&&(Ap9 e&&Aq0 e))))))))) from rfl);have HFo:=Lh (show Ap9 e=decide (∀j,j<e.o.length→(e.o.getD j (0,[])).2.length≤1100) from rfl);have HFg:=Lh (show Aq0 e=decide (∀j,j<e.g.length→(e.g.getD j default).b.length≤1000) from rfl);have SR:=Lh Y9;have SH:=Lh (show(Tryz.prog.info? 42).map (·.size)=some e.h.L.length by kernel_rfl);unfold D9 at P1 P2 P3;generalize Cb7 e=R at HF ⊢;generalize Bc2 e.s1.l e.s2.l=s1 at P1 HF;generalize Cb1 e.r=s2 at P2 HF;generalize Bj9 e.h=s3 at P3 HF;obtain⟨V,hV⟩:∃V:Int,V=(if Af5 e.u≤9000 then(Af5 e.u:Int) else 9001):=⟨_,rfl⟩;rw[←hV] at P4;have hV2:decide (Af5 e.u≤9000)=decide (V≤9000):=by
  by_cases hh:Af5 e.u≤9000
  ·rw[decide_eq_true hh,decide_eq_true (by rw[hV,if_pos hh];omega)]
  ·rw[decide_eq_false hh,decide_eq_false (by rw[hV,if_neg hh];omega)]
 rw[hV2] at HF;clear h hV hV2;go_enter Tryz.func37,Tryz.ntmps37
 go_upto_region 1 with(fail)
 generalize hW:World.alloc w _=W;have B1:=Lh (show A5 46 W w.heap.size (A8 e) by rw[←hW];exact A5.new w (A8 e) _);have G:=Lh (show Below w.heap.size w W by rw[←hW];exact ba w _);clear hW;generalize hn1:w.heap.size=n1 at B1 ⊢;clear hn1;have y2:W.cell? ⟨n1,3,none⟩=some (.slice e.s1.a e.s1.l.length e.s1.c):=B1.out.blk.endIn.cell 3 (by decide);have z2:W.cell? ⟨n1,4,none⟩=some (.slice e.s2.a e.s2.l.length e.s2.c):=B1.out.blk.endIn.cell 4 (by decide);go_wp2_with fail
 refine(P1.out _ G.out).mono ?_;rintro x w1 ⟨rfl,hb⟩;replace B1:=Lh (B1.out.up hb);replace G:=Lh (bt G.out hb);clear hb P1 y2 z2;go_wp2_with (refine F5 32 (.tmp 11) rfl ?_;refine C6 32 (.tmp 11) n1 27 (by first | rfl | simp[Region.wanted,yielded]) rfl rfl B1.out.blk.endIn.at_r Tryz.underlying32 rfl SR.out ?_)
 refine(P2.out _).mono ?_;rintro x w2 ⟨rfl,hb⟩;replace B1:=Lh (B1.out.up hb);replace G:=Lh (bt G.out hb);clear hb P2;go_wp2_with (refine F5 42 (.tmp 14) rfl ?_;refine C6 42 (.tmp 14) n1 43 (by first | rfl | simp[Region.wanted,yielded]) rfl rfl B1.out.blk.endIn.at_h Tryz.underlying42 rfl SH.out ?_)
 refine(P3.out _).mono ?_;rintro x w3 ⟨rfl,hb⟩;replace B1:=Lh (B1.out.up hb);replace G:=Lh (bt G.out hb);clear hb P3;go_upto_region 4 with(fail)
 have ck:=B1.out.blk.endIn.k;have cq:=B1.out.blk.endIn.qbody;have cu:=B1.out.blk.endIn.u;have co:=B1.out.blk.endIn.o;have cg:=B1.out.blk.endIn.g;rcases s1 with _ | _
 ·have hR:R=false:=by rw[HF.out];rfl
  subst hR;go_wp2_with fail
  go_ret;exact⟨rfl,G.out⟩
 rcases s2 with _ | _
 ·have hR:R=false:=by rw[HF.out];rfl
  subst hR;go_wp2_with fail
  go_ret;exact⟨rfl,G.out⟩
 rcases s3 with _ | _
 ·have hR:R=false:=by rw[HF.out];rfl
  subst hR;go_wp2_with fail
  go_ret;exact⟨rfl,G.out⟩
 replace HF:=Lh (show R=(decide (e.k.l.length≤100)&&(decide (e.q.body.length≤1000)&&(decide (V≤9000)&&(decide (e.o.length≤20)&&(decide (e.g.length≤40)&&(Ap9 e&&Aq0 e)))))) by rw[HF.out];rfl);by_cases h0:e.k.l.length≤100;rotate_left
 ·have hR:R=false:=by rw[HF.out,decide_eq_false h0];rfl
  subst hR;have hd0:(100:Int)<(e.k.l.length:Int):=by omega
  clear h0;go_wp2_with fail
  go_ret;exact⟨rfl,G.out⟩
 have hd0:¬(100:Int)<(e.k.l.length:Int):=by omega
 replace HF:=Lh (show R=(decide (e.q.body.length≤1000)&&(decide (V≤9000)&&(decide (e.o.length≤20)&&(decide (e.g.length≤40)&&(Ap9 e&&(Aq0 e)))))) by rw[HF.out,decide_eq_true h0];rfl);by_cases h1:e.q.body.length≤1000;rotate_left
 ·have hR:R=false:=by rw[HF.out,decide_eq_false h1];rfl
  subst hR;have hd1:(1000:Int)<(e.q.body.length:Int):=by omega
  clear h1;go_wp2_with fail
  go_ret;exact⟨rfl,G.out⟩
 have hd1:¬(1000:Int)<(e.q.body.length:Int):=by omega
 replace HF:=Lh (show R=(decide (V≤9000)&&(decide (e.o.length≤20)&&(decide (e.g.length≤40)&&(Ap9 e&&(Aq0 e))))) by rw[HF.out,decide_eq_true h1];rfl);by_cases h2:V≤9000;rotate_left
 ·have hR:R=false:=by rw[HF.out,decide_eq_false h2];rfl
  subst hR;have hd2:(9000:Int)<V:=by omega
  clear h2;go_wp2_with fail
  refine(P4.out _ G.out).mono ?_;rintro x w4 ⟨rfl,rfl⟩;go_wp2_with fail
  go_ret;exact⟨rfl,G.out⟩
 have hd2:¬(9000:Int)<V:=by omega
 replace HF:=Lh (show R=(decide (e.o.length≤20)&&(decide (e.g.length≤40)&&(Ap9 e&&(Aq0 e)))) by rw[HF.out,decide_eq_true h2];rfl);by_cases h3:e.o.length≤20;rotate_left
 ·have hR:R=false:=by rw[HF.out,decide_eq_false h3];rfl
  subst hR;have hd3:(20:Int)<(e.o.length:Int):=by omega
  clear h3;go_wp2_with fail
  refine(P4.out _ G.out).mono ?_;rintro x w4 ⟨rfl,rfl⟩;go_wp2_with fail
  go_ret;exact⟨rfl,G.out⟩
 have hd3:¬(20:Int)<(e.o.length:Int):=by omega
 replace HF:=Lh (show R=(decide (e.g.length≤40)&&(Ap9 e&&(Aq0 e))) by rw[HF.out,decide_eq_true h3];rfl);by_cases h4:e.g.length≤40;rotate_left
 ·have hR:R=false:=by rw[HF.out,decide_eq_false h4];rfl
  subst hR;have hd4:(40:Int)<(e.g.length:Int):=by omega
  clear h4;go_wp2_with fail
  refine(P4.out _ G.out).mono ?_;rintro x w4 ⟨rfl,rfl⟩;go_wp2_with fail
  go_ret;exact⟨rfl,G.out⟩
 have hd4:¬(40:Int)<(e.g.length:Int):=by omega
 replace HF:=Lh (show R=(Ap9 e&&(Aq0 e)) by rw[HF.out,decide_eq_true h4];rfl);go_wp2_with fail
 refine(P4.out _ G.out).mono ?_;rintro x w4 ⟨rfl,rfl⟩;go_upto_region 7 with(fail)
 clear ck cq cu hd0 hd1 hd2 hd3 hd4 h0 h1 h2 P4
 go_loopw [6] (fun v wr=>wr=w4∧∃j:Nat,j≤e.o.length∧v=.int .i64 (j:Int)∧∀t,t<j→(e.o.getD t (0,[])).2.length≤1100) (fun v _=>e.o.length-(intOf v).toNat)
 case atStart=>exact⟨rfl,0,Nat.zero_le _,rfl,fun t ht=>absurd ht (by omega)⟩
 case round=>
  obtain⟨rfl,j,hj,rfl,hno⟩:=hrel;have Hno:=Lh hno;clear hno;by_cases hlt:j<e.o.length
  ·obtain⟨g,off,hga,hg,hcs⟩:=(HO.out _ G.out).cell (by omega);obtain⟨p0,c0,x0,x1,-,-,-⟩:=hcs j hlt;have hd1:(j:Int)<(e.o.length:Int):=by omega
   have hd0:(0:Int)≤(j:Int):=by omega
   rw[hga] at co;obtain⟨n0,hn0⟩:∃n,n=(e.o.getD j (0,[])).2.length:=⟨_,rfl⟩;rw[←hn0] at x1;have Hn0:=Lh hn0;clear hcs hn0 x0;by_cases h0:n0≤1100
   ·have hd2:¬(1100:Int)<(n0:Int):=by omega
    go_wp2_with fail
    exact⟨⟨by trivial,j+1,by omega,by go_num,fun t ht=>by
     rcases Nat.lt_or_ge t j with h | h
     ·exact Hno.out t h
     ·rw[show t=j by omega,←Hn0.out];exact h0⟩,by simp[intOf];omega⟩
   ·have hd2:(1100:Int)<(n0:Int):=by omega
    have hRf:R=false:=by
     have hq:Ap9 e=false:=by
      rw[HFo.out,decide_eq_false];intro h;have:=h j hlt;rw[←Hn0.out] at this;omega
     rw[HF.out,hq];rfl
    subst hRf;go_wp2_with fail
    go_ret;exact⟨rfl,G.out⟩
  ·obtain rfl:j=e.o.length:=by omega
   replace HF:=Lh (show R=Aq0 e by rw[HF.out,show Ap9 e=true from by rw[HFo.out,decide_eq_true];exact Hno.out];rfl);clear Hno HFo HO;go_upto_region 12 with(fail)
   go_loopw [7] (fun v wq=>wq=wr∧∃j:Nat,j≤e.g.length∧v=.int .i64 (j:Int)∧∀t,t<j→(e.g.getD t default).b.length≤1000) (fun v _=>e.g.length-(intOf v).toNat)
   case atStart=>exact⟨rfl,0,Nat.zero_le _,rfl,fun t ht=>absurd ht (by omega)⟩
   case round=>
    obtain⟨rfl,j,hj,rfl,hno⟩:=hrel;have Hno:=Lh hno;clear hno;by_cases hlt:j<e.g.length
    ·obtain⟨g,off,hga,hg,hcs⟩:=(HG.out _ G.out).cell (by omega);obtain⟨p0,c0,x0,x1,x2,x3,x4,-,-,-⟩:=hcs j hlt;have hd1:(j:Int)<(e.g.length:Int):=by omega
     have hd0:(0:Int)≤(j:Int):=by omega
     rw[hga] at cg;obtain⟨n0,hn0⟩:∃n,n=(e.g.getD j default).b.length:=⟨_,rfl⟩;rw[←hn0] at x4;have Hn0:=Lh hn0;clear hcs hn0 x0 x1 x2 x3;by_cases h0:n0≤1000
     ·have hd2:¬(1000:Int)<(n0:Int):=by omega
      go_wp2_with fail
      exact⟨⟨by trivial,j+1,by omega,by go_num,fun t ht=>by
       rcases Nat.lt_or_ge t j with h | h
       ·exact Hno.out t h
       ·rw[show t=j by omega,←Hn0.out];exact h0⟩,by simp[intOf];omega⟩
     ·have hd2:(1000:Int)<(n0:Int):=by omega
      have hRf:R=false:=by
       have hq:Aq0 e=false:=by
        rw[HFg.out,decide_eq_false];intro h;have:=h j hlt;rw[←Hn0.out] at this;omega
       rw[HF.out,hq]
      subst hRf;go_wp2_with fail
      go_ret;exact⟨rfl,G.out⟩
    ·obtain rfl:j=e.g.length:=by omega
     have hRt:R=true:=by rw[HF.out,HFg.out,decide_eq_true];exact Hno.out
     subst hRt;go_wp2_with fail
     go_ret;exact⟨rfl,G.out⟩
end Go.Proofs.YtadpiemjgfndgaaGreatDoor
