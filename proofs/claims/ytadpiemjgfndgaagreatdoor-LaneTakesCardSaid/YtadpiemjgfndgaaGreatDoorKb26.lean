/- Proved here, for use further on: LfE LfF LfH. Conditions: none but those each theorem names. -/
import Derived.Test.YtadpiemjgfndgaaGreatDoorKb00
import Derived.Test.YtadpiemjgfndgaaGreatDoorKb25
import Derived.Test.YtadpiemjgfndgaaGreatDoorKb19
import Derived.Test.YtadpiemjgfndgaaGreatDoorKb12
import Derived.Test.YtadpiemjgfndgaaGreatDoorKb08
import Derived.Test.YtadpiemjgfndgaaGreatDoorKb17
import Derived.Test.YtadpiemjgfndgaaGreatDoorKb23
import Derived.Test.YtadpiemjgfndgaaGreatDoorKb21
import Derived.Test.YtadpiemjgfndgaaGreatDoorKb14
import Derived.Test.YtadpiemjgfndgaaGreatDoorKb18
set_option linter.unusedSimpArgs false
set_option linter.unusedVariables false
set_option maxRecDepth 100000
set_option maxHeartbeats 8000000
namespace Go.Proofs.YtadpiemjgfndgaaGreatDoor
open Go.RowKit
theorem Ez3(x y:Operand)(a b:Ev)(r:Bool)(hr:At9 a b=r)(w:World):(eqGuard .eql 28 x y (.agg (D0 a.wt a.wb).toArray) (.agg (D0 b.wt b.wb).toArray)).run Tryz.prog w=.ok () w∧
 (binOp .eql 28 (.agg (D0 a.wt a.wb).toArray) (.agg (D0 b.wt b.wb).toArray)).run Tryz.prog w=.ok (.bool r) w:=by
 refine⟨run_eqGuard_agg (P:=Tryz.prog) w .eql 28 x y _ _ (by kernel_rfl),?_⟩;rw[run_eql_struct,Da6,hr];rfl
theorem Ez4(x y:Operand)(a b:Ev)(r:Bool)(hr:Aq3 a b=r)(w:World):(eqGuard .eql 40 x y (.agg (Ac0 a).toArray) (.agg (Ac0 b).toArray)).run Tryz.prog w=.ok () w∧
 (binOp .eql 40 (.agg (Ac0 a).toArray) (.agg (Ac0 b).toArray)).run Tryz.prog w=.ok (.bool r) w:=by
 refine⟨run_eqGuard_agg (P:=Tryz.prog) w .eql 40 x y _ _ (by kernel_rfl),?_⟩;rw[run_eql_struct,Ef4,hr];rfl
theorem Es9{a:Act}{ks:List Nat}{vs:List Value}(hb:∀k∈ks,k<a.tmps.size)(hl:vs.length=ks.length){parts:Array (Nat×Operand)}{ps:Array (Nat×Value)}(h:(parts.map fun(i,x)=>(i,evX a ks vs [] x))=ps):
 (parts.map fun(i,x)=>(i,(C6 a ks vs).eval x))=ps:=by
 rw[←h]
 congr 1
 funext p;obtain⟨i,x⟩:=p;exact congrArg (Prod.mk i) (Bh4 a ks vs [] hb hl rfl x)
noncomputable def F7:{ops:Array Oper//(Tryz.f43.body.bind (M8 3))=some (.region 3 ops true)}:=⟨_,rfl⟩
abbrev Ac4:List Nat:=(7::8::9::10::11::12::13::14::15::16::17::18::19::20::21::22::23::24::25::26::27::28::29::30::31::32::33::34::35::36::37::38::39::40::41::42::43::44::45::46::47::48::49::50::51::52::53::54::55::56::57::58::59::60::61::62::63::64::65::66::67::68::69::70::71::72::73::74::75::76::77::78::79::80::81::82::83::84::85::86::87::88::89::90::91::92::93::94::95::96::97::98::99::100::101::102::103::104::105::4::[])
theorem Ef5:opx F7.1 0=some (.fieldAddr 46 (.tmp 2) 0,some 7,none):=by kernel_rfl
theorem Ef6:opx F7.1 1=some (.load 3 (.tmp 7),some 8,none):=by kernel_rfl
theorem Ef7:opx F7.1 2=some (.fieldAddr 46 (.tmp 3) 0,some 9,none):=by kernel_rfl
theorem Ef8:opx F7.1 3=some (.load 3 (.tmp 9),some 10,none):=by kernel_rfl
theorem Ef9:opx F7.1 5=some (.fieldAddr 46 (.tmp 2) 1,some 12,none):=by kernel_rfl
theorem Eg0:opx F7.1 6=some (.load 22 (.tmp 12),some 13,none):=by kernel_rfl
theorem Eg1:opx F7.1 7=some (.fieldAddr 46 (.tmp 3) 1,some 14,none):=by kernel_rfl
theorem Eg2:opx F7.1 8=some (.load 22 (.tmp 14),some 15,none):=by kernel_rfl
theorem Eg3:opx F7.1 9=some (.call {callee:=.value (.func 101),args:=#[.tmp 13,.tmp 15],argTypes:=#[22,22]},some 16,none):=by kernel_rfl
theorem Dk3:opx F7.1 10=some (.fieldAddr 46 (.tmp 2) 2,some 17,none):=by kernel_rfl
theorem Dk4:opx F7.1 11=some (.load 3 (.tmp 17),some 18,none):=by kernel_rfl
theorem Dk5:opx F7.1 12=some (.fieldAddr 46 (.tmp 3) 2,some 19,none):=by kernel_rfl
theorem Dk6:opx F7.1 13=some (.load 3 (.tmp 19),some 20,none):=by kernel_rfl
theorem Dk7:opx F7.1 15=some (.fieldAddr 46 (.tmp 2) 3,some 22,none):=by kernel_rfl
theorem Dk8:opx F7.1 16=some (.load 24 (.tmp 22),some 23,none):=by kernel_rfl
theorem Dk9:opx F7.1 17=some (.fieldAddr 46 (.tmp 3) 3,some 24,none):=by kernel_rfl
theorem Dl0:opx F7.1 18=some (.load 24 (.tmp 24),some 25,none):=by kernel_rfl
theorem Dl1:opx F7.1 19=some (.call {callee:=.value (.func 104),args:=#[.tmp 23,.tmp 25],argTypes:=#[24,24]},some 26,none):=by kernel_rfl
theorem Dl2:opx F7.1 20=some (.fieldAddr 46 (.tmp 2) 4,some 27,none):=by kernel_rfl
theorem Dl3:opx F7.1 21=some (.load 3 (.tmp 27),some 28,none):=by kernel_rfl
theorem Dl4:opx F7.1 22=some (.fieldAddr 46 (.tmp 3) 4,some 29,none):=by kernel_rfl
theorem Dl5:opx F7.1 23=some (.load 3 (.tmp 29),some 30,none):=by kernel_rfl
theorem Dl6:opx F7.1 25=some (.fieldAddr 46 (.tmp 2) 5,some 32,none):=by kernel_rfl
theorem Dl7:opx F7.1 26=some (.load 3 (.tmp 32),some 33,none):=by kernel_rfl
theorem Dl8:opx F7.1 27=some (.fieldAddr 46 (.tmp 3) 5,some 34,none):=by kernel_rfl
theorem Dl9:opx F7.1 28=some (.load 3 (.tmp 34),some 35,none):=by kernel_rfl
theorem Dm0:opx F7.1 30=some (.fieldAddr 46 (.tmp 2) 6,some 37,none):=by kernel_rfl
theorem Dm1:opx F7.1 31=some (.load 3 (.tmp 37),some 38,none):=by kernel_rfl
theorem Dm2:opx F7.1 32=some (.fieldAddr 46 (.tmp 3) 6,some 39,none):=by kernel_rfl
theorem Dm3:opx F7.1 33=some (.load 3 (.tmp 39),some 40,none):=by kernel_rfl
theorem Dm4:opx F7.1 35=some (.fieldAddr 46 (.tmp 2) 7,some 42,none):=by kernel_rfl
theorem Dm5:opx F7.1 36=some (.load 3 (.tmp 42),some 43,none):=by kernel_rfl
theorem Dm6:opx F7.1 37=some (.fieldAddr 46 (.tmp 3) 7,some 44,none):=by kernel_rfl
theorem Dm7:opx F7.1 38=some (.load 3 (.tmp 44),some 45,none):=by kernel_rfl
theorem Dm8:opx F7.1 40=some (.fieldAddr 46 (.tmp 2) 8,some 47,none):=by kernel_rfl
theorem Dm9:opx F7.1 41=some (.load 3 (.tmp 47),some 48,none):=by kernel_rfl
theorem Dn0:opx F7.1 42=some (.fieldAddr 46 (.tmp 3) 8,some 49,none):=by kernel_rfl
theorem Dn1:opx F7.1 43=some (.load 3 (.tmp 49),some 50,none):=by kernel_rfl
theorem Dn2:opx F7.1 45=some (.fieldAddr 46 (.tmp 2) 9,some 52,none):=by kernel_rfl
theorem Dn3:opx F7.1 46=some (.load 28 (.tmp 52),some 53,none):=by kernel_rfl
theorem Dn4:opx F7.1 47=some (.fieldAddr 46 (.tmp 3) 9,some 54,none):=by kernel_rfl
theorem Dn5:opx F7.1 48=some (.load 28 (.tmp 54),some 55,none):=by kernel_rfl
theorem Dn6:opx F7.1 49=some (.binOp BinOp.eql 28 (.tmp 53) (.tmp 55) 28,some 56,none):=by kernel_rfl
theorem Dn7:opx F7.1 50=some (.fieldAddr 46 (.tmp 2) 10,some 57,none):=by kernel_rfl
theorem Dn8:opx F7.1 51=some (.load 32 (.tmp 57),some 58,none):=by kernel_rfl
theorem Dn9:opx F7.1 52=some (.fieldAddr 46 (.tmp 3) 10,some 59,none):=by kernel_rfl
theorem Do0:opx F7.1 53=some (.load 32 (.tmp 59),some 60,none):=by kernel_rfl
theorem Do1:opx F7.1 54=some (.call {callee:=.value (.func 105),args:=#[.tmp 58,.tmp 60],argTypes:=#[32,32]},some 61,none):=by kernel_rfl
theorem Do2:opx F7.1 55=some (.fieldAddr 46 (.tmp 2) 11,some 62,none):=by kernel_rfl
theorem Do3:opx F7.1 56=some (.load 34 (.tmp 62),some 63,none):=by kernel_rfl
theorem Do4:opx F7.1 57=some (.fieldAddr 46 (.tmp 3) 11,some 64,none):=by kernel_rfl
theorem Do5:opx F7.1 58=some (.load 34 (.tmp 64),some 65,none):=by kernel_rfl
theorem Do6:opx F7.1 59=some (.call {callee:=.value (.func 106),args:=#[.tmp 63,.tmp 65],argTypes:=#[34,34]},some 66,none):=by kernel_rfl
theorem Do7:opx F7.1 60=some (.fieldAddr 46 (.tmp 2) 12,some 67,none):=by kernel_rfl
theorem Do8:opx F7.1 61=some (.load 3 (.tmp 67),some 68,none):=by kernel_rfl
theorem Do9:opx F7.1 62=some (.fieldAddr 46 (.tmp 3) 12,some 69,none):=by kernel_rfl
theorem Dp0:opx F7.1 63=some (.load 3 (.tmp 69),some 70,none):=by kernel_rfl
theorem Dp1:opx F7.1 65=some (.fieldAddr 46 (.tmp 2) 13,some 72,none):=by kernel_rfl
theorem Dp2:opx F7.1 66=some (.load 3 (.tmp 72),some 73,none):=by kernel_rfl
theorem Dp3:opx F7.1 67=some (.fieldAddr 46 (.tmp 3) 13,some 74,none):=by kernel_rfl
theorem Dp4:opx F7.1 68=some (.load 3 (.tmp 74),some 75,none):=by kernel_rfl
theorem Dp5:opx F7.1 70=some (.fieldAddr 46 (.tmp 2) 14,some 77,none):=by kernel_rfl
theorem Dp6:opx F7.1 71=some (.load 35 (.tmp 77),some 78,none):=by kernel_rfl
theorem Dp7:opx F7.1 72=some (.fieldAddr 46 (.tmp 3) 14,some 79,none):=by kernel_rfl
theorem Dp8:opx F7.1 73=some (.load 35 (.tmp 79),some 80,none):=by kernel_rfl
theorem Dp9:opx F7.1 74=some (.call {callee:=.value (.func 107),args:=#[.tmp 78,.tmp 80,.func 101],argTypes:=#[35,35,78]},some 81,none):=by kernel_rfl
theorem Dq0:opx F7.1 75=some (.fieldAddr 46 (.tmp 2) 15,some 82,none):=by kernel_rfl
theorem Dq1:opx F7.1 76=some (.load 42 (.tmp 82),some 83,none):=by kernel_rfl
theorem Dq2:opx F7.1 77=some (.fieldAddr 46 (.tmp 3) 15,some 84,none):=by kernel_rfl
theorem Dq3:opx F7.1 78=some (.load 42 (.tmp 84),some 85,none):=by kernel_rfl
theorem Dq4:opx F7.1 79=some (.call {callee:=.value (.func 108),args:=#[.tmp 83,.tmp 85],argTypes:=#[42,42]},some 86,none):=by kernel_rfl
theorem Dq5:opx F7.1 80=some (.fieldAddr 46 (.tmp 2) 16,some 87,none):=by kernel_rfl
theorem Dq6:opx F7.1 81=some (.load 43 (.tmp 87),some 88,none):=by kernel_rfl
theorem Dq7:opx F7.1 82=some (.fieldAddr 46 (.tmp 3) 16,some 89,none):=by kernel_rfl
theorem Dq8:opx F7.1 83=some (.load 43 (.tmp 89),some 90,none):=by kernel_rfl
theorem Dq9:opx F7.1 84=some (.move (.tmp 5),some 91,none):=by kernel_rfl
theorem Dr0:opx F7.1 85=some (.call {callee:=.value (.func 109),args:=#[.tmp 88,.tmp 90,.tmp 91],argTypes:=#[43,43,162]},some 92,none):=by kernel_rfl
theorem Dr1:opx F7.1 86=some (.fieldAddr 46 (.tmp 2) 17,some 93,none):=by kernel_rfl
theorem Dr2:opx F7.1 87=some (.load 44 (.tmp 93),some 94,none):=by kernel_rfl
theorem Dr3:opx F7.1 88=some (.fieldAddr 46 (.tmp 3) 17,some 95,none):=by kernel_rfl
theorem Dr4:opx F7.1 89=some (.load 44 (.tmp 95),some 96,none):=by kernel_rfl
theorem Dr5:opx F7.1 90=some (.move (.tmp 6),some 97,none):=by kernel_rfl
theorem Dr6:opx F7.1 91=some (.call {callee:=.value (.func 110),args:=#[.tmp 94,.tmp 96,.tmp 97],argTypes:=#[44,44,163]},some 98,none):=by kernel_rfl
theorem Dr7:opx F7.1 92=some (.fieldAddr 46 (.tmp 2) 18,some 99,none):=by kernel_rfl
theorem Dr8:opx F7.1 93=some (.load 40 (.tmp 99),some 100,none):=by kernel_rfl
theorem Dr9:opx F7.1 94=some (.fieldAddr 46 (.tmp 3) 18,some 101,none):=by kernel_rfl
theorem Ds0:opx F7.1 95=some (.load 40 (.tmp 101),some 102,none):=by kernel_rfl
theorem Ds1:opx F7.1 96=some (.binOp BinOp.eql 40 (.tmp 100) (.tmp 102) 40,some 103,none):=by kernel_rfl
theorem Ds2:opx F7.1 97=some (.buildSlice 201 19 #[(0,.tmp 11),(1,.tmp 16),(2,.tmp 21),(3,.tmp 26),(4,.tmp 31),(5,.tmp 36),(6,.tmp 41),(7,.tmp 46),(8,.tmp 51),(9,.tmp 56),(10,.tmp 61),(11,.tmp 66),(12,.tmp 71),(13,.tmp 76),(14,.tmp 81),(15,.tmp 86),(16,.tmp 92),(17,.tmp 98),(18,.tmp 103)],some 104,none):=by kernel_rfl
theorem Ds3:opx F7.1 98=some (.call {callee:=.value (.func 103),args:=#[.tmp 104],argTypes:=#[201]},some 105,none):=by kernel_rfl
theorem Ds4:opx F7.1 99=some (.assign (.tmp 105),some 4,none):=by kernel_rfl
theorem Eg4:Region.ready .any F7.1 (lm 100 1267650600228229401496703205375)=[]:=by kernel_rfl
theorem Eg5:Region.ready .any F7.1 (lm 100 316912650057057350374175801343)=[98]:=by kernel_rfl
theorem Eg6:Y0 .any F7.1 ((lm 100 316912650057057350374175801343).setIfInBounds 98 true) [99]=true:=by kernel_rfl
theorem Eg7:Ac3 ((lm 100 316912650057057350374175801343).setIfInBounds 98 true) [99]=(lm 100 1267650600228229401496703205375):=by kernel_rfl
theorem Eg8:Region.ready .any F7.1 (lm 100 158456325028528675187087900671)=[97]:=by kernel_rfl
theorem Eg9:Y0 .any F7.1 ((lm 100 158456325028528675187087900671).setIfInBounds 97 true) []=true:=by kernel_rfl
theorem Eh0:Ac3 ((lm 100 158456325028528675187087900671).setIfInBounds 97 true) []=(lm 100 316912650057057350374175801343):=by kernel_rfl
theorem Eh1:Region.ready .any F7.1 (lm 100 155980444949957914637289652223)=[91]:=by kernel_rfl
theorem Eh2:Y0 .any F7.1 ((lm 100 155980444949957914637289652223).setIfInBounds 91 true) []=true:=by kernel_rfl
theorem Eh3:Ac3 ((lm 100 155980444949957914637289652223).setIfInBounds 91 true) []=(lm 100 158456325028528675187087900671):=by kernel_rfl
theorem Ds5:Region.ready .any F7.1 (lm 100 155941759323730246503699054591)=[85]:=by kernel_rfl
theorem Ds6:Y0 .any F7.1 ((lm 100 155941759323730246503699054591).setIfInBounds 85 true) []=true:=by kernel_rfl
theorem Ds7:Ac3 ((lm 100 155941759323730246503699054591).setIfInBounds 85 true) []=(lm 100 155980444949957914637289652223):=by kernel_rfl
theorem Ds8:Region.ready .any F7.1 (lm 100 155941154860820439189111701503)=[79]:=by kernel_rfl
theorem Ds9:Y0 .any F7.1 ((lm 100 155941154860820439189111701503).setIfInBounds 79 true) []=true:=by kernel_rfl
theorem Dt0:Ac3 ((lm 100 155941154860820439189111701503).setIfInBounds 79 true) []=(lm 100 155941759323730246503699054591):=by kernel_rfl
theorem Dt1:Region.ready .any F7.1 (lm 100 155941135971354507710530846719)=[74]:=by kernel_rfl
theorem Dt2:Y0 .any F7.1 ((lm 100 155941135971354507710530846719).setIfInBounds 74 true) []=true:=by kernel_rfl
theorem Dt3:Ac3 ((lm 100 155941135971354507710530846719).setIfInBounds 74 true) []=(lm 100 155941154860820439189111701503):=by kernel_rfl
theorem Dt4:Region.ready .any F7.1 (lm 100 155941135970778046958227423231)=[59]:=by kernel_rfl
theorem Dt5:Y0 .any F7.1 ((lm 100 155941135970778046958227423231).setIfInBounds 59 true) []=true:=by kernel_rfl
theorem Dt6:Ac3 ((lm 100 155941135970778046958227423231).setIfInBounds 59 true) []=(lm 100 155941135971354507710530846719):=by kernel_rfl
theorem Dt7:Region.ready .any F7.1 (lm 100 155941135970760032559717941247)=[54]:=by kernel_rfl
theorem Dt8:Y0 .any F7.1 ((lm 100 155941135970760032559717941247).setIfInBounds 54 true) []=true:=by kernel_rfl
theorem Dt9:Ac3 ((lm 100 155941135970760032559717941247).setIfInBounds 54 true) []=(lm 100 155941135970778046958227423231):=by kernel_rfl
theorem Du0:Region.ready .any F7.1 (lm 100 155941135970760032559717416959)=[19]:=by kernel_rfl
theorem Du1:Y0 .any F7.1 ((lm 100 155941135970760032559717416959).setIfInBounds 19 true) []=true:=by kernel_rfl
theorem Du2:Ac3 ((lm 100 155941135970760032559717416959).setIfInBounds 19 true) []=(lm 100 155941135970760032559717941247):=by kernel_rfl
theorem Du3:Region.ready .any F7.1 (lm 100 155941135970760032559717416447)=[9]:=by kernel_rfl
theorem Du4:Y0 .any F7.1 ((lm 100 155941135970760032559717416447).setIfInBounds 9 true) []=true:=by kernel_rfl
theorem Du5:Ac3 ((lm 100 155941135970760032559717416447).setIfInBounds 9 true) []=(lm 100 155941135970760032559717416959):=by kernel_rfl
theorem Du6:Y0 .any F7.1 (Array.replicate 100 false) [0,1,2,3,4,5,6,7,8,10,11,12,13,14,15,16,17,18,20,21,22,23,24,25,26,27,28,29,30,31]=true:=by kernel_rfl
theorem Du7:Ac3 (Array.replicate 100 false) [0,1,2,3,4,5,6,7,8,10,11,12,13,14,15,16,17,18,20,21,22,23,24,25,26,27,28,29,30,31]=(lm 100 4294442495):=by kernel_rfl
theorem Du8:Y0 .any F7.1 (lm 100 4294442495) [32,33,34,35,36,37,38,39,40,41,42,43,44,45,46,47,48,49,50,51,52,53,55,56,57,58,60,61,62,63]=true:=by kernel_rfl
theorem Du9:Ac3 (lm 100 4294442495) [32,33,34,35,36,37,38,39,40,41,42,43,44,45,46,47,48,49,50,51,52,53,55,56,57,58,60,61,62,63]=(lm 100 17852268922896121343):=by kernel_rfl
theorem Dv0:Y0 .any F7.1 (lm 100 17852268922896121343) [64,65,66,67,68,69,70,71,72,73,75,76,77,78,80,81,82,83,84,86,87,88,89,90,92,93,94,95,96]=true:=by kernel_rfl
theorem Dv1:Ac3 (lm 100 17852268922896121343) [64,65,66,67,68,69,70,71,72,73,75,76,77,78,80,81,82,83,84,86,87,88,89,90,92,93,94,95,96]=(lm 100 155941135970760032559717416447):=by kernel_rfl
theorem Dv2{a_ b_:Ev}{n2 n3:Nat}{s1 s2 s3 s4 s5 s6 s7 s8 s9 s10:Bool}{a:Act}{w:World}{Q:Exit→Act→World→Prop}(hsz:106≤a.tmps.size)
 (e2:a.tmps.getD 2 undef=.pointer (some ⟨n2,0,none⟩)) (e3:a.tmps.getD 3 undef=.pointer (some ⟨n3,0,none⟩)) (e5:a.tmps.getD 5 undef=.func (.func 100) #[] #[]) (e6:a.tmps.getD 6 undef=.func (.func 102) #[] #[])
 (hP:∀c a d v w,Q (.panic c) (Act.put a d v) w→Q (.panic c) a w) (B2:A6 46 w n2 (A8 a_)) (B3:A6 46 w n3 (A8 b_)) (h9:At9 a_ b_=s9) (h10:Aq3 a_ b_=s10)
 (P8:∀u,Below w.heap.size w u→Calls Tryz.prog 101 #[.slice a_.k.a a_.k.l.length a_.k.c,.slice b_.k.a b_.k.l.length b_.k.c] u (fun e w'=>e=.returned (.bool s8)∧u=w'))
 (P1:∀u,Below w.heap.size w u→Calls Tryz.prog 104 #[.agg #[.slice a_.s1.a a_.s1.l.length a_.s1.c,.slice a_.s2.a a_.s2.l.length a_.s2.c],.agg #[.slice b_.s1.a b_.s1.l.length b_.s1.c,.slice b_.s2.a b_.s2.l.length b_.s2.c]] u (F9 u s1))
 (P2:∀u,Below w.heap.size w u→Calls Tryz.prog 105 #[.agg a_.r.L.toArray,.agg b_.r.L.toArray] u (F9 u s2))
 (P3:∀u,Below w.heap.size w u→Calls Tryz.prog 106 #[.agg (M9 a_.q a_.qa a_.qc).toArray,.agg (M9 b_.q b_.qa b_.qc).toArray] u (F9 u s3))
 (P4:∀u,Below w.heap.size w u→Calls Tryz.prog 107 #[.slice a_.ua a_.u.length a_.uc,.slice b_.ua b_.u.length b_.uc,.func (.func 101) #[] #[]] u (F9 u s4))
 (P5:∀u,Below w.heap.size w u→Calls Tryz.prog 108 #[.agg a_.h.L.toArray,.agg b_.h.L.toArray] u (F9 u s5))
 (P6:∀u,Below w.heap.size w u→Calls Tryz.prog 109 #[.slice a_.oa a_.o.length a_.oc,.slice b_.oa b_.o.length b_.oc,.func (.func 100) #[] #[]] u (F9 u s6))
 (P7:∀u,Below w.heap.size w u→Calls Tryz.prog 110 #[.slice a_.ga a_.g.length a_.gc,.slice b_.ga b_.g.length b_.gc,.func (.func 102) #[] #[]] u (F9 u s7))
 (hQ:∀{x7 x8 x9 x10 x11 x12 x13 x14 x15 x16 x17 x18 x19 x20 x21 x22 x23 x24 x25 x26 x27 x28 x29 x30 x31 x32 x33 x34 x35 x36 x37 x38 x39 x40 x41 x42 x43 x44 x45 x46 x47 x48 x49 x50 x51 x52 x53 x54 x55 x56 x57 x58 x59 x60 x61 x62 x63 x64 x65 x66 x67 x68 x69 x70 x71 x72 x73 x74 x75 x76 x77 x78 x79 x80 x81 x82 x83 x84 x85 x86 x87 x88 x89 x90 x91 x92 x93 x94 x95 x96 x97 x98 x99 x100 x101 x102 x103 x104 x105} w',Below w.heap.size w w'→Q .normal (C6 a Ac4 (x7::x8::x9::x10::x11::x12::x13::x14::x15::x16::x17::x18::x19::x20::x21::x22::x23::x24::x25::x26::x27::x28::x29::x30::x31::x32::x33::x34::x35::x36::x37::x38::x39::x40::x41::x42::x43::x44::x45::x46::x47::x48::x49::x50::x51::x52::x53::x54::x55::x56::x57::x58::x59::x60::x61::x62::x63::x64::x65::x66::x67::x68::x69::x70::x71::x72::x73::x74::x75::x76::x77::x78::x79::x80::x81::x82::x83::x84::x85::x86::x87::x88::x89::x90::x91::x92::x93::x94::x95::x96::x97::x98::x99::x100::x101::x102::x103::x104::x105::.bool ([(a_.id==b_.id),s8,(a_.ph==b_.ph),s1,(a_.pw==b_.pw),(a_.own==b_.own),(a_.oth==b_.oth),(a_.seen==b_.seen),(a_.seq==b_.seq),s9,s2,s3,(a_.stan==b_.stan),(a_.day==b_.day),s4,s5,s6,s7,s10].all id)::[])) w'):
 (Code.region 3 F7.1 true).wp Tryz.prog Q a w:=by
 have rG:Rgn F7.1 Ac4 a Q:=⟨fun k hk=>Nat.lt_of_lt_of_le ((by decide:∀k∈Ac4,k<106) k hk) hsz,by kernel_rfl,hP⟩;have hb:=rG.b;obtain⟨i,h0⟩:=U5 a Ac4;let S:World→Prop:=fun w'=>A6 46 w' n2 (A8 a_)∧A6 46 w' n3 (A8 b_);refine wp_region_held_drew (S:=S) (by kernel_rfl) (⟨B2.up (bd _),B3.up (bd _)⟩) fun hHeld=>?_;have N9_19_54_59_74_79_85_91_97_98:∀(u:World) (z:Nat) (G:Below w.heap.size w u),wpAnyH Tryz.prog .any F7.1 Q S 0 (lm 100 1267650600228229401496703205375) (C6 a Ac4 (pt n2 0::i6 a_.id::pt n3 0::i6 b_.id::.bool (a_.id==b_.id)::pt n2 1::.slice a_.k.a a_.k.l.length a_.k.c::pt n3 1::.slice b_.k.a b_.k.l.length b_.k.c::.bool s8::pt n2 2::i6 a_.ph::pt n3 2::i6 b_.ph::.bool (a_.ph==b_.ph)::pt n2 3::.agg #[.slice a_.s1.a a_.s1.l.length a_.s1.c,.slice a_.s2.a a_.s2.l.length a_.s2.c]::pt n3 3::.agg #[.slice b_.s1.a b_.s1.l.length b_.s1.c,.slice b_.s2.a b_.s2.l.length b_.s2.c]::.bool s1::pt n2 5::i6 a_.pw::pt n3 5::i6 b_.pw::.bool (a_.pw==b_.pw)::pt n2 6::i6 a_.own::pt n3 6::i6 b_.own::.bool (a_.own==b_.own)::pt n2 7::i6 a_.oth::pt n3 7::i6 b_.oth::.bool (a_.oth==b_.oth)::pt n2 8::i6 a_.seen::pt n3 8::i6 b_.seen::.bool (a_.seen==b_.seen)::pt n2 9::i6 a_.seq::pt n3 9::i6 b_.seq::.bool (a_.seq==b_.seq)::pt n2 10::.agg (D0 a_.wt a_.wb).toArray::pt n3 10::.agg (D0 b_.wt b_.wb).toArray::.bool s9::pt n2 27::.agg (a_.r.L).toArray::pt n3 27::.agg (b_.r.L).toArray::.bool s2::pt n2 35::.agg (M9 a_.q a_.qa a_.qc).toArray::pt n3 35::.agg (M9 b_.q b_.qa b_.qc).toArray::.bool s3::pt n2 40::i6 a_.stan::pt n3 40::i6 b_.stan::.bool (a_.stan==b_.stan)::pt n2 41::i6 a_.day::pt n3 41::i6 b_.day::.bool (a_.day==b_.day)::pt n2 42::.slice a_.ua a_.u.length a_.uc::pt n3 42::.slice b_.ua b_.u.length b_.uc::.bool s4::pt n2 43::.agg (a_.h.L).toArray::pt n3 43::.agg (b_.h.L).toArray::.bool s5::pt n2 64::.slice a_.oa a_.o.length a_.oc::pt n3 64::.slice b_.oa b_.o.length b_.oc::.func (.func 100) #[] #[]::.bool s6::pt n2 65::.slice a_.ga a_.g.length a_.gc::pt n3 65::.slice b_.ga b_.g.length b_.gc::.func (.func 102) #[] #[]::.bool s7::pt n2 66::.agg (Ac0 a_).toArray::pt n3 66::.agg (Ac0 b_).toArray::.bool s10::.slice (some ⟨z,0,none⟩) 19 19::.bool ([(a_.id==b_.id),s8,(a_.ph==b_.ph),s1,(a_.pw==b_.pw),(a_.own==b_.own),(a_.oth==b_.oth),(a_.seen==b_.seen),(a_.seq==b_.seq),s9,s2,s3,(a_.stan==b_.stan),(a_.day==b_.day),s4,s5,s6,s7,s10].all id)::.bool ([(a_.id==b_.id),s8,(a_.ph==b_.ph),s1,(a_.pw==b_.pw),(a_.own==b_.own),(a_.oth==b_.oth),(a_.seen==b_.seen),(a_.seq==b_.seq),s9,s2,s3,(a_.stan==b_.stan),(a_.day==b_.day),s4,s5,s6,s7,s10].all id)::[])) u:=by
  intro u z G;refine S8 ?_ Eg4;exact hQ _ G
 have N9_19_54_59_74_79_85_91_97:∀(u:World) (z:Nat) (G:Below w.heap.size w u) (Z:At u (some ⟨z,0,none⟩) ([(a_.id==b_.id),s8,(a_.ph==b_.ph),s1,(a_.pw==b_.pw),(a_.own==b_.own),(a_.oth==b_.oth),(a_.seen==b_.seen),(a_.seq==b_.seq),s9,s2,s3,(a_.stan==b_.stan),(a_.day==b_.day),s4,s5,s6,s7,s10].map Value.bool)),wpAnyH Tryz.prog .any F7.1 Q S 2 (lm 100 316912650057057350374175801343) (C6 a Ac4 (pt n2 0::i6 a_.id::pt n3 0::i6 b_.id::.bool (a_.id==b_.id)::pt n2 1::.slice a_.k.a a_.k.l.length a_.k.c::pt n3 1::.slice b_.k.a b_.k.l.length b_.k.c::.bool s8::pt n2 2::i6 a_.ph::pt n3 2::i6 b_.ph::.bool (a_.ph==b_.ph)::pt n2 3::.agg #[.slice a_.s1.a a_.s1.l.length a_.s1.c,.slice a_.s2.a a_.s2.l.length a_.s2.c]::pt n3 3::.agg #[.slice b_.s1.a b_.s1.l.length b_.s1.c,.slice b_.s2.a b_.s2.l.length b_.s2.c]::.bool s1::pt n2 5::i6 a_.pw::pt n3 5::i6 b_.pw::.bool (a_.pw==b_.pw)::pt n2 6::i6 a_.own::pt n3 6::i6 b_.own::.bool (a_.own==b_.own)::pt n2 7::i6 a_.oth::pt n3 7::i6 b_.oth::.bool (a_.oth==b_.oth)::pt n2 8::i6 a_.seen::pt n3 8::i6 b_.seen::.bool (a_.seen==b_.seen)::pt n2 9::i6 a_.seq::pt n3 9::i6 b_.seq::.bool (a_.seq==b_.seq)::pt n2 10::.agg (D0 a_.wt a_.wb).toArray::pt n3 10::.agg (D0 b_.wt b_.wb).toArray::.bool s9::pt n2 27::.agg (a_.r.L).toArray::pt n3 27::.agg (b_.r.L).toArray::.bool s2::pt n2 35::.agg (M9 a_.q a_.qa a_.qc).toArray::pt n3 35::.agg (M9 b_.q b_.qa b_.qc).toArray::.bool s3::pt n2 40::i6 a_.stan::pt n3 40::i6 b_.stan::.bool (a_.stan==b_.stan)::pt n2 41::i6 a_.day::pt n3 41::i6 b_.day::.bool (a_.day==b_.day)::pt n2 42::.slice a_.ua a_.u.length a_.uc::pt n3 42::.slice b_.ua b_.u.length b_.uc::.bool s4::pt n2 43::.agg (a_.h.L).toArray::pt n3 43::.agg (b_.h.L).toArray::.bool s5::pt n2 64::.slice a_.oa a_.o.length a_.oc::pt n3 64::.slice b_.oa b_.o.length b_.oc::.func (.func 100) #[] #[]::.bool s6::pt n2 65::.slice a_.ga a_.g.length a_.gc::pt n3 65::.slice b_.ga b_.g.length b_.gc::.func (.func 102) #[] #[]::.bool s7::pt n2 66::.agg (Ac0 a_).toArray::pt n3 66::.agg (Ac0 b_).toArray::.bool s10::.slice (some ⟨z,0,none⟩) 19 19::i 105::i 4::[])) u:=by
  intro u z G Z;refine D7 [98] (C9 rG Ds3 ?_ AllReadyH.nil) Eg5;intro o hp hd;refine M6 hp (rG.ev1 (.slice (some ⟨z,0,none⟩) 19 19)) (Es8 _ 19 [(a_.id==b_.id),s8,(a_.ph==b_.ph),s1,(a_.pw==b_.pw),(a_.own==b_.own),(a_.oth==b_.oth),(a_.seen==b_.seen),(a_.seq==b_.seq),s9,s2,s3,(a_.stan==b_.stan),(a_.day==b_.day),s4,s5,s6,s7,s10] _ (show(19:Nat)≤1000 by decide) Z) ?_;rintro x u98 ⟨rfl,rfl⟩;refine⟨_,rfl,?_⟩;exact I1 (hok:=Eg6) (hz:=Eg7) rG [(99,4,.bool ([(a_.id==b_.id),s8,(a_.ph==b_.ph),s1,(a_.pw==b_.pw),(a_.own==b_.own),(a_.oth==b_.oth),(a_.seen==b_.seen),(a_.seq==b_.seq),s9,s2,s3,(a_.stan==b_.stan),(a_.day==b_.day),s4,s5,s6,s7,s10].all id))] hd ⟨B2.up (G),B3.up (G)⟩ ⟨Aj2 Ds4,trivial⟩ (N9_19_54_59_74_79_85_91_97_98 _ _ G)
 have N9_19_54_59_74_79_85_91:∀(u:World) (G:Below w.heap.size w u),wpAnyH Tryz.prog .any F7.1 Q S 3 (lm 100 158456325028528675187087900671) (C6 a Ac4 (pt n2 0::i6 a_.id::pt n3 0::i6 b_.id::.bool (a_.id==b_.id)::pt n2 1::.slice a_.k.a a_.k.l.length a_.k.c::pt n3 1::.slice b_.k.a b_.k.l.length b_.k.c::.bool s8::pt n2 2::i6 a_.ph::pt n3 2::i6 b_.ph::.bool (a_.ph==b_.ph)::pt n2 3::.agg #[.slice a_.s1.a a_.s1.l.length a_.s1.c,.slice a_.s2.a a_.s2.l.length a_.s2.c]::pt n3 3::.agg #[.slice b_.s1.a b_.s1.l.length b_.s1.c,.slice b_.s2.a b_.s2.l.length b_.s2.c]::.bool s1::pt n2 5::i6 a_.pw::pt n3 5::i6 b_.pw::.bool (a_.pw==b_.pw)::pt n2 6::i6 a_.own::pt n3 6::i6 b_.own::.bool (a_.own==b_.own)::pt n2 7::i6 a_.oth::pt n3 7::i6 b_.oth::.bool (a_.oth==b_.oth)::pt n2 8::i6 a_.seen::pt n3 8::i6 b_.seen::.bool (a_.seen==b_.seen)::pt n2 9::i6 a_.seq::pt n3 9::i6 b_.seq::.bool (a_.seq==b_.seq)::pt n2 10::.agg (D0 a_.wt a_.wb).toArray::pt n3 10::.agg (D0 b_.wt b_.wb).toArray::.bool s9::pt n2 27::.agg (a_.r.L).toArray::pt n3 27::.agg (b_.r.L).toArray::.bool s2::pt n2 35::.agg (M9 a_.q a_.qa a_.qc).toArray::pt n3 35::.agg (M9 b_.q b_.qa b_.qc).toArray::.bool s3::pt n2 40::i6 a_.stan::pt n3 40::i6 b_.stan::.bool (a_.stan==b_.stan)::pt n2 41::i6 a_.day::pt n3 41::i6 b_.day::.bool (a_.day==b_.day)::pt n2 42::.slice a_.ua a_.u.length a_.uc::pt n3 42::.slice b_.ua b_.u.length b_.uc::.bool s4::pt n2 43::.agg (a_.h.L).toArray::pt n3 43::.agg (b_.h.L).toArray::.bool s5::pt n2 64::.slice a_.oa a_.o.length a_.oc::pt n3 64::.slice b_.oa b_.o.length b_.oc::.func (.func 100) #[] #[]::.bool s6::pt n2 65::.slice a_.ga a_.g.length a_.gc::pt n3 65::.slice b_.ga b_.g.length b_.gc::.func (.func 102) #[] #[]::.bool s7::pt n2 66::.agg (Ac0 a_).toArray::pt n3 66::.agg (Ac0 b_).toArray::.bool s10::i 104::i 105::i 4::[])) u:=by
  intro u G;refine D7 [97] (C9 rG Ds2 ?_ AllReadyH.nil) Eg8;intro o hp hd;refine Ax5 201 4 19 _ hp (ps:=#[(0,.bool (a_.id==b_.id)),(1,.bool s8),(2,.bool (a_.ph==b_.ph)),(3,.bool s1),(4,.bool (a_.pw==b_.pw)),(5,.bool (a_.own==b_.own)),(6,.bool (a_.oth==b_.oth)),(7,.bool (a_.seen==b_.seen)),(8,.bool (a_.seq==b_.seq)),(9,.bool s9),(10,.bool s2),(11,.bool s3),(12,.bool (a_.stan==b_.stan)),(13,.bool (a_.day==b_.day)),(14,.bool s4),(15,.bool s5),(16,.bool s6),(17,.bool s7),(18,.bool s10)]) (Es9 hb rfl (by simp only[List.map_toArray,List.map_cons,List.map_nil];rfl)) (cs:=([(a_.id==b_.id),s8,(a_.ph==b_.ph),s1,(a_.pw==b_.pw),(a_.own==b_.own),(a_.oth==b_.oth),(a_.seen==b_.seen),(a_.seq==b_.seq),s9,s2,s3,(a_.stan==b_.stan),(a_.day==b_.day),s4,s5,s6,s7,s10].map Value.bool).toArray) (fun w=>by kernel_rfl) ?_;exact I1 (hok:=Eg9) (hz:=Eh0) rG [] hd ⟨B2.up (bt G (ba _ _)),B3.up (bt G (ba _ _))⟩ trivial (N9_19_54_59_74_79_85_91_97 _ _ (bt G (ba _ _)) (U7 u ([(a_.id==b_.id),s8,(a_.ph==b_.ph),s1,(a_.pw==b_.pw),(a_.own==b_.own),(a_.oth==b_.oth),(a_.seen==b_.seen),(a_.seq==b_.seq),s9,s2,s3,(a_.stan==b_.stan),(a_.day==b_.day),s4,s5,s6,s7,s10].map Value.bool) _))
 have N9_19_54_59_74_79_85:∀(u:World) (G:Below w.heap.size w u),wpAnyH Tryz.prog .any F7.1 Q S 4 (lm 100 155980444949957914637289652223) (C6 a Ac4 (pt n2 0::i6 a_.id::pt n3 0::i6 b_.id::.bool (a_.id==b_.id)::pt n2 1::.slice a_.k.a a_.k.l.length a_.k.c::pt n3 1::.slice b_.k.a b_.k.l.length b_.k.c::.bool s8::pt n2 2::i6 a_.ph::pt n3 2::i6 b_.ph::.bool (a_.ph==b_.ph)::pt n2 3::.agg #[.slice a_.s1.a a_.s1.l.length a_.s1.c,.slice a_.s2.a a_.s2.l.length a_.s2.c]::pt n3 3::.agg #[.slice b_.s1.a b_.s1.l.length b_.s1.c,.slice b_.s2.a b_.s2.l.length b_.s2.c]::.bool s1::pt n2 5::i6 a_.pw::pt n3 5::i6 b_.pw::.bool (a_.pw==b_.pw)::pt n2 6::i6 a_.own::pt n3 6::i6 b_.own::.bool (a_.own==b_.own)::pt n2 7::i6 a_.oth::pt n3 7::i6 b_.oth::.bool (a_.oth==b_.oth)::pt n2 8::i6 a_.seen::pt n3 8::i6 b_.seen::.bool (a_.seen==b_.seen)::pt n2 9::i6 a_.seq::pt n3 9::i6 b_.seq::.bool (a_.seq==b_.seq)::pt n2 10::.agg (D0 a_.wt a_.wb).toArray::pt n3 10::.agg (D0 b_.wt b_.wb).toArray::.bool s9::pt n2 27::.agg (a_.r.L).toArray::pt n3 27::.agg (b_.r.L).toArray::.bool s2::pt n2 35::.agg (M9 a_.q a_.qa a_.qc).toArray::pt n3 35::.agg (M9 b_.q b_.qa b_.qc).toArray::.bool s3::pt n2 40::i6 a_.stan::pt n3 40::i6 b_.stan::.bool (a_.stan==b_.stan)::pt n2 41::i6 a_.day::pt n3 41::i6 b_.day::.bool (a_.day==b_.day)::pt n2 42::.slice a_.ua a_.u.length a_.uc::pt n3 42::.slice b_.ua b_.u.length b_.uc::.bool s4::pt n2 43::.agg (a_.h.L).toArray::pt n3 43::.agg (b_.h.L).toArray::.bool s5::pt n2 64::.slice a_.oa a_.o.length a_.oc::pt n3 64::.slice b_.oa b_.o.length b_.oc::.func (.func 100) #[] #[]::.bool s6::pt n2 65::.slice a_.ga a_.g.length a_.gc::pt n3 65::.slice b_.ga b_.g.length b_.gc::.func (.func 102) #[] #[]::i 98::pt n2 66::.agg (Ac0 a_).toArray::pt n3 66::.agg (Ac0 b_).toArray::.bool s10::i 104::i 105::i 4::[])) u:=by
  intro u G;refine D7 [91] (C9 rG Dr6 ?_ AllReadyH.nil) Eh1;intro o hp hd;refine M6 hp (ev3 (show Act.eval _ _=.slice a_.ga a_.g.length a_.gc from rG.ev) (show Act.eval _ _=.slice b_.ga b_.g.length b_.gc from rG.ev) (show Act.eval _ _=.func (.func 102) #[] #[] from rG.ev)) (P7 u G) ?_;rintro x u91 ⟨rfl,hb91⟩;refine⟨_,rfl,?_⟩;exact I1 (hok:=Eh2) (hz:=Eh3) rG [] hd ⟨B2.up (bt G hb91),B3.up (bt G hb91)⟩ trivial (N9_19_54_59_74_79_85_91 _  (bt G hb91))
 have N9_19_54_59_74_79:∀(u:World) (G:Below w.heap.size w u),wpAnyH Tryz.prog .any F7.1 Q S 5 (lm 100 155941759323730246503699054591) (C6 a Ac4 (pt n2 0::i6 a_.id::pt n3 0::i6 b_.id::.bool (a_.id==b_.id)::pt n2 1::.slice a_.k.a a_.k.l.length a_.k.c::pt n3 1::.slice b_.k.a b_.k.l.length b_.k.c::.bool s8::pt n2 2::i6 a_.ph::pt n3 2::i6 b_.ph::.bool (a_.ph==b_.ph)::pt n2 3::.agg #[.slice a_.s1.a a_.s1.l.length a_.s1.c,.slice a_.s2.a a_.s2.l.length a_.s2.c]::pt n3 3::.agg #[.slice b_.s1.a b_.s1.l.length b_.s1.c,.slice b_.s2.a b_.s2.l.length b_.s2.c]::.bool s1::pt n2 5::i6 a_.pw::pt n3 5::i6 b_.pw::.bool (a_.pw==b_.pw)::pt n2 6::i6 a_.own::pt n3 6::i6 b_.own::.bool (a_.own==b_.own)::pt n2 7::i6 a_.oth::pt n3 7::i6 b_.oth::.bool (a_.oth==b_.oth)::pt n2 8::i6 a_.seen::pt n3 8::i6 b_.seen::.bool (a_.seen==b_.seen)::pt n2 9::i6 a_.seq::pt n3 9::i6 b_.seq::.bool (a_.seq==b_.seq)::pt n2 10::.agg (D0 a_.wt a_.wb).toArray::pt n3 10::.agg (D0 b_.wt b_.wb).toArray::.bool s9::pt n2 27::.agg (a_.r.L).toArray::pt n3 27::.agg (b_.r.L).toArray::.bool s2::pt n2 35::.agg (M9 a_.q a_.qa a_.qc).toArray::pt n3 35::.agg (M9 b_.q b_.qa b_.qc).toArray::.bool s3::pt n2 40::i6 a_.stan::pt n3 40::i6 b_.stan::.bool (a_.stan==b_.stan)::pt n2 41::i6 a_.day::pt n3 41::i6 b_.day::.bool (a_.day==b_.day)::pt n2 42::.slice a_.ua a_.u.length a_.uc::pt n3 42::.slice b_.ua b_.u.length b_.uc::.bool s4::pt n2 43::.agg (a_.h.L).toArray::pt n3 43::.agg (b_.h.L).toArray::.bool s5::pt n2 64::.slice a_.oa a_.o.length a_.oc::pt n3 64::.slice b_.oa b_.o.length b_.oc::.func (.func 100) #[] #[]::i 92::pt n2 65::.slice a_.ga a_.g.length a_.gc::pt n3 65::.slice b_.ga b_.g.length b_.gc::.func (.func 102) #[] #[]::i 98::pt n2 66::.agg (Ac0 a_).toArray::pt n3 66::.agg (Ac0 b_).toArray::.bool s10::i 104::i 105::i 4::[])) u:=by
  intro u G;refine D7 [85] (C9 rG Dr0 ?_ AllReadyH.nil) Ds5;intro o hp hd;refine M6 hp (ev3 (show Act.eval _ _=.slice a_.oa a_.o.length a_.oc from rG.ev) (show Act.eval _ _=.slice b_.oa b_.o.length b_.oc from rG.ev) (show Act.eval _ _=.func (.func 100) #[] #[] from rG.ev)) (P6 u G) ?_;rintro x u85 ⟨rfl,hb85⟩;refine⟨_,rfl,?_⟩;exact I1 (hok:=Ds6) (hz:=Ds7) rG [] hd ⟨B2.up (bt G hb85),B3.up (bt G hb85)⟩ trivial (N9_19_54_59_74_79_85 _  (bt G hb85))
 have N9_19_54_59_74:∀(u:World) (G:Below w.heap.size w u),wpAnyH Tryz.prog .any F7.1 Q S 6 (lm 100 155941154860820439189111701503) (C6 a Ac4 (pt n2 0::i6 a_.id::pt n3 0::i6 b_.id::.bool (a_.id==b_.id)::pt n2 1::.slice a_.k.a a_.k.l.length a_.k.c::pt n3 1::.slice b_.k.a b_.k.l.length b_.k.c::.bool s8::pt n2 2::i6 a_.ph::pt n3 2::i6 b_.ph::.bool (a_.ph==b_.ph)::pt n2 3::.agg #[.slice a_.s1.a a_.s1.l.length a_.s1.c,.slice a_.s2.a a_.s2.l.length a_.s2.c]::pt n3 3::.agg #[.slice b_.s1.a b_.s1.l.length b_.s1.c,.slice b_.s2.a b_.s2.l.length b_.s2.c]::.bool s1::pt n2 5::i6 a_.pw::pt n3 5::i6 b_.pw::.bool (a_.pw==b_.pw)::pt n2 6::i6 a_.own::pt n3 6::i6 b_.own::.bool (a_.own==b_.own)::pt n2 7::i6 a_.oth::pt n3 7::i6 b_.oth::.bool (a_.oth==b_.oth)::pt n2 8::i6 a_.seen::pt n3 8::i6 b_.seen::.bool (a_.seen==b_.seen)::pt n2 9::i6 a_.seq::pt n3 9::i6 b_.seq::.bool (a_.seq==b_.seq)::pt n2 10::.agg (D0 a_.wt a_.wb).toArray::pt n3 10::.agg (D0 b_.wt b_.wb).toArray::.bool s9::pt n2 27::.agg (a_.r.L).toArray::pt n3 27::.agg (b_.r.L).toArray::.bool s2::pt n2 35::.agg (M9 a_.q a_.qa a_.qc).toArray::pt n3 35::.agg (M9 b_.q b_.qa b_.qc).toArray::.bool s3::pt n2 40::i6 a_.stan::pt n3 40::i6 b_.stan::.bool (a_.stan==b_.stan)::pt n2 41::i6 a_.day::pt n3 41::i6 b_.day::.bool (a_.day==b_.day)::pt n2 42::.slice a_.ua a_.u.length a_.uc::pt n3 42::.slice b_.ua b_.u.length b_.uc::.bool s4::pt n2 43::.agg (a_.h.L).toArray::pt n3 43::.agg (b_.h.L).toArray::i 86::pt n2 64::.slice a_.oa a_.o.length a_.oc::pt n3 64::.slice b_.oa b_.o.length b_.oc::.func (.func 100) #[] #[]::i 92::pt n2 65::.slice a_.ga a_.g.length a_.gc::pt n3 65::.slice b_.ga b_.g.length b_.gc::.func (.func 102) #[] #[]::i 98::pt n2 66::.agg (Ac0 a_).toArray::pt n3 66::.agg (Ac0 b_).toArray::.bool s10::i 104::i 105::i 4::[])) u:=by
  intro u G;refine D7 [79] (C9 rG Dq4 ?_ AllReadyH.nil) Ds8;intro o hp hd;refine M6 hp (ev2 (show Act.eval _ _=.agg (a_.h.L).toArray from rG.ev) (show Act.eval _ _=.agg (b_.h.L).toArray from rG.ev)) (P5 u G) ?_;rintro x u79 ⟨rfl,hb79⟩;refine⟨_,rfl,?_⟩;exact I1 (hok:=Ds9) (hz:=Dt0) rG [] hd ⟨B2.up (bt G hb79),B3.up (bt G hb79)⟩ trivial (N9_19_54_59_74_79 _  (bt G hb79))
 have N9_19_54_59:∀(u:World) (G:Below w.heap.size w u),wpAnyH Tryz.prog .any F7.1 Q S 7 (lm 100 155941135971354507710530846719) (C6 a Ac4 (pt n2 0::i6 a_.id::pt n3 0::i6 b_.id::.bool (a_.id==b_.id)::pt n2 1::.slice a_.k.a a_.k.l.length a_.k.c::pt n3 1::.slice b_.k.a b_.k.l.length b_.k.c::.bool s8::pt n2 2::i6 a_.ph::pt n3 2::i6 b_.ph::.bool (a_.ph==b_.ph)::pt n2 3::.agg #[.slice a_.s1.a a_.s1.l.length a_.s1.c,.slice a_.s2.a a_.s2.l.length a_.s2.c]::pt n3 3::.agg #[.slice b_.s1.a b_.s1.l.length b_.s1.c,.slice b_.s2.a b_.s2.l.length b_.s2.c]::.bool s1::pt n2 5::i6 a_.pw::pt n3 5::i6 b_.pw::.bool (a_.pw==b_.pw)::pt n2 6::i6 a_.own::pt n3 6::i6 b_.own::.bool (a_.own==b_.own)::pt n2 7::i6 a_.oth::pt n3 7::i6 b_.oth::.bool (a_.oth==b_.oth)::pt n2 8::i6 a_.seen::pt n3 8::i6 b_.seen::.bool (a_.seen==b_.seen)::pt n2 9::i6 a_.seq::pt n3 9::i6 b_.seq::.bool (a_.seq==b_.seq)::pt n2 10::.agg (D0 a_.wt a_.wb).toArray::pt n3 10::.agg (D0 b_.wt b_.wb).toArray::.bool s9::pt n2 27::.agg (a_.r.L).toArray::pt n3 27::.agg (b_.r.L).toArray::.bool s2::pt n2 35::.agg (M9 a_.q a_.qa a_.qc).toArray::pt n3 35::.agg (M9 b_.q b_.qa b_.qc).toArray::.bool s3::pt n2 40::i6 a_.stan::pt n3 40::i6 b_.stan::.bool (a_.stan==b_.stan)::pt n2 41::i6 a_.day::pt n3 41::i6 b_.day::.bool (a_.day==b_.day)::pt n2 42::.slice a_.ua a_.u.length a_.uc::pt n3 42::.slice b_.ua b_.u.length b_.uc::i 81::pt n2 43::.agg (a_.h.L).toArray::pt n3 43::.agg (b_.h.L).toArray::i 86::pt n2 64::.slice a_.oa a_.o.length a_.oc::pt n3 64::.slice b_.oa b_.o.length b_.oc::.func (.func 100) #[] #[]::i 92::pt n2 65::.slice a_.ga a_.g.length a_.gc::pt n3 65::.slice b_.ga b_.g.length b_.gc::.func (.func 102) #[] #[]::i 98::pt n2 66::.agg (Ac0 a_).toArray::pt n3 66::.agg (Ac0 b_).toArray::.bool s10::i 104::i 105::i 4::[])) u:=by
  intro u G;refine D7 [74] (C9 rG Dp9 ?_ AllReadyH.nil) Dt1;intro o hp hd;refine M6 hp (ev3 (show Act.eval _ _=.slice a_.ua a_.u.length a_.uc from rG.ev) (show Act.eval _ _=.slice b_.ua b_.u.length b_.uc from rG.ev) (show Act.eval _ _=.func (.func 101) #[] #[] from rfl)) (P4 u G) ?_;rintro x u74 ⟨rfl,hb74⟩;refine⟨_,rfl,?_⟩;exact I1 (hok:=Dt2) (hz:=Dt3) rG [] hd ⟨B2.up (bt G hb74),B3.up (bt G hb74)⟩ trivial (N9_19_54_59_74 _  (bt G hb74))
 have N9_19_54:∀(u:World) (G:Below w.heap.size w u),wpAnyH Tryz.prog .any F7.1 Q S 8 (lm 100 155941135970778046958227423231) (C6 a Ac4 (pt n2 0::i6 a_.id::pt n3 0::i6 b_.id::.bool (a_.id==b_.id)::pt n2 1::.slice a_.k.a a_.k.l.length a_.k.c::pt n3 1::.slice b_.k.a b_.k.l.length b_.k.c::.bool s8::pt n2 2::i6 a_.ph::pt n3 2::i6 b_.ph::.bool (a_.ph==b_.ph)::pt n2 3::.agg #[.slice a_.s1.a a_.s1.l.length a_.s1.c,.slice a_.s2.a a_.s2.l.length a_.s2.c]::pt n3 3::.agg #[.slice b_.s1.a b_.s1.l.length b_.s1.c,.slice b_.s2.a b_.s2.l.length b_.s2.c]::.bool s1::pt n2 5::i6 a_.pw::pt n3 5::i6 b_.pw::.bool (a_.pw==b_.pw)::pt n2 6::i6 a_.own::pt n3 6::i6 b_.own::.bool (a_.own==b_.own)::pt n2 7::i6 a_.oth::pt n3 7::i6 b_.oth::.bool (a_.oth==b_.oth)::pt n2 8::i6 a_.seen::pt n3 8::i6 b_.seen::.bool (a_.seen==b_.seen)::pt n2 9::i6 a_.seq::pt n3 9::i6 b_.seq::.bool (a_.seq==b_.seq)::pt n2 10::.agg (D0 a_.wt a_.wb).toArray::pt n3 10::.agg (D0 b_.wt b_.wb).toArray::.bool s9::pt n2 27::.agg (a_.r.L).toArray::pt n3 27::.agg (b_.r.L).toArray::.bool s2::pt n2 35::.agg (M9 a_.q a_.qa a_.qc).toArray::pt n3 35::.agg (M9 b_.q b_.qa b_.qc).toArray::i 66::pt n2 40::i6 a_.stan::pt n3 40::i6 b_.stan::.bool (a_.stan==b_.stan)::pt n2 41::i6 a_.day::pt n3 41::i6 b_.day::.bool (a_.day==b_.day)::pt n2 42::.slice a_.ua a_.u.length a_.uc::pt n3 42::.slice b_.ua b_.u.length b_.uc::i 81::pt n2 43::.agg (a_.h.L).toArray::pt n3 43::.agg (b_.h.L).toArray::i 86::pt n2 64::.slice a_.oa a_.o.length a_.oc::pt n3 64::.slice b_.oa b_.o.length b_.oc::.func (.func 100) #[] #[]::i 92::pt n2 65::.slice a_.ga a_.g.length a_.gc::pt n3 65::.slice b_.ga b_.g.length b_.gc::.func (.func 102) #[] #[]::i 98::pt n2 66::.agg (Ac0 a_).toArray::pt n3 66::.agg (Ac0 b_).toArray::.bool s10::i 104::i 105::i 4::[])) u:=by
  intro u G;refine D7 [59] (C9 rG Do6 ?_ AllReadyH.nil) Dt4;intro o hp hd;refine M6 hp (ev2 (show Act.eval _ _=.agg (M9 a_.q a_.qa a_.qc).toArray from rG.ev) (show Act.eval _ _=.agg (M9 b_.q b_.qa b_.qc).toArray from rG.ev)) (P3 u G) ?_;rintro x u59 ⟨rfl,hb59⟩;refine⟨_,rfl,?_⟩;exact I1 (hok:=Dt5) (hz:=Dt6) rG [] hd ⟨B2.up (bt G hb59),B3.up (bt G hb59)⟩ trivial (N9_19_54_59 _  (bt G hb59))
 have N9_19:∀(u:World) (G:Below w.heap.size w u),wpAnyH Tryz.prog .any F7.1 Q S 9 (lm 100 155941135970760032559717941247) (C6 a Ac4 (pt n2 0::i6 a_.id::pt n3 0::i6 b_.id::.bool (a_.id==b_.id)::pt n2 1::.slice a_.k.a a_.k.l.length a_.k.c::pt n3 1::.slice b_.k.a b_.k.l.length b_.k.c::.bool s8::pt n2 2::i6 a_.ph::pt n3 2::i6 b_.ph::.bool (a_.ph==b_.ph)::pt n2 3::.agg #[.slice a_.s1.a a_.s1.l.length a_.s1.c,.slice a_.s2.a a_.s2.l.length a_.s2.c]::pt n3 3::.agg #[.slice b_.s1.a b_.s1.l.length b_.s1.c,.slice b_.s2.a b_.s2.l.length b_.s2.c]::.bool s1::pt n2 5::i6 a_.pw::pt n3 5::i6 b_.pw::.bool (a_.pw==b_.pw)::pt n2 6::i6 a_.own::pt n3 6::i6 b_.own::.bool (a_.own==b_.own)::pt n2 7::i6 a_.oth::pt n3 7::i6 b_.oth::.bool (a_.oth==b_.oth)::pt n2 8::i6 a_.seen::pt n3 8::i6 b_.seen::.bool (a_.seen==b_.seen)::pt n2 9::i6 a_.seq::pt n3 9::i6 b_.seq::.bool (a_.seq==b_.seq)::pt n2 10::.agg (D0 a_.wt a_.wb).toArray::pt n3 10::.agg (D0 b_.wt b_.wb).toArray::.bool s9::pt n2 27::.agg (a_.r.L).toArray::pt n3 27::.agg (b_.r.L).toArray::i 61::pt n2 35::.agg (M9 a_.q a_.qa a_.qc).toArray::pt n3 35::.agg (M9 b_.q b_.qa b_.qc).toArray::i 66::pt n2 40::i6 a_.stan::pt n3 40::i6 b_.stan::.bool (a_.stan==b_.stan)::pt n2 41::i6 a_.day::pt n3 41::i6 b_.day::.bool (a_.day==b_.day)::pt n2 42::.slice a_.ua a_.u.length a_.uc::pt n3 42::.slice b_.ua b_.u.length b_.uc::i 81::pt n2 43::.agg (a_.h.L).toArray::pt n3 43::.agg (b_.h.L).toArray::i 86::pt n2 64::.slice a_.oa a_.o.length a_.oc::pt n3 64::.slice b_.oa b_.o.length b_.oc::.func (.func 100) #[] #[]::i 92::pt n2 65::.slice a_.ga a_.g.length a_.gc::pt n3 65::.slice b_.ga b_.g.length b_.gc::.func (.func 102) #[] #[]::i 98::pt n2 66::.agg (Ac0 a_).toArray::pt n3 66::.agg (Ac0 b_).toArray::.bool s10::i 104::i 105::i 4::[])) u:=by
  intro u G;refine D7 [54] (C9 rG Do1 ?_ AllReadyH.nil) Dt7;intro o hp hd;refine M6 hp (ev2 (show Act.eval _ _=.agg (a_.r.L).toArray from rG.ev) (show Act.eval _ _=.agg (b_.r.L).toArray from rG.ev)) (P2 u G) ?_;rintro x u54 ⟨rfl,hb54⟩;refine⟨_,rfl,?_⟩;exact I1 (hok:=Dt8) (hz:=Dt9) rG [] hd ⟨B2.up (bt G hb54),B3.up (bt G hb54)⟩ trivial (N9_19_54 _  (bt G hb54))
 have N9:∀(u:World) (G:Below w.heap.size w u),wpAnyH Tryz.prog .any F7.1 Q S 10 (lm 100 155941135970760032559717416959) (C6 a Ac4 (pt n2 0::i6 a_.id::pt n3 0::i6 b_.id::.bool (a_.id==b_.id)::pt n2 1::.slice a_.k.a a_.k.l.length a_.k.c::pt n3 1::.slice b_.k.a b_.k.l.length b_.k.c::.bool s8::pt n2 2::i6 a_.ph::pt n3 2::i6 b_.ph::.bool (a_.ph==b_.ph)::pt n2 3::.agg #[.slice a_.s1.a a_.s1.l.length a_.s1.c,.slice a_.s2.a a_.s2.l.length a_.s2.c]::pt n3 3::.agg #[.slice b_.s1.a b_.s1.l.length b_.s1.c,.slice b_.s2.a b_.s2.l.length b_.s2.c]::i 26::pt n2 5::i6 a_.pw::pt n3 5::i6 b_.pw::.bool (a_.pw==b_.pw)::pt n2 6::i6 a_.own::pt n3 6::i6 b_.own::.bool (a_.own==b_.own)::pt n2 7::i6 a_.oth::pt n3 7::i6 b_.oth::.bool (a_.oth==b_.oth)::pt n2 8::i6 a_.seen::pt n3 8::i6 b_.seen::.bool (a_.seen==b_.seen)::pt n2 9::i6 a_.seq::pt n3 9::i6 b_.seq::.bool (a_.seq==b_.seq)::pt n2 10::.agg (D0 a_.wt a_.wb).toArray::pt n3 10::.agg (D0 b_.wt b_.wb).toArray::.bool s9::pt n2 27::.agg (a_.r.L).toArray::pt n3 27::.agg (b_.r.L).toArray::i 61::pt n2 35::.agg (M9 a_.q a_.qa a_.qc).toArray::pt n3 35::.agg (M9 b_.q b_.qa b_.qc).toArray::i 66::pt n2 40::i6 a_.stan::pt n3 40::i6 b_.stan::.bool (a_.stan==b_.stan)::pt n2 41::i6 a_.day::pt n3 41::i6 b_.day::.bool (a_.day==b_.day)::pt n2 42::.slice a_.ua a_.u.length a_.uc::pt n3 42::.slice b_.ua b_.u.length b_.uc::i 81::pt n2 43::.agg (a_.h.L).toArray::pt n3 43::.agg (b_.h.L).toArray::i 86::pt n2 64::.slice a_.oa a_.o.length a_.oc::pt n3 64::.slice b_.oa b_.o.length b_.oc::.func (.func 100) #[] #[]::i 92::pt n2 65::.slice a_.ga a_.g.length a_.gc::pt n3 65::.slice b_.ga b_.g.length b_.gc::.func (.func 102) #[] #[]::i 98::pt n2 66::.agg (Ac0 a_).toArray::pt n3 66::.agg (Ac0 b_).toArray::.bool s10::i 104::i 105::i 4::[])) u:=by
  intro u G;refine D7 [19] (C9 rG Dl1 ?_ AllReadyH.nil) Du0;intro o hp hd;refine M6 hp (ev2 (show Act.eval _ _=.agg #[.slice a_.s1.a a_.s1.l.length a_.s1.c,.slice a_.s2.a a_.s2.l.length a_.s2.c] from rG.ev) (show Act.eval _ _=.agg #[.slice b_.s1.a b_.s1.l.length b_.s1.c,.slice b_.s2.a b_.s2.l.length b_.s2.c] from rG.ev)) (P1 u G) ?_;rintro x u19 ⟨rfl,hb19⟩;refine⟨_,rfl,?_⟩;exact I1 (hok:=Du1) (hz:=Du2) rG [] hd ⟨B2.up (bt G hb19),B3.up (bt G hb19)⟩ trivial (N9_19 _  (bt G hb19))
 have N0:∀(u:World) (G:Below w.heap.size w u),wpAnyH Tryz.prog .any F7.1 Q S 11 (lm 100 155941135970760032559717416447) (C6 a Ac4 (pt n2 0::i6 a_.id::pt n3 0::i6 b_.id::.bool (a_.id==b_.id)::pt n2 1::.slice a_.k.a a_.k.l.length a_.k.c::pt n3 1::.slice b_.k.a b_.k.l.length b_.k.c::i 16::pt n2 2::i6 a_.ph::pt n3 2::i6 b_.ph::.bool (a_.ph==b_.ph)::pt n2 3::.agg #[.slice a_.s1.a a_.s1.l.length a_.s1.c,.slice a_.s2.a a_.s2.l.length a_.s2.c]::pt n3 3::.agg #[.slice b_.s1.a b_.s1.l.length b_.s1.c,.slice b_.s2.a b_.s2.l.length b_.s2.c]::i 26::pt n2 5::i6 a_.pw::pt n3 5::i6 b_.pw::.bool (a_.pw==b_.pw)::pt n2 6::i6 a_.own::pt n3 6::i6 b_.own::.bool (a_.own==b_.own)::pt n2 7::i6 a_.oth::pt n3 7::i6 b_.oth::.bool (a_.oth==b_.oth)::pt n2 8::i6 a_.seen::pt n3 8::i6 b_.seen::.bool (a_.seen==b_.seen)::pt n2 9::i6 a_.seq::pt n3 9::i6 b_.seq::.bool (a_.seq==b_.seq)::pt n2 10::.agg (D0 a_.wt a_.wb).toArray::pt n3 10::.agg (D0 b_.wt b_.wb).toArray::.bool s9::pt n2 27::.agg (a_.r.L).toArray::pt n3 27::.agg (b_.r.L).toArray::i 61::pt n2 35::.agg (M9 a_.q a_.qa a_.qc).toArray::pt n3 35::.agg (M9 b_.q b_.qa b_.qc).toArray::i 66::pt n2 40::i6 a_.stan::pt n3 40::i6 b_.stan::.bool (a_.stan==b_.stan)::pt n2 41::i6 a_.day::pt n3 41::i6 b_.day::.bool (a_.day==b_.day)::pt n2 42::.slice a_.ua a_.u.length a_.uc::pt n3 42::.slice b_.ua b_.u.length b_.uc::i 81::pt n2 43::.agg (a_.h.L).toArray::pt n3 43::.agg (b_.h.L).toArray::i 86::pt n2 64::.slice a_.oa a_.o.length a_.oc::pt n3 64::.slice b_.oa b_.o.length b_.oc::.func (.func 100) #[] #[]::i 92::pt n2 65::.slice a_.ga a_.g.length a_.gc::pt n3 65::.slice b_.ga b_.g.length b_.gc::.func (.func 102) #[] #[]::i 98::pt n2 66::.agg (Ac0 a_).toArray::pt n3 66::.agg (Ac0 b_).toArray::.bool s10::i 104::i 105::i 4::[])) u:=by
  intro u G;refine D7 [9] (C9 rG Eg3 ?_ AllReadyH.nil) Du3;intro o hp hd;refine M6 hp (ev2 (show Act.eval _ _=.slice a_.k.a a_.k.l.length a_.k.c from rG.ev) (show Act.eval _ _=.slice b_.k.a b_.k.l.length b_.k.c from rG.ev)) (P8 u G) ?_;rintro x u9 ⟨rfl,rfl⟩;refine⟨_,rfl,?_⟩;exact I1 (hok:=Du4) (hz:=Du5) rG [] hd ⟨B2.up (G),B3.up (G)⟩ trivial (N9 _  G)
 refine M0 (lz:=(lm 100 4294442495)) (fuel':=70) (hok:=Du6) (hz:=Du7) 100 rG [(0,7,pt n2 0),(1,8,i6 a_.id),(2,9,pt n3 0),(3,10,i6 b_.id),(4,11,.bool (a_.id==b_.id)),(5,12,pt n2 1),(6,13,.slice a_.k.a a_.k.l.length a_.k.c),(7,14,pt n3 1),(8,15,.slice b_.k.a b_.k.l.length b_.k.c),(10,17,pt n2 2),(11,18,i6 a_.ph),(12,19,pt n3 2),(13,20,i6 b_.ph),(14,21,.bool (a_.ph==b_.ph)),(15,22,pt n2 3),(16,23,.agg #[.slice a_.s1.a a_.s1.l.length a_.s1.c,.slice a_.s2.a a_.s2.l.length a_.s2.c]),(17,24,pt n3 3),(18,25,.agg #[.slice b_.s1.a b_.s1.l.length b_.s1.c,.slice b_.s2.a b_.s2.l.length b_.s2.c]),(20,27,pt n2 5),(21,28,i6 a_.pw),(22,29,pt n3 5),(23,30,i6 b_.pw),(24,31,.bool (a_.pw==b_.pw)),(25,32,pt n2 6),(26,33,i6 a_.own),(27,34,pt n3 6),(28,35,i6 b_.own),(29,36,.bool (a_.own==b_.own)),(30,37,pt n2 7),(31,38,i6 a_.oth)] h0 ⟨B2.up (bd _),B3.up (bd _)⟩ ⟨A7 Ef5 e2,F5 Ef6 (fun w hw=>hw.1.blk.endIn.id),A7 Ef7 e3,F5 Ef8 (fun w hw=>hw.2.blk.endIn.id),Ae7 rfl rfl,A7 Ef9 e2,F5 Eg0 (fun w hw=>hw.1.blk.endIn.k),A7 Eg1 e3,F5 Eg2 (fun w hw=>hw.2.blk.endIn.k),A7 Dk3 e2,F5 Dk4 (fun w hw=>hw.1.blk.endIn.ph),A7 Dk5 e3,F5 Dk6 (fun w hw=>hw.2.blk.endIn.ph),Ae7 rfl rfl,A7 Dk7 e2,O2 (cs:=[.slice a_.s1.a a_.s1.l.length a_.s1.c,.slice a_.s2.a a_.s2.l.length a_.s2.c]) Dk8 (fun w hw=>hw.1.blk.endIn.at_s) Au9,A7 Dk9 e3,O2 (cs:=[.slice b_.s1.a b_.s1.l.length b_.s1.c,.slice b_.s2.a b_.s2.l.length b_.s2.c]) Dl0 (fun w hw=>hw.2.blk.endIn.at_s) Au9,A7 Dl2 e2,F5 Dl3 (fun w hw=>hw.1.blk.endIn.pw),A7 Dl4 e3,F5 Dl5 (fun w hw=>hw.2.blk.endIn.pw),Ae7 rfl rfl,A7 Dl6 e2,F5 Dl7 (fun w hw=>hw.1.blk.endIn.own),A7 Dl8 e3,F5 Dl9 (fun w hw=>hw.2.blk.endIn.own),Ae7 rfl rfl,A7 Dm0 e2,F5 Dm1 (fun w hw=>hw.1.blk.endIn.oth),trivial⟩ ?_;refine Al7 (lz:=(lm 100 17852268922896121343)) (fuel':=40) (hok:=Du8) (hz:=Du9) rG [(32,39,pt n3 7),(33,40,i6 b_.oth),(34,41,.bool (a_.oth==b_.oth)),(35,42,pt n2 8),(36,43,i6 a_.seen),(37,44,pt n3 8),(38,45,i6 b_.seen),(39,46,.bool (a_.seen==b_.seen)),(40,47,pt n2 9),(41,48,i6 a_.seq),(42,49,pt n3 9),(43,50,i6 b_.seq),(44,51,.bool (a_.seq==b_.seq)),(45,52,pt n2 10),(46,53,.agg (D0 a_.wt a_.wb).toArray),(47,54,pt n3 10),(48,55,.agg (D0 b_.wt b_.wb).toArray),(49,56,.bool s9),(50,57,pt n2 27),(51,58,.agg (a_.r.L).toArray),(52,59,pt n3 27),(53,60,.agg (b_.r.L).toArray),(55,62,pt n2 35),(56,63,.agg (M9 a_.q a_.qa a_.qc).toArray),(57,64,pt n3 35),(58,65,.agg (M9 b_.q b_.qa b_.qc).toArray),(60,67,pt n2 40),(61,68,i6 a_.stan),(62,69,pt n3 40),(63,70,i6 b_.stan)] ⟨B2.up (bd _),B3.up (bd _)⟩ ⟨A7 Dm2 e3,F5 Dm3 (fun w hw=>hw.2.blk.endIn.oth),Ae7 rfl rfl,A7 Dm4 e2,F5 Dm5 (fun w hw=>hw.1.blk.endIn.seen),A7 Dm6 e3,F5 Dm7 (fun w hw=>hw.2.blk.endIn.seen),Ae7 rfl rfl,A7 Dm8 e2,F5 Dm9 (fun w hw=>hw.1.blk.endIn.seq),A7 Dn0 e3,F5 Dn1 (fun w hw=>hw.2.blk.endIn.seq),Ae7 rfl rfl,A7 Dn2 e2,O2 (cs:=D0 a_.wt a_.wb) Dn3 (fun w hw=>hw.1.blk.endIn.at_w) (by rw[F8];exact S0),A7 Dn4 e3,O2 (cs:=D0 b_.wt b_.wb) Dn5 (fun w hw=>hw.2.blk.endIn.at_w) (by rw[F8];exact S0),Ba4 Dn6 (fun w=>Ez3 (.tmp 53) (.tmp 55) a_ b_ s9 h9 w),A7 Dn7 e2,O2 (cs:=a_.r.L) Dn8 (fun w hw=>hw.1.blk.endIn.at_r) Ab4,A7 Dn9 e3,O2 (cs:=b_.r.L) Do0 (fun w hw=>hw.2.blk.endIn.at_r) Ab4,A7 Do2 e2,O2 (cs:=M9 a_.q a_.qa a_.qc) Do3 (fun w hw=>hw.1.blk.endIn.at_q) Bb5,A7 Do4 e3,O2 (cs:=M9 b_.q b_.qa b_.qc) Do5 (fun w hw=>hw.2.blk.endIn.at_q) Bb5,A7 Do7 e2,F5 Do8 (fun w hw=>hw.1.blk.endIn.stan),A7 Do9 e3,F5 Dp0 (fun w hw=>hw.2.blk.endIn.stan),trivial⟩ ?_;exact Al7 (hok:=Dv0) (hz:=Dv1) rG [(64,71,.bool (a_.stan==b_.stan)),(65,72,pt n2 41),(66,73,i6 a_.day),(67,74,pt n3 41),(68,75,i6 b_.day),(69,76,.bool (a_.day==b_.day)),(70,77,pt n2 42),(71,78,.slice a_.ua a_.u.length a_.uc),(72,79,pt n3 42),(73,80,.slice b_.ua b_.u.length b_.uc),(75,82,pt n2 43),(76,83,.agg (a_.h.L).toArray),(77,84,pt n3 43),(78,85,.agg (b_.h.L).toArray),(80,87,pt n2 64),(81,88,.slice a_.oa a_.o.length a_.oc),(82,89,pt n3 64),(83,90,.slice b_.oa b_.o.length b_.oc),(84,91,.func (.func 100) #[] #[]),(86,93,pt n2 65),(87,94,.slice a_.ga a_.g.length a_.gc),(88,95,pt n3 65),(89,96,.slice b_.ga b_.g.length b_.gc),(90,97,.func (.func 102) #[] #[]),(92,99,pt n2 66),(93,100,.agg (Ac0 a_).toArray),(94,101,pt n3 66),(95,102,.agg (Ac0 b_).toArray),(96,103,.bool s10)] ⟨B2.up (bd _),B3.up (bd _)⟩ ⟨Ae7 rfl rfl,A7 Dp1 e2,F5 Dp2 (fun w hw=>hw.1.blk.endIn.day),A7 Dp3 e3,F5 Dp4 (fun w hw=>hw.2.blk.endIn.day),Ae7 rfl rfl,A7 Dp5 e2,F5 Dp6 (fun w hw=>hw.1.blk.endIn.u),A7 Dp7 e3,F5 Dp8 (fun w hw=>hw.2.blk.endIn.u),A7 Dq0 e2,O2 (cs:=a_.h.L) Dq1 (fun w hw=>hw.1.blk.endIn.at_h) (by kernel_rfl),A7 Dq2 e3,O2 (cs:=b_.h.L) Dq3 (fun w hw=>hw.2.blk.endIn.at_h) (by kernel_rfl),A7 Dq5 e2,F5 Dq6 (fun w hw=>hw.1.blk.endIn.o),A7 Dq7 e3,F5 Dq8 (fun w hw=>hw.2.blk.endIn.o),A9 Dq9 e5,A7 Dr1 e2,F5 Dr2 (fun w hw=>hw.1.blk.endIn.g),A7 Dr3 e3,F5 Dr4 (fun w hw=>hw.2.blk.endIn.g),A9 Dr5 e6,A7 Dr7 e2,O2 (cs:=Ac0 a_) Dr8 (fun w hw=>hw.1.blk.endIn.at_c) Bo7,A7 Dr9 e3,O2 (cs:=Ac0 b_) Ds0 (fun w hw=>hw.2.blk.endIn.at_c) Bo7,Ba4 Ds1 (fun w=>Ez4 (.tmp 100) (.tmp 102) a_ b_ s10 h10 w),trivial⟩ (N0 _  (bd w))
theorem Bt2(a b:Ev)(w:World)(ha:Ae6 w a)(hb:Ae6 w b)(ho:a.o.length≤100000∧b.o.length≤100000)(hg:a.g.length≤100000∧b.g.length≤100000):
 Calls Tryz.prog 43 #[.agg (A8 a).toArray,.agg (A8 b).toArray] w (F9 w (Ak3 a b)):=by
 have P1:=Lh (fun(W:World) (h:Below w.heap.size w W)=>(show Calls Tryz.prog 104 #[.agg #[.slice a.s1.a a.s1.l.length a.s1.c,.slice a.s2.a a.s2.l.length a.s2.c],.agg #[.slice b.s1.a b.s1.l.length b.s1.c,.slice b.s2.a b.s2.l.length b.s2.c]] W (F9 W (Av5 a.s1.l a.s2.l b.s1.l b.s2.l)) from Df0 _ _ _ _ _ _ W (Ax1 (ha.mono h)) (Ax1 (hb.mono h))));have P2:=Lh (fun(W:World) (h:Below w.heap.size w W)=>(show Calls Tryz.prog 105 #[.agg a.r.L.toArray,.agg b.r.L.toArray] W (F9 W (U1 a.r b.r a.kc a.ko a.kp b.kc b.ko b.kp)) from Bw4 a.r b.r a.kc a.ko a.kp b.kc b.ko b.kp W (ha.r.mono h) (hb.r.mono h)));have P3:=Lh (fun(W:World) (h:Below w.heap.size w W)=>(show Calls Tryz.prog 106 #[.agg (M9 a.q a.qa a.qc).toArray,.agg (M9 b.q b.qa b.qc).toArray] W (F9 W (Af1 a.q b.q)) from Bv7 a.q b.q a.qa b.qa a.qc b.qc W (Nat.le_trans ha.ql.1 ha.ql.2) (Nat.le_trans hb.ql.1 hb.ql.2) (ha.q.mono h) (hb.q.mono h)));have P4:=Lh (fun(W:World) (h:Below w.heap.size w W)=>Dk1 a.ua b.ua a.uc b.uc a.u b.u W (Nat.le_trans ha.ul.1 ha.ul.2) (Nat.le_trans hb.ul.1 hb.ul.2) (ha.u.mono h) (hb.u.mono h));have P5:=Lh (fun(W:World) (h:Below w.heap.size w W)=>(show Calls Tryz.prog 108 #[.agg a.h.L.toArray,.agg b.h.L.toArray] W (F9 W (Ag9 a.h a.hs b.h b.hs)) from Cx0 a.h b.h a.hs b.hs W (ha.h.mono h) (hb.h.mono h)));have P6:=Lh (fun(W:World) (h:Below w.heap.size w W)=>Dj9 a.oa b.oa a.oc b.oc a.o b.o W ho.1 ho.2 (ha.o.mono h) (hb.o.mono h));have P7:=Lh (fun(W:World) (h:Below w.heap.size w W)=>Dk0 a.ga b.ga a.gc b.gc a.g b.g W hg.1 hg.2 (ha.g.mono h) (hb.g.mono h));have P8:=Lh (fun(W:World) (h:Below w.heap.size w W)=>(show Calls Tryz.prog 101 #[.slice a.k.a a.k.l.length a.k.c,.slice b.k.a b.k.l.length b.k.c] W fun e w'=>e=.returned (.bool (a.k.l==b.k.l))∧W=w' from Ag3 a.k.a b.k.a _ a.k.c _ b.k.c a.k.l b.k.l W rfl rfl (ha.k.b.mono h) (hb.k.b.mono h)));have HF:=Lh (show Ak3 a b=(Av5 a.s1.l a.s2.l b.s1.l b.s2.l&&(U1 a.r b.r a.kc a.ko a.kp b.kc b.ko b.kp&&(Af1 a.q b.q&&(decide (a.u=b.u)&&(Ag9 a.h a.hs b.h b.hs&&(decide (a.o=b.o)&&(decide (a.g=b.g)&&((a.k.l==b.k.l)&&(At9 a b&&(Aq3 a b&&((a.id==b.id)&&((a.ph==b.ph)&&((a.pw==b.pw)&&((a.own==b.own)&&((a.oth==b.oth)&&((a.seen==b.seen)&&((a.seq==b.seq)&&((a.stan==b.stan)&&((a.day==b.day)))))))))))))))))))) from rfl);unfold F9 at P1 P2 P3 P4 P5 P6 P7;generalize Ak3 a b=R at HF ⊢;generalize Av5 a.s1.l a.s2.l b.s1.l b.s2.l=s1 at P1 HF;generalize U1 a.r b.r a.kc a.ko a.kp b.kc b.ko b.kp=s2 at P2 HF;generalize Af1 a.q b.q=s3 at P3 HF;generalize decide (a.u=b.u)=s4 at P4 HF;generalize Ag9 a.h a.hs b.h b.hs=s5 at P5 HF;generalize decide (a.o=b.o)=s6 at P6 HF;generalize decide (a.g=b.g)=s7 at P7 HF;generalize (a.k.l==b.k.l)=s8 at P8 HF;obtain⟨s9,hs9⟩:∃s,At9 a b=s:=⟨_,rfl⟩;rw[hs9] at HF;obtain⟨s10,hs10⟩:∃s,Aq3 a b=s:=⟨_,rfl⟩;rw[hs10] at HF;have HR:=Lh (show R=[(a.id==b.id),s8,(a.ph==b.ph),s1,(a.pw==b.pw),(a.own==b.own),(a.oth==b.oth),(a.seen==b.seen),(a.seq==b.seq),s9,s2,s3,(a.stan==b.stan),(a.day==b.day),s4,s5,s6,s7,s10].all id from by
  rw[HF.out];simp only[List.all_cons,List.all_nil,id];generalize (a.id==b.id)=i_id;generalize (a.ph==b.ph)=i_ph;generalize (a.pw==b.pw)=i_pw;generalize (a.own==b.own)=i_own;generalize (a.oth==b.oth)=i_oth;generalize (a.seen==b.seen)=i_seen;generalize (a.seq==b.seq)=i_seq;generalize (a.stan==b.stan)=i_stan;generalize (a.day==b.day)=i_day;rw[Bool.eq_iff_iff];simp only[Bool.and_eq_true,Bool.and_true,and_assoc,and_comm,and_left_comm])
 clear ha hb ho hg HF;go_enter Tryz.func43,Tryz.ntmps43
 go_upto_region 1 with(fail)
 generalize hW:World.alloc (World.alloc w _) _=W;obtain⟨B2,B3,hb⟩:=Ac1 (a:=A8 a) (b:=A8 b) hW;clear hW;have B2:=Lh B2;have B3:=Lh B3;have G:=Lh hb;clear hb;generalize w.heap.size+1=n3 at B3 ⊢;generalize hn2:w.heap.size=n2 at B2 ⊢;clear hn2;go_upto_region 3 with(fail)
 refine Dv2 (a_:=a) (b_:=b) (Nat.le_refl _) rfl rfl rfl rfl (fun _ _ d _ _ h=>by cases d<;>exact h) B2.out B3.out hs9 hs10 (fun u hu=>P8.out u (bt G.out hu)) (fun u hu=>P1.out u (bt G.out hu)) (fun u hu=>P2.out u (bt G.out hu)) (fun u hu=>P3.out u (bt G.out hu)) (fun u hu=>P4.out u (bt G.out hu)) (fun u hu=>P5.out u (bt G.out hu)) (fun u hu=>P6.out u (bt G.out hu)) (fun u hu=>P7.out u (bt G.out hu)) ?_;intro x7 x8 x9 x10 x11 x12 x13 x14 x15 x16 x17 x18 x19 x20 x21 x22 x23 x24 x25 x26 x27 x28 x29 x30 x31 x32 x33 x34 x35 x36 x37 x38 x39 x40 x41 x42 x43 x44 x45 x46 x47 x48 x49 x50 x51 x52 x53 x54 x55 x56 x57 x58 x59 x60 x61 x62 x63 x64 x65 x66 x67 x68 x69 x70 x71 x72 x73 x74 x75 x76 x77 x78 x79 x80 x81 x82 x83 x84 x85 x86 x87 x88 x89 x90 x91 x92 x93 x94 x95 x96 x97 x98 x99 x100 x101 x102 x103 x104 x105 w9 hb;rw[←HR.out];simp only[C6,Act.put,List.setIfInBounds_toArray,List.set_cons_zero,List.set_cons_succ];go_wp2_with fail
 go_ret;exact⟨by first | rfl | (simp;done),bt G.out hb⟩
def Bh6(s t:Sv):Bool:=Ak3 s.e t.e&&Bo4 s.i s.f s.es t.i t.f t.es
theorem Bj9(s t:Sv)(w:World)(hs:Aj1 w s)(ht:Aj1 w t)(ho:s.e.o.length≤100000∧t.e.o.length≤100000)(hg:s.e.g.length≤100000∧t.e.g.length≤100000)(hes:s.es.length≤100000∧t.es.length≤100000):
 Calls Tryz.prog 18 #[.agg (A5 s).toArray,.agg (A5 t).toArray] w (F9 w (Bh6 s t)):=by
 have P1:=Lh (fun(W:World) (h:Below w.heap.size w W)=>Cm1 s.e t.e W (hs.e.mono h) (ht.e.mono h) ho hg);have P2:=Lh (fun(W:World) (h:Below w.heap.size w W)=>Cr2 s.i s.f t.i t.f s.ta t.ta s.tc t.tc s.es t.es W hes.1 hes.2 (hs.p.mono h) (ht.p.mono h));have HF:=Lh (show Bh6 s t=(Ak3 s.e t.e&&Bo4 s.i s.f s.es t.i t.f t.es) from rfl);have SE:=Lh (show ∀E:Ev,(Tryz.prog.info? 46).map (·.size)=some (A8 E).length from fun E=>by rw[I3];exact Q3);have SQ:=Lh Ad7;unfold F9 at P1 P2;generalize Bh6 s t=R at HF ⊢;generalize Ak3 s.e t.e=s1 at P1 HF;generalize Bo4 s.i s.f s.es t.i t.f t.es=s2 at P2 HF;clear hs ht ho hg hes;go_enter Tryz.func18,Tryz.ntmps18
 go_upto_region 1 with(fail)
 generalize hW:World.alloc (World.alloc w _) _=W;obtain⟨B2,B3,hb⟩:=Ac1 (a:=A5 s) (b:=A5 t) hW;clear hW;have B2:=Lh B2;have B3:=Lh B3;have G:=Lh hb;clear hb;generalize w.heap.size+1=n3 at B3 ⊢;generalize hn2:w.heap.size=n2 at B2 ⊢;clear hn2;go_wp2_with (first
  | (refine F2 46 (.tmp 7) rfl ?_;refine C8 46 (.tmp 7) n2 0 (by first | rfl | simp[Region.wanted,yielded]) rfl rfl B2.out.blk.atE Tryz.underlying46 rfl (SE.out _) ?_)
  | (refine F2 46 (.tmp 9) rfl ?_;refine C8 46 (.tmp 9) n3 0 (by first | rfl | simp[Region.wanted,yielded]) rfl rfl B3.out.blk.atE Tryz.underlying46 rfl (SE.out _) ?_))
 refine(P1.out _ G.out).mono ?_;rintro x w1 ⟨rfl,hb⟩;replace B2:=Lh (B2.out.up hb);replace B3:=Lh (B3.out.up hb);replace G:=Lh (bt G.out hb);clear hb P1;go_wp2_with (first
  | (refine F2 49 (.tmp 12) rfl ?_;refine C8 49 (.tmp 12) n2 70 (by first | rfl | simp[Region.wanted,yielded]) rfl rfl B2.out.blk.atP Tryz.underlying49 rfl SQ.out ?_)
  | (refine F2 49 (.tmp 14) rfl ?_;refine C8 49 (.tmp 14) n3 70 (by first | rfl | simp[Region.wanted,yielded]) rfl rfl B3.out.blk.atP Tryz.underlying49 rfl SQ.out ?_))
 refine(P2.out _ G.out).mono ?_;rintro x w2 ⟨rfl,hb⟩;replace G:=Lh (bt G.out hb);clear hb P2 B2 B3;rcases s1 with _ | _
 ·have hR:R=false:=by rw[HF.out];rfl
  subst hR;go_wp2_with fail
  go_ret;exact⟨rfl,G.out⟩
 have hR:R=s2:=by rw[HF.out];rfl
 subst hR;go_wp2_with fail
 go_ret;exact⟨rfl,G.out⟩
def As6(e:Ev):Bool:=decide (∀j,j<e.o.length→(e.o.getD j (0,[])).2.length≤1100)
def As7(e:Ev):Bool:=decide (∀j,j<e.g.length→(e.g.getD j default).b.length≤1000)
def Bz9(e:Ev):Bool:=Bg1 e.s1.l e.s2.l&&(Ch1 e.r&&(Bo6 e.h&&(decide (e.k.l.length≤100)&&(decide (e.q.body.length≤1000)&&(decide (Ah7 e.u≤9000)&&(decide (e.o.length≤20)&&(decide (e.g.length≤40)&&(As6 e&&As7 e))))))))
theorem Cu2(e:Ev)(w:World)(h:Ae6 w e):Calls Tryz.prog 37 #[.agg (A8 e).toArray] w (F9 w (Bz9 e)):=by
 have P1:=Lh (fun(W:World) (hb:Below w.heap.size w W)=>(show Calls Tryz.prog 87 #[.agg #[.slice e.s1.a e.s1.l.length e.s1.c,.slice e.s2.a e.s2.l.length e.s2.c]] W (F9 W (Bg1 e.s1.l e.s2.l)) from Dz8 _ _ _ W (Ax1 (h.mono hb))));have P2:=Lh (fun(W:World)=>(show Calls Tryz.prog 88 #[.agg e.r.L.toArray] W (F9 W (Ch1 e.r)) from Dg5 e.r W));have P3:=Lh (fun(W:World)=>(show Calls Tryz.prog 89 #[.agg e.h.L.toArray] W (F9 W (Bo6 e.h)) from Ep1 e.h h.hl W));have P4:=Lh (fun(W:World) (hb:Below w.heap.size w W)=>(show Calls Tryz.prog 90 #[.slice e.ua e.u.length e.uc,.int .i64 9000] W fun x w'=>x=.returned (.int .i64 (if Ah7 e.u≤9000 then(Ah7 e.u:Int) else 9001))∧w'=W from El5 e.ua e.uc e.u 9000 W (by decide) (Nat.le_trans h.ul.1 h.ul.2) (h.u.mono hb)));have HO:=Lh (fun(W:World) (hb:Below w.heap.size w W)=>h.o.mono hb);have HG:=Lh (fun(W:World) (hb:Below w.heap.size w W)=>h.g.mono hb);have hol:=h.ol;have hgl:=h.gl;unfold maxLen at hol hgl;have HF:=Lh (show Bz9 e=(Bg1 e.s1.l e.s2.l&&(Ch1 e.r&&(Bo6 e.h&&(decide (e.k.l.length≤100)&&(decide (e.q.body.length≤1000)&&(decide (Ah7 e.u≤9000)&&(decide (e.o.length≤20)&&(decide (e.g.length≤40)&&(As6 e&&As7 e))))))))) from rfl);have HFo:=Lh (show As6 e=decide (∀j,j<e.o.length→(e.o.getD j (0,[])).2.length≤1100) from rfl);have HFg:=Lh (show As7 e=decide (∀j,j<e.g.length→(e.g.getD j default).b.length≤1000) from rfl);have SR:=Lh Ab4;have SH:=Lh (show(Tryz.prog.info? 42).map (·.size)=some e.h.L.length by kernel_rfl);unfold F9 at P1 P2 P3;generalize Bz9 e=R at HF ⊢;generalize Bg1 e.s1.l e.s2.l=s1 at P1 HF;generalize Ch1 e.r=s2 at P2 HF;generalize Bo6 e.h=s3 at P3 HF;obtain⟨V,hV⟩:∃V:Int,V=(if Ah7 e.u≤9000 then(Ah7 e.u:Int) else 9001):=⟨_,rfl⟩;rw[←hV] at P4;have hV2:decide (Ah7 e.u≤9000)=decide (V≤9000):=by
  by_cases hh:Ah7 e.u≤9000
  ·rw[decide_eq_true hh,decide_eq_true (by rw[hV,if_pos hh];omega)]
  ·rw[decide_eq_false hh,decide_eq_false (by rw[hV,if_neg hh];omega)]
 rw[hV2] at HF;clear h hV hV2;go_enter Tryz.func37,Tryz.ntmps37
 go_upto_region 1 with(fail)
 generalize hW:World.alloc w _=W;have B1:=Lh (show A6 46 W w.heap.size (A8 e) by rw[←hW];exact A6.new w (A8 e) _);have G:=Lh (show Below w.heap.size w W by rw[←hW];exact ba w _);clear hW;generalize hn1:w.heap.size=n1 at B1 ⊢;clear hn1;have y2:W.cell? ⟨n1,3,none⟩=some (.slice e.s1.a e.s1.l.length e.s1.c):=B1.out.blk.endIn.cell 3 (by decide);have z2:W.cell? ⟨n1,4,none⟩=some (.slice e.s2.a e.s2.l.length e.s2.c):=B1.out.blk.endIn.cell 4 (by decide);go_wp2_with fail
 refine(P1.out _ G.out).mono ?_;rintro x w1 ⟨rfl,hb⟩;replace B1:=Lh (B1.out.up hb);replace G:=Lh (bt G.out hb);clear hb P1 y2 z2;go_wp2_with (refine F2 32 (.tmp 11) rfl ?_;refine C8 32 (.tmp 11) n1 27 (by first | rfl | simp[Region.wanted,yielded]) rfl rfl B1.out.blk.endIn.at_r Tryz.underlying32 rfl SR.out ?_)
 refine(P2.out _).mono ?_;rintro x w2 ⟨rfl,hb⟩;replace B1:=Lh (B1.out.up hb);replace G:=Lh (bt G.out hb);clear hb P2;go_wp2_with (refine F2 42 (.tmp 14) rfl ?_;refine C8 42 (.tmp 14) n1 43 (by first | rfl | simp[Region.wanted,yielded]) rfl rfl B1.out.blk.endIn.at_h Tryz.underlying42 rfl SH.out ?_)
 refine(P3.out _).mono ?_;rintro x w3 ⟨rfl,hb⟩;replace B1:=Lh (B1.out.up hb);replace G:=Lh (bt G.out hb);clear hb P3;go_upto_region 4 with(fail)
 have ck:=B1.out.blk.endIn.k;have cq:=B1.out.blk.endIn.qbody;have cu:=B1.out.blk.endIn.u;have co:=B1.out.blk.endIn.o;have cg:=B1.out.blk.endIn.g;rcases s1 with _ | _
 ·have hR:R=false:=by rw[HF.out];rfl
  subst hR;go_wp2_with fail
  go_ret;exact⟨rfl,G.out⟩
 rcases s2 with _ | _
 ·have hR:R=false:=by rw[HF.out];rfl
  subst hR;go_wp2_with fail
  go_ret;exact⟨rfl,G.out⟩
 rcases s3 with _ | _
 ·have hR:R=false:=by rw[HF.out];rfl
  subst hR;go_wp2_with fail
  go_ret;exact⟨rfl,G.out⟩
 replace HF:=Lh (show R=(decide (e.k.l.length≤100)&&(decide (e.q.body.length≤1000)&&(decide (V≤9000)&&(decide (e.o.length≤20)&&(decide (e.g.length≤40)&&(As6 e&&As7 e)))))) by rw[HF.out];rfl);by_cases h0:e.k.l.length≤100;rotate_left
 ·have hR:R=false:=by rw[HF.out,decide_eq_false h0];rfl
  subst hR;have hd0:(100:Int)<(e.k.l.length:Int):=by omega
  clear h0;go_wp2_with fail
  go_ret;exact⟨rfl,G.out⟩
 have hd0:¬(100:Int)<(e.k.l.length:Int):=by omega
 replace HF:=Lh (show R=(decide (e.q.body.length≤1000)&&(decide (V≤9000)&&(decide (e.o.length≤20)&&(decide (e.g.length≤40)&&(As6 e&&(As7 e)))))) by rw[HF.out,decide_eq_true h0];rfl);by_cases h1:e.q.body.length≤1000;rotate_left
 ·have hR:R=false:=by rw[HF.out,decide_eq_false h1];rfl
  subst hR;have hd1:(1000:Int)<(e.q.body.length:Int):=by omega
  clear h1;go_wp2_with fail
  go_ret;exact⟨rfl,G.out⟩
 have hd1:¬(1000:Int)<(e.q.body.length:Int):=by omega
 replace HF:=Lh (show R=(decide (V≤9000)&&(decide (e.o.length≤20)&&(decide (e.g.length≤40)&&(As6 e&&(As7 e))))) by rw[HF.out,decide_eq_true h1];rfl);by_cases h2:V≤9000;rotate_left
 ·have hR:R=false:=by rw[HF.out,decide_eq_false h2];rfl
  subst hR;have hd2:(9000:Int)<V:=by omega
  clear h2;go_wp2_with fail
  refine(P4.out _ G.out).mono ?_;rintro x w4 ⟨rfl,rfl⟩;go_wp2_with fail
  go_ret;exact⟨rfl,G.out⟩
 have hd2:¬(9000:Int)<V:=by omega
 replace HF:=Lh (show R=(decide (e.o.length≤20)&&(decide (e.g.length≤40)&&(As6 e&&(As7 e)))) by rw[HF.out,decide_eq_true h2];rfl);by_cases h3:e.o.length≤20;rotate_left
 ·have hR:R=false:=by rw[HF.out,decide_eq_false h3];rfl
  subst hR;have hd3:(20:Int)<(e.o.length:Int):=by omega
  clear h3;go_wp2_with fail
  refine(P4.out _ G.out).mono ?_;rintro x w4 ⟨rfl,rfl⟩;go_wp2_with fail
  go_ret;exact⟨rfl,G.out⟩
 have hd3:¬(20:Int)<(e.o.length:Int):=by omega
 replace HF:=Lh (show R=(decide (e.g.length≤40)&&(As6 e&&(As7 e))) by rw[HF.out,decide_eq_true h3];rfl);by_cases h4:e.g.length≤40;rotate_left
 ·have hR:R=false:=by rw[HF.out,decide_eq_false h4];rfl
  subst hR;have hd4:(40:Int)<(e.g.length:Int):=by omega
  clear h4;go_wp2_with fail
  refine(P4.out _ G.out).mono ?_;rintro x w4 ⟨rfl,rfl⟩;go_wp2_with fail
  go_ret;exact⟨rfl,G.out⟩
 have hd4:¬(40:Int)<(e.g.length:Int):=by omega
 replace HF:=Lh (show R=(As6 e&&(As7 e)) by rw[HF.out,decide_eq_true h4];rfl);go_wp2_with fail
 refine(P4.out _ G.out).mono ?_;rintro x w4 ⟨rfl,rfl⟩;go_upto_region 7 with(fail)
 clear ck cq cu hd0 hd1 hd2 hd3 hd4 h0 h1 h2 P4
 go_loopw [6] (fun v wr=>wr=w4∧∃j:Nat,j≤e.o.length∧v=.int .i64 (j:Int)∧∀t,t<j→(e.o.getD t (0,[])).2.length≤1100) (fun v _=>e.o.length-(intOf v).toNat)
 case atStart=>exact⟨rfl,0,Nat.zero_le _,rfl,fun t ht=>absurd ht (by omega)⟩
 case round=>
  obtain⟨rfl,j,hj,rfl,hno⟩:=hrel;have Hno:=Lh hno;clear hno;by_cases hlt:j<e.o.length
  ·obtain⟨g,off,hga,hg,hcs⟩:=(HO.out _ G.out).cell (by omega);obtain⟨p0,c0,x0,x1,-,-,-⟩:=hcs j hlt;have hd1:(j:Int)<(e.o.length:Int):=by omega
   have hd0:(0:Int)≤(j:Int):=by omega
   rw[hga] at co;obtain⟨n0,hn0⟩:∃n,n=(e.o.getD j (0,[])).2.length:=⟨_,rfl⟩;rw[←hn0] at x1;have Hn0:=Lh hn0;clear hcs hn0 x0;by_cases h0:n0≤1100
   ·have hd2:¬(1100:Int)<(n0:Int):=by omega
    go_wp2_with fail
    exact⟨⟨by trivial,j+1,by omega,by go_num,fun t ht=>by
     rcases Nat.lt_or_ge t j with h | h
     ·exact Hno.out t h
     ·rw[show t=j by omega,←Hn0.out];exact h0⟩,by simp[intOf];omega⟩
   ·have hd2:(1100:Int)<(n0:Int):=by omega
    have hRf:R=false:=by
     have hq:As6 e=false:=by
      rw[HFo.out,decide_eq_false];intro h;have:=h j hlt;rw[←Hn0.out] at this;omega
     rw[HF.out,hq];rfl
    subst hRf;go_wp2_with fail
    go_ret;exact⟨rfl,G.out⟩
  ·obtain rfl:j=e.o.length:=by omega
   replace HF:=Lh (show R=As7 e by rw[HF.out,show As6 e=true from by rw[HFo.out,decide_eq_true];exact Hno.out];rfl);clear Hno HFo HO;go_upto_region 12 with(fail)
   go_loopw [7] (fun v wq=>wq=wr∧∃j:Nat,j≤e.g.length∧v=.int .i64 (j:Int)∧∀t,t<j→(e.g.getD t default).b.length≤1000) (fun v _=>e.g.length-(intOf v).toNat)
   case atStart=>exact⟨rfl,0,Nat.zero_le _,rfl,fun t ht=>absurd ht (by omega)⟩
   case round=>
    obtain⟨rfl,j,hj,rfl,hno⟩:=hrel;have Hno:=Lh hno;clear hno;by_cases hlt:j<e.g.length
    ·obtain⟨g,off,hga,hg,hcs⟩:=(HG.out _ G.out).cell (by omega);obtain⟨p0,c0,x0,x1,x2,x3,x4,-,-,-⟩:=hcs j hlt;have hd1:(j:Int)<(e.g.length:Int):=by omega
     have hd0:(0:Int)≤(j:Int):=by omega
     rw[hga] at cg;obtain⟨n0,hn0⟩:∃n,n=(e.g.getD j default).b.length:=⟨_,rfl⟩;rw[←hn0] at x4;have Hn0:=Lh hn0;clear hcs hn0 x0 x1 x2 x3;by_cases h0:n0≤1000
     ·have hd2:¬(1000:Int)<(n0:Int):=by omega
      go_wp2_with fail
      exact⟨⟨by trivial,j+1,by omega,by go_num,fun t ht=>by
       rcases Nat.lt_or_ge t j with h | h
       ·exact Hno.out t h
       ·rw[show t=j by omega,←Hn0.out];exact h0⟩,by simp[intOf];omega⟩
     ·have hd2:(1000:Int)<(n0:Int):=by omega
      have hRf:R=false:=by
       have hq:As7 e=false:=by
        rw[HFg.out,decide_eq_false];intro h;have:=h j hlt;rw[←Hn0.out] at this;omega
       rw[HF.out,hq]
      subst hRf;go_wp2_with fail
      go_ret;exact⟨rfl,G.out⟩
    ·obtain rfl:j=e.g.length:=by omega
     have hRt:R=true:=by rw[HF.out,HFg.out,decide_eq_true];exact Hno.out
     subst hRt;go_wp2_with fail
     go_ret;exact⟨rfl,G.out⟩
def Ch8(s:Sv):Bool:=Bz9 s.e&&(decide (By3 s.es 40)&&Z6 s.e)
theorem Dv3(s:Sv)(w:World)(h:Aj1 w s):Calls Tryz.prog 13 #[.agg (A5 s).toArray] w (F9 w (Ch8 s)):=by
 have P1:=Lh (fun(W:World) (hb:Below w.heap.size w W)=>Cu2 s.e W (h.e.mono hb));have P2:=Lh (fun(W:World) (hb:Below w.heap.size w W)=>Df4 s.i s.f s.ta s.tc 40 s.es W (Nat.le_trans h.pl.1 h.pl.2) (by decide) (h.p.mono hb));have P3:=Lh (fun(W:World) (hb:Below w.heap.size w W)=>Cc5 s.e W (h.e.mono hb));have HF:=Lh (show Ch8 s=(Bz9 s.e&&(decide (By3 s.es 40)&&Z6 s.e)) from rfl);have SE:=Lh (show ∀E:Ev,(Tryz.prog.info? 46).map (·.size)=some (A8 E).length from fun E=>by rw[I3];exact Q3);have SQ:=Lh Ad7;unfold F9 at P1 P2 P3;generalize Ch8 s=R at HF ⊢;generalize Bz9 s.e=s1 at P1 HF;generalize decide (By3 s.es 40)=s2 at P2 HF;generalize Z6 s.e=s3 at P3 HF;clear h;go_enter Tryz.func13,Tryz.ntmps13
 go_upto_region 1 with(fail)
 generalize hW:World.alloc w _=W;have B1:=Lh (show A6 51 W w.heap.size (A5 s) by rw[←hW];exact A6.new w (A5 s) _);have G:=Lh (show Below w.heap.size w W by rw[←hW];exact ba w _);clear hW;generalize hn1:w.heap.size=n1 at B1 ⊢;clear hn1;go_wp2_with (refine F2 46 (.tmp 5) rfl ?_;refine C8 46 (.tmp 5) n1 0 (by first | rfl | simp[Region.wanted,yielded]) rfl rfl B1.out.blk.atE Tryz.underlying46 rfl (SE.out _) ?_)
 refine(P1.out _ G.out).mono ?_;rintro x w1 ⟨rfl,hb⟩;replace B1:=Lh (B1.out.up hb);replace G:=Lh (bt G.out hb);clear hb P1;go_wp2_with (refine F2 49 (.tmp 8) rfl ?_;refine C8 49 (.tmp 8) n1 70 (by first | rfl | simp[Region.wanted,yielded]) rfl rfl B1.out.blk.atP Tryz.underlying49 rfl SQ.out ?_)
 refine(P2.out _ G.out).mono ?_;rintro x w2 ⟨rfl,hb⟩;replace B1:=Lh (B1.out.up hb);replace G:=Lh (bt G.out hb);clear hb P2;rcases s1 with _ | _
 ·have hR:R=false:=by rw[HF.out];rfl
  subst hR;go_wp2_with fail
  go_ret;exact⟨rfl,G.out⟩
 rcases s2 with _ | _
 ·have hR:R=false:=by rw[HF.out];rfl
  subst hR;go_wp2_with fail
  go_ret;exact⟨rfl,G.out⟩
 have hR:R=s3:=by rw[HF.out];rfl
 subst hR;go_wp2_with (refine F2 46 (.tmp 16) rfl ?_;refine C8 46 (.tmp 16) n1 0 (by first | rfl | simp[Region.wanted,yielded]) rfl rfl B1.out.blk.atE Tryz.underlying46 rfl (SE.out _) ?_)
 refine(P3.out _ G.out).mono ?_;rintro x w3 ⟨rfl,hb⟩;go_wp2_with fail
 go_ret;exact⟨rfl,bt G.out hb⟩
theorem Eh4{k d e0 e1 g q:Nat}{bl t:List UInt8}(h:Aj5 k d e0 e1 g q bl.length)(ht:t.length=16):okR (inF k d e0 e1 g q bl++t)∧pdF (inF k d e0 e1 g q bl++t)=⟨k,d,e0,e1,g,q,bl,t⟩:=by
 obtain⟨q1,q2,q3,q4,q5,q6⟩:=h.nums bl t _ rfl;obtain⟨b1,b2,b3⟩:=Cq3 k d e0 e1 g q bl t ht;refine⟨⟨?_,h.good t ht⟩,?_⟩
 ·rw[b3];have h1:=h.n1;have h2:=h.n2;omega
 ·unfold pdF;rw[q1,q2,q3,q4,q5,q6,b1,b2]
def Am9:List UInt8:=List.replicate 32 0
theorem Bp3:Am9.length=32:=by kernel_rfl
abbrev exR(b:Option Addr)(cb:Nat):Rg:=⟨⟨1,b,32,cb⟩,G0,G0,0,1⟩
def exE(k s1 s2:Sl)(r:Rg)(kc:List UInt8)(h:Hv):Ev:=
 {id:=0,k:=k,ph:=3,s1:=s1,s2:=s2,pw:=-1,own:=3,oth:=4,seen:=4,seq:=0,wt:=0,wb:=T6,r:=r,kc:=kc,ko:=[],kp:=[],q:=⟨0,0,0,0,[]⟩,qa:=none,qc:=0,stan:=0,day:=0,ua:=none,uc:=0,u:=[],h:=h,hs:=Ep7,oa:=none,oc:=0,o:=[],ga:=none,gc:=0,g:=[],c0:=0,c1:=0,c2:=0,c3:=0}
def twE(e:Ev):Ev:={e with id:=1,own:=4,oth:=3}
def O1:Hv:=(Bg4 V2 0).1
theorem Dv4:Bg4 V2 0=(O1,0):=Prod.ext rfl (by kernel_rfl)
theorem Ev1:Aj6 O1=some 0:=by kernel_rfl
section
variable {k s1 s2:Sl} {b:Option Addr} {cb:Nat} {K:List UInt8}
theorem Bk0{e:Ev}(h1:Bp0 e=true)(h2:Ah8 e.s1.l e.s2.l=true)(h3:Az9 e=true)(h4:Am0 e=true)(h5:Ai7 e.q=true)(h6:U0 e.h e.hs=true)(h7:e.k.l.length=32)(h8:Ab9 e=true)(h9:Aa0 e=true):Z6 e=true:=by
 unfold Z6 Bd2;rw[h1,h2,h3,h4,h5,h6,h7,h8,h9];rfl
theorem Bp4(h1:s1.l=Au3 1)(h2:s2.l=Ap6):Ah8 s1.l s2.l=true:=De9.2 ⟨by rw[h1,By0],by rw[h2];rfl⟩
theorem Ch9(e:Ev)(h:e.wt=0)(hb:e.wb=T6):Az9 e=true:=by
 unfold Az9;rw[h,hb,decide_eq_true_eq];exact⟨⟨by decide,by decide⟩,fun p _ _=>At0 p,.inl rfl⟩
theorem Cl0(hk:k.l=Am9)(h1:s1.l=Au3 1)(h2:s2.l=Ap6):Z6 (exE k s1 s2 (exR b cb) K O1)=true:=
 Bk0 (by kernel_rfl) (Bp4 h1 h2) (Ch9 _ rfl rfl) (by kernel_rfl) (by kernel_rfl) (by kernel_rfl) (by show k.l.length=32;rw[hk,Bp3]) (by kernel_rfl) (by kernel_rfl)
theorem Eh5(hk:k.l=Am9)(h1:s1.l=Au3 1)(h2:s2.l=Ap6):Z6 (twE (exE k s1 s2 (exR b cb) K O1))=true:=
 Bk0 (by kernel_rfl) (Bp4 h1 h2) (Ch9 _ rfl rfl) (by kernel_rfl) (by kernel_rfl) (by kernel_rfl) (by show k.l.length=32;rw[hk,Bp3]) (by kernel_rfl) (by kernel_rfl)
def exI:List UInt8:=inF 2 0 3 4 1 0 [7]
def exX(K:List UInt8):List UInt8:=exI++X5 K exI
theorem Da7:Aj5 2 0 3 4 1 0 [(7:UInt8)].length:=by constructor<;>decide
theorem Eh6:okR (exX K):=(Eh4 Da7 (Ao6 K exI)).1
theorem Ap8:pdF (exX K)=⟨2,0,3,4,1,0,[7],X5 K exI⟩:=(Eh4 Da7 (Ao6 K exI)).2
def exT(e:Ev)(f:Bool)(ta:Option Addr)(tc:Nat)(K:List UInt8):Sv:=⟨e,true,f,ta,tc,Av7 [] K exI⟩
theorem Fg4(e:Ev)(f:Bool)(ta:Option Addr)(tc:Nat)(hk:Ai6 e (pdF (exX K))=K):Aj8 (exT e f ta tc K) (pdF (exX K))=true:=by
 unfold Aj8;show Bg2 true (Av7 [] K exI) (Ai6 e (pdF (exX K))) (inT (pdF (exX K))) (pdF (exX K)).t=true;rw[hk,Ap8];exact Cb4 true _ K exI (Cj7 [] K exI)
theorem Et0(f:Bool)(ta:Option Addr)(tc:Nat):U9 (exT (twE (exE k s1 s2 (exR b cb) K O1)) f ta tc K) (exX K)=(Bc5 (P9 (exT (twE (exE k s1 s2 (exR b cb) K O1)) f ta tc K) (pdF (exX K))) (pdF (exX K)),0):=by
 have hw:=Ct4 (exT (twE (exE k s1 s2 (exR b cb) K O1)) f ta tc K) (exX K) _ rfl;have hy:=Fg4 (K:=K) (twE (exE k s1 s2 (exR b cb) K O1)) f ta tc (by rw[Ap8];kernel_rfl);have hs:V6 (twE (exE k s1 s2 (exR b cb) K O1)) (pdF (exX K)).k (pdF (exX K)).d (pdF (exX K)).e0 (pdF (exX K)).e1 (pdF (exX K)).g=false:=by rw[Ap8];kernel_rfl
 exact hw.gone Eh6 hs hy (by rw[Ap8];rfl) (by rw[Ap8];kernel_rfl)
def An0(k s1 s2:Sl)(b:Option Addr)(cb:Nat)(K:List UInt8)(f:Bool)(ta:Option Addr)(tc:Nat):Sv:=Bc5 (P9 (exT (twE (exE k s1 s2 (exR b cb) K O1)) f ta tc K) (pdF (exX K))) (pdF (exX K))
theorem Ez5:decide (Ad0 (Ac7 0 T6 0).1 (Ac7 0 T6 0).2.1)=true:=by kernel_rfl
theorem Bt3(f:Bool)(ta:Option Addr)(tc:Nat):(An0 k s1 s2 b cb K f ta tc).e=(twE (exE k s1 s2 (exR b cb) K O1)).l_w (Ac7 0 T6 0).1 (Ac7 0 T6 0).2.1:=by
 unfold An0;rw[Ap8];kernel_rfl
theorem Dv5(hk:k.l=Am9)(h1:s1.l=Au3 1)(h2:s2.l=Ap6)(f:Bool)(ta:Option Addr)(tc:Nat):Z6 (An0 k s1 s2 b cb K f ta tc).e=true:=by
 rw[Bt3];exact Bk0 (by kernel_rfl) (Bp4 h1 h2) Ez5 (by kernel_rfl) (by kernel_rfl) (by kernel_rfl) (by show k.l.length=32;rw[hk,Bp3]) (by kernel_rfl) (by kernel_rfl)
theorem Cu3(f:Bool)(ta:Option Addr)(tc:Nat):(An0 k s1 s2 b cb K f ta tc).i=true∧(An0 k s1 s2 b cb K f ta tc).es=Av7 [] K exI:=by
 unfold An0;rw[Ap8];exact⟨by kernel_rfl,rfl⟩
theorem Et1(f:Bool)(ta:Option Addr)(tc:Nat):∃S:Sv,U9 (An0 k s1 s2 b cb K f ta tc) (exX K)=(S,6)∧S.e.c2=1:=by
 have hw:=Ct4 (An0 k s1 s2 b cb K f ta tc) (exX K) _ rfl;have hy:Aj8 (An0 k s1 s2 b cb K f ta tc) (pdF (exX K))=true:=by
  unfold Aj8;rw[(Cu3 f ta tc).1,(Cu3 f ta tc).2,Bt3,Ap8];exact Cb4 true _ K exI (Cj7 [] K exI)
 have hs:V6 (An0 k s1 s2 b cb K f ta tc).e (pdF (exX K)).k (pdF (exX K)).d (pdF (exX K)).e0 (pdF (exX K)).e1 (pdF (exX K)).g=false:=by rw[Bt3,Ap8];kernel_rfl
 refine⟨_,hw.old Eh6 hs hy (by rw[Ap8];rfl) (by rw[Bt3,Ap8];kernel_rfl),?_⟩;show wrap64 ((An0 k s1 s2 b cb K f ta tc).e.c2+1)=1;rw[Bt3];kernel_rfl
theorem Da8(a:Option Addr)(c:Nat):Ba0 (exE k s1 s2 (exR b cb) K O1) 0 a c=Bm1 (Dh0 (exE k s1 s2 (exR b cb) K O1) a c ⟨5,3,4,0,[]⟩) 0:=by kernel_rfl
theorem Eh7(hk:k.l=Am9)(h1:s1.l=Au3 1)(h2:s2.l=Ap6)(a:Option Addr)(c:Nat):Z6 (Ba0 (exE k s1 s2 (exR b cb) K O1) 0 a c)=true:=by
 rw[Da8];exact Bk0 (by kernel_rfl) (Bp4 h1 h2) (Ch9 _ rfl rfl) (by kernel_rfl) (by kernel_rfl) (by kernel_rfl) (by show k.l.length=32;rw[hk,Bp3]) (by kernel_rfl) (by kernel_rfl)
theorem Ez6(a:Option Addr)(c:Nat):(Ba0 (exE k s1 s2 (exR b cb) K O1) 0 a c).g.length=1∧(Ba0 (exE k s1 s2 (exR b cb) K O1) 0 a c).o=[]∧X7 (Ba0 (exE k s1 s2 (exR b cb) K O1) 0 a c).ph=false∧Aj6 (Ba0 (exE k s1 s2 (exR b cb) K O1) 0 a c).h=some 0:=by
 rw[Da8];exact⟨rfl,rfl,by kernel_rfl,by kernel_rfl⟩
end
def Bm4:Ev:=
 {id:=0,k:=⟨none,0,[]⟩,ph:=0,s1:=⟨none,0,[]⟩,s2:=⟨none,0,[]⟩,pw:=0,own:=0,oth:=0,seen:=0,seq:=0,wt:=0,wb:=T6,r:=R0,kc:=[],ko:=[],kp:=[],q:=⟨0,0,0,0,[]⟩,qa:=none,qc:=0,stan:=0,day:=0,ua:=none,uc:=0,u:=[],h:=V2,hs:=Ep7,oa:=none,oc:=0,o:=[],ga:=none,gc:=0,g:=[],c0:=0,c1:=0,c2:=0,c3:=0}
theorem Cu4:Z6 Bm4=false:=by
 unfold Z6;rw[show(Bm4.k.l.length==32)=false by kernel_rfl];simp
theorem Eh8(w:World):Ae6 w Bm4:=
 ⟨⟨.inl rfl,Nat.le_refl _,Nat.zero_le _⟩,⟨.inl rfl,Nat.le_refl _,Nat.zero_le _⟩,⟨.inl rfl,Nat.le_refl _,Nat.zero_le _⟩,Bz2 w,⟨Nat.le_refl _,Nat.zero_le _⟩,⟨Nat.le_refl _,Nat.zero_le _⟩,⟨Nat.le_refl _,Nat.zero_le _⟩,.inl rfl,⟨Nat.le_refl _,Nat.zero_le _⟩,Ai2.at (Ai2.nil (fun _=>True) w _),⟨Nat.le_refl _,Nat.zero_le _⟩,Eu6 V2 w (fun i hi=>rfl),fun i hi=>Nat.zero_le _,Ad9.nil w _,⟨Nat.le_refl _,Nat.zero_le _⟩,Aj0.nil w _,⟨Nat.le_refl _,Nat.zero_le _⟩,by decide⟩
end Go.Proofs.YtadpiemjgfndgaaGreatDoor
