/- Proved here, for use further on: EnvM EnvN EnvO EnvP EnvR EnvT EnvV EnvX SlA SlB SlD SlE SlF0 PrB PrC PrD PrE. Conditions: none but those each theorem names. -/
import Derived.Test.YtadpiemjgfndgaaGreatDoorKc00
import Derived.Test.YtadpiemjgfndgaaGreatDoorKc10
import Derived.Deep.DrawnRows
import Derived.Test.YtadpiemjgfndgaaGreatDoorKc03
import Derived.Lib.SliceRun
import Derived.Lib.AppendZeros
import Derived.Lib.AppendZerosOnto
import Derived.Deep.RegionHeld3
import Derived.ArgAppend
import Derived.Lib.SlBytesConst
import Derived.Deep.DeepCutAuto
import Derived.BigQuiet
import Derived.RangeFuncNested
import Derived.RangeFuncBound
import Derived.RangeFuncCalls
import Derived.RangeFuncLeaves
import Derived.RangeFuncFrom
import Derived.Shelf.Abstract
import Derived.Shelf.RegionOpen
import Derived.WalkKit
import Derived.OwnWalkIn
import Derived.TacticsInMore
import Derived.LoopNIn
import Derived.LoopIn
import Derived.Test.YtadpiemjgfndgaaGreatDoorKc08
set_option linter.unusedSimpArgs false
set_option linter.unusedVariables false
set_option maxRecDepth 100000
set_option maxHeartbeats 8000000
namespace Go.Proofs.YtadpiemjgfndgaaGreatDoor
open Go.RowKit
structure TS where
 at_:Nat
 ok:Bool
 L:List Value
def Bb3(l:List UInt8)(at_ z:Nat):Prop:=z=8∧127<(l.getD at_ 0).toNat
instance (l:List UInt8) (at_ z:Nat):Decidable (Bb3 l at_ z):=inferInstanceAs (Decidable (_∧_))
def Ap5(l:List UInt8)(z:Nat)(S:TS)(o:Nat):TS:=
 if Bb3 l S.at_ z then⟨S.at_,false,S.L.set o (.int .i64 0)⟩ else⟨S.at_+z,S.ok,S.L.set o (.int .i64 (I3 l S.at_ z))⟩
def Ag8(l:List UInt8)(z:Nat)(S:TS)(os:List Nat):TS:=os.foldl (Ap5 l z) S
theorem De3(l:List UInt8)(z:Nat)(S:TS)(os:List Nat)(k:Nat)(h:k<os.length):Ag8 l z S (os.take (k+1))=Ap5 l z (Ag8 l z S (os.take k)) (os.getD k 0):=by
 rw[Ac9 os k h 0];simp[Ag8,List.foldl_append]
theorem En0(l:List UInt8)(z:Nat)(S:TS)(o:Nat):(Ap5 l z S o).at_≤S.at_+z:=by unfold Ap5;split<;>simp
theorem Ea6(l:List UInt8)(z:Nat)(S:TS)(o:Nat):(Ap5 l z S o).L.length=S.L.length:=by unfold Ap5;split<;>simp
theorem Bm7(l:List UInt8)(z:Nat)(S:TS)(os:List Nat):(Ag8 l z S os).at_≤S.at_+z*os.length:=by
 induction os generalizing S with
 | nil=>simp[Ag8]
 | cons o os ih=>
   have h1:=ih (Ap5 l z S o);have h2:=En0 l z S o;show(Ag8 l z (Ap5 l z S o) os).at_≤_;rw[List.length_cons,Nat.mul_add];omega
theorem Bc7(l:List UInt8)(z:Nat)(S:TS)(os:List Nat):(Ag8 l z S os).L.length=S.L.length:=by
 induction os generalizing S with
 | nil=>rfl
 | cons o os ih=>exact(ih (Ap5 l z S o)).trans (Ea6 l z S o)
def Bq6(w0:World)(ba_ bo be:Nat)(w:World)(S:TS):Prop:=
 A6 3 w ba_ [.int .i64 (S.at_:Int)]∧A6 4 w bo [.bool S.ok]∧A6 65 w be S.L∧Below w0.heap.size w0 w
abbrev Bm8(be o:Nat):Value:=.pointer (some ⟨be,o,none⟩)
theorem Cq3{w0 wr:World}{ba_ bo be o N M:Nat}{B C:Bool}{L:List Value}(V:Value)(h1:w0.heap.size≤ba_)(h2:w0.heap.size≤bo)(h3:w0.heap.size≤be)(d1:ba_≠bo)(d2:ba_≠be)(d3:bo≠be)
 (hA:A6 3 wr ba_ [.int .i64 (M:Int)]) (hO:A6 4 wr bo [.bool C]) (hE:A6 65 wr be L) (hb:Below w0.heap.size w0 wr):
 Bq6 w0 ba_ bo be ((((wr.setCell ⟨be,o,none⟩ V).setCell ⟨ba_,0,none⟩ (.int .i64 (N:Int))).setCell ⟨bo,0,none⟩ (.bool B)).drew) ⟨N,B,L.set o V⟩:=
 ⟨((hA.other d2 _).set 0 _).other d1 _,((hO.other d3 _).other d1.symm _).set 0 _,((hE.set o _).other d2.symm _).other d3.symm _,(((hb.setCell h3 _).setCell h1 _).setCell h2 _).drew⟩
theorem En1(z:Nat)(hz:1≤z)(hz8:z≤8)(os:List Nat)(hos:∀o∈os,o<8)(hl:os.length≤2)(gp c bb ba_ bo be:Nat)(a:Option Addr)(ca:Nat)(l:List UInt8)(hla:l.length≤ca)(hca:ca≤maxLen)(S:TS)(hS8:S.L.length=8)(hfit:S.at_+z*os.length≤l.length)
 (w0 w:World) (h1:w0.heap.size≤ba_) (h2:w0.heap.size≤bo) (h3:w0.heap.size≤be) (d1:ba_≠bo) (d2:ba_≠be) (d3:bo≠be) (g1:gp≠ba_) (g2:gp≠bo) (g3:gp≠be) (b1:bb≠ba_) (b2:bb≠bo) (b3:bb≠be)
 (hbytes:A4 w0 a l) (hbb:A6 22 w bb [.slice a l.length ca]) (hp:A6 217 w gp (os.map (Bm8 be))) (hT:Bq6 w0 ba_ bo be w S):
 Calls Tryz.prog 181 #[.int .i64 z,.slice (some ⟨gp,0,none⟩) os.length c,.pointer (some ⟨bb,0,none⟩),.pointer (some ⟨ba_,0,none⟩),.pointer (some ⟨bo,0,none⟩)] w
  fun e w'=>e=.returned (.tuple #[])∧Bq6 w0 ba_ bo be w' (Ag8 l z S os)∧(∀g T cs,g≠ba_→g≠bo→g≠be→A6 T w g cs→A6 T w' g cs):=by
 have HT:=Lh hT;have HP:=Lh hp;have HBB:=Lh hbb;have HBy:=Lh hbytes;have Hos:=Lh hos;have Hfit:=Lh hfit;have HS8:=Lh hS8;clear hT hp hbb hbytes hos hfit hS8;go_enter Tryz.func181,Tryz.ntmps181
 go_wp2_with fail
 go_loopw [14] (fun v14 wx=>∃k:Nat,k≤os.length∧v14=.int .i64 k∧Bq6 w0 ba_ bo be wx (Ag8 l z S (os.take k))∧(∀g T cs,g≠ba_→g≠bo→g≠be→A6 T w g cs→A6 T wx g cs)) (fun v14 _=>os.length-(intOf v14).toNat)
 case atStart=>exact⟨0,Nat.zero_le _,rfl,HT.out,fun _ _ _ _ _ _ h=>h⟩
 case round=>
  clear HT;obtain⟨k,hk,rfl,hTk,hkeep⟩:=hrel;have HK:=Lh hkeep;clear hkeep;by_cases hlt:k<os.length
  ·have ho:=Hos.out (os.getD k 0) (by rw[show os.getD k 0=os[k] by simp[List.getD,hlt]];exact List.getElem_mem hlt);have hc:wr.cell? ⟨gp,k,none⟩=some (Bm8 be (os.getD k 0)):=by
    rw[(HK.out gp 217 _ g1 g2 g3 HP.out).blk.cell k (by simpa using hlt)];simp[List.getD,hlt]
   have Hsn:=Lh (De3 l z S os k hlt);have hat:=Bm7 l z S (os.take k);have hlen:=Bc7 l z S (os.take k);rw[List.length_take,Nat.min_eq_left (by omega)] at hat
   generalize Ag8 l z S (os.take k)=U at hTk Hsn hat hlen;obtain⟨at_,ok,L⟩:=U;obtain⟨hA,hO,hE,hbel⟩:=hTk;simp only at hA hO hE hat hlen;have hfit2:at_+z≤l.length:=by
    have e:z*os.length≥z*(k+1):=Nat.mul_le_mul_left z (by omega);rw[Nat.mul_add] at e;have:=Hfit.out;omega
   have hL8:L.length=8:=by rw[hlen,HS8.out]
   generalize os.getD k 0=o at ho hc Hsn;have q0:wr.cell? ⟨bb,0,none⟩=some (.slice a l.length ca):=(HK.out bb 22 _ b1 b2 b3 HBB.out).blk.cell 0 (by simp);have q1:wr.cell? ⟨ba_,0,none⟩=some (.int .i64 (at_:Int)):=hA.blk.cell 0 (by simp);have q2:wr.cell? ⟨bo,0,none⟩=some (.bool ok):=hO.blk.cell 0 (by simp);have q3:wr.cell? ⟨be,o,none⟩=some (L.getD o undef):=hE.blk.cell o (by omega);have f1:=hA.blk.frozen;have f2:=hO.blk.frozen;have f3:=hE.blk.frozen;have HTk:=Lh (Cw3 a ca l at_ z hz hz8 hfit2 hla hca wr (HBy.out.mono hbel));have HA:=Lh hA;have HO:=Lh hO;have HE:=Lh hE;have Hbel:=Lh hbel;clear hA hO hE hbel hat hlen;by_cases hbad:Bb3 l at_ z
   ·have hst:Ap5 l z ⟨at_,ok,L⟩ o=⟨at_,false,L.set o (.int .i64 0)⟩:=if_pos hbad;rw[hst] at Hsn;have HT2:=Lh (show Calls Tryz.prog 182 #[.slice a l.length ca,.int .i64 at_,.int .i64 z] wr fun e w'=>e=.returned (.tuple #[.int .i64 0,.int .i64 0,.int .i64 2])∧wr=w' from HTk.out.mono fun e w' ⟨h,h'⟩=>⟨by rw[h,if_pos (show z=8∧127<(l.getD at_ 0).toNat from hbad)],h'⟩);clear HTk hst hbad;go_wp2_with fail
    refine HT2.out.mono ?_;rintro e w2 ⟨rfl,rfl⟩;go_upto_region 4 with(fail)
    have e1:=d1.symm;have e2:=d2.symm;have e3:=d3.symm;rcases ok with _ | _;all_goals
     ·go_region
      go_wp2_with fail
      exact⟨⟨k+1,by omega,by go_num,by rw[Hsn.out];exact Cq3 _ h1 h2 h3 d1 d2 d3 HA.out HO.out HE.out Hbel.out,fun g T cs n1 n2 n3 hG=>(((HK.out g T cs n1 n2 n3 hG).other n3 _).other n1 _).other n2 _⟩,by first | (simp[intOf];done) | (simp[intOf];omega)⟩
   ·have hst:Ap5 l z ⟨at_,ok,L⟩ o=⟨at_+z,ok,L.set o (.int .i64 (I3 l at_ z))⟩:=if_neg hbad;rw[hst] at Hsn;have HT2:=Lh (show Calls Tryz.prog 182 #[.slice a l.length ca,.int .i64 at_,.int .i64 z] wr fun e w'=>e=.returned (.tuple #[.int .i64 (I3 l at_ z),.int .i64 ((at_+z:Nat):Int),.int .i64 0])∧wr=w' from HTk.out.mono fun e w' ⟨h,h'⟩=>⟨by rw[h,if_neg (show ¬(z=8∧127<(l.getD at_ 0).toNat) from hbad)],h'⟩);have htz:at_<at_+z:=by omega
    clear HTk hst hbad;generalize at_+z=T at HT2 Hsn htz;generalize I3 l at_ z=M at HT2 Hsn;have htz2:(at_:Int)<(T:Int):=by omega
    go_wp2_with fail
    refine HT2.out.mono ?_;rintro e w2 ⟨rfl,rfl⟩;go_upto_region 4 with(fail)
    have e1:=d1.symm;have e2:=d2.symm;have e3:=d3.symm;rcases ok with _ | _;all_goals
     ·go_region
      go_wp2_with fail
      exact⟨⟨k+1,by omega,by go_num,by rw[Hsn.out];exact Cq3 _ h1 h2 h3 d1 d2 d3 HA.out HO.out HE.out Hbel.out,fun g T cs n1 n2 n3 hG=>(((HK.out g T cs n1 n2 n3 hG).other n3 _).other n1 _).other n2 _⟩,by first | (simp[intOf];done) | (simp[intOf];omega)⟩
  ·obtain rfl:k=os.length:=by omega
   rw[List.take_length] at hTk;have HX:=Lh hTk;clear hTk;go_wp2_with fail
   go_end0
   exact⟨rfl,HX.out,HK.out⟩
abbrev I2:List Value:=J1 0 0 0 0 0 0 (.slice none 0 0) (.slice none 0 0)
def Cm7(w:World)(why:Int)(e:Ending)(w':World):Prop:=e=.returned (.tuple #[.agg I2.toArray,.int .i64 why])∧Below w.heap.size w w'
theorem Ad2:(Tryz.prog.info? 65).map (·.size)=some 8:=by kernel_rfl
theorem De4(a:Option Addr)(c:Nat)(l:List UInt8)(h:l.length<47)(w:World):
 Calls Tryz.prog 132 #[.slice a l.length c] w (Cm7 w 3):=by
 have hd:(l.length:Int)<47:=by omega
 go_enter Tryz.func132,Tryz.ntmps132
 go_wp2_with fail
 refine bodyPost_ret (F2 rfl _ _ (w.heap.size+1) (cs:=I2) rfl _ rfl ?hb Tryz.underlying65 rfl Ad2) rfl ?_
 case hb=>have:=Blk.new (w.alloc (.cells #[.slice a l.length c] 22)) I2 65;rwa [I9] at this
 exact⟨rfl,bta (ba w _) _⟩
theorem Ea7(a:Option Addr)(c:Nat)(l:List UInt8)(h:946<l.length)(hm:l.length≤maxLen)(w:World):
 Calls Tryz.prog 132 #[.slice a l.length c] w (Cm7 w 4):=by
 unfold maxLen at hm;have hd:¬(l.length:Int)<47:=by omega
 have hd2:(946:Int)<(l.length:Int):=by omega
 go_enter Tryz.func132,Tryz.ntmps132
 go_wp2_with fail
 refine bodyPost_ret (F2 rfl _ _ (w.heap.size+1) (cs:=I2) rfl _ rfl ?hb Tryz.underlying65 rfl Ad2) rfl ?_
 case hb=>have:=Blk.new (w.alloc (.cells #[.slice a l.length c] 22)) I2 65;rwa [I9] at this
 exact⟨rfl,bta (ba w _) _⟩
def Ca5(l:List UInt8):Prop:=¬Bb3 l 2 8∧¬Bb3 l 10 8∧¬Bb3 l 22 8
instance (l:List UInt8):Decidable (Ca5 l):=inferInstanceAs (Decidable (_∧_))
def Bc8(l:List UInt8):TS:=Ag8 l 8 (Ag8 l 4 (Ag8 l 8 (Ag8 l 1 ⟨0,true,I2⟩ [0,1]) [2,3]) [4]) [5]
theorem Ae1{l:List UInt8}{z at_ o:Nat}{ok:Bool}{L:List Value}(h:¬Bb3 l at_ z):Ap5 l z ⟨at_,ok,L⟩ o=⟨at_+z,ok,L.set o (.int .i64 (I3 l at_ z))⟩:=if_neg h
theorem Bq7{l:List UInt8}{z at_ o:Nat}{ok:Bool}{L:List Value}(h:Bb3 l at_ z):Ap5 l z ⟨at_,ok,L⟩ o=⟨at_,false,L.set o (.int .i64 0)⟩:=if_pos h
theorem Bc9{l:List UInt8}{z o:Nat}{S:TS}(h:S.ok=false):(Ap5 l z S o).ok=false:=by unfold Ap5;split<;>simp[h]
theorem Be9{l:List UInt8}{at_ z:Nat}(h:z≠8):¬Bb3 l at_ z:=fun h'=>h h'.1
theorem Cw5{l:List UInt8}(h:Ca5 l):Bc8 l=⟨30,true,J1 (I3 l 0 1) (I3 l 1 1) (I3 l 2 8) (I3 l 10 8) (I3 l 18 4) (I3 l 22 8) (.slice none 0 0) (.slice none 0 0)⟩:=by
 obtain⟨h1,h2,h3⟩:=h;unfold Bc8 Ag8;simp only[List.foldl_cons,List.foldl_nil];rw[Ae1 (z:=1) (at_:=0) (o:=0) (Be9 (by decide)),Ae1 (z:=1) (at_:=1) (o:=1) (Be9 (by decide)),Ae1 (z:=8) (at_:=2) (o:=2) h1,Ae1 (z:=8) (at_:=10) (o:=3) h2,Ae1 (z:=4) (at_:=18) (o:=4) (Be9 (by decide)),Ae1 (z:=8) (at_:=22) (o:=5) h3];rfl
theorem De5{l:List UInt8}(h:¬Ca5 l):(Bc8 l).ok=false:=by
 unfold Bc8 Ag8;simp only[List.foldl_cons,List.foldl_nil];rw[Ae1 (z:=1) (at_:=0) (o:=0) (Be9 (by decide)),Ae1 (z:=1) (at_:=1) (o:=1) (Be9 (by decide))];by_cases h1:Bb3 l 2 8
 ·rw[Bq7 (z:=8) (at_:=2) (o:=2) h1];exact Bc9 (Bc9 (Bc9 rfl))
 ·rw[Ae1 (z:=8) (at_:=2) (o:=2) h1];by_cases h2:Bb3 l 10 8
  ·rw[Bq7 (z:=8) (at_:=10) (o:=3) h2];exact Bc9 (Bc9 rfl)
  ·rw[Ae1 (z:=8) (at_:=10) (o:=3) h2,Ae1 (z:=4) (at_:=18) (o:=4) (Be9 (by decide))];by_cases h3:Bb3 l 22 8
   ·rw[Bq7 (z:=8) (at_:=22) (o:=5) h3]
   ·exact(h ⟨h1,h2,h3⟩).elim
theorem De6(l:List UInt8):(Bc8 l).L.length=8:=by unfold Bc8;simp only[Bc7];rfl
structure RB (w:World) (rb ba_ bo be:Nat):Prop where
 r:rb=w.heap.size+1
 a:ba_=w.heap.size+2
 o:bo=w.heap.size+3
 e:be=w.heap.size+4
def Cq4(w:World)(rb ba_ bo be:Nat)(a:Option Addr)(l:List UInt8)(c:Nat)(W:World)(S:TS):Prop:=
 Bq6 w ba_ bo be W S∧A6 22 W w.heap.size [.slice a l.length c]∧A6 65 W rb I2
theorem Bi1(z:Nat)(zi:Int)(hzi:zi=(z:Int))(hz:1≤z)(hz8:z≤8)(os:List Nat)(hos:∀o∈os,o<8)(len:Nat)(hlen:len=os.length)(hl:len≤2)(c:Nat)(a:Option Addr)(ca:Nat)(l:List UInt8)(hla:l.length≤ca)(hca:ca≤maxLen)(S:TS)(hS8:S.L.length=8)(hfit:S.at_+z*os.length≤l.length)
 (w W:World) (rb ba_ bo be:Nat) (hr:RB w rb ba_ bo be) (hbytes:A4 w a l) (h:Cq4 w rb ba_ bo be a l ca W S) (xs:Array Value) (hxs:xs=(os.map (Bm8 be)).toArray):
 Calls Tryz.prog 181 #[.int .i64 zi,.slice (some ⟨W.heap.size,0,none⟩) len c,.pointer (some ⟨w.heap.size,0,none⟩),.pointer (some ⟨ba_,0,none⟩),.pointer (some ⟨bo,0,none⟩)] (W.alloc (.cells xs 217))
  fun e w'=>e=.returned (.tuple #[])∧Cq4 w rb ba_ bo be a l ca w' (Ag8 l z S os):=by
 subst hzi;subst hlen;subst hxs;obtain⟨r1,r2,r3,r4⟩:=hr;obtain⟨⟨hA,hO,hE,hb⟩,hB,hR⟩:=h;have hlt:be<W.heap.size:=hE.blk.lt;refine(En1 z hz hz8 os hos hl W.heap.size c w.heap.size ba_ bo be a ca l hla hca S hS8 hfit w _ (by omega) (by omega) (by omega) (by omega) (by omega) (by omega) (by omega) (by omega) (by omega) (by omega) (by omega) (by omega) hbytes (hB.up (ba _ _)) (A6.new W _ 217) ⟨hA.up (ba _ _),hO.up (ba _ _),hE.up (ba _ _),bt hb (ba _ _)⟩).mono ?_;rintro e w' ⟨h1,h2,h3⟩;exact⟨h1,h2,h3 _ _ _ (by omega) (by omega) (by omega) (hB.up (ba _ _)),h3 _ _ _ (by omega) (by omega) (by omega) (hR.up (ba _ _))⟩
def Ab5(l:List UInt8):List UInt8:=(l.drop 30).take (l.length-46)
def Aj5(l:List UInt8):List UInt8:=l.drop (l.length-16)
theorem Bq8(l:List UInt8):(Ab5 l).length=l.length-46:=by unfold Ab5;rw[List.length_take,List.length_drop];omega
theorem Bx0(l:List UInt8)(h:16≤l.length):(Aj5 l).length=16:=by unfold Aj5;rw[List.length_drop];omega
def Ea8(w:World)(k d e0 e1 g s:Int)(bl tl:List UInt8)(e:Ending)(w':World):Prop:=
 ∃a1 c1 a2 c2,e=.returned (.tuple #[Bd4 k d e0 e1 g s (.slice a1 bl.length c1) (.slice a2 tl.length c2),.int .i64 0])∧bl.length≤c1∧c1≤maxLen∧tl.length≤c2∧c2≤maxLen∧A4 w' a1 bl∧A4 w' a2 tl∧Below w.heap.size w w'
def Am9(l:List UInt8):Prop:=Ca5 l∧Aj0 (I3 l 0 1) (I3 l 1 1) (I3 l 2 8) (I3 l 10 8) (I3 l 18 4) (I3 l 22 8) (l.length-46) 16=true
theorem En2(a:Option Addr)(c:Nat)(l:List UInt8)(h1:47≤l.length)(h2:l.length≤946)(hc:l.length≤c)(hcm:c≤maxLen)(w:World)(hl:A4 w a l):
 Calls Tryz.prog 132 #[.slice a l.length c] w fun e w'=>(Am9 l→Ea8 w (I3 l 0 1) (I3 l 1 1) (I3 l 2 8) (I3 l 10 8) (I3 l 18 4) (I3 l 22 8) (Ab5 l) (Aj5 l) e w')∧(¬Am9 l→Cm7 w 2 e w'):=by
 have Hl:=Lh hl;have Hc:=Lh (And.intro hc hcm);have i1:¬(l.length:Int)<47:=by omega
 have i2:¬(946:Int)<(l.length:Int):=by omega
 clear hl hc hcm;go_enter Tryz.func132,Tryz.ntmps132
 go_upto_region 8 with(fail)
 generalize hW:World.alloc (World.alloc (World.alloc (World.alloc (World.alloc w _) _) _) _) _=W;have hR0:Cq4 w (w.heap.size+1) (w.heap.size+1+1) (w.heap.size+1+1+1) (w.heap.size+1+1+1+1) a l c W ⟨0,true,I2⟩:=by
  rw[←hW];have s1:=I9 w (.cells #[.slice a l.length c] 22);have k0:=A6.new w [.slice a l.length c] 22;have k1:=A6.new (w.alloc (.cells #[.slice a l.length c] 22)) I2 65;rw[s1] at k1;have s2:=I9 (w.alloc (.cells #[.slice a l.length c] 22)) (.cells I2.toArray 65);rw[s1] at s2;have k2:=A6.new ((w.alloc (.cells #[.slice a l.length c] 22)).alloc (.cells I2.toArray 65)) [.int .i64 0] 3;rw[s2] at k2;have s3:=I9 ((w.alloc (.cells #[.slice a l.length c] 22)).alloc (.cells I2.toArray 65)) (.cells [.int .i64 0].toArray 3);rw[s2] at s3;have k3:=A6.new (((w.alloc (.cells #[.slice a l.length c] 22)).alloc (.cells I2.toArray 65)).alloc (.cells [.int .i64 0].toArray 3)) [.bool true] 4;rw[s3] at k3;have s4:=I9 (((w.alloc (.cells #[.slice a l.length c] 22)).alloc (.cells I2.toArray 65)).alloc (.cells [.int .i64 0].toArray 3)) (.cells [.bool true].toArray 4);rw[s3] at s4;have k4:=A6.new ((((w.alloc (.cells #[.slice a l.length c] 22)).alloc (.cells I2.toArray 65)).alloc (.cells [.int .i64 0].toArray 3)).alloc (.cells [.bool true].toArray 4)) I2 65;rw[s4] at k4;exact⟨⟨(k2.up (ba _ _)).up (ba _ _),k3.up (ba _ _),k4,bta (bta (bta (bta (ba w _) _) _) _) _⟩,(((k0.up (ba _ _)).up (ba _ _)).up (ba _ _)).up (ba _ _),((k1.up (ba _ _)).up (ba _ _)).up (ba _ _)⟩
 clear hW;have hr:RB w (w.heap.size+1) (w.heap.size+1+1) (w.heap.size+1+1+1) (w.heap.size+1+1+1+1):=⟨rfl,rfl,rfl,rfl⟩;generalize w.heap.size+1+1+1+1=be at hr hR0 ⊢;generalize w.heap.size+1+1+1=bo at hr hR0 ⊢;generalize w.heap.size+1+1=bc at hr hR0 ⊢;generalize w.heap.size+1=rb at hr hR0 ⊢;have Hr:=Lh hr;clear hr;obtain⟨T1,hT1⟩:∃T1,T1=Ag8 l 1 ⟨0,true,I2⟩ [0,1]:=⟨_,rfl⟩;have L1:T1.L.length=8:=by rw[hT1,Bc7];rfl
 have A1:T1.at_≤2:=by rw[hT1];exact Bm7 l 1 ⟨0,true,I2⟩ [0,1]
 have H1:=Lh (Bi1 1 1 rfl (by decide) (by decide) [0,1] (by decide) 2 rfl (by decide) 2 a c l Hc.out.1 Hc.out.2 ⟨0,true,I2⟩ rfl (by show 0+1*2≤_;omega) w W rb bc bo be Hr.out Hl.out hR0 #[Bm8 be 0,Bm8 be 1] rfl);rw[←hT1] at H1;go_wp2_with fail
 refine H1.out.mono ?_;rintro e w2 ⟨rfl,R2⟩;obtain⟨T2,hT2⟩:∃T2,T2=Ag8 l 8 T1 [2,3]:=⟨_,rfl⟩;have L2:T2.L.length=8:=by rw[hT2,Bc7,L1]
 have A2:T2.at_≤18:=by rw[hT2];have:=Bm7 l 8 T1 [2,3];simp at this;omega
 have H2:=Lh (Bi1 8 8 rfl (by decide) (by decide) [2,3] (by decide) 2 rfl (by decide) 2 a c l Hc.out.1 Hc.out.2 T1 L1 (by simp;omega) w w2 rb bc bo be Hr.out Hl.out R2 #[Bm8 be 2,Bm8 be 3] rfl);rw[←hT2] at H2;clear H1 hR0 R2;go_wp2_with fail
 refine H2.out.mono ?_;rintro e w3 ⟨rfl,R3⟩;obtain⟨T3,hT3⟩:∃T3,T3=Ag8 l 4 T2 [4]:=⟨_,rfl⟩;have L3:T3.L.length=8:=by rw[hT3,Bc7,L2]
 have A3:T3.at_≤22:=by rw[hT3];have:=Bm7 l 4 T2 [4];simp at this;omega
 have H3:=Lh (Bi1 4 4 rfl (by decide) (by decide) [4] (by decide) 1 rfl (by decide) 1 a c l Hc.out.1 Hc.out.2 T2 L2 (by simp;omega) w w3 rb bc bo be Hr.out Hl.out R3 #[Bm8 be 4] rfl);rw[←hT3] at H3;clear H2 R3;go_wp2_with fail
 refine H3.out.mono ?_;rintro e w4 ⟨rfl,R4⟩;have H4:=Lh (Bi1 8 8 rfl (by decide) (by decide) [5] (by decide) 1 rfl (by decide) 1 a c l Hc.out.1 Hc.out.2 T3 L3 (by simp;omega) w w4 rb bc bo be Hr.out Hl.out R4 #[Bm8 be 5] rfl);rw[show Ag8 l 8 T3 [5]=Bc8 l by rw[hT3,hT2,hT1];rfl] at H4;clear H3 R4;go_wp2_with fail
 refine H4.out.mono ?_;rintro e w5 ⟨rfl,R5⟩;have hTL:=De6 l;have HTg:=Lh (@Cw5 l);have HTb:=Lh (@De5 l);generalize Bc8 l=T at R5 hTL HTg HTb;obtain⟨at_,ok,L⟩:=T;obtain⟨⟨hA,hO,hE,hb⟩,hB,hR⟩:=R5;simp only at hA hO hE hTL HTg HTb;obtain⟨P,hP⟩:∃P,P=l.length-16:=⟨_,rfl⟩;have hPi:(l.length:Int)-16=(P:Int):=by omega
 have hs1:=fun W=>Bz3 Tryz.underlying22 Al5 W a l.length c 30 (P:Int) (by omega) (by omega) (by have:=Hc.out.1;omega);have hs2:=fun W=>Bc5 Tryz.underlying22 Al5 W a l.length c (P:Int) (by omega) (by omega);rw[show(P:Int).toNat-(30:Int).toNat=(Ab5 l).length by rw[Bq8];omega,show(30:Int).toNat=30 from rfl] at hs1;rw[show(P:Int).toNat=P from rfl,show l.length-P=(Aj5 l).length by rw[Bx0 l (by omega)];omega] at hs2;have HB1:=Lh (show A4 w (adv a c 30 1) (Ab5 l) from(A4.adv (cap:=c) (k:=30) Hl.out rfl Hc.out.1).take (l.length-46));have HB2:=Lh (show A4 w (adv a c P 1) (Aj5 l) from by have:=A4.adv (cap:=c) (k:=P) Hl.out rfl Hc.out.1;rwa [hP] at this ⊢);have hbl:=Bq8 l;have htl:=Bx0 l (by omega);have HBl:=Lh hbl;have HTl:=Lh htl;generalize adv a c 30 1=x1 at hs1 HB1;generalize adv a c P 1=x2 at hs2 HB2;generalize c-30=y1 at hs1;generalize c-P=y2 at hs2;have HC1:=Lh (fun(W:World) (h:Below w.heap.size w W)=>Cj3 x1 y1 (Ab5 l) W (by omega) (HB1.out.mono h));have HC2:=Lh (fun(W:World) (h:Below w.heap.size w W)=>Cj3 x2 y2 (Aj5 l) W (by omega) (HB2.out.mono h));have Hb5:=Lh hb;have HE5:=Lh hE;have HO5:=Lh hO;have HBb5:=Lh hB;have HR5:=Lh hR;have q0:w5.cell? ⟨w.heap.size,0,none⟩=some (.slice a l.length c):=hB.blk.cell 0 (by simp);have hgood:=Lh hTL;clear hbl htl hb hE hO hB hR hA H4 A1 A2 A3 L1 L2 L3 hT1 hT2 hT3 HB1 HB2 hP hTL;go_wp2_with fail
 refine(HC1.out _ Hb5.out).mono ?_;rintro e w6 ⟨a6,c6,rfl,B6⟩;have hc6:=B6.cap;have E6:=HE5.out.up B6.bel;have hbe:=HE5.out.blk.lt;have b6:=bt Hb5.out B6.bel;have O6:V3 w5.heap.size w6 (.slice a6 (Ab5 l).length c6) (Ab5 l).length (B8s (Ab5 l)):=⟨B6.own,B6.bel.size⟩;have r6:=HR5.out.up B6.bel;have o6:=HO5.out.up B6.bel;have p6:=HBb5.out.up B6.bel;have k6:=E6.blk.cell 6 (by rw[hgood.out];decide);have f6:=E6.blk.frozen;have n1:w.heap.size≠be:=by have:=Hr.out.e;omega
 have n2:rb≠be:=by have:=Hr.out.e;have:=Hr.out.r;omega
 have n3:bo≠be:=by have:=Hr.out.e;have:=Hr.out.o;omega
 have n4:w.heap.size≤be:=by have:=Hr.out.e;omega
 go_upto_region 14 with(fail)
 generalize hW7:World.setCell w6 _ _=W7;have E7:A6 65 W7 be (L.set 6 (.slice a6 (Ab5 l).length c6)):=by rw[←hW7];exact E6.set 6 _
 have p7:A6 22 W7 w.heap.size [.slice a l.length c]:=by rw[←hW7];exact p6.other n1 _
 have r7:A6 65 W7 rb I2:=by rw[←hW7];exact r6.other n2 _
 have o7:A6 4 W7 bo [.bool ok]:=by rw[←hW7];exact o6.other n3 _
 have O7:V3 w5.heap.size W7 (.slice a6 (Ab5 l).length c6) (Ab5 l).length (B8s (Ab5 l)):=by rw[←hW7];exact O6.cellset E6 (by decide) _
 have b7:Below w.heap.size w W7:=by rw[←hW7];exact b6.setCell n4 _
 clear hW7 E6 p6 r6 o6 O6 b6 k6 f6 q0 B6 HC1;have q7:W7.cell? ⟨w.heap.size,0,none⟩=some (.slice a l.length c):=p7.blk.cell 0 (by simp);go_wp2_with fail
 refine(HC2.out _ b7).mono ?_;rintro e w8 ⟨a8,c8,rfl,Bt⟩;have hc8:=Bt.cap;have E8:=E7.up Bt.bel;have hbe8:=E7.blk.lt;have b8:=bt b7 Bt.bel;have T8:V3 W7.heap.size w8 (.slice a8 (Aj5 l).length c8) (Aj5 l).length (B8s (Aj5 l)):=⟨Bt.own,Bt.bel.size⟩;have O8:=O7.up Bt.bel;have r8:=r7.up Bt.bel;have o8:=o7.up Bt.bel;have k8:=E8.blk.cell 7 (by rw[List.length_set,hgood.out];decide);have f8:=E8.blk.frozen;clear E7 p7 r7 o7 O7 b7 q7 Bt HC2;go_upto_region 15 with(fail)
 generalize hW9:World.setCell w8 _ _=W9;have E9:A6 65 W9 be ((L.set 6 (.slice a6 (Ab5 l).length c6)).set 7 (.slice a8 (Aj5 l).length c8)):=by rw[←hW9];exact E8.set 7 _
 have r9:=Lh (show A6 65 W9 rb I2 by rw[←hW9];exact r8.other n2 _);have o9:A6 4 W9 bo [.bool ok]:=by rw[←hW9];exact o8.other n3 _
 have O9:=Lh (show V3 w5.heap.size W9 (.slice a6 (Ab5 l).length c6) (Ab5 l).length (B8s (Ab5 l)) by rw[←hW9];exact O8.cellset E8 (by decide) _);have T9:=Lh (show V3 W7.heap.size W9 (.slice a8 (Aj5 l).length c8) (Aj5 l).length (B8s (Aj5 l)) by rw[←hW9];exact T8.cellset E8 (by decide) _);have b9:=Lh (show Below w.heap.size w W9 by rw[←hW9];exact b8.setCell n4 _);clear hW9 E8 r8 o8 O8 T8 b8 k8 f8;have HIr:=Lh Ad2;have hrb:w.heap.size≤rb:=by have:=Hr.out.r;omega
 by_cases hg:Ca5 l
 ·have hT:=HTg.out hg;rw[TS.mk.injEq] at hT;obtain⟨-,rfl,rfl⟩:=hT;have E9':A6 65 W9 be (J1 (I3 l 0 1) (I3 l 1 1) (I3 l 2 8) (I3 l 10 8) (I3 l 18 4) (I3 l 22 8) (.slice a6 (Ab5 l).length c6) (.slice a8 (Aj5 l).length c8)):=E9;have oc:W9.cell? ⟨bo,0,none⟩=some (.bool true):=o9.blk.cell 0 (by simp);clear E9 o9 HTg HTb;obtain⟨c0,c1,c2,c3,c4,c5,cc6,cc7⟩:=I6 E9'.blk;have HRt:=Lh (fun W=>Bq5 (I3 l 0 1) (I3 l 1 1) (I3 l 2 8) (I3 l 10 8) (I3 l 18 4) (I3 l 22 8) a6 a8 (Ab5 l).length c6 (Aj5 l).length c8 (by omega) (by omega) W);rcases hrt:Aj0 (I3 l 0 1) (I3 l 1 1) (I3 l 2 8) (I3 l 10 8) (I3 l 18 4) (I3 l 22 8) (Ab5 l).length (Aj5 l).length with _ | _
  ·rw[hrt] at HRt;go_wp2_with fail
   refine(HRt.out _).mono ?_;rintro e w10 ⟨rfl,hb10⟩;have r10:=Lh (r9.out.up hb10);have b10:=Lh (bt b9.out hb10);clear hb10;go_wp2_with (first | (refine G9 65 (.tmp 2) (.tmp 60) rb (old:=I2) (cs:=I2) rfl rfl rfl rfl ?hb HIr.out rfl rfl ?_;(case hb=>exact r10.out.blk)))
   refine bodyPost_ret (F2 rfl _ _ rb (cs:=I2) rfl _ rfl ?hb Tryz.underlying65 rfl Ad2) rfl ?_
   case hb=>exact(r10.out.row I2).blk
   refine⟨fun h=>?_,fun _=>⟨rfl,F5 b10.out hrb _⟩⟩;have e:=hrt;rw[HBl.out,HTl.out,h.2] at e;exact Bool.noConfusion e
  ·rw[hrt] at HRt;go_wp2_with fail
   refine(HRt.out _).mono ?_;rintro e w10 ⟨rfl,hb10⟩;have r10:=Lh (r9.out.up hb10);have b10:=Lh (bt b9.out hb10);have E10:=Lh (E9'.up hb10);have O10:=Lh (O9.out.up hb10);have T10:=Lh (T9.out.up hb10);clear hb10 c0 c1 c2 c3 c4 c5 cc6 cc7 E9';go_wp2_with (first
    | (refine C4 65 (.tmp 7) be (cs:=J1 (I3 l 0 1) (I3 l 1 1) (I3 l 2 8) (I3 l 10 8) (I3 l 18 4) (I3 l 22 8) (.slice a6 (Ab5 l).length c6) (.slice a8 (Aj5 l).length c8)) rfl rfl rfl ?hb Tryz.underlying65 rfl HIr.out ?_;(case hb=>exact E10.out.blk))
    | (refine G9 65 (.tmp 2) (.tmp 61) rb (old:=I2) (cs:=J1 (I3 l 0 1) (I3 l 1 1) (I3 l 2 8) (I3 l 10 8) (I3 l 18 4) (I3 l 22 8) (.slice a6 (Ab5 l).length c6) (.slice a8 (Aj5 l).length c8)) rfl rfl rfl rfl ?hb HIr.out rfl rfl ?_;(case hb=>exact r10.out.blk)))
   refine bodyPost_ret (F2 rfl _ _ rb (cs:=J1 (I3 l 0 1) (I3 l 1 1) (I3 l 2 8) (I3 l 10 8) (I3 l 18 4) (I3 l 22 8) (.slice a6 (Ab5 l).length c6) (.slice a8 (Aj5 l).length c8)) rfl _ rfl ?hb Tryz.underlying65 rfl Ad2) rfl ?_
   case hb=>exact(r10.out.row _).blk
   exact⟨fun _=>⟨a6,c6,a8,c8,rfl,hc6.2.1,hc6.2.2,hc8.2.1,hc8.2.2,(O10.out.row r10.out (by decide) _).at,(T10.out.row r10.out (by decide) _).at,F5 b10.out hrb _⟩,fun h=>(h ⟨hg,by have e:=hrt;rwa [HBl.out,HTl.out] at e⟩).elim⟩
 ·have hok:ok=false:=HTb.out hg;subst hok;have oc:W9.cell? ⟨bo,0,none⟩=some (.bool false):=o9.blk.cell 0 (by simp);clear E9 o9 HTg HTb;go_wp2_with (first | (refine G9 65 (.tmp 2) (.tmp 60) rb (old:=I2) (cs:=I2) rfl rfl rfl rfl ?hb HIr.out rfl rfl ?_;(case hb=>exact r9.out.blk)))
  refine bodyPost_ret (F2 rfl _ _ rb (cs:=I2) rfl _ rfl ?hb Tryz.underlying65 rfl Ad2) rfl ?_
  case hb=>exact(r9.out.row I2).blk
  exact⟨fun h=>(hg h.1).elim,fun _=>⟨rfl,F5 b9.out hrb _⟩⟩
abbrev z16:List UInt8:=List.replicate 16 0
theorem De7(n i:Nat):(Av4 n i).toNat=n/256^i%256:=by unfold Av4;rw[UInt8.toNat_ofNat']
theorem Bu9(l:List UInt8)(at_ n z:Nat)(h:∀i,i<z→l.getD (at_+i) 0=Av4 n (z-1-i))(hn:n<256^z):∀k,k≤z→I3 l at_ k=n/256^(z-k)
 | 0,_=>by
   show 0=_;rw[Nat.sub_zero,Nat.div_eq_of_lt hn]
 | k+1,hk=>by
   show I3 l at_ k*256+(l.getD (at_+k) 0).toNat=_;rw[Bu9 l at_ n z h hn k (by omega),h k (by omega),De7];obtain⟨j,hj⟩:∃j,z-k=j+1:=⟨z-k-1,by omega⟩;rw[show z-1-k=j by omega,show z-(k+1)=j by omega,hj,Nat.pow_succ,←Nat.div_div_eq_div_mul];omega
theorem En3(l:List UInt8)(at_ n z:Nat)(h:∀i,i<z→l.getD (at_+i) 0=Av4 n (z-1-i))(hn:n<256^z):I3 l at_ z=n:=by
 rw[Bu9 l at_ n z h hn z (Nat.le_refl _),Nat.sub_self,Nat.pow_zero,Nat.div_one]
theorem En4(n z i:Nat)(h:i<z):(J7 n z).getD i 0=Av4 n (z-1-i):=by
 unfold J7 Ap3;simp[List.getD,h];omega
theorem En5(X Y:List UInt8)(n z:Nat)(hn:n<256^z):I3 (X++J7 n z++Y) X.length z=n:=by
 refine En3 _ _ _ _ (fun i hi=>?_) hn;rw[←En4 n z i hi];have hl:=U0 n z;simp[List.getD,List.getElem?_append_left,List.getElem?_append_right,hl,hi]
theorem Cq5(l:List UInt8)(at_:Nat)(k:Nat):∀j,I3 l at_ (k+j)/256^j=I3 l at_ k
 | 0=>by simp
 | j+1=>by
   have h:=(l.getD (at_+(k+j)) 0).toNat_lt;show(I3 l at_ (k+j)*256+(l.getD (at_+(k+j)) 0).toNat)/256^(j+1)=_;rw[Nat.pow_succ,Nat.mul_comm (256^j) 256,←Nat.div_div_eq_div_mul,show(I3 l at_ (k+j)*256+(l.getD (at_+(k+j)) 0).toNat)/256=I3 l at_ (k+j) by omega];exact Cq5 l at_ k j
theorem Fe9(k d e0 e1 g s:Nat)(bl:List UInt8):inF k d e0 e1 g s bl=J7 k 1++(J7 d 1++(J7 e0 8++(J7 e1 8++(J7 g 4++(J7 s 8++bl))))):=by
 show((((((([]++J7 k 1)++J7 d 1)++J7 e0 8)++J7 e1 8)++J7 g 4)++J7 s 8)++bl)=_;simp only[List.nil_append,List.append_assoc]
theorem Bf0(X Y l:List UInt8)(n z at_:Nat)(hX:X.length=at_)(hl:l=X++J7 n z++Y)(hn:n<256^z):I3 l at_ z=n:=by
 subst hX;subst hl;exact En5 X Y n z hn
theorem Ai1.nums{k d e0 e1 g s n:Nat}(h:Ai1 k d e0 e1 g s n)(bl tl:List UInt8):∀l,l=inF k d e0 e1 g s bl++tl→
 I3 l 0 1=k∧I3 l 1 1=d∧I3 l 2 8=e0∧I3 l 10 8=e1∧I3 l 18 4=g∧I3 l 22 8=s:=by
 intro l hl;rw[Fe9] at hl;obtain⟨h1,h2,h3,h4,h5,h6,h7,h8,h9⟩:=h;refine⟨?_,?_,?_,?_,?_,?_⟩
 ·exact Bf0 [] _ l k 1 0 rfl (by rw[hl];simp only[List.nil_append,List.append_assoc];rfl) (by omega)
 ·exact Bf0 (J7 k 1) _ l d 1 1 (U0 _ _) (by rw[hl];simp only[List.append_assoc];rfl) (by omega)
 ·exact Bf0 (J7 k 1++J7 d 1) _ l e0 8 2 (by simp[U0]) (by rw[hl];simp only[List.append_assoc];rfl) (by omega)
 ·exact Bf0 (J7 k 1++(J7 d 1++J7 e0 8)) _ l e1 8 10 (by simp[U0]) (by rw[hl];simp only[List.append_assoc];rfl) (by omega)
 ·exact Bf0 (J7 k 1++(J7 d 1++(J7 e0 8++J7 e1 8))) _ l g 4 18 (by simp[U0]) (by rw[hl];simp only[List.append_assoc];rfl) (by omega)
 ·exact Bf0 (J7 k 1++(J7 d 1++(J7 e0 8++(J7 e1 8++J7 g 4)))) _ l s 8 22 (by simp[U0]) (by rw[hl];simp only[List.append_assoc];rfl) (by omega)
theorem Bx1{l:List UInt8}{at_:Nat}(h:I3 l at_ 8<9223372036854775808):¬Bb3 l at_ 8:=by
 rintro⟨-,h2⟩;have e:=Cq5 l at_ 1 7;have e1:I3 l at_ 1=(l.getD at_ 0).toNat:=by
  show 0*256+(l.getD (at_+0) 0).toNat=_;rw[Nat.zero_mul,Nat.zero_add,Nat.add_zero]
 rw[e1,show(1+7:Nat)=8 from rfl] at e;omega
theorem Cq6(k d e0 e1 g s:Nat)(bl tl:List UInt8)(ht:tl.length=16):Ab5 (inF k d e0 e1 g s bl++tl)=bl∧Aj5 (inF k d e0 e1 g s bl++tl)=tl∧(inF k d e0 e1 g s bl++tl).length=bl.length+46:=by
 have hl:=Bb1 k d e0 e1 g s bl;have h1:(inF k d e0 e1 g s bl++tl).length=bl.length+46:=by rw[List.length_append,hl,ht];omega
 refine⟨?_,?_,h1⟩
 ·unfold Ab5;rw[h1];unfold inF;rw[List.append_assoc,List.drop_append_of_le_length (by rw[Ce8];exact Nat.le_refl _),List.drop_of_length_le (by rw[Ce8];exact Nat.le_refl _),List.nil_append,show bl.length+46-46=bl.length by omega,List.take_left]
 ·unfold Aj5;rw[h1,show bl.length+46-16=(inF k d e0 e1 g s bl).length by rw[hl];omega,List.drop_left]
theorem Ai1.good{k d e0 e1 g s:Nat}{bl:List UInt8}(h:Ai1 k d e0 e1 g s bl.length)(tl:List UInt8)(ht:tl.length=16):Am9 (inF k d e0 e1 g s bl++tl):=by
 obtain⟨q1,q2,q3,q4,q5,q6⟩:=h.nums bl tl _ rfl;have hp:=h.parts;obtain⟨h1,h2,h3,h4,h5,h6,h7,h8,h9⟩:=h;refine⟨⟨Bx1 (by omega),Bx1 (by omega),Bx1 (by omega)⟩,?_⟩;rw[q1,q2,q3,q4,q5,q6,(Cq6 k d e0 e1 g s bl tl ht).2.2,show bl.length+46-46=bl.length by omega];unfold Aj0;rw[hp];rfl
theorem Am9.may{l:List UInt8}(h:Am9 l):Ai1 (I3 l 0 1) (I3 l 1 1) (I3 l 2 8) (I3 l 10 8) (I3 l 18 4) (I3 l 22 8) (Ab5 l).length:=by
 have hp:=h.2;unfold Aj0 at hp;rw[Bool.and_eq_true] at hp;obtain⟨K,D,E0,E1,G,S,k1,k2,k3,k4,k5,k6,hM⟩:=Ea5 hp.1;rw[Bq8];have e1:=Int.ofNat_inj.1 k1;have e2:=Int.ofNat_inj.1 k2;have e3:=Int.ofNat_inj.1 k3;have e4:=Int.ofNat_inj.1 k4;have e5:=Int.ofNat_inj.1 k5;have e6:=Int.ofNat_inj.1 k6;rw[e1,e2,e3,e4,e5,e6];exact hM
def Cm8:List UInt8:=[121,101,116,116]
def Bm9:Nat:=4611686018427387904
def De8(l:List UInt8):List UInt8:=(ofF (Cm8++l)).take 8
def Av3(n:Nat):List UInt8:=J7 n 8++De8 (J7 n 8)
theorem Ea9(l:List UInt8):(De8 l).length=8:=by unfold De8;rw[List.length_take,Ag5];rfl
theorem Bx2(n:Nat):(Av3 n).length=16:=by unfold Av3;rw[List.length_append,U0,Ea9]
theorem Ex4:Bm9<256^8:=by decide
def Aq8:List UInt8:=List.replicate 16 0
theorem V5.later{w0 w w':World}{v:Value}{l:List UInt8}(h:V5 w0 w v l)(hb:Below w.heap.size w w'):V5 w0 w' v l:=V5.of rfl (h.buf.later hb)
theorem Ex5{w0 w:World}{b n:Nat}{l:List UInt8}(hn:l.length=n)(h:A6 5 w b (B8s l))(hb:w0.heap.size≤b)(hbel:Below w0.heap.size w0 w)(hl:n≤maxLen):V5 w0 w (.slice (some ⟨b,0,none⟩) n n) l:=by
 subst hn;exact⟨⟨by simp,.inr ⟨b,l.length,(B8s l).toArray,rfl,hb,h,Nat.le_refl _,hl,by simp,by rw[Nat.mul_one];exact List.take_of_length_le (by simp)⟩⟩,hbel⟩
theorem En6(T D:List UInt8)(hT:T.length=12)(hD:D=ofF T)(b:Option Addr)(c:Nat)(w:World)(h:A4 w b T):
 Calls Tryz.prog 117 #[.slice b T.length c] w (Ap2 w D):=by
 subst hD;exact(Bh7 b c T (by rw[hT];decide) w h).mono fun _ _ h=>Dd4 rfl (Ag5 T) h
theorem Cq7{w:World}{b:Addr}{cs:List Value}(h:At w (some b) cs)(h0:cs≠[]):∀j u,cs[j]?=some u→w.cell? (b.add j)=some u:=by
 rcases h with h | ⟨b',off,he,hlt,hc⟩
 ·exact absurd h h0
 ·cases he
  intro j u hj;have hjl:j<cs.length:=by
   rcases Nat.lt_or_ge j cs.length with h | h
   ·exact h
   ·rw[List.getElem?_eq_none h] at hj;cases hj
  rw[WideShapes.add_plain,hc j hjl];simp[List.getD,hj]
theorem Eu8{l:List UInt8}(h:0<l.length):B8s l≠[]:=fun e=>by
 have h2:l=[]:=by simpa using e
 rw[h2] at h;simp at h
theorem Cq8{ops:Array Oper}{rest:List Oper}{o:Oper}{a:Act}{w:World}{Q:Exit→Act→World→Prop}(s x:Operand)(hgd:o.guard=Option.none)
 (ho:o.op=.call {callee:=.builtin .append,args:=#[s,x],argTypes:=#[22,22]}) {b sp:Option Addr} {n cap:Nat} (l:List UInt8) (hs:a.eval s=.slice b n cap) (hn:l.length=n) (hS0:A4 w b l) (hl0:0<n)
 {m c:Nat} (news:List UInt8) (hx:a.eval x=.slice sp m c) (hS:A4 w sp news) (hl:m=news.length) (hm0:0<m) (hg:cap<n+m) (h63:n+m≤100000) (l2:List UInt8) (hl2:l2=l++news)
 (h:∀a' cap' w',V5 w w' (.slice a' l2.length cap') l2→wpList Tryz.prog ops Q rest (a.put o.dst (.slice a' l2.length cap')) w'):wpList Tryz.prog ops Q (o::rest) a w:=by
 subst hl2;subst hl;subst hn;refine wpList_plain hgd fun K hK=>?_;obtain⟨i,hi,hz,hsz,hby⟩:=V4.info;have n0:=Eu8 hl0;have n1:=Eu8 hm0;have hb:∃b',b=some b':=by
  rcases hS0 with h | ⟨b',off,he,-⟩
  ·exact absurd h n0
  ·exact⟨_,he⟩
 have hp:∃b',sp=some b':=by
  rcases hS with h | ⟨b',off,he,-⟩
  ·exact absurd h n1
  ·exact⟨_,he⟩
 obtain⟨b,rfl⟩:=hb;obtain⟨sp,rfl⟩:=hp;obtain⟨v',w',hr,hown,hgr⟩:=run_append_arg_grows (P:=Tryz.prog) w 22 o.type 5 i (.int .u8 0) 1 1 Tryz.underlying22 hi hz hsz hby rfl (by decide) b l.length cap (B8s l) (by simp) (Cq7 hS0 n0) sp news.length c (B8s news) (by simp) (Cq7 hS n1) hg (by unfold maxLen;omega) (by omega);obtain⟨a',cap',rfl,-,-⟩:=S6 hown;unfold Oper.wp execOp;simp only[ho,resolve,List.map_toArray,List.map_cons,List.map_nil,hs,hx,invoke,builtin,Sem.run_bind,Sem.run_pure,Result.andThen_ok,hr];have hlen:(l++news).length=l.length+news.length:=List.length_append;have hO:V5 w w' (.slice a' (l++news).length cap') (l++news):=⟨by rw[hlen,Af1];exact hown,⟨hgr.os,hgr.tape,hgr.output,hgr.size,fun k hk=>hgr.block k hk (by simp)⟩⟩;rw[←hlen];exact hK _ _ (h a' cap' w' hO)
abbrev Cm9:Array Value:=#[.int .u8 121,.int .u8 101,.int .u8 116,.int .u8 116]
theorem En7(W:World):(convert 22 22 (.slice (some ⟨W.heap.size,0,none⟩) 4 4)).run Tryz.prog (W.alloc (.cells Cm9 5))=.ok (.slice (some ⟨W.heap.size,0,none⟩) 4 4) (W.alloc (.cells Cm9 5 (4,5))):=
 Lib.run_convert_bytes_const W 22 5 Cm9 4 4 Tryz.underlying22 Tryz.underlying5
theorem Ex6(W:World):A4 (W.alloc (.cells Cm9 5 (4,5))) (some ⟨W.heap.size,0,none⟩) Cm8:=by
 refine .inr ⟨W.heap.size,0,rfl,by simp,fun i hi=>?_⟩;have hi4:i<4:=hi;rw[World.cell?_alloc_mark];rcases(show i=0∨i=1∨i=2∨i=3 by omega) with rfl | rfl | rfl | rfl<;>rfl
def Cq9(w:World)(n:Nat)(e:Ending)(w':World):Prop:=∃a c,e=.returned (.tuple #[.slice a 16 c,.int .i64 0])∧V5 w w' (.slice a 16 c) (Av3 n)
theorem Eb0(n:Nat)(h1:1≤n)(h2:n≤Bm9)(w:World):
 Calls Tryz.prog 172 #[.int .i64 n] w (Cq9 w n):=by
 have HB:=Lh (fun W=>(show Calls Tryz.prog 113 #[.int .i64 n,.int .i64 8] W (Bq3 W n 8) from Az0 n 8 (by omega) (by omega) (Nat.lt_of_le_of_lt h2 Ex4) (by unfold Bm9 at h2;omega) W));unfold Bm9 at h2;have d1:¬(n:Int)<1:=by omega
 have d2:¬(4611686018427387904:Int)<(n:Int):=by omega
 obtain⟨R,hR⟩:∃R,R=Av3 n:=⟨_,rfl⟩;have hRl:R.length=16:=by rw[hR,Bx2]
 obtain⟨T,hT⟩:∃T,T=Cm8++J7 n 8:=⟨_,rfl⟩;have hTl:T.length=12:=by rw[hT,List.length_append,U0];rfl
 obtain⟨D,hD⟩:∃D,D=ofF T:=⟨_,rfl⟩;have HRe:=Lh (show R=J7 n 8++D.take 8 by rw[hR,hD,hT];rfl);have HO:=Lh (En6 T D hTl hD);have HDl:=Lh (show D.length=32 by rw[hD,Ag5]);have HBl:=Lh (U0 n 8);unfold Bq3 at HB;unfold Cq9;rw[←hR];generalize J7 n 8=B at HB hT HRe HBl;have HT:=Lh hT;have HRl:=Lh hRl;clear hT hD hR hRl hTl h1 h2;go_enter Tryz.func172,Tryz.ntmps172
 go_wp2_with fail
 refine(HB.out _).mono ?_;rintro e w1 ⟨rfl,hB1,hb1⟩;have H1:=Lh (Ex5 HBl.out hB1 (Nat.le_refl _) hb1 (by decide)).at
 clear hB1 HB;have Hb1:=Lh hb1;clear hb1;have hcv:=En7 w1;go_wp2_with (at_builtin;(refine Cq8 (.tmp 19) (.tmp 20) rfl rfl Cm8 rfl rfl (Ex6 w1) (by decide) B rfl (H1.out.mono (ba w1 _)) HBl.out.symm (by decide) (by decide) (by decide) T HT.out ?_;intro a2 c2 w2 h2;have H2:=Lh h2;clear h2))
 have H1':=Lh (H1.out.mono ((ba w1 _).trans (H2.out.bel.mono (ba w1 _).size)));have Hb2:=Lh (bt (bt Hb1.out (ba w1 _)) H2.out.bel);refine(HO.out a2 c2 w2 H2.out.at).mono ?_;rintro e w3 ⟨a3,c3,rfl,⟨hc3,hm3⟩,hat3,hb3⟩;have H3:=Lh (H1'.out.mono hb3);have Hb3:=Lh (bt Hb2.out hb3);have hs:∀W,(Instr.sliceAt 22 (.slice a3 32 c3) none (some (.int .i64 8)) none).run Tryz.prog W=.ok (.slice a3 8 c3) W:=fun W=>Bl7 Tryz.underlying22 Al5 W a3 32 c3 8 (by omega);have Hat:=Lh (A4.take hat3 8);clear hat3 hb3 hc3 hm3 H1 H1' H2;go_wp2_with fail
 have HRB:=Lh (show B8s B++B8s (D.take 8)=B8s R by rw[HRe.out,Af1])
 go_region_held3 (fun w'=>True) (trivial) (first
  | (refine Aw9 (.tmp 23) (.tmp 24) 22 rfl rfl V4 rfl (Buf.made' w3 _ (bd w3) 5 [] 0 0 (Nat.le_refl _) rfl (by decide)) (news:=B8s B) (m:=8) rfl (H3.out.mono (bta (bd w3) _)) (by rw[List.length_map,HBl.out]) (J9 _) (by decide) (by decide) 8 rfl (B8s B) rfl ?_;intro a5 c5 w5 h5)
  | (refine Aw9 (.tmp 25) (.tmp 27) 22 rfl rfl V4 rfl h5 (news:=B8s (D.take 8)) (m:=8) rfl (Hat.out.mono h5.bel) (by rw[List.length_map,List.length_take,HDl.out];rfl) (J9 _) (by decide) (by decide) 16 rfl (B8s R) HRB.out ?_;intro a6 c6 w6 h6))
 all_goals
  go_split_ands
  go_wp2_with fail
  go_ret2
  exact⟨a6,c6,rfl,V5.of HRl.out.symm ⟨As8 h6.own Hb3.out.size,bt Hb3.out h6.bel⟩⟩
def Bb4(w:World)(v:Value)(l m:List UInt8):Prop:=
 ∃a c b d,v=.agg #[.slice a l.length c,.slice b m.length d]∧(l.length≤c∧c≤maxLen)∧(m.length≤d∧d≤maxLen)∧A4 w a l∧A4 w b m
theorem Bb4.up{w w':World}{v:Value}{l m:List UInt8}(h:Bb4 w v l m)(hb:Below w.heap.size w w'):Bb4 w' v l m:=by
 obtain⟨a,c,b,d,h1,h2,h3,h4,h5⟩:=h;exact⟨a,c,b,d,h1,h2,h3,h4.mono hb,h5.mono hb⟩
def Ah7(l m:List UInt8):Bool:=(l.length==16)&&(m.length==16)
def Bf7(l m:List UInt8):Bool:=decide (l.length≤100)&&decide (m.length≤100)
theorem De9{l m:List UInt8}:Ah7 l m=true↔l.length=16∧m.length=16:=by unfold Ah7;simp
theorem Cn0(l:List UInt8)(b:Bool)(h:(l.length==16)=b):((l.length:Int)==16)=b:=by
 rw[←h];cases hq:(l.length==16)
 ·have:l.length≠16:=by simpa using hq
  rw[beq_eq_false_iff_ne];omega
 ·have:l.length=16:=by simpa using hq
  rw[beq_iff_eq];omega
theorem Cw6(v:Value)(l m:List UInt8)(w:World)(h:Bb4 w v l m):Calls Tryz.prog 93 #[v] w (F9 w (Ah7 l m)):=by
 obtain⟨a,c,b,d,rfl,-,-,-,-⟩:=h;rcases h1:(l.length==16) with _ | _;all_goals
  have k1:=Cn0 l _ h1;rcases h2:(m.length==16) with _ | _;all_goals
   have k2:=Cn0 m _ h2;have HE:=Lh (show Ah7 l m=_ by unfold Ah7;rw[h1,h2]);clear h1 h2;go_enter Tryz.func93,Tryz.ntmps93
   go_wp2_with fail
   go_ret;exact⟨by rw[HE.out];rfl,ba _ _⟩
theorem Cf0(v:Value)(l m:List UInt8)(w:World)(h:Bb4 w v l m):Calls Tryz.prog 80 #[v] w (F9 w (Ah7 l m)):=by
 obtain⟨a,c,b,d,rfl,-,-,-,-⟩:=h;rcases h1:(l.length==16) with _ | _;all_goals
  have k1:=Cn0 l _ h1;rcases h2:(m.length==16) with _ | _;all_goals
   have k2:=Cn0 m _ h2;have HE:=Lh (show Ah7 l m=_ by unfold Ah7;rw[h1,h2]);clear h1 h2;go_enter Tryz.func80,Tryz.ntmps80
   go_wp2_with fail
   go_ret;exact⟨by rw[HE.out];rfl,ba _ _⟩
theorem Eb1(v:Value)(l m:List UInt8)(w:World)(h:Bb4 w v l m):Calls Tryz.prog 87 #[v] w (F9 w (Bf7 l m)):=by
 obtain⟨a,c,b,d,rfl,-,-,-,-⟩:=h;by_cases h1:l.length≤100
 ·have k1:(l.length:Int)≤100:=by omega
  by_cases h2:m.length≤100
  ·have k2:(m.length:Int)≤100:=by omega
   have HE:=Lh (show Bf7 l m=true by unfold Bf7;rw[decide_eq_true h1,decide_eq_true h2];rfl);clear h1 h2;go_enter Tryz.func87,Tryz.ntmps87
   go_wp2_with fail
   go_ret;exact⟨by rw[HE.out];rfl,ba _ _⟩
  ·have k2:¬(m.length:Int)≤100:=by omega
   have HE:=Lh (show Bf7 l m=false by unfold Bf7;rw[decide_eq_true h1,decide_eq_false h2];rfl);clear h1 h2;go_enter Tryz.func87,Tryz.ntmps87
   go_wp2_with fail
   go_ret;exact⟨by rw[HE.out];rfl,ba _ _⟩
 ·have k1:¬(l.length:Int)≤100:=by omega
  have HE:=Lh (show Bf7 l m=false by unfold Bf7;rw[decide_eq_false h1];rfl);clear h1;go_enter Tryz.func87,Tryz.ntmps87
  go_wp2_with fail
  go_ret;exact⟨by rw[HE.out];rfl,ba _ _⟩
def Aw2(l m l2 m2:List UInt8):Bool:=(l==l2)&&(m==m2)
theorem Ca6{w:World}{b:Nat}{v0 v1:Value}(h:Blk w b [v0,v1]):w.cell? ⟨b,0,none⟩=some v0∧w.cell? ⟨b,1,none⟩=some v1:=
 ⟨h.cell 0 (by simp),h.cell 1 (by simp)⟩
theorem Df0(v v2:Value)(l m l2 m2:List UInt8)(w:World)(h:Bb4 w v l m)(h2:Bb4 w v2 l2 m2):Calls Tryz.prog 104 #[v,v2] w (F9 w (Aw2 l m l2 m2)):=by
 obtain⟨a,c,b,d,rfl,-,-,ha,hb⟩:=h;obtain⟨a2,c2,b2,d2,rfl,-,-,ha2,hb2⟩:=h2;have HE1:=Lh (fun(W:World) (h:Below w.heap.size w W)=>Ag4 a a2 l.length c l2.length c2 l l2 W rfl rfl (ha.mono h) (ha2.mono h));have HE2:=Lh (fun(W:World) (h:Below w.heap.size w W)=>Ag4 b b2 m.length d m2.length d2 m m2 W rfl rfl (hb.mono h) (hb2.mono h));have HS:=Lh (show Aw2 l m l2 m2=((l==l2)&&(m==m2)) from rfl);clear ha hb ha2 hb2;generalize (l==l2)=p1 at HE1 HS;generalize (m==m2)=p2 at HE2 HS;rcases p1 with _ | _;all_goals
  rcases p2 with _ | _;all_goals
   go_enter Tryz.func104,Tryz.ntmps104
   go_wp2_with fail
   generalize hW:World.alloc _ _=W;obtain⟨B1,B2,hb⟩:=Aj8 (a:=[.slice a l.length c,.slice b m.length d]) (b:=[.slice a2 l2.length c2,.slice b2 m2.length d2]) hW;clear hW;generalize w.heap.size+1=n2 at B2 ⊢;obtain⟨x0,x1⟩:=Ca6 B1;obtain⟨y0,y1⟩:=Ca6 B2;refine(HE1.out _ hb).mono ?_;rintro e w2 ⟨rfl,rfl⟩;have Hb:=Lh hb;clear hb B1 B2 HE1;go_wp2_with fail
   try (refine(HE2.out _ Hb.out).mono ?_;rintro e w2 ⟨rfl,rfl⟩)
   try go_wp2_with fail
   go_ret;exact⟨by rw[HS.out];rfl,Hb.out⟩
theorem Cl6(v v2:Value)(l m l2 m2:List UInt8)(w:World)(h:Bb4 w v l m)(h2:Bb4 w v2 l2 m2):Calls Tryz.prog 40 #[v,v2] w (F9 w (Aw2 l m l2 m2)):=by
 obtain⟨a,c,b,d,rfl,-,-,ha,hb⟩:=h;obtain⟨a2,c2,b2,d2,rfl,-,-,ha2,hb2⟩:=h2;have HE1:=Lh (fun(W:World) (h:Below w.heap.size w W)=>Ac1 a a2 l.length c l2.length c2 l l2 W rfl rfl (ha.mono h) (ha2.mono h));have HE2:=Lh (fun(W:World) (h:Below w.heap.size w W)=>Ac1 b b2 m.length d m2.length d2 m m2 W rfl rfl (hb.mono h) (hb2.mono h));have HS:=Lh (show Aw2 l m l2 m2=((l==l2)&&(m==m2)) from rfl);clear ha hb ha2 hb2;generalize (l==l2)=p1 at HE1 HS;generalize (m==m2)=p2 at HE2 HS;rcases p1 with _ | _;all_goals
  rcases p2 with _ | _;all_goals
   go_enter Tryz.func40,Tryz.ntmps40
   go_wp2_with fail
   generalize hW:World.alloc _ _=W;obtain⟨B1,B2,hb⟩:=Aj8 (a:=[.slice a l.length c,.slice b m.length d]) (b:=[.slice a2 l2.length c2,.slice b2 m2.length d2]) hW;clear hW;generalize w.heap.size+1=n2 at B2 ⊢;obtain⟨x0,x1⟩:=Ca6 B1;obtain⟨y0,y1⟩:=Ca6 B2;refine(HE1.out _ hb).mono ?_;rintro e w2 ⟨rfl,rfl⟩;have Hb:=Lh hb;clear hb B1 B2 HE1;go_wp2_with fail
   try (refine(HE2.out _ Hb.out).mono ?_;rintro e w2 ⟨rfl,rfl⟩)
   try go_wp2_with fail
   go_ret;exact⟨by rw[HS.out];rfl,Hb.out⟩
def Fk3(w:World)(l m:List UInt8)(e:Ending)(w':World):Prop:=∃v,e=.returned v∧Bb4 w' v l m∧Below w.heap.size w w'
theorem Df1:(Tryz.prog.info? 24).map (·.size)=some 2:=by kernel_rfl
abbrev Df2:List Value:=[.slice none 0 0,.slice none 0 0]
theorem Cr0(w:World):Calls Tryz.prog 120 #[] w (Fk3 w (Av3 1) Aq8):=by
 have HR:=Lh (fun W=>Eb0 1 (by decide) (by decide) W);obtain⟨R,hR⟩:∃R,R=Av3 1:=⟨_,rfl⟩;have HRl:=Lh (show R.length=16 by rw[hR,Bx2]);unfold Cq9 at HR;rw[←hR] at HR ⊢;obtain⟨Z,hZ⟩:∃Z,Z=List.replicate 16 (.int .u8 0:Value):=⟨_,rfl⟩;have hmk:∀w,(Instr.makeSlice 22 (.int .i64 16) (.int .i64 16)).run Tryz.prog w=.ok (.slice (some ⟨w.heap.size,0,none⟩) 16 16) (w.alloc (.cells Z.toArray 5)):=fun w=>by
  rw[hZ];exact Bk4 V4 w .i64 .i64 16 (by omega) (by unfold maxLen;omega) rfl
 have HZ:=Lh (show Z=B8s Aq8 by rw[hZ];rfl);have HI:=Lh Df1;clear hR hZ;go_enter Tryz.func120,Tryz.ntmps120
 go_wp2_with fail
 generalize hW:World.alloc w _=W;have hB:=Lh (show A6 24 W w.heap.size Df2 by rw[←hW];exact A6.new w Df2 _);have hb:=Lh (show Below w.heap.size w W by rw[←hW];exact ba w _);clear hW;refine(HR.out W).mono ?_;rintro e w2 ⟨a2,c2,rfl,ho⟩;have hB2:=Lh (hB.out.up ho.bel);have Hb2:=Lh (bt hb.out ho.bel);have H2:=Lh ho;have hcap:=Lh ho.buf.cap;clear ho;go_wp2_with (refine G9 24 (.tmp 0) (.tmp 9) w.heap.size (old:=Df2) (cs:=[.slice a2 16 c2,.slice (some ⟨w2.heap.size,0,none⟩) 16 16]) rfl rfl rfl rfl ((hB2.out.up (ba _ _)).blk) HI.out rfl rfl ?_)
 refine bodyPost_ret (v:=.agg #[.slice a2 16 c2,.slice (some ⟨w2.heap.size,0,none⟩) 16 16]) (O3 rfl _ _ w.heap.size rfl ((hB2.out.up (ba _ _)).row [.slice a2 16 c2,.slice (some ⟨w2.heap.size,0,none⟩) 16 16]).blk Tryz.underlying24 rfl HI.out) rfl ?_;have hO:V3 W.heap.size w2 (.slice a2 16 c2) 16 (B8s R):=⟨by have:=H2.out.own;rwa [HRl.out] at this,H2.out.bel.size⟩;have hlt:w.heap.size<w2.heap.size:=Nat.lt_of_lt_of_le hB.out.blk.lt H2.out.bel.size;refine⟨_,rfl,⟨a2,c2,some ⟨w2.heap.size,0,none⟩,16,by rw[HRl.out];rfl,(by have h:=hcap.out;rw[HRl.out] at h ⊢;exact⟨h.2.1,h.2.2⟩),by decide,((hO.up (ba w2 _)).row (hB2.out.up (ba w2 _)) (by decide) _).at,?_⟩,F5 (bta Hb2.out _) (Nat.le_refl _) _⟩;have:=((A6.new w2 Z 5).rowOther w.heap.size (by omega) #[.slice a2 16 c2,.slice (some ⟨w2.heap.size,0,none⟩) 16 16]).blk.at
 rw[HZ.out] at this ⊢;exact this
structure StB (w0 w:World) (b:Nat) (v0 v1:Value):Prop where
 blk:A6 24 w b [v0,v1]
 ge:w0.heap.size≤b
 bel:Below w0.heap.size w0 w
theorem StB.up{w0 w w':World}{b:Nat}{v0 v1:Value}(h:StB w0 w b v0 v1)(hb:Below w.heap.size w w'):StB w0 w' b v0 v1:=⟨h.blk.up hb,h.ge,bt h.bel hb⟩
abbrev stL(a:Option Addr)(c:Nat)(b:Option Addr)(d:Nat):List Value:=[.slice a 16 c,.slice b 16 d]
structure StF (w:World) (a:Option Addr) (c:Nat) (b:Option Addr) (d:Nat) (l m:List UInt8):Prop where
 hc:16≤c∧c≤maxLen
 hd:16≤d∧d≤maxLen
 ha:A4 w a l
 hb:A4 w b m
 la:l.length=16
 lb:m.length=16
theorem StF.up{w w':World}{a b:Option Addr}{c d:Nat}{l m:List UInt8}(h:StF w a c b d l m)(hb:Below w.heap.size w w'):StF w' a c b d l m:=⟨h.hc,h.hd,h.ha.mono hb,h.hb.mono hb,h.la,h.lb⟩
theorem A4.notIn{w:World}{b:Nat}{cs:List Value}{a:Option Addr}{l:List UInt8}(h:A4 w a l)(hb:Blk w b cs)(hcs:∀v∈cs,∀k n,v≠.int k n)(ds:Array Value):A4 (w.setRow b ds) a l:=by
 rcases h with h | ⟨b',off,rfl,hlt,hc⟩
 ·exact .inl h
 by_cases h0:l=[]
 ·subst h0;exact .inl rfl
 refine .inr ⟨b',off,rfl,by simpa using hlt,fun i hi=>?_⟩;have hne:b'≠b:=by
  rintro rfl;have h1:=hc i hi;obtain⟨T,hg⟩:=hb;rw[cell_of_row w b' (off+i) cs.toArray T (0,0) hg] at h1;have h2:=Array.mem_of_getElem? h1;have hi':i<l.length:=by simpa using hi
  have h3:(B8s l).getD i undef=.int .u8 (bv (l.getD i 0)):=by simp[List.getD,hi']
  rw[h3] at h2;exact hcs _ (by simpa using h2) _ _ rfl
 have e:(w.setRow b ds).heap[b']?=w.heap[b']?:=setRow_other w b b' ds hne;rw[World.cell?_of_block (w:=w) (w':=w.setRow b ds) (a:=⟨b',off+i,none⟩) e];exact hc i hi
theorem StF.row{w:World}{b:Nat}{a a2 o o2:Option Addr}{c c2 d d2:Nat}{l m:List UInt8}(h:StF w a c o d l m)(hb:A6 24 w b (stL a2 c2 o2 d2))(ds:Array Value):StF (w.setRow b ds) a c o d l m:=by
 have hcs:∀v∈stL a2 c2 o2 d2,∀k n,v≠.int k n:=by
  intro v hv k n;simp only[stL,List.mem_cons,List.not_mem_nil,or_false] at hv;rcases hv with rfl | rfl<;>intro h<;>cases h
 exact⟨h.hc,h.hd,h.ha.notIn hb.blk hcs ds,h.hb.notIn hb.blk hcs ds,h.la,h.lb⟩
theorem StF.of{w:World}{v:Value}{l m:List UInt8}(h:Bb4 w v l m)(hl:l.length=16)(hm:m.length=16):∃a c b d,v=.agg #[.slice a 16 c,.slice b 16 d]∧StF w a c b d l m:=by
 obtain⟨a,c,b,d,h1,h2,h3,h4,h5⟩:=h;exact⟨a,c,b,d,by rw[h1,hl,hm],by rw[←hl];exact h2,by rw[←hm];exact h3,h4,h5,hl,hm⟩
end Go.Proofs.YtadpiemjgfndgaaGreatDoor
namespace Go.Proofs.YtadpiemjgfndgaaGreatDoor
open Go.RowKit Go.Shelf
attribute [local go_sem] Oper.semAt_some
theorem Bn0(W:World)(v:Value)(t:TypeId):(W.alloc (.cells #[v] t)).cell? ⟨W.heap.size,0,none⟩=some v∧(W.alloc (.cells #[v] t)).frozen? ⟨W.heap.size,0,none⟩=false:=
 ⟨(Blk.new W [v] t).cell 0 (by simp),(Blk.new W [v] t).frozen 0⟩
theorem Az1{W:World}{a:Addr}{v:Value}(o:Obj)(h:W.cell? a=some v):(W.alloc o).cell? a=some v:=cell_kept h (World.grownBy_alloc W o none) (fun r e=>by cases e)
theorem Bk8{W:World}{a:Addr}{v:Value}(o:Obj)(h:W.cell? a=some v)(hf:W.frozen? a=false):(W.alloc o).frozen? a=false:=(frozen_kept h (World.grownBy_alloc W o none) (fun r e=>by cases e)).trans hf
def upM(M:Nat→Bool)(k:Nat):List Nat:=(List.range k).filter M
theorem Ex7{M:Nat→Bool}{k:Nat}(h:M k=true):upM M (k+1)=upM M k++[k]:=by simp[upM,List.range_succ,h]
theorem Ff1{M:Nat→Bool}{k:Nat}(h:M k=false):upM M (k+1)=upM M k:=by simp[upM,List.range_succ,h]
theorem Ff2(M:Nat→Bool)(k:Nat):(upM M k).length≤k:=by
 have:=List.length_filter_le M (List.range k)
 simpa [upM] using this
theorem Eb2(a:Option Addr)(len cap:Nat)(fn:Fn)(x y:Array Value)(w:World):
 Calls Tryz.prog 202 #[.slice a len cap,.func fn x y] w fun e w'=>e=.returned (.func (.func 206) #[] #[.pointer (some ⟨w.heap.size,0,none⟩),.pointer (some ⟨w.heap.size+1,0,none⟩)])∧w'=(w.alloc (.cells #[.slice a len cap] 47)).alloc (.cells #[.func fn x y] 234):=by
 have hmf:∀(fn:Fn) (first cap:Array Value) (w:World),(Instr.makeFunc fn first cap).run Tryz.prog w=.ok (.func fn first cap) w:=fun _ _ _ _=>rfl;go_enter Tryz.func202,Tryz.ntmps202
 go_wp2_with fail
 go_ret;exact⟨rfl,rfl⟩
theorem Eb3(l B1 B2 n₀ b off len cap:Nat)(pv:Value)(M:Nat→Bool)(V0 V1:Nat→Value)(hreach:len≤1099511627776)(hb:b<n₀)(hB2:B2<n₀)(J Jx:List Nat→World→Prop)(W:World)(hn0:n₀≤W.heap.size)
 (hJ:AbidesFrom W.heap.size J)
 (hY:∀(pre:List Nat) (x:Nat) W,J pre W→pre.length<len→YieldAt Fence.wide (3-1) Tryz.prog l #[.int .i64 (x:Int)] W fun e W'=>
   (e=.returned (.bool true)∧J (pre++[x]) W'∧Below n₀ W W')∨(e=.returned (.bool false)∧Jx (pre++[x]) W'))
 (hB1c:W.cell? ⟨B1,0,none⟩=some (.slice (some ⟨b,off,none⟩) len cap)) (hB2c:W.cell? ⟨B2,0,none⟩=some (.func (.func 201) #[pv] #[]))
 (hc:∀j,j<len→W.cell? ⟨b,off+j*2,none⟩=some (V0 j)∧W.cell? ⟨b,off+j*2+1,none⟩=some (V1 j))
 (hv:∀j,j<len→∃p0 n0 c0 p1 n1 c1,V0 j=.slice p0 n0 c0∧V1 j=.slice p1 n1 c1)
 (hI:∀W' j,j<len→Below n₀ W W'→Calls Tryz.prog 201 #[pv,.agg #[V0 j,V1 j]] W' (F9 W' (M j))) (h0:J [] W):
 CallsIn Fence.wide 3 Tryz.prog 206 #[.func (.yield l) #[] #[],.pointer (some ⟨B1,0,none⟩),.pointer (some ⟨B2,0,none⟩)] W fun e W'=>(∃v,e=.returned v)∧
  ((∃ys,ys=upM M len∧J ys W')∨(∃pre,(∃k,k<len∧M k=true)∧Jx pre W')):=by
 refine callsIn_of_wp Tryz.func206 rfl trivial ?_ rfl;simp only[Tryz.ntmps206,List.size_toArray,List.length_cons,List.length_nil,Nat.reduceAdd,Nat.reduceSub,Array.replicate_succ,Array.replicate_zero,List.push_toArray,List.append_toArray,List.nil_append,List.cons_append]
 gi_wp2
 gi_loopw [8] (fun i wr=>∃k:Nat,k≤len∧i=.int .i64 k∧J (upM M k) wr∧Below n₀ W wr)
  (fun i _=>len-(intOf i).toNat)
 case atStart=>exact⟨0,Nat.zero_le _,rfl,h0,Below.refl _ _⟩
 case round=>
  obtain⟨k,hk,rfl,hJs,hnx⟩:=hrel;by_cases hlt:k<len
  ·obtain⟨hc0,hc1⟩:=hc k hlt;have hx0:=(hnx.cell (p:=⟨b,off+k*2,none⟩) hb).trans hc0;have hx1:=(hnx.cell (p:=⟨b,off+k*2+1,none⟩) hb).trans hc1;have hx2:=(hnx.cell (p:=⟨B2,0,none⟩) hB2).trans hB2c;obtain⟨p0,n0,c0,p1,n1,c1,e0,e1⟩:=hv k hlt;have hsz:n₀≤wr.heap.size:=Nat.le_trans hn0 hnx.size;have hbA:=ba wr (.cells #[V0 k,V1 k] 153);have hIk:=hI (wr.alloc (.cells #[V0 k,V1 k] 153)) k hlt (hnx.trans (hbA.mono hsz));have hx3:=(hbA.cell (p:=⟨B2,0,none⟩) (Nat.lt_of_lt_of_le hB2 hsz)).trans hx2;rw[e0,e1] at hIk hbA hx3;rw[e0] at hx0;rw[e1] at hx1;have HbA:=Lh hbA;clear hc0 hc1 e0 e1 hbA;rcases hM:M k with _ | _
   ·rw[hM] at hIk;have HI:=Lh hIk;clear hIk
    gi_wp2_with (refine⟨trivial,?_⟩;gi_at_call 201;refine(callsIn_wide.2 HI.out).mono ?_;rintro e w2 ⟨rfl,hb2⟩)
    have hbw:=bt HbA.out hb2;have hJ2:J (upM M k) w2:=hJ _ wr w2 none hJs ⟨hbw.os,hbw.tape,hbw.output,hbw.size,fun k hk _=>hbw.block k hk⟩ (fun r e=>by cases e);refine⟨fun _ h=>(by cases h),?_⟩
    gi_wp2
    go_roundw
    case rel=>exact⟨k+1,by omega,by simp,by rw[Ff1 hM];exact hJ2,hnx.trans (hbw.mono hsz)⟩
    case measure=>simp[intOf];omega
   ·rw[hM] at hIk;have HI:=Lh hIk;clear hIk
    gi_wp2_with (refine⟨trivial,?_⟩;gi_at_call 201;refine(callsIn_wide.2 HI.out).mono ?_;rintro e w2 ⟨rfl,hb2⟩;have hbw:=bt HbA.out hb2;have hJ2:J (upM M k) w2:=hJ _ wr w2 none hJs ⟨hbw.os,hbw.tape,hbw.output,hbw.size,fun k hk _=>hbw.block k hk⟩ (fun r e=>by cases e);obtain⟨fn,tmps,assign,body,hy,hR⟩:=hY _ k w2 hJ2 (Nat.lt_of_le_of_lt (Ff2 M k) hlt))
    refine hR.mono ?_;rintro e W3 (⟨rfl,hJ3,hk3⟩ | ⟨rfl,hJx3⟩)
    ·gi_wp2
     go_roundw
     case rel=>exact⟨k+1,by omega,by simp,by rw[Ex7 hM];exact hJ3,(hnx.trans (hbw.mono hsz)).trans hk3⟩
     case measure=>simp[intOf];omega
    ·gi_wp2
     refine bodyPost_ret (results_none rfl _ _ _) rfl ?_;exact⟨⟨_,rfl⟩,.inr ⟨_,⟨k,hlt,hM⟩,hJx3⟩⟩
  ·obtain rfl:k=len:=by omega
   gi_wp2
   go_end0
   exact⟨⟨_,rfl⟩,.inl ⟨_,rfl,hJs⟩⟩
theorem Cl7(l B1 B2 cap:Nat)(a:Option Addr)(J:List Nat→World→Prop)(W:World)(hB1c:W.cell? ⟨B1,0,none⟩=some (.slice a 0 cap))(h0:J [] W):
 CallsIn Fence.wide 3 Tryz.prog 206 #[.func (.yield l) #[] #[],.pointer (some ⟨B1,0,none⟩),.pointer (some ⟨B2,0,none⟩)] W fun e W'=>(∃v,e=.returned v)∧J [] W':=by
 refine callsIn_of_wp Tryz.func206 rfl trivial ?_ rfl;simp only[Tryz.ntmps206,List.size_toArray,List.length_cons,List.length_nil,Nat.reduceAdd,Nat.reduceSub,Array.replicate_succ,Array.replicate_zero,List.push_toArray,List.append_toArray,List.nil_append,List.cons_append]
 gi_wp2
 gi_loopw [8] (fun i wr=>i=.int .i64 0∧J [] wr) (fun _ _=>0)
 case atStart=>exact⟨rfl,h0⟩
 case round=>
  obtain⟨rfl,hJs⟩:=hrel
  gi_wp2
  go_end0
  exact⟨⟨_,rfl⟩,hJs⟩
def Bs9(n₀:Nat)(w:World)(sv:Value)(pv:Value)(len:Nat)(M:Nat→Bool):Prop:=
 (∃a cap,sv=.slice a 0 cap∧len=0)∨∃(b off cap:Nat) (V0 V1:Nat→Value),sv=.slice (some ⟨b,off,none⟩) len cap∧b<n₀∧
   (∀j,j<len→w.cell? ⟨b,off+j*2,none⟩=some (V0 j)∧w.cell? ⟨b,off+j*2+1,none⟩=some (V1 j))∧
   (∀j,j<len→∃p0 n0 c0 p1 n1 c1,V0 j=.slice p0 n0 c0∧V1 j=.slice p1 n1 c1)∧
   (∀W' j,j<len→Below n₀ w W'→Calls Tryz.prog 201 #[pv,.agg #[V0 j,V1 j]] W' (F9 W' (M j)))
theorem Cw7(B1 B2 n₀ len:Nat)(sv pv:Value)(M:Nat→Bool)(hreach:len≤1099511627776)(w:World)(hn0:n₀≤w.heap.size)(hB1:B1<w.heap.size)(hB2:B2<n₀)
 (hB1c:w.cell? ⟨B1,0,none⟩=some sv) (hB2c:w.cell? ⟨B2,0,none⟩=some (.func (.func 201) #[pv] #[])) (hE:Bs9 n₀ w sv pv len M):
 SeqStopsK Fence.wide 3 Tryz.prog 206 #[.pointer (some ⟨B1,0,none⟩),.pointer (some ⟨B2,0,none⟩)] (fun x:Nat=>#[Value.int .i64 (x:Int)]) (Below n₀) (fun ys=>ys=upM M len) (fun _=>∃k,k<len∧M k=true) len w:=fun l J Jx W hW hJ hJx hY h0=>by
 have c1:=(hW.cell (p:=⟨B1,0,none⟩) hB1).trans hB1c;have c2:=(hW.cell (p:=⟨B2,0,none⟩) (Nat.lt_of_lt_of_le hB2 hn0)).trans hB2c;rcases hE with⟨a,cap,rfl,rfl⟩ | ⟨b,off,cap,V0,V1,rfl,hb,h1,h2,h3⟩
 ·exact(Cl7 l B1 B2 cap a J W c1 h0).mono fun e W' ⟨he,hj⟩=>⟨he,.inl ⟨_,rfl,hj⟩⟩
 ·exact Eb3 l B1 B2 n₀ b off len cap pv M V0 V1 hreach hb hB2 J Jx W (Nat.le_trans hn0 hW.size) hJ hY c1 c2 (fun j hj=>⟨(hW.cell (p:=⟨b,off+j*2,none⟩) (Nat.lt_of_lt_of_le hb hn0)).trans (h1 j hj).1,(hW.cell (p:=⟨b,off+j*2+1,none⟩) (Nat.lt_of_lt_of_le hb hn0)).trans (h1 j hj).2⟩) h2 (fun W' j hj h=>h3 W' j hj ((hW.mono hn0).trans h)) h0
theorem Bs9.up{w W:World}{n₀:Nat}{sv pv:Value}{len:Nat}{M:Nat→Bool}(h:Bs9 w.heap.size w sv pv len M)(hb:Below w.heap.size w W)(hn:w.heap.size≤n₀):Bs9 n₀ W sv pv len M:=by
 rcases h with⟨a,cap,h1,h2⟩ | ⟨b,off,cap,V0,V1,h1,h2,h3,h4,h5⟩
 ·exact .inl ⟨a,cap,h1,h2⟩
 ·exact .inr ⟨b,off,cap,V0,V1,h1,Nat.lt_of_lt_of_le h2 hn,fun j hj=>⟨(hb.cell (p:=⟨b,off+j*2,none⟩) h2).trans (h3 j hj).1,(hb.cell (p:=⟨b,off+j*2+1,none⟩) h2).trans (h3 j hj).2⟩,h4,fun W' j hj hW=>h5 W' j hj (hb.trans (hW.mono hn))⟩
theorem Ex8{M:Nat→Bool}{len:Nat}(h:upM M len=[]):∀k,k<len→M k=false:=fun k hk=>by
 rcases hM:M k with _ | _
 ·rfl
 ·have:k∈upM M len:=List.mem_filter.2 ⟨List.mem_range.2 hk,hM⟩;rw[h] at this;cases this
theorem Cf2(es:List Ent)(k b:List UInt8):Al4 es k b=true↔∃i,i<es.length∧isF k b (es.getD i ([],[]))=true:=by
 unfold Al4;rw[List.any_eq_true];constructor
 ·rintro⟨e,he,h⟩;obtain⟨i,hi,rfl⟩:=List.mem_iff_getElem.1 he;exact⟨i,hi,by simpa [List.getD,hi] using h⟩
 ·rintro⟨i,hi,h⟩;exact⟨es[i],List.getElem_mem hi,by simpa [List.getD,hi] using h⟩
theorem En8(ideal forged:Bool)(sv:Value)(ka ba:Option Addr)(kn kc bn bc len:Nat)(M:Nat→Bool)(w:World)(hreach:len≤1099511627776)
 (hE:Bs9 w.heap.size w sv (.agg #[.slice ka kn kc,.slice ba bn bc]) len M):
 CallsIn Fence.wide 4 Tryz.prog 175 #[.agg #[.bool ideal,sv,.bool forged],.slice ka kn kc,.slice ba bn bc] w fun e W'=>e=.returned (.bool (decide (∃k,k<len∧M k=true)))∧Below w.heap.size w W':=by
 obtain⟨sa,sn,sc,hsv⟩:∃sa sn sc,sv=.slice sa sn sc:=by
  rcases hE with⟨a,cap,h,-⟩ | ⟨b,off,cap,V0,V1,h,-⟩
  ·exact⟨_,_,_,h⟩
  ·exact⟨_,_,_,h⟩
 subst hsv;have HE:=Lh hE;clear hE;have hmf:∀(fn:Fn) (first cap:Array Value) (w:World),(Instr.makeFunc fn first cap).run Tryz.prog w=.ok (.func fn first cap) w:=fun _ _ _ _=>rfl;refine callsIn_of_wp_marks Tryz.func175 rfl trivial ?_ rfl;simp only[Tryz.ntmps175,List.size_toArray,List.length_cons,List.length_nil,Nat.reduceAdd,Nat.reduceSub,Array.replicate_succ,Array.replicate_zero,List.push_toArray,List.append_toArray,List.nil_append,List.cons_append]
 gi_wp2_with (refine⟨trivial,?_⟩;gi_at_call 202;refine(callsIn_wide.2 (Eb2 _ _ _ _ _ _ _)).mono ?_;rintro e w' ⟨rfl,rfl⟩)
 have hB0:Below w.heap.size w ((((w.alloc (.cells #[.bool ideal,.slice sa sn sc,.bool forged] 49)).alloc (.cells #[.bool false] 4)).alloc (.cells #[.slice sa sn sc] 47)).alloc (.cells #[.func (.func 201) #[.agg #[.slice ka kn kc,.slice ba bn bc]] #[]] 234)):=(((((Below.refl _ w).alloc (Nat.le_refl _) _).alloc (by simp) _).alloc (by simp;omega) _).alloc (by simp;omega) _);have c1:=Bn0 (w.alloc (.cells #[.bool ideal,.slice sa sn sc,.bool forged] 49)) (.bool false) 4;have c2:=Bn0 ((w.alloc (.cells #[.bool ideal,.slice sa sn sc,.bool forged] 49)).alloc (.cells #[.bool false] 4)) (.slice sa sn sc) 47;have c3:=Bn0 (((w.alloc (.cells #[.bool ideal,.slice sa sn sc,.bool forged] 49)).alloc (.cells #[.bool false] 4)).alloc (.cells #[.slice sa sn sc] 47)) (.func (.func 201) #[.agg #[.slice ka kn kc,.slice ba bn bc]] #[]) 234;simp only[World.size_alloc] at c1 c2 c3;refine wpIn_rangeFunc_ownF (F:=Fence.wide) rfl (by decide:1≤4) (gf:=206) (lb:=#[.pointer (some ⟨w.heap.size+1+1,0,none⟩),.pointer (some ⟨w.heap.size+1+1+1,0,none⟩)]) rfl trivial (enters_of Tryz.func206 (by kernel_rfl) rfl)
  (Cw7 (w.heap.size+1+1) (w.heap.size+1+1+1) (w.heap.size+1+1+1+1) len _ _ M hreach _ (by simp) (by first | (simp;done) | (simp;omega)) (by omega) (Az1 _ c2.1) c3.1 (HE.out.up hB0 (by omega))) belowK_t (belowK_b (by simp)) (Below.refl _ _) (fun _=>rfl)
  (fun pre W=>(pre=[]∧W.cell? ⟨w.heap.size+1,0,none⟩=some (.bool false)∧W.frozen? ⟨w.heap.size+1,0,none⟩=false)∧Below w.heap.size w W)
  (fun c pre W=>(c=.ret∧W.cell? ⟨w.heap.size+1,0,none⟩=some (.bool true))∧Below w.heap.size w W)
  (OwnFrom.and (Own.from (fun s A B row hs hg hr=>⟨hs.1,cell_kept hs.2.1 hg hr,(frozen_kept hs.2.1 hg hr).trans hs.2.2⟩) _) (ownFrom_below (Nat.le_refl _) (by simp;omega)))
  (fun c=>OwnFrom.and (Own.from (fun s A B row hs hg hr=>⟨hs.1,cell_kept hs.2 hg hr⟩) _) (ownFrom_below (Nat.le_refl _) (by simp;omega)))
  ⟨⟨rfl,Az1 _ (Az1 _ c1.1),Bk8 _ (Az1 _ c1.1) (Bk8 _ c1.1 c1.2)⟩,hB0⟩
  (fun x=>{tmps:=#[.agg #[.bool ideal,.slice sa sn sc,.bool forged],.slice ka kn kc,.slice ba bn bc,.pointer (some ⟨w.heap.size,0,none⟩),undef,undef,.pointer (some ⟨w.heap.size+1,0,none⟩),.func (.func 201) #[.agg #[.slice ka kn kc,.slice ba bn bc]] #[],.slice ka kn kc,.slice ba bn bc,.agg #[.slice ka kn kc,.slice ba bn bc],.func (.func 201) #[.agg #[.slice ka kn kc,.slice ba bn bc]] #[],.pointer (some ⟨w.heap.size,1,none⟩),.slice sa sn sc,.func (.func 201) #[.agg #[.slice ka kn kc,.slice ba bn bc]] #[],.func (.func 206) #[] #[.pointer (some ⟨w.heap.size+1+1,0,none⟩),.pointer (some ⟨w.heap.size+1+1+1,0,none⟩)],.int .i64 x],defers:=[]}) ?assign ?body ?done ?stop
 case assign=>
  intro l x W K hK
  gi_wp2
  first | exact hK | (simp;exact hK) | simpa using hK
 case body=>
  rintro l pre x W ⟨⟨hp,hcr,hfr⟩,hB⟩ _
  gi_wp2
  exact⟨KeepsOthers.setCell _ _ _,⟨rfl,World.cell?_setCell_same' _ _ _ (by rw[hcr];rfl)⟩,hB.setCell (p:=⟨w.heap.size+1,0,none⟩) (by simp) _⟩
 case done=>
  rintro D ys W hD rfl ⟨⟨hne,hcr,hfr⟩,hB⟩ hK
  gi_wp2
  have hK':=(KeepsOthers.setCell W ⟨w.heap.size+1,0,none⟩ (.bool false)).same D _ hK rfl;refine⟨by simp,.inl ⟨_,_,rfl,run_takeDeferred hK',?_⟩⟩;have hc5:=cell_kept (World.cell?_setCell_same' W ⟨w.heap.size+1,0,none⟩ (.bool false) (by rw[hcr];rfl)) (grownBy_putObj' _ D (.deferred none)) (fun r e=>by cases e;exact⟨_,hK',rfl⟩);refine⟨.bool false,?_,by rw[decide_eq_false (fun⟨k,hk,hM⟩=>by rw[Ex8 hne k hk] at hM;cases hM)],(hB.setCell (p:=⟨w.heap.size+1,0,none⟩) (by simp) _).trans (belowK_b (w:=w) (Nat.le_refl _) _ D _ _ (by simp at hD;omega) hK' rfl rfl)⟩;simp[results,Tryz.f175,go_sem,hc5]
 case stop=>
  rintro D c pre W hD hpre ⟨⟨rfl,hcr⟩,hB⟩ hK
  gi_wp2
  refine⟨by simp,.inl ⟨_,_,rfl,run_takeDeferred hK,?_⟩⟩;have hc5:=cell_kept hcr (grownBy_putObj' _ D (.deferred none)) (fun r e=>by cases e;exact⟨_,hK,rfl⟩);refine⟨.bool true,?_,by rw[decide_eq_true hpre],hB.trans (belowK_b (w:=w) (Nat.le_refl _) W D _ _ (by simp at hD;omega) hK rfl rfl)⟩;simp[results,Tryz.f175,go_sem,hc5]
end Go.Proofs.YtadpiemjgfndgaaGreatDoor
namespace Go.Proofs.YtadpiemjgfndgaaGreatDoor
open Go.RowKit
theorem Ex9{w:World}{a ka ba:Option Addr}{c kc bc:Nat}{es:List Ent}{k b:List UInt8}(hE:X7 w a es)(hk:k.length≤maxLen)(hb:b.length≤maxLen)(hka:A4 w ka k)(hba:A4 w ba b):
 Bs9 w.heap.size w (.slice a es.length c) (.agg #[.slice ka k.length kc,.slice ba b.length bc]) es.length (fun i=>isF k b (es.getD i ([],[]))):=by
 by_cases h0:es.length=0
 ·exact .inl ⟨a,c,by rw[h0],h0⟩
 obtain⟨vs,h1,h2,h3⟩:=hE;rcases h2 with h | ⟨g,off,rfl,hlt,hc⟩
 ·rw[h,List.length_nil] at h1;omega
 refine .inr ⟨g,off,c,fun j=>vs.getD (j*2) undef,fun j=>vs.getD (j*2+1) undef,rfl,hlt,fun j hj=>⟨hc _ (by omega),by rw[Nat.add_assoc];exact hc _ (by omega)⟩,fun j hj=>?_,fun W' j hj hW=>?_⟩
 ·obtain⟨⟨p0,c0,e0,-⟩,⟨p1,c1,e1,-⟩⟩:=h3 j hj;exact⟨p0,_,c0,p1,_,c1,e0,e1⟩
 ·obtain⟨⟨p0,c0,e0,l0,m0,b0⟩,⟨p1,c1,e1,l1,m1,b1⟩⟩:=h3 j hj;simp only[e0,e1];exact Ff0 ka ba p0 p1 kc bc c0 c1 k b _ _ W' hk hb (Nat.le_trans l0 m0) (Nat.le_trans l1 m1) (hka.mono hW) (hba.mono hW) (b0.mono hW) (b1.mono hW)
theorem Da2(i f:Bool)(a ka ba:Option Addr)(c kc bc:Nat)(es:List Ent)(k b:List UInt8)(w:World)(hes:es.length≤100000)(hE:X7 w a es)(hk:k.length≤maxLen)(hb:b.length≤maxLen)(hka:A4 w ka k)(hba:A4 w ba b):
 Calls Tryz.prog 175 #[.agg #[.bool i,.slice a es.length c,.bool f],.slice ka k.length kc,.slice ba b.length bc] w (F9 w (Al4 es k b)):=by
 have h:=callsIn_wide.1 (En8 i f (.slice a es.length c) ka ba k.length kc b.length bc es.length _ w (by omega) (Ex9 hE hk hb hka hba));refine h.mono fun e w' ⟨p,q⟩=>⟨?_,q⟩;rw[p];rcases hh:Al4 es k b with _ | _
 ·rw[decide_eq_false];intro hx;rw[(Cf2 es k b).2 hx] at hh;cases hh
 ·rw[decide_eq_true ((Cf2 es k b).1 hh)]
theorem X7.cell{w:World}{a:Option Addr}{es:List Ent}(h:X7 w a es)(h0:0<es.length):
 ∃g off,a=some ⟨g,off,none⟩∧g<w.heap.size∧∀j,j<es.length→∃p0 c0 p1 c1,w.cell? ⟨g,off+j*2,none⟩=some (.slice p0 (es.getD j ([],[])).1.length c0)∧w.cell? ⟨g,off+j*2+1,none⟩=some (.slice p1 (es.getD j ([],[])).2.length c1)∧
  (es.getD j ([],[])).1.length≤c0∧c0≤maxLen∧(es.getD j ([],[])).2.length≤c1∧c1≤maxLen∧A4 w p0 (es.getD j ([],[])).1∧A4 w p1 (es.getD j ([],[])).2:=by
 obtain⟨vs,h1,h2,h3⟩:=h;rcases h2 with h | ⟨g,off,rfl,hlt,hc⟩
 ·rw[h,List.length_nil] at h1;omega
 refine⟨g,off,rfl,hlt,fun j hj=>?_⟩;obtain⟨⟨p0,c0,e0,l0,m0,b0⟩,⟨p1,c1,e1,l1,m1,b1⟩⟩:=h3 j hj;exact⟨p0,c0,p1,c1,by rw[hc _ (by omega),e0],by rw[Nat.add_assoc,hc _ (by omega),e1],l0,m0,l1,m1,b0,b1⟩
theorem Df3(i f:Bool)(a ka ba:Option Addr)(c kc bc:Nat)(es:List Ent)(k b:List UInt8)(w:World)(hes:es.length≤100000)(hE:X7 w a es)(hka:A4 w ka k)(hba:A4 w ba b):
 Calls Tryz.prog 33 #[.agg #[.bool i,.slice a es.length c,.bool f],.slice ka k.length kc,.slice ba b.length bc] w (F9 w (Al4 es k b)):=by
 have HE:=Lh hE;have HK:=Lh hka;have HB:=Lh hba;have HH:=Lh (Cf2 es k b);generalize Al4 es k b=R at HH ⊢;clear hE hka hba;go_enter Tryz.func33,Tryz.ntmps33
 go_wp2_with fail
 generalize hW:World.alloc w _=W;have Hw:=Lh (show Below w.heap.size w W by rw[←hW];exact Below.refl _ _|>.alloc (Nat.le_refl _) _);have B3:=Lh (show Blk W w.heap.size [.bool i,.slice a es.length c,.bool f] by rw[←hW];exact Blk.new w [.bool i,.slice a es.length c,.bool f] _);clear hW;have y1:W.cell? ⟨w.heap.size,1,none⟩=some (.slice a es.length c):=B3.out.cell 1 (by simp)
 go_loopw [7] (fun v wr=>wr=W∧∃j:Nat,j≤es.length∧v=.int .i64 (j:Int)∧∀t,t<j→isF k b (es.getD t ([],[]))=false) (fun v _=>es.length-(intOf v).toNat)
 case atStart=>exact⟨rfl,0,Nat.zero_le _,rfl,fun t ht=>absurd ht (by omega)⟩
 case round=>
  obtain⟨rfl,j,hj,rfl,hno⟩:=hrel;have Hno:=Lh hno;clear hno;by_cases hlt:j<es.length
  ·obtain⟨g,off,rfl,hg,hcs⟩:=(HE.out.mono Hw.out).cell (by omega);obtain⟨p0,c0,p1,c1,x0,x1,-,-,-,-,b0,b1⟩:=hcs j hlt;have K1:=Lh (Ac1 p0 ka _ c0 k.length kc _ k wr rfl rfl b0 (HK.out.mono Hw.out));have K2:=Lh (Ac1 p1 ba _ c1 b.length bc _ b wr rfl rfl b1 (HB.out.mono Hw.out));have HF:=Lh (show isF k b (es.getD j ([],[]))=(((es.getD j ([],[])).1==k)&&((es.getD j ([],[])).2==b)) by
    unfold isF;rw[Bool.beq_comm (a:=k),Bool.beq_comm (a:=b)])
   clear hcs b0 b1;have hd1:(j:Int)<(es.length:Int):=by omega
   have hd0:(0:Int)≤(j:Int):=by omega
   generalize ((es.getD j ([],[])).1==k)=q1 at K1 HF;generalize ((es.getD j ([],[])).2==b)=q2 at K2 HF;generalize (es.getD j ([],[])).1.length=n0 at x0 K1;generalize (es.getD j ([],[])).2.length=n1 at x1 K2;rcases q1 with _ | _
   ·go_wp2_with fail
    refine K1.out.mono ?_;rintro e w2 ⟨rfl,rfl⟩;go_wp2_with fail
    exact⟨⟨by trivial,j+1,by omega,by go_num,fun t ht=>by
     rcases Nat.lt_or_ge t j with h | h
     ·exact Hno.out t h
     ·rw[show t=j by omega,HF.out];rfl⟩,by simp[intOf];omega⟩
   ·rcases q2 with _ | _
    ·go_wp2_with fail
     refine K1.out.mono ?_;rintro e w2 ⟨rfl,rfl⟩;go_wp2_with fail
     refine K2.out.mono ?_;rintro e w3 ⟨rfl,rfl⟩;go_wp2_with fail
     exact⟨⟨by trivial,j+1,by omega,by go_num,fun t ht=>by
      rcases Nat.lt_or_ge t j with h | h
      ·exact Hno.out t h
      ·rw[show t=j by omega,HF.out];rfl⟩,by simp[intOf];omega⟩
    ·go_wp2_with fail
     refine K1.out.mono ?_;rintro e w2 ⟨rfl,rfl⟩;go_wp2_with fail
     refine K2.out.mono ?_;rintro e w3 ⟨rfl,rfl⟩;go_wp2_with fail
     go_ret;exact⟨by rw[HH.out.2 ⟨j,hlt,HF.out⟩];rfl,Hw.out⟩
  ·obtain rfl:j=es.length:=by omega
   go_wp2_with fail
   go_ret;refine⟨?_,Hw.out⟩;have:R=false:=by
    rcases hR:R with _ | _
    ·rfl
    ·obtain⟨t,ht,h⟩:=HH.out.1 hR;rw[Hno.out t ht] at h;cases h
   rw[this];rfl
theorem Bx3{P:Program}{t e:TypeId}{n:Nat}(ht:P.underlying t=some (.slice e))(hs:∀w,(sizeOf e).run P w=.ok n w)(w:World)(a:Option Addr)(len cap:Nat)(hc:len≤cap):
 (Instr.sliceAt t (.slice a len cap) Option.none (some (.int .i64 len)) (some (.int .i64 len))).run P w=.ok (.slice a len len) w:=by
 have he:P.elem t=e:=by simp[Program.elem,ht]
 rw[run_sliceAt_slice _ _ _ _ _ _ (by rw[he];exact ht),run_slice_hm _ _ _ _ _ (by rw[he];exact ht) _ _ _ _ (by omega) (Int.le_refl _) (by omega),he,hs];show Result.ok (Value.slice (adv a (len:Int).toNat 0 n) ((len:Int).toNat-0) ((len:Int).toNat-0)) w=_;rw[Cn6,Int.toNat_natCast];rfl
theorem En9:∀w,(sizeOf 153).run Tryz.prog w=.ok 2 w:=fun w=>by
 obtain⟨i,h1,h2⟩:=Option.map_eq_some_iff.1 (show(Tryz.prog.info? 153).map (·.size)=some 2 by kernel_rfl);simp[sizeOf,typeInfo,h1,h2]
theorem Eo0(a:Option Addr)(n c:Nat)(hc:n≤c)(w:World):Calls Tryz.prog 176 #[.slice a n c] w fun e w'=>e=.returned (.slice a n n)∧w=w':=by
 have hs:=fun W=>Bx3 Tryz.underlying47 En9 W a n c hc;go_enter Tryz.func176,Tryz.ntmps176
 go_wp2_with fail
 go_ret;exact⟨rfl,rfl⟩
theorem Eo1(W:World):V5 W (W.alloc (.cells #[] 5)) (.slice (some ⟨W.heap.size,0,none⟩) 0 0) []:=V5.of rfl (Buf.made W 5 [] 0 0 (Nat.le_refl _) rfl (by decide))
theorem Ar6{w:World}{base:Nat}{e:TypeId}{size n cap:Nat}{a:Option Addr}{xs:List Value}(h:w.ownsRow base e size (.slice a n cap) n xs):AtP (fun g=>base≤g) w a xs:=by
 rcases As6 h with h1 | ⟨b,off,rfl,hlt,hc⟩
 ·exact .inl h1
 ·exact .inr ⟨b,off,rfl,(h.lt b rfl).1,hlt,hc⟩
def Cr1(w:World)(l:List UInt8)(e:Ending)(w':World):Prop:=∃a c,e=.returned (.slice a l.length c)∧l.length≤c∧c≤maxLen∧AtP (fun g=>w.heap.size≤g) w' a (B8s l)∧Below w.heap.size w w'
theorem Ca8(a:Option Addr)(cap:Nat)(l:List UInt8)(w:World)(hc:l.length≤100000)(hl:A4 w a l):
 Calls Tryz.prog 177 #[.slice a l.length cap] w (Cr1 w l):=by
 have q22:∀(w:World) (a:Option Addr) (n c n' c':Nat),(binOp .eql 22 (.slice a n c) (.slice none n' c')).run Tryz.prog w=.ok (.bool a.isNone) w:=fun w a n c n' c'=>Lib.run_eql_slice_nil w _ _ a n c n' c' Tryz.underlying22;rcases a with _ | ⟨b,o,s⟩
 ·have h0:l=[]:=by
   rcases hl with h | ⟨b,off,h,-⟩
   ·simpa using h
   ·cases h
  subst h0;go_enter Tryz.func177,Tryz.ntmps177
  go_wp2_with fail
  go_ret;exact⟨none,0,rfl,Nat.le_refl _,by decide,.inl rfl,Below.refl _ _⟩
 ·have Hl:=Lh (hl.mono (ba w (.cells #[] 5)));clear hl;go_enter Tryz.func177,Tryz.ntmps177
  go_wp2_with (at_builtin;(refine Ag6 (.tmp 5) (.tmp 6) rfl rfl rfl (Eo1 w) l rfl Hl.out rfl (by simp;omega) l rfl ?_;intro a1 c1 w1 h1;have H1:=Lh h1;clear h1))
  go_ret;have hcap:=H1.out.buf.cap;exact⟨a1,c1,rfl,hcap.2.1,hcap.2.2,Ar6 H1.out.own,H1.out.bel⟩
theorem Df4:Ab4 Tryz.prog 47 153 2 48 (.agg #[.slice none 0 0,.slice none 0 0]):=Ab4.mk1 Tryz.underlying47 (by kernel_rfl) rfl (by decide)
abbrev Cr2(B:Nat)(w:World)(v:Value)(n:Nat)(vs:List Value):Prop:=w.ownsRow B 153 2 v n vs
theorem Cw8{ops:Array Oper}{rest:List Oper}{o:Oper}{a:Act}{w:World}{Q:Exit→Act→World→Prop}(s x:Operand)(hgd:o.guard=Option.none)
 (ho:o.op=.call {callee:=.builtin .append,args:=#[s,x],argTypes:=#[47,47]}) {sa:Option Addr} {n:Nat} {vs:List Value} (hs:a.eval s=.slice sa n n) (hS:At w sa vs) (hvl:vs.length=n*2)
 {sp:Addr} {c:Nat} {v0 v1:Value} (hx:a.eval x=.slice (some sp) 1 c) (hX:At w (some sp) [v0,v1]) (h1:∀u∈[v0,v1],u.oneCell'=true) (hn:n≤100000)
 (h:∀a' c' w',Cr2 w.heap.size w' (.slice a' (n+1) c') (n+1) (vs++[v0,v1])→Below w.heap.size w w'→wpList Tryz.prog ops Q rest (a.put o.dst (.slice a' (n+1) c')) w'):wpList Tryz.prog ops Q (o::rest) a w:=by
 refine wpList_plain hgd fun K hK=>?_;have key:∃a' c' w',(Builtin.append_ #[47,47] o.type #[.slice sa n n,.slice (some sp) 1 c]).run Tryz.prog w=.ok (.slice a' (n+1) c') w'∧Cr2 w.heap.size w' (.slice a' (n+1) c') (n+1) (vs++[v0,v1])∧w.grownBy w' none:=by
  obtain⟨i,hi,hz,hsz,hby⟩:=Df4.info;rcases sa with _ | b
  ·have h0:vs=[]:=by
    rcases hS with h | ⟨_,_,h,-⟩
    ·exact h
    ·cases h
   subst h0;have hn0:n=0:=by simp at hvl;omega
   subst hn0;obtain⟨a',c',w',hr,hown,hg⟩:=Be7 Df4 (World.ownsRow_nil w w.heap.size 153 2) (m:=1) c hX rfl h1 (by decide) (by decide) (Nat.le_refl _) o.type;exact⟨a',c',w',by simpa using hr,by simpa using hown,hg⟩
  ·have hcell:∀{d:Addr} {cs:List Value},At w (some d) cs→∀j u,cs[j]?=some u→w.cell? (d.add j)=some u:=by
    intro d cs hA j u hj;have hjl:j<cs.length:=by
     rcases Nat.lt_or_ge j cs.length with h | h
     ·exact h
     ·rw[List.getElem?_eq_none h] at hj;cases hj
    rcases hA with h | ⟨b',off,he,hlt,hc⟩
    ·rw[h] at hjl;simp at hjl
    ·cases he
     rw[WideShapes.add_plain,hc j hjl];simp[List.getD,hj]
   obtain⟨v',w',hr,hown,hg⟩:=run_append_arg_grows (P:=Tryz.prog) w 47 o.type 153 i (.agg #[.slice none 0 0,.slice none 0 0]) 2 48 Tryz.underlying47 hi hz hsz hby rfl (by decide) b n n vs hvl (hcell hS) sp 1 c [v0,v1] rfl (hcell hX) (by omega) (by unfold maxLen;omega) (by omega);obtain⟨a',c',rfl,-,-⟩:=S6 hown;exact⟨a',c',w',hr,hown,hg⟩
 obtain⟨a',c',w',hr,hown,hg⟩:=key;unfold Oper.wp execOp;simp only[ho,resolve,List.map_toArray,List.map_cons,List.map_nil,hs,hx,invoke,builtin,Sem.run_bind,Sem.run_pure,Result.andThen_ok,hr];exact hK _ _ (h a' c' w' hown ⟨hg.os,hg.tape,hg.output,hg.size,fun k hk=>hg.block k hk (by simp)⟩)
def Ad3(p:Nat→Prop)(w:World)(v:Value)(r:List UInt8):Prop:=∃a c,v=.slice a r.length c∧r.length≤c∧c≤maxLen∧AtP p w a (B8s r)
def Aw3(p:Nat→Prop)(w:World)(a:Option Addr)(es:List Ent):Prop:=
 ∃vs:List Value,vs.length=es.length*2∧AtP p w a vs∧∀i,i<es.length→Ad3 p w (vs.getD (i*2) undef) (es.getD i ([],[])).1∧Ad3 p w (vs.getD (i*2+1) undef) (es.getD i ([],[])).2
theorem Ad3.row{p:Nat→Prop}{w:World}{v:Value}{r:List UInt8}(h:Ad3 p w v r):V9 w v r:=by
 obtain⟨a,c,h1,h2,h3,h4⟩:=h;exact⟨a,c,h1,h2,h3,h4.at⟩
theorem Ad3.of{p:Nat→Prop}{w:World}{v:Value}{r:List UInt8}(h:V9 w v r)(hp:∀b,b<w.heap.size→p b):Ad3 p w v r:=by
 obtain⟨a,c,h1,h2,h3,h4⟩:=h;exact⟨a,c,h1,h2,h3,AtP.of h4 hp⟩
theorem Ad3.to{p q:Nat→Prop}{w w':World}{v:Value}{r:List UInt8}(h:Ad3 p w v r)(hs:w.heap.size≤w'.heap.size)(hk:∀b,b<w.heap.size→p b→w'.heap[b]?=w.heap[b]?∧q b):Ad3 q w' v r:=by
 obtain⟨a,c,h1,h2,h3,h4⟩:=h;exact⟨a,c,h1,h2,h3,h4.to hs hk⟩
theorem Aw3.ents{p:Nat→Prop}{w:World}{a:Option Addr}{es:List Ent}(h:Aw3 p w a es):X7 w a es:=by
 obtain⟨vs,h1,h2,h3⟩:=h;exact⟨vs,h1,h2.at,fun i hi=>⟨(h3 i hi).1.row,(h3 i hi).2.row⟩⟩
theorem Aw3.of{p:Nat→Prop}{w:World}{a:Option Addr}{es:List Ent}(h:X7 w a es)(hp:∀b,b<w.heap.size→p b):Aw3 p w a es:=by
 obtain⟨vs,h1,h2,h3⟩:=h;exact⟨vs,h1,AtP.of h2 hp,fun i hi=>⟨.of (h3 i hi).1 hp,.of (h3 i hi).2 hp⟩⟩
theorem Aw3.to{p q:Nat→Prop}{w w':World}{a:Option Addr}{es:List Ent}(h:Aw3 p w a es)(hs:w.heap.size≤w'.heap.size)(hk:∀b,b<w.heap.size→p b→w'.heap[b]?=w.heap[b]?∧q b):Aw3 q w' a es:=by
 obtain⟨vs,h1,h2,h3⟩:=h;exact⟨vs,h1,h2.to hs hk,fun i hi=>⟨(h3 i hi).1.to hs hk,(h3 i hi).2.to hs hk⟩⟩
theorem Aw3.up{p:Nat→Prop}{w w':World}{a:Option Addr}{es:List Ent}(h:Aw3 p w a es)(hb:Below w.heap.size w w'):Aw3 p w' a es:=h.to hb.size fun b hl hp=>⟨hb.block b hl,hp⟩
theorem Ad3.up{p:Nat→Prop}{w w':World}{v:Value}{r:List UInt8}(h:Ad3 p w v r)(hb:Below w.heap.size w w'):Ad3 p w' v r:=h.to hb.size fun b hl hp=>⟨hb.block b hl,hp⟩
theorem AtP.up{p:Nat→Prop}{w w':World}{a:Option Addr}{cs:List Value}(h:AtP p w a cs)(hb:Below w.heap.size w w'):AtP p w' a cs:=h.to hb.size fun b hl hp=>⟨hb.block b hl,hp⟩
theorem Aw3.snoc{p:Nat→Prop}{w':World}{a':Option Addr}{es:List Ent}{vs:List Value}{v0 v1:Value}{k b:List UInt8}(hvl:vs.length=es.length*2)(hr:∀i,i<es.length→Ad3 p w' (vs.getD (i*2) undef) (es.getD i ([],[])).1∧Ad3 p w' (vs.getD (i*2+1) undef) (es.getD i ([],[])).2)
 (hA:AtP p w' a' (vs++[v0,v1])) (h0:Ad3 p w' v0 k) (h1:Ad3 p w' v1 b):Aw3 p w' a' (es++[(k,b)]):=by
 refine⟨vs++[v0,v1],by simp[hvl];omega,hA,fun i hi=>?_⟩;have hi':i<es.length+1:=by simpa using hi
 rcases Nat.lt_or_ge i es.length with h | h
 ·have e1:(vs++[v0,v1]).getD (i*2) undef=vs.getD (i*2) undef:=by rw[List.getD,List.getD,List.getElem?_append_left (by omega)]
  have e2:(vs++[v0,v1]).getD (i*2+1) undef=vs.getD (i*2+1) undef:=by rw[List.getD,List.getD,List.getElem?_append_left (by omega)]
  have e3:(es++[(k,b)]).getD i ([],[])=es.getD i ([],[]):=by rw[List.getD,List.getD,List.getElem?_append_left h]
  rw[e1,e2,e3];exact hr i h
 ·obtain rfl:i=es.length:=by omega
  have e1:(vs++[v0,v1]).getD (es.length*2) undef=v0:=by rw[List.getD,List.getElem?_append_right (by omega),hvl,Nat.sub_self];rfl
  have e2:(vs++[v0,v1]).getD (es.length*2+1) undef=v1:=by rw[List.getD,List.getElem?_append_right (by omega),hvl,show es.length*2+1-es.length*2=1 by omega];rfl
  have e3:(es++[(k,b)]).getD es.length ([],[])=(k,b):=by rw[List.getD,List.getElem?_append_right (by omega),Nat.sub_self];rfl
  rw[e1,e2,e3];exact⟨h0,h1⟩
def Am1(es:List Ent)(k b:List UInt8):List Ent:=bif Al4 es k b then es else es++[(k,b)]
abbrev Az2:List Value:=[.bool false,.slice none 0 0,.bool false]
theorem Ad0:(Tryz.prog.info? 49).map (·.size)=some 3:=by kernel_rfl
theorem Aa3{w:World}{b:Nat}{v0 v1 v2:Value}(h:Blk w b [v0,v1,v2]):w.cell? ⟨b,0,none⟩=some v0∧w.cell? ⟨b,1,none⟩=some v1∧w.cell? ⟨b,2,none⟩=some v2:=
 ⟨h.cell 0 (by simp),h.cell 1 (by simp),h.cell 2 (by simp)⟩
theorem Bt0{T:TypeId}{w:World}{b:Nat}{a0 a1 a2 v0 v1 v2:Value}(h:A6 T w b [a0,a1,a2]):A6 T (((w.setCell ⟨b,0,none⟩ v0).setCell ⟨b,1,none⟩ v1).setCell ⟨b,2,none⟩ v2) b [v0,v1,v2]:=((h.set 0 v0).set 1 v1).set 2 v2
theorem Ar7{w0 w:World}{B b:Nat}{v0 v1 v2:Value}(h:Below B w0 w)(hb:B≤b):Below B w0 (((w.setCell ⟨b,0,none⟩ v0).setCell ⟨b,1,none⟩ v1).setCell ⟨b,2,none⟩ v2):=((h.setCell hb v0).setCell hb v1).setCell hb v2
theorem Aj6{w:World}{b g:Nat}{v0 v1 v2:Value}(h:g≠b):(((w.setCell ⟨b,0,none⟩ v0).setCell ⟨b,1,none⟩ v1).setCell ⟨b,2,none⟩ v2).heap[g]?=w.heap[g]?:=by
 rw[Below.heap_setCell _ _ _ _ h,Below.heap_setCell _ _ _ _ h,Below.heap_setCell _ _ _ _ h]
theorem Az3{w:World}{b:Nat}{v0 v1 v2:Value}:(((w.setCell ⟨b,0,none⟩ v0).setCell ⟨b,1,none⟩ v1).setCell ⟨b,2,none⟩ v2).heap.size=w.heap.size:=by simp
theorem A4.offP{w:World}{B:Nat}{T:TypeId}{cs:List Value}{a:Option Addr}{l:List UInt8}{v0 v1 v2:Value}(h:A4 w a l)(hb:A6 T w B cs)(hcs:∀v∈cs,∀k n,v≠.int k n):
 A4 (((w.setCell ⟨B,0,none⟩ v0).setCell ⟨B,1,none⟩ v1).setCell ⟨B,2,none⟩ v2) a l:=by
 rcases h with h | ⟨b',off,rfl,hlt,hc⟩
 ·exact .inl h
 refine .inr ⟨b',off,rfl,by rw[Az3];exact hlt,fun i hi=>?_⟩;have hne:b'≠B:=by
  rintro rfl;have h1:=hc i hi;rw[cell_of_row w b' (off+i) cs.toArray T (0,0) hb] at h1;have h2:=Array.mem_of_getElem? h1;have hi':i<l.length:=by simpa using hi
  have h3:(B8s l).getD i undef=.int .u8 (bv (l.getD i 0)):=by simp[List.getD,hi']
  rw[h3] at h2;exact hcs _ (by simpa using h2) _ _ rfl
 rw[World.cell?_of_block (w:=w) (a:=⟨b',off+i,none⟩) (Aj6 hne)];exact hc i hi
theorem Ca9(i f:Bool)(a:Option Addr)(n c:Nat):∀v∈([.bool i,.slice a n c,.bool f]:List Value),∀k n,v≠.int k n:=by
 intro v hv k n;simp only[List.mem_cons,List.not_mem_nil,or_false] at hv;rcases hv with rfl | rfl | rfl<;>intro h<;>cases h
end Go.Proofs.YtadpiemjgfndgaaGreatDoor
