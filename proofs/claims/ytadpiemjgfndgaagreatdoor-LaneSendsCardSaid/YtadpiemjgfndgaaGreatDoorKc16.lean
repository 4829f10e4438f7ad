/- Proved here, for use further on: FrE FrK FrG FrH HuA HuB HuC. Conditions: none but those each theorem names. -/
import Derived.Test.YtadpiemjgfndgaaGreatDoorKc00
import Derived.Test.YtadpiemjgfndgaaGreatDoorKc15
import Derived.Test.YtadpiemjgfndgaaGreatDoorKc12
import Derived.Test.YtadpiemjgfndgaaGreatDoorKc08
import Derived.Test.YtadpiemjgfndgaaGreatDoorKc07
import Derived.Test.YtadpiemjgfndgaaGreatDoorKc10
import Derived.Lib.SliceRun
import Derived.Lib.AppendZeros
import Derived.Lib.AppendZerosOnto
import Derived.Test.YtadpiemjgfndgaaGreatDoorKc11
import Derived.Deep.DeepCutAuto
import Derived.Deep.RegionHeld3
import Derived.Test.YtadpiemjgfndgaaGreatDoorKc14
import Derived.Test.YtadpiemjgfndgaaGreatDoorKc02
import Derived.WalkMore
import Derived.ChangeKeysEq
set_option linter.unusedSimpArgs false
set_option linter.unusedVariables false
set_option maxRecDepth 100000
set_option maxHeartbeats 8000000
namespace Go.Proofs.YtadpiemjgfndgaaGreatDoor
open Go.RowKit
section
variable (t:TypeId) (n:Nat)
@[go_sem high] theorem Fo5 (h : n ≤ 9223372036854775807) : binOp .shr t (.int .i64 (n : Int)) (.int .u64 8) = pure (.int .i64 ((n / 256 : Nat) : Int)) := by
 show Op.shift .shr .i64 (n:Int) .u64 8=_;unfold Op.shift;rw[if_neg (by omega)];show pure (Value.int .i64 ((n:Int).fdiv (2^(min (Int.toNat 8) 64))))=_;have h1:(2:Int)^(min (Int.toNat 8) 64)=256:=by decide
 have h2:((n:Int).fdiv 256)=((n/256:Nat):Int):=by rw[Int.fdiv_eq_ediv_of_nonneg _ (by decide)];omega
 rw[h1,h2]
theorem Ec2(n:Nat):IntKind.u8.wrap (n:Int)=bv (UInt8.ofNat n):=by
 rw[Ay2];unfold J4
 congr 1
 have:((n:Int)%256).toNat=n%256:=by omega
 rw[this];apply UInt8.toNat_inj.1;rw[UInt8.toNat_ofNat',UInt8.toNat_ofNat'];omega
@[go_sem high] theorem Fn5 {P : Program} (w : World) (s d : TypeId) (hs : (P.underlying s).isSome = true) (hd : P.underlying d = some (.int .u8)) :
 (convert s d (.int .i64 (n:Int))).run P w=.ok (.int .u8 (bv (UInt8.ofNat n))) w:=by
 obtain⟨d',hd'⟩:=Option.isSome_iff_exists.mp hs;simp[convert,run_underlying hd',run_underlying hd,Conv.intToInt,Ec2]
end
def Am2(l:List UInt8):List UInt8:=UInt8.ofNat (l.length/256)::UInt8.ofNat l.length::l
def An8(l:List UInt8):Bool:=decide (1≤l.length)&&decide (l.length≤1024)
theorem Ao5(l:List UInt8):(Am2 l).length=l.length+2:=rfl
def Da3(w:World)(l:List UInt8)(e:Ending)(w':World):Prop:=
 Below w.heap.size w w'∧((An8 l=true∧∃a c,e=.returned (.tuple #[.slice a (l.length+2) c,.int .i64 0])∧l.length+2≤c∧c≤maxLen∧A4 w' a (Am2 l))∨(An8 l=false∧e=.returned (.tuple #[.slice none 0 0,.int .i64 1])))
theorem Eo7(a:Option Addr)(cap:Nat)(l:List UInt8)(w:World)(hm:l.length≤maxLen)(hl:A4 w a l):
 Calls Tryz.prog 125 #[.slice a l.length cap] w (Da3 w l):=by
 unfold maxLen at hm;by_cases h1:1≤l.length
 ·by_cases h2:l.length≤1024
  ·have hd1:decide (((l.length:Nat):Int)<1)=false:=by simp;omega
   have hd2:decide ((1024:Int)<((l.length:Nat):Int))=false:=by simp;omega
   have h63:l.length≤9223372036854775807:=by omega
   have HP:=Lh (show An8 l=true by simp[An8,h1,h2]);have HQ:=Lh (show(((l.length:Nat):Int)/256)=bv (UInt8.ofNat (l.length/256)) by
    unfold bv;rw[UInt8.toNat_ofNat'];omega)
   have Hl:=Lh (hl.mono (ba w (.cells #[.int .u8 (((l.length:Nat):Int)/256),.int .u8 (bv (UInt8.ofNat l.length))] 5)));have H2:=Lh h2;clear hl;go_enter Tryz.func125,Tryz.ntmps125
   go_wp2_with (at_builtin;go_must (refine V8 (.tmp 19) (.tmp 20) 22 rfl rfl V4 rfl (Buf.made w 5 [.int .u8 (((l.length:Nat):Int)/256),.int .u8 (bv (UInt8.ofNat l.length))] 2 2 (by decide) rfl (by decide)) (sp:=a) (m:=l.length) (news:=B8s l) rfl Hl.out (by simp) (J9 l) (by have:=H2.out;omega) (by decide) (l.length+2) (by omega) (B8s (Am2 l)) (by rw[HQ.out];rfl) ?_;intro a1 c1 w1 hB1))
   go_ret2
   obtain⟨-,g1,g2⟩:=hB1.cap;exact⟨hB1.bel,.inl ⟨HP.out,a1,c1,rfl,g1,g2,hB1.at⟩⟩
  ·have hd1:decide (((l.length:Nat):Int)<1)=false:=by simp;omega
   have hd2:decide ((1024:Int)<((l.length:Nat):Int))=true:=by simp;omega
   have HP:=Lh (show An8 l=false by simp[An8,h2]);clear hl;go_enter Tryz.func125,Tryz.ntmps125
   go_wp2_with fail
   go_ret2
   exact⟨Below.refl _ _,.inr ⟨HP.out,rfl⟩⟩
 ·have hd1:decide (((l.length:Nat):Int)<1)=true:=by simp;omega
  have HP:=Lh (show An8 l=false by simp[An8,h1]);clear hl;go_enter Tryz.func125,Tryz.ntmps125
  go_wp2_with fail
  go_ret2
  exact⟨Below.refl _ _,.inr ⟨HP.out,rfl⟩⟩
theorem Cx1(a:Option Addr)(cap:Nat)(l:List UInt8)(w:World)(hm:l.length≤maxLen)(hl:A4 w a l):
 Calls Tryz.prog 130 #[.slice a l.length cap] w (Da3 w l):=by
 unfold maxLen at hm;by_cases h1:1≤l.length
 ·by_cases h2:l.length≤1024
  ·have hd1:decide (((l.length:Nat):Int)<1)=false:=by simp;omega
   have hd2:decide ((1024:Int)<((l.length:Nat):Int))=false:=by simp;omega
   have h63:l.length≤9223372036854775807:=by omega
   have HP:=Lh (show An8 l=true by simp[An8,h1,h2]);have HQ:=Lh (show(((l.length:Nat):Int)/256)=bv (UInt8.ofNat (l.length/256)) by
    unfold bv;rw[UInt8.toNat_ofNat'];omega)
   have Hl:=Lh (hl.mono (ba w (.cells #[.int .u8 (((l.length:Nat):Int)/256),.int .u8 (bv (UInt8.ofNat l.length))] 5)));have H2:=Lh h2;clear hl;go_enter Tryz.func130,Tryz.ntmps130
   go_wp2_with (at_builtin;go_must (refine V8 (.tmp 20) (.tmp 21) 22 rfl rfl V4 rfl (Buf.made w 5 [.int .u8 (((l.length:Nat):Int)/256),.int .u8 (bv (UInt8.ofNat l.length))] 2 2 (by decide) rfl (by decide)) (sp:=a) (m:=l.length) (news:=B8s l) rfl Hl.out (by simp) (J9 l) (by have:=H2.out;omega) (by decide) (l.length+2) (by omega) (B8s (Am2 l)) (by rw[HQ.out];rfl) ?_;intro a1 c1 w1 hB1))
   go_ret2
   obtain⟨-,g1,g2⟩:=hB1.cap;exact⟨hB1.bel,.inl ⟨HP.out,a1,c1,rfl,g1,g2,hB1.at⟩⟩
  ·have hd1:decide (((l.length:Nat):Int)<1)=false:=by simp;omega
   have hd2:decide ((1024:Int)<((l.length:Nat):Int))=true:=by simp;omega
   have HP:=Lh (show An8 l=false by simp[An8,h2]);clear hl;go_enter Tryz.func130,Tryz.ntmps130
   go_wp2_with fail
   go_ret2
   exact⟨Below.refl _ _,.inr ⟨HP.out,rfl⟩⟩
 ·have hd1:decide (((l.length:Nat):Int)<1)=true:=by simp;omega
  have HP:=Lh (show An8 l=false by simp[An8,h1]);clear hl;go_enter Tryz.func130,Tryz.ntmps130
  go_wp2_with fail
  go_ret2
  exact⟨Below.refl _ _,.inr ⟨HP.out,rfl⟩⟩
def Ty5(w:World)(b:Nat):Prop:=∃cur fr,w.heap[b]?=some (.cells cur 5 fr)
abbrev Ae3(B:Nat)(w:World)(a:Option Addr)(cs:List Value):Prop:=AtP (fun b=>b<B∨Ty5 w b) w a cs
structure Y8 (B:Nat) (w w':World):Prop where
 size:w.heap.size≤w'.heap.size
 block:∀b,b<w.heap.size→(b<B∨Ty5 w b)→w'.heap[b]?=w.heap[b]?
theorem Ae3.safe{B:Nat}{w w':World}{a:Option Addr}{cs:List Value}(h:Ae3 B w a cs)(k:Y8 B w w'):Ae3 B w' a cs:=
 AtP.to h k.size fun b hb hp=>by
  have e:=k.block b hb hp;refine⟨e,?_⟩;rcases hp with hp | ⟨cur,fr,hp⟩
  ·exact .inl hp
  ·exact .inr ⟨cur,fr,by rw[e];exact hp⟩
theorem Y8.below{B:Nat}{w w':World}(h:Below w.heap.size w w'):Y8 B w w':=⟨h.size,fun b hb _=>h.block b hb⟩
theorem Y8.trans{B:Nat}{a b c:World}(h:Y8 B a b)(k:Y8 B b c):Y8 B a c:=by
 refine⟨Nat.le_trans h.size k.size,fun x hx hp=>?_⟩;have e:=h.block x hx hp;rw[←e];refine k.block x (Nat.lt_of_lt_of_le hx h.size) ?_;rcases hp with hp | ⟨cur,fr,hp⟩
 ·exact .inl hp
 ·exact .inr ⟨cur,fr,by rw[e];exact hp⟩
theorem Ec3{T:TypeId}{w:World}{b:Nat}{cs:List Value}(h:A6 T w b cs)(hT:T≠5):¬Ty5 w b:=by
 rintro⟨cur,fr,k⟩;rw[show w.heap[b]?=_ from h] at k;injection k with k;injection k with k1 k2 k3;exact hT k2
theorem Y8.set{B:Nat}{w:World}{T:TypeId}{g j:Nat}{cs:List Value}(h:A6 T w g cs)(hT:T≠5)(hB:B≤g)(v:Value):Y8 B w (w.setCell ⟨g,j,none⟩ v):=by
 refine⟨by simp,fun b hb hp=>Below.heap_setCell _ _ _ _ ?_⟩;rintro rfl;rcases hp with hp | hp
 ·omega
 ·exact Ec3 h hT hp
theorem Y8.row{B:Nat}{w:World}{T:TypeId}{g:Nat}{cs:List Value}(h:A6 T w g cs)(hT:T≠5)(hB:B≤g)(ds:Array Value):Y8 B w (w.setRow g ds):=by
 refine⟨by simp,fun b hb hp=>setRow_other w g b ds ?_⟩;rintro rfl;rcases hp with hp | hp
 ·omega
 ·exact Ec3 h hT hp
theorem Y8.grown{B:Nat}{w w':World}{e:TypeId}{size n base:Nat}{v:Value}{xs:List Value}(hown:w.ownsRow base e size v n xs)(hg:w.grownBy w' v.ownBlock)(he:e≠5)(hB:B≤base):Y8 B w w':=by
 refine⟨hg.size,fun b hb hp=>hg.block b hb ?_⟩;intro hv;obtain⟨h1,h2⟩:=hown.lt b hv.symm;rcases hp with hp | ⟨cur,fr,hp⟩
 ·omega
 ·rcases hown.2 with⟨rfl,-⟩ | ⟨g,cap,cur',rfl,-,hg',-⟩
  ·simp[Value.ownBlock] at hv
  ·simp[Value.ownBlock] at hv;subst hv;rw[hg'] at hp;injection hp with hp;injection hp with _ k2 _;exact he k2
theorem Buf.keep{B:Nat}{wB w:World}{a:Option Addr}{n cap:Nat}{xs:List Value}(h:Buf wB w 5 (.slice a n cap) n xs):Ae3 B w a xs:=by
 obtain⟨h1,h2⟩:=h.own;rcases h2 with⟨hv,hn⟩ | ⟨g,cap',cur,hv,hb,hg,h3,h4,h5,h6⟩
 ·subst hn;exact .inl (List.eq_nil_of_length_eq_zero (by simpa using h1))
 ·cases hv
  refine .inr ⟨g,0,rfl,.inr ⟨_,_,hg⟩,(Array.getElem?_eq_some_iff.1 hg).1,fun i hi=>?_⟩;rw[Nat.zero_add];have hx:xs[i]?=some (xs[i]):=List.getElem?_eq_getElem hi;have:=h.own.cells (g:=g) rfl i _ hx;have hadd:(⟨g,0,none⟩:Addr).add i=⟨g,i,none⟩:=by unfold Addr.add;split<;>simp_all
  rw[hadd] at this;rw[this];simp[List.getD,hi]
structure Own (B:Nat) (w:World) (v:Value) (n:Nat) (xs:List Value):Prop where
 own:w.ownsRow B 22 1 v n xs
 le:B≤w.heap.size
theorem Own.up{B:Nat}{w w':World}{v:Value}{n:Nat}{xs:List Value}(h:Own B w v n xs)(hb:Below w.heap.size w w'):Own B w' v n xs:=by
 obtain⟨⟨h1,h2⟩,h3⟩:=h;refine⟨⟨h1,?_⟩,Nat.le_trans h3 hb.size⟩;rcases h2 with h2 | ⟨g,cap,cur,hv,hg,hh,r⟩
 ·exact .inl h2
 ·exact .inr ⟨g,cap,cur,hv,hg,by rw[hb.block g (Array.getElem?_eq_some_iff.1 hh).1];exact hh,r⟩
theorem Own.set{B g j:Nat}{w:World}{v:Value}{n:Nat}{xs:List Value}(h:Own B w v n xs)(hg:g<B)(x:Value):Own B (w.setCell ⟨g,j,none⟩ x) v n xs:=by
 obtain⟨⟨h1,h2⟩,h3⟩:=h;refine⟨⟨h1,?_⟩,by simpa using h3⟩;rcases h2 with h2 | ⟨g',cap,cur,hv,hg',hh,r⟩
 ·exact .inl h2
 ·exact .inr ⟨g',cap,cur,hv,hg',by rw[Below.heap_setCell _ _ _ _ (by simp only;omega)];exact hh,r⟩
theorem Own.row{B g:Nat}{w:World}{v:Value}{n:Nat}{xs:List Value}(h:Own B w v n xs)(hg:g<B)(ds:Array Value):Own B (w.setRow g ds) v n xs:=by
 obtain⟨⟨h1,h2⟩,h3⟩:=h;refine⟨⟨h1,?_⟩,by simpa using h3⟩;rcases h2 with h2 | ⟨g',cap,cur,hv,hg',hh,r⟩
 ·exact .inl h2
 ·exact .inr ⟨g',cap,cur,hv,hg',by rw[setRow_other w g g' ds (by omega)];exact hh,r⟩
theorem Own.slice{B:Nat}{w:World}{v:Value}{n:Nat}{xs:List Value}(h:Own B w v n xs):∃a cap,v=.slice a n cap∧n≤cap∧cap≤maxLen:=S6 h.own
theorem Own.at{B:Nat}{w:World}{a:Option Addr}{n cap:Nat}{xs:List Value}(h:Own B w (.slice a n cap) n xs):At w a xs:=As6 h.own
theorem Own.nil{B:Nat}{w:World}(h:B≤w.heap.size):Own B w (.slice none 0 0) 0 []:=⟨⟨rfl,.inl ⟨rfl,rfl⟩⟩,h⟩
theorem A6.grown{T:TypeId}{B n b:Nat}{w w':World}{v:Value}{xs cs:List Value}(h:A6 T w b cs)(hown:Own B w v n xs)(hg:w.grownBy w' v.ownBlock)(hb:b<B):A6 T w' b cs:=by
 unfold A6;rw[hg.block b h.blk.lt fun hv=>by have:=(hown.own.lt b hv.symm).1;omega];exact h
theorem Dg1{ops:Array Oper}{rest:List Oper}{o:Oper}{a:Act}{w:World}{Q:Exit→Act→World→Prop}(s x:Operand)(hgd:o.guard=Option.none)
 (ho:o.op=.call {callee:=.builtin .append,args:=#[s,x],argTypes:=#[35,35]}) {B n:Nat} {v:Value} {xs:List Value} (hs:a.eval s=v) (hB:Own B w v n xs)
 {sp:Option Addr} {m c:Nat} {news:List Value} (hx:a.eval x=.slice sp m c) (hS:At w sp news) (hl:news.length=m) (h1:∀u∈news,u.oneCell'=true) (h63:n+m≤1099511627776)
 (k:Nat) (hk:n+m=k)
 (h:∀a' cap' w',Own B w' (.slice a' k cap') k (xs++news)→w.grownBy w' v.ownBlock→wpList Tryz.prog ops Q rest (a.put o.dst (.slice a' k cap')) w'):wpList Tryz.prog ops Q (o::rest) a w:=by
 subst hk;refine wpList_plain hgd fun K hK=>?_;obtain⟨a',cap',w',hr,ho',hg⟩:=Be7 Fk4 hB.own (m:=m) c hS (by omega) h1 (by unfold maxLen;omega) (by omega) hB.le o.type;unfold Oper.wp execOp;simp only[ho,resolve,List.map_toArray,List.map_cons,List.map_nil,hs,hx,invoke,builtin,Sem.run_bind,Sem.run_pure,Result.andThen_ok,hr];exact hK _ _ (h a' cap' w' ⟨ho',Nat.le_trans hB.le hg.size⟩ hg)
def Ap7(B:Nat)(w:World)(vs:List Value)(rows:List (List UInt8)):Prop:=vs.length=rows.length∧∀i,i<rows.length→∃p c,vs.getD i undef=.slice p (rows.getD i []).length c∧(rows.getD i []).length≤c∧c≤maxLen∧Ae3 B w p (B8s (rows.getD i []))
theorem Ap7.safe{B:Nat}{w w':World}{vs:List Value}{rows:List (List UInt8)}(h:Ap7 B w vs rows)(k:Y8 B w w'):Ap7 B w' vs rows:=⟨h.1,fun i hi=>by
 obtain⟨p,c,h1,h2,h3,h4⟩:=h.2 i hi;exact⟨p,c,h1,h2,h3,h4.safe k⟩⟩
theorem Ap7.of{B:Nat}{w:World}{vs:List Value}{rows:List (List UInt8)}(h:Ap7 B w vs rows):Al9 w vs rows:=⟨h.1,fun i hi=>by
 obtain⟨p,c,h1,h2,h3,h4⟩:=h.2 i hi;exact⟨p,c,h1,h2,h3,h4.at⟩⟩
theorem Ap7.nil(B:Nat)(w:World):Ap7 B w [] []:=⟨rfl,fun i hi=>absurd hi (by simp)⟩
theorem Ap7.snoc{B:Nat}{w:World}{vs:List Value}{rows:List (List UInt8)}(h:Ap7 B w vs rows){p:Option Addr}{r:List UInt8}{c:Nat}(h2:r.length≤c)(h3:c≤maxLen)(h4:Ae3 B w p (B8s r)):Ap7 B w (vs++[.slice p r.length c]) (rows++[r]):=by
 refine⟨by simp[h.1],fun i hi=>?_⟩;by_cases hl:i<rows.length
 ·have e1:(vs++[Value.slice p r.length c]).getD i undef=vs.getD i undef:=by simp[List.getD,List.getElem?_append_left (by rw[h.1];exact hl:i<vs.length)]
  have e2:(rows++[r]).getD i []=rows.getD i []:=by simp[List.getD,List.getElem?_append_left hl]
  rw[e1,e2];exact h.2 i hl
 ·have hi':i=rows.length:=by simp at hi;omega
  subst hi';have e1:(vs++[Value.slice p r.length c]).getD rows.length undef=.slice p r.length c:=by rw[←h.1];simp[List.getD]
  have e2:(rows++[r]).getD rows.length []=r:=by simp[List.getD]
  rw[e1,e2];exact⟨p,c,rfl,h2,h3,h4⟩
abbrev Aq9(lo:Nat)(w:World)(a:Option Addr)(cs:List Value):Prop:=AtP (fun b=>lo≤b∧Ty5 w b) w a cs
theorem Aq9.safe{lo C:Nat}{w w':World}{a:Option Addr}{cs:List Value}(h:Aq9 lo w a cs)(k:Y8 C w w'):Aq9 lo w' a cs:=
 AtP.to h k.size fun b hb hp=>by
  have e:=k.block b hb (.inr hp.2);obtain⟨cur,fr,hp2⟩:=hp.2;exact⟨e,hp.1,cur,fr,by rw[e];exact hp2⟩
theorem Aq9.keep{lo B:Nat}{w:World}{a:Option Addr}{cs:List Value}(h:Aq9 lo w a cs):Ae3 B w a cs:=AtP.to h (Nat.le_refl _) fun b _ hp=>⟨rfl,.inr hp.2⟩
theorem Aq9.weak{lo lo':Nat}{w:World}{a:Option Addr}{cs:List Value}(h:Aq9 lo w a cs)(hl:lo'≤lo):Aq9 lo' w a cs:=AtP.to h (Nat.le_refl _) fun b _ hp=>⟨rfl,Nat.le_trans hl hp.1,hp.2⟩
theorem Buf.fresh{wB w:World}{a:Option Addr}{n cap:Nat}{xs:List Value}(h:Buf wB w 5 (.slice a n cap) n xs):Aq9 wB.heap.size w a xs:=by
 obtain⟨h1,h2⟩:=h.own;rcases h2 with⟨hv,hn⟩ | ⟨g,cap',cur,hv,hb,hg,h3,h4,h5,h6⟩
 ·subst hn;exact .inl (List.eq_nil_of_length_eq_zero (by simpa using h1))
 ·cases hv
  refine .inr ⟨g,0,rfl,⟨hb,_,_,hg⟩,(Array.getElem?_eq_some_iff.1 hg).1,fun i hi=>?_⟩;rw[Nat.zero_add];have hx:xs[i]?=some (xs[i]):=List.getElem?_eq_getElem hi;have:=h.own.cells (g:=g) rfl i _ hx;have hadd:(⟨g,0,none⟩:Addr).add i=⟨g,i,none⟩:=by unfold Addr.add;split<;>simp_all
  rw[hadd] at this;rw[this];simp[List.getD,hi]
def Aw4(B:Nat)(w:World)(vs:List Value)(rows:List (List UInt8)):Prop:=vs.length=rows.length∧∀i,i<rows.length→∃p c,vs.getD i undef=.slice p (rows.getD i []).length c∧(rows.getD i []).length≤c∧c≤maxLen∧Aq9 B w p (B8s (rows.getD i []))
theorem Aw4.safe{B C:Nat}{w w':World}{vs:List Value}{rows:List (List UInt8)}(h:Aw4 B w vs rows)(k:Y8 C w w'):Aw4 B w' vs rows:=⟨h.1,fun i hi=>by
 obtain⟨p,c,h1,h2,h3,h4⟩:=h.2 i hi;exact⟨p,c,h1,h2,h3,h4.safe k⟩⟩
theorem Aw4.of{B:Nat}{w:World}{vs:List Value}{rows:List (List UInt8)}(h:Aw4 B w vs rows):Al9 w vs rows:=⟨h.1,fun i hi=>by
 obtain⟨p,c,h1,h2,h3,h4⟩:=h.2 i hi;exact⟨p,c,h1,h2,h3,h4.at⟩⟩
theorem Aw4.nil(B:Nat)(w:World):Aw4 B w [] []:=⟨rfl,fun i hi=>absurd hi (by simp)⟩
theorem Aw4.snoc{B:Nat}{w:World}{vs:List Value}{rows:List (List UInt8)}(h:Aw4 B w vs rows){p:Option Addr}{r:List UInt8}{c:Nat}(h2:r.length≤c)(h3:c≤maxLen)(h4:Aq9 B w p (B8s r)):Aw4 B w (vs++[.slice p r.length c]) (rows++[r]):=by
 refine⟨by simp[h.1],fun i hi=>?_⟩;by_cases hl:i<rows.length
 ·have e1:(vs++[Value.slice p r.length c]).getD i undef=vs.getD i undef:=by simp[List.getD,List.getElem?_append_left (by rw[h.1];exact hl:i<vs.length)]
  have e2:(rows++[r]).getD i []=rows.getD i []:=by simp[List.getD,List.getElem?_append_left hl]
  rw[e1,e2];exact h.2 i hl
 ·have hi':i=rows.length:=by simp at hi;omega
  subst hi';have e1:(vs++[Value.slice p r.length c]).getD rows.length undef=.slice p r.length c:=by rw[←h.1];simp[List.getD]
  have e2:(rows++[r]).getD rows.length []=r:=by simp[List.getD]
  rw[e1,e2];exact⟨p,c,rfl,h2,h3,h4⟩
theorem Aw4.keep{lo B:Nat}{w:World}{vs:List Value}{rows:List (List UInt8)}(h:Aw4 lo w vs rows):Ap7 B w vs rows:=⟨h.1,fun i hi=>by
 obtain⟨p,c,h1,h2,h3,h4⟩:=h.2 i hi;exact⟨p,c,h1,h2,h3,Aq9.keep h4⟩⟩
def AtB(lo:Nat)(w:World)(a:Option Addr)(cs:List Value):Prop:=AtP (fun b=>lo≤b∧Ty5 w b) w a cs
theorem AtB.at{lo:Nat}{w:World}{a:Option Addr}{cs:List Value}(h:AtB lo w a cs):At w a cs:=AtP.at h
theorem AtB.keep{lo B:Nat}{w:World}{a:Option Addr}{cs:List Value}(h:AtB lo w a cs):Ae3 B w a cs:=AtP.to h (Nat.le_refl _) fun b hb hp=>⟨rfl,.inr hp.2⟩
theorem Dg2{w w':World}{b:Nat}(h:Ty5 w b)(e:w'.heap[b]?=w.heap[b]?):Ty5 w' b:=by
 obtain⟨cur,fr,k⟩:=h;exact⟨cur,fr,by rw[e];exact k⟩
theorem AtB.mono{lo:Nat}{w w':World}{a:Option Addr}{cs:List Value}(h:AtB lo w a cs)(hb:Below w.heap.size w w'):AtB lo w' a cs:=
 AtP.to h hb.size fun b hlt hp=>⟨hb.block b hlt,hp.1,Dg2 hp.2 (hb.block b hlt)⟩
theorem AtB.set{lo g j:Nat}{w:World}{a:Option Addr}{cs:List Value}(h:AtB lo w a cs)(hg:g<lo)(v:Value):AtB lo (w.setCell ⟨g,j,none⟩ v) a cs:=
 AtP.to h (by simp) fun b hlt hp=>by
  have e:(w.setCell ⟨g,j,none⟩ v).heap[b]?=w.heap[b]?:=Below.heap_setCell _ _ _ _ (by have:=hp.1;simp only;omega);exact⟨e,hp.1,Dg2 hp.2 e⟩
theorem AtB.row{lo g:Nat}{w:World}{a:Option Addr}{cs:List Value}(h:AtB lo w a cs)(hg:g<lo)(ds:Array Value):AtB lo (w.setRow g ds) a cs:=
 AtP.to h (by simp) fun b hlt hp=>by
  have e:(w.setRow g ds).heap[b]?=w.heap[b]?:=setRow_other w g b ds (by have:=hp.1;omega);exact⟨e,hp.1,Dg2 hp.2 e⟩
theorem Buf.atB{wB w:World}{a:Option Addr}{n cap:Nat}{xs:List Value}(h:Buf wB w 5 (.slice a n cap) n xs):AtB wB.heap.size w a xs:=by
 obtain⟨h1,h2⟩:=h.own;rcases h2 with⟨hv,hn⟩ | ⟨g,cap',cur,hv,hb,hg,h3,h4,h5,h6⟩
 ·subst hn;exact .inl (List.eq_nil_of_length_eq_zero (by simpa using h1))
 ·cases hv
  refine .inr ⟨g,0,rfl,⟨hb,_,_,hg⟩,(Array.getElem?_eq_some_iff.1 hg).1,fun i hi=>?_⟩;rw[Nat.zero_add];have hx:xs[i]?=some (xs[i]):=List.getElem?_eq_getElem hi;have:=h.own.cells (g:=g) rfl i _ hx;have hadd:(⟨g,0,none⟩:Addr).add i=⟨g,i,none⟩:=by unfold Addr.add;split<;>simp_all
  rw[hadd] at this;rw[this];simp[List.getD,hi]
theorem Az6{B:Nat}{a w:World}(h:Below B a w){g j:Nat}(hg:B≤g)(v:Value):Below B a (w.setCell ⟨g,j,none⟩ v):=h.setCell hg v
theorem Bi3:(Tryz.prog.info? 38).map (·.size)=some 3:=by kernel_rfl
abbrev F0:List Value:=[.slice none 0 0,.int .i64 0,.int .i64 0]
theorem Ax9{W:World}{b:Nat}{f:Fv}{v:Value}{fn:Func}{tmps:Array Value}{p u:Tmp}(h:fn.results=#[.cell p 38,.tmp u])(hp:tmps.getD p undef=.pointer (some ⟨b,0,none⟩))(hu:tmps.getD u undef=v)(hB:Blk W b f.L):
 (results fn tmps).run Tryz.prog W=.ok (.tuple #[f.v,v]) W:=
 F2 h tmps W b hp v hu hB Tryz.underlying38 rfl Bi3
def Ec4(B:Nat)(w:World)(s:Fd)(x:UInt8)(e:Ending)(w':World):Prop:=
 ∃(f:Fv) (a:Option Addr) (c:Nat),e=.returned (.tuple #[f.v,.slice a (Y7 s x).2.length c])∧(Y7 s x).2.length≤c∧c≤maxLen∧Ae2 w' f (Y7 s x).1∧A4 w' a (Y7 s x).2∧Below w.heap.size w w'∧Ae3 B w' f.a (B8s (Y7 s x).1.buf)∧Ae3 B w' a (B8s (Y7 s x).2)
theorem Bk9(n:Int):wrap64 (n+1)=Br1 n:=by
 unfold Br1 wrap64;rw[IntKind.wrap_i64]
theorem Ey2(B:Nat)(f:Fv)(s:Fd)(x:UInt8)(w:World)(h:Ae2 w f s)(hkeep:Ae3 B w f.a (B8s s.buf))(hsk:s.skip≤9223372036854775807)(hlen:s.buf.length≤35184372088832):
 Calls Tryz.prog 70 #[f.v,.int .u8 (bv x)] w (Ec4 B w s x):=by
 obtain⟨a,len,cap,skip,bad⟩:=f;obtain⟨l,sk,bd⟩:=s;obtain⟨hl,hle,hc,hat,hs,hb⟩:=h;simp only at hl hle hc hat hs hb hsk hlen hkeep;have HK:=Lh hkeep;clear hkeep;subst hs hb hl;have HI:=Lh Bi3;have Hat:=Lh hat
 have Hcap:=Lh (And.intro hle hc);have Hlen:=Lh hlen;clear hat hle hc hlen;by_cases h0:0<skip
 ·have hd0:decide ((0:Int)<skip)=true:=by simpa using h0
  have hsub:wrap64 (skip-1)=skip-1:=by unfold wrap64;omega
  have HF:=Lh (show Y7 ⟨l,skip,bad⟩ x=(⟨l,skip-1,bad⟩,[]) by unfold Y7;rw[if_pos h0]);clear h0 hsk;go_enter Tryz.func70,Tryz.ntmps70
  go_wp2_with (first
   | (refine C4 38 (.tmp 2) w.heap.size (cs:=[.slice a l.length cap,.int .i64 (skip-1),.int .i64 bad]) rfl rfl rfl ?hb Tryz.underlying38 rfl HI.out ?_;(case hb=>exact(((Blk.new w [.slice a l.length cap,.int .i64 skip,.int .i64 bad] 38).alloc _).set 1 _)))
   | (refine G9 38 (.tmp 4) (.tmp 14) (w.heap.size+1) (old:=F0) (cs:=[.slice a l.length cap,.int .i64 (skip-1),.int .i64 bad]) rfl rfl rfl rfl ?hb HI.out rfl rfl ?_;(case hb=>exact((Bp6 (I9 w _).symm F0 38).other _ (by simp) _))))
  refine bodyPost_ret (Ax9 (f:=⟨a,l.length,cap,skip-1,bad⟩) rfl rfl rfl (Bp6 (I9 w _).symm _ 38)) rfl ?_;have hbel:=bt (ba w (.cells #[.slice a l.length cap,.int .i64 (skip-1),.int .i64 bad] 38)) (ba _ (.cells #[.slice a l.length cap,.int .i64 (skip-1),.int .i64 bad] 38));refine⟨_,none,0,by rw[HF.out];rfl,by rw[HF.out];exact Nat.le_refl _,Nat.zero_le _,?_,by rw[HF.out];exact .inl rfl,hbel,by rw[HF.out];exact HK.out.safe (Y8.below hbel),by rw[HF.out];exact .inl rfl⟩;rw[HF.out];exact⟨rfl,Hcap.out.1,Hcap.out.2,Hat.out.mono hbel,rfl,rfl⟩
 ·have hd0:decide ((0:Int)<skip)=false:=by simpa using h0
  obtain⟨W,hW⟩:∃W,(w.alloc (.cells #[.slice a l.length cap,.int .i64 skip,.int .i64 bad] 38)).alloc (.cells #[.slice none 0 0,.int .i64 0,.int .i64 0] 38)=W:=⟨_,rfl⟩;obtain⟨hB0,hB1,hb⟩:=Aj8 (a:=[.slice a l.length cap,.int .i64 skip,.int .i64 bad]) (b:=F0) hW;have HW:=Lh hW;have HM:=Lh (show Buf W (W.alloc (.cells #[] 5)) 5 (.slice (some ⟨w.heap.size+1+1,0,none⟩) 0 0) 0 [] by
   have e:W.heap.size=w.heap.size+1+1:=by rw[←hW,I9,I9]
   have:=Buf.made W 5 [] 0 0 (by decide) rfl (by decide);rw[e] at this;exact this)
  have Hn:=Lh (show w.heap.size<w.heap.size+1∧w.heap.size+1<W.heap.size from⟨by omega,hB1.lt⟩);have Hb:=Lh hb;have B0:=Lh hB0;have B1:=Lh hB1;clear hb hB0 hB1 hW;have Hat2:=Lh (Hat.out.mono Hb.out);rcases hlt:decide (((l.length:Int)+1)<2) with _ | _
  ·have h1:¬l.length+1<2:=by have:=of_decide_eq_false hlt;omega
   go_enter Tryz.func70,Tryz.ntmps70
   go_wp2_with (first
    | (at_builtin;rw[HW.out];go_must (refine V8 (.tmp 15) (.tmp 17) 22 rfl rfl V4 rfl HM.out (sp:=a) (m:=l.length) (news:=B8s l) rfl (Hat2.out.mono (ba W _)) (by simp) (J9 l) (by have:=Hlen.out;omega) (by decide) l.length (by omega) (B8s l) rfl ?_;intro a1 c1 w1 hB1))
    | (at_builtin;go_must (refine V8 (.tmp 18) (.tmp 20) 22 rfl rfl V4 rfl (hB1.alloc _) (news:=[.int .u8 (bv x)]) rfl (U4 w1 _ _) rfl (J9 [x]) (by have:=Hlen.out;omega) (by decide) (l.length+1) rfl (B8s (l++[x])) (by simp) ?_;intro a2 c2 w2 hB2;have B02:=Lh (hB2.blk B0.out);have B12:=Lh (hB2.blk B1.out);obtain⟨d0,d1,d2⟩:=Ac3 B02.out;have fz:=B02.out.frozen;have HB2:=Lh hB2;clear hB2)))
   have C0:=B02.out.set 0 (.slice a2 (l.length+1) c2);have C1:=B12.out.other ⟨w.heap.size,0,none⟩ (by have:=Hn.out;simp only;omega) (.slice a2 (l.length+1) c2);have hat:=HB2.out.atB.set (g:=w.heap.size) (j:=0) (by have:=Hn.out;omega) (.slice a2 (l.length+1) c2);have hbel:=Az6 (bt Hb.out HB2.out.bel) (g:=w.heap.size) (j:=0) (Nat.le_refl _) (.slice a2 (l.length+1) c2);have hsz:W.heap.size≤(w2.setCell ⟨w.heap.size,0,none⟩ (.slice a2 (l.length+1) c2)).heap.size:=by have:=HB2.out.size;simpa using this
   obtain⟨-,g1,g2⟩:=HB2.out.cap;clear HB2 B02 B12 d0 d1 d2 fz hB1;generalize World.setCell w2 _ _=W2 at C0 C1 hat hbel hsz ⊢;have C0':Blk W2 w.heap.size [.slice a2 (l.length+1) c2,.int .i64 skip,.int .i64 bad]:=C0;clear C0;obtain⟨b,off,rfl,hbl,k0,k1⟩:=Br2 hat.at (by simp;omega);have Ht:=Lh (Bx8 (l++[x]));have Hgat:=Lh hat
   have Hg:=Lh (And.intro g1 g2);have Hbel:=Lh hbel;have Hsz:=Lh hsz;have C1:=Lh C1;obtain⟨d0,d1,d2⟩:=Ac3 C0';have C0:=Lh C0';clear C0' hat hbel g1 g2 hsz;generalize (l++[x]).getD 0 0=x0 at k0 Ht;generalize (l++[x]).getD 1 0=x1 at k1 Ht;have hi0:0<l.length+1:=by omega
   have hi1:1<l.length+1:=by omega
   go_quiet (fail)
   rw[Ht.out];clear Ht k0 k1;have c0:=Lh (C0.out.drewN nq);have c1:=Lh (C1.out.drewN nq);have hga:=Lh (Hgat.out.mono (btn (Below.refl _ _) nq));have hbl:=Lh (btn Hbel.out nq);have hsz:=Lh (show W.heap.size≤(W2.drewN nq).heap.size from Hsz.out);clear C0 C1 Hgat Hbel Hsz d0 d1 d2;generalize W2.drewN nq=W3 at c0 c1 hga hbl hsz ⊢;obtain⟨d0,d1,d2⟩:=Ac3 c0.out;obtain⟨e0,e1,e2⟩:=Ac3 c1.out;have fz0:=c0.out.frozen;have fz1:=c1.out.frozen;have hnl:=Bf1 (l++[x]);have hone:Y7 ⟨l,skip,bad⟩ x=(if M4 (l++[x])=0∨1024<M4 (l++[x]) then(⟨[],M4 (l++[x]),Br1 bad⟩,[]) else if l.length+1<M4 (l++[x])+2 then(⟨l++[x],skip,bad⟩,[]) else(⟨[],0,bad⟩,(l++[x]).drop 2)):=by
    unfold Y7;rw[if_neg (by simp only;omega),if_neg h1]
   generalize M4 (l++[x])=n at hone hnl ⊢;have hm:wrap64 (bad+1)=Br1 bad:=Bk9 bad;have hn2:wrap64 ((n:Int)+2)=n+2:=by unfold wrap64;omega
   by_cases hz:n=0∨1024<n
   ·rw[if_pos hz] at hone;have HF:=Lh hone;clear hone;rcases hz with hz | hz;all_goals
     first
      | (subst hz;have g0:(((0:Nat):Int)==0)=true:=rfl)
      | (have g0:((n:Int)==0)=false:=by(rw[beq_eq_false_iff_ne];omega)
         have g1:decide ((1024:Int)<n)=true:=by simp;omega)
     go_wp2_with (first
      | (refine G9 38 (.tmp 4) (.tmp 50) (w.heap.size+1) (old:=F0) (cs:=[.slice none 0 0,.int .i64 (((_:Nat)):Int),.int .i64 (Br1 bad)]) rfl rfl rfl rfl ?hb HI.out rfl rfl ?_;(case hb=>exact c1.out)))
     refine bodyPost_ret (Ax9 (f:=⟨none,0,0,((_:Nat):Int),Br1 bad⟩) rfl rfl rfl (c1.out.row _)) rfl ?_;refine⟨_,none,0,by rw[HF.out];rfl,by rw[HF.out];exact Nat.le_refl _,Nat.zero_le _,?_,by rw[HF.out];exact .inl rfl,F5 hbl.out (Nat.le_of_lt Hn.out.1) _,by rw[HF.out];exact .inl rfl,by rw[HF.out];exact .inl rfl⟩;rw[HF.out];exact⟨rfl,Nat.le_refl _,Nat.zero_le _,.inl rfl,rfl,rfl⟩
   ·rw[if_neg hz] at hone;have g0:((n:Int)==0)=false:=by rw[beq_eq_false_iff_ne];omega
    have g1:decide ((1024:Int)<n)=false:=by simp;omega
    by_cases hs:l.length+1<n+2
    ·rw[if_pos hs] at hone;have HF:=Lh hone;have hsd:decide (((l.length:Int)+1)<n+2)=true:=by simp;omega
     clear hone;go_wp2_with (first
      | (refine C4 38 (.tmp 2) w.heap.size (cs:=[.slice (some ⟨b,off,none⟩) (l.length+1) c2,.int .i64 skip,.int .i64 bad]) rfl rfl rfl ?hb Tryz.underlying38 rfl HI.out ?_;(case hb=>exact c0.out))
      | (refine G9 38 (.tmp 4) (.tmp 57) (w.heap.size+1) (old:=F0) (cs:=[.slice (some ⟨b,off,none⟩) (l.length+1) c2,.int .i64 skip,.int .i64 bad]) rfl rfl rfl rfl ?hb HI.out rfl rfl ?_;(case hb=>exact c1.out)))
     refine bodyPost_ret (Ax9 (f:=⟨some ⟨b,off,none⟩,l.length+1,c2,skip,bad⟩) rfl rfl rfl (c1.out.row _)) rfl ?_;refine⟨_,none,0,by rw[HF.out];rfl,by rw[HF.out];exact Nat.le_refl _,Nat.zero_le _,?_,by rw[HF.out];exact .inl rfl,F5 hbl.out (Nat.le_of_lt Hn.out.1) _,by rw[HF.out];exact(hga.out.row (g:=w.heap.size+1) Hn.out.2 _).keep,by rw[HF.out];exact .inl rfl⟩;rw[HF.out];exact⟨by simp,Hg.out.1,Hg.out.2,(hga.out.row (g:=w.heap.size+1) Hn.out.2 _).at,rfl,rfl⟩
    ·rw[if_neg hs] at hone;have HF:=Lh hone;have hsd:decide (((l.length:Int)+1)<n+2)=false:=by simp;omega
     have hsl:∀W,(Instr.sliceAt 22 (.slice (some ⟨b,off,none⟩) (l.length+1) c2) (some (.int .i64 2)) none none).run Tryz.prog W=.ok (.slice (adv (some ⟨b,off,none⟩) c2 2 1) (l.length+1-2) (c2-2)) W:=fun W=>Cn7 Tryz.underlying22 Al5 W (some ⟨b,off,none⟩) (l.length+1) c2 2 (by omega);clear hone;go_wp2_with fail
     go_region
     all_goals
      go_wp2_with fail
      have h5:=(((hga.out.set (g:=w.heap.size+1) (j:=0) Hn.out.2 (.slice none 0 0)).set (g:=w.heap.size+1) (j:=1) Hn.out.2 (.int .i64 0)).set (g:=w.heap.size+1) (j:=2) Hn.out.2 (.int .i64 bad));have h5d:=(h5.mono (bd _)).keep (B:=B);have h7:=AtP.adv (cap:=c2) (l:=2) h5d (by simpa using Hg.out.1);rw[←List.map_drop] at h7;have h6:=h7.at
      have hbb:=Below.drew (Az6 (Az6 (Az6 hbl.out (g:=w.heap.size+1) (j:=0) (Nat.le_of_lt Hn.out.1) (.slice none 0 0)) (g:=w.heap.size+1) (j:=1) (Nat.le_of_lt Hn.out.1) (.int .i64 0)) (g:=w.heap.size+1) (j:=2) (Nat.le_of_lt Hn.out.1) (.int .i64 bad));have hlen:((l++[x]).drop 2).length=l.length-1:=by simp
      refine bodyPost_ret (Ax9 (f:=⟨none,0,0,0,bad⟩) rfl rfl rfl (((c1.out.set 0 _).set 1 _).set 2 _).drew) rfl ?_;refine⟨_,adv (some ⟨b,off,none⟩) c2 2 1,c2-2,by rw[HF.out];simp only[hlen];rfl,by(rw[HF.out];simp only[hlen];have:=Hg.out;omega),by(have:=Hg.out;unfold maxLen at *;omega),?_,by rw[HF.out];exact h6,hbb,by rw[HF.out];exact .inl rfl,by rw[HF.out];exact h7⟩;rw[HF.out];exact⟨rfl,Nat.le_refl _,Nat.zero_le _,.inl rfl,rfl,rfl⟩
  ·have hl2:=Lh (show l=[] by have:=of_decide_eq_true hlt;exact List.eq_nil_of_length_eq_zero (by omega));have HF:=Lh (show Y7 ⟨l,skip,bad⟩ x=(⟨l++[x],skip,bad⟩,[]) by unfold Y7;rw[if_neg h0,if_pos (by have:=of_decide_eq_true hlt;simp only;omega)]);go_enter Tryz.func70,Tryz.ntmps70
   go_wp2_with (first
    | (at_builtin;rw[HW.out];go_must (refine V8 (.tmp 15) (.tmp 17) 22 rfl rfl V4 rfl HM.out (sp:=a) (m:=l.length) (news:=B8s l) rfl (Hat2.out.mono (ba W _)) (by simp) (J9 l) (by have:=Hlen.out;omega) (by decide) l.length (by omega) (B8s l) rfl ?_;intro a1 c1 w1 hB1))
    | (at_builtin;go_must (refine V8 (.tmp 18) (.tmp 20) 22 rfl rfl V4 rfl (hB1.alloc _) (news:=[.int .u8 (bv x)]) rfl (U4 w1 _ _) rfl (J9 [x]) (by have:=Hlen.out;omega) (by decide) (l.length+1) rfl (B8s (l++[x])) (by simp) ?_;intro a2 c2 w2 hB2;have B02:=Lh (hB2.blk B0.out);have B12:=Lh (hB2.blk B1.out);obtain⟨d0,d1,d2⟩:=Ac3 B02.out;have fz:=B02.out.frozen;have HB2:=Lh hB2;clear hB2))
    | (refine C4 38 (.tmp 2) w.heap.size (cs:=[.slice a2 (l.length+1) c2,.int .i64 skip,.int .i64 bad]) rfl rfl rfl ?hb Tryz.underlying38 rfl HI.out ?_;(case hb=>exact(B02.out.set 0 _)))
    | (refine G9 38 (.tmp 4) (.tmp 27) (w.heap.size+1) (old:=F0) (cs:=[.slice a2 (l.length+1) c2,.int .i64 skip,.int .i64 bad]) rfl rfl rfl rfl ?hb HI.out rfl rfl ?_;(case hb=>exact(B12.out.other _ (by have:=Hn.out;simp only;omega) _))))
   have hr:=(B12.out.other ⟨w.heap.size,0,none⟩ (by have:=Hn.out;simp only;omega) (.slice a2 (l.length+1) c2)).row [.slice a2 (l.length+1) c2,.int .i64 skip,.int .i64 bad];have hat:=(HB2.out.atB.set (g:=w.heap.size) (j:=0) (by have:=Hn.out;omega) (.slice a2 (l.length+1) c2)).row (g:=w.heap.size+1) Hn.out.2 [.slice a2 (l.length+1) c2,.int .i64 skip,.int .i64 bad].toArray;have hbel:=F5 (Az6 (bt Hb.out HB2.out.bel) (g:=w.heap.size) (j:=0) (Nat.le_refl _) (.slice a2 (l.length+1) c2)) (g:=w.heap.size+1) (Nat.le_of_lt Hn.out.1) [.slice a2 (l.length+1) c2,.int .i64 skip,.int .i64 bad].toArray;obtain⟨-,g1,g2⟩:=HB2.out.cap;refine bodyPost_ret (Ax9 (f:=⟨a2,l.length+1,c2,skip,bad⟩) rfl rfl rfl hr) rfl ?_;refine⟨_,none,0,by rw[HF.out];rfl,by rw[HF.out];exact Nat.le_refl _,Nat.zero_le _,?_,by rw[HF.out];exact .inl rfl,hbel,by rw[HF.out];exact hat.keep,by rw[HF.out];exact .inl rfl⟩;rw[HF.out];exact⟨by simp,g1,g2,hat.at,rfl,rfl⟩
def Ey3(B:Nat)(w:World)(T:Fd×List (List UInt8))(e:Ending)(w':World):Prop:=
 ∃(f:Fv) (a:Option Addr) (c:Nat) (vs:List Value),e=.returned (.tuple #[f.v,.slice a T.2.length c])∧Ae2 w' f T.1∧Ae3 B w' f.a (B8s T.1.buf)∧Own w.heap.size w' (.slice a T.2.length c) T.2.length vs∧Ap7 B w' vs T.2∧Below w.heap.size w w'
theorem Own.weak{B B':Nat}{w:World}{v:Value}{n:Nat}{xs:List Value}(h:Own B w v n xs)(hb:B'≤B):Own B' w v n xs:=by
 obtain⟨⟨h1,h2⟩,h3⟩:=h;refine⟨⟨h1,?_⟩,Nat.le_trans hb h3⟩;rcases h2 with h2 | ⟨g,cap,cur,hv,hg,r⟩
 ·exact .inl h2
 ·exact .inr ⟨g,cap,cur,hv,Nat.le_trans hb hg,r⟩
theorem Own.cap{B:Nat}{w:World}{a:Option Addr}{n m cap:Nat}{xs:List Value}(h:Own B w (.slice a m cap) n xs):m=n∧n≤cap∧cap≤maxLen:=by
 obtain⟨_,_,h,h1,h2⟩:=S6 h.own;cases h;exact⟨rfl,h1,h2⟩
theorem Dg3{T:TypeId}{w:World}{B b:Nat}{a0 a1 a2 v0 v1 v2:Value}(h:A6 T w b [a0,a1,a2])(hT:T≠5)(hB:B≤b):Y8 B w (((w.setCell ⟨b,0,none⟩ v0).setCell ⟨b,1,none⟩ v1).setCell ⟨b,2,none⟩ v2):=
 ((Y8.set h hT hB v0).trans (Y8.set (h.set 0 v0) hT hB v1)).trans (Y8.set ((h.set 0 v0).set 1 v1) hT hB v2)
theorem Ae2.keep{B:Nat}{w w':World}{f:Fv}{s:Fd}(h:Ae2 w f s)(k:Ae3 B w' f.a (B8s s.buf)):Ae2 w' f s:=⟨h.len,h.le,h.cap,k.at,h.skip,h.bad⟩
def Fk5(B:Nat)(w0 wx:World)(s:Fd)(x:UInt8)(v8 v9:Value):Prop:=
 ∃(b8:Nat) (X:Fv) (a:Option Addr) (c:Nat),v8=.pointer (some ⟨b8,0,none⟩)∧v9=.slice a (Y7 s x).2.length c∧(Y7 s x).2.length≤c∧c≤maxLen∧Blk wx b8 X.L∧Ae2 wx X (Y7 s x).1∧Ae3 B wx X.a (B8s (Y7 s x).1.buf)∧Ae3 B wx a (B8s (Y7 s x).2)∧Below w0.heap.size w0 wx
theorem Ey4(s:Fd)(a:List UInt8)(c:UInt8):(Y0 s (a++[c])).1=(Y7 (Y0 s a).1 c).1∧(Y0 s (a++[c])).2=(Y0 s a).2++got (Y7 (Y0 s a).1 c).2:=by
 rw[Cj8];exact⟨rfl,rfl⟩
theorem Ey5(s:Fd)(a:List UInt8):(Y0 s a).2.length≤a.length:=by
 induction a generalizing s with
 | nil=>simp[Y0]
 | cons c t ih=>
   have:=ih (Y7 s c).1;have h2:(got (Y7 s c).2).length≤1:=by unfold got;split<;>simp
   simp only[Y0,List.length_append,List.length_cons];omega
theorem Br3{s:Fd}(h:X5 s=true):s.skip≤65535∧s.buf.length≤1026:=by
 obtain⟨h1,h2,h3,h4⟩:=(Bf8 s).1 h;refine⟨h2,?_⟩;by_cases h5:2≤s.buf.length
 ·have:=h4 h5;omega
 ·omega
theorem Dg4(W:World)(g:Nat)(ds:Array Value)(xs:List Value)(T:TypeId):At ((W.setRow g ds).alloc (.cells xs.toArray T)) (some ⟨W.heap.size,0,none⟩) xs:=by
 have:=U4 (W.setRow g ds) xs T
 simpa using this
theorem A6.drew{T:TypeId}{w:World}{b:Nat}{cs:List Value}(h:A6 T w b cs):A6 T w.drew b cs:=h
theorem Cx2(f:Fv)(s:Fd)(a:Option Addr)(cap:Nat)(l:List UInt8)(w:World)(B:Nat)(hB:B≤w.heap.size)(hkeep:Ae3 B w f.a (B8s s.buf))(h:Ae2 w f s)(hr:X5 s=true)(hl:A4 w a l)(hlen:l.length≤1000000000):
 Calls Tryz.prog 24 #[f.v,.slice a l.length cap] w (Ey3 B w (Y0 s l)):=by
 have HI:=Lh Bi3;have Hl:=Lh hl;have Hr:=Lh hr;have Hf:=Lh h;have HK:=Lh hkeep;clear h hr hl hkeep;go_enter Tryz.func24,Tryz.ntmps24
 go_wp2_with fail
 generalize hW:World.alloc _ _=W;have h0:A6 38 W w.heap.size f.L:=by
  rw[←hW];exact(A6.new w f.L 38).up (ba _ _)
 have h1:A6 38 W (w.heap.size+1) F0:=by
  rw[←hW,←I9 w (.cells f.L.toArray 38)];exact A6.new _ F0 38
 have hb:Below w.heap.size w W:=by rw[←hW];exact bta (ba w _) _
 have hsz:W.heap.size=w.heap.size+2:=by rw[←hW,I9,I9]
 clear hW
 go_loopw [6,7] (fun v6 v7 wx=>∃(k:Nat) (F:Fv) (oa:Option Addr) (oc:Nat) (vs:List Value),k≤l.length∧v7=.int .i64 (k:Int)∧v6=.slice oa (Y0 s (l.take k)).2.length oc∧
  Own (w.heap.size+2) wx v6 (Y0 s (l.take k)).2.length vs∧Ap7 B wx vs (Y0 s (l.take k)).2∧A6 38 wx w.heap.size F.L∧A6 38 wx (w.heap.size+1) F0∧
  Ae2 wx F (Y0 s (l.take k)).1∧Ae3 B wx F.a (B8s (Y0 s (l.take k)).1.buf)∧Below w.heap.size w wx) (fun _ v7 _=>l.length-(intOf v7).toNat)
 case atStart=>
  exact⟨0,f,none,0,[],Nat.zero_le _,rfl,rfl,Own.nil (by omega),Ap7.nil _ _,h0,h1,Hf.out.mono hb,HK.out.safe (Y8.below hb),hb⟩
 case round=>
  clear h0 h1 hb hsz;obtain⟨k,F,oa,oc,vs,hk,rfl,rfl,hO,hR,h0,h1,hF,hFk,hb⟩:=hrel;by_cases hlt:k<l.length
  ·obtain⟨g,o,rfl,hgl,kc⟩:=Ad9 (Hl.out.mono hb) (by omega);have ck:=kc k hlt;clear kc;have HT:=Lh (Ac9 l k hlt 0);have HN:=Lh (Ey4 s (l.take k) (l.getD k 0));rw[←HT.out] at HN;have Hrt:=Lh (Ec0 Hr.out (l.take k));have Hle:=Lh (Ey5 s (l.take k));clear HT;generalize l.getD k 0=x at ck HN;generalize Y0 s (l.take k)=TR at hO hR hF hFk HN Hrt Hle ⊢;obtain⟨T,rows⟩:=TR;simp only at hO hR hF hFk;have Hsz:=Lh hb.size;have HD:=Lh (show ∀W',Below wr.heap.size wr W'→Calls Tryz.prog 70 #[F.v,.int .u8 (bv x)] W' (Ec4 B W' T x) from fun W' h=>Ey2 B F T x W' (hF.mono h) (hFk.safe (Y8.below h)) (by have:=(Br3 Hrt.out).1;simp only at this;omega) (by have:=(Br3 Hrt.out).2;simp only at this;omega));have H0:=Lh h0;have H1:=Lh h1;have HO:=Lh hO;have HR:=Lh hR;have Hb:=Lh hb;clear h0 h1 hO hR hF hFk hb;go_wp2_with fail
   go_cut [8,9] (fun v8 v9 wx=>Fk5 B wr wx T x v8 v9)
   case first=>
    have KS:=Lh (show ∀w',Below wr.heap.size wr w'→(Below wr.heap.size wr w'∧w'.cell? ⟨w.heap.size,0,none⟩=some (.slice F.a F.len F.cap)∧w'.cell? ⟨w.heap.size,1,none⟩=some (.int .i64 F.skip)∧w'.cell? ⟨w.heap.size,2,none⟩=some (.int .i64 F.bad)∧w'.cell? ⟨g,o+k,none⟩=some (.int .u8 (bv x))) from fun w' hb=>by
     obtain⟨c0,c1,c2⟩:=Ac3 (H0.out.up hb).blk;exact⟨hb,c0,c1,c2,by rw[hb.cell (p:=⟨g,o+k,none⟩) hgl];exact ck⟩)
    obtain⟨hS0,c0,c1,c2,c3⟩:=KS.out wr (Below.refl _ _);clear ck
    go_region_held3 (fun w'=>Below wr.heap.size wr w'∧w'.cell? ⟨w.heap.size,0,none⟩=some (.slice F.a F.len F.cap)∧w'.cell? ⟨w.heap.size,1,none⟩=some (.int .i64 F.skip)∧w'.cell? ⟨w.heap.size,2,none⟩=some (.int .i64 F.bad)∧w'.cell? ⟨g,o+k,none⟩=some (.int .u8 (bv x)))
     (first
       | (apply KS.out;(with_reducible ((try apply bta);(try (apply Ar7;rotate_left;first | apply Nat.le_refl));(try apply bta);(try apply bt3 hb5);(try apply bta);(first | apply Below.refl | (apply btd;(try apply bta);apply Below.refl)))))
       | fail)
     ((go_at_call 70;go_split_ands;((with_reducible refine Calls.mono (HD.out _ (by assumption)) ?_);rintro e w5 ⟨X,xa,xc,rfl,hx1,hx2,hX,-,hb5,hXk,hxk⟩;(try ((with_reducible have z1:=A6.up (A6.new _ F0 _) hb5);have fz1:=z1.blk.frozen;have lz1:=z1.blk.lt;obtain⟨x0,x1,x2⟩:=Ac3 z1.blk));(try ((with_reducible have z1:=A6.up (A6.new _ F0 _).drew hb5);have fz1:=z1.blk.frozen;have lz1:=z1.blk.lt;obtain⟨x0,x1,x2⟩:=Ac3 z1.blk)))))
    all_goals
     go_split_ands
     go_wp2_with fail
     go_meet
    ·exact⟨w5.heap.size,X,xa,xc,rfl,rfl,hx1,hx2,Blk.new w5 X.L _,hX.mono (ba w5 _),hXk.safe (Y8.below (ba w5 _)),hxk.safe (Y8.below (ba w5 _)),by assumption⟩
    ·have zz:A6 38 w5 wr.heap.size F0:=z1;have sf:Y8 B w5 _:=Dg3 (v0:=.slice X.a X.len X.cap) (v1:=.int .i64 X.skip) (v2:=.int .i64 X.bad) zz (by decide) (Nat.le_trans hB Hsz.out);exact⟨wr.heap.size,X,xa,xc,rfl,rfl,hx1,hx2,(Bt0 zz).blk,hX.keep (hXk.safe sf),hXk.safe sf,hxk.safe sf,by assumption⟩
   case rest=>
    obtain⟨b8,X,xa,xc,rfl,rfl,hx1,hx2,h8,hX,hXk,hxk,hbc⟩:=hcut;have H8:=Lh h8;have H0:=Lh (H0.out.up hbc);have H1:=Lh (H1.out.up hbc);have HO:=Lh (HO.out.up hbc);have HR:=Lh (HR.out.safe (Y8.below hbc));have Hb:=Lh (bt Hb.out hbc);have hsf:=Y8.row (B:=B) H0.out (by decide) hB X.L.toArray;have HX:=Lh (hX.keep (hXk.safe hsf));have HXk:=Lh (hXk.safe hsf);have Hxk:=Lh (hxk.safe hsf);have HR:=Lh (HR.out.safe hsf);have HO:=Lh (HO.out.row (g:=w.heap.size) (by omega) X.L.toArray);have H02:=Lh (H0.out.row X.L);have H1:=Lh (H1.out.rowOther w.heap.size (by omega) X.L.toArray);have Hb:=Lh (F5 Hb.out (Nat.le_refl _) X.L.toArray);have Hx:=Lh (And.intro hx1 hx2);clear h8 hX hXk hxk hbc hsf hx1 hx2 HD ck;by_cases hem:(Y7 T x).2=[]
    ·have Hem:=Lh hem;rw[hem];clear hem;go_wp2_with (first
      | (refine C4 38 (.tmp 8) b8 (cs:=X.L) rfl rfl rfl ?hb Tryz.underlying38 rfl HI.out ?_;(case hb=>exact H8.out))
      | (refine G9 38 (.tmp 2) (.tmp 25) w.heap.size (old:=F.L) (cs:=X.L) rfl rfl rfl rfl ?hb HI.out rfl rfl ?_;(case hb=>exact H0.out.blk)))
     have e1:=HN.out.1;have e2:(Y0 s (l.take (k+1))).2=rows:=by rw[HN.out.2,Hem.out];simp[got]
     exact⟨⟨k+1,X,oa,oc,vs,by omega,by go_num,by rw[e2],by rw[e2];exact HO.out,by rw[e2];exact HR.out,H02.out,H1.out,by rw[e1];exact HX.out,by rw[e1];exact HXk.out,Hb.out⟩,by simp[intOf];omega⟩
    ·have hd:0<(Y7 T x).2.length:=List.length_pos_iff.2 hem;have Hem:=Lh hem;clear hem;have hlr:rows.length≤k:=by have:=Hle.out;simp only[List.length_take] at this;omega
     go_wp2_with (first
      | (refine C4 38 (.tmp 8) b8 (cs:=X.L) rfl rfl rfl ?hb Tryz.underlying38 rfl HI.out ?_;(case hb=>exact H8.out))
      | (refine G9 38 (.tmp 2) (.tmp 25) w.heap.size (old:=F.L) (cs:=X.L) rfl rfl rfl rfl ?hb HI.out rfl rfl ?_;(case hb=>exact H0.out.blk))
      | (at_builtin;go_must (refine Dg1 (.tmp 29) (.tmp 31) rfl rfl rfl (HO.out.up (ba _ _)) (news:=[.slice xa (Y7 T x).2.length xc]) rfl (Dg4 _ _ _ _ _) rfl (by intro u hu;rw[List.mem_singleton] at hu;subst hu;rfl) (by omega) (rows.length+1) rfl ?_;intro a2 c2 w2 hO2 hg2)))
     have e1:=HN.out.1;have e2:(Y0 s (l.take (k+1))).2=rows++[(Y7 T x).2]:=by rw[HN.out.2];simp[got,Hem.out]
     have hO3:=HO.out.up (ba _ (.cells #[.slice xa (Y7 T x).2.length xc] 22));have hsf2:=(Y8.below (B:=B) (ba (wc.setRow w.heap.size X.L.toArray) (.cells #[.slice xa (Y7 T x).2.length xc] 22))).trans (Y8.grown hO3.own hg2 (by decide) (by omega));have hb2:=T7 (bt Hb.out (ba _ _)) hO3.own hg2 (by have:=hO3.le;omega) (by omega);exact⟨⟨k+1,X,a2,c2,vs++[.slice xa (Y7 T x).2.length xc],by omega,by go_num,by rw[e2];simp,by rw[e2];simpa using hO2,by rw[e2];exact(HR.out.safe hsf2).snoc Hx.out.1 Hx.out.2 (Hxk.out.safe hsf2),(H02.out.up (ba _ _)).grown hO3 hg2 (by omega),(H1.out.up (ba _ _)).grown hO3 hg2 (by omega),by rw[e1];exact HX.out.keep (HXk.out.safe hsf2),by rw[e1];exact HXk.out.safe hsf2,hb2⟩,by simp[intOf];omega⟩
  ·obtain rfl:k=l.length:=by omega
   rw[List.take_length] at hO hR hF hFk ⊢;have H0:=Lh h0;have H1:=Lh h1;have HO:=Lh hO;have HR:=Lh hR;have HF:=Lh hF;have HFk:=Lh hFk;have Hb:=Lh hb;clear h0 h1 hO hR hF hFk hb;go_wp2_with (first
    | (refine C4 38 (.tmp 2) w.heap.size (cs:=F.L) rfl rfl rfl ?hb Tryz.underlying38 rfl HI.out ?_;(case hb=>exact H0.out.blk))
    | (refine G9 38 (.tmp 4) (.tmp 33) (w.heap.size+1) (old:=F0) (cs:=F.L) rfl rfl rfl rfl ?hb HI.out rfl rfl ?_;(case hb=>exact H1.out.blk)))
   have hsf:=Y8.row (B:=B) H1.out (by decide) (by omega) F.L.toArray;have hO2:=HO.out.row (g:=w.heap.size+1) (by omega) F.L.toArray;refine bodyPost_ret (Ax9 (f:=F) rfl rfl rfl (H1.out.blk.row _)) rfl ?_;exact⟨F,oa,oc,vs,rfl,HF.out.keep (HFk.out.safe hsf),HFk.out.safe hsf,hO2.weak (by omega),HR.out.safe hsf,F5 Hb.out (by omega) _⟩
structure Hv where
 u:Nat→Bool
 f:Nat→Fv
 l:Nat→Int
 nx:Int
abbrev Hv.L(h:Hv):List Value:=[.bool (h.u 0),.bool (h.u 1),.bool (h.u 2),.bool (h.u 3),
 .slice (h.f 0).a (h.f 0).len (h.f 0).cap,.int .i64 (h.f 0).skip,.int .i64 (h.f 0).bad,.slice (h.f 1).a (h.f 1).len (h.f 1).cap,.int .i64 (h.f 1).skip,.int .i64 (h.f 1).bad,
 .slice (h.f 2).a (h.f 2).len (h.f 2).cap,.int .i64 (h.f 2).skip,.int .i64 (h.f 2).bad,.slice (h.f 3).a (h.f 3).len (h.f 3).cap,.int .i64 (h.f 3).skip,.int .i64 (h.f 3).bad,
 .int .i64 (h.l 0),.int .i64 (h.l 1),.int .i64 (h.l 2),.int .i64 (h.l 3),.int .i64 h.nx]
abbrev Hv.v(h:Hv):Value:=.agg #[.bool (h.u 0),.bool (h.u 1),.bool (h.u 2),.bool (h.u 3),
 .slice (h.f 0).a (h.f 0).len (h.f 0).cap,.int .i64 (h.f 0).skip,.int .i64 (h.f 0).bad,.slice (h.f 1).a (h.f 1).len (h.f 1).cap,.int .i64 (h.f 1).skip,.int .i64 (h.f 1).bad,
 .slice (h.f 2).a (h.f 2).len (h.f 2).cap,.int .i64 (h.f 2).skip,.int .i64 (h.f 2).bad,.slice (h.f 3).a (h.f 3).len (h.f 3).cap,.int .i64 (h.f 3).skip,.int .i64 (h.f 3).bad,
 .int .i64 (h.l 0),.int .i64 (h.l 1),.int .i64 (h.l 2),.int .i64 (h.l 3),.int .i64 h.nx]
def upd{α:Type}(f:Nat→α)(c:Nat)(v:α):Nat→α:=fun i=>if i=c then v else f i
abbrev Ap8:Fv:=⟨none,0,0,0,0⟩
def Hv.turn(h:Hv)(c:Nat)(up:Bool):Hv:=⟨upd h.u c up,upd h.f c Ap8,h.l,h.nx⟩
def Hv.live(h:Hv)(c:Nat):Hv:=⟨h.u,h.f,upd h.l c (Br1 (h.l c)),h.nx⟩
theorem Ac5:(Tryz.prog.info? 42).map (·.size)=some 21:=by kernel_rfl
theorem Ag9{w:World}{b:Nat}{h:Hv}(hb:Blk w b h.L):w.cell? ⟨b,0,none⟩=some (.bool (h.u 0))∧w.cell? ⟨b,1,none⟩=some (.bool (h.u 1))∧w.cell? ⟨b,2,none⟩=some (.bool (h.u 2))∧w.cell? ⟨b,3,none⟩=some (.bool (h.u 3)):=
 ⟨hb.cell 0 (by simp),hb.cell 1 (by simp),hb.cell 2 (by simp),hb.cell 3 (by simp)⟩
theorem Bc1{w:World}{b:Nat}{h:Hv}(hb:Blk w b h.L):w.cell? ⟨b,4,none⟩=some (.slice (h.f 0).a (h.f 0).len (h.f 0).cap)∧w.cell? ⟨b,5,none⟩=some (.int .i64 (h.f 0).skip)∧w.cell? ⟨b,6,none⟩=some (.int .i64 (h.f 0).bad)∧w.cell? ⟨b,7,none⟩=some (.slice (h.f 1).a (h.f 1).len (h.f 1).cap)∧w.cell? ⟨b,8,none⟩=some (.int .i64 (h.f 1).skip)∧w.cell? ⟨b,9,none⟩=some (.int .i64 (h.f 1).bad)∧w.cell? ⟨b,10,none⟩=some (.slice (h.f 2).a (h.f 2).len (h.f 2).cap)∧w.cell? ⟨b,11,none⟩=some (.int .i64 (h.f 2).skip)∧w.cell? ⟨b,12,none⟩=some (.int .i64 (h.f 2).bad)∧w.cell? ⟨b,13,none⟩=some (.slice (h.f 3).a (h.f 3).len (h.f 3).cap)∧w.cell? ⟨b,14,none⟩=some (.int .i64 (h.f 3).skip)∧w.cell? ⟨b,15,none⟩=some (.int .i64 (h.f 3).bad):=
 ⟨hb.cell 4 (by simp),hb.cell 5 (by simp),hb.cell 6 (by simp),hb.cell 7 (by simp),hb.cell 8 (by simp),hb.cell 9 (by simp),hb.cell 10 (by simp),hb.cell 11 (by simp),hb.cell 12 (by simp),hb.cell 13 (by simp),hb.cell 14 (by simp),hb.cell 15 (by simp)⟩
theorem Ap9{w:World}{b:Nat}{h:Hv}(hb:Blk w b h.L):w.cell? ⟨b,16,none⟩=some (.int .i64 (h.l 0))∧w.cell? ⟨b,17,none⟩=some (.int .i64 (h.l 1))∧w.cell? ⟨b,18,none⟩=some (.int .i64 (h.l 2))∧w.cell? ⟨b,19,none⟩=some (.int .i64 (h.l 3))∧w.cell? ⟨b,20,none⟩=some (.int .i64 h.nx):=
 ⟨hb.cell 16 (by simp),hb.cell 17 (by simp),hb.cell 18 (by simp),hb.cell 19 (by simp),hb.cell 20 (by simp)⟩
def isC(c:Int):Bool:=decide (0≤c)&&decide (c<4)
theorem Ec5(c:Int)(w:World):Calls Tryz.prog 162 #[.int .i64 c] w fun e w'=>e=.returned (.bool (isC c))∧w=w':=by
 obtain⟨V,hV⟩:∃V,V=isC c:=⟨_,rfl⟩;rw[←hV];have HV:=Lh hV;clear hV;by_cases h1:0≤c<;>by_cases h2:c<4;all_goals
  go_enter Tryz.func162,Tryz.ntmps162
  go_wp2_with fail
  go_ret;exact⟨by rw[HV.out];unfold isC;simp[h1,h2]<;>omega,rfl⟩
def Ff3(w:World)(p:Hv×Int)(e:Ending)(w':World):Prop:=e=.returned (.tuple #[p.1.v,.int .i64 p.2])∧Below w.heap.size w w'
def Bf2(h:Hv)(c:Int)(up:Bool):Hv×Int:=bif isC c then(bif (h.u c.toNat==up) then(h,9) else(h.turn c.toNat up,0)) else(h,1)
theorem Bn3{c:Int}(h:isC c=true):c=0∨c=1∨c=2∨c=3:=by unfold isC at h;simp at h;omega
theorem Bb5(w:World)(L M:List Value):A6 42 ((w.alloc (.cells L.toArray 42)).alloc (.cells M.toArray 42)) w.heap.size L∧A6 42 ((w.alloc (.cells L.toArray 42)).alloc (.cells M.toArray 42)) (w.heap.size+1) M∧Below w.heap.size w ((w.alloc (.cells L.toArray 42)).alloc (.cells M.toArray 42)):=by
 have k1:=A6.new (w.alloc (.cells L.toArray 42)) M 42;rw[show(w.alloc (.cells L.toArray 42)).heap.size=w.heap.size+1 by simp] at k1;exact⟨(A6.new w L _).up (ba _ _),k1,bt (ba w _) (ba _ _)⟩
def S8:Hv:=⟨fun _=>false,fun _=>Ap8,fun _=>0,0⟩
def Bf9(h:Hv)(c:Int):Hv×Int:=bif (Bf2 h c true).2==0 then((Bf2 h c true).1.live c.toNat,0) else Bf2 h c true
def Cf3(h:Hv):Bool:=h.u 0 || (h.u 1 || (h.u 2 || h.u 3))
theorem Cr5(h:Hv)(c:Int)(w:World):Calls Tryz.prog 119 #[h.v,.int .i64 c] w (Ff3 w (Bf9 h c)):=by
 obtain⟨V,hV⟩:∃V,V=Bf9 h c:=⟨_,rfl⟩;rw[←hV];have HV:=Lh hV;clear hV;have HI:=Lh Ac5;rcases hc:isC c with _ | _
 ·have HV2:=Lh (show V=(h,1) by rw[HV.out];unfold Bf9 Bf2;rw[hc];rfl);have hc2:c<0∨(¬c<0∧3<c):=by unfold isC at hc;simp at hc;omega
  clear HV hc;rcases hc2 with h1 | ⟨h1,h2⟩;all_goals
   go_enter Tryz.func119,Tryz.ntmps119
   go_upto_region 1 with(fail)
   generalize hW:World.alloc (World.alloc w _) _=W;obtain⟨hB1,hB2,hB3⟩:A6 42 W w.heap.size h.L∧A6 42 W (w.heap.size+1) S8.L∧Below w.heap.size w W:=by rw[←hW];exact Bb5 w h.L S8.L
   clear hW;have B1:=Lh hB1;have B2:=Lh hB2;have B3:=Lh hB3;have B4:=Lh (show w.heap.size≤w.heap.size+1 by omega);have B5:=Lh (show w.heap.size+1≠w.heap.size by omega);clear hB1 hB2 hB3;generalize w.heap.size+1=b2 at B2 B4 B5 ⊢;go_wp2_with (first
    | (refine C4 42 (.tmp 2) w.heap.size (cs:=h.L) rfl rfl rfl B1.out.blk Tryz.underlying42 rfl HI.out ?_)
    | (refine G9 42 (.tmp 4) (.tmp 12) b2 (old:=S8.L) (cs:=h.L) rfl rfl rfl rfl B2.out.blk HI.out rfl rfl ?_))
   refine bodyPost_ret (F2 rfl _ _ b2 (cs:=h.L) rfl _ rfl ((B2.out.row h.L).blk) Tryz.underlying42 rfl Ac5) rfl ?_;exact⟨by rw[HV2.out];rfl,F5 B3.out B4.out _⟩
 ·have hc4:=Bn3 hc;rcases hq:(h.u c.toNat==true) with _ | _
  ·have HV2:=Lh (show V=((h.turn c.toNat true).live c.toNat,0) by rw[HV.out];unfold Bf9 Bf2;rw[hc,hq];rfl);have hq2:h.u c.toNat=false:=by revert hq;cases h.u c.toNat<;>decide
   clear HV hc hq;rcases hc4 with rfl | rfl | rfl | rfl;all_goals
    first | (have hq3:h.u 0=_:=hq2) | (have hq3:h.u 1=_:=hq2) | (have hq3:h.u 2=_:=hq2) | (have hq3:h.u 3=_:=hq2)
    have Hq3:=Lh hq3;clear hq2 hq3;go_enter Tryz.func119,Tryz.ntmps119
    go_upto_region 1 with(fail)
    generalize hW:World.alloc (World.alloc w _) _=W;obtain⟨hB1,hB2,hB3⟩:A6 42 W w.heap.size h.L∧A6 42 W (w.heap.size+1) S8.L∧Below w.heap.size w W:=by rw[←hW];exact Bb5 w h.L S8.L
    clear hW;have B1:=Lh hB1;have B2:=Lh hB2;have B3:=Lh hB3;have B4:=Lh (show w.heap.size≤w.heap.size+1 by omega);have B5:=Lh (show w.heap.size+1≠w.heap.size by omega);clear hB1 hB2 hB3;generalize w.heap.size+1=b2 at B2 B4 B5 ⊢;obtain⟨u0,u1,u2,u3⟩:=Ag9 B1.out.blk;first | rw[Hq3.out] at u0 | rw[Hq3.out] at u1 | rw[Hq3.out] at u2 | rw[Hq3.out] at u3
    obtain⟨f0,f1,f2,f3,f4,f5,f6,f7,f8,f9,f10,f11⟩:=Bc1 B1.out.blk;obtain⟨l0,l1,l2,l3,-⟩:=Ap9 B1.out.blk;have m0:=Bk9 (h.l 0);have m1:=Bk9 (h.l 1);have m2:=Bk9 (h.l 2);have m3:=Bk9 (h.l 3);have fz:=B1.out.blk.frozen;go_upto_region 8 with(fail)
    generalize hW:World.setCell (World.setCell (World.setCell (World.setCell (World.setCell W _ _) _ _) _ _) _ _) _ _=W';obtain⟨hB1,hB2,hB3⟩:A6 42 W' w.heap.size V.1.L∧A6 42 W' b2 S8.L∧Below w.heap.size w W':=by
     rw[HV2.out,←hW];exact⟨(((((B1.out).set _ _).set _ _).set _ _).set _ _).set _ _,(((((B2.out).other B5.out _).other B5.out _).other B5.out _).other B5.out _).other B5.out _,(((((B3.out).setCell (Nat.le_refl _) _).setCell (Nat.le_refl _) _).setCell (Nat.le_refl _) _).setCell (Nat.le_refl _) _).setCell (Nat.le_refl _) _⟩
    have C1:=Lh hB1;have C2:=Lh hB2;have C3:=Lh hB3;clear hB1 hB2 hB3 hW u0 u1 u2 u3 f0 f1 f2 f3 f4 f5 f6 f7 f8 f9 f10 f11 l0 l1 l2 l3 m0 m1 m2 m3 fz;go_wp2_with (first
     | (refine C4 42 (.tmp 2) w.heap.size (cs:=V.1.L) rfl rfl rfl C1.out.blk Tryz.underlying42 rfl HI.out ?_)
     | (refine G9 42 (.tmp 4) (.tmp 33) b2 (old:=S8.L) (cs:=V.1.L) rfl rfl rfl rfl C2.out.blk HI.out rfl rfl ?_))
    refine bodyPost_ret (F2 rfl _ _ b2 (cs:=V.1.L) rfl _ rfl ((C2.out.row V.1.L).blk) Tryz.underlying42 rfl Ac5) rfl ?_;exact⟨by rw[show V.2=0 by rw[HV2.out]];rfl,F5 C3.out B4.out _⟩
  ·have HV2:=Lh (show V=(h,9) by rw[HV.out];unfold Bf9 Bf2;rw[hc,hq];rfl);have hq2:h.u c.toNat=true:=by revert hq;cases h.u c.toNat<;>decide
   clear HV hc hq;rcases hc4 with rfl | rfl | rfl | rfl;all_goals
    first | (have hq3:h.u 0=_:=hq2) | (have hq3:h.u 1=_:=hq2) | (have hq3:h.u 2=_:=hq2) | (have hq3:h.u 3=_:=hq2)
    have Hq3:=Lh hq3;clear hq2 hq3;go_enter Tryz.func119,Tryz.ntmps119
    go_upto_region 1 with(fail)
    generalize hW:World.alloc (World.alloc w _) _=W;obtain⟨hB1,hB2,hB3⟩:A6 42 W w.heap.size h.L∧A6 42 W (w.heap.size+1) S8.L∧Below w.heap.size w W:=by rw[←hW];exact Bb5 w h.L S8.L
    clear hW;have B1:=Lh hB1;have B2:=Lh hB2;have B3:=Lh hB3;have B4:=Lh (show w.heap.size≤w.heap.size+1 by omega);have B5:=Lh (show w.heap.size+1≠w.heap.size by omega);clear hB1 hB2 hB3;generalize w.heap.size+1=b2 at B2 B4 B5 ⊢;obtain⟨u0,u1,u2,u3⟩:=Ag9 B1.out.blk;first | rw[Hq3.out] at u0 | rw[Hq3.out] at u1 | rw[Hq3.out] at u2 | rw[Hq3.out] at u3
    go_wp2_with (first
     | (refine C4 42 (.tmp 2) w.heap.size (cs:=h.L) rfl rfl rfl B1.out.blk Tryz.underlying42 rfl HI.out ?_)
     | (refine G9 42 (.tmp 4) (.tmp 17) b2 (old:=S8.L) (cs:=h.L) rfl rfl rfl rfl B2.out.blk HI.out rfl rfl ?_))
    refine bodyPost_ret (F2 rfl _ _ b2 (cs:=h.L) rfl _ rfl ((B2.out.row h.L).blk) Tryz.underlying42 rfl Ac5) rfl ?_;exact⟨by rw[HV2.out];rfl,F5 B3.out B4.out _⟩
def Aq0(w:World)(h:Hv)(s:Nat→Fd):Prop:=∀i,i<4→Ae2 w (h.f i) (s i)
theorem Aq0.mono{w w':World}{h:Hv}{s:Nat→Fd}(hh:Aq0 w h s)(hb:Below w.heap.size w w'):Aq0 w' h s:=fun i hi=>(hh i hi).mono hb
def c4(p:Nat→Bool):Bool:=p 0&&(p 1&&(p 2&&p 3))
def R7(s t:Fd):Bool:=(s.buf==t.buf)&&((s.skip==t.skip)&&(s.bad==t.bad))
abbrev J8:Fd:=⟨[],0,0⟩
theorem An0(w:World):Ae2 w Ap8 J8:=⟨rfl,Nat.le_refl _,by decide,.inl rfl,rfl,rfl⟩
def okC(h:Hv)(s:Nat→Fd)(i:Nat):Bool:=X5 (s i)&&(h.u i || R7 (s i) J8)
def U1(h:Hv)(s:Nat→Fd):Bool:=c4 (okC h s)&&isC h.nx
def Bn4(h:Hv):Bool:=c4 fun i=>decide ((h.f i).len≤1200)
theorem Ey6(a b c d:Value)(w:World):(part 4 #[a,b,c,d] (0*1)).run Tryz.prog w=.ok a w:=by kernel_rfl
theorem Cf4(a b c d:Value)(w:World):(part 4 #[a,b,c,d] (1*1)).run Tryz.prog w=.ok b w:=by kernel_rfl
theorem Cf5(a b c d:Value)(w:World):(part 4 #[a,b,c,d] (2*1)).run Tryz.prog w=.ok c w:=by kernel_rfl
theorem Cf6(a b c d:Value)(w:World):(part 4 #[a,b,c,d] (3*1)).run Tryz.prog w=.ok d w:=by kernel_rfl
theorem Ey7(a b c d:Value)(w:World):(part 3 #[a,b,c,d] (0*1)).run Tryz.prog w=.ok a w:=by kernel_rfl
theorem Cf7(a b c d:Value)(w:World):(part 3 #[a,b,c,d] (1*1)).run Tryz.prog w=.ok b w:=by kernel_rfl
theorem Cf8(a b c d:Value)(w:World):(part 3 #[a,b,c,d] (2*1)).run Tryz.prog w=.ok c w:=by kernel_rfl
theorem Cf9(a b c d:Value)(w:World):(part 3 #[a,b,c,d] (3*1)).run Tryz.prog w=.ok d w:=by kernel_rfl
theorem Eo8(a b c d:Value)(w:World):(part 4 #[a,b,c,d] 1).run Tryz.prog w=.ok b w:=Cf4 a b c d w
theorem Eo9(a b c d:Value)(w:World):(part 4 #[a,b,c,d] 2).run Tryz.prog w=.ok c w:=Cf5 a b c d w
theorem Ep0(a b c d:Value)(w:World):(part 4 #[a,b,c,d] 3).run Tryz.prog w=.ok d w:=Cf6 a b c d w
theorem Ep1(a b c d:Value)(w:World):(part 3 #[a,b,c,d] 1).run Tryz.prog w=.ok b w:=Cf7 a b c d w
theorem Ep2(a b c d:Value)(w:World):(part 3 #[a,b,c,d] 2).run Tryz.prog w=.ok c w:=Cf8 a b c d w
theorem Ep3(a b c d:Value)(w:World):(part 3 #[a,b,c,d] 3).run Tryz.prog w=.ok d w:=Cf9 a b c d w
theorem Da4(d:Nat)(a b:Int)(w:World):(Op.equalIn (d+1) 3 (.int .i64 a) (.int .i64 b)).run Tryz.prog w=.ok (decide (a=b)) w:=by
 simp[Op.equalIn,run_underlying Tryz.underlying3];rw[Bool.eq_iff_iff];simp
theorem Cr6(d:Nat)(a b:Bool)(w:World):(Op.equalIn (d+1) 4 (.bool a) (.bool b)).run Tryz.prog w=.ok (a==b) w:=by
 simp[Op.equalIn,run_underlying Tryz.underlying4]
theorem Ep4(a b:Int)(w:World):(Op.equalIn 9999 3 (.int .i64 a) (.int .i64 b)).run Tryz.prog w=.ok (decide (a=b)) w:=Da4 9998 a b w
theorem Ec6(a b:Bool)(w:World):(Op.equalIn 9999 4 (.bool a) (.bool b)).run Tryz.prog w=.ok (a==b) w:=Cr6 9998 a b w
theorem Ep5(a0 a1 a2 a3 b0 b1 b2 b3:Bool)(w:World):(Op.equalIn 10000 36 (.agg #[.bool a0,.bool a1,.bool a2,.bool a3]) (.agg #[.bool b0,.bool b1,.bool b2,.bool b3])).run Tryz.prog w=.ok ((a0==b0)&&((a1==b1)&&((a2==b2)&&(a3==b3)))) w:=by
 obtain⟨i,hi⟩:=Option.isSome_iff_exists.1 (show(Tryz.prog.info? 4).isSome=true by kernel_rfl);have h:=run_equalIn_array w 9999 #[.bool a0,.bool a1,.bool a2,.bool a3] #[.bool b0,.bool b1,.bool b2,.bool b3] Tryz.underlying36 hi;have hc:Tryz.prog.cellsOf 4=1:=by kernel_rfl
 have r4:List.range 4=[0,1,2,3]:=rfl;rw[hc,r4] at h;refine h.trans ?_;have q:=fun a b w=>Cr6 9998 a b w;simp only[Op.eqItems,Sem.run_bind,Ey6,Cf4,Cf5,Cf6,Result.andThen_ok,q];cases a0<;>cases b0<;>cases a1<;>cases b1<;>cases a2<;>cases b2<;>cases a3<;>cases b3<;>simp[Ec6,Eo8,Eo9,Ep0,Cf4,Cf5,Cf6]
theorem Ey8(a0 a1 a2 a3 b0 b1 b2 b3:Int)(w:World):(Op.equalIn 10000 40 (.agg #[.int .i64 a0,.int .i64 a1,.int .i64 a2,.int .i64 a3]) (.agg #[.int .i64 b0,.int .i64 b1,.int .i64 b2,.int .i64 b3])).run Tryz.prog w=.ok (decide (a0=b0)&&(decide (a1=b1)&&(decide (a2=b2)&&decide (a3=b3)))) w:=by
 obtain⟨i,hi⟩:=Option.isSome_iff_exists.1 (show(Tryz.prog.info? 3).isSome=true by kernel_rfl);have h:=run_equalIn_array w 9999 #[.int .i64 a0,.int .i64 a1,.int .i64 a2,.int .i64 a3] #[.int .i64 b0,.int .i64 b1,.int .i64 b2,.int .i64 b3] Tryz.underlying40 hi;have hc:Tryz.prog.cellsOf 3=1:=by kernel_rfl
 have r4:List.range 4=[0,1,2,3]:=rfl;rw[hc,r4] at h;refine h.trans ?_;have q:=fun a b w=>Da4 9998 a b w;simp only[Op.eqItems,Sem.run_bind,Ey7,Cf7,Cf8,Cf9,Result.andThen_ok,q];by_cases h0:a0=b0<;>by_cases h1:a1=b1<;>by_cases h2:a2=b2<;>by_cases h3:a3=b3<;>simp[h0,h1,h2,h3,Ep4,Ep1,Ep2,Ep3,Cf7,Cf8,Cf9]
theorem Dg5(h:Hv)(w:World):Calls Tryz.prog 180 #[h.v] w fun e w'=>e=.returned (.bool (Cf3 h))∧Below w.heap.size w w':=by
 obtain⟨V,hV⟩:∃V,V=Cf3 h:=⟨_,rfl⟩;rw[←hV];have HV:=Lh hV;clear hV;go_enter Tryz.func180,Tryz.ntmps180
 go_wp2_with fail
 all_goals
  go_ret;exact⟨by rw[HV.out];simp[Cf3, *],ba w _⟩
theorem Ep6(h:Hv)(hl:∀i,i<4→(h.f i).len≤maxLen)(w:World):Calls Tryz.prog 89 #[h.v] w fun e w'=>e=.returned (.bool (Bn4 h))∧Below w.heap.size w w':=by
 obtain⟨V,hV⟩:∃V,V=Bn4 h:=⟨_,rfl⟩;rw[←hV];have HV:=Lh hV;have e0:=hl 0 (by decide);have e1:=hl 1 (by decide);have e2:=hl 2 (by decide);have e3:=hl 3 (by decide);unfold maxLen at e0 e1 e2 e3;clear hV hl;go_enter Tryz.func89,Tryz.ntmps89
 go_wp2_with fail
 all_goals
  go_ret;exact⟨by rw[HV.out];first | (simp[Bn4,c4, *];done) | (simp[Bn4,c4, *]<;>omega) | (simp[Bn4,c4, *];rw[Bool.eq_iff_iff];simp;omega),ba w _⟩
end Go.Proofs.YtadpiemjgfndgaaGreatDoor
