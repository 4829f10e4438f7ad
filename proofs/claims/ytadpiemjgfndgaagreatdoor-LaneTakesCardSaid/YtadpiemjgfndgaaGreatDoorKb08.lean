/- Proved here, for use further on: MacT MacU. Conditions: none but those each theorem names. -/
import Derived.Test.YtadpiemjgfndgaaGreatDoorKb00
import Derived.Test.YtadpiemjgfndgaaGreatDoorKb03
import Derived.Test.YtadpiemjgfndgaaGreatDoorKb07
import Derived.Test.YtadpiemjgfndgaaGreatDoorKb02
import Derived.Maps.AppendAt
set_option linter.unusedSimpArgs false
set_option linter.unusedVariables false
set_option maxRecDepth 100000
set_option maxHeartbeats 8000000
namespace Go.Proofs.YtadpiemjgfndgaaGreatDoor
open Go.RowKit
theorem Ci8(s:R8)(x:List UInt8)(j:Nat):∀k,Ab5 (Ab5 s x j) (x.drop (64*j)) k=Ab5 s x (j+k)
 | 0=>rfl
 | k+1=>by
   show Ah5 (Ab5 (Ab5 s x j) (x.drop (64*j)) k) (((x.drop (64*j)).drop (64*k)).take 64)=Ah5 (Ab5 s x (j+k)) ((x.drop (64*(j+k))).take 64);rw[Ci8 s x j k,List.drop_drop,show 64*j+64*k=64*(j+k) by omega]
theorem Co8(s:R8)(l m:List UInt8):∀k,64*k≤l.length→Ab5 s (l++m) k=Ab5 s l k
 | 0,_=>rfl
 | k+1,h=>by
   show Ah5 (Ab5 s (l++m) k) (((l++m).drop (64*k)).take 64)=Ah5 (Ab5 s l k) ((l.drop (64*k)).take 64);rw[Co8 s l m k (by omega),List.drop_append_of_le_length (by omega),List.take_append_of_le_length (by rw[List.length_drop];omega)]
theorem El3(s:R8)(l m:List UInt8):Al4 (Al4 s l) (Aa4 l++m)=Al4 s (l++m):=by
 have hn:nb (l++m)=nb l+nb (Aa4 l++m):=by
  unfold Aa4 nb;rw[List.length_append,List.length_append,List.length_drop];omega
 have hl:64*nb l≤l.length:=by unfold nb;omega
 have h1:Al4 s (l++m)=Ab5 s (l++m) (nb (l++m)):=rfl;rw[h1,hn,←Ci8,Co8 s l m _ hl,List.drop_append_of_le_length hl];rfl
def AtP(p:Nat→Prop)(w:World)(a:Option Addr)(cs:List Value):Prop:=
 cs=[]∨∃b off,a=some ⟨b,off,none⟩∧p b∧b<w.heap.size∧∀i,i<cs.length→w.cell? ⟨b,off+i,none⟩=some (cs.getD i undef)
theorem AtP.at{p:Nat→Prop}{w:World}{a:Option Addr}{cs:List Value}(h:AtP p w a cs):At w a cs:=by
 rcases h with h | ⟨b,off,h1,h2,h3,h4⟩
 ·exact .inl h
 ·exact .inr ⟨b,off,h1,h3,h4⟩
theorem AtP.of{p:Nat→Prop}{w:World}{a:Option Addr}{cs:List Value}(h:At w a cs)(hp:∀b,b<w.heap.size→p b):AtP p w a cs:=by
 rcases h with h | ⟨b,off,h1,h3,h4⟩
 ·exact .inl h
 ·exact .inr ⟨b,off,h1,hp b h3,h3,h4⟩
theorem AtP.to{p q:Nat→Prop}{w w':World}{a:Option Addr}{cs:List Value}(h:AtP p w a cs)(hs:w.heap.size≤w'.heap.size)(hk:∀b,b<w.heap.size→p b→w'.heap[b]?=w.heap[b]?∧q b):AtP q w' a cs:=by
 rcases h with h | ⟨b,off,h1,h2,h3,h4⟩
 ·exact .inl h
 ·refine .inr ⟨b,off,h1,(hk b h3 h2).2,Nat.lt_of_lt_of_le h3 hs,fun i hi=>?_⟩;rw[←h4 i hi];exact World.cell?_of_block (hk b h3 h2).1
theorem AtP.take{p:Nat→Prop}{w:World}{a:Option Addr}{cs:List Value}(h:AtP p w a cs)(k:Nat):AtP p w a (cs.take k):=by
 rcases h with rfl | ⟨b,off,rfl,hp,hlt,hc⟩
 ·exact .inl (by simp)
 ·refine .inr ⟨b,off,rfl,hp,hlt,fun i hi=>?_⟩;have h1:i<k∧i<cs.length:=by simpa [List.length_take,Nat.lt_min] using hi
  rw[hc i h1.2];simp[List.getD,List.getElem?_take,h1.1]
theorem AtP.adv{p:Nat→Prop}{w:World}{a:Option Addr}{cs:List Value}(h:AtP p w a cs){cap l:Nat}(hc:cs.length≤cap):AtP p w (adv a cap l 1) (cs.drop l):=by
 by_cases hd:cs.drop l=[]
 ·exact .inl hd
 ·have hlt:l<cs.length:=by
   rcases Nat.lt_or_ge l cs.length with h | h
   ·exact h
   ·exact(hd (List.drop_of_length_le h)).elim
  rcases h with rfl | ⟨b,off,rfl,hp,hb,hcell⟩
  ·simp at hd
  ·refine .inr ⟨b,off+l,?_,hp,hb,fun i hi=>?_⟩
   ·unfold Proofs.YtadpiemjgfndgaaGreatDoor.adv;rw[if_neg (by omega)];simp only[Option.map_some];by_cases h0:l*1=0
    ·simp[Addr.add]
    ·simp[Addr.add]
   ·have h2:l+i<cs.length:=by simp at hi;omega
    have:=hcell (l+i) h2;rw[←Nat.add_assoc] at this;rw[this];simp[List.getD]
def A6(T:TypeId)(w:World)(b:Nat)(cs:List Value):Prop:=w.heap[b]?=some (.cells cs.toArray T (0,0))
theorem A6.blk{T:TypeId}{w:World}{b:Nat}{cs:List Value}(h:A6 T w b cs):Blk w b cs:=⟨T,h⟩
theorem A6.up{T:TypeId}{w w':World}{b:Nat}{cs:List Value}(h:A6 T w b cs)(hb:Below w.heap.size w w'):A6 T w' b cs:=by
 unfold A6;rw[hb.block b h.blk.lt];exact h
theorem A6.set{T:TypeId}{w:World}{b:Nat}{cs:List Value}(h:A6 T w b cs)(i:Nat)(v:Value):A6 T (w.setCell ⟨b,i,none⟩ v) b (cs.set i v):=by
 have h':w.heap[b]?=some (.cells cs.toArray T (0,0)):=h;simp[A6,World.setCell,Array.getElem?_modify,h']
theorem A6.other{T:TypeId}{w:World}{b g j:Nat}{cs:List Value}(h:A6 T w b cs)(hb:b≠g)(v:Value):A6 T (w.setCell ⟨g,j,none⟩ v) b cs:=by
 unfold A6;rw[Below.heap_setCell _ _ _ _ hb];exact h
theorem A6.row{T:TypeId}{w:World}{b:Nat}{cs:List Value}(h:A6 T w b cs)(ds:List Value):A6 T (w.setRow b ds.toArray) b ds:=setRow_heap w b _ _ T _ h
theorem A6.rowOther{T:TypeId}{w:World}{b:Nat}{cs:List Value}(h:A6 T w b cs)(g:Nat)(hb:b≠g)(ds:Array Value):A6 T (w.setRow g ds) b cs:=by
 unfold A6;rw[setRow_other w g b ds hb];exact h
theorem A6.new(w:World)(cs:List Value)(T:TypeId):A6 T (w.alloc (.cells cs.toArray T)) w.heap.size cs:=by simp only[A6,World.alloc,Array.getElem?_push,if_true]
theorem Cz5{P:Program}{t e:TypeId}{size bytes:Nat}{z:Value}(E:Ad4 P t e size bytes z){w:World}{base n:Nat}{v:Value}{xs:List Value}(hown:w.ownsRow base e size v n xs)
 {sp:Option Addr} {m:Nat} (c:Nat) {news:List Value} (hS:At w sp news) (hl:news.length=m*size) (h1:∀u∈news,u.oneCell'=true) (h63:n+m≤maxLen) (hbytes:(n+m)*bytes≤140737488355328) (hbase:base≤w.heap.size) (ty:TypeId):
 ∃a' cap' w',(Builtin.append_ #[t,t] ty #[v,.slice sp m c]).run P w=.ok (.slice a' (n+m) cap') w'∧w'.ownsRow base e size (.slice a' (n+m) cap') (n+m) (xs++news)∧w.grownBy w' v.ownBlock∧
  (Value.ownBlock (.slice a' (n+m) cap')=v.ownBlock∨Value.ownBlock (.slice a' (n+m) cap')=some w.heap.size):=by
 obtain⟨i,hi,hz,hsz,hby⟩:=E.info;by_cases h0:m=0
 ·subst h0;have hn:news=[]:=List.eq_nil_of_length_eq_zero (by simpa using hl);subst hn;obtain⟨a,cap,rfl,hnc,-⟩:=U6 hown;refine⟨a,cap,w,?_,by simpa using hown,⟨rfl,rfl,rfl,Nat.le_refl _,fun _ _ _=>rfl⟩,.inl (by cases a<;>rfl)⟩;have hf:∀x:Addr,(loadCells x 0).run P w=.ok #[] w:=fun x=>by simpa using run_loadCells_list (P:=P) w x [] (by simp)
  cases a<;>cases sp<;>simp[Builtin.append_,run_underlying E.slice,sizeOf,typeInfo,hi,Builtin.lenOf,Builtin.firstCells,hnc,hf,storeCells]
 ·rcases hS with rfl | ⟨b,off,rfl,hlt,hc⟩
  ·have:=Nat.mul_pos (by omega:0<m) E.pos;rw[←hl] at this;simp at this
  ·obtain⟨v',w',hr,ho,hg,-,hat⟩:=run_append_own_at (P:=P) w base t ty e i z size bytes E.slice hi hz hsz hby E.zs E.pos v n xs hown ⟨b,off,none⟩ m c news hl (fun j u hj=>by
    have hjl:j<news.length:=by
     rcases Nat.lt_or_ge j news.length with h | h
     ·exact h
     ·rw[List.getElem?_eq_none h] at hj;cases hj
    rw[WideShapes.add_plain,hc j hjl];simp[List.getD,hj]) h1 h63 hbytes hbase
   obtain⟨a',cap',rfl,-,-⟩:=U6 ho;exact⟨a',cap',w',hr,ho,hg,hat⟩
structure V5 (B:Nat) (w:World) (v:Value) (n:Nat) (xs:List Value):Prop where
 own:w.ownsRow B 5 1 v n xs
 le:B≤w.heap.size
theorem V5.up{B:Nat}{w w':World}{v:Value}{n:Nat}{xs:List Value}(h:V5 B w v n xs)(hb:Below w.heap.size w w'):V5 B w' v n xs:=by
 obtain⟨⟨h1,h2⟩,h3⟩:=h;refine⟨⟨h1,?_⟩,Nat.le_trans h3 hb.size⟩;rcases h2 with h2 | ⟨g,cap,cur,hv,hg,hh,r⟩
 ·exact .inl h2
 ·exact .inr ⟨g,cap,cur,hv,hg,by rw[hb.block g (Array.getElem?_eq_some_iff.1 hh).1];exact hh,r⟩
theorem V5.at{B:Nat}{w:World}{a:Option Addr}{n cap:Nat}{xs:List Value}(h:V5 B w (.slice a n cap) n xs):At w a xs:=Ar2 h.own
theorem V5.lt{B:Nat}{w:World}{v:Value}{n:Nat}{xs:List Value}(h:V5 B w v n xs){k:Nat}(hk:v.ownBlock=some k):B≤k∧k<w.heap.size:=h.own.lt k hk
abbrev Ay8(v:Value)(n8:Nat)(w:World)(a:Option Addr)(cs:List Value):Prop:=AtP (fun b=>b≠n8∧some b≠v.ownBlock) w a cs
theorem Ay8.up{v:Value}{n8:Nat}{w w':World}{a:Option Addr}{cs:List Value}(h:Ay8 v n8 w a cs)(hb:Below w.heap.size w w'):Ay8 v n8 w' a cs:=
 AtP.to h hb.size fun b hl hp=>⟨hb.block b hl,hp⟩
theorem Ay8.row{v:Value}{n8:Nat}{w:World}{a:Option Addr}{cs:List Value}(h:Ay8 v n8 w a cs)(ds:Array Value):Ay8 v n8 (w.setRow n8 ds) a cs:=
 AtP.to h (by simp) fun b hl hp=>⟨setRow_other w n8 b ds hp.1,hp⟩
theorem Ay8.grown{v v':Value}{n8:Nat}{w w':World}{a:Option Addr}{cs:List Value}(h:Ay8 v n8 w a cs)(hg:w.grownBy w' v.ownBlock)(hat:v'.ownBlock=v.ownBlock∨v'.ownBlock=some w.heap.size):Ay8 v' n8 w' a cs:=
 AtP.to h hg.size fun b hb hp=>by
  refine⟨hg.block b hb hp.2,hp.1,?_⟩;rcases hat with hat | hat
  ·rw[hat];exact hp.2
  ·rw[hat];intro h;injection h with h;omega
theorem Ay8.new{v:Value}{n8 B g n:Nat}{w0 w:World}{a:Option Addr}{xs cs:List Value}(ho:V5 B w0 v n xs)(h8:n8<w0.heap.size)(hg:w0.heap.size≤g)(h:At w a cs)(hs:cs=[]∨∃off,a=some ⟨g,off,none⟩):Ay8 v n8 w a cs:=by
 rcases hs with hs | ⟨off,rfl⟩
 ·exact .inl hs
 ·rcases h with h | ⟨b,o,h1,h2,h3⟩
  ·exact .inl h
  ·injection h1 with h1;injection h1 with h1 h4 _;subst h1;subst h4;exact .inr ⟨g,off,rfl,⟨by omega,fun hv=>by have:=(ho.lt hv.symm).2;omega⟩,h2,h3⟩
theorem V5.row{T:TypeId}{B n8:Nat}{w:World}{v:Value}{n:Nat}{xs cs:List Value}(h:V5 B w v n xs)(hb:A6 T w n8 cs)(hT:T≠5)(ds:Array Value):V5 B (w.setRow n8 ds) v n xs:=by
 obtain⟨⟨h1,h2⟩,h3⟩:=h;refine⟨⟨h1,?_⟩,by simpa using h3⟩;rcases h2 with h2 | ⟨g',cap,cur,hv,hg',hh,r⟩
 ·exact .inl h2
 ·refine .inr ⟨g',cap,cur,hv,hg',?_,r⟩;rw[setRow_other w n8 g' ds ?_]
  ·exact hh
  ·rintro rfl;rw[show w.heap[g']?=_ from hb] at hh;injection hh with hh;injection hh with _ k2 _;exact hT k2
theorem A6.grownB{T:TypeId}{B n b:Nat}{w w':World}{v:Value}{xs cs:List Value}(h:A6 T w b cs)(hT:T≠5)(hown:V5 B w v n xs)(hg:w.grownBy w' v.ownBlock):A6 T w' b cs:=by
 unfold A6;rw[hg.block b h.blk.lt fun hv=>?_]
 ·exact h
 ·rcases hown.own.2 with⟨rfl,-⟩ | ⟨g,cap,cur,rfl,-,hg',-⟩
  ·simp[Value.ownBlock] at hv
  ·simp[Value.ownBlock] at hv;subst hv;rw[show w.heap[b]?=_ from h] at hg';injection hg' with hg';injection hg' with _ k2 _;exact hT k2
theorem Cv8{ops:Array Oper}{rest:List Oper}{o:Oper}{a:Act}{w:World}{Q:Exit→Act→World→Prop}(s x:Operand)(hgd:o.guard=Option.none)
 (ho:o.op=.call {callee:=.builtin .append,args:=#[s,x],argTypes:=#[22,22]}) {B n:Nat} {v:Value} {xs:List Value} (hs:a.eval s=v) (hB:V5 B w v n xs)
 {sp:Option Addr} {m c:Nat} {news:List Value} (hx:a.eval x=.slice sp m c) (hS:At w sp news) (hl:news.length=m) (h1:∀u∈news,u.oneCell'=true) (h63:n+m≤1099511627776)
 (h:∀a' cap' w',V5 B w' (.slice a' (n+m) cap') (n+m) (xs++news)→w.grownBy w' v.ownBlock→(Value.ownBlock (.slice a' (n+m) cap')=v.ownBlock∨Value.ownBlock (.slice a' (n+m) cap')=some w.heap.size)→wpList Tryz.prog ops Q rest (a.put o.dst (.slice a' (n+m) cap')) w'):wpList Tryz.prog ops Q (o::rest) a w:=by
 refine wpList_plain hgd fun K hK=>?_;obtain⟨a',cap',w',hr,ho',hg,hat⟩:=Cz5 W5 hB.own (m:=m) c hS (by omega) h1 (by unfold maxLen;omega) (by omega) hB.le o.type;unfold Oper.wp execOp;simp only[ho,resolve,List.map_toArray,List.map_cons,List.map_nil,hs,hx,invoke,builtin,Sem.run_bind,Sem.run_pure,Result.andThen_ok,hr];exact hK _ _ (h a' cap' w' ⟨ho',Nat.le_trans hB.le hg.size⟩ hg hat)
theorem Ah6{ops:Array Oper}{rest:List Oper}{o:Oper}{a:Act}{w:World}{Q:Exit→Act→World→Prop}(s x:Operand)(hgd:o.guard=Option.none)
 (ho:o.op=.call {callee:=.builtin .append,args:=#[s,x],argTypes:=#[22,22]}) {B n:Nat} {v:Value} {xs:List Value} (hs:a.eval s=v) (hB:V5 B w v n xs)
 {sp:Option Addr} {m c:Nat} {news:List Value} (hx:a.eval x=.slice sp m c) (hS:At w sp news) (hl:news.length=m) (h1:∀u∈news,u.oneCell'=true) (h63:n+m≤1099511627776) (N:Nat) (hN:n+m=N) (ys:List Value) (hys:ys=xs++news)
 (h:∀a' cap' w',V5 B w' (.slice a' N cap') N ys→w.grownBy w' v.ownBlock→(Value.ownBlock (.slice a' N cap')=v.ownBlock∨Value.ownBlock (.slice a' N cap')=some w.heap.size)→wpList Tryz.prog ops Q rest (a.put o.dst (.slice a' N cap')) w'):wpList Tryz.prog ops Q (o::rest) a w:=by
 subst hN;subst hys;exact Cv8 s x hgd ho hs hB hx hS hl h1 h63 h
theorem Fd6(s:R8)(n:Int)(a b:Option Addr)(ca cb:Nat)(A l m:List UInt8)(hA:l.length=A.length%64)(hn:n=A.length)(hsz:A.length+m.length≤100000)(w:World)(hl:A4 w a l)(hm:A4 w b m)(hk:Q5 w):
 Calls Tryz.prog 194 #[.agg (O3 s n a l.length ca).toArray,.slice b m.length cb] w fun e w'=>
  ∃a' cap',e=.returned (.agg (O3 (Al4 s (l++m)) ((A.length+m.length:Nat):Int) a' (Aa4 (l++m)).length cap').toArray)∧A4 w' a' (Aa4 (l++m))∧Below w.heap.size w w'∧(Aa4 (l++m)=[]∨∃off,a'=some ⟨w.heap.size+1+1,off,none⟩):=by
 subst hn;have:=Ci6 s A.length a b ca cb l m (by omega) (by omega) (by omega) (by omega) w hl hm hk
 rwa [←Int.natCast_add] at this
theorem Co9(l m:List UInt8):Aa4 (Aa4 l++m)=Aa4 (l++m):=by
 have hl:64*nb l≤l.length:=by unfold nb;omega
 have hn:nb (l++m)=nb l+nb (Aa4 l++m):=by
  unfold Aa4 nb;rw[List.length_append,List.length_append,List.length_drop];omega
 have h1:Aa4 (l++m)=(l++m).drop (64*nb (l++m)):=rfl;rw[h1,hn,show 64*(nb l+nb (Aa4 l++m))=64*nb l+64*nb (Aa4 l++m) by omega,←List.drop_drop,List.drop_append_of_le_length hl];rfl
theorem El4(x:Int)(h1:-9223372036854775808≤x)(h2:x≤9223372036854775807):wrap64 x=x:=by unfold wrap64;omega
def Ah7(rows:List (List UInt8)):Nat:=rows.length+(rows.map List.length).sum
def An4(rows:List (List UInt8)):Nat:=(rows.map List.length).sum
theorem Bc6(rows:List (List UInt8))(k:Nat)(h:k<rows.length):An4 (rows.take (k+1))=An4 (rows.take k)+(rows.getD k []).length:=by
 rw[Ad1 rows k h []];simp[An4]
theorem Bt8(rows:List (List UInt8))(k:Nat):An4 (rows.take k)≤An4 rows:=by
 have e:An4 rows=An4 (rows.take k)+An4 (rows.drop k):=by
  conv=>lhs;rw[←List.take_append_drop k rows]
  simp only[An4,List.map_append,List.sum_append]
 omega
theorem El5(a:Option Addr)(cap:Nat)(rows:List (List UInt8))(most:Nat)(w:World)(hm:most≤100000)(hl:rows.length≤maxLen)(h:Y3 w a rows):
 Calls Tryz.prog 90 #[.slice a rows.length cap,.int .i64 (most:Int)] w fun e w'=>e=.returned (.int .i64 (if Ah7 rows≤most then(Ah7 rows:Int) else(most:Int)+1))∧w'=w:=by
 unfold maxLen at hl;obtain⟨V,hV⟩:∃V:Int,(if Ah7 rows≤most then(Ah7 rows:Int) else(most:Int)+1)=V:=⟨_,rfl⟩;rw[hV];have HV:=Lh hV;clear hV;have Hr:=Lh h;clear h;have hw1:wrap64 ((most:Int)+1)=most+1:=El4 _ (by omega) (by omega);by_cases hbig:most<rows.length
 ·have HT:=Lh (show ¬Ah7 rows≤most by unfold Ah7;omega);have hv:=HV.out;rw[if_neg HT.out] at hv;have HV:=Lh hv;clear hv;go_enter Tryz.func90,Tryz.ntmps90
  go_wp2_with fail
  go_ret;exact⟨by rw[←HV.out];rfl,rfl⟩
 ·go_enter Tryz.func90,Tryz.ntmps90
  go_wp2_with fail
  go_loopw [5,6] (fun v5 v6 wx=>∃k n:Nat,k≤rows.length∧v6=.int .i64 (k:Int)∧v5=.int .i64 (n:Int)∧n=rows.length+An4 (rows.take k)∧n≤most∧wx=w) (fun _ v6 _=>rows.length-(intOf v6).toNat)
  case atStart=>exact⟨0,rows.length,Nat.zero_le _,rfl,rfl,by simp[An4],by omega,rfl⟩
  case round=>
   obtain⟨k,n,hk,rfl,rfl,hn,hnm,rfl⟩:=hrel;by_cases hlt:k<rows.length
   ·obtain⟨b,off,p,c,rfl,hbl,hc,h1,h2,-⟩:=Hr.out.row k hlt;have HS:=Lh (Bc6 rows k hlt);have HL:=Lh (Bt8 rows (k+1));have Hn:=Lh hn;have Hnm:=Lh hnm;clear hn;have hrl:(rows.getD k []).length≤9223372036854775807:=by unfold maxLen at h2;omega
    generalize rows.getD k []=r at hc h1 HS hrl;obtain⟨D,hD⟩:∃D:Int,D=(most:Int)-(n:Int):=⟨_,rfl⟩;have hw2:wrap64 ((most:Int)-(n:Int))=D:=by rw[hD];exact El4 _ (by omega) (by omega)
    by_cases hfit:r.length≤most-n
    ·have hw3:wrap64 ((n:Int)+(r.length:Int))=n+r.length:=El4 _ (by omega) (by omega);have hd:¬D<(r.length:Int):=by omega
     obtain⟨E,hE⟩:∃E:Nat,E=n+r.length:=⟨_,rfl⟩;have hw4:wrap64 ((n:Int)+(r.length:Int))=(E:Int):=by rw[hw3,hE];simp
     have HE:=Lh hE;clear hw3 hw1 hD hE hnm;have Hfit:=Lh hfit;clear hfit hrl;go_wp2_with fail
     have e9:E=rows.length+An4 (List.take (k+1) rows):=by have h1:=HS.out;have h2:=Hn.out;have h3:=HE.out;omega
     exact⟨⟨k+1,E,by omega,by go_num,by first | rfl | rw[hw4],e9,by have h3:=HE.out;have h4:=Hfit.out;have h5:=Hnm.out;omega,by first | rfl | trivial⟩,by simp[intOf];omega⟩
    ·have hd:D<(r.length:Int):=by omega
     have HT:=Lh (show ¬Ah7 rows≤most by have:=HS.out;have:=HL.out;have:=Hn.out;unfold Ah7;unfold An4 at *;omega);clear hD hnm hfit hrl;go_wp2_with fail
     go_ret;have hv:=HV.out;rw[if_neg HT.out] at hv;exact⟨by rw[←hv];rfl,rfl⟩
   ·obtain rfl:k=rows.length:=by omega
    rw[List.take_length] at hn;have HT:=Lh (show n=Ah7 rows from hn);have Hnm:=Lh hnm;clear hn hnm;go_wp2_with fail
    go_ret;have hv:=HV.out;rw[if_pos (by rw[←HT.out];exact Hnm.out),←HT.out] at hv;exact⟨by rw[←hv];rfl,rfl⟩
end Go.Proofs.YtadpiemjgfndgaaGreatDoor
