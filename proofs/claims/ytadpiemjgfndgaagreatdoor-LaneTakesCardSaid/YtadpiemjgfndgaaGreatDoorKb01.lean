/- Proved here, for use further on: Mem Mem2 In Fil. Conditions: none but those each theorem names. -/
import Derived.Test.YtadpiemjgfndgaaGreatDoorKb00
import Derived.WalkKit
import Derived.WalkSpells
import Derived.Lib.Hide
import Derived.BigQuiet
import Derived.WideShapes
import Derived.Laws.CopyRow
import Derived.Laws.ResultCell
import Derived.Laws.IdiomCopy
import Derived.BigRegion
import Derived.ProofKit
import Derived.OpenShut
import Derived.ShutString
import Derived.ChangeOld
import Derived.Below
import Derived.OrdersHeld
import Derived.Deep.RegionHeld
import Derived.Laws.Tables
import Derived.Laws.Rows
import Derived.Deep.MidRow
import Derived.Great.BuildSlice
set_option linter.unusedSimpArgs false
set_option linter.unusedVariables false
set_option maxRecDepth 100000
set_option maxHeartbeats 8000000
namespace Go.Proofs.YtadpiemjgfndgaaGreatDoor
open Go.RowKit
def At(w:World)(a:Option Addr)(cs:List Value):Prop:=
 cs=[]∨∃b off,a=some ⟨b,off,none⟩∧b<w.heap.size∧∀i,i<cs.length→w.cell? ⟨b,off+i,none⟩=some (cs.getD i undef)
theorem At.mono{w w':World}{a:Option Addr}{cs:List Value}(h:At w a cs)(hb:Below w.heap.size w w'):At w' a cs:=by
 rcases h with h | ⟨b,off,rfl,hlt,hc⟩
 ·exact .inl h
 ·exact .inr ⟨b,off,rfl,Nat.lt_of_lt_of_le hlt hb.size,fun i hi=>by rw[hb.cell (p:=⟨b,off+i,none⟩) hlt];exact hc i hi⟩
theorem At.take{w:World}{a:Option Addr}{cs:List Value}(h:At w a cs)(k:Nat):At w a (cs.take k):=by
 rcases h with rfl | ⟨b,off,rfl,hlt,hc⟩
 ·exact .inl (by simp)
 ·refine .inr ⟨b,off,rfl,hlt,fun i hi=>?_⟩;have h1:i<k∧i<cs.length:=by simpa [List.length_take,Nat.lt_min] using hi
  rw[hc i h1.2];simp[List.getD,List.getElem?_take,h1.1]
abbrev Cn0(q:IntKind)(w:World)(a:Option Addr)(l:List Int):Prop:=At w a (l.map (Value.int q))
theorem Cn1(q:IntKind)(l:List Int)(i:Nat)(h:i<l.length):(l.map (Value.int q)).getD i undef=.int q (l.getD i 0):=by
 simp[List.getD,h]
theorem Cn0.cell{q:IntKind}{w:World}{a:Option Addr}{l:List Int}(h:Cn0 q w a l)(hl:0<l.length):
 ∃b off,a=some ⟨b,off,none⟩∧b<w.heap.size∧∀i,i<l.length→w.cell? ⟨b,off+i,none⟩=some (.int q (l.getD i 0)):=by
 rcases h with h | ⟨b,off,rfl,hlt,hc⟩
 ·simp at h;subst h;simp at hl
 ·exact⟨b,off,rfl,hlt,fun i hi=>by rw[hc i (by simpa using hi),Cn1 q l i hi]⟩
theorem Ad1{α:Type}[Inhabited α](l:List α)(k:Nat)(h:k<l.length)(d:α):l.take (k+1)=l.take k++[l.getD k d]:=by
 rw[List.take_succ_eq_append_getElem h];simp[List.getD,h]
theorem bt{a b c:World}(h:Below a.heap.size a b)(k:Below b.heap.size b c):Below a.heap.size a c:=h.trans (k.mono h.size)
theorem ba(w:World)(o:Obj):Below w.heap.size w (w.alloc o):=(Below.refl _ _).alloc (Nat.le_refl _) _
theorem bd(w:World):Below w.heap.size w w.drew:=(Below.refl _ _).drew
def adv(a:Option Addr)(cap l n:Nat):Option Addr:=if cap=l then a else a.map (·.add (l*n))
theorem At.adv{w:World}{a:Option Addr}{cs:List Value}(h:At w a cs){cap l n len:Nat}(hl:cs.length=len*n)(hc:len≤cap):At w (adv a cap l n) (cs.drop (l*n)):=by
 by_cases hd:cs.drop (l*n)=[]
 ·exact .inl hd
 ·have hlt:l*n<cs.length:=by
   rcases Nat.lt_or_ge (l*n) cs.length with h | h
   ·exact h
   ·exact(hd (List.drop_of_length_le h)).elim
  rcases h with rfl | ⟨b,off,rfl,hb,hcell⟩
  ·simp at hd
  ·have hll:l<len:=by rw[hl] at hlt;exact Nat.lt_of_mul_lt_mul_right hlt
   refine .inr ⟨b,off+l*n,?_,hb,fun i hi=>?_⟩
   ·unfold Proofs.YtadpiemjgfndgaaGreatDoor.adv;rw[if_neg (by omega)];simp only[Option.map_some];by_cases h0:l*n=0
    ·simp[Addr.add,h0]
    ·simp[Addr.add,h0]
   ·have h2:l*n+i<cs.length:=by simp at hi;omega
    have:=hcell (l*n+i) h2;rw[←Nat.add_assoc] at this;rw[this];simp[List.getD]
def Blk(w:World)(b:Nat)(cs:List Value):Prop:=∃T,w.heap[b]?=some (.cells cs.toArray T (0,0))
theorem Blk.lt{w:World}{b:Nat}{cs:List Value}(h:Blk w b cs):b<w.heap.size:=by
 obtain⟨T,h⟩:=h;rcases Nat.lt_or_ge b w.heap.size with h' | h'
 ·exact h'
 ·rw[Array.getElem?_eq_none h'] at h;cases h
theorem Blk.cell{w:World}{b:Nat}{cs:List Value}(h:Blk w b cs)(i:Nat)(hi:i<cs.length):w.cell? ⟨b,i,none⟩=some (cs.getD i undef):=by
 obtain⟨T,h⟩:=h;simp[World.cell?,h,List.getD,hi]
theorem Blk.frozen{w:World}{b:Nat}{cs:List Value}(h:Blk w b cs)(i:Nat):w.frozen? ⟨b,i,none⟩=false:=by
 obtain⟨T,h⟩:=h;simp[World.frozen?,h]
theorem Blk.set{w:World}{b:Nat}{cs:List Value}(h:Blk w b cs)(i:Nat)(v:Value):Blk (w.setCell ⟨b,i,none⟩ v) b (cs.set i v):=by
 obtain⟨T,h⟩:=h;refine⟨T,?_⟩;simp[World.setCell,Array.getElem?_modify,h]
theorem Blk.other{w:World}{b:Nat}{cs:List Value}(h:Blk w b cs)(a:Addr)(hb:b≠a.block)(v:Value):Blk (w.setCell a v) b cs:=by
 obtain⟨T,h⟩:=h;exact⟨T,by rw[Below.heap_setCell _ _ _ _ hb];exact h⟩
theorem Blk.alloc{w:World}{b:Nat}{cs:List Value}(h:Blk w b cs)(o:Obj):Blk (w.alloc o) b cs:=by
 have hl:=h.lt;obtain⟨T,h⟩:=h;exact⟨T,by rw[Below.heap_alloc _ _ _ hl];exact h⟩
theorem Blk.drew{w:World}{b:Nat}{cs:List Value}(h:Blk w b cs):Blk w.drew b cs:=h
theorem Blk.drewN{w:World}{b:Nat}{cs:List Value}(h:Blk w b cs)(n:Nat):Blk (w.drewN n) b cs:=h
theorem Blk.below{w w':World}{b:Nat}{cs:List Value}(h:Blk w b cs){B:Nat}(hb:Below B w w')(hlt:b<B):Blk w' b cs:=by
 obtain⟨T,h⟩:=h;exact⟨T,by rw[hb.block b hlt];exact h⟩
theorem Blk.new(w:World)(cs:List Value)(T:TypeId):Blk (w.alloc (.cells cs.toArray T)) w.heap.size cs:=⟨T,by simp only[World.alloc,Array.getElem?_push,if_true]⟩
theorem Blk.at{w:World}{b:Nat}{cs:List Value}(h:Blk w b cs):At w (some ⟨b,0,none⟩) cs:=
 .inr ⟨b,0,rfl,h.lt,fun i hi=>by rw[Nat.zero_add];exact h.cell i hi⟩
theorem Blk.row{w:World}{b:Nat}{cs:List Value}(h:Blk w b cs)(ds:List Value):Blk (w.setRow b ds.toArray) b ds:=by
 obtain⟨T,h⟩:=h;exact⟨T,setRow_heap w b _ _ T _ h⟩
theorem Blk.rowOther{w:World}{b:Nat}{cs:List Value}(h:Blk w b cs)(g:Nat)(hb:b≠g)(ds:Array Value):Blk (w.setRow g ds) b cs:=by
 obtain⟨T,h⟩:=h;exact⟨T,by rw[setRow_other w g b ds hb];exact h⟩
theorem F6{B:Nat}{a w:World}(h:Below B a w){g:Nat}(hg:B≤g)(cs:Array Value):Below B a (w.setRow g cs):=
 h.trans ⟨rfl,rfl,rfl,by simp,fun k hk=>setRow_other w g k cs (by omega)⟩
theorem C4{P:Program}{ops:Array Oper}{rest:List Oper}{o:Oper}{a:Act}{w:World}{Q:Exit→Act→World→Prop}(ty:TypeId)(x:Operand)(g:Nat){cs:List Value}(hgd:o.guard=none)(ho:o.op=.load ty x)
 (hx:a.eval x=.pointer (some ⟨g,0,none⟩)) (hb:Blk w g cs) {d:TypeDesc} (hu:P.underlying ty=some d) (hd:(match d with | .struct _ | .array _ _=>true | _=>false)=true) (hi:(P.info? ty).map (·.size)=some cs.length)
 (h:wpList P ops Q rest (a.put o.dst (.agg cs.toArray)) w):wpList P ops Q (o::rest) a w:=by
 obtain⟨T,hg⟩:=hb;exact wpList_load_row hgd ty x ho g hx T cs.toArray _ d hg hu hd (by simpa using hi) h
theorem I0{P:Program}{ops:Array Oper}{rest:List Oper}{o:Oper}{a:Act}{w:World}{Q:Exit→Act→World→Prop}(ty:TypeId)(x y:Operand)(g:Nat){cs old:List Value}(hgd:o.guard=none)(ho:o.op=.store ty x y)
 (hx:a.eval x=.pointer (some ⟨g,0,none⟩)) (hy:a.eval y=.agg cs.toArray) (hb:Blk w g old) (hi:(P.info? ty).map (·.size)=some cs.length) (hl:old.length=cs.length) (h1:cs.all (·.oneCell')=true)
 (h:wpList P ops Q rest (a.put o.dst undef) (w.setRow g cs.toArray)):wpList P ops Q (o::rest) a w:=by
 obtain⟨T,hg⟩:=hb;exact wpList_store_row hgd ty x y ho g cs.toArray hx hy T old.toArray hg (by simpa using hi) (by simpa using hl) (by simpa using h1) h
theorem J9{P:Program}{fn:Func}{p:Tmp}{ty:TypeId}(h:fn.results=#[.cell p ty])(tmps:Array Value)(w:World)(g:Nat){cs:List Value}{d:TypeDesc}
 (hp:tmps.getD p undef=.pointer (some ⟨g,0,none⟩)) (hb:Blk w g cs) (hu:P.underlying ty=some d) (hd:(match d with | .struct _ | .array _ _=>true | _=>false)=true) (hi:(P.info? ty).map (·.size)=some cs.length):
 (results fn tmps).run P w=.ok (.agg cs.toArray) w:=by
 obtain⟨T,hg⟩:=hb;exact results_cell_row h tmps w g T cs.toArray _ d hp hg hu hd (by simpa using hi)
theorem G6{P:Program}{fn:Func}{p u:Tmp}{ty:TypeId}(h:fn.results=#[.cell p ty,.tmp u])(tmps:Array Value)(w:World)(g:Nat){cs:List Value}{d:TypeDesc}
 (hp:tmps.getD p undef=.pointer (some ⟨g,0,none⟩)) (v2:Value) (hv:tmps.getD u undef=v2) (hb:Blk w g cs) (hu:P.underlying ty=some d) (hd:(match d with | .struct _ | .array _ _=>true | _=>false)=true) (hi:(P.info? ty).map (·.size)=some cs.length):
 (results fn tmps).run P w=.ok (.tuple #[.agg cs.toArray,v2]) w:=by
 obtain⟨T,hg⟩:=hb;rw[results_cell_tmp h,hp,hv];simp[asAddr,run_loadVar_row w g T ty cs.toArray _ d hg hu hd (by simpa using hi)]
theorem Bh8{P:Program}{w:World}{b:Nat}{cs scs:List Value}{sp:Option Addr}(hB:Blk w b cs)(hS:At w sp scs){dT sT ty elem:TypeId}(hu:P.underlying dT=some (.slice elem))(hs:(P.info? elem).map (·.size)=some 1)
 (dp:Option Addr) (o dLen dCap Ao1 sCap n:Nat) (hl:Ao1=scs.length) (hn:n=Nat.min Ao1 dLen) (hd:0<n→dp=some ⟨b,o,none⟩) (hfit:o+n≤cs.length) (h1:∀v∈scs,v.oneCell'=true):
 ∃w2,(Builtin.copy_ #[dT,sT] ty #[.slice dp dLen dCap,.slice sp Ao1 sCap]).run P w=.ok (goInt n) w2∧
  Blk w2 b (cs.take o++scs.take n++cs.drop (o+n))∧(∀b' ds,b'≠b→Blk w b' ds→Blk w2 b' ds)∧(∀B w0,Below B w0 w→B≤b→Below B w0 w2):=by
 by_cases h0:n=0
 ·subst h0;refine⟨w,run_copy_none w dT sT ty elem dp sp dLen dCap Ao1 sCap hu hs hn.symm,?_,fun _ _ _ h=>h,fun _ _ h _=>h⟩
  simpa using hB
 ·rw[hd (by omega)];have hsl:n≤scs.length:=by rw[hn,hl];exact Nat.min_le_left _ _
  rcases hS with rfl | ⟨sb,so,rfl,hlt,hc⟩
  ·simp at hsl;omega
  ·obtain⟨T,hg⟩:=hB;have hlen:(scs.take n).length=n:=by rw[List.length_take];omega
   have hrun:=run_copy_row (P:=P) w dT sT ty elem b o dLen dCap ⟨sb,so,none⟩ Ao1 sCap cs.toArray T (scs.take n) hu hs hg (by rw[hlen,hn]) (fun j v hj=>by
    have hjn:j<n:=by
     rcases Nat.lt_or_ge j n with h | h
     ·exact h
     ·rw[List.getElem?_eq_none (by omega)] at hj;cases hj
    rw[WideShapes.add_plain,hc j (by omega)];rw[List.getElem?_take,if_pos hjn] at hj;simp[List.getD,hj]) (by rw[hlen];simpa using hfit) (fun v hv=>h1 v (List.mem_of_mem_take hv))
   rw[hlen] at hrun;refine⟨_,hrun,?_,fun b' ds hne h=>h.rowOther b hne _,fun B w0 h hB=>F6 h hB _⟩;exact⟨T,setRow_heap w b _ _ T _ hg⟩
theorem Cy8{α:Type}(l:List α)(z v:α)(n t:Nat)(hl:l.length=t)(hn:t<n):(l++List.replicate (n-t) z).set t v=(l++[v])++List.replicate (n-(t+1)) z:=by
 obtain⟨m,hm⟩:∃m,n-t=m+1:=⟨n-t-1,by omega⟩;rw[List.set_append_right _ _ (by omega),hl,Nat.sub_self,hm,List.replicate_succ,List.set_cons_zero,show n-(t+1)=m by omega];simp
theorem Ax3{P:Program}{t e:TypeId}{n:Nat}(ht:P.underlying t=some (.slice e))(hs:∀w,(sizeOf e).run P w=.ok n w)(w:World)(a:Option Addr)(len cap:Nat)(l:Int)(h0:0≤l)(h1:l≤len):
 (Instr.sliceAt t (.slice a len cap) (some (.int .i64 l)) none none).run P w=.ok (.slice (adv a cap l.toNat n) (len-l.toNat) (cap-l.toNat)) w:=by
 have he:P.elem t=e:=by simp[Program.elem,ht]
 rw[run_sliceAt_slice _ _ _ _ _ _ (by rw[he];exact ht),run_slice_l _ _ _ _ _ (by rw[he];exact ht) _ _ h0 h1,he,hs];rfl
theorem Dv8{P:Program}{t e:TypeId}{n:Nat}(ht:P.underlying t=some (.slice e))(hs:∀w,(sizeOf e).run P w=.ok n w)(w:World)(a:Option Addr)(len cap:Nat)(h:Int)(h0:0≤h)(h1:h≤cap):
 (Instr.sliceAt t (.slice a len cap) none (some (.int .i64 h)) none).run P w=.ok (.slice (adv a cap 0 n) (h.toNat-0) (cap-0)) w:=by
 have he:P.elem t=e:=by simp[Program.elem,ht]
 rw[run_sliceAt_slice _ _ _ _ _ _ (by rw[he];exact ht),run_slice_h _ _ _ _ _ (by rw[he];exact ht) _ _ h0 h1,he,hs];rfl
theorem Bm5{P:Program}{t e:TypeId}{n:Nat}(ht:P.underlying t=some (.slice e))(hs:∀w,(sizeOf e).run P w=.ok n w)(w:World)(a:Option Addr)(len cap:Nat)(l h:Int)(h0:0≤l)(h1:l≤h)(h2:h≤cap):
 (Instr.sliceAt t (.slice a len cap) (some (.int .i64 l)) (some (.int .i64 h)) none).run P w=.ok (.slice (adv a cap l.toNat n) (h.toNat-l.toNat) (cap-l.toNat)) w:=by
 have he:P.elem t=e:=by simp[Program.elem,ht]
 rw[run_sliceAt_slice _ _ _ _ _ _ (by rw[he];exact ht),run_slice_lh _ _ _ _ _ (by rw[he];exact ht) _ _ _ _ h0 h1 h2,he,hs];rfl
structure Ad4 (P:Program) (t e:TypeId) (size bytes:Nat) (z:Value):Prop where
 slice:P.underlying t=some (.slice e)
 info:∃i,P.info? e=some i∧i.zero=some z∧i.size=size∧i.bytes=bytes
 zs:z.cells.size=size
 pos:0<size
theorem Ad4.mk1{P:Program}{t e:TypeId}{size bytes:Nat}{z:Value}(hs:P.underlying t=some (.slice e))(hi:(P.info? e).map (fun i=>(i.zero,i.size,i.bytes))=some (some z,size,bytes))(hz:z.cells.size=size)(hp:0<size):Ad4 P t e size bytes z:=by
 obtain⟨i,h1,h2,h3,h4⟩:=info_parts hi;exact⟨hs,⟨i,h1,h2,h3,h4⟩,hz,hp⟩
theorem U6{w:World}{base:Nat}{e:TypeId}{size n:Nat}{v:Value}{xs:List Value}(h:w.ownsRow base e size v n xs):∃a cap,v=.slice a n cap∧n≤cap∧cap≤maxLen:=by
 rcases h.2 with⟨rfl,rfl⟩ | ⟨g,cap,cur,rfl,_,_,h1,h2,_⟩
 ·exact⟨none,0,rfl,Nat.le_refl _,Nat.zero_le _⟩
 ·exact⟨_,cap,rfl,h1,h2⟩
theorem Ar2{w:World}{base:Nat}{e:TypeId}{size n cap:Nat}{a:Option Addr}{xs:List Value}(h:w.ownsRow base e size (.slice a n cap) n xs):At w a xs:=by
 rcases h.2 with⟨hv,hn⟩ | ⟨g,cap',cur,hv,hb,hg,h1,h2,h3,h4⟩
 ·subst hn;exact .inl (List.eq_nil_of_length_eq_zero (by simpa using h.1))
 ·cases hv
  refine .inr ⟨g,0,rfl,(Array.getElem?_eq_some_iff.1 hg).1,fun i hi=>?_⟩;rw[Nat.zero_add];have hx:xs[i]?=some (xs[i]):=List.getElem?_eq_getElem hi;have:=h.cells (g:=g) rfl i _ hx;have hadd:(⟨g,0,none⟩:Addr).add i=⟨g,i,none⟩:=by unfold Addr.add;split<;>simp_all
  rw[hadd] at this;rw[this];simp[List.getD,hi]
theorem Bl1{P:Program}{t e:TypeId}{size bytes:Nat}{z:Value}(E:Ad4 P t e size bytes z){w:World}{base n:Nat}{v:Value}{xs:List Value}(hown:w.ownsRow base e size v n xs)
 {sp:Option Addr} {m:Nat} (c:Nat) {news:List Value} (hS:At w sp news) (hl:news.length=m*size) (h1:∀u∈news,u.oneCell'=true) (h63:n+m≤maxLen) (hbytes:(n+m)*bytes≤140737488355328) (hbase:base≤w.heap.size) (ty:TypeId):
 ∃a' cap' w',(Builtin.append_ #[t,t] ty #[v,.slice sp m c]).run P w=.ok (.slice a' (n+m) cap') w'∧w'.ownsRow base e size (.slice a' (n+m) cap') (n+m) (xs++news)∧w.grownBy w' v.ownBlock:=by
 obtain⟨i,hi,hz,hsz,hby⟩:=E.info;by_cases h0:m=0
 ·subst h0;have hn:news=[]:=List.eq_nil_of_length_eq_zero (by simpa using hl);subst hn;obtain⟨a,cap,rfl,hnc,-⟩:=U6 hown;refine⟨a,cap,w,?_,by simpa using hown,⟨rfl,rfl,rfl,Nat.le_refl _,fun _ _ _=>rfl⟩⟩;have hf:∀x:Addr,(loadCells x 0).run P w=.ok #[] w:=fun x=>by simpa using run_loadCells_list (P:=P) w x [] (by simp)
  cases a<;>cases sp<;>simp[Builtin.append_,run_underlying E.slice,sizeOf,typeInfo,hi,Builtin.lenOf,Builtin.firstCells,hnc,hf,storeCells]
 ·rcases hS with rfl | ⟨b,off,rfl,hlt,hc⟩
  ·have:=Nat.mul_pos (by omega:0<m) E.pos;rw[←hl] at this;simp at this
  ·obtain⟨v',w',hr,ho,hg,-⟩:=run_append_own (P:=P) w base t ty e i z size bytes E.slice hi hz hsz hby E.zs E.pos v n xs hown ⟨b,off,none⟩ m c news hl (fun j u hj=>by
    have hjl:j<news.length:=by
     rcases Nat.lt_or_ge j news.length with h | h
     ·exact h
     ·rw[List.getElem?_eq_none h] at hj;cases hj
    rw[WideShapes.add_plain,hc j hjl];simp[List.getD,hj]) h1 h63 hbytes hbase
   obtain⟨a',cap',rfl,-,-⟩:=U6 ho;exact⟨a',cap',w',hr,ho,hg⟩
theorem Db3{P:Program}{ops:Array Oper}{rest:List Oper}{o:Oper}{a:Act}{w:World}{Q:Exit→Act→World→Prop}(s x:Operand)(t:TypeId){e:TypeId}{size bytes:Nat}{z:Value}(hgd:o.guard=none)
 (ho:o.op=.call {callee:=.builtin .append,args:=#[s,x],argTypes:=#[t,t]}) (E:Ad4 P t e size bytes z) {base n:Nat} {v:Value} {xs:List Value} (hs:a.eval s=v) (hown:w.ownsRow base e size v n xs)
 {sp:Option Addr} {m c:Nat} {news:List Value} (hx:a.eval x=.slice sp m c) (hS:At w sp news) (hl:news.length=m*size) (h1:∀u∈news,u.oneCell'=true) (h63:n+m≤maxLen) (hbytes:(n+m)*bytes≤140737488355328) (hbase:base≤w.heap.size)
 (h:∀a' cap' w',w'.ownsRow base e size (.slice a' (n+m) cap') (n+m) (xs++news)→w.grownBy w' v.ownBlock→wpList P ops Q rest (a.put o.dst (.slice a' (n+m) cap')) w'):wpList P ops Q (o::rest) a w:=by
 refine wpList_plain hgd fun K hK=>?_;obtain⟨a',cap',w',hr,h2,h3⟩:=Bl1 E hown c hS hl h1 h63 hbytes hbase o.type;unfold Oper.wp execOp;simp only[ho,resolve,List.map_toArray,List.map_cons,List.map_nil,hs,hx,invoke,builtin,Sem.run_bind,Sem.run_pure,Result.andThen_ok,hr];exact hK _ _ (h a' cap' w' h2 h3)
theorem V3{B:Nat}{w0 w w':World}{e:TypeId}{size n:Nat}{v:Value}{xs:List Value}{base:Nat}(h:Below B w0 w)(hown:w.ownsRow base e size v n xs)(hg:w.grownBy w' v.ownBlock)(hB:B≤w.heap.size)(hb:B≤base):Below B w0 w':=
 h.grown hg hB (fun k hk=>Nat.le_trans hb (hown.lt k hk).1)
theorem Bl2{P:Program}{t e:TypeId}{bytes:Nat}{z:Value}(E:Ad4 P t e 1 bytes z)(w:World)(k k':IntKind)(n:Nat)(hb:bytes*n≤281474976710656)(hm:n≤maxLen)(h1:z.oneCell'=true):
 (Instr.makeSlice t (.int k n) (.int k' n)).run P w=.ok (.slice (some ⟨w.heap.size,0,none⟩) n n) (w.alloc (.cells (List.replicate n z).toArray e)):=by
 obtain⟨i,hi,hz,hsz,hby⟩:=E.info;unfold maxLen at hm;have:=run_make (P:=P) w t e i z E.slice hi hz k k' n n (by omega) (by omega) (by rw[hby,←Int.natCast_mul];omega) (by omega);rw[this];simp only[Int.toNat_natCast,hsz,Nat.mul_one]
 congr 3
 have hc:z.cells=#[z]:=by cases z<;>first | rfl | cases h1
 rw[hc];apply Array.ext
 ·simp[madeCells]
 ·intro j h1 h2;simp[madeCells,Nat.mod_one]
end Go.Proofs.YtadpiemjgfndgaaGreatDoor
namespace Go.Proofs.YtadpiemjgfndgaaGreatDoor
open Go.ChangeShapes Go.WideShapes Go.ChangeAt Go.RowKit
def Fe0(q:IntKind)(w:World)(a:Option Addr)(cap:Nat)(l:List Int):Prop:=
 l.length≤cap∧cap≤maxLen∧Cn0 q w a l∧∀n∈l,(Lit.int q n).wf=true
theorem Ca8{w:World}{a:Addr}{v:Value}(h:w.cell? a=some v):a.spot=none∧a.block<w.heap.size:=by
 refine⟨?_,World.block_lt_of_cell? _ _ h⟩;unfold World.cell? at h;split at h
 ·split at h
  ·cases h
  ·rename_i hs;cases e:a.spot with
   | none=>rfl
   | some x=>rw[e] at hs;simp at hs
 ·cases h
theorem Ew2{H:Type}{enc:TypeId×Value→H}{P:Program}{w:World}{t e:TypeId}{q:IntKind}{a:Option Addr}{len cap:Nat}{d:DataW H}{ps:List MemPlace}
 (ht:P.underlying t=some (.slice e)) (he:P.underlying e=some (.int q)) (hc:P.cellsOf e=1)
 (h:DataW.Trod enc P w 0 (fun _=>true) true t (.slice a len cap) d ps):∃l:List Int,len=l.length∧Fe0 q w a cap l:=by
 obtain⟨fuel,hf⟩:=h;rcases open_ints ht he hc hf with⟨hcs,_⟩ | ⟨x,l,c,zs,hcs,_,hl,hm,hz,_,hcell,hwz⟩
 ·simp[Value.cells] at hcs;obtain⟨rfl,rfl,rfl⟩:=hcs;exact⟨[],rfl,Nat.le_refl _,Nat.zero_le _,.inl rfl,by simp⟩
 ·simp[Value.cells] at hcs;obtain⟨rfl,rfl,rfl⟩:=hcs;have hz':zs.length=cap:=by simpa using hz
  have hlen:(zs.take len).length=len:=by rw[List.length_take];omega
  refine⟨zs.take len,hlen.symm,by omega,hm,?_,fun n hn=>hwz n (List.mem_of_mem_take hn)⟩;by_cases h0:len=0
  ·subst h0;exact .inl (by simp)
  ·refine .inr ?_;have h1:=hcell 0 (by omega);have hx0:x.add 0=x:=by simp[Addr.add]
   rw[hx0] at h1;obtain⟨hs,hb⟩:=Ca8 h1;obtain⟨xb,xo,xs⟩:=x;simp only at hs hb;subst hs;refine⟨xb,xo,rfl,hb,fun i hi=>?_⟩;have hi':i<len:=by rw[List.length_map,hlen] at hi;exact hi
   have h2:=hcell i (by omega);rw[WideShapes.add_plain] at h2;rw[h2];have e1:(List.map (Value.int q) (zs.take len)).getD i undef=.int q (zs.getD i 0):=by
    simp[List.getD,List.getElem?_take,hi',show i<zs.length by omega]
   rw[e1]
end Go.Proofs.YtadpiemjgfndgaaGreatDoor
namespace Go.Proofs.YtadpiemjgfndgaaGreatDoor
open Go.RowKit
def C6(a:Act):List Nat→List Value→Act
 | k::ks,v::vs=>(C6 a ks vs).put (some k) v
 | _,_=>a
def At3:List Nat→List Value→Nat→Option Value
 | k::ks,v::vs,s=>bif Nat.beq k s then some v else At3 ks vs s
 | _,_,_=>none
def Bk5:List Nat→List Value→Nat→Value→List Value
 | k::ks,v::vs,s,x=>bif Nat.beq k s then x::vs else v::Bk5 ks vs s x
 | _,vs,_,_=>vs
theorem Cj8(a:Act):∀(ks:List Nat) (vs:List Value),(C6 a ks vs).tmps.size=a.tmps.size
 | [],_=>by simp[C6]
 | _::_,[]=>by simp[C6]
 | k::ks,v::vs=>by simp[C6,Act.put,Cj8 a ks vs]
theorem By4(a:Act)(s:Nat):∀(ks:List Nat) (vs:List Value),(∀k∈ks,k<a.tmps.size)→(C6 a ks vs).tmps.getD s undef=(At3 ks vs s).getD (a.tmps.getD s undef)
 | [],_,_=>by simp[C6,At3]
 | _::_,[],_=>by simp[C6,At3]
 | k::ks,v::vs,h=>by
   have ih:=By4 a s ks vs fun q hq=>h q (List.mem_cons_of_mem _ hq);have hk:k<(C6 a ks vs).tmps.size:=by rw[Cj8];exact h k List.mem_cons_self
   simp only[C6,At3,Act.put];by_cases hks:k=s
   ·subst hks;rw[show Nat.beq k k=true from Nat.beq_refl k];simp[hk]
   ·rw[show Nat.beq k s=false from by rw[Bool.eq_false_iff];exact fun e=>hks (Nat.eq_of_beq_eq_true e)];rw[cond_false,←ih];simp[Array.getD_eq_getD_getElem?,Array.getElem?_setIfInBounds,hks]
theorem By5(a:Act)(s:Nat)(x:Value):∀(ks:List Nat) (vs:List Value),vs.length=ks.length→s∈ks→(C6 a ks vs).put (some s) x=C6 a ks (Bk5 ks vs s x)
 | [],_,_,h=>by simp at h
 | _::_,[],hl,_=>by simp at hl
 | k::ks,v::vs,hl,h=>by
   simp only[C6,Bk5];by_cases hks:k=s
   ·subst hks;rw[show Nat.beq k k=true from Nat.beq_refl k,cond_true];simp[C6,Act.put]
   ·rw[show Nat.beq k s=false from by rw[Bool.eq_false_iff];exact fun e=>hks (Nat.eq_of_beq_eq_true e),cond_false];have h':s∈ks:=by
     rcases List.mem_cons.1 h with e | e
     ·exact absurd e.symm hks
     ·exact e
    have ih:=By5 a s x ks vs (by simpa using hl) h';simp only[C6];rw[←ih];simp only[Act.put];rw[Array.setIfInBounds_comm _ _ hks]
theorem Cj9(a:Act):∀(ks:List Nat),a=C6 a ks (ks.map fun k=>a.tmps.getD k undef)
 | []=>rfl
 | k::ks=>by
   simp only[List.map_cons,C6];rw[←Cj9 a ks];simp only[Act.put];rcases a with⟨t,d⟩
   congr 1
   apply Array.ext_getElem?;intro i;rw[Array.getElem?_setIfInBounds];by_cases hik:k=i
   ·subst hik;rcases Nat.lt_or_ge k t.size with h | h
    ·simp[h]
    ·simp[Array.getElem?_eq_none h];omega
   ·simp[hik]
theorem Ea4{a:Act}{ks:List Nat}{vs:List Value}{s:Nat}(hb:∀k∈ks,k<a.tmps.size){v:Value}(h:(At3 ks vs s).getD (a.tmps.getD s undef)=v):(C6 a ks vs).eval (.tmp s)=v:=(By4 a s ks vs hb).trans h
theorem Bo5{ops:Array Oper}{i:Nat}{x:Op}{d:Option Tmp}{g:Option (Nat×Bool)}(h:(ops[i]?).map (fun o=>(o.op,o.dst,o.guard))=some (x,d,g)):∃o,ops[i]?=some o∧o.op=x∧o.dst=d∧o.guard=g:=by
 cases h2:ops[i]? with
 | none=>rw[h2] at h;cases h
 | some o=>
   rw[h2] at h;simp only[Option.map_some,Option.some.injEq,Prod.mk.injEq] at h;exact⟨o,rfl,h.1,h.2.1,h.2.2⟩
section
variable {P:Program} {ops:Array Oper} {Q:Exit→Act→World→Prop} {md:Region.Mode} {S:World→Prop}
end
theorem En8{P:Program}{o:Oper}{a:Act}{w:World}{K:Act→World→Prop}{Q:Exit→Act→World→Prop}{f:FuncId}{args:Array Operand}{ats:Array TypeId}{vals:Array Value}{R:Ending→World→Prop}
 (ho:o.op=.call {callee:=.value (.func f),args:=args,argTypes:=ats}) (hx:args.map a.eval=vals) (hrun:∀w,(callFunc f vals).run P w=.ok (.enter f vals) w) (hc:Calls P f vals w R)
 (h:∀e w',R e w'→∃v,e=.returned v∧K (a.put o.dst v) w'):o.wp P a w K Q:=by
 unfold Oper.wp execOp;have e0:a.eval (.func f)=.func (.func f) #[] #[]:=rfl;simp only[ho,resolve,hx,e0,Deferred.ofValue,invoke,Sem.run_bind,Sem.run_pure,Result.andThen_ok,Array.empty_append,Array.append_empty,hrun];rw[Oper.upon_enter];refine hc.mono fun e w' hR=>?_;obtain⟨v,rfl,hk⟩:=h e w' hR;exact hk
theorem Q4{P:Program}{o:Oper}{a:Act}{w:World}{K:Act→World→Prop}{Q:Exit→Act→World→Prop}(T:TypeId)(ho:o.op=.alloc T){cs:Array Value}(hrun:∀w,(Instr.alloc T true (.tuple #[])).run P w=.ok (.pointer (some ⟨w.heap.size,0,none⟩)) (w.alloc (.cells cs T)))
 (h:K (a.put o.dst (.pointer (some ⟨w.heap.size,0,none⟩))) (w.alloc (.cells cs T))):o.wp P a w K Q:=by
 unfold Oper.wp execOp;simp only[ho,Sem.run_bind,hrun,Result.andThen_ok];exact h
theorem Ax5{P:Program}{o:Oper}{a:Act}{w:World}{K:Act→World→Prop}{Q:Exit→Act→World→Prop}(T e:TypeId)(n:Nat)(parts:Array (Nat×Operand))(ho:o.op=.buildSlice T n parts){ps:Array (Nat×Value)}(hp:(parts.map fun(i,x)=>(i,a.eval x))=ps){cs:Array Value}
 (hrun:∀w,(Instr.buildSlice T n ps).run P w=.ok (.slice (some ⟨w.heap.size,0,none⟩) n n) (w.alloc (.cells cs e)))
 (h:K (a.put o.dst (.slice (some ⟨w.heap.size,0,none⟩) n n)) (w.alloc (.cells cs e))):o.wp P a w K Q:=by
 unfold Oper.wp execOp;simp only[ho,Sem.run_bind,hp,hrun,Result.andThen_ok];exact h
def M8(n:Nat):Code→Option Code
 | .region id ops b=>if id=n then some (.region id ops b) else none
 | .seq a b=>match M8 n a with
   | some c=>some c
   | none=>M8 n b
 | .block _ c=>M8 n c
 | .scope c=>M8 n c
 | .loop c=>M8 n c
 | .cond _ a b=>match M8 n a with
   | some c=>some c
   | none=>M8 n b
 | _=>none
end Go.Proofs.YtadpiemjgfndgaaGreatDoor
