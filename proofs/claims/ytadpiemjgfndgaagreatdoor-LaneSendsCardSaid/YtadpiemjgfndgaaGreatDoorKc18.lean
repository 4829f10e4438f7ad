/- Proved here, for use further on: LeA LeB LeD LeE LeJ1 Fig Fib Fic. Conditions: none but those each theorem names. -/
import Derived.Test.YtadpiemjgfndgaaGreatDoorKc00
import Derived.Test.YtadpiemjgfndgaaGreatDoorKc16
import Derived.Test.YtadpiemjgfndgaaGreatDoorKc12
import Derived.Test.YtadpiemjgfndgaaGreatDoorKc13
import Derived.Test.YtadpiemjgfndgaaGreatDoorKc04
import Derived.Test.YtadpiemjgfndgaaGreatDoorKc01
set_option linter.unusedSimpArgs false
set_option linter.unusedVariables false
set_option maxRecDepth 100000
set_option maxHeartbeats 8000000
namespace Go.Proofs.YtadpiemjgfndgaaGreatDoor
open Go.RowKit
structure Sl where
 a:Option Addr
 c:Nat
 l:List UInt8
abbrev Sl.v(s:Sl):Value:=.slice s.a s.l.length s.c
structure At4 (w:World) (s:Sl):Prop where
 b:A4 w s.a s.l
 le:s.l.length≤s.c
 max:s.c≤maxLen
theorem At4.mono{w w':World}{s:Sl}(h:At4 w s)(hb:Below w.heap.size w w'):At4 w' s:=⟨h.b.mono hb,h.le,h.max⟩
structure Gt where
 kind:Int
 e0:Int
 e1:Int
 seq:Int
 b:List UInt8
 deriving DecidableEq
instance:Inhabited Gt:=⟨⟨0,0,0,0,[]⟩⟩
structure Ev where
 id:Int
 k:Sl
 ph:Int
 s1:Sl
 s2:Sl
 pw:Int
 own:Int
 oth:Int
 seen:Int
 seq:Int
 wt:Int
 wb:Nat→UInt64
 r:Rg
 kc:List UInt8
 ko:List UInt8
 kp:List UInt8
 q:Qn5
 qa:Option Addr
 qc:Nat
 stan:Int
 day:Int
 ua:Option Addr
 uc:Nat
 u:List (List UInt8)
 h:Hv
 hs:Nat→Fd
 oa:Option Addr
 oc:Nat
 o:List (Int×List UInt8)
 ga:Option Addr
 gc:Nat
 g:List Gt
 c0:Int
 c1:Int
 c2:Int
 c3:Int
def A8(e:Ev):List Value:=
 [.int .i64 e.id,.slice e.k.a e.k.l.length e.k.c,.int .i64 e.ph,.slice e.s1.a e.s1.l.length e.s1.c,.slice e.s2.a e.s2.l.length e.s2.c,.int .i64 e.pw,.int .i64 e.own,.int .i64 e.oth,.int .i64 e.seen,.int .i64 e.seq]++
 (D5 e.wt e.wb++(e.r.L++(M7 e.q e.qa e.qc++([.int .i64 e.stan,.int .i64 e.day,.slice e.ua e.u.length e.uc]++(e.h.L++[.slice e.oa e.o.length e.oc,.slice e.ga e.g.length e.gc,.int .i64 e.c0,.int .i64 e.c1,.int .i64 e.c2,.int .i64 e.c3])))))
theorem I1(e:Ev):(A8 e).length=70:=by kernel_rfl
structure Sv where
 e:Ev
 i:Bool
 f:Bool
 ta:Option Addr
 tc:Nat
 es:List Ent
def A5(s:Sv):List Value:=A8 s.e++[.bool s.i,.slice s.ta s.es.length s.tc,.bool s.f]
theorem D9(s:Sv):(A5 s).length=73:=by kernel_rfl
def Ad6(w:World)(a:Option Addr)(l:List (Int×List UInt8)):Prop:=
 ∃vs:List Value,vs.length=l.length*2∧At w a vs∧∀i,i<l.length→vs.getD (i*2) undef=.int .i64 (l.getD i (0,[])).1∧V9 w (vs.getD (i*2+1) undef) (l.getD i (0,[])).2
theorem Ad6.mono{w w':World}{a:Option Addr}{l:List (Int×List UInt8)}(h:Ad6 w a l)(hb:Below w.heap.size w w'):Ad6 w' a l:=by
 obtain⟨vs,h1,h2,h3⟩:=h;exact⟨vs,h1,h2.mono hb,fun i hi=>⟨(h3 i hi).1,(h3 i hi).2.mono hb⟩⟩
theorem Ad6.nil(w:World)(a:Option Addr):Ad6 w a []:=⟨[],rfl,.inl rfl,fun i hi=>absurd hi (by simp)⟩
def Aj2(w:World)(a:Option Addr)(l:List Gt):Prop:=
 ∃vs:List Value,vs.length=l.length*5∧At w a vs∧∀i,i<l.length→vs.getD (i*5) undef=.int .i64 (l.getD i default).kind∧vs.getD (i*5+1) undef=.int .i64 (l.getD i default).e0∧vs.getD (i*5+2) undef=.int .i64 (l.getD i default).e1∧vs.getD (i*5+3) undef=.int .i64 (l.getD i default).seq∧V9 w (vs.getD (i*5+4) undef) (l.getD i default).b
theorem Aj2.mono{w w':World}{a:Option Addr}{l:List Gt}(h:Aj2 w a l)(hb:Below w.heap.size w w'):Aj2 w' a l:=by
 obtain⟨vs,h1,h2,h3⟩:=h;exact⟨vs,h1,h2.mono hb,fun i hi=>⟨(h3 i hi).1,(h3 i hi).2.1,(h3 i hi).2.2.1,(h3 i hi).2.2.2.1,(h3 i hi).2.2.2.2.mono hb⟩⟩
theorem Aj2.nil(w:World)(a:Option Addr):Aj2 w a []:=⟨[],rfl,.inl rfl,fun i hi=>absurd hi (by simp)⟩
structure Ae4 (w:World) (e:Ev):Prop where
 k:At4 w e.k
 s1:At4 w e.s1
 s2:At4 w e.s2
 r:Az7 w e.r e.kc e.ko e.kp
 rc:e.r.c.len≤e.r.c.cap∧e.r.c.cap≤maxLen
 ro:e.r.o.len≤e.r.o.cap∧e.r.o.cap≤maxLen
 rp:e.r.p.len≤e.r.p.cap∧e.r.p.cap≤maxLen
 q:A4 w e.qa e.q.body
 ql:e.q.body.length≤e.qc∧e.qc≤maxLen
 u:W6 w e.ua e.u
 ul:e.u.length≤e.uc∧e.uc≤maxLen
 h:Aq0 w e.h e.hs
 hl:∀i,i<4→(e.h.f i).len≤maxLen
 o:Ad6 w e.oa e.o
 ol:e.o.length≤e.oc∧e.oc≤maxLen
 g:Aj2 w e.ga e.g
 gl:e.g.length≤e.gc∧e.gc≤maxLen
 wt:-9223372036854775808≤e.wt∧e.wt≤9223372036854775807
theorem Ae4.mono{w w':World}{e:Ev}(h:Ae4 w e)(hb:Below w.heap.size w w'):Ae4 w' e:=
 ⟨h.k.mono hb,h.s1.mono hb,h.s2.mono hb,h.r.mono hb,h.rc,h.ro,h.rp,h.q.mono hb,h.ql,h.u.mono hb,h.ul,h.h.mono hb,h.hl,h.o.mono hb,h.ol,h.g.mono hb,h.gl,h.wt⟩
structure Aj3 (w:World) (s:Sv):Prop where
 e:Ae4 w s.e
 p:X7 w s.ta s.es
 pl:s.es.length≤s.tc∧s.tc≤maxLen
theorem Aj3.mono{w w':World}{s:Sv}(h:Aj3 w s)(hb:Below w.heap.size w w'):Aj3 w' s:=⟨h.e.mono hb,h.p.mono hb,h.pl⟩
theorem Q1:(Tryz.prog.info? 46).map (·.size)=some 70:=by kernel_rfl
theorem M6:(Tryz.prog.info? 51).map (·.size)=some 73:=by kernel_rfl
theorem Av7:(Tryz.prog.info? 24).map (·.size)=some 2:=by kernel_rfl
theorem Bb8:(Tryz.prog.info? 34).map (·.size)=some 5:=by kernel_rfl
theorem Bn6:(Tryz.prog.info? 40).map (·.size)=some 4:=by kernel_rfl
theorem Bg0(t:Int)(b:Nat→UInt64):(D5 t b).all (·.oneCell')=true:=List.all_eq_true.2 (Bl9 _ _)
theorem Ai6(e:Ev):(A8 e).all (·.oneCell')=true:=by
 unfold A8;simp only[List.all_append,Bg0,Bool.true_and,Bool.and_true];rfl
theorem J2(s:Sv):(A5 s).all (·.oneCell')=true:=by
 unfold A5;simp only[List.all_append,Ai6,Bool.true_and];rfl
def K9(w:World)(b:Nat)(e:Ev):Prop:=∃X,Blk w b (A8 e++X)
theorem Blk.endIn{w:World}{b:Nat}{e:Ev}(h:Blk w b (A8 e)):K9 w b e:=⟨[],by rwa [List.append_nil]⟩
theorem Blk.siteIn{w:World}{b:Nat}{s:Sv}(h:Blk w b (A5 s)):K9 w b s.e:=⟨_,h⟩
theorem K9.up{w w':World}{b:Nat}{e:Ev}(h:K9 w b e)(hb:Below w.heap.size w w'):K9 w' b e:=by
 obtain⟨X,hX⟩:=h;exact⟨X,hX.up hb⟩
theorem Eq5(e:Ev)(X:List Value)(i:Nat)(hi:i<70):(A8 e++X).getD i undef=(A8 e).getD i undef:=by
 rw[List.getD_eq_getElem?_getD,List.getD_eq_getElem?_getD,List.getElem?_append_left (by rw[I1];exact hi)]
theorem K9.cell{w:World}{b:Nat}{e:Ev}(h:K9 w b e)(i:Nat)(hi:i<70):w.cell? ⟨b,i,none⟩=some ((A8 e).getD i undef):=by
 obtain⟨X,hX⟩:=h;rw[hX.cell i (by rw[List.length_append,I1];omega),Eq5 e X i hi]
theorem K9.range{w:World}{b:Nat}{e:Ev}(h:K9 w b e)(A M Z:List Value)(i:Nat)(hi:A.length=i)(hL:A8 e=A++(M++Z)):w.rangeAt b i M:=fun j v hj=>by
 have hjl:j<M.length:=(List.getElem?_eq_some_iff.1 hj).1;have hlen:A.length+(M.length+Z.length)=70:=by have:=I1 e;rw[hL] at this;simpa using this
 rw[h.cell (i+j) (by omega),hL];subst hi;rw[List.getD_eq_getElem?_getD,List.getElem?_append_right (by omega),Nat.add_sub_cancel_left,List.getElem?_append_left hjl,hj];rfl
theorem K9.id{w:World}{b:Nat}{e:Ev}(h:K9 w b e):w.cell? ⟨b,0,none⟩=some (.int .i64 e.id):=h.cell 0 (by decide)
theorem K9.k{w:World}{b:Nat}{e:Ev}(h:K9 w b e):w.cell? ⟨b,1,none⟩=some (.slice e.k.a e.k.l.length e.k.c):=h.cell 1 (by decide)
theorem K9.ph{w:World}{b:Nat}{e:Ev}(h:K9 w b e):w.cell? ⟨b,2,none⟩=some (.int .i64 e.ph):=h.cell 2 (by decide)
theorem K9.pw{w:World}{b:Nat}{e:Ev}(h:K9 w b e):w.cell? ⟨b,5,none⟩=some (.int .i64 e.pw):=h.cell 5 (by decide)
theorem K9.own{w:World}{b:Nat}{e:Ev}(h:K9 w b e):w.cell? ⟨b,6,none⟩=some (.int .i64 e.own):=h.cell 6 (by decide)
theorem K9.oth{w:World}{b:Nat}{e:Ev}(h:K9 w b e):w.cell? ⟨b,7,none⟩=some (.int .i64 e.oth):=h.cell 7 (by decide)
theorem K9.seen{w:World}{b:Nat}{e:Ev}(h:K9 w b e):w.cell? ⟨b,8,none⟩=some (.int .i64 e.seen):=h.cell 8 (by decide)
theorem K9.seq{w:World}{b:Nat}{e:Ev}(h:K9 w b e):w.cell? ⟨b,9,none⟩=some (.int .i64 e.seq):=h.cell 9 (by decide)
theorem K9.cno{w:World}{b:Nat}{e:Ev}(h:K9 w b e):w.cell? ⟨b,27,none⟩=some (.int .i64 e.r.c.no):=h.cell 27 (by decide)
theorem K9.ck{w:World}{b:Nat}{e:Ev}(h:K9 w b e):w.cell? ⟨b,28,none⟩=some (.slice e.r.c.a e.r.c.len e.r.c.cap):=h.cell 28 (by decide)
theorem K9.pno{w:World}{b:Nat}{e:Ev}(h:K9 w b e):w.cell? ⟨b,31,none⟩=some (.int .i64 e.r.p.no):=h.cell 31 (by decide)
theorem K9.qcode{w:World}{b:Nat}{e:Ev}(h:K9 w b e):w.cell? ⟨b,35,none⟩=some (.int .i64 e.q.code):=h.cell 35 (by decide)
theorem K9.stan{w:World}{b:Nat}{e:Ev}(h:K9 w b e):w.cell? ⟨b,40,none⟩=some (.int .i64 e.stan):=h.cell 40 (by decide)
theorem K9.day{w:World}{b:Nat}{e:Ev}(h:K9 w b e):w.cell? ⟨b,41,none⟩=some (.int .i64 e.day):=h.cell 41 (by decide)
theorem K9.u{w:World}{b:Nat}{e:Ev}(h:K9 w b e):w.cell? ⟨b,42,none⟩=some (.slice e.ua e.u.length e.uc):=h.cell 42 (by decide)
theorem K9.qbody{w:World}{b:Nat}{e:Ev}(h:K9 w b e):w.cell? ⟨b,39,none⟩=some (.slice e.qa e.q.body.length e.qc):=h.cell 39 (by decide)
theorem K9.o{w:World}{b:Nat}{e:Ev}(h:K9 w b e):w.cell? ⟨b,64,none⟩=some (.slice e.oa e.o.length e.oc):=h.cell 64 (by decide)
theorem K9.g{w:World}{b:Nat}{e:Ev}(h:K9 w b e):w.cell? ⟨b,65,none⟩=some (.slice e.ga e.g.length e.gc):=h.cell 65 (by decide)
theorem K9.c0{w:World}{b:Nat}{e:Ev}(h:K9 w b e):w.cell? ⟨b,66,none⟩=some (.int .i64 e.c0):=h.cell 66 (by decide)
theorem K9.c1{w:World}{b:Nat}{e:Ev}(h:K9 w b e):w.cell? ⟨b,67,none⟩=some (.int .i64 e.c1):=h.cell 67 (by decide)
theorem K9.c2{w:World}{b:Nat}{e:Ev}(h:K9 w b e):w.cell? ⟨b,68,none⟩=some (.int .i64 e.c2):=h.cell 68 (by decide)
theorem K9.c3{w:World}{b:Nat}{e:Ev}(h:K9 w b e):w.cell? ⟨b,69,none⟩=some (.int .i64 e.c3):=h.cell 69 (by decide)
theorem K9.at_s{w:World}{b:Nat}{e:Ev}(h:K9 w b e):w.rangeAt b 3 ([.slice e.s1.a e.s1.l.length e.s1.c,.slice e.s2.a e.s2.l.length e.s2.c]):=h.range ((A8 e).take 3) _ ((A8 e).drop 5) 3 (by kernel_rfl) (by kernel_rfl)
theorem K9.at_w{w:World}{b:Nat}{e:Ev}(h:K9 w b e):w.rangeAt b 10 (D5 e.wt e.wb):=h.range ((A8 e).take 10) _ ((A8 e).drop 27) 10 (by kernel_rfl) (by kernel_rfl)
theorem K9.at_r{w:World}{b:Nat}{e:Ev}(h:K9 w b e):w.rangeAt b 27 (e.r.L):=h.range ((A8 e).take 27) _ ((A8 e).drop 35) 27 (by kernel_rfl) (by kernel_rfl)
theorem K9.at_q{w:World}{b:Nat}{e:Ev}(h:K9 w b e):w.rangeAt b 35 (M7 e.q e.qa e.qc):=h.range ((A8 e).take 35) _ ((A8 e).drop 40) 35 (by kernel_rfl) (by kernel_rfl)
theorem K9.at_h{w:World}{b:Nat}{e:Ev}(h:K9 w b e):w.rangeAt b 43 (e.h.L):=h.range ((A8 e).take 43) _ ((A8 e).drop 64) 43 (by kernel_rfl) (by kernel_rfl)
theorem K9.at_c{w:World}{b:Nat}{e:Ev}(h:K9 w b e):w.rangeAt b 66 ([.int .i64 e.c0,.int .i64 e.c1,.int .i64 e.c2,.int .i64 e.c3]):=h.range ((A8 e).take 66) _ ((A8 e).drop 70) 66 (by kernel_rfl) (by kernel_rfl)
def Sv.on(s:Sv)(e:Ev):Sv:={s with e:=e}
def Ev.s_ph(e:Ev)(x:Int):Ev:={e with ph:=x}
theorem Bv6(e:Ev)(x:Int):(A8 e).set 2 (.int .i64 x)=A8 (e.s_ph x):=by kernel_rfl
def Ev.s_own(e:Ev)(x:Int):Ev:={e with own:=x}
theorem Bg1(e:Ev)(x:Int):(A8 e).set 6 (.int .i64 x)=A8 (e.s_own x):=by kernel_rfl
def Ev.s_oth(e:Ev)(x:Int):Ev:={e with oth:=x}
theorem Az8(e:Ev)(x:Int):(A8 e).set 7 (.int .i64 x)=A8 (e.s_oth x):=by kernel_rfl
def Ev.s_seq(e:Ev)(x:Int):Ev:={e with seq:=x}
theorem Br4(e:Ev)(x:Int):(A8 e).set 9 (.int .i64 x)=A8 (e.s_seq x):=by kernel_rfl
theorem Bp1(s:Sv)(x:Int):(A5 s).set 9 (.int .i64 x)=A5 (s.on (s.e.s_seq x)):=by kernel_rfl
def Ev.s_id(e:Ev)(x:Int):Ev:={e with id:=x}
theorem Cx5(e:Ev)(x:Int):(A8 e).set 0 (.int .i64 x)=A8 (e.s_id x):=by kernel_rfl
def Ev.s_u0(e:Ev):Ev:={e with ua:=none,uc:=0,u:=[]}
theorem Bv7(e:Ev):(A8 e).set 42 (.slice none 0 0)=A8 (e.s_u0):=by kernel_rfl
def Ev.s_g(e:Ev)(a:Option Addr)(c:Nat)(l:List Gt):Ev:={e with ga:=a,gc:=c,g:=l}
theorem Dh0(e:Ev)(a:Option Addr)(c:Nat)(l:List Gt):(A8 e).set 65 (.slice a l.length c)=A8 (e.s_g a c l):=by kernel_rfl
def Ev.s_c0(e:Ev)(x:Int):Ev:={e with c0:=x}
theorem Cs1(s:Sv)(x:Int):(A5 s).set 66 (.int .i64 x)=A5 (s.on (s.e.s_c0 x)):=by kernel_rfl
def Ev.s_c1(e:Ev)(x:Int):Ev:={e with c1:=x}
theorem Cs2(s:Sv)(x:Int):(A5 s).set 67 (.int .i64 x)=A5 (s.on (s.e.s_c1 x)):=by kernel_rfl
def Ev.s_c2(e:Ev)(x:Int):Ev:={e with c2:=x}
theorem Cs3(s:Sv)(x:Int):(A5 s).set 68 (.int .i64 x)=A5 (s.on (s.e.s_c2 x)):=by kernel_rfl
def Ev.s_c3(e:Ev)(x:Int):Ev:={e with c3:=x}
theorem Cs4(s:Sv)(x:Int):(A5 s).set 69 (.int .i64 x)=A5 (s.on (s.e.s_c3 x)):=by kernel_rfl
def Ev.l_w(e:Ev)(t:Int)(b:Nat→UInt64):Ev:={e with wt:=t,wb:=b}
theorem Cb4(e:Ev)(t:Int)(b:Nat→UInt64):Av1 (A8 e) 10 (D5 t b)=A8 (e.l_w t b):=by kernel_rfl
theorem Cx6(s:Sv)(t:Int)(b:Nat→UInt64):Av1 (A5 s) 10 (D5 t b)=A5 (s.on (s.e.l_w t b)):=by kernel_rfl
def Ev.l_r(e:Ev)(r:Rg):Ev:={e with r:=r}
theorem Cb5(e:Ev)(r:Rg):Av1 (A8 e) 27 (r.L)=A8 (e.l_r r):=by kernel_rfl
theorem Cx7(s:Sv)(r:Rg):Av1 (A5 s) 27 (r.L)=A5 (s.on (s.e.l_r r)):=by kernel_rfl
def Ev.l_q0(e:Ev):Ev:={e with q:=⟨0,0,0,0,[]⟩,qa:=none,qc:=0}
theorem Bv8(e:Ev):Av1 (A8 e) 35 (M7 ⟨0,0,0,0,[]⟩ none 0)=A8 (e.l_q0):=by kernel_rfl
def Sv.l_p(s:Sv)(i f:Bool)(a:Option Addr)(c:Nat)(es:List Ent):Sv:={s with i:=i,f:=f,ta:=a,tc:=c,es:=es}
theorem Bv9(s:Sv)(i f:Bool)(a:Option Addr)(c:Nat)(es:List Ent):Av1 (A5 s) 70 [.bool i,.slice a es.length c,.bool f]=A5 (s.l_p i f a c es):=by kernel_rfl
theorem Blk.atE{w:World}{b:Nat}{s:Sv}(h:Blk w b (A5 s)):w.rangeAt b 0 (A8 s.e):=fun j v hj=>by
 have hjl:j<(A8 s.e).length:=(List.getElem?_eq_some_iff.1 hj).1;have h70:=I1 s.e;rw[h.cell (0+j) (by rw[D9];omega),Nat.zero_add];unfold A5;rw[List.getD_eq_getElem?_getD,List.getElem?_append_left hjl,hj];rfl
theorem Blk.atP{w:World}{b:Nat}{s:Sv}(h:Blk w b (A5 s)):w.rangeAt b 70 [.bool s.i,.slice s.ta s.es.length s.tc,.bool s.f]:=fun j v hj=>by
 have hjl:j<3:=(List.getElem?_eq_some_iff.1 hj).1;rw[h.cell (70+j) (by rw[D9];omega)];unfold A5;rw[List.getD_eq_getElem?_getD,List.getElem?_append_right (by rw[I1];omega),I1,Nat.add_sub_cancel_left,hj];rfl
theorem C9{ops:Array Oper}{rest:List Oper}{o:Oper}{a:Act}{w:World}{Q:Exit→Act→World→Prop}(ty:TypeId)(x:Operand)(g i:Nat){cs:List Value}(hw:Region.wanted o (yielded ops a.tmps)=true)(ho:o.op=.load ty x)
 (hx:a.eval x=.pointer (some ⟨g,i,none⟩)) (hS:w.rangeAt g i cs) {d:TypeDesc} (hu:Tryz.prog.underlying ty=some d) (hd:d.isRow=true) (hi:(Tryz.prog.info? ty).map (·.size)=some cs.length)
 (h:wpList Tryz.prog ops Q rest (a.put o.dst (.agg cs.toArray)) w):wpList Tryz.prog ops Q (o::rest) a w:=
 BigFrame.wpList_want hw fun _ hK=>wp_load_mid ty x ho g i hx cs d hS hu hd hi (hK _ _ h)
def C8(e:Ev):Int×Int:=if e.id=0 then(e.own,e.oth) else if e.id=1 then(e.oth,e.own) else(0,0)
abbrev Aw7(p:Int×Int):List Value:=[.int .i64 p.1,.int .i64 p.2]
abbrev Ev0(p:Int×Int):Value:=.agg #[.int .i64 p.1,.int .i64 p.2]
theorem Bn7{hi x:Int}(r:Bool)(hr:decide (0≤x∧x≤hi)=r)(W:World):
 Calls Tryz.prog 54 #[.int .i64 hi,.slice (some ⟨W.heap.size,0,none⟩) 1 1] (W.alloc (.cells #[.int .i64 x] 3)) fun e w'=>e=.returned (.bool r)∧Below W.heap.size W w':=
 (Bk7 hi W.heap.size 1 [x] (W.alloc (.cells #[.int .i64 x] 3)) (by simp) (Blk.new W [.int .i64 x] _)).mono fun e w' h=>⟨by rw[h.1,←hr];unfold Ad5;simp,by rw[←h.2];exact ba W _⟩
theorem At5:(Tryz.prog.info? 63).map (·.size)=some 2:=by kernel_rfl
theorem Ah8(e:Ev)(w:World):Calls Tryz.prog 44 #[.agg (A8 e).toArray] w fun x w'=>x=.returned (Ev0 (C8 e))∧Below w.heap.size w w':=by
 have HI:=Lh At5;go_enter Tryz.func44,Tryz.ntmps44
 go_upto_region 1 with(fail)
 generalize hW:World.alloc (World.alloc w _) _=W;obtain⟨B,B2,G⟩:=Aj8 (a:=A8 e) (b:=[.int .i64 0,.int .i64 0]) hW;clear hW;replace G:=Lh G;have L2:=Lh (show w.heap.size≤w.heap.size+1 by omega);generalize w.heap.size+1=n2 at B2 L2 ⊢;generalize hn1:w.heap.size=n1 at B ⊢;clear hn1;go_upto_region 2 with(fail)
 generalize hW:World.alloc W _=W3;have B3:=Lh (show Blk W3 W.heap.size [.int .i64 0,.int .i64 0] by rw[←hW];exact Blk.new W [.int .i64 0,.int .i64 0] _);have G3:=Lh (show Below W.heap.size W W3 by rw[←hW];exact ba W _);have N13:=Lh (show n1≠W.heap.size from Nat.ne_of_lt B.lt);have N23:=Lh (show n2≠W.heap.size from Nat.ne_of_lt B2.lt);have L3:=Lh G.out.size;replace B2:=Lh (B2.up G3.out);replace B:=Lh (B.up G3.out);replace G:=Lh (bt G.out G3.out);clear hW G3;generalize W.heap.size=n3 at B3 N13 N23 L3 ⊢;have P:=Lh (show C8 e=if e.id=0 then(e.own,e.oth) else if e.id=1 then(e.oth,e.own) else(0,0) from rfl);by_cases h:0≤e.id∧e.id≤1
 ·have hc:e.id=0∨e.id=1:=by omega
  clear h;have HW:=Lh (Bn7 (hi:=1) (x:=e.id) true (by rcases hc with hc | hc<;>rw[hc]<;>decide));have g0:=B.out.endIn.id;go_wp2_with fail
  refine(HW.out _).mono ?_;rintro x w4 ⟨rfl,hb⟩;replace B:=Lh (B.out.up hb);replace B2:=Lh (B2.out.up hb);replace B3:=Lh (B3.out.up hb);replace G:=Lh (bt G.out hb);clear g0 hb HW;have k0:=B.out.endIn.id;have k6:=B.out.endIn.own;have k7:=B.out.endIn.oth;have y0:=B3.out.cell 0 (by simp);have y1:=B3.out.cell 1 (by simp);have fz:=B3.out.frozen;have ne:=N13.out;have ne':=N13.out.symm;rcases hc with hc | hc
  ·rw[hc] at k0 P;go_wp2_with fail
   go_region
   all_goals
    generalize hW5:World.drew _=w5;have C3:=Lh (show Blk w5 n3 [.int .i64 e.own,.int .i64 e.oth] by rw[←hW5];exact((B3.out.set 0 _).set 1 _).drew);have C2:=Lh (show Blk w5 n2 [.int .i64 0,.int .i64 0] by rw[←hW5];exact(((B2.out.other _ N23.out _).other _ N23.out _).drew));have G5:=Lh (show Below w.heap.size w w5 by rw[←hW5];exact((G.out.setCell L3.out _).setCell L3.out _).trans ⟨rfl,rfl,rfl,Nat.le_refl _,fun _ _=>rfl⟩);clear hW5 k0 k6 k7 y0 y1 fz;go_wp2_with (first
     | (refine C4 63 (.tmp 3) n3 rfl rfl rfl C3.out Tryz.underlying63 rfl HI.out ?_)
     | (refine G9 63 (.tmp 2) (.tmp 19) n2 (cs:=Aw7 (e.own,e.oth)) rfl rfl rfl rfl C2.out HI.out rfl rfl ?_))
    refine bodyPost_ret (O3 rfl _ _ n2 (cs:=Aw7 (e.own,e.oth)) rfl (C2.out.row _) Tryz.underlying63 rfl HI.out) rfl ?_;exact⟨by rw[P.out];rfl,F5 G5.out L2.out _⟩
  ·rw[hc] at k0 P;go_wp2_with fail
   go_region
   all_goals
    generalize hW5:World.drew _=w5;have C3:=Lh (show Blk w5 n3 [.int .i64 e.oth,.int .i64 e.own] by rw[←hW5];exact((B3.out.set 1 _).set 0 _).drew);have C2:=Lh (show Blk w5 n2 [.int .i64 0,.int .i64 0] by rw[←hW5];exact(((B2.out.other _ N23.out _).other _ N23.out _).drew));have G5:=Lh (show Below w.heap.size w w5 by rw[←hW5];exact((G.out.setCell L3.out _).setCell L3.out _).trans ⟨rfl,rfl,rfl,Nat.le_refl _,fun _ _=>rfl⟩);clear hW5 k0 k6 k7 y0 y1 fz;go_wp2_with (first
     | (refine C4 63 (.tmp 3) n3 rfl rfl rfl C3.out Tryz.underlying63 rfl HI.out ?_)
     | (refine G9 63 (.tmp 2) (.tmp 19) n2 (cs:=Aw7 (e.oth,e.own)) rfl rfl rfl rfl C2.out HI.out rfl rfl ?_))
    refine bodyPost_ret (O3 rfl _ _ n2 (cs:=Aw7 (e.oth,e.own)) rfl (C2.out.row _) Tryz.underlying63 rfl HI.out) rfl ?_;exact⟨by rw[P.out];rfl,F5 G5.out L2.out _⟩
 ·have HW:=Lh (Bn7 (hi:=1) (x:=e.id) false (by rw[decide_eq_false h]));have g0:=B.out.endIn.id;have hp:C8 e=(0,0):=by unfold C8;rw[if_neg (by omega),if_neg (by omega)]
  replace P:=Lh hp;clear h hp;go_wp2_with fail
  refine(HW.out _).mono ?_;rintro x w4 ⟨rfl,hb⟩;replace B2:=Lh (B2.out.up hb);replace B3:=Lh (B3.out.up hb);replace G:=Lh (bt G.out hb);clear g0 hb HW;go_wp2_with (first
   | (refine C4 63 (.tmp 3) n3 rfl rfl rfl B3.out Tryz.underlying63 rfl HI.out ?_)
   | (refine G9 63 (.tmp 2) (.tmp 19) n2 (cs:=Aw7 (0,0)) rfl rfl rfl rfl B2.out HI.out rfl rfl ?_))
  refine bodyPost_ret (O3 rfl _ _ n2 (cs:=Aw7 (0,0)) rfl (B2.out.row _) Tryz.underlying63 rfl HI.out) rfl ?_;exact⟨by rw[P.out],F5 G.out L2.out _⟩
theorem Bw0(e:Ev)(w:World):Calls Tryz.prog 26 #[.agg (A8 e).toArray] w fun x w'=>x=.returned (Ev0 (C8 e))∧Below w.heap.size w w':=by
 have HI:=Lh At5;go_enter Tryz.func26,Tryz.ntmps26
 go_upto_region 1 with(fail)
 generalize hW:World.alloc (World.alloc w _) _=W;obtain⟨B,B2,G⟩:=Aj8 (a:=A8 e) (b:=[.int .i64 0,.int .i64 0]) hW;clear hW;replace G:=Lh G;have L2:=Lh (show w.heap.size≤w.heap.size+1 by omega);generalize w.heap.size+1=n2 at B2 L2 ⊢;generalize hn1:w.heap.size=n1 at B ⊢;clear hn1;have P:=Lh (show C8 e=if e.id=0 then(e.own,e.oth) else if e.id=1 then(e.oth,e.own) else(0,0) from rfl);have g0:=B.endIn.id;have g6:=B.endIn.own;have g7:=B.endIn.oth;have C2:=Lh B2;clear B B2;by_cases h0:e.id=0
 ·rw[h0] at g0 P;go_wp2_with (refine G9 63 (.tmp 2) (.tmp 10) n2 (cs:=Aw7 (e.own,e.oth)) rfl rfl rfl rfl C2.out HI.out rfl rfl ?_)
  refine bodyPost_ret (O3 rfl _ _ n2 (cs:=Aw7 (e.own,e.oth)) rfl (C2.out.row _) Tryz.underlying63 rfl HI.out) rfl ?_;exact⟨by rw[P.out];rfl,F5 G.out L2.out _⟩
 by_cases h1:e.id=1
 ·rw[h1] at g0 P;go_wp2_with (refine G9 63 (.tmp 2) (.tmp 18) n2 (cs:=Aw7 (e.oth,e.own)) rfl rfl rfl rfl C2.out HI.out rfl rfl ?_)
  refine bodyPost_ret (O3 rfl _ _ n2 (cs:=Aw7 (e.oth,e.own)) rfl (C2.out.row _) Tryz.underlying63 rfl HI.out) rfl ?_;exact⟨by rw[P.out];rfl,F5 G.out L2.out _⟩
 have e0:(e.id==0)=false:=by rw[beq_eq_false_iff_ne];exact h0
 have e1:(e.id==1)=false:=by rw[beq_eq_false_iff_ne];exact h1
 have hp:C8 e=(0,0):=by unfold C8;rw[if_neg h0,if_neg h1]
 replace P:=Lh hp;clear hp h0 h1;go_wp2_with (refine G9 63 (.tmp 2) (.tmp 19) n2 (cs:=Aw7 (0,0)) rfl rfl rfl rfl C2.out HI.out rfl rfl ?_)
 refine bodyPost_ret (O3 rfl _ _ n2 (cs:=Aw7 (0,0)) rfl (C2.out.row _) Tryz.underlying63 rfl HI.out) rfl ?_;exact⟨by rw[P.out],F5 G.out L2.out _⟩
def Au6(p:Int):Bool:=decide (p=3∨p=4∨p=5)
def U7(p:Int):Bool:=decide (2≤p∧p≤6)
def Bc3(p:Int):Int:=if p=0 then 0 else if p=1 then 1 else if p=2 then 2 else if p=3 then 3 else if p=4∨p=5 then 4 else if p=6 then 5 else-1
theorem Cb6(p:Int)(w:World):Calls Tryz.prog 131 #[.int .i64 p] w fun e w'=>e=.returned (.int .i64 (Bc3 p))∧w=w':=by
 by_cases hc:p=0∨p=1∨p=2∨p=3∨p=4∨p=5∨p=6
 ·rcases hc with rfl | rfl | rfl | rfl | rfl | rfl | rfl;all_goals
   go_enter Tryz.func131,Tryz.ntmps131
   go_wp2_with fail
   go_ret;exact⟨rfl,rfl⟩
 ·have HA:Bc3 p=-1:=by unfold Bc3;repeat rw[if_neg (by omega)]
  rw[HA];have e0:(p==0)=false:=by rw[beq_eq_false_iff_ne];omega
  have e1:(p==1)=false:=by rw[beq_eq_false_iff_ne];omega
  have e2:(p==2)=false:=by rw[beq_eq_false_iff_ne];omega
  have e3:(p==3)=false:=by rw[beq_eq_false_iff_ne];omega
  have e4:(p==4)=false:=by rw[beq_eq_false_iff_ne];omega
  have e5:(p==5)=false:=by rw[beq_eq_false_iff_ne];omega
  have e6:(p==6)=false:=by rw[beq_eq_false_iff_ne];omega
  clear hc HA;go_enter Tryz.func131,Tryz.ntmps131
  go_wp2_with fail
  go_ret;exact⟨rfl,rfl⟩
theorem Dh1(p:Int)(w:World):Calls Tryz.prog 163 #[.int .i64 p] w fun e w'=>e=.returned (.bool (Au6 p))∧w=w':=by
 have HK:=Lh (fun W=>Cb6 p W);have HG:=Lh (show Au6 p=(decide (Bc3 p=3) || decide (Bc3 p=4)) by
  unfold Au6 Bc3;rw[Bool.eq_iff_iff];simp only[decide_eq_true_eq,Bool.or_eq_true];repeat' split
  all_goals omega)
 generalize Bc3 p=k at HK HG;by_cases h3:k=3
 ·subst h3;go_enter Tryz.func163,Tryz.ntmps163
  go_wp2_with fail
  refine(HK.out _).mono ?_;rintro e w1 ⟨rfl,rfl⟩;go_wp2_with fail
  go_ret;exact⟨I5 (by rw[HG.out];rfl),rfl⟩
 ·have e3:(k==3)=false:=by rw[beq_eq_false_iff_ne];exact h3
  replace HG:=Lh (show Au6 p=(k==4) by rw[HG.out,decide_eq_false h3,Bool.false_or];rfl);clear h3;go_enter Tryz.func163,Tryz.ntmps163
  go_wp2_with fail
  refine(HK.out _).mono ?_;rintro e w1 ⟨rfl,rfl⟩;go_wp2_with fail
  refine(HK.out _).mono ?_;rintro e w1 ⟨rfl,rfl⟩;go_wp2_with fail
  go_ret;exact⟨I5 (by rw[HG.out]),rfl⟩
theorem Ak5(p:Int)(w:World):Calls Tryz.prog 59 #[.int .i64 p] w fun e w'=>e=.returned (.bool (U7 p))∧w=w':=by
 have HK:=Lh (fun W=>Cb6 p W);have HG:=Lh (show U7 p=decide (2≤Bc3 p) by
  unfold U7 Bc3;rw[Bool.eq_iff_iff];simp only[decide_eq_true_eq];repeat' split
  all_goals omega)
 generalize Bc3 p=k at HK HG;go_enter Tryz.func59,Tryz.ntmps59
 go_wp2_with fail
 refine(HK.out _).mono ?_;rintro e w1 ⟨rfl,rfl⟩;go_wp2_with fail
 go_ret;exact⟨I5 (by rw[HG.out]),rfl⟩
theorem Cx9(p:Int)(w:World):Calls Tryz.prog 151 #[.int .i64 p] w fun e w'=>e=.returned (.bool (Au6 p))∧w=w':=by
 have HK:=Lh (show ∀b,(b=true↔(p=3∨p=4∨p=5))→b=Au6 p from fun b h=>by unfold Au6;rw[Bool.eq_iff_iff,h,decide_eq_true_iff]);go_enter Tryz.func151,Tryz.ntmps151
 go_wp2_with fail
 all_goals
  go_ret;refine⟨I5 (HK.out _ ?_),rfl⟩
  (try simp only[Bool.false_eq_true,false_iff,true_iff,iff_true,iff_false,decide_eq_true_eq,Bool.and_eq_true,Bool.or_eq_true,beq_iff_eq,beq_eq_false_iff_ne,ne_eq] at *)
  omega
theorem Bp3(p:Int)(w:World):Calls Tryz.prog 39 #[.int .i64 p] w fun e w'=>e=.returned (.bool (U7 p))∧w=w':=by
 have HK:=Lh (show ∀b,(b=true↔(2≤p∧p≤6))→b=U7 p from fun b h=>by unfold U7;rw[Bool.eq_iff_iff,h,decide_eq_true_iff]);go_enter Tryz.func39,Tryz.ntmps39
 go_wp2_with fail
 all_goals
  go_ret;refine⟨I5 (HK.out _ ?_),rfl⟩
  (try simp only[Bool.false_eq_true,false_iff,true_iff,iff_true,iff_false,decide_eq_true_eq,Bool.and_eq_true,Bool.or_eq_true,beq_iff_eq,beq_eq_false_iff_ne,ne_eq] at *)
  omega
def Ab0(e:Ev):Bool:=decide (e.u.length≤8)&&((e.u.length==0 || Au6 e.ph)&&e.u.all fun r=>Q5 r.length)
theorem Cs5{e:Ev}(j:Nat)(hj:j<e.u.length)(h:Q5 (e.u.getD j []).length=false):Ab0 e=false:=by
 unfold Ab0;rw[show(e.u.all fun r=>Q5 r.length)=false by
  rw[Bool.eq_false_iff];intro hall;rw[List.all_eq_true] at hall;have:=hall (e.u[j]) (List.getElem_mem hj);simp[List.getD,hj] at h;rw[h] at this;cases this]
 simp
theorem Ck0{e:Ev}(h8:e.u.length≤8)(hg:e.u.length=0∨Au6 e.ph=true)(h:∀j,j<e.u.length→Q5 (e.u.getD j []).length=true):Ab0 e=true:=by
 unfold Ab0;rw[show(e.u.all fun r=>Q5 r.length)=true by
  rw[List.all_eq_true];intro r hr;obtain⟨j,hj,rfl⟩:=List.mem_iff_getElem.1 hr;have:=h j hj
  simpa [List.getD,hj] using this]
 rw[decide_eq_true h8,Bool.true_and,Bool.and_true];rcases hg with hg | hg
 ·rw[hg];rfl
 ·rw[hg,Bool.or_true]
theorem Cm0(e:Ev)(w:World)(h:W6 w e.ua e.u)(hm:e.u.length≤maxLen):Calls Tryz.prog 98 #[.agg (A8 e).toArray] w (F9 w (Ab0 e)):=by
 have HG:=Lh (fun W=>Dh1 e.ph W);have HNo:=Lh (fun j hj hb=>Cs5 (e:=e) j hj hb);have HYes:=Lh (Ck0 (e:=e));have H8:=Lh (show ¬e.u.length≤8→Ab0 e=false from fun h=>by unfold Ab0;rw[decide_eq_false h];rfl);have HGn:=Lh (show ¬e.u.length=0→Au6 e.ph=false→Ab0 e=false from fun h hg=>by unfold Ab0;rw[hg,show(e.u.length==0)=false by rw[beq_eq_false_iff_ne];exact h];simp);go_enter Tryz.func98,Tryz.ntmps98
 go_upto_region 1 with(fail)
 generalize hW:World.alloc w _=W;have B:Blk W w.heap.size (A8 e):=by rw[←hW];exact Blk.new w (A8 e) _
 have G:=Lh (show Below w.heap.size w W by rw[←hW];exact ba w _);have HR:=Lh (fun(i:Nat) (hi:i<e.u.length)=>h.old G.out i hi);have HM:=Lh hm;clear hW h hm;generalize w.heap.size=n1 at B ⊢;have g42:=B.endIn.u;have g2:=B.endIn.ph;clear B;generalize Au6 e.ph=g at HG HYes HGn;obtain⟨R,hR⟩:∃R,R=Ab0 e:=⟨_,rfl⟩;rw[←hR] at HNo HYes H8 HGn;have HE:=Lh hR;clear hR;generalize e.ph=p at g2 HG;generalize e.ua=ua at g42 HR;generalize e.uc=uc at g42;generalize e.u=rows at g42 HR HNo HYes H8 HGn HM;generalize hN:rows.length=N at g42 HR HNo HYes H8 HGn HM;clear hN;by_cases h8:N≤8
 ·by_cases h0:N=0
  ·subst h0;have HT:=Lh (HYes.out (by omega) (.inl rfl) (fun j hj=>absurd hj (by omega)));clear HYes HNo H8 HGn HR;go_wp2_with fail
   go_loopw [24] (fun v wx=>v=.int .i64 0∧W=wx) (fun v _=>0)
   case atStart=>exact⟨rfl,rfl⟩
   case round=>
    obtain⟨rfl,rfl⟩:=hrel;go_wp2_with fail
    go_ret;exact⟨I5 (HT.out.symm.trans HE.out),G.out⟩
  ·have k0:(0:Int)<(N:Int):=by omega
   have k8:¬(8:Int)<(N:Int):=by omega
   rcases g with _ | _
   ·have hF:=Lh (HGn.out h0 rfl);clear HYes HNo H8 HGn HR h8 h0;go_wp2_with fail
    refine(HG.out _).mono ?_;rintro x w2 ⟨rfl,rfl⟩;go_wp2_with fail
    go_ret;exact⟨I5 (hF.out.symm.trans HE.out),G.out⟩
   ·replace HYes:=Lh (HYes.out h8 (.inr rfl));clear H8 HGn h8 h0;go_wp2_with fail
    refine(HG.out _).mono ?_;rintro x w2 ⟨rfl,rfl⟩;clear HG;go_wp2_with fail
    go_loopw [24] (fun v wx=>∃j:Nat,j≤N∧v=.int .i64 (j:Int)∧(∀i,i<j→Q5 (rows.getD i []).length=true)∧W=wx) (fun v _=>N-(intOf v).toNat)
    case atStart=>exact⟨0,Nat.zero_le _,rfl,fun i h=>absurd h (Nat.not_lt_zero _),rfl⟩
    case round=>
     obtain⟨j,hj,rfl,hz,rfl⟩:=hrel;have HZ:=Lh hz;clear hz;by_cases hlt:j<N
     ·obtain⟨b,off,pp,cc,rfl,hbl,hcell,hp1,hp2,hat⟩:=HR.out j hlt;have HN:=Lh (HNo.out j hlt);have HX:=Lh (show ∀i,i<j+1→Q5 (rows.getD j []).length=true→Q5 (rows.getD i []).length=true from fun i hi hb=>by
       by_cases e:i=j
       ·subst e;exact hb
       ·exact HZ.out i (by omega))
      clear hbl hp1 hp2 hat
      generalize (rows.getD j []).length=L at hcell HN HX;have k1:(j:Int)<(N:Int):=by omega
      have k0:(0:Int)≤(j:Int):=by omega
      by_cases hx:1≤L∧L≤900
      ·have a1:¬(L:Int)<1:=by omega
       have a2:¬(900:Int)<(L:Int):=by omega
       have HB:=Lh (show Q5 L=true by unfold Q5;exact decide_eq_true hx);clear hx HN;go_wp2_with fail
       refine⟨⟨j+1,hlt,by go_num,fun i hi2=>HX.out i hi2 HB.out,by first | rfl | trivial⟩,?_⟩;simp[intOf];omega
      ·have hF:=Lh (HN.out (by unfold Q5;exact decide_eq_false hx));clear HN HX;by_cases a1:(L:Int)<1
       ·clear hx;go_wp2_with fail
        go_ret;exact⟨I5 (hF.out.symm.trans HE.out),G.out⟩
       ·have a2:(900:Int)<(L:Int):=by omega
        clear hx;go_wp2_with fail
        go_ret;exact⟨I5 (hF.out.symm.trans HE.out),G.out⟩
     ·have k1:¬(j:Int)<(N:Int):=by omega
      have hT:=Lh (HYes.out (fun i hi2=>HZ.out i (by omega)));clear HYes HNo HR;go_wp2_with fail
      go_ret;exact⟨I5 (hT.out.symm.trans HE.out),G.out⟩
 ·have hF:=Lh (H8.out h8);have k8:(8:Int)<(N:Int):=by omega
  clear HYes HNo H8 HGn HR h8;go_wp2_with fail
  go_ret;exact⟨I5 (hF.out.symm.trans HE.out),G.out⟩
theorem Cs6(e:Ev)(w:World)(h:W6 w e.ua e.u)(hm:e.u.length≤maxLen):Calls Tryz.prog 85 #[.agg (A8 e).toArray] w (F9 w (Ab0 e)):=by
 have HG:=Lh (fun W=>Cx9 e.ph W);have HNo:=Lh (fun j hj hb=>Cs5 (e:=e) j hj hb);have HYes:=Lh (Ck0 (e:=e));have H8:=Lh (show ¬e.u.length≤8→Ab0 e=false from fun h=>by unfold Ab0;rw[decide_eq_false h];rfl);have HGn:=Lh (show ¬e.u.length=0→Au6 e.ph=false→Ab0 e=false from fun h hg=>by unfold Ab0;rw[hg,show(e.u.length==0)=false by rw[beq_eq_false_iff_ne];exact h];simp);go_enter Tryz.func85,Tryz.ntmps85
 go_upto_region 1 with(fail)
 generalize hW:World.alloc w _=W;have B:Blk W w.heap.size (A8 e):=by rw[←hW];exact Blk.new w (A8 e) _
 have G:=Lh (show Below w.heap.size w W by rw[←hW];exact ba w _);have HR:=Lh (fun(i:Nat) (hi:i<e.u.length)=>h.old G.out i hi);have HM:=Lh hm;clear hW h hm;generalize w.heap.size=n1 at B ⊢;have g42:=B.endIn.u;have g2:=B.endIn.ph;clear B;generalize Au6 e.ph=g at HG HYes HGn;obtain⟨R,hR⟩:∃R,R=Ab0 e:=⟨_,rfl⟩;rw[←hR] at HNo HYes H8 HGn;have HE:=Lh hR;clear hR;generalize e.ph=p at g2 HG;generalize e.ua=ua at g42 HR;generalize e.uc=uc at g42;generalize e.u=rows at g42 HR HNo HYes H8 HGn HM;generalize hN:rows.length=N at g42 HR HNo HYes H8 HGn HM;clear hN;by_cases h8:N≤8
 ·by_cases h0:N=0
  ·subst h0;have HT:=Lh (HYes.out (by omega) (.inl rfl) (fun j hj=>absurd hj (by omega)));clear HYes HNo H8 HGn HR;go_wp2_with fail
   go_loopw [3] (fun v wx=>v=.int .i64 0∧W=wx) (fun v _=>0)
   case atStart=>exact⟨rfl,rfl⟩
   case round=>
    obtain⟨rfl,rfl⟩:=hrel;go_wp2_with fail
    go_ret;exact⟨I5 (HT.out.symm.trans HE.out),G.out⟩
  ·have k0:(0:Int)<(N:Int):=by omega
   have k8:¬(8:Int)<(N:Int):=by omega
   rcases g with _ | _
   ·have hF:=Lh (HGn.out h0 rfl);clear HYes HNo H8 HGn HR h8 h0;go_wp2_with fail
    refine(HG.out _).mono ?_;rintro x w2 ⟨rfl,rfl⟩;go_wp2_with fail
    go_ret;exact⟨I5 (hF.out.symm.trans HE.out),G.out⟩
   ·replace HYes:=Lh (HYes.out h8 (.inr rfl));clear H8 HGn h8 h0;go_wp2_with fail
    refine(HG.out _).mono ?_;rintro x w2 ⟨rfl,rfl⟩;clear HG;go_wp2_with fail
    go_loopw [3] (fun v wx=>∃j:Nat,j≤N∧v=.int .i64 (j:Int)∧(∀i,i<j→Q5 (rows.getD i []).length=true)∧W=wx) (fun v _=>N-(intOf v).toNat)
    case atStart=>exact⟨0,Nat.zero_le _,rfl,fun i h=>absurd h (Nat.not_lt_zero _),rfl⟩
    case round=>
     obtain⟨j,hj,rfl,hz,rfl⟩:=hrel;have HZ:=Lh hz;clear hz;by_cases hlt:j<N
     ·obtain⟨b,off,pp,cc,rfl,hbl,hcell,hp1,hp2,hat⟩:=HR.out j hlt;have HN:=Lh (HNo.out j hlt);have HX:=Lh (show ∀i,i<j+1→Q5 (rows.getD j []).length=true→Q5 (rows.getD i []).length=true from fun i hi hb=>by
       by_cases e:i=j
       ·subst e;exact hb
       ·exact HZ.out i (by omega))
      clear hbl hp1 hp2 hat
      generalize (rows.getD j []).length=L at hcell HN HX;have k1:(j:Int)<(N:Int):=by omega
      have k0:(0:Int)≤(j:Int):=by omega
      by_cases hx:1≤L∧L≤900
      ·have a1:¬(L:Int)<1:=by omega
       have a2:¬(900:Int)<(L:Int):=by omega
       have HB:=Lh (show Q5 L=true by unfold Q5;exact decide_eq_true hx);clear hx HN;go_wp2_with fail
       refine⟨⟨j+1,hlt,by go_num,fun i hi2=>HX.out i hi2 HB.out,by first | rfl | trivial⟩,?_⟩;simp[intOf];omega
      ·have hF:=Lh (HN.out (by unfold Q5;exact decide_eq_false hx));clear HN HX;by_cases a1:(L:Int)<1
       ·clear hx;go_wp2_with fail
        go_ret;exact⟨I5 (hF.out.symm.trans HE.out),G.out⟩
       ·have a2:(900:Int)<(L:Int):=by omega
        clear hx;go_wp2_with fail
        go_ret;exact⟨I5 (hF.out.symm.trans HE.out),G.out⟩
     ·have k1:¬(j:Int)<(N:Int):=by omega
      have hT:=Lh (HYes.out (fun i hi2=>HZ.out i (by omega)));clear HYes HNo HR;go_wp2_with fail
      go_ret;exact⟨I5 (hT.out.symm.trans HE.out),G.out⟩
 ·have hF:=Lh (H8.out h8);have k8:(8:Int)<(N:Int):=by omega
  clear HYes HNo H8 HGn HR h8;go_wp2_with fail
  go_ret;exact⟨I5 (hF.out.symm.trans HE.out),G.out⟩
section
variable {P:Program} {ops:Array Oper} {S:World→Prop}
theorem Bi9{w:World}{b o:Nat}{ty:TypeId}{v:Value}{d:TypeDesc}(hu:P.underlying ty=some d)(hd:d.isRow=false)(hc:w.cell? ⟨b,o,none⟩=some v):
 (Instr.loadAt ty (.pointer (some ⟨b,o,none⟩))).run P w=.ok v w:=by
 have hagg:(isAgg ty).run P w=.ok false w:=by
  unfold isAgg;rw[Sem.run_bind,run_underlying hu w];cases d<;>simp_all [TypeDesc.isRow]
 simp[Instr.loadAt,Instr.sureAddr,loadVar,Sem.run_bind,hagg,hc]
theorem By5{w:World}{b o:Nat}{ty:TypeId}{v u:Value}(hi:(P.info? ty).map (·.size)=some 1)(hv:v.oneCell'=true)(hc:w.cell? ⟨b,o,none⟩=some u)(hf:w.frozen? ⟨b,o,none⟩=false):
 (Instr.storeAt ty (.pointer (some ⟨b,o,none⟩)) v).run P w=.ok () (w.setCell ⟨b,o,none⟩ v):=by
 have h1:v.cells=#[v]:=by cases v<;>first | rfl | cases hv
 have:=run_storeCells_cells (P:=P) b o [v] 0 w (fun j hj=>by simp at hj;subst hj;simp[hc]) (fun j hj=>by simp at hj;subst hj;simpa using hf) (fun x hx=>by simp at hx;subst hx;exact hv);cases hq:P.info? ty with
 | none=>simp[hq] at hi
 | some i=>
   have hs:1=i.size:=by simp[hq] at hi;omega
   simp only[Nat.add_zero] at this;simp[Instr.storeAt,Instr.sureAddr,storeVar,sizeOf,typeInfo,hq,h1,←hs,this,World.setCells]
theorem Cs7{o:Oper}{a:Act}{w:World}{K:Act→World→Prop}{Q:Exit→Act→World→Prop}(ty:TypeId)(x:Operand)(ho:o.op=.load ty x)(b i:Nat)(hx:a.eval x=.pointer (some ⟨b,i,none⟩)){v:Value}(hc:w.cell? ⟨b,i,none⟩=some v)
 {d:TypeDesc} (hu:P.underlying ty=some d) (hd:d.isRow=false) (h:K (a.put o.dst v) w):Oper.wp P o a w K Q:=by
 unfold Oper.wp execOp;simp only[ho,hx,Bi9 hu hd hc,Sem.run_bind,Result.andThen_ok];exact h
theorem Bj0{o:Oper}{a:Act}{w:World}{K:Act→World→Prop}{Q:Exit→Act→World→Prop}(ty:TypeId)(x y:Operand)(ho:o.op=.store ty x y)(b i:Nat)(hx:a.eval x=.pointer (some ⟨b,i,none⟩)){v:Value}(hy:a.eval y=v){L:List Value}(hB:Blk w b L)(hl:i<L.length)
 (hi:(P.info? ty).map (·.size)=some 1) (hv:v.oneCell'=true) (h:K (a.put o.dst undef) (w.setCell ⟨b,i,none⟩ v)):Oper.wp P o a w K Q:=by
 unfold Oper.wp execOp;simp only[ho,hx,hy,By5 hi hv (hB.cell i hl) (hB.frozen i),Sem.run_bind,Result.andThen_ok];exact h
theorem Ck1{o:Oper}{a:Act}{w:World}{K:Act→World→Prop}{Q:Exit→Act→World→Prop}(s x:Operand)(t:TypeId)(ho:o.op=.call {callee:=.builtin .append,args:=#[s,x],argTypes:=#[t,t]}){sv xv v':Value}{w':World}(hs:a.eval s=sv)(hx:a.eval x=xv)
 (hr:(Builtin.append_ #[t,t] o.type #[sv,xv]).run P w=.ok v' w') (h:K (a.put o.dst v') w'):Oper.wp P o a w K Q:=by
 unfold Oper.wp execOp;simp only[ho,resolve,List.map_toArray,List.map_cons,List.map_nil,hs,hx,invoke,builtin,Sem.run_bind,Sem.run_pure,Result.andThen_ok,hr];exact h
theorem Bd7{o:Oper}{rest:List Oper}{a:Act}{w:World}{Q:Exit→Act→World→Prop}(s x:Operand)(t:TypeId)(hgd:o.guard=Option.none)(ho:o.op=.call {callee:=.builtin .append,args:=#[s,x],argTypes:=#[t,t]}){sv xv v':Value}{w':World}(hs:a.eval s=sv)(hx:a.eval x=xv)
 (hr:(Builtin.append_ #[t,t] o.type #[sv,xv]).run P w=.ok v' w') (h:wpList P ops Q rest (a.put o.dst v') w'):wpList P ops Q (o::rest) a w:=
 wpList_plain hgd fun K hK=>Ck1 s x t ho hs hx hr (hK _ _ h)
theorem Bk0{w:World}{d:Addr}{cs:List Value}(h:At w (some d) cs)(j:Nat)(u:Value)(hj:cs[j]?=some u):w.cell? (d.add j)=some u:=by
 have hjl:j<cs.length:=(List.getElem?_eq_some_iff.1 hj).1;rcases h with h | ⟨b',off,he,hlt,hc⟩
 ·rw[h] at hjl;simp at hjl
 ·cases he
  rw[WideShapes.add_plain,hc j hjl];simp[List.getD,hj]
theorem Ck2{t e:TypeId}{size bytes:Nat}{z:Value}(E:Ab4 P t e size bytes z)(hby:bytes≤1000){w:World}{sa:Option Addr}{n:Nat}{vs:List Value}(hS:At w sa vs)(hvl:vs.length=n*size)(hn:n≤100000)
 {sp:Addr} {c:Nat} {news:List Value} (hX:At w (some sp) news) (hnl:news.length=size) (h1:∀u∈news,u.oneCell'=true) (ty:TypeId):
 ∃a' c' w',(Builtin.append_ #[t,t] ty #[.slice sa n n,.slice (some sp) 1 c]).run P w=.ok (.slice a' (n+1) c') w'∧w'.ownsRow w.heap.size e size (.slice a' (n+1) c') (n+1) (vs++news)∧Below w.heap.size w w':=by
 obtain⟨i,hi,hz,hsz,hb⟩:=E.info;have hbb:(n+1)*bytes≤140737488355328:=Nat.le_trans (Nat.mul_le_mul_left _ hby) (by omega);rcases sa with _ | b
 ·have h0:vs=[]:=by
   rcases hS with h | ⟨_,_,h,-⟩
   ·exact h
   ·cases h
  subst h0;have hn0:n=0:=by
   rcases Nat.eq_zero_or_pos n with h | h
   ·exact h
   ·have:=Nat.mul_pos h E.pos;rw[←hvl] at this;simp at this
  subst hn0;obtain⟨a',c',w',hr,hown,hg⟩:=Be7 E (World.ownsRow_nil w w.heap.size e size) (m:=1) c hX (by rw[hnl,Nat.one_mul]) h1 (by decide) (by simpa using hbb) (Nat.le_refl _) ty;exact⟨a',c',w',by simpa using hr,by simpa using hown,⟨hg.os,hg.tape,hg.output,hg.size,fun k hk=>hg.block k hk (by simp[Value.ownBlock])⟩⟩
 ·obtain⟨v',w',hr,hown,hg⟩:=run_append_arg_grows (P:=P) w t ty e i z size bytes E.slice hi hz hsz hb E.zs E.pos b n n vs hvl (Bk0 hS) sp 1 c news (by rw[hnl,Nat.one_mul]) (Bk0 hX) (by omega) (by unfold maxLen;omega) hbb;obtain⟨a',c',rfl,-,-⟩:=S6 hown;exact⟨a',c',w',hr,hown,⟨hg.os,hg.tape,hg.output,hg.size,fun k hk=>hg.block k hk (by simp)⟩⟩
theorem Ed4(W:World)(e:TypeId)(size:Nat):(W.alloc (.cells #[] e)).ownsRow W.heap.size e size (.slice (some ⟨W.heap.size,0,none⟩) 0 0) 0 []:=
 ⟨by simp,.inr ⟨W.heap.size,0,#[],rfl,Nat.le_refl _,by simp only[World.alloc,Array.getElem?_push,if_true],Nat.le_refl _,Nat.zero_le _,by simp,by simp⟩⟩
theorem Ed5{t e:TypeId}{size bytes:Nat}{z:Value}(E:Ab4 P t e size bytes z)(hby:bytes≤1000){w:World}{B:Nat}{g:Addr}(hO:w.ownsRow B e size (.slice (some g) 0 0) 0 [])(hB:B≤w.heap.size){sp:Option Addr}{m c:Nat}{vs:List Value}(hS:At w sp vs)
 (hvl:vs.length=m*size) (hm:m≤100000) (ty:TypeId):
 ∃a' c' w',(Builtin.append_ #[t,t] ty #[.slice (some g) 0 0,.slice sp m c]).run P w=.ok (.slice a' m c') w'∧w'.ownsRow B e size (.slice a' m c') m vs∧Below w.heap.size w w':=by
 obtain⟨i,hi,hz,hsz,hb⟩:=E.info;by_cases h0:m=0
 ·subst h0;have hn:vs=[]:=List.eq_nil_of_length_eq_zero (by simpa using hvl);subst hn;have hf:∀x:Addr,(loadCells x 0).run P w=.ok #[] w:=fun x=>by simpa using run_loadCells_list (P:=P) w x [] (by simp)
  refine⟨some g,0,w,?_,hO,Below.refl _ _⟩;cases sp<;>simp[Builtin.append_,run_underlying E.slice,sizeOf,typeInfo,hi,Builtin.lenOf,Builtin.firstCells,hf,storeCells]
 ·rcases sp with _ | b
  ·rcases hS with rfl | ⟨_,_,h,-⟩
   ·have:=Nat.mul_pos (by omega:0<m) E.pos;rw[←hvl] at this;simp at this
   ·cases h
  ·obtain⟨v',w',hr,hown,hg⟩:=run_append_arg_grows (P:=P) w t ty e i z size bytes E.slice hi hz hsz hb E.zs E.pos g 0 0 [] (by simp) (fun j u h=>by simp at h) b m c vs hvl (Bk0 hS) (by omega) (by unfold maxLen;omega) (by rw[Nat.zero_add];have:=Nat.mul_le_mul_left m hby;omega);rw[Nat.zero_add] at hown;obtain⟨a',c',rfl,-,-⟩:=S6 hown;exact⟨a',c',w',hr,by simpa using As8 hown hB,⟨hg.os,hg.tape,hg.output,hg.size,fun k hk=>hg.block k hk (by simp)⟩⟩
theorem Ez0{B:Nat}{e:TypeId}{size:Nat}{w w':World}{v:Value}{n:Nat}{xs:List Value}(h:w.ownsRow B e size v n xs)(hb:Below w.heap.size w w'):w'.ownsRow B e size v n xs:=by
 obtain⟨h1,h2⟩:=h;refine⟨h1,?_⟩;rcases h2 with h2 | ⟨g,cap,cur,hv,hg,hh,r⟩
 ·exact .inl h2
 ·exact .inr ⟨g,cap,cur,hv,hg,by rw[hb.block g (Array.getElem?_eq_some_iff.1 hh).1];exact hh,r⟩
theorem Ch1{w:World}{base:Nat}{e:TypeId}{size n cap:Nat}{a:Option Addr}{xs:List Value}(h:w.ownsRow base e size (.slice a n cap) n xs):AtP (fun g=>base≤g) w a xs:=Ar6 h
end
structure Kp (b:Nat) (w0 w:World):Prop where
 os:w.os=w0.os
 tape:w.tape=w0.tape
 output:w.output=w0.output
 size:w0.heap.size≤w.heap.size
 blk:∀g,g<w0.heap.size→g≠b→w.heap[g]?=w0.heap[g]?
theorem Kp.of{b:Nat}{w0 w:World}(h:Below w0.heap.size w0 w):Kp b w0 w:=⟨h.os,h.tape,h.output,h.size,fun g hg _=>h.block g hg⟩
theorem Kp.refl(b:Nat)(w:World):Kp b w w:=⟨rfl,rfl,rfl,Nat.le_refl _,fun _ _ _=>rfl⟩
theorem Kp.up{b:Nat}{w0 w w':World}(h:Kp b w0 w)(hb:Below w.heap.size w w'):Kp b w0 w':=
 ⟨hb.os.trans h.os,hb.tape.trans h.tape,hb.output.trans h.output,Nat.le_trans h.size hb.size,fun g hg hn=>(hb.block g (Nat.lt_of_lt_of_le hg h.size)).trans (h.blk g hg hn)⟩
theorem Kp.set{b:Nat}{w0 w:World}(h:Kp b w0 w)(o:Nat)(v:Value):Kp b w0 (w.setCell ⟨b,o,none⟩ v):=
 ⟨h.os,h.tape,h.output,by simpa using h.size,fun g hg hn=>by rw[Below.heap_setCell _ _ _ _ hn];exact h.blk g hg hn⟩
theorem Kp.row{b:Nat}{w0 w:World}(h:Kp b w0 w)(ds:Array Value):Kp b w0 (w.setRow b ds):=
 ⟨h.os,h.tape,h.output,by simpa using h.size,fun g hg hn=>by rw[setRow_other w b g ds hn];exact h.blk g hg hn⟩
theorem Kp.cells{b:Nat}{w0:World}:∀(vs:List Value) (o:Nat) {w:World},Kp b w0 w→Kp b w0 (w.setCells b o vs)
 | [],_,_,h=>h
 | v::r,o,_,h=>by rw[World.setCells];exact Kp.cells r (o+1) (h.set o v)
theorem Kp.below{b:Nat}{W w0 w:World}(h:Kp b w0 w)(hb:Below W.heap.size W w0)(hn:W.heap.size≤b):Below W.heap.size W w:=
 hb.trans ⟨h.os,h.tape,h.output,h.size,fun g hg=>h.blk g (Nat.lt_of_lt_of_le hg hb.size) (Nat.ne_of_lt (Nat.lt_of_lt_of_le hg hn))⟩
theorem A6.kp{b g:Nat}{T:TypeId}{w0 w:World}{cs:List Value}(h:A6 T w0 g cs)(k:Kp b w0 w)(hn:g≠b):A6 T w g cs:=by
 unfold A6;rw[k.blk g h.blk.lt hn];exact h
theorem AtP.kp{b:Nat}{p q:Nat→Prop}{w0 w:World}{a:Option Addr}{cs:List Value}(h:AtP p w0 a cs)(k:Kp b w0 w)(hn:∀g,p g→g≠b∧q g):AtP q w a cs:=
 AtP.to h k.size fun g hg hp=>⟨k.blk g hg (hn g hp).1,(hn g hp).2⟩
theorem A6.cells{b:Nat}{T:TypeId}:∀(vs:List Value) (o:Nat) {w:World} {cs:List Value},A6 T w b cs→A6 T (w.setCells b o vs) b (Av1 cs o vs)
 | [],_,_,_,h=>h
 | v::r,o,_,_,h=>by rw[World.setCells];exact A6.cells r (o+1) (h.set o v)
theorem By6:Ab4 Tryz.prog 43 77 2 32 (.agg #[.int .i64 0,.slice none 0 0]):=Ab4.mk1 Tryz.underlying43 (by kernel_rfl) rfl (by decide)
theorem Ed6:Ab4 Tryz.prog 44 103 5 56 (.agg #[.int .i64 0,.int .i64 0,.int .i64 0,.int .i64 0,.slice none 0 0]):=Ab4.mk1 Tryz.underlying44 (by kernel_rfl) rfl (by decide)
theorem Ed7:∀w,(sizeOf 77).run Tryz.prog w=.ok 2 w:=by intro w;kernel_rfl
theorem Dh2:∀w,(sizeOf 103).run Tryz.prog w=.ok 5 w:=by intro w;kernel_rfl
section
variable {P:Program} {ops:Array Oper} {S:World→Prop} {md:Region.Mode} {Q:Exit→Act→World→Prop}
theorem An2(a:Act):∀(ks:List Nat) (vs:List Value),(C6 a ks vs).defers=a.defers
 | [],_=>by simp[C6]
 | _::_,[]=>by simp[C6]
 | k::ks,v::vs=>by simp[C6,Act.put,An2 a ks vs]
theorem Cc7{a:Act}{j s:Nat}{oj:Oper}{b:Bool}(hj:ops[j]?=some oj)(hd:oj.dst=some s)(hv:a.eval (.tmp s)=.bool b):yielded ops a.tmps j=some b:=by
 have h:a.tmps.getD s undef=.bool b:=hv;unfold yielded;rw[Array.getD_eq_getD_getElem?] at h;cases hs:a.tmps[s]? with
 | none=>rw[hs] at h;cases h
 | some v=>
   rw[hs] at h;simp only[Option.getD_some] at h;simp[hj,hd,hs,h]
theorem Er8{o oj:Oper}{a:Act}{j s:Nat}{b c:Bool}(hg:o.guard=some (j,b))(hj:ops[j]?=some oj)(hd:oj.dst=some s)(hv:a.eval (.tmp s)=.bool c)(hc:(c==b)=false):YieldsIf P ops S o undef a:=
 .inr ⟨by
  have h:¬c=b:=by simpa using hc
  simp[Region.wanted,hg,Cc7 hj hd hv,h],rfl⟩
end
theorem Ee7{P:Program}{o:Oper}{a:Act}{w:World}{K:Act→World→Prop}{Q:Exit→Act→World→Prop}{f:FuncId}{args:Array Operand}{ats:Array TypeId}{vals:Array Value}{R:Ending→World→Prop}
 (ho:o.op=.call {callee:=.value (.func f),args:=args,argTypes:=ats}) (hx:args.map a.eval=vals) (hrun:∀w,(callFunc f vals).run P w=.ok (.enter f vals) w) (hc:Calls P f vals w R)
 (h:∀e w',R e w'→(∃v,e=.returned v∧K (a.put o.dst v) w')∨(∃ch,e=.panicked ch∧Q (.panic ch) a w')):o.wp P a w K Q:=by
 unfold Oper.wp execOp;have e0:a.eval (.func f)=.func (.func f) #[] #[]:=rfl;simp only[ho,resolve,hx,e0,Deferred.ofValue,invoke,Sem.run_bind,Sem.run_pure,Result.andThen_ok,Array.empty_append,Array.append_empty,hrun];rw[Oper.upon_enter];refine hc.mono fun e w' hR=>?_;rcases h e w' hR with⟨v,rfl,hk⟩ | ⟨ch,rfl,hk⟩
 ·exact hk
 ·exact hk
section
variable {P:Program} (w:World) (x y:Operand)
theorem Ee8(t:TypeId)(a b:Int):(eqGuard .eql t x y (.int .i64 a) (.int .i64 b)).run P w=.ok () w∧(binOp .eql t (.int .i64 a) (.int .i64 b)).run P w=.ok (.bool (a==b)) w:=by
 constructor<;>simp[go_sem]
theorem Ee9(t:TypeId)(a b:Int):(eqGuard .neq t x y (.int .i64 a) (.int .i64 b)).run P w=.ok () w∧(binOp .neq t (.int .i64 a) (.int .i64 b)).run P w=.ok (.bool (a != b)) w:=by
 constructor<;>simp[go_sem]
theorem Bt5(t:TypeId)(a b:Int):(eqGuard .sub t x y (.int .i64 a) (.int .i64 b)).run P w=.ok () w∧(binOp .sub t (.int .i64 a) (.int .i64 b)).run P w=.ok (.int .i64 (wrap64 (a-b))) w:=by
 constructor<;>simp[go_sem,IntKind.wrap_i64,wrap64]
end
theorem Aq5(x y:Operand)(a b c d:Int)(w:World):(eqGuard .eql 63 x y (.agg #[.int .i64 a,.int .i64 b]) (.agg #[.int .i64 c,.int .i64 d])).run Tryz.prog w=.ok () w∧
 (binOp .eql 63 (.agg #[.int .i64 a,.int .i64 b]) (.agg #[.int .i64 c,.int .i64 d])).run Tryz.prog w=.ok (.bool ((a==c)&&(b==d))) w:=by
 refine⟨run_eqGuard_agg (P:=Tryz.prog) w .eql 63 x y _ _ (by kernel_rfl),?_⟩;rw[run_eql_struct];obtain⟨i,hi⟩:=Option.isSome_iff_exists.1 (show(Tryz.prog.info? 3).isSome=true by kernel_rfl);rw[run_equalIn_array w 9999 #[.int .i64 a,.int .i64 b] #[.int .i64 c,.int .i64 d] Tryz.underlying63 hi];have hc:Tryz.prog.cellsOf 3=1:=by kernel_rfl
 rw[hc];have p0:=fun(z z':Int)=>run_part_plain (P:=Tryz.prog) w (e:=3) (xs:=#[.int .i64 z,.int .i64 z']) (off:=0) (by kernel_rfl) rfl;have p1:=fun(z z':Int)=>run_part_plain (P:=Tryz.prog) w (e:=3) (xs:=#[.int .i64 z,.int .i64 z']) (off:=1) (by kernel_rfl) rfl;have q:=fun(z z':Int)=>run_equalIn_int (P:=Tryz.prog) w 9998 3 .i64 .i64 z z' Tryz.underlying3;have e:(List.range 2)=[0,1]:=by decide
 rw[e];cases h0:(a==c)<;>cases h1:(b==d)<;>simp[Op.eqItems,Sem.run_bind,p0,p1,q,h0,h1]
abbrev pt(b o:Nat):Value:=.pointer (some ⟨b,o,none⟩)
abbrev i6(x:Int):Value:=.int .i64 x
def Cn3:List (Nat×Value)→Nat→Option Value
 | (k,v)::r,s=>bif Nat.beq k s then some v else Cn3 r s
 | [],_=>none
def An3(ks:List Nat)(vs:List Value):List (Nat×Value)→List Value
 | []=>vs
 | (s,v)::r=>Bj9 ks (An3 ks vs r) s v
def inE(ks:List Nat)(env:List (Nat×Value)):Bool:=env.all fun p=>ks.contains p.1
theorem Cu0:∀(ks:List Nat) (vs:List Value) (s:Nat) (x:Value),(Bj9 ks vs s x).length=vs.length
 | [],vs,_,_=>by simp[Bj9]
 | _::_,[],_,_=>by simp[Bj9]
 | k::ks,v::vs,s,x=>by
   unfold Bj9;cases Nat.beq k s
   ·simp[Cu0 ks vs s x]
   ·simp
theorem By9(ks:List Nat)(vs:List Value):∀env,(An3 ks vs env).length=vs.length
 | []=>rfl
 | (s,v)::r=>by unfold An3;rw[Cu0,By9 ks vs r]
theorem Cc8(s t:Nat)(x:Value):∀(ks:List Nat) (vs:List Value),vs.length=ks.length→s∈ks→Au5 ks (Bj9 ks vs s x) t=bif Nat.beq s t then some x else Au5 ks vs t
 | [],_,_,h=>by simp at h
 | _::_,[],hl,_=>by simp at hl
 | k::ks,v::vs,hl,h=>by
   unfold Bj9;by_cases hks:k=s
   ·subst hks;rw[show Nat.beq k k=true from Nat.beq_refl k,cond_true];unfold Au5;cases Nat.beq k t<;>rfl
   ·rw[show Nat.beq k s=false from by rw[Bool.eq_false_iff];exact fun e=>hks (Nat.eq_of_beq_eq_true e),cond_false];have h':s∈ks:=by
     rcases List.mem_cons.1 h with e | e
     ·exact absurd e.symm hks
     ·exact e
    unfold Au5;rw[Cc8 s t x ks vs (by simpa using hl) h'];by_cases hkt:k=t
    ·subst hkt;rw[show Nat.beq k k=true from Nat.beq_refl k,show Nat.beq s k=false from by rw[Bool.eq_false_iff];exact fun e=>hks (Nat.eq_of_beq_eq_true e).symm];rfl
    ·rw[show Nat.beq k t=false from by rw[Bool.eq_false_iff];exact fun e=>hkt (Nat.eq_of_beq_eq_true e)];rfl
theorem Cc9(ks:List Nat)(vs:List Value)(hl:vs.length=ks.length)(t:Nat):∀env,inE ks env=true→Au5 ks (An3 ks vs env) t=(Cn3 env t).or (Au5 ks vs t)
 | [],_=>rfl
 | (s,v)::r,h=>by
   have h':ks.contains s=true∧inE ks r=true:=by simpa [inE] using h
   unfold An3 Cn3;rw[Cc8 s t v ks _ (by rw[By9];exact hl) (by simpa using h'.1),Cc9 ks vs hl t r h'.2];cases Nat.beq s t<;>rfl
def Bt6(a:Act)(ks:List Nat)(vs:List Value)(env:List (Nat×Value))(s:Nat):Value:=((Cn3 env s).or (Au5 ks vs s)).getD (a.tmps.getD s undef)
def evX(a:Act)(ks:List Nat)(vs:List Value)(env:List (Nat×Value)):Operand→Value
 | .tmp s=>Bt6 a ks vs env s
 | x=>a.eval x
theorem Bg9(a:Act)(ks:List Nat)(vs:List Value)(env:List (Nat×Value))(hb:∀k∈ks,k<a.tmps.size)(hl:vs.length=ks.length)(he:inE ks env=true)(x:Operand):(C6 a ks (An3 ks vs env)).eval x=evX a ks vs env x:=by
 cases x with
 | tmp s=>exact(Bx6 a s ks _ hb).trans (by rw[Cc9 ks vs hl s env he];rfl)
 | const v=>rfl
 | global g=>rfl
 | func f=>rfl
abbrev opx(ops:Array Oper)(i:Nat):Option (Op×Option Tmp×Option (Nat×Bool)):=(ops[i]?).map fun o=>(o.op,o.dst,o.guard)
section
variable {P:Program} {ops:Array Oper} {S:World→Prop} {md:Region.Mode} {Q:Exit→Act→World→Prop} {a:Act} {ks:List Nat} {vs:List Value} {env:List (Nat×Value)}
def Ad4(P:Program)(ops:Array Oper)(S:World→Prop)(a:Act)(ks:List Nat)(vs:List Value)(env:List (Nat×Value))(i s:Nat)(v:Value):Prop:=
 ∃o,ops[i]?=some o∧o.dst=some s∧∀a':Act,(∀x,a'.eval x=evX a ks vs env x)→YieldsIf P ops S o v a'
def Wn(ops:Array Oper)(a:Act)(ks:List Nat)(vs:List Value)(env:List (Nat×Value)):Option (Nat×Bool)→Prop
 | none=>True
 | some (j,b)=>∃op s g,opx ops j=some (op,some s,g)∧Bt6 a ks vs env s=.bool b
theorem Wn.wanted{g:Option (Nat×Bool)}(h:Wn ops a ks vs env g){o:Oper}(hg:o.guard=g){a':Act}(he:∀x,a'.eval x=evX a ks vs env x):Region.wanted o (yielded ops a'.tmps)=true:=by
 cases g with
 | none=>simp[Region.wanted,hg]
 | some q=>
   obtain⟨j,b⟩:=q;obtain⟨op,s,g',hx,hv⟩:=h;obtain⟨oj,hj,-,hd,-⟩:=Bn2 hx;simp[Region.wanted,hg,Cc7 hj hd ((he (.tmp s)).trans hv)]
theorem Ar1{i s:Nat}{op:Op}{g:Option (Nat×Bool)}{v:Value}(hx:opx ops i=some (op,some s,g))(hw:Wn ops a ks vs env g)(h:∀(o:Oper) (a':Act),o.op=op→(∀x,a'.eval x=evX a ks vs env x)→∀w,S w→(execOp a'.eval o).run P w=.ok (.value v) w):Ad4 P ops S a ks vs env i s v:=by
 obtain⟨o,ho,hop,hd,hg⟩:=Bn2 hx;exact⟨o,ho,hd,fun a' he=>.inl ⟨hw.wanted hg he,h o a' hop he⟩⟩
theorem Ff7{i s j t:Nat}{op op':Op}{g':Option (Nat×Bool)}{b c:Bool}(hx:opx ops i=some (op,some s,some (j,b)))(hj:opx ops j=some (op',some t,g'))(hv:Bt6 a ks vs env t=.bool c)(hc:(c==b)=false):Ad4 P ops S a ks vs env i s undef:=by
 obtain⟨o,ho,hop,hd,hg⟩:=Bn2 hx;obtain⟨oj,hoj,-,hdj,-⟩:=Bn2 hj;exact⟨o,ho,hd,fun a' he=>Er8 hg hoj hdj ((he (.tmp t)).trans hv) hc⟩
variable {i s:Nat} {g:Option (Nat×Bool)} {v:Value}
theorem Ez4{x:Operand}(hx:opx ops i=some (.move x,some s,g))(hw:Wn ops a ks vs env g)(h:evX a ks vs env x=v):Ad4 P ops S a ks vs env i s v:=
 Ar1 hx hw fun o a' ho he w _=>by
  unfold execOp;simp only[ho,he,h];rfl
theorem Ff8{x:Operand}(hx:opx ops i=some (.assign x,some s,g))(hw:Wn ops a ks vs env g)(h:evX a ks vs env x=v):Ad4 P ops S a ks vs env i s v:=
 Ar1 hx hw fun o a' ho he w _=>by
  unfold execOp;simp only[ho,he,h];rfl
theorem Ff9{x:Operand}{k:Nat}{l:Array Value}(hx:opx ops i=some (.extract x k,some s,g))(hw:Wn ops a ks vs env g)(h:evX a ks vs env x=.tuple l)(hv:l[k]?=some v):Ad4 P ops S a ks vs env i s v:=
 Ar1 hx hw fun o a' ho he w _=>by
  unfold execOp;simp only[ho,he,h,Instr.extract,hv];rfl
theorem Cu1{k:BinOp}{t u:TypeId}{x y:Operand}{xv yv:Value}(hx:opx ops i=some (.binOp k t x y u,some s,g))(hw:Wn ops a ks vs env g)(h1:evX a ks vs env x=xv)(h2:evX a ks vs env y=yv)
 (hrun:∀w,(eqGuard k t x y xv yv).run P w=.ok () w∧(binOp k t xv yv).run P w=.ok v w):Ad4 P ops S a ks vs env i s v:=
 Ar1 hx hw fun o a' ho he w _=>by
  unfold execOp;simp only[ho,he,h1,h2,Sem.run_bind,(hrun w).1,(hrun w).2,Result.andThen_ok];rfl
theorem Fg0{t:TypeId}{x:Operand}{b:Bool}(hx:opx ops i=some (.unOp .not t x,some s,g))(hw:Wn ops a ks vs env g)(h:evX a ks vs env x=.bool b):Ad4 P ops S a ks vs env i s (.bool (!b)):=
 Ar1 hx hw fun o a' ho he w _=>by
  unfold execOp;simp only[ho,he,h,Sem.run_bind];rfl
theorem Ez5{c x y:Operand}{t:Bool}(hx:opx ops i=some (.pick c x y,some s,g))(hw:Wn ops a ks vs env g)(hc:evX a ks vs env c=.bool t)(h:evX a ks vs env (bif t then x else y)=v):Ad4 P ops S a ks vs env i s v:=
 Ar1 hx hw fun o a' ho he w _=>by
  unfold execOp;cases t<;>simp only[cond_true,cond_false] at h<;>simp[ho,he,hc,h,asBool]
theorem Er9{t:TypeId}{x:Operand}{k:Nat}{xv:Value}(hx:opx ops i=some (.fieldAddr t x k,some s,g))(hw:Wn ops a ks vs env g)(h:evX a ks vs env x=xv)(hrun:∀w,(Instr.fieldAt t xv k).run P w=.ok v w):Ad4 P ops S a ks vs env i s v:=
 Ar1 hx hw fun o a' ho he w _=>by
  unfold execOp;simp only[ho,he,h,Sem.run_bind,hrun,Result.andThen_ok];rfl
theorem Es0{t:TypeId}{x y:Operand}{xv yv:Value}(hx:opx ops i=some (.indexAddr t x y,some s,g))(hw:Wn ops a ks vs env g)(h:evX a ks vs env x=xv)(h2:evX a ks vs env y=yv)(hrun:∀w,(Instr.indexAt t xv yv).run P w=.ok v w):Ad4 P ops S a ks vs env i s v:=
 Ar1 hx hw fun o a' ho he w _=>by
  unfold execOp;simp only[ho,he,h,h2,Sem.run_bind,hrun,Result.andThen_ok];rfl
theorem Fg1{x:Operand}{b:Addr}(hx:opx ops i=some (.nilCheck x,some s,g))(hw:Wn ops a ks vs env g)(h:evX a ks vs env x=.pointer (some b)):Ad4 P ops S a ks vs env i s (.pointer (some b)):=
 Ar1 hx hw fun o a' ho he w _=>by
  unfold execOp;simp only[ho,he,h];rfl
theorem Ez6{ty:TypeId}{x:Operand}{b n:Nat}(hx:opx ops i=some (.load ty x,some s,g))(hw:Wn ops a ks vs env g)(h:evX a ks vs env x=.pointer (some ⟨b,n,none⟩))(hS:∀w,S w→w.cell? ⟨b,n,none⟩=some v)
 {d:TypeDesc} (hu:P.underlying ty=some d) (hd:d.isRow=false):Ad4 P ops S a ks vs env i s v:=
 Ar1 hx hw fun o a' ho he w hw'=>by
  unfold execOp;simp only[ho,he,h,Bi9 hu hd (hS w hw'),Sem.run_bind,Result.andThen_ok];rfl
theorem Fg2{ty:TypeId}{x:Operand}{b n:Nat}{cs:List Value}(hx:opx ops i=some (.load ty x,some s,g))(hw:Wn ops a ks vs env g)(h:evX a ks vs env x=.pointer (some ⟨b,n,none⟩))(hS:∀w,S w→w.rangeAt b n cs)
 {d:TypeDesc} (hu:P.underlying ty=some d) (hd:d.isRow=true) (hi:(P.info? ty).map (·.size)=some cs.length):Ad4 P ops S a ks vs env i s (.agg cs.toArray):=
 Ar1 hx hw fun o a' ho he w hw'=>by
  unfold execOp;simp only[ho,he,h,run_loadAt_mid w b n ty cs d (hS w hw') hu hd hi,Sem.run_bind,Result.andThen_ok];rfl
theorem Es1{t:TypeId}{ps:Array (Nat×Operand)}{qs:Array (Nat×Value)}(hx:opx ops i=some (.build t ps,some s,g))(hw:Wn ops a ks vs env g)(hq:(ps.map fun(i,x)=>(i,evX a ks vs env x))=qs)(hrun:∀w,(Instr.build t qs).run P w=.ok v w):Ad4 P ops S a ks vs env i s v:=
 Ar1 hx hw fun o a' ho he w _=>by
  unfold execOp;simp only[ho,he,hq,Sem.run_bind,hrun,Result.andThen_ok];rfl
end
section
variable {P:Program} {ops:Array Oper} {S:World→Prop} {md:Region.Mode} {Q:Exit→Act→World→Prop} {a:Act} {ks:List Nat} {vs:List Value}
def Av8(P:Program)(ops:Array Oper)(S:World→Prop)(a:Act)(ks:List Nat)(vs:List Value):List (Nat×Nat×Value)→List (Nat×Value)→Prop
 | [],_=>True
 | (i,s,v)::r,env=>Ad4 P ops S a ks vs env i s v∧Av8 P ops S a ks vs r ((s,v)::env)
def Bk2:List (Nat×Nat×Value)→List (Nat×Value)→List (Nat×Value)
 | [],env=>env
 | (_,s,v)::r,env=>Bk2 r ((s,v)::env)
def W5(md:Region.Mode)(ops:Array Oper):Array Bool→List Nat→Bool
 | _,[]=>true
 | l,i::is=>Region.free md ops l i&&((Region.ready md ops l).contains i&&W5 md ops (l.setIfInBounds i true) is)
def Ab8:Array Bool→List Nat→Array Bool
 | l,[]=>l
 | l,i::is=>Ab8 (l.setIfInBounds i true) is
theorem Ba4(hb:∀k∈ks,k<a.tmps.size)(hl:vs.length=ks.length)(hs:Region.noSelect ops=true)(hP:∀c a d v w,Q (.panic c) (Act.put a d v) w→Q (.panic c) a w){w:World}(hS:S w){fuel:Nat}:
 ∀(bs:List (Nat×Nat×Value)) (env:List (Nat×Value)) (listed:Array Bool),inE ks env=true→bs.all (fun b=>ks.contains b.2.1)=true→W5 md ops listed (bs.map (·.1))=true→Av8 P ops S a ks vs bs env→
  wpAnyH P md ops Q S fuel (Ab8 listed (bs.map (·.1))) (C6 a ks (An3 ks vs (Bk2 bs env))) w→wpAnyH P md ops Q S (fuel+bs.length) listed (C6 a ks (An3 ks vs env)) w
 | [],env,listed,_,_,_,_,h=>h
 | (i,s,v)::r,env,listed,he,hk,hok,hy,h=>by
   obtain⟨⟨o,ho,hd,hyi⟩,hyr⟩:=hy;have hk':ks.contains s=true∧r.all (fun b=>ks.contains b.2.1)=true:=by simpa using hk
   simp only[List.map_cons,W5,Bool.and_eq_true] at hok;have hl':(An3 ks vs env).length=ks.length:=by rw[By9];exact hl
   refine wpAnyH_take ho hs hok.1 hok.2.1 (fun c a w=>hP c a _ _ w) (hyi _ (Bg9 a ks vs env hb hl he)) hS ?_;rw[hd,Bx7 a s v ks _ hl' (by simpa using hk'.1)];exact Ba4 hb hl hs hP hS r ((s,v)::env) _ (by simp only[inE,List.all_cons,hk'.1,Bool.true_and];exact he) hk'.2 hok.2.2 hyr h
theorem Dj9{i fuel fuel' s:Nat}{d:Option Tmp}{v:Value}{l lz:Array Bool}{w:World}(bs:List (Nat×Nat×Value))(hd:d=some s)(hb:∀k∈ks,k<a.tmps.size)(hl:vs.length=ks.length)(hs:Region.noSelect ops=true)
 (hP:∀c a d v w,Q (.panic c) (Act.put a d v) w→Q (.panic c) a w) (hS:S w) (hk:(ks.contains s&&bs.all fun b=>ks.contains b.2.1)=true) (hok:W5 md ops (l.setIfInBounds i true) (bs.map (·.1))=true)
 (hz:Ab8 (l.setIfInBounds i true) (bs.map (·.1))=lz) (hf:fuel=fuel'+bs.length) (hy:Av8 P ops S a ks vs bs [(s,v)])
 (h:wpAnyH P md ops Q S fuel' lz (C6 a ks (An3 ks vs (Bk2 bs [(s,v)]))) w):S w∧wpAnyH P md ops Q S fuel (l.setIfInBounds i true) ((C6 a ks vs).put d v) w:=by
 simp only[Bool.and_eq_true] at hk;refine⟨hS,?_⟩;rw[hd,Bx7 a s v ks vs hl (by simpa using hk.1),hf];refine Ba4 hb hl hs hP hS bs [(s,v)] _ ?_ hk.2 hok hy (hz▸h);simp only[inE,List.all_cons,hk.1,Bool.true_and,List.all_nil]
theorem Cy8{i fuel fuel':Nat}{d:Option Tmp}{v:Value}{l lz:Array Bool}{w:World}(bs:List (Nat×Nat×Value))(hd:d=none)(hb:∀k∈ks,k<a.tmps.size)(hl:vs.length=ks.length)(hs:Region.noSelect ops=true)
 (hP:∀c a d v w,Q (.panic c) (Act.put a d v) w→Q (.panic c) a w) (hS:S w) (hk:(bs.all fun b=>ks.contains b.2.1)=true) (hok:W5 md ops (l.setIfInBounds i true) (bs.map (·.1))=true)
 (hz:Ab8 (l.setIfInBounds i true) (bs.map (·.1))=lz) (hf:fuel=fuel'+bs.length) (hy:Av8 P ops S a ks vs bs [])
 (h:wpAnyH P md ops Q S fuel' lz (C6 a ks (An3 ks vs (Bk2 bs []))) w):S w∧wpAnyH P md ops Q S fuel (l.setIfInBounds i true) ((C6 a ks vs).put d v) w:=by
 refine⟨hS,?_⟩;rw[hd,hf];exact Ba4 hb hl hs hP hS bs [] _ rfl hk hok hy (hz▸h)
theorem Dk0{fuel' n:Nat}{lz:Array Bool}{w:World}(bs:List (Nat×Nat×Value))(hn:ops.size=n)(hb:∀k∈ks,k<a.tmps.size)(h0:a=C6 a ks vs)(hl:vs.length=ks.length)(hs:Region.noSelect ops=true)
 (hP:∀c a d v w,Q (.panic c) (Act.put a d v) w→Q (.panic c) a w) (hS:S w) (hk:(bs.all fun b=>ks.contains b.2.1)=true) (hok:W5 md ops (Array.replicate n false) (bs.map (·.1))=true)
 (hz:Ab8 (Array.replicate n false) (bs.map (·.1))=lz) (hf:n=fuel'+bs.length) (hy:Av8 P ops S a ks vs bs [])
 (h:wpAnyH P md ops Q S fuel' lz (C6 a ks (An3 ks vs (Bk2 bs []))) w):wpAnyH P md ops Q S ops.size (Array.replicate ops.size false) a w:=by
 have h1:wpAnyH P md ops Q S (fuel'+bs.length) (Array.replicate n false) (C6 a ks (An3 ks vs [])) w:=Ba4 hb hl hs hP hS bs [] _ rfl hk hok hy (hz▸h);rw[show C6 a ks (An3 ks vs [])=a from h0.symm] at h1;rw[hn];rw[←hf] at h1;exact h1
theorem Ef0{fuel fuel':Nat}{l lz:Array Bool}{w:World}{env:List (Nat×Value)}(bs:List (Nat×Nat×Value))(hb:∀k∈ks,k<a.tmps.size)(hl:vs.length=ks.length)(hs:Region.noSelect ops=true)
 (hP:∀c a d v w,Q (.panic c) (Act.put a d v) w→Q (.panic c) a w) (hS:S w) (he:inE ks env=true) (hk:(bs.all fun b=>ks.contains b.2.1)=true) (hok:W5 md ops l (bs.map (·.1))=true)
 (hz:Ab8 l (bs.map (·.1))=lz) (hf:fuel=fuel'+bs.length) (hy:Av8 P ops S a ks vs bs env)
 (h:wpAnyH P md ops Q S fuel' lz (C6 a ks (An3 ks vs (Bk2 bs env))) w):wpAnyH P md ops Q S fuel l (C6 a ks (An3 ks vs env)) w:=by
 rw[hf];exact Ba4 hb hl hs hP hS bs env _ he hk hok hy (hz▸h)
theorem Dk1{fuel i:Nat}{listed:Array Bool}{w:World}{rs:List Nat}{op:Op}{d:Option Tmp}{g:Option (Nat×Bool)}(hb:∀k∈ks,k<a.tmps.size)(hl:vs.length=ks.length)(hx:opx ops i=some (op,d,g))(hw:Wn ops a ks vs [] g)
 (h:∀o:Oper,o.op=op→o.dst=d→Oper.wp P o (C6 a ks vs) w (fun a' w'=>S w'∧wpAnyH P md ops Q S fuel (listed.setIfInBounds i true) a' w') Q)
 (hs:AllReadyH P md ops Q S fuel listed (C6 a ks vs) w rs):AllReadyH P md ops Q S fuel listed (C6 a ks vs) w (i::rs):=fun k hk=>by
 rcases List.mem_cons.1 hk with rfl | hk
 ·obtain⟨o,ho,hop,hd,hg⟩:=Bn2 hx;refine wpOp_step ho fun K' hK=>?_;rw[if_pos (show Region.wanted o (yielded ops (C6 a ks vs).tmps)=true from hw.wanted hg (Bg9 a ks vs [] hb hl rfl))];exact Oper.wp_mono (fun a w h=>hK a w h) (h o hop hd)
 ·exact hs k hk
end
section
variable {a:Act} {x y z u:Operand} {v1 v2 v3 v4:Value}
theorem ev1(h1:a.eval x=v1):(#[x]:Array Operand).map a.eval=#[v1]:=by simp[h1]
theorem ev2(h1:a.eval x=v1)(h2:a.eval y=v2):(#[x,y]:Array Operand).map a.eval=#[v1,v2]:=by simp[h1,h2]
theorem ev3(h1:a.eval x=v1)(h2:a.eval y=v2)(h3:a.eval z=v3):(#[x,y,z]:Array Operand).map a.eval=#[v1,v2,v3]:=by simp[h1,h2,h3]
theorem ev4(h1:a.eval x=v1)(h2:a.eval y=v2)(h3:a.eval z=v3)(h4:a.eval u=v4):(#[x,y,z,u]:Array Operand).map a.eval=#[v1,v2,v3,v4]:=by simp[h1,h2,h3,h4]
end
def lm(n m:Nat):Array Bool:=((List.range n).map (Nat.testBit m)).toArray
structure Rgn (ops:Array Oper) (ks:List Nat) (a:Act) (Q:Exit→Act→World→Prop):Prop where
 b:∀k∈ks,k<a.tmps.size
 s:Region.noSelect ops=true
 p:∀c a d v w,Q (.panic c) (Act.put a d v) w→Q (.panic c) a w
theorem U8(a:Act)(ks:List Nat):∃f:Nat→Value,a=C6 a ks (ks.map f):=⟨_,Cj7 a ks⟩
section
variable {P:Program} {ops:Array Oper} {S:World→Prop} {md:Region.Mode} {Q:Exit→Act→World→Prop} {a:Act} {ks:List Nat} {vs:List Value} {env:List (Nat×Value)}
variable {i s:Nat} {g:Option (Nat×Bool)} {v:Value}
theorem C7{j t:Nat}{op op':Op}{g':Option (Nat×Bool)}{b c:Bool}(hx:opx ops i=some (op,some s,some (j,b)):=by exact rfl)(hj:opx ops j=some (op',some t,g'):=by exact rfl)(hv:Bt6 a ks vs env t=.bool c:=by exact rfl)(hc:(c==b)=false:=by exact rfl):Ad4 P ops S a ks vs env i s undef:=Ff7 hx hj hv hc
theorem Ay0{j t:Nat}{op op':Op}{g':Option (Nat×Bool)}{b:Bool}(hx:opx ops i=some (op,some s,some (j,b)):=by exact rfl)(hj:opx ops j=some (op',some t,g'):=by exact rfl)(hv:Bt6 a ks vs env t=undef:=by exact rfl):Ad4 P ops S a ks vs env i s undef:=by
 obtain⟨o,ho,hop,hd,hg⟩:=Bn2 hx;obtain⟨oj,hoj,-,hdj,-⟩:=Bn2 hj;refine⟨o,ho,hd,fun a' he=>.inr ⟨?_,rfl⟩⟩;have h:a'.tmps.getD t undef=undef:=(he (.tmp t)).trans hv;have hy:yielded ops a'.tmps j=none:=by
  unfold yielded;rw[Array.getD_eq_getD_getElem?] at h;cases hs:a'.tmps[t]? with
  | none=>simp[hoj,hdj,hs]
  | some v=>rw[hs] at h;simp only[Option.getD_some] at h;subst h;simp[hoj,hdj,hs,undef]
 simp[Region.wanted,hg,hy]
theorem A9{x:Operand}(hx:opx ops i=some (.move x,some s,g))(h:evX a ks vs env x=v:=by exact rfl)(hw:Wn ops a ks vs env g:=by first | exact trivial | exact⟨_,_,_,rfl,rfl⟩):Ad4 P ops S a ks vs env i s v:=Ez4 hx hw h
theorem Ak6{x:Operand}(hx:opx ops i=some (.assign x,some s,g))(h:evX a ks vs env x=v:=by exact rfl)(hw:Wn ops a ks vs env g:=by first | exact trivial | exact⟨_,_,_,rfl,rfl⟩):Ad4 P ops S a ks vs env i s v:=Ff8 hx hw h
theorem O2{x:Operand}{k:Nat}{l:Array Value}(hx:opx ops i=some (.extract x k,some s,g))(h:evX a ks vs env x=.tuple l:=by exact rfl)(hv:l[k]?=some v:=by exact rfl)(hw:Wn ops a ks vs env g:=by first | exact trivial | exact⟨_,_,_,rfl,rfl⟩):Ad4 P ops S a ks vs env i s v:=Ff9 hx hw h hv
theorem Ba5{k:BinOp}{t u:TypeId}{x y:Operand}{xv yv:Value}(hx:opx ops i=some (.binOp k t x y u,some s,g))(hrun:∀w,(eqGuard k t x y xv yv).run P w=.ok () w∧(binOp k t xv yv).run P w=.ok v w)(h1:evX a ks vs env x=xv:=by exact rfl)(h2:evX a ks vs env y=yv:=by exact rfl)(hw:Wn ops a ks vs env g:=by first | exact trivial | exact⟨_,_,_,rfl,rfl⟩):Ad4 P ops S a ks vs env i s v:=Cu1 hx hw h1 h2 hrun
theorem Af5{t u:TypeId}{x y:Operand}{m n:Int}{r:Bool}(hx:opx ops i=some (.binOp .eql t x y u,some s,g))(h:(m==n)=r)(h1:evX a ks vs env x=.int .i64 m:=by exact rfl)(h2:evX a ks vs env y=.int .i64 n:=by exact rfl)(hw:Wn ops a ks vs env g:=by first | exact trivial | exact⟨_,_,_,rfl,rfl⟩):Ad4 P ops S a ks vs env i s (.bool r):=Cu1 hx hw h1 h2 fun w=>⟨(Ee8 w _ _ _ _ _).1,by rw[(Ee8 w x y _ _ _).2,h]⟩
theorem Aa1{t u:TypeId}{x y:Operand}{m n:Int}{r:Bool}(hx:opx ops i=some (.binOp .neq t x y u,some s,g))(h:(m != n)=r)(h1:evX a ks vs env x=.int .i64 m:=by exact rfl)(h2:evX a ks vs env y=.int .i64 n:=by exact rfl)(hw:Wn ops a ks vs env g:=by first | exact trivial | exact⟨_,_,_,rfl,rfl⟩):Ad4 P ops S a ks vs env i s (.bool r):=Cu1 hx hw h1 h2 fun w=>⟨(Ee9 w _ _ _ _ _).1,by rw[(Ee9 w x y _ _ _).2,h]⟩
theorem Ef1{t:TypeId}{x:Operand}{b:Bool}(hx:opx ops i=some (.unOp .not t x,some s,g))(hv:Value.bool (!b)=v:=by exact rfl)(h:evX a ks vs env x=.bool b:=by exact rfl)(hw:Wn ops a ks vs env g:=by first | exact trivial | exact⟨_,_,_,rfl,rfl⟩):Ad4 P ops S a ks vs env i s v:=hv▸Fg0 hx hw h
theorem J3{c x y:Operand}{t:Bool}(hx:opx ops i=some (.pick c x y,some s,g))(hc:evX a ks vs env c=.bool t:=by exact rfl)(h:evX a ks vs env (bif t then x else y)=v:=by exact rfl)(hw:Wn ops a ks vs env g:=by first | exact trivial | exact⟨_,_,_,rfl,rfl⟩):Ad4 P ops S a ks vs env i s v:=Ez5 hx hw hc h
theorem A7{t:TypeId}{x:Operand}{k:Nat}{xv:Value}(hx:opx ops i=some (.fieldAddr t x k,some s,g))(h:evX a ks vs env x=xv:=by exact rfl)(hw:Wn ops a ks vs env g:=by first | exact trivial | exact⟨_,_,_,rfl,rfl⟩)(hrun:∀w,(Instr.fieldAt t xv k).run P w=.ok v w:=by intro w;kernel_rfl):Ad4 P ops S a ks vs env i s v:=Er9 hx hw h hrun
theorem I8{t:TypeId}{x y:Operand}{xv yv:Value}(hx:opx ops i=some (.indexAddr t x y,some s,g))(h:evX a ks vs env x=xv:=by exact rfl)(h2:evX a ks vs env y=yv:=by exact rfl)(hrun:∀w,(Instr.indexAt t xv yv).run P w=.ok v w:=by intro w;kernel_rfl)(hw:Wn ops a ks vs env g:=by first | exact trivial | exact⟨_,_,_,rfl,rfl⟩):Ad4 P ops S a ks vs env i s v:=Es0 hx hw h h2 hrun
theorem Af9{x:Operand}{b:Addr}(hx:opx ops i=some (.nilCheck x,some s,g))(h:evX a ks vs env x=.pointer (some b):=by exact rfl)(hw:Wn ops a ks vs env g:=by first | exact trivial | exact⟨_,_,_,rfl,rfl⟩):Ad4 P ops S a ks vs env i s (.pointer (some b)):=Fg1 hx hw h
theorem D8{ty:TypeId}{x:Operand}{b n:Nat}(hx:opx ops i=some (.load ty x,some s,g))(hS:∀w,S w→w.cell? ⟨b,n,none⟩=some v)(h:evX a ks vs env x=.pointer (some ⟨b,n,none⟩):=by exact rfl)(hw:Wn ops a ks vs env g:=by first | exact trivial | exact⟨_,_,_,rfl,rfl⟩)
 (hu:(P.underlying ty).map TypeDesc.isRow=some false:=by kernel_rfl):Ad4 P ops S a ks vs env i s v:=by
 obtain⟨d,h1,h2⟩:=Option.map_eq_some_iff.1 hu;exact Ez6 hx hw h hS h1 h2
theorem S0{ty:TypeId}{x:Operand}{b n:Nat}{cs:List Value}(hx:opx ops i=some (.load ty x,some s,g))(hS:∀w,S w→w.rangeAt b n cs)(hi:(P.info? ty).map (·.size)=some cs.length)(h:evX a ks vs env x=.pointer (some ⟨b,n,none⟩):=by exact rfl)(hw:Wn ops a ks vs env g:=by first | exact trivial | exact⟨_,_,_,rfl,rfl⟩)
 (hu:(P.underlying ty).map TypeDesc.isRow=some true:=by kernel_rfl):Ad4 P ops S a ks vs env i s (.agg cs.toArray):=by
 obtain⟨d,h1,h2⟩:=Option.map_eq_some_iff.1 hu;exact Fg2 hx hw h hS h1 h2 hi
theorem Ae8{t:TypeId}{ps:Array (Nat×Operand)}(qs:Array (Nat×Value))(hx:opx ops i=some (.build t ps,some s,g))(hq:(ps.map fun(i,x)=>(i,evX a ks vs env x))=qs:=by simp only[List.map_toArray,List.map_cons,List.map_nil];rfl)(hw:Wn ops a ks vs env g:=by first | exact trivial | exact⟨_,_,_,rfl,rfl⟩)(hrun:∀w,(Instr.build t qs).run P w=.ok v w:=by intro w;kernel_rfl):Ad4 P ops S a ks vs env i s v:=Es1 hx hw hq hrun
theorem T4{fuel:Nat}{l:Array Bool}{a:Act}{w:World}(h:Q .normal a w)(hr:Region.ready md ops l=[]:=by kernel_rfl):wpAnyH P md ops Q S fuel l a w:=wpAnyH_done hr h fuel
theorem D7{fuel:Nat}{l:Array Bool}{a:Act}{w:World}(rs:List Nat)(h:AllReadyH P md ops Q S fuel l a w rs)(hr:Region.ready md ops l=rs:=by kernel_rfl)(hn:rs≠[]:=by simp):wpAnyH P md ops Q S (fuel+1) l a w:=wpAnyH_ready hr hn h
theorem D0{fuel i:Nat}{listed:Array Bool}{w:World}{rs:List Nat}{op:Op}{d:Option Tmp}{g:Option (Nat×Bool)}(R:Rgn ops ks a Q)(hx:opx ops i=some (op,d,g))
 (h:∀o:Oper,o.op=op→o.dst=d→Oper.wp P o (C6 a ks vs) w (fun a' w'=>S w'∧wpAnyH P md ops Q S fuel (listed.setIfInBounds i true) a' w') Q)
 (hs:AllReadyH P md ops Q S fuel listed (C6 a ks vs) w rs) (hl:vs.length=ks.length:=by exact rfl) (hw:Wn ops a ks vs [] g:=by first | exact trivial | exact⟨_,_,_,rfl,rfl⟩):AllReadyH P md ops Q S fuel listed (C6 a ks vs) w (i::rs):=Dk1 R.b hl hx hw h hs
theorem G8{i fuel fuel' s:Nat}{d:Option Tmp}{v:Value}{l lz:Array Bool}{w:World}(R:Rgn ops ks a Q)(bs:List (Nat×Nat×Value))(hd:d=some s)(hS:S w)(hy:Av8 P ops S a ks vs bs [(s,v)])
 (h:wpAnyH P md ops Q S fuel' lz (C6 a ks (An3 ks vs (Bk2 bs [(s,v)]))) w) (hl:vs.length=ks.length:=by exact rfl) (hk:(ks.contains s&&bs.all fun b=>ks.contains b.2.1)=true:=by exact rfl) (hok:W5 md ops (l.setIfInBounds i true) (bs.map (·.1))=true:=by kernel_rfl)
 (hz:Ab8 (l.setIfInBounds i true) (bs.map (·.1))=lz:=by kernel_rfl) (hf:fuel=fuel'+bs.length:=by exact rfl):S w∧wpAnyH P md ops Q S fuel (l.setIfInBounds i true) ((C6 a ks vs).put d v) w:=
 Dj9 bs hd R.b hl R.s R.p hS hk hok hz hf hy h
theorem Ab3{i fuel fuel':Nat}{d:Option Tmp}{v:Value}{l lz:Array Bool}{w:World}(R:Rgn ops ks a Q)(bs:List (Nat×Nat×Value))(hd:d=none)(hS:S w)(hy:Av8 P ops S a ks vs bs [])
 (h:wpAnyH P md ops Q S fuel' lz (C6 a ks (An3 ks vs (Bk2 bs []))) w) (hl:vs.length=ks.length:=by exact rfl) (hk:(bs.all fun b=>ks.contains b.2.1)=true:=by exact rfl) (hok:W5 md ops (l.setIfInBounds i true) (bs.map (·.1))=true:=by kernel_rfl)
 (hz:Ab8 (l.setIfInBounds i true) (bs.map (·.1))=lz:=by kernel_rfl) (hf:fuel=fuel'+bs.length:=by exact rfl):S w∧wpAnyH P md ops Q S fuel (l.setIfInBounds i true) ((C6 a ks vs).put d v) w:=
 Cy8 bs hd R.b hl R.s R.p hS hk hok hz hf hy h
theorem M5{fuel':Nat}(n:Nat){lz:Array Bool}{w:World}(R:Rgn ops ks a Q)(bs:List (Nat×Nat×Value))(h0:a=C6 a ks vs)(hS:S w)(hy:Av8 P ops S a ks vs bs [])
 (h:wpAnyH P md ops Q S fuel' lz (C6 a ks (An3 ks vs (Bk2 bs []))) w) (hl:vs.length=ks.length:=by exact rfl) (hn:ops.size=n:=by kernel_rfl) (hk:(bs.all fun b=>ks.contains b.2.1)=true:=by exact rfl) (hok:W5 md ops (Array.replicate n false) (bs.map (·.1))=true:=by kernel_rfl)
 (hz:Ab8 (Array.replicate n false) (bs.map (·.1))=lz:=by kernel_rfl) (hf:n=fuel'+bs.length:=by exact rfl):wpAnyH P md ops Q S ops.size (Array.replicate ops.size false) a w:=
 Dk0 bs hn R.b h0 hl R.s R.p hS hk hok hz hf hy h
theorem Al8{fuel fuel':Nat}{l lz:Array Bool}{w:World}(R:Rgn ops ks a Q)(bs:List (Nat×Nat×Value))(hS:S w)(hy:Av8 P ops S a ks vs bs env)
 (h:wpAnyH P md ops Q S fuel' lz (C6 a ks (An3 ks vs (Bk2 bs env))) w) (hl:vs.length=ks.length:=by exact rfl) (he:inE ks env=true:=by exact rfl) (hk:(bs.all fun b=>ks.contains b.2.1)=true:=by exact rfl) (hok:W5 md ops l (bs.map (·.1))=true:=by kernel_rfl)
 (hz:Ab8 l (bs.map (·.1))=lz:=by kernel_rfl) (hf:fuel=fuel'+bs.length:=by exact rfl):wpAnyH P md ops Q S fuel l (C6 a ks (An3 ks vs env)) w:=
 Ef0 bs R.b hl R.s R.p hS he hk hok hz hf hy h
theorem Rgn.ev(R:Rgn ops ks a Q){s:Nat}{v:Value}(h:Bt6 a ks vs [] s=v:=by exact rfl):(C6 a ks vs).eval (.tmp s)=v:=Eb6 R.b h
variable {x y z u:Operand}
theorem Rgn.ev0(R:Rgn ops ks a Q)(v:Value)(h:evX a ks vs [] x=v)(hl:vs.length=ks.length):(C6 a ks vs).eval x=v:=(Bg9 a ks vs [] R.b hl rfl x).trans h
theorem Rgn.parts(R:Rgn ops ks a Q){parts:Array (Nat×Operand)}{ps:Array (Nat×Value)}(h:(parts.map fun(i,x)=>(i,evX a ks vs [] x))=ps:=by simp only[List.map_toArray,List.map_cons,List.map_nil];rfl)(hl:vs.length=ks.length:=by exact rfl):(parts.map fun(i,x)=>(i,(C6 a ks vs).eval x))=ps:=by
 rw[←h];congr 1;funext p;obtain⟨i,x⟩:=p;exact congrArg (Prod.mk i) (Bg9 a ks vs [] R.b hl rfl x)
theorem Rgn.ev1(R:Rgn ops ks a Q)(v1:Value)(h1:evX a ks vs [] x=v1:=by exact rfl)(hl:vs.length=ks.length:=by exact rfl):(#[x]:Array Operand).map (C6 a ks vs).eval=#[v1]:=Go.Proofs.YtadpiemjgfndgaaGreatDoor.ev1 (R.ev0 _ h1 hl)
theorem Rgn.ev2(R:Rgn ops ks a Q)(v1 v2:Value)(h1:evX a ks vs [] x=v1:=by exact rfl)(h2:evX a ks vs [] y=v2:=by exact rfl)(hl:vs.length=ks.length:=by exact rfl):(#[x,y]:Array Operand).map (C6 a ks vs).eval=#[v1,v2]:=Go.Proofs.YtadpiemjgfndgaaGreatDoor.ev2 (R.ev0 _ h1 hl) (R.ev0 _ h2 hl)
theorem Rgn.ev3(R:Rgn ops ks a Q)(v1 v2 v3:Value)(h1:evX a ks vs [] x=v1:=by exact rfl)(h2:evX a ks vs [] y=v2:=by exact rfl)(h3:evX a ks vs [] z=v3:=by exact rfl)(hl:vs.length=ks.length:=by exact rfl):(#[x,y,z]:Array Operand).map (C6 a ks vs).eval=#[v1,v2,v3]:=Go.Proofs.YtadpiemjgfndgaaGreatDoor.ev3 (R.ev0 _ h1 hl) (R.ev0 _ h2 hl) (R.ev0 _ h3 hl)
theorem Rgn.ev4(R:Rgn ops ks a Q)(v1 v2 v3 v4:Value)(h1:evX a ks vs [] x=v1:=by exact rfl)(h2:evX a ks vs [] y=v2:=by exact rfl)(h3:evX a ks vs [] z=v3:=by exact rfl)(h4:evX a ks vs [] u=v4:=by exact rfl)(hl:vs.length=ks.length:=by exact rfl):(#[x,y,z,u]:Array Operand).map (C6 a ks vs).eval=#[v1,v2,v3,v4]:=Go.Proofs.YtadpiemjgfndgaaGreatDoor.ev4 (R.ev0 _ h1 hl) (R.ev0 _ h2 hl) (R.ev0 _ h3 hl) (R.ev0 _ h4 hl)
end
theorem M0{P:Program}{o:Oper}{a:Act}{w:World}{K:Act→World→Prop}{Q:Exit→Act→World→Prop}{f:FuncId}{args:Array Operand}{ats:Array TypeId}{vals:Array Value}{R:Ending→World→Prop}
 (ho:o.op=.call {callee:=.value (.func f),args:=args,argTypes:=ats}) (hx:args.map a.eval=vals) (hc:Calls P f vals w R)
 (h:∀e w',R e w'→∃v,e=.returned v∧K (a.put o.dst v) w') (hrun:∀w,(callFunc f vals).run P w=.ok (.enter f vals) w:=by intro w;kernel_rfl):o.wp P a w K Q:=Eo3 ho hx hrun hc h
theorem Bl3{P:Program}{o:Oper}{a:Act}{w:World}{K:Act→World→Prop}{Q:Exit→Act→World→Prop}{f:FuncId}{args:Array Operand}{ats:Array TypeId}{vals:Array Value}{R:Ending→World→Prop}
 (ho:o.op=.call {callee:=.value (.func f),args:=args,argTypes:=ats}) (hx:args.map a.eval=vals) (hc:Calls P f vals w R)
 (h:∀e w',R e w'→(∃v,e=.returned v∧K (a.put o.dst v) w')∨(∃ch,e=.panicked ch∧Q (.panic ch) a w')) (hrun:∀w,(callFunc f vals).run P w=.ok (.enter f vals) w:=by intro w;kernel_rfl):o.wp P a w K Q:=Ee7 ho hx hrun hc h
end Go.Proofs.YtadpiemjgfndgaaGreatDoor
