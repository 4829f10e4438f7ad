/- Proved here, for use further on: FrB FrC. Conditions: none but those each theorem names. -/
import Derived.Test.YtadpiemjgfndgaaGreatDoorKc00
import Derived.Test.YtadpiemjgfndgaaGreatDoorKc02
import Derived.Test.YtadpiemjgfndgaaGreatDoorKc06
import Derived.Lib.AppendZeros
set_option linter.unusedSimpArgs false
set_option linter.unusedVariables false
set_option maxRecDepth 100000
set_option maxHeartbeats 8000000
namespace Go.Proofs.YtadpiemjgfndgaaGreatDoor
open Go.RowKit
section
variable (t:TypeId) (x y:UInt8)
def hiB(x:UInt8):Int:=256*bv x
@[go_sem high] theorem Fo3 : binOp .shl t (.int .i64 (bv x)) (.int .u64 8) = pure (.int .i64 (hiB x)) := by
 show Op.shift .shl .i64 (bv x) .u64 8=_;have:=Bz4 x;unfold Op.shift hiB;rw[if_neg (by omega)];show pure (Value.int .i64 (IntKind.i64.wrap (bv x*2^(min (Int.toNat 8) 64))))=_;have h1:(2:Int)^(min (Int.toNat 8) 64)=256:=by decide
 have h2:IntKind.i64.wrap (bv x*256)=256*bv x:=by rw[IntKind.wrap_i64];omega
 rw[h1,h2]
@[go_sem high] theorem Fm3 : binOp .mul t (.int .i64 256) (.int .i64 (bv x)) = pure (.int .i64 (hiB x)) := by
 show pure (Value.int .i64 (IntKind.i64.wrap (256*bv x)))=_;have:=Bz4 x;have h2:IntKind.i64.wrap (256*bv x)=hiB x:=by unfold hiB;rw[IntKind.wrap_i64];omega
 rw[h2]
@[go_sem high] theorem Fn3 : binOp .add t (.int .i64 (hiB x)) (.int .i64 (bv y)) = pure (.int .i64 ((M4 [x, y] : Nat) : Int)) := by
 show pure (Value.int .i64 (IntKind.i64.wrap (hiB x+bv y)))=_;have:=Bz4 x;have:=Bz4 y;have e:((M4 [x,y]:Nat):Int)=hiB x+bv y:=by simp[M4,hiB,bv]
 have h2:IntKind.i64.wrap (hiB x+bv y)=hiB x+bv y:=by unfold hiB;rw[IntKind.wrap_i64];omega
 rw[e,h2]
theorem Eo6(a b:Nat)(ha:a<256)(hb:b<256):(256*a) ||| b=256*a+b:=by
 have:=Nat.shiftLeft_add_eq_or_of_lt (i:=8) (b:=b) (by simpa using hb) a;rw[Nat.shiftLeft_eq] at this;simp at this;rw[Nat.mul_comm 256 a];exact this.symm
@[go_sem high] theorem Fo4 : binOp .or t (.int .i64 (hiB x)) (.int .i64 (bv y)) = pure (.int .i64 ((M4 [x, y] : Nat) : Int)) := by
 show pure (Value.int .i64 (IntKind.i64.wrap (BitVec.ofInt 64 (hiB x) ||| BitVec.ofInt 64 (bv y)).toNat))=_;have hx:=x.toNat_lt;have hy:=y.toNat_lt;have e1:hiB x=((256*x.toNat:Nat):Int):=by simp[hiB,bv]
 have e2:bv y=((y.toNat:Nat):Int):=rfl;rw[e1,e2,BitVec.ofInt_natCast,BitVec.ofInt_natCast,BitVec.toNat_or,BitVec.toNat_ofNat,BitVec.toNat_ofNat,Nat.mod_eq_of_lt (by omega),Nat.mod_eq_of_lt (by omega),Eo6 _ _ (by omega) (by omega)];have e:M4 [x,y]=256*x.toNat+y.toNat:=by simp[M4]
 have h2:IntKind.i64.wrap ((256*x.toNat+y.toNat:Nat):Int)=((256*x.toNat+y.toNat:Nat):Int):=by rw[IntKind.wrap_i64];omega
 rw[e,h2]
@[go_sem high] theorem Fn4 {P : Program} (w : World) (s d : TypeId) (hs : (P.underlying s).isSome = true) (hd : P.underlying d = some (.int .i64)) :
 (convert s d (.int .u8 (bv x))).run P w=.ok (.int .i64 (bv x)) w:=by
 obtain⟨d',hd'⟩:=Option.isSome_iff_exists.mp hs;have:IntKind.i64.wrap (bv x)=bv x:=by have:=Bz4 x;rw[IntKind.wrap_i64];omega
 simp[convert,run_underlying hd',run_underlying hd,Conv.intToInt,this]
end
theorem Bx8(l:List UInt8):M4 [l.getD 0 0,l.getD 1 0]=M4 l:=by simp[M4]
theorem Br2{w:World}{a:Option Addr}{l:List UInt8}(h:A4 w a l)(hl:2≤l.length):
 ∃b off,a=some ⟨b,off,none⟩∧b<w.heap.size∧w.cell? ⟨b,off,none⟩=some (.int .u8 (bv (l.getD 0 0)))∧w.cell? ⟨b,off+1,none⟩=some (.int .u8 (bv (l.getD 1 0))):=by
 obtain⟨b,off,h1,h2,h3⟩:=Ad9 h (by omega);exact⟨b,off,h1,h2,by have:=h3 0 (by omega);rwa [Nat.add_zero] at this,h3 1 (by omega)⟩
theorem Cx0(a:Option Addr)(len cap:Nat)(l:List UInt8)(w:World)(hl:len=l.length)(h2:2≤len)(h:A4 w a l):
 Calls Tryz.prog 189 #[.slice a len cap] w fun e w'=>e=.returned (.int .i64 ((M4 l:Nat):Int))∧Below w.heap.size w w':=by
 obtain⟨b,off,rfl,hlt,c0,c1⟩:=Br2 h (by omega);have Ht:=Lh (Bx8 l);have h0:0<len:=by omega
 have h1:1<len:=by omega
 clear h hl h2;generalize l.getD 0 0=x0 at c0 Ht;generalize l.getD 1 0=x1 at c1 Ht;go_enter Tryz.func189,Tryz.ntmps189
 go_wp2_with fail
 go_quiet (fail)
 go_wp2_with fail
 go_ret;exact⟨by rw[Ht.out];rfl,btn (Below.refl _ _) _⟩
structure Fv where
 a:Option Addr
 len:Nat
 cap:Nat
 skip:Int
 bad:Int
abbrev Fv.L(f:Fv):List Value:=[.slice f.a f.len f.cap,.int .i64 f.skip,.int .i64 f.bad]
abbrev Fv.v(f:Fv):Value:=.agg #[.slice f.a f.len f.cap,.int .i64 f.skip,.int .i64 f.bad]
structure Ae2 (w:World) (f:Fv) (s:Fd):Prop where
 len:f.len=s.buf.length
 le:f.len≤f.cap
 cap:f.cap≤maxLen
 buf:A4 w f.a s.buf
 skip:f.skip=s.skip
 bad:f.bad=s.bad
theorem Ae2.mono{w w':World}{f:Fv}{s:Fd}(h:Ae2 w f s)(hb:Below w.heap.size w w'):Ae2 w' f s:=⟨h.len,h.le,h.cap,h.buf.mono hb,h.skip,h.bad⟩
theorem Bv2(l:List UInt8)(skip bad:Int):X5 ⟨l,skip,bad⟩=
 bif (decide (skip<0) || decide (65535<skip)) || (decide (0<skip)&&decide ((0:Int)<l.length)) then false
 else bif decide ((l.length:Int)<2) then true
 else decide ((1:Int)≤M4 l)&&decide ((M4 l:Int)≤1024)&&decide ((l.length:Int)<M4 l+2):=by
 have e1:decide ((0:Int)<l.length)=decide (0<l.length):=by congr 1;simp
 have e2:decide ((l.length:Int)<2)=decide (l.length<2):=by rw[decide_eq_decide];omega
 have e3:decide ((1:Int)≤M4 l)=decide (1≤M4 l):=by rw[decide_eq_decide];omega
 have e4:decide ((M4 l:Int)≤1024)=decide (M4 l≤1024):=by rw[decide_eq_decide];omega
 have e5:decide ((l.length:Int)<M4 l+2)=decide (l.length<M4 l+2):=by rw[decide_eq_decide];omega
 rw[e1,e2,e3,e4,e5];rfl
theorem Az5(f:Fv)(s:Fd)(w:World)(h:Ae2 w f s):
 Calls Tryz.prog 160 #[f.v] w fun e w'=>e=.returned (.bool (X5 s))∧Below w.heap.size w w':=by
 obtain⟨a,len,cap,skip,bad⟩:=f;obtain⟨l,sk,bd⟩:=s;obtain⟨hl,hle,hc,hat,hs,hb⟩:=h;simp only at hl hle hc hat hs hb;subst hs hb hl;have Hat:=Lh hat
 have HR:=Lh (Bv2 l skip bad);have hmul:IntKind.i64.wrap (2+((M4 l:Nat):Int))=M4 l+2:=by have:=Bf1 l;rw[IntKind.wrap_i64];omega
 have hmul2:IntKind.i64.wrap (((M4 l:Nat):Int)+2)=M4 l+2:=by have:=Bf1 l;rw[IntKind.wrap_i64];omega
 have HT:=Lh (fun(h2:2≤l.length) (W:World) (h:Below w.heap.size w W)=>Cx0 a _ cap l W rfl h2 (hat.mono h));clear hat
 go_enter Tryz.func160,Tryz.ntmps160
 go_wp2_with (go_at_call 189;((with_reducible refine Calls.mono (HT.out (by omega) _ (ba w _)) ?_);rintro e w2 ⟨rfl,hb2⟩;have HB:=Lh ((Blk.new w [.slice a l.length cap,.int .i64 skip,.int .i64 bad] 38).up hb2);obtain⟨c0,c1,c2⟩:=Ac3 HB.out;have Hb:=Lh (bt (ba w _) hb2);clear hb2 HB))
 all_goals
  go_ret;refine⟨?_,by first | exact ba w _ | exact Hb.out⟩;rw[HR.out];show Ending.returned (Value.bool _)=Ending.returned (Value.bool _);refine congrArg (fun b=>Ending.returned (Value.bool b)) ?_;clear HR HT Hat
  generalize l.length=n at *;generalize M4 l=t at *;rw[Bool.eq_iff_iff];simp;try omega
theorem As3(f:Fv)(s:Fd)(w:World)(h:Ae2 w f s):
 Calls Tryz.prog 150 #[f.v] w fun e w'=>e=.returned (.bool (X5 s))∧Below w.heap.size w w':=by
 obtain⟨a,len,cap,skip,bad⟩:=f;obtain⟨l,sk,bd⟩:=s;obtain⟨hl,hle,hc,hat,hs,hb⟩:=h;simp only at hl hle hc hat hs hb;subst hs hb hl;have HR:=Lh (Bv2 l skip bad);have hmul:IntKind.i64.wrap (2+((M4 l:Nat):Int))=M4 l+2:=by have:=Bf1 l;rw[IntKind.wrap_i64];omega
 have hmul2:IntKind.i64.wrap (((M4 l:Nat):Int)+2)=M4 l+2:=by have:=Bf1 l;rw[IntKind.wrap_i64];omega
 by_cases h2:2≤l.length
 ·obtain⟨b,off,rfl,hlt,c0,c1⟩:=Br2 hat h2;have Ht:=Lh (Bx8 l);have h0:0<l.length:=by omega
  have h1:1<l.length:=by omega
  have hbel:=ba w (.cells #[.slice (some ⟨b,off,none⟩) l.length cap,.int .i64 skip,.int .i64 bad] 38);have k0:=(hbel.cell (p:=⟨b,off,none⟩) hlt).trans c0;have k1:=(hbel.cell (p:=⟨b,off+1,none⟩) hlt).trans c1;obtain⟨d0,d1,d2⟩:=Ac3 (Blk.new w [.slice (some ⟨b,off,none⟩) l.length cap,.int .i64 skip,.int .i64 bad] 38);clear hat c0 c1;generalize l.getD 0 0=x0 at k0 Ht;generalize l.getD 1 0=x1 at k1 Ht;go_enter Tryz.func150,Tryz.ntmps150
  go_wp2_with fail
  all_goals first
   | (go_ret
      refine⟨?_,by first | exact ba w _ | exact btn hbel _⟩;rw[HR.out];show Ending.returned (Value.bool _)=Ending.returned (Value.bool _);refine congrArg (fun b=>Ending.returned (Value.bool b)) ?_;clear HR;generalize l.length=n at *;generalize M4 l=t at *;rw[Bool.eq_iff_iff];simp;try omega)
   | (generalize World.alloc w _=W at k0 k1 d0 d1 d2 hbel ⊢
      go_quiet (fail)
      rw[Ht.out];go_wp2_with fail
      all_goals
       go_ret;refine⟨?_,by first | exact ba w _ | exact btn hbel _⟩;rw[HR.out];show Ending.returned (Value.bool _)=Ending.returned (Value.bool _);refine congrArg (fun b=>Ending.returned (Value.bool b)) ?_;clear HR;generalize l.length=n at *;generalize M4 l=t at *;rw[Bool.eq_iff_iff];simp;try omega)
 ·go_enter Tryz.func150,Tryz.ntmps150
  go_wp2_with fail
  all_goals
   go_ret;refine⟨?_,by first | exact ba w _ | exact btn hbel _⟩;rw[HR.out];show Ending.returned (Value.bool _)=Ending.returned (Value.bool _);refine congrArg (fun b=>Ending.returned (Value.bool b)) ?_;clear HR;generalize l.length=n at *;generalize M4 l=t at *;rw[Bool.eq_iff_iff];simp;try omega
end Go.Proofs.YtadpiemjgfndgaaGreatDoor
