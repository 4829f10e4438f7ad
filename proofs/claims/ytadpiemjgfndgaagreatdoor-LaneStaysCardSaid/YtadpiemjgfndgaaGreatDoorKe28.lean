/- Proved here, for use further on: InV2. Conditions: none but those each theorem names. -/
import Derived.Test.YtadpiemjgfndgaaGreatDoorKe00
import Derived.Test.YtadpiemjgfndgaaGreatDoorKe27
set_option maxRecDepth 100000
set_option linter.unusedSimpArgs false
set_option linter.unusedVariables false
set_option maxRecDepth 100000
set_option maxHeartbeats 8000000
namespace Go.Proofs.YtadpiemjgfndgaaGreatDoor
open Go.ChangeShapes Go.WideShapes Go.ChangeAt Go.RowKit
section
variable {H:Type} {enc:TypeId×Value→H} {w:World}
theorem Ds3{fuel:Nat}{cs:List Value}{x:DataW H×List MemPlace}(h:DataW.trod enc Tryz.prog w 0 (fun _=>true) true fuel 92 cs=some x):∃(s:Sv) (ka:Option Addr) (kn kc:Nat) (kl:List UInt8) (o:Int) (na:Option Addr) (nn nc:Nat) (nl:List UInt8),cs=Ay4 s ka kn kc o na nn nc∧Ae2 w s∧Y9 w ka kn kc kl∧Y9 w na nn nc nl:=by
 obtain⟨xs,n,rfl,hx,hl,hxl,hg⟩:=DataW.trod_struct Tryz.underlying92 h;have hxl':xs.length=4:=hxl;have e_Luint8:Tryz.prog.cellsOf 22=1:=by kernel_rfl
 have e_int:Tryz.prog.cellsOf 3=1:=by kernel_rfl
 have e_yettapiSite:Tryz.prog.cellsOf 51=73:=by kernel_rfl
 have eN:Tryz.prog.cellsOf 92=76:=by kernel_rfl
 have hl':cs.length=76:=by rw[←eN];exact hl
 have k0:DataW.trod enc Tryz.prog w 0 (fun _=>true) true n 51 ((cs.drop 0).take (Tryz.prog.cellsOf 51))=some (xs[0]'(by omega)):=by
  have:=hg 0 _ rfl;rw[List.getElem?_eq_getElem (by omega:0<xs.length)] at this;exact this
 rw[e_yettapiSite] at k0;have k1:DataW.trod enc Tryz.prog w 0 (fun _=>true) true n 22 ((cs.drop 73).take (Tryz.prog.cellsOf 22))=some (xs[1]'(by omega)):=by
  have:=hg 1 _ rfl;rw[List.getElem?_eq_getElem (by omega:1<xs.length)] at this;exact this
 rw[e_Luint8] at k1;have k2:DataW.trod enc Tryz.prog w 0 (fun _=>true) true n 3 ((cs.drop 74).take (Tryz.prog.cellsOf 3))=some (xs[2]'(by omega)):=by
  have:=hg 2 _ rfl;rw[List.getElem?_eq_getElem (by omega:2<xs.length)] at this;exact this
 rw[e_int] at k2;have k3:DataW.trod enc Tryz.prog w 0 (fun _=>true) true n 22 ((cs.drop 75).take (Tryz.prog.cellsOf 22))=some (xs[3]'(by omega)):=by
  have:=hg 3 _ rfl;rw[List.getElem?_eq_getElem (by omega:3<xs.length)] at this;exact this
 rw[e_Luint8] at k3;obtain⟨s,s0,hS⟩:=Ey8 k0;obtain⟨ka,kn,kc,kl,s1,u1⟩:=Bs8 k1;obtain⟨o,s2,-,-⟩:=DataW.trod_int Tryz.underlying3 k2;obtain⟨na,nn,nc,nl,s3,u3⟩:=Bs8 k3;have e':cs.drop 0=A6 s++([.slice ka kn kc]++([.int .i64 o]++([.slice na nn nc]++[]))):=O1 (m:=73) s0 rfl (O1 (m:=74) s1 rfl (O1 (m:=75) s2 rfl (O1 (m:=76) s3 rfl (by rw[List.drop_eq_nil_iff];omega))));exact⟨s,ka,kn,kc,kl,o,na,nn,nc,nl,e'.trans rfl,hS,u1,u3⟩
theorem Ds4{r:Reach}{b0:Nat}{v:Value}{d:DataW H}{p:List MemPlace}(hv:Value.okWide Tryz.prog w r b0 92 v)(h:DataW.Trod enc Tryz.prog w 0 (fun _=>true) true 92 v d p):∃(s:Sv) (ka:Option Addr) (kn kc:Nat) (kl:List UInt8) (o:Int) (na:Option Addr) (nn nc:Nat) (nl:List UInt8),v=.agg (Ay4 s ka kn kc o na nn nc).toArray∧Ae2 w s∧Y9 w ka kn kc kl∧Y9 w na nn nc nl:=by
 obtain⟨⟨cs⟩,rfl,hsz⟩:=okWide_struct Tryz.underlying92 hv;obtain⟨fuel,hf⟩:=h;obtain⟨s,ka,kn,kc,kl,o,na,nn,nc,nl,h1,h2,h3,h4⟩:=Ds3 hf;have h1':cs=Ay4 s ka kn kc o na nn nc:=h1;exact⟨s,ka,kn,kc,kl,o,na,nn,nc,nl,by rw[h1'],h2,h3,h4⟩
end
theorem Cr3(_t:True)(W:World)(hks:M9 W)(s:Sv)(ka:Option Addr)(kn kc:Nat)(kl:List UInt8)(o:Int)(na:Option Addr)(nn nc:Nat)(nl:List UInt8)(u0:Ae2 W s)(u1:Y9 W ka kn kc kl)(u2:Y9 W na nn nc nl):
 Calls Tryz.prog 7 #[.agg (Ay4 s ka kn kc o na nn nc).toArray] W (F6 W true):=by
 obtain⟨rfl,h1,h2,h3⟩:=u1;obtain⟨rfl,k1,k2,k3⟩:=u2;exact Ci3 s ka na kc nc kl nl o W u0 ⟨h1,h2⟩ h3 k3 hks
end Go.Proofs.YtadpiemjgfndgaaGreatDoor
