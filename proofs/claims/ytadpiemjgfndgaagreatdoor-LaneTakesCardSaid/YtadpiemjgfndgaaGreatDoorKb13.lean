/- Proved here, for use further on: RingH RingK LeC0. Conditions: none but those each theorem names. -/
import Derived.Test.YtadpiemjgfndgaaGreatDoorKb00
import Derived.Test.YtadpiemjgfndgaaGreatDoorKb02
import Derived.Test.YtadpiemjgfndgaaGreatDoorKb12
import Derived.Deep.RegionHeld3
import Derived.Deep.QuietTactic
import Derived.BigQuiet
import Derived.Test.YtadpiemjgfndgaaGreatDoorKb10
set_option linter.unusedSimpArgs false
set_option linter.unusedVariables false
set_option maxRecDepth 100000
set_option maxHeartbeats 8000000
namespace Go.Proofs.YtadpiemjgfndgaaGreatDoor
open Go.RowKit
theorem ban(w:World)(o:Obj)(n:Nat):Below w.heap.size w ((w.alloc o).drewN n):=(ba w o).trans ⟨rfl,rfl,rfl,Nat.le_refl _,fun _ _=>rfl⟩
theorem Fl1{w:World}{b:Nat}{a0 a1 a2 a3 a4 a5 v0 v1 v2 v3 v4 v5:Value}(h:Blk w b [a0,a1,a2,a3,a4,a5]):
 Blk ((((((w.setCell ⟨b,0,none⟩ v0).setCell ⟨b,1,none⟩ v1).setCell ⟨b,2,none⟩ v2).setCell ⟨b,3,none⟩ v3).setCell ⟨b,4,none⟩ v4).setCell ⟨b,5,none⟩ v5) b [v0,v1,v2,v3,v4,v5]:=
 (((((h.set 0 _).set 1 _).set 2 _).set 3 _).set 4 _).set 5 _
theorem Cx2{w:World}{c b:Nat}{cs:List Value}{v0 v1 v2 v3 v4 v5:Value}(h:Blk w c cs)(hn:c≠b):
 Blk ((((((w.setCell ⟨b,0,none⟩ v0).setCell ⟨b,1,none⟩ v1).setCell ⟨b,2,none⟩ v2).setCell ⟨b,3,none⟩ v3).setCell ⟨b,4,none⟩ v4).setCell ⟨b,5,none⟩ v5) c cs:=
 (((((h.other ⟨b,0,none⟩ hn _).other ⟨b,1,none⟩ hn _).other ⟨b,2,none⟩ hn _).other ⟨b,3,none⟩ hn _).other ⟨b,4,none⟩ hn _).other ⟨b,5,none⟩ hn _
theorem Fl2{w:World}{b:Nat}{v0 v1 v2 v3 v4 v5:Value}(cs:List Value)(T:TypeId):
 Blk (((((((w.setCell ⟨b,0,none⟩ v0).setCell ⟨b,1,none⟩ v1).setCell ⟨b,2,none⟩ v2).setCell ⟨b,3,none⟩ v3).setCell ⟨b,4,none⟩ v4).setCell ⟨b,5,none⟩ v5).alloc (.cells cs.toArray T)) w.heap.size cs:=by
 have:=Blk.new ((((((w.setCell ⟨b,0,none⟩ v0).setCell ⟨b,1,none⟩ v1).setCell ⟨b,2,none⟩ v2).setCell ⟨b,3,none⟩ v3).setCell ⟨b,4,none⟩ v4).setCell ⟨b,5,none⟩ v5) cs T;have h:((((((w.setCell ⟨b,0,none⟩ v0).setCell ⟨b,1,none⟩ v1).setCell ⟨b,2,none⟩ v2).setCell ⟨b,3,none⟩ v3).setCell ⟨b,4,none⟩ v4).setCell ⟨b,5,none⟩ v5).heap.size=w.heap.size:=by simp
 rwa [h] at this
theorem Bc2{w0 w:World}{B b:Nat}{v0 v1 v2 v3 v4 v5:Value}(h:Below B w0 w)(hb:B≤b):
 Below B w0 ((((((w.setCell ⟨b,0,none⟩ v0).setCell ⟨b,1,none⟩ v1).setCell ⟨b,2,none⟩ v2).setCell ⟨b,3,none⟩ v3).setCell ⟨b,4,none⟩ v4).setCell ⟨b,5,none⟩ v5):=
 (((((h.setCell hb _).setCell hb _).setCell hb _).setCell hb _).setCell hb _).setCell hb _
theorem Bw4(r s:Rg)(kc ko kp jc jo jp:List UInt8)(w:World)(hr:Az7 w r kc ko kp)(hs:Az7 w s jc jo jp):
 Calls Tryz.prog 105 #[r.v,s.v] w fun e w'=>e=.returned (.bool (U1 r s kc ko kp jc jo jp))∧Below w.heap.size w w':=by
 have Hr:=Lh hr;have Hs:=Lh hs;clear hr hs;go_enter Tryz.func105,Tryz.ntmps105
 go_wp2_with fail
 generalize hW:World.alloc _ _=W;obtain⟨HA,HB,hb⟩:=Bw3 (a:=r.L) (b:=s.L) hW;clear hW;have HA:=Lh HA;have HB:=Lh HB;have Hb:=Lh hb;clear hb;generalize hn1:w.heap.size+1=n1 at HB ⊢;have Hn1:=Lh (show w.heap.size≤n1 by omega);clear hn1;go_cut [5,6] (fun v5 v6 wx=>∃b5 b6:Nat,v5=.pointer (some ⟨b5,0,none⟩)∧v6=.pointer (some ⟨b6,0,none⟩)∧Blk wx b5 (Aw9 r.c r.o r.p)∧Blk wx b6 (Aw9 s.c s.o s.p)∧Below W.heap.size W wx)
 case first=>
  have KS:=Lh (show ∀w',Below W.heap.size W w'→(Below W.heap.size W w'∧w'.cell? ⟨w.heap.size,0,none⟩=some (.int .i64 r.c.no)∧w'.cell? ⟨w.heap.size,1,none⟩=some (.slice r.c.a r.c.len r.c.cap)∧w'.cell? ⟨w.heap.size,2,none⟩=some (.int .i64 r.o.no)∧w'.cell? ⟨w.heap.size,3,none⟩=some (.slice r.o.a r.o.len r.o.cap)∧w'.cell? ⟨w.heap.size,4,none⟩=some (.int .i64 r.p.no)∧w'.cell? ⟨w.heap.size,5,none⟩=some (.slice r.p.a r.p.len r.p.cap)∧w'.cell? ⟨w.heap.size,6,none⟩=some (.int .i64 r.l)∧w'.cell? ⟨w.heap.size,7,none⟩=some (.int .i64 r.t)∧w'.cell? ⟨n1,0,none⟩=some (.int .i64 s.c.no)∧w'.cell? ⟨n1,1,none⟩=some (.slice s.c.a s.c.len s.c.cap)∧w'.cell? ⟨n1,2,none⟩=some (.int .i64 s.o.no)∧w'.cell? ⟨n1,3,none⟩=some (.slice s.o.a s.o.len s.o.cap)∧w'.cell? ⟨n1,4,none⟩=some (.int .i64 s.p.no)∧w'.cell? ⟨n1,5,none⟩=some (.slice s.p.a s.p.len s.p.cap)∧w'.cell? ⟨n1,6,none⟩=some (.int .i64 s.l)∧w'.cell? ⟨n1,7,none⟩=some (.int .i64 s.t)) from fun w' hb=>by
   obtain⟨c0,c1,c2,c3,c4,c5,c6,c7⟩:=J5 (HA.out.up hb);obtain⟨d0,d1,d2,d3,d4,d5,d6,d7⟩:=J5 (HB.out.up hb);exact⟨hb,c0,c1,c2,c3,c4,c5,c6,c7,d0,d1,d2,d3,d4,d5,d6,d7⟩)
  obtain⟨hS0,c0,c1,c2,c3,c4,c5,c6,c7,d0,d1,d2,d3,d4,d5,d6,d7⟩:=KS.out W (Below.refl _ _)
  go_region_held3 (fun w'=>Below W.heap.size W w'∧w'.cell? ⟨w.heap.size,0,none⟩=some (.int .i64 r.c.no)∧w'.cell? ⟨w.heap.size,1,none⟩=some (.slice r.c.a r.c.len r.c.cap)∧w'.cell? ⟨w.heap.size,2,none⟩=some (.int .i64 r.o.no)∧w'.cell? ⟨w.heap.size,3,none⟩=some (.slice r.o.a r.o.len r.o.cap)∧w'.cell? ⟨w.heap.size,4,none⟩=some (.int .i64 r.p.no)∧w'.cell? ⟨w.heap.size,5,none⟩=some (.slice r.p.a r.p.len r.p.cap)∧w'.cell? ⟨w.heap.size,6,none⟩=some (.int .i64 r.l)∧w'.cell? ⟨w.heap.size,7,none⟩=some (.int .i64 r.t)∧w'.cell? ⟨n1,0,none⟩=some (.int .i64 s.c.no)∧w'.cell? ⟨n1,1,none⟩=some (.slice s.c.a s.c.len s.c.cap)∧w'.cell? ⟨n1,2,none⟩=some (.int .i64 s.o.no)∧w'.cell? ⟨n1,3,none⟩=some (.slice s.o.a s.o.len s.o.cap)∧w'.cell? ⟨n1,4,none⟩=some (.int .i64 s.p.no)∧w'.cell? ⟨n1,5,none⟩=some (.slice s.p.a s.p.len s.p.cap)∧w'.cell? ⟨n1,6,none⟩=some (.int .i64 s.l)∧w'.cell? ⟨n1,7,none⟩=some (.int .i64 s.t))
   (first
     | (apply KS.out;(with_reducible ((try apply bta);(try apply bta);(try (apply Bc2;rotate_left;first | apply Nat.le_refl | exact hw2 | apply Nat.le_succ | exact Nat.le_succ_of_le hw2));(try apply bta);(try (apply Bc2;rotate_left;first | apply Nat.le_refl | exact hw2 | apply Nat.le_succ | exact Nat.le_succ_of_le hw2));(try apply bta);(try apply bta);(try apply bt3 hb3);(try apply bta);(try apply bta);(try apply bt3 hb2);(try apply bta);(try apply bta);(first | apply Below.refl | (apply btd;(try apply bta);(try apply bta);apply Below.refl)))))
     | fail)
   (first
     | (go_at_call 166;go_split_ands;((with_reducible refine Calls.mono (Bu2 r.c r.o r.p r.l r.t _) ?_);rintro e w2 ⟨rfl,hb2⟩;have hzw2:=hb2.size;have hw2:W.heap.size≤w2.heap.size:=(by have:=hb2.size;first | omega | (simp at this;omega));(try ((with_reducible have ub1:=Blk.upR hb2 ub1);have fub1:=ub1.frozen;have lub1:=ub1.lt;obtain⟨x0,x1,x2,x3,x4,x5⟩:=K5 ub1));(try ((with_reducible have ub1:=Blk.upR hb2 (ub1.alloc _));have fub1:=ub1.frozen;have lub1:=ub1.lt;obtain⟨x0,x1,x2,x3,x4,x5⟩:=K5 ub1));(try ((with_reducible have ub1:=Blk.upR hb2 ((ub1.alloc _).alloc _));have fub1:=ub1.frozen;have lub1:=ub1.lt;obtain⟨x0,x1,x2,x3,x4,x5⟩:=K5 ub1));(try ((with_reducible have ub2:=Blk.upR hb2 ub2);have fub2:=ub2.frozen;have lub2:=ub2.lt;obtain⟨x0,x1,x2,x3,x4,x5⟩:=K5 ub2));(try ((with_reducible have ub2:=Blk.upR hb2 (ub2.alloc _));have fub2:=ub2.frozen;have lub2:=ub2.lt;obtain⟨x0,x1,x2,x3,x4,x5⟩:=K5 ub2));(try ((with_reducible have ub2:=Blk.upR hb2 ((ub2.alloc _).alloc _));have fub2:=ub2.frozen;have lub2:=ub2.lt;obtain⟨x0,x1,x2,x3,x4,x5⟩:=K5 ub2));(try ((with_reducible have ub3:=Blk.upR hb2 ub3);have fub3:=ub3.frozen;have lub3:=ub3.lt;obtain⟨x0,x1,x2,x3,x4,x5⟩:=K5 ub3));(try ((with_reducible have ub3:=Blk.upR hb2 (ub3.alloc _));have fub3:=ub3.frozen;have lub3:=ub3.lt;obtain⟨x0,x1,x2,x3,x4,x5⟩:=K5 ub3));(try ((with_reducible have ub3:=Blk.upR hb2 ((ub3.alloc _).alloc _));have fub3:=ub3.frozen;have lub3:=ub3.lt;obtain⟨x0,x1,x2,x3,x4,x5⟩:=K5 ub3));(try ((with_reducible have ua1:=Blk.up (Blk.new _ (Aw9 G0 G0 G0) _) hb2);have fua1:=ua1.frozen;have lua1:=ua1.lt;obtain⟨x0,x1,x2,x3,x4,x5⟩:=K5 ua1));(try ((with_reducible have ua1:=Blk.up (Blk.new _ (Aw9 G0 G0 G0) _).drew hb2);have fua1:=ua1.frozen;have lua1:=ua1.lt;obtain⟨x0,x1,x2,x3,x4,x5⟩:=K5 ua1));(try ((with_reducible have ua2:=Blk.up ((Blk.new _ (Aw9 G0 G0 G0) _).alloc _) hb2);have fua2:=ua2.frozen;have lua2:=ua2.lt;obtain⟨x0,x1,x2,x3,x4,x5⟩:=K5 ua2));(try ((with_reducible have ua2:=Blk.up ((Blk.new _ (Aw9 G0 G0 G0) _).alloc _).drew hb2);have fua2:=ua2.frozen;have lua2:=ua2.lt;obtain⟨x0,x1,x2,x3,x4,x5⟩:=K5 ua2));(try ((with_reducible have ua3:=Blk.up (Cg9 _ _ (Aw9 G0 G0 G0) _) hb2);have fua3:=ua3.frozen;have lua3:=ua3.lt;obtain⟨x0,x1,x2,x3,x4,x5⟩:=K5 ua3));(try ((with_reducible have ua3:=Blk.up (Cg9 _ _ (Aw9 G0 G0 G0) _).drew hb2);have fua3:=ua3.frozen;have lua3:=ua3.lt;obtain⟨x0,x1,x2,x3,x4,x5⟩:=K5 ua3))))
     | (go_at_call 166;go_split_ands;((with_reducible refine Calls.mono (Bu2 s.c s.o s.p s.l s.t _) ?_);rintro e w3 ⟨rfl,hb3⟩;have hzw3:=hb3.size;have hw3:W.heap.size≤w3.heap.size:=(by have:=hb3.size;first | omega | (simp at this;omega));(try ((with_reducible have ua1:=Blk.upR hb3 ua1);have fua1:=ua1.frozen;have lua1:=ua1.lt;obtain⟨x0,x1,x2,x3,x4,x5⟩:=K5 ua1));(try ((with_reducible have ua1:=Blk.upR hb3 (ua1.alloc _));have fua1:=ua1.frozen;have lua1:=ua1.lt;obtain⟨x0,x1,x2,x3,x4,x5⟩:=K5 ua1));(try ((with_reducible have ua1:=Blk.upR hb3 ((ua1.alloc _).alloc _));have fua1:=ua1.frozen;have lua1:=ua1.lt;obtain⟨x0,x1,x2,x3,x4,x5⟩:=K5 ua1));(try ((with_reducible have ua2:=Blk.upR hb3 ua2);have fua2:=ua2.frozen;have lua2:=ua2.lt;obtain⟨x0,x1,x2,x3,x4,x5⟩:=K5 ua2));(try ((with_reducible have ua2:=Blk.upR hb3 (ua2.alloc _));have fua2:=ua2.frozen;have lua2:=ua2.lt;obtain⟨x0,x1,x2,x3,x4,x5⟩:=K5 ua2));(try ((with_reducible have ua2:=Blk.upR hb3 ((ua2.alloc _).alloc _));have fua2:=ua2.frozen;have lua2:=ua2.lt;obtain⟨x0,x1,x2,x3,x4,x5⟩:=K5 ua2));(try ((with_reducible have ua3:=Blk.upR hb3 ua3);have fua3:=ua3.frozen;have lua3:=ua3.lt;obtain⟨x0,x1,x2,x3,x4,x5⟩:=K5 ua3));(try ((with_reducible have ua3:=Blk.upR hb3 (ua3.alloc _));have fua3:=ua3.frozen;have lua3:=ua3.lt;obtain⟨x0,x1,x2,x3,x4,x5⟩:=K5 ua3));(try ((with_reducible have ua3:=Blk.upR hb3 ((ua3.alloc _).alloc _));have fua3:=ua3.frozen;have lua3:=ua3.lt;obtain⟨x0,x1,x2,x3,x4,x5⟩:=K5 ua3));(try ((with_reducible have ub1:=Blk.up (Blk.new _ (Aw9 G0 G0 G0) _) hb3);have fub1:=ub1.frozen;have lub1:=ub1.lt;obtain⟨x0,x1,x2,x3,x4,x5⟩:=K5 ub1));(try ((with_reducible have ub1:=Blk.up (Blk.new _ (Aw9 G0 G0 G0) _).drew hb3);have fub1:=ub1.frozen;have lub1:=ub1.lt;obtain⟨x0,x1,x2,x3,x4,x5⟩:=K5 ub1));(try ((with_reducible have ub2:=Blk.up ((Blk.new _ (Aw9 G0 G0 G0) _).alloc _) hb3);have fub2:=ub2.frozen;have lub2:=ub2.lt;obtain⟨x0,x1,x2,x3,x4,x5⟩:=K5 ub2));(try ((with_reducible have ub2:=Blk.up ((Blk.new _ (Aw9 G0 G0 G0) _).alloc _).drew hb3);have fub2:=ub2.frozen;have lub2:=ub2.lt;obtain⟨x0,x1,x2,x3,x4,x5⟩:=K5 ub2));(try ((with_reducible have ub3:=Blk.up (Cg9 _ _ (Aw9 G0 G0 G0) _) hb3);have fub3:=ub3.frozen;have lub3:=ub3.lt;obtain⟨x0,x1,x2,x3,x4,x5⟩:=K5 ub3));(try ((with_reducible have ub3:=Blk.up (Cg9 _ _ (Aw9 G0 G0 G0) _).drew hb3);have fub3:=ub3.frozen;have lub3:=ub3.lt;obtain⟨x0,x1,x2,x3,x4,x5⟩:=K5 ub3)))))
  all_goals
   go_split_ands
   go_wp2_with fail
   go_meet
   refine⟨_,_,rfl,rfl,?_,?_,?h3⟩
   case h3=>(with_reducible ((try apply bta);(try apply bta);(try (apply Bc2;rotate_left;first | apply Nat.le_refl | exact hw2 | apply Nat.le_succ | exact Nat.le_succ_of_le hw2));(try apply bta);(try (apply Bc2;rotate_left;first | apply Nat.le_refl | exact hw2 | apply Nat.le_succ | exact Nat.le_succ_of_le hw2));(try apply bta);(try apply bta);(try apply bt3 hb3);(try apply bta);(try apply bta);(try apply bt3 hb2);(try apply bta);(try apply bta);(first | apply Below.refl | (apply btd;(try apply bta);(try apply bta);apply Below.refl))))
   all_goals
    with_reducible (repeat (first | assumption | apply Blk.new | apply Cg9 | apply Fl2 | apply Fl1 | apply Cx2 | apply Blk.alloc))
   all_goals first
    | omega
    | fail
 case rest=>
  obtain⟨b5,b6,rfl,rfl,h5,h6,hbc⟩:=hcut;have HA:=Lh (HA.out.up hbc);have HB:=Lh (HB.out.up hbc);have Hb:=Lh (bt Hb.out hbc);have H6:=Lh h6;obtain⟨c0,c1,c2,c3,c4,c5⟩:=K5 h5;clear h5 h6 hbc;go_wp2_with fail
  clear c0 c1 c2 c3 c4 c5
  go_loopw [16] (fun i wr=>∃k:Int,0≤k∧k≤3∧i=.int .i64 k∧(0<k→Ac6 r.c.no s.c.no kc jc=true)∧(1<k→Ac6 r.o.no s.o.no ko jo=true)∧(2<k→Ac6 r.p.no s.p.no kp jp=true)∧Below wc.heap.size wc wr) (fun i _=>3-(intOf i).toNat)
  case atStart=>exact⟨0,by omega,by omega,rfl,by omega,by omega,by omega,Below.refl _ _⟩
  case round=>
   obtain⟨k,hk0,hk3,rfl,h0,h1,h2,hb⟩:=hrel;have Hbr:=Lh hb;have Hbx:=Lh (bt Hb.out hb);have H6:=Lh (H6.out.up hb);have l6:=H6.out.lt;obtain⟨d0,d1,d2,d3,d4,d5⟩:=K5 H6.out;clear hb;have e0:=fun W=>By9 (.int .i64 r.c.no) (.slice r.c.a r.c.len r.c.cap) (.int .i64 r.o.no) (.slice r.o.a r.o.len r.o.cap) (.int .i64 r.p.no) (.slice r.p.a r.p.len r.p.cap) W;have e1:=fun W=>Bz0 (.int .i64 r.c.no) (.slice r.c.a r.c.len r.c.cap) (.int .i64 r.o.no) (.slice r.o.a r.o.len r.o.cap) (.int .i64 r.p.no) (.slice r.p.a r.p.len r.p.cap) W;have e2:=fun W=>Bz1 (.int .i64 r.c.no) (.slice r.c.a r.c.len r.c.cap) (.int .i64 r.o.no) (.slice r.o.a r.o.len r.o.cap) (.int .i64 r.p.no) (.slice r.p.a r.p.len r.p.cap) W;rcases(show k=0∨k=1∨k=2∨k=3 by omega) with rfl | rfl | rfl | rfl
   ·clear h0 h1 h2;have hw:∀W,At W r.c.a (B8s kc)→At W s.c.a (B8s jc)→Calls Tryz.prog 101 #[.slice r.c.a r.c.len r.c.cap,.slice s.c.a s.c.len s.c.cap] W fun e w'=>e=.returned (.bool (kc==jc))∧w'=W:=fun W h1 h2=>(Ag3 _ _ _ _ _ _ _ _ W Hr.out.lc Hs.out.lc h1 h2).mono fun _ _ ⟨h3,h4⟩=>⟨h3,h4.symm⟩;have Hw:=Lh hw;have HP:=Lh (Hr.out.c.mono Hbx.out);have HQ:=Lh (Hs.out.c.mono Hbx.out);clear hw;rcases hq:(r.c.no==s.c.no) with _ | _
    ·have hd:(r.c.no != s.c.no)=true:=by simpa [bne] using hq
     have HF:=Lh (show U1 r s kc ko kp jc jo jp=false by simp[U1,Ac6,hq]);clear hq;go_wp2_with fail
     go_quiet ((go_at_call 101;exact Calls.quiet_of_same (Hw.out _ (HP.out.mono (ban _ _ _)) (HQ.out.mono (ban _ _ _)))))
     all_goals
      go_wp2_with fail
      go_ret;exact⟨by rw[HF.out];rfl,(bt Hbx.out (ba _ _)).trans ⟨rfl,rfl,rfl,Nat.le_refl _,fun _ _=>rfl⟩⟩
    ·have hd:(r.c.no != s.c.no)=false:=by simpa [bne] using hq
     rcases hv:(kc==jc) with _ | _
     ·have HF:=Lh (show U1 r s kc ko kp jc jo jp=false by simp only[U1,Ac6,hq,hv];simp);have Hw:=Lh (show ∀W,At W r.c.a (B8s kc)→At W s.c.a (B8s jc)→Calls Tryz.prog 101 #[.slice r.c.a r.c.len r.c.cap,.slice s.c.a s.c.len s.c.cap] W fun e w'=>e=.returned (.bool false)∧w'=W by have:=Hw.out;rwa [hv] at this);clear hq hv;go_wp2_with fail
      go_quiet ((go_at_call 101;exact Calls.quiet_of_same (Hw.out _ (HP.out.mono (ban _ _ _)) (HQ.out.mono (ban _ _ _)))))
      all_goals
       go_wp2_with fail
       go_ret;exact⟨by rw[HF.out];rfl,(bt Hbx.out (ba _ _)).trans ⟨rfl,rfl,rfl,Nat.le_refl _,fun _ _=>rfl⟩⟩
     ·have HK:=Lh (show Ac6 r.c.no s.c.no kc jc=true by simp only[Ac6,hq,hv];rfl);have Hw:=Lh (show ∀W,At W r.c.a (B8s kc)→At W s.c.a (B8s jc)→Calls Tryz.prog 101 #[.slice r.c.a r.c.len r.c.cap,.slice s.c.a s.c.len s.c.cap] W fun e w'=>e=.returned (.bool true)∧w'=W by have:=Hw.out;rwa [hv] at this);clear hq hv;go_wp2_with fail
      go_quiet ((go_at_call 101;exact Calls.quiet_of_same (Hw.out _ (HP.out.mono (ban _ _ _)) (HQ.out.mono (ban _ _ _)))))
      all_goals
       go_wp2_with fail
       exact⟨⟨1,by decide,by decide,rfl,fun _=>HK.out,by omega,by omega,(bt Hbr.out (ba _ _)).trans ⟨rfl,rfl,rfl,Nat.le_refl _,fun _ _=>rfl⟩⟩,by simp[intOf]⟩
   ·have K0:=Lh (h0 (by decide));clear h0 h1 h2;have hw:∀W,At W r.o.a (B8s ko)→At W s.o.a (B8s jo)→Calls Tryz.prog 101 #[.slice r.o.a r.o.len r.o.cap,.slice s.o.a s.o.len s.o.cap] W fun e w'=>e=.returned (.bool (ko==jo))∧w'=W:=fun W h1 h2=>(Ag3 _ _ _ _ _ _ _ _ W Hr.out.lo Hs.out.lo h1 h2).mono fun _ _ ⟨h3,h4⟩=>⟨h3,h4.symm⟩;have Hw:=Lh hw;have HP:=Lh (Hr.out.o.mono Hbx.out);have HQ:=Lh (Hs.out.o.mono Hbx.out);clear hw;rcases hq:(r.o.no==s.o.no) with _ | _
    ·have hd:(r.o.no != s.o.no)=true:=by simpa [bne] using hq
     have HF:=Lh (show U1 r s kc ko kp jc jo jp=false by simp[U1,K0.out,Ac6,hq]);clear hq;go_wp2_with fail
     go_quiet ((go_at_call 101;exact Calls.quiet_of_same (Hw.out _ (HP.out.mono (ban _ _ _)) (HQ.out.mono (ban _ _ _)))))
     all_goals
      go_wp2_with fail
      go_ret;exact⟨by rw[HF.out];rfl,(bt Hbx.out (ba _ _)).trans ⟨rfl,rfl,rfl,Nat.le_refl _,fun _ _=>rfl⟩⟩
    ·have hd:(r.o.no != s.o.no)=false:=by simpa [bne] using hq
     rcases hv:(ko==jo) with _ | _
     ·have HF:=Lh (show U1 r s kc ko kp jc jo jp=false by simp only[U1,K0.out,Ac6,hq,hv];simp);have Hw:=Lh (show ∀W,At W r.o.a (B8s ko)→At W s.o.a (B8s jo)→Calls Tryz.prog 101 #[.slice r.o.a r.o.len r.o.cap,.slice s.o.a s.o.len s.o.cap] W fun e w'=>e=.returned (.bool false)∧w'=W by have:=Hw.out;rwa [hv] at this);clear hq hv;go_wp2_with fail
      go_quiet ((go_at_call 101;exact Calls.quiet_of_same (Hw.out _ (HP.out.mono (ban _ _ _)) (HQ.out.mono (ban _ _ _)))))
      all_goals
       go_wp2_with fail
       go_ret;exact⟨by rw[HF.out];rfl,(bt Hbx.out (ba _ _)).trans ⟨rfl,rfl,rfl,Nat.le_refl _,fun _ _=>rfl⟩⟩
     ·have HK:=Lh (show Ac6 r.o.no s.o.no ko jo=true by simp only[Ac6,hq,hv];rfl);have Hw:=Lh (show ∀W,At W r.o.a (B8s ko)→At W s.o.a (B8s jo)→Calls Tryz.prog 101 #[.slice r.o.a r.o.len r.o.cap,.slice s.o.a s.o.len s.o.cap] W fun e w'=>e=.returned (.bool true)∧w'=W by have:=Hw.out;rwa [hv] at this);clear hq hv;go_wp2_with fail
      go_quiet ((go_at_call 101;exact Calls.quiet_of_same (Hw.out _ (HP.out.mono (ban _ _ _)) (HQ.out.mono (ban _ _ _)))))
      all_goals
       go_wp2_with fail
       exact⟨⟨2,by decide,by decide,rfl,fun _=>K0.out,fun _=>HK.out,by omega,(bt Hbr.out (ba _ _)).trans ⟨rfl,rfl,rfl,Nat.le_refl _,fun _ _=>rfl⟩⟩,by simp[intOf]⟩
   ·have K0:=Lh (h0 (by decide));have K1:=Lh (h1 (by decide));clear h0 h1 h2;have hw:∀W,At W r.p.a (B8s kp)→At W s.p.a (B8s jp)→Calls Tryz.prog 101 #[.slice r.p.a r.p.len r.p.cap,.slice s.p.a s.p.len s.p.cap] W fun e w'=>e=.returned (.bool (kp==jp))∧w'=W:=fun W h1 h2=>(Ag3 _ _ _ _ _ _ _ _ W Hr.out.lp Hs.out.lp h1 h2).mono fun _ _ ⟨h3,h4⟩=>⟨h3,h4.symm⟩;have Hw:=Lh hw;have HP:=Lh (Hr.out.p.mono Hbx.out);have HQ:=Lh (Hs.out.p.mono Hbx.out);clear hw;rcases hq:(r.p.no==s.p.no) with _ | _
    ·have hd:(r.p.no != s.p.no)=true:=by simpa [bne] using hq
     have HF:=Lh (show U1 r s kc ko kp jc jo jp=false by simp[U1,K0.out,K1.out,Ac6,hq]);clear hq;go_wp2_with fail
     go_quiet ((go_at_call 101;exact Calls.quiet_of_same (Hw.out _ (HP.out.mono (ban _ _ _)) (HQ.out.mono (ban _ _ _)))))
     all_goals
      go_wp2_with fail
      go_ret;exact⟨by rw[HF.out];rfl,(bt Hbx.out (ba _ _)).trans ⟨rfl,rfl,rfl,Nat.le_refl _,fun _ _=>rfl⟩⟩
    ·have hd:(r.p.no != s.p.no)=false:=by simpa [bne] using hq
     rcases hv:(kp==jp) with _ | _
     ·have HF:=Lh (show U1 r s kc ko kp jc jo jp=false by simp only[U1,K0.out,K1.out,Ac6,hq,hv];simp);have Hw:=Lh (show ∀W,At W r.p.a (B8s kp)→At W s.p.a (B8s jp)→Calls Tryz.prog 101 #[.slice r.p.a r.p.len r.p.cap,.slice s.p.a s.p.len s.p.cap] W fun e w'=>e=.returned (.bool false)∧w'=W by have:=Hw.out;rwa [hv] at this);clear hq hv;go_wp2_with fail
      go_quiet ((go_at_call 101;exact Calls.quiet_of_same (Hw.out _ (HP.out.mono (ban _ _ _)) (HQ.out.mono (ban _ _ _)))))
      all_goals
       go_wp2_with fail
       go_ret;exact⟨by rw[HF.out];rfl,(bt Hbx.out (ba _ _)).trans ⟨rfl,rfl,rfl,Nat.le_refl _,fun _ _=>rfl⟩⟩
     ·have HK:=Lh (show Ac6 r.p.no s.p.no kp jp=true by simp only[Ac6,hq,hv];rfl);have Hw:=Lh (show ∀W,At W r.p.a (B8s kp)→At W s.p.a (B8s jp)→Calls Tryz.prog 101 #[.slice r.p.a r.p.len r.p.cap,.slice s.p.a s.p.len s.p.cap] W fun e w'=>e=.returned (.bool true)∧w'=W by have:=Hw.out;rwa [hv] at this);clear hq hv;go_wp2_with fail
      go_quiet ((go_at_call 101;exact Calls.quiet_of_same (Hw.out _ (HP.out.mono (ban _ _ _)) (HQ.out.mono (ban _ _ _)))))
      all_goals
       go_wp2_with fail
       exact⟨⟨3,by decide,by decide,rfl,fun _=>K0.out,fun _=>K1.out,fun _=>HK.out,(bt Hbr.out (ba _ _)).trans ⟨rfl,rfl,rfl,Nat.le_refl _,fun _ _=>rfl⟩⟩,by simp[intOf]⟩
   ·have K0:=Lh (h0 (by decide));have K1:=Lh (h1 (by decide));have K2:=Lh (h2 (by decide));clear h0 h1 h2 e0 e1 e2 d0 d1 d2 d3 d4 d5;obtain⟨-,-,-,-,-,-,c6,c7⟩:=J5 (HA.out.up Hbr.out);obtain⟨-,-,-,-,-,-,f6,f7⟩:=J5 (HB.out.up Hbr.out);go_wp2_with fail
    all_goals
     go_ret;exact⟨by simp[U1,K0.out,K1.out,K2.out, *],Hbx.out⟩
theorem Blk.bytes{w:World}{b:Nat}{l:List UInt8}(h:Blk w b (B8s l)):A4 w (some ⟨b,0,none⟩) l:=h.at
def Ch3(w:World)(D:List UInt8)(e:Ending)(w':World):Prop:=∃b cb,e=.returned (.tuple #[.slice b 32 cb,.int .i64 0])∧(32≤cb∧cb≤maxLen)∧A4 w' b D∧Below w.heap.size w w'
theorem Bp8(a:Option Addr)(c:Nat)(key:List UInt8)(str:ByteArray)(pa:Option Addr)(pc:Nat)(rows:List (List UInt8))(hk:key.length≤100000)(hs:str.size≤255)(hr:rows.length≤16)(ht:An4 rows≤10000)(w:World)(hkey:A4 w a key)(hrows:Y3 w pa rows):
 Calls Tryz.prog 78 #[.slice a key.length c,.string str,.slice pa rows.length pc] w (Ch3 w (Ar5 key (At1 str.data.toList rows))):=by
 have HKey:=Lh hkey;have Hr:=Lh hrows;have HTo:=Lh (fun W'=>Em0 str pa pc rows (by omega) (by omega) ht W');have HTl:=Lh (show(At1 str.data.toList rows).length≤90000 by rw[Dy9,Bg0];omega);have HSl:=Lh (Bt8 rows);have Ht:=Lh ht;have hd1:¬(255:Int)<(str.size:Int):=by omega
 have hd2:¬(16:Int)<(rows.length:Int):=by omega
 clear hkey hrows ht;generalize At1 str.data.toList rows=T at HTo HTl;go_enter Tryz.func78,Tryz.ntmps78
 go_wp2_with fail
 go_loopw [8] (fun v8 wx=>∃k:Nat,k≤rows.length∧v8=.int .i64 (k:Int)∧w=wx) (fun v8 _=>rows.length-(intOf v8).toNat)
 case atStart=>exact⟨0,Nat.zero_le _,rfl,rfl⟩
 case round=>
  obtain⟨k,hk2,rfl,rfl⟩:=hrel;by_cases hlt:k<rows.length
  ·obtain⟨b,off,p,cc,rfl,hbl,hcell,hp1,hp2,hat⟩:=Hr.out.row k hlt;have hxl:(rows.getD k []).length≤10000:=by
    have h1:=HSl.out (k+1);have h2:=Bc6 rows k hlt;have h3:=Ht.out;omega
   have hd3:¬(65535:Int)<(((rows.getD k []).length:Nat):Int):=by omega
   clear hp1 hp2 hat
   generalize rows.getD k []=x at hcell hxl hd3;go_wp2_with fail
   exact⟨⟨k+1,by omega,by go_num,by first | rfl | trivial⟩,by simp[intOf];omega⟩
  ·obtain rfl:k=rows.length:=by omega
   go_wp2_with fail
   refine(HTo.out w Hr.out).mono ?_;rintro e w2 ⟨a2,c2,rfl,hat2,hb2⟩;have Hat2:=Lh hat2;have Hb2:=Lh hb2;clear hat2 hb2;have HTg:=Lh (Ca6 a a2 c c2 key T hk HTl.out w2 (HKey.out.mono Hb2.out) Hat2.out);go_wp2_with fail
   refine HTg.out.mono ?_;rintro e w3 ⟨a3,c3,rfl,hc3,hat3,hb3⟩;have Hat3:=Lh hat3;have Hb3:=Lh (bt Hb2.out hb3);have Hc3:=Lh hc3;clear hc3 hat3 hb3;go_wp2_with fail
   go_ret2
   exact⟨a3,c3,rfl,Hc3.out,Hat3.out,Hb3.out⟩
theorem Cl6(a:Option Addr)(c:Nat)(key:List UInt8)(str:ByteArray)(pa:Option Addr)(pc:Nat)(rows:List (List UInt8))(hk:key.length≤100000)(hs:str.size≤255)(hr:rows.length≤16)(ht:An4 rows≤10000)(w:World)(hkey:A4 w a key)(hrows:Y3 w pa rows)(hks:Q5 w):
 Calls Tryz.prog 111 #[.slice a key.length c,.string str,.slice pa rows.length pc] w (Ch3 w (Ar5 key (At1 str.data.toList rows))):=by
 have HKey:=Lh hkey;have Hks:=Lh hks;have Hr:=Lh hrows;have HL:=Lh (Bi5 str.data.toList rows);have HSt:=Lh (Bn4 str.data.toList rows);have HSl:=Lh (Bt8 rows);have HT:=Lh (show At1 str.data.toList rows=An1 str.data.toList rows rows.length from rfl);obtain⟨T0,hT0⟩:∃T0,T0=An1 str.data.toList rows 0:=⟨_,rfl⟩;have HT0:=Lh (show T0=[J3 (str.size:Int)]++str.data.toList by rw[hT0,Ca7,Bg0]);have HT0e:=Lh hT0;have hsz:=Lh (Bg0 str);have hw8:=Ay2 (str.size:Int);have hO:V8 w (w.alloc (.cells #[.int .u8 (bv (J3 (str.size:Int)))] 5)) (.slice (some ⟨w.heap.size,0,none⟩) 1 1) [J3 (str.size:Int)]:=
  V8.of rfl (Buf.made w 5 (B8s [J3 (str.size:Int)]) 1 1 (Nat.le_refl _) rfl (by decide))
 have HO:=Lh hO;have hd1:¬(255:Int)<(str.size:Int):=by omega
 have hd2:¬(16:Int)<(rows.length:Int):=by omega
 clear hkey hrows hks hO hT0;generalize J3 (str.size:Int)=lb at hw8 HO HT0;go_enter Tryz.func111,Tryz.ntmps111
 go_wp2_with (at_builtin;go_must (refine Cp6 (.tmp 22) (.tmp 23) rfl rfl rfl HO.out str rfl (by simp;omega) T0 HT0.out ?_;intro a1 c1 w1 h1;have H1:=Lh h1;clear h1))
 go_loopw [8,10,27] (fun v8 v10 v27 wx=>∃(k:Nat) (L:List UInt8) (o:Option Addr) (oc:Nat),k≤rows.length∧v27=.int .i64 (k:Int)∧L=An1 str.data.toList rows k∧v8=.slice o L.length oc∧V8 w wx v8 L) (fun _ _ v27 _=>rows.length-(intOf v27).toNat)
 case atStart=>exact⟨0,T0,a1,c1,Nat.zero_le _,rfl,HT0e.out,rfl,H1.out⟩
 case round=>
  clear hw8 H1;obtain⟨k,L,o,oc,hk2,rfl,hL,rfl,hO⟩:=hrel;have HLe:=Lh hL;have hLl:L.length≤20000:=by rw[hL,HL.out k hk2,hsz.out];have:=HSl.out k;omega
  have HO:=Lh hO;clear hL hO;by_cases hlt:k<rows.length
  ·obtain⟨b,off,p,cc,rfl,hbl,hcell,hp1,hp2,hat⟩:=Hr.out.row k hlt;have hxl:(rows.getD k []).length≤10000:=by
    have h1:=HSl.out (k+1);have h2:=Bc6 rows k hlt;omega
   have hd3:¬(65535:Int)<(((rows.getD k []).length:Nat):Int):=by omega
   have HN:=Lh (HSt.out k hlt);rw[←HLe.out] at HN;have c0:wr.cell? ⟨b,off+k,none⟩=some (.slice p (rows.getD k []).length cc):=by rw[HO.out.bel.cell (p:=⟨b,off+k,none⟩) hbl];exact hcell
   have Hat:=Lh hat
   clear hcell hat hp1 hp2;generalize rows.getD k []=x at HN c0 Hat hxl hd3;obtain⟨q,hq⟩:∃q:Int,q=(x.length:Int)/256:=⟨_,rfl⟩;have hb1:IntKind.u8.wrap q=bv (J3 ((x.length:Int)/256)):=by rw[Ay2,hq]
   have hb2:=Ay2 (x.length:Int);have hsh:binOp .shr 3 (.int .i64 (x.length:Int)) (.int .u64 8)=pure (.int .i64 q):=by
    rw[Co7 3 (x.length:Int) 8 .u64 (by decide) (by decide),hq];rfl
   obtain⟨L1,hL1⟩:∃L1,L1=L++[J3 ((x.length:Int)/256),J3 (x.length:Int)]:=⟨_,rfl⟩;have HL1l:=Lh (show L1.length=L.length+2 by rw[hL1];simp);rw[←hL1] at HN;generalize J3 ((x.length:Int)/256)=b1 at hb1 hL1;generalize J3 (x.length:Int)=b2 at hb2 hL1;have HL1:=Lh hL1;obtain⟨T1,hT1⟩:∃T1,T1=An1 str.data.toList rows (k+1):=⟨_,rfl⟩;rw[←hT1] at HN;have HT1:=Lh hT1;clear hL1 hq hT1;go_wp2_with (first
    | (at_builtin;(refine Ag5 (.tmp 34) (.tmp 42) rfl rfl rfl (HO.out.up (ba wr _)) [b1,b2] rfl (U7 wr (B8s [b1,b2]) _) rfl (by omega) L1 HL1.out ?_;intro a6 c6 w6 h6;have H6:=Lh h6;clear h6 c0))
    | (at_builtin;(refine Ag5 (.tmp 44) (.tmp 45) rfl rfl rfl H6.out x rfl (Hat.out.mono H6.out.bel) rfl (by have:=HL1l.out;omega) T1 HN.out ?_;intro a7 c7 w7 h7;have H7:=Lh h7;clear h7)))
   exact⟨⟨k+1,T1,a7,c7,by omega,by go_num,HT1.out,rfl,H7.out⟩,by simp[intOf];omega⟩
  ·obtain rfl:k=rows.length:=by omega
   have hE:At1 str.data.toList rows=L:=by rw[HLe.out];exact HT.out
   have HE:=Lh hE;clear hE;have HTg:=Lh (Ca5 a o c oc key L hk (by omega) wr (HKey.out.mono HO.out.bel) HO.out.at (Hks.out.mono HO.out.bel));go_wp2_with fail
   refine HTg.out.mono ?_;rintro e w3 ⟨a3,c3,rfl,hc3,hat3,hb3⟩;have Hat3:=Lh hat3;have Hb3:=Lh (bt HO.out.bel hb3);have Hc3:=Lh hc3;clear hc3 hat3 hb3;go_wp2_with fail
   go_ret2
   rw[HE.out];exact⟨a3,c3,rfl,Hc3.out,Hat3.out,Hb3.out⟩
end Go.Proofs.YtadpiemjgfndgaaGreatDoor
