/- The law WholeBch. Conditions: the moduli lie in memory. -/
import Derived.Test.YtoilbeadokallaaGreatDoorK39
import Derived.Test.YtoilbeadokallaaGreatDoorK41
import Derived.Test.YtoilbeadokallaaGreatDoorK42
import Derived.Test.YtoilbeadokallaaGreatDoorK46
import Derived.Test.YtoilbeadokallaaGreatDoorK47
import Derived.Test.YtoilbeadokallaaGreatDoorK48
import Derived.BigQuiet
namespace Go.Proofs.YtoilbeadokallaaGreatDoor
section
open Go.RowKit Cw Cw.Gj
theorem VZ {P M:Int} {mod:List Int} {P' M':Int} {mod':List Int} {N:Nat} {G H:GFd} {r0 a:Int} (h:mY P M mod P' M' mod' (N:Int) G H r0 a) {A:List (List Int)} {Pv:List Nat} (hrf:Rf G.q A N Pv) {B D:Nat} (hB:B<N) (hD:D<=N) (hc:Zt h (fJ N ((List.range D).map fun i=>((B+i:Nat):Int))) A)
  {x y:Nat} (hx:iw (fJ N (bQ (DR H (jQ G H r0) A N a))) N 0 (fun _ _ _ _=>True) x) (h1:1<=x) (hy:iw (fJ N (bQ (DR H (jQ G H r0) A N a))) N N (fun _ _ _ _=>True) y) (h2:1<=y):D+1<=x/\x<=y/\
   ∀ (_:0<A.length) (steps:List (List Nat×Nat)) (_:DX (opG G) A N [] steps) (best:List Int) (_:Lp (opG G) A.length G.q.toNat N (DY G A N steps) (rkR steps) 1 ([],0) (some best)),y<=wt best:=by
 have ha:=h.agl;refine⟨Qd hx h1 hB (by omega) fun i hi=>?_,TB hx hy h2,fun hA steps hf best hrun=>?_⟩
 ·have hj:(B+i)%N<N:=vU _ (by omega);refine(VL h.tG h.tH h.phi h.im hrf.ri.w ha.2.1 hj).2 fun r hr=>hc _ hj ?_ r hr;rw[IW _ hj,rO];exact⟨((B+i:Nat):Int),yY.2 ⟨i,yT.2 (by omega),rfl⟩,by simp⟩
 ·exact adi h.tG h.tH h.phi h.im hrf.ri.w ha.2.1 (by have:=ha.2.2;rwa [yL] at this) (Zn (t:=h.tG) (A:=A) (n:=N) hrf hA hf hrun) hy
set_option maxRecDepth 100000 in
set_option maxHeartbeats 8000000 in
theorem ads (hal:∀ w,Calls Tryz.prog 5 #[] w fun e w'=>e=.returned (.bool true)/\ay w w') (P M:Int) (vm:Value) (mod:List Int) (P' M':Int) (vm':Value) (mod':List Int) (n bb dd:Int) (w:World) (hvm:Sl w vm mod) (JM:Sl w vm' mod'):
  Calls Tryz.prog 3 #[.agg #[.int .i64 P,.int .i64 M,vm],.agg #[.int .i64 P',.int .i64 M',vm'],.agg #[.int .i64 n,.int .i64 bb,.int .i64 dd]] w fun e w'=>e=.returned (.bool true)/\ay w w':=by
 obtain⟨W1,hW1⟩:∃ x,x=((w.alloc (.cells #[.int .i64 P,.int .i64 M,vm] 24)).alloc (.cells #[.int .i64 P',.int .i64 M',vm'] 24)).alloc (.cells #[.int .i64 n,.int .i64 bb,.int .i64 dd] 25):=⟨_,rfl⟩
 have hk1:ay w W1:=by rw[hW1];exact((ah _ _).tr (ah _ _)).tr (ah _ _)
 have bx:nJ W1 w.heap.size P M vm:=by rw[hW1];exact((aS w P M vm 24).kept (ah _ _)).kept (ah _ _)
 have by':nJ W1 (w.heap.size+1) P' M' vm':=by
  rw[hW1];have:=(aS (w.alloc (.cells #[.int .i64 P,.int .i64 M,vm] 24)) P' M' vm' 24).kept (ah _ (.cells #[.int .i64 n,.int .i64 bb,.int .i64 dd] 25));simpa using this
 have br:Bk W1 (w.heap.size+1+1) [.int .i64 n,.int .i64 bb,.int .i64 dd]:=by rw[hW1];exact aG _ [.int .i64 n,.int .i64 bb,.int .i64 dd] _ _ (by simp)
 have HVM:=hid (hvm.kept hk1);have HVN:=hid (JM.kept hk1);have HBX:=hid bx;have HBY:=hid by';have HBR:=hid br;have HK1:=hid hk1;have HAL:=hid (hal W1);clear hvm JM hk1 bx by' br hal;go_enter Tryz.func3,Tryz.ntmps3;go_upto_region 1 with(fail)
 rw[<-hW1];clear hW1;go_upto_region 3 with(go_at_call 5;(with_reducible refine HAL.out.mono ?_);rintro e w2 ⟨rfl,hk2⟩)
 have br2:=HBR.out.kept hk2;have z0:=br2.2 0 _ rfl;have z1:=br2.2 1 _ rfl;have z2:=br2.2 2 _ rfl;clear br2;have am9:=hid hk2;clear hk2;go_quiet(fail);obtain⟨w3,hw3⟩:∃ x,x=w2.drewN nq:=⟨_,rfl⟩
 rw[<-hw3];have Qg:ay w2 w3:=by rw[hw3];exact aB _ _
 have Bj:=am9.out.tr Qg;have HK3:=hid (HK1.out.tr Bj);have bx3:=HBX.out.kept Bj;have by3:=HBY.out.kept Bj;have b0:=bx3.h0;have b1:=bx3.h1;have b2:=bx3.h2;have c0:=by3.h0;have c1:=by3.h1;have c2:=by3.h2;have ai6:=hid by3;have ahe:=hid (HVN.out.kept Bj);have HBN:=hid (agv P M vm mod P' M' vm' mod' n bb dd w3 (HVM.out.kept Bj) ahe.out);clear bx3 by3 Qg Bj hw3 z0 z1 z2;by_cases h15:15<n
 ·go_wp2_with(fail)
  go_ret;exact⟨rfl,HK3.out⟩
 have aoI:decide (15<n)=false:=by simpa using h15
 go_upto_region 7 with(go_at_call 6;(with_reducible refine HBN.out.mono ?_);rintro e w4 ⟨hk4,hx⟩;have HK4:=hid (HK3.out.tr hk4);have ana:=hid (ai6.out.kept hk4);have anb:=hid (ahe.out.kept hk4);unfold EW at hx;clear b0 b1 b2 c0 c1 c2 hk4;rcases hx with⟨err,h0,rfl⟩|⟨N,rfl,B,rfl,D,rfl,hB,hD,G,H,r0,a,hed,A,Pv,xa,c,fa,fc,hrf,hcq,rfl,ho4,hr4⟩)
 ·have te:(err != 0)=true:=by simpa using h0
  clear h0;go_wp2_with(fail)
  go_ret;exact⟨rfl,HK4.out.tr (ah _ _)⟩
 ·have hN:1<=N/\N<=64:=by have h1:=hed.n1;have h2:=hed.n2;omega
  obtain⟨hN1,hN2⟩:=hN;obtain⟨q1,q2',q3⟩:=hed.dG;subst q1 q2' q3;have HPL:=hid (fun(x y:Nat)=>VZ hed hrf hB hD hcq (x:=x) (y:=y));have HED:=hid hed;have HRF:=hid hrf;obtain⟨lm,hlm⟩:∃ l,l=G.mod.length:=⟨_,rfl⟩
  rw[<-hlm] at ho4 ⊢;obtain⟨W5,hW5⟩:∃ x,x=w4.alloc (.cells #[.int .i64 G.P,.int .i64 G.M,.slice xa lm c,.int .i64 N,.slice fa A.length fc] 29):=⟨_,rfl⟩
  have hk5:ay w4 W5:=by rw[hW5];exact ah _ _
  have bc:SX W5 w4.heap.size G.P G.M (.slice xa lm c) N (.slice fa A.length fc):=by rw[hW5];exact mD _ _ _ _ _ _ _
  rw[<-hW5];have akH:=hid (ho4.sl.kept hk5);have akI:=hid (hr4.rd.kept hk5);have HK5:=hid (HK4.out.tr hk5);have anc:=hid (ana.out.kept hk5);have ane:=hid (anb.out.kept hk5);have anf:=hid bc;have HFW:=hid (Zd G.P G.M xa lm c G.mod N fa fc A 15 W5 akH.out akI.out);have b0:=bc.h0;have b1:=bc.h1;have b2:=bc.h2;have b3:=bc.h3;have b4:=bc.h4;clear hed hrf hcq hlm hW5 hk5 bc ho4 hr4;go_upto_region 8 with(go_at_call 7;(with_reducible refine HFW.out.mono ?_);rintro e w6 ⟨r,rfl,hr,hk6⟩;have HK6:=hid (HK5.out.tr hk6);have bc6:=anf.out.kept hk6;have ang:=hid bc6;have anh:=hid (anc.out.kept hk6);have ani:=hid (ane.out.kept hk6);have akJ:=hid (akH.out.kept hk6);have akK:=hid (akI.out.kept hk6);clear b0 b1 b2 b3 b4 hk6 hr;have b0:=bc6.h0;have b1:=bc6.h1;have b2:=bc6.h2;have b3:=bc6.h3;have b4:=bc6.h4;have by6:=anh.out;have c0:=by6.h0;have c1:=by6.h1;have c2:=by6.h2;clear bc6 by6;cases r<;>by_cases hA:A.length=0)
  ·go_wp2_with(fail)
   go_ret;exact⟨rfl,HK6.out⟩
  ·go_wp2_with(fail)
   go_ret;exact⟨rfl,HK6.out⟩
  ·go_wp2_with(fail)
   go_ret;exact⟨rfl,HK6.out⟩
  have HA:=hid (show 0<A.length by omega);obtain⟨lz,hlz⟩:∃ l,l=bQ (DR H (jQ G H r0) A N a):=⟨_,rfl⟩
  have HZE:=hid (Zv P' M' vm' mod' N G H r0 a HED.out xa lm c fa A.length fc A Pv w6 akJ.out akK.out HRF.out ani.out);rw[<-hlz] at HZE HPL;clear hlz;go_upto_region 10 with(go_at_call 8;(with_reducible refine HZE.out.mono ?_);rintro e w7 ⟨hk7,vz,rfl,hoz⟩)
  have HOZ:=hid hoz;have anj:=hid hk7;have HBD:=hid (VX N vz lz w7 hoz.sl hN1 hN2);clear b0 b1 b2 b3 b4 c0 c1 c2 hk7 hoz;go_upto_region 11 with(go_at_call 9;(with_reducible refine HBD.out.mono ?_);rintro e w8 ⟨x,x0,x1,x2,x3,x4,rfl,hbx,hx1,hk8⟩)
  obtain⟨w9,hw9⟩:∃ y,y=w8.alloc (.cells #[.int .i64 x0,.int .i64 x1,.int .i64 x2,.int .i64 x3,.int .i64 x4] 37):=⟨_,rfl⟩
  rw[<-hw9];have hk9:ay w7 w9:=by rw[hw9];exact hk8.tr (ah _ _)
  have ank:=hid hk9;have anl:=hid hbx;have HTZ:=hid (VY N vz lz w9 (HOZ.out.sl.kept hk9) hN1 hN2);clear hw9 hk8 hk9 hbx;go_upto_region 12 with(go_at_call 10;(with_reducible refine HTZ.out.mono ?_);rintro e w10 ⟨y,y0,y1,y2,y3,y4,rfl,hby,hy1,hk10⟩)
  obtain⟨w11,ajb⟩:∃ z,z=w10.alloc (.cells #[.int .i64 y0,.int .i64 y1,.int .i64 y2,.int .i64 y3,.int .i64 y4] 37):=⟨_,rfl⟩
  rw[<-ajb];have agx:ay w6 w11:=by rw[ajb];exact(anj.out.tr ank.out).tr (hk10.tr (ah _ _))
  have anm:=hid (HK6.out.tr agx);have bc:=ang.out.kept agx;have b0:=bc.h0;have b1:=bc.h1;have b2:=bc.h2;have b3:=bc.h3;have b4:=bc.h4;obtain⟨g1,g2,g3⟩:=HPL.out x y anl.out hx1 hby hy1;have HG3:=hid g3;have HDI:=hid (show Calls Tryz.prog 11 #[.agg #[.int .i64 G.P,.int .i64 G.M,.slice xa lm c,.int .i64 N,.slice fa A.length fc]] w11 (afS G A N w11) from AU G HED.out.tG N xa lm c fa fc A Pv w11 ⟨akJ.out.kept agx,akK.out.kept agx,HRF.out,hN1,hN2⟩ HA.out (fun steps hf=>⟨JG A N HED.out.tG HRF.out HA.out hf,fun p hp=>by
   have h1:=JF HED.out.tG A N HRF.out HA.out hf p hp;exact⟨h1.1.1,h1.2⟩⟩))
  have g1':(D:Int)+1<=(x:Int):=by omega
  have g2':(x:Int)<=(y:Int):=by omega
  have t1:decide ((D:Int)+1<=(x:Int))=true:=by simpa using g1'
  have t2:decide ((x:Int)<=(y:Int))=true:=by simpa using g2'
  have t1a:decide ((D:Int)< (x:Int))=true:=xG (by omega);have t1b:decide (D+1<=x)=true:=xG (by omega);have t1c:decide (D<x)=true:=xG (by omega);have t2a:decide (x<=y)=true:=xG g2;clear bc ajb agx hk10 hby g3 g1' g2' g1 g2;go_upto_region 13 with(go_at_call 11;(with_reducible refine HDI.out.mono ?_);rintro e w12 ⟨hk12,steps,Qj,hx⟩;have agy:=hid (anm.out.tr hk12);clear hk12;rcases hx with⟨best,hrun,rfl⟩|⟨_,rfl⟩)
  ·have g3:=HG3.out HA.out steps Qj best hrun;obtain⟨d,hd⟩:∃ d:Nat,d=wt best:=⟨_,rfl⟩
   rw[<-hd] at g3 ⊢;have t3:decide ((y:Int)<=(d:Int))=true:=by simpa using(show(y:Int)<=(d:Int) by omega)
   have HG4:=hid g3;clear hrun Qj hd g3;go_wp2_with(fail)
   go_ret;exact⟨show Ending.returned (.bool (decide (y<=d)))=_ by rw[xG HG4.out],agy.out⟩
  ·clear Qj;go_wp2_with(fail)
   go_ret;exact⟨rfl,agy.out⟩
theorem JI (P M:Int) (vm:Value) (mod:List Int) (P' M':Int) (vm':Value) (mod':List Int) (n bb dd:Int) (w:World) (hvm:Sl w vm mod) (JM:Sl w vm' mod'):
  Calls Tryz.prog 3 #[.agg #[.int .i64 P,.int .i64 M,vm],.agg #[.int .i64 P',.int .i64 M',vm'],.agg #[.int .i64 n,.int .i64 bb,.int .i64 dd]] w fun e w'=>e=.returned (.bool true)/\ay w w':=
 ads alive_any P M vm mod P' M' vm' mod' n bb dd w hvm JM
end
end Go.Proofs.YtoilbeadokallaaGreatDoor
