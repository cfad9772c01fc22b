/- The walk of bch.New. -/
import Derived.Test.YtoilbeadokallaaGreatDoorK45
namespace Go.Proofs.YtoilbeadokallaaGreatDoor
section
open Go.RowKit Cw Cw.Gj
def BnO (P M:Int) (mod:List Int) (P' M':Int) (mod':List Int) (n bb dd:Int) (w:World) (e:Ending) (w':World):Prop:=
 ay w w'/\((∃ err:Int,err≠0/\e=.returned (.tuple #[EW,.int .i64 err]))∨
  ∃ (N:Nat) (_:n=(N:Int)) (B:Nat) (_:bb=(B:Int)) (D:Nat) (_:dd=(D:Int)+1) (_:B<N) (_:D<=N) (G H:GFd) (r0 a:Int) (h:mY P M mod P' M' mod' (N:Int) G H r0 a) (A:List (List Int)) (Pv:List Nat) (xa:Option Addr) (c:Nat) (fa:Option Addr) (fc':Nat),
   Rf G.q A N Pv/\Zt h (fJ N ((List.range D).map fun i=>((B+i:Nat):Int))) A/\e=.returned (.tuple #[.agg #[.int .i64 G.P,.int .i64 G.M,.slice xa G.mod.length c,.int .i64 N,.slice fa A.length fc'],.int .i64 0])/\Own w' w.heap.size (.slice xa G.mod.length c) G.mod/\Ro w' w.heap.size (.slice fa A.length fc') A)
set_option maxRecDepth 100000 in
set_option maxHeartbeats 8000000 in
theorem agv (P M:Int) (vm:Value) (mod:List Int) (P' M':Int) (vm':Value) (mod':List Int) (n bb dd:Int) (w:World) (hvm:Sl w vm mod) (JM:Sl w vm' mod'):
  Calls Tryz.prog 6 #[.agg #[.int .i64 P,.int .i64 M,vm],.agg #[.int .i64 P',.int .i64 M',vm'],.int .i64 n,.int .i64 bb,.int .i64 dd] w (BnO P M mod P' M' mod' n bb dd w):=by
 obtain⟨s2,hs2⟩:∃ x,x=w.heap.size+1+1:=⟨_,rfl⟩
 obtain⟨W1,hW1⟩:∃ x,x=((w.alloc (.cells #[.int .i64 P,.int .i64 M,vm] 24)).alloc (.cells #[.int .i64 P',.int .i64 M',vm'] 24)).alloc (.cells #[.int .i64 0,.int .i64 0,.slice none 0 0,.int .i64 0,.slice none 0 0] 29):=⟨_,rfl⟩
 have hk1:ay w W1:=by rw[hW1];exact((ah _ _).tr (ah _ _)).tr (ah _ _)
 have bx:nJ W1 w.heap.size P M vm:=by rw[hW1];exact((aS w P M vm 24).kept (ah _ _)).kept (ah _ _)
 have by':nJ W1 (w.heap.size+1) P' M' vm':=by
  rw[hW1];have:=(aS (w.alloc (.cells #[.int .i64 P,.int .i64 M,vm] 24)) P' M' vm' 24).kept (ah _ (.cells #[.int .i64 0,.int .i64 0,.slice none 0 0,.int .i64 0,.slice none 0 0] 29));simpa using this
 have br:Bk W1 s2 [.int .i64 0,.int .i64 0,.slice none 0 0,.int .i64 0,.slice none 0 0]:=by rw[hW1];exact aG _ [.int .i64 0,.int .i64 0,.slice none 0 0,.int .i64 0,.slice none 0 0] _ _ (by rw[hs2];simp)
 have fr:Fz W1 s2:=by rw[hW1];exact bD _ _ _ _ (by rw[hs2];simp)
 have HBR:=hid br;have HFR:=hid fr;have HBX:=hid bx;have HBY:=hid by';have HVM:=hid (hvm.kept hk1);have HVN:=hid (JM.kept hk1);have HK1:=hid hk1;have HS2:=hid hs2;have b0:=bx.h0;have b1:=bx.h1;have b2:=bx.h2;clear hvm JM hk1 br fr bx by';by_cases hf:fD P M mod;case neg=>
  have HN:=hid (check_any P M vm mod W1 HVM.out 1 (.inr ⟨hf,rfl⟩));clear hf;go_enter Tryz.func6,Tryz.ntmps6;go_upto_region 1 with(fail)
  rw[<-hW1,<-hs2];clear hW1 hs2;go_upto_region 3 with(go_at_call 18;(with_reducible refine HN.out.mono ?_);rintro e w2 ⟨rfl,hk2⟩;have HKx:=hid (HK1.out.tr hk2);have hbr:=HBR.out.kept hk2;have hfr:=HFR.out.kept hk2;have Zu:=hid hbr;have z0:=hbr.2 0 _ rfl;have z1:=hbr.2 1 _ rfl;have z2:=hbr.2 2 _ rfl;have z3:=hbr.2 3 _ rfl;have z4:=hbr.2 4 _ rfl;have f0:=hfr.2 0;have f1:=hfr.2 1;have f2:=hfr.2 2;have f3:=hfr.2 3;have f4:=hfr.2 4;have lb:=hbr.1;clear hbr hfr)
  go_wp2_with(fail)
  refine bodyPost_ret (aF rfl rfl (bT (Zu.out.mG _ _ _ _ _))) rfl ⟨?_,.inl ⟨1,by decide,rfl⟩⟩;exact aH HKx.out (cZ _ _ _ _ _ _ _) (show w.heap.size<=s2 by have:=HS2.out;omega) (HKx.out).size
 have HN:=hid (check_any P M vm mod W1 HVM.out 0 (.inl ⟨hf,rfl⟩));clear hf;go_enter Tryz.func6,Tryz.ntmps6;go_upto_region 1 with(fail)
 rw[<-hW1,<-hs2];clear hW1 hs2;go_upto_region 4 with(go_at_call 18;(with_reducible refine HN.out.mono ?_);rintro e w2 ⟨rfl,hk2⟩)
 have HK2:=hid (HK1.out.tr hk2);have Me:=hid (HBR.out.kept hk2);have aaR:=hid (HFR.out.kept hk2);have Yb:=hid (HBX.out.kept hk2);have agq:=hid (HVM.out.kept hk2);have am1:=hid (HVN.out.kept hk2);have ai2:=hid (HBY.out.kept hk2);have HEX:=hid (Md P M vm mod P' M' vm' mod' n w2 (HVM.out.kept hk2) (HVN.out.kept hk2));have bx2:=HBX.out.kept hk2;have by2:=HBY.out.kept hk2;clear b0 b1 b2 hk2;have b0:=bx2.h0;have b1:=bx2.h1;have b2:=bx2.h2;have c0:=by2.h0;have c1:=by2.h1;have c2:=by2.h2;clear bx2 by2;go_upto_region 5 with(go_at_call 19;(with_reducible refine HEX.out.mono ?_);rintro e w3 ⟨hk3,hx⟩;have HK3:=hid hk3;clear hk3;rcases hx with⟨_,pb,sa,sl,sc,x,err,h0,rfl⟩|⟨b,G,H,r0,a,gi,hed,rfl,hg3,ho3⟩)
 ·have te:(err != 0)=true:=by simpa using h0
  have H0:=hid h0;have HKx:=hid (HK2.out.tr HK3.out);have hbr:=Me.out.kept HK3.out;have hfr:=aaR.out.kept HK3.out;have Zu:=hid hbr;have z0:=hbr.2 0 _ rfl;have z1:=hbr.2 1 _ rfl;have z2:=hbr.2 2 _ rfl;have z3:=hbr.2 3 _ rfl;have z4:=hbr.2 4 _ rfl;have f0:=hfr.2 0;have f1:=hfr.2 1;have f2:=hfr.2 2;have f3:=hfr.2 3;have f4:=hfr.2 4;have lb:=hbr.1;clear hbr hfr;clear h0;go_wp2_with(fail)
  refine bodyPost_ret (aF rfl rfl (bT (Zu.out.mG _ _ _ _ _))) rfl ⟨?_,.inl ⟨err,H0.out,rfl⟩⟩;exact aH HKx.out (cZ _ _ _ _ _ _ _) (show w.heap.size<=s2 by have:=HS2.out;omega) (HKx.out).size
 ·obtain⟨N,rfl⟩:=zY (show 0<=n by have:=hed.n1;omega);have hN:1<=N/\N<=64:=by have h1:=hed.n1;have h2:=hed.n2;omega
  obtain⟨hN1,hN2⟩:=hN;have HED:=hid hed;obtain⟨Q,hQ⟩:∃ x,x=G.q.toNat:=⟨_,rfl⟩
  rw[<-hQ];have Qn:=hid (HK2.out.tr HK3.out);have VR:=hid (Me.out.kept HK3.out);have adn:=hid (aaR.out.kept HK3.out);have agr:=hid (Yb.out.kept HK3.out);have ai6:=hid (ai2.out.kept HK3.out);have ags:=hid (agq.out.kept HK3.out);have ahe:=hid (am1.out.kept HK3.out);have w1:IntKind.i64.wrap ((N:Int)+1)=(N:Int)+1:=IntWalk.i64_in _ (by omega);clear hed hQ hg3 ho3 b0 b1 b2 c0 c1 c2;by_cases hr:0<=bb/\bb< (N:Int)/\1<=dd/\dd<=(N:Int)+1;case neg=>
   have hbr:=VR.out;have hfr:=adn.out;have z0:=hbr.2 0 _ rfl;have z1:=hbr.2 1 _ rfl;have z2:=hbr.2 2 _ rfl;have z3:=hbr.2 3 _ rfl;have z4:=hbr.2 4 _ rfl;have f0:=hfr.2 0;have f1:=hfr.2 1;have f2:=hfr.2 2;have f3:=hfr.2 3;have f4:=hfr.2 4;have lb:=hbr.1;clear hbr hfr;by_cases h1:bb<0
   ·have t1:decide (bb<0)=true:=by simpa using h1
    clear hr;go_wp2_with(fail)
    refine bodyPost_ret (aF rfl rfl (bT (VR.out.mG _ _ _ _ _))) rfl ⟨?_,.inl ⟨6,by decide,rfl⟩⟩;exact aH Qn.out (cZ _ _ _ _ _ _ _) (show w.heap.size<=s2 by have:=HS2.out;omega) Qn.out.size
   ·have t1:decide (bb<0)=false:=by simpa using h1
    by_cases h2:(N:Int)<=bb
    ·have t2:decide ((N:Int)<=bb)=true:=by simpa using h2
     clear hr;go_wp2_with(fail)
     refine bodyPost_ret (aF rfl rfl (bT (VR.out.mG _ _ _ _ _))) rfl ⟨?_,.inl ⟨6,by decide,rfl⟩⟩;exact aH Qn.out (cZ _ _ _ _ _ _ _) (show w.heap.size<=s2 by have:=HS2.out;omega) Qn.out.size
    ·have t2:decide ((N:Int)<=bb)=false:=by simpa using h2
     by_cases h3:dd<1
     ·have t3:decide (dd<1)=true:=by simpa using h3
      clear hr;go_wp2_with(fail)
      refine bodyPost_ret (aF rfl rfl (bT (VR.out.mG _ _ _ _ _))) rfl ⟨?_,.inl ⟨6,by decide,rfl⟩⟩;exact aH Qn.out (cZ _ _ _ _ _ _ _) (show w.heap.size<=s2 by have:=HS2.out;omega) Qn.out.size
     ·have t3:decide (dd<1)=false:=by simpa using h3
      have h4:(N:Int)+1<dd:=by omega
      have t4:decide ((N:Int)+1<dd)=true:=by simpa using h4
      clear hr;go_wp2_with(fail)
      refine bodyPost_ret (aF rfl rfl (bT (VR.out.mG _ _ _ _ _))) rfl ⟨?_,.inl ⟨6,by decide,rfl⟩⟩;exact aH Qn.out (cZ _ _ _ _ _ _ _) (show w.heap.size<=s2 by have:=HS2.out;omega) Qn.out.size
  obtain⟨r1,r2,r3,r4⟩:=hr;obtain⟨B,rfl⟩:=zY r1;obtain⟨D,hD⟩:=zY (show 0<=dd-1 by omega);have hD':dd=(D:Int)+1:=by omega
  subst hD';have t1:decide ((B:Int)<0)=false:=yK (by omega);have t2:decide ((N:Int)<=(B:Int))=false:=yK (by omega);have t2':decide (N<=B)=false:=yK (by omega);have t3:decide ((D:Int)+1<1)=false:=yK (by omega);have t3':decide ((D:Int)<0)=false:=yK (by omega);have t4:decide ((N:Int)+1< (D:Int)+1)=false:=yK (by omega);have t4':decide ((N:Int)< (D:Int))=false:=yK (by omega);have aoD:decide (N<D)=false:=yK (by omega);have w2:IntKind.i64.wrap ((D:Int)+1-1)=(D:Int):=by rw[IntWalk.i64_in _ (by omega)];omega
  have w2':IntKind.i64.wrap (D:Int)=(D:Int):=IntWalk.i64_in _ (by omega);have hB:B<N:=by omega
  have hD2:D<=N:=by omega
  clear r1 r2 r3 r4 hD;go_wp2_with(fail)
  go_loopw [58,17] (fun vi vo wr=>∃ (k:Nat) (v17:Value),k<=D/\vi=.int .i64 k/\vo=v17/\Hid (Own wr w3.heap.size v17 ((List.range k).map fun i=>((B+i:Nat):Int)))/\ay w3 wr) (fun vi _ _=>D- (intOf vi).toNat)
  case atStart=>exact⟨0,_,by omega,rfl,rfl,hid (bZ _ _),ay.rfl' _⟩
  case round=>
   obtain⟨k,v17,hk,rfl,rfl,HR,hkr⟩:=hrel;have HKR:=hid hkr;have hsr:=hkr.size;by_cases hlt:k<D
   ·have hlt':(k:Int)< (D:Int):=by omega
    obtain⟨y,hy⟩:∃ y:Int,y=((B+k:Nat):Int):=⟨_,rfl⟩
    have w3':IntKind.i64.wrap ((B:Int)+(k:Int))=y:=by rw[IntWalk.i64_in _ (by omega),hy];omega
    have HTK:Hid ((List.range (k+1)).map (fun i=>((B+i:Nat):Int))=(List.range k).map (fun i=>((B+i:Nat):Int))++ [y]):=hid (by rw[xu,xq,hy];rfl);have HLK:=hid (show((List.range k).map fun i=>((B+i:Nat):Int)).length=k by simp);clear hkr hy;go_wp2_with(at_builtin;refine bG rfl _ _ rfl w3.heap.size _ _ rfl (HR.out.kept (ah _ _)) ⟨wr.heap.size,0,none⟩ y rfl (aU rfl) (by rw[HLK.out];omega) (by simp;omega) ?_;intro v8 w8 ho8 hg8)
    have HR8:=hid (show Own w8 w3.heap.size v8 ((List.range (k+1)).map fun i=>((B+i:Nat):Int)) by rw[HTK.out];exact ho8);have HK8:=hid (show ay w3 w8 from Below.grown (HKR.out.tr (ah _ _)) hg8 (by simp;omega) (fun z e=>(aN HR.out e).1));clear ho8 hg8;go_roundw;case rel=>exact⟨k+1,_,by omega,by go_num,rfl,HR8,HK8.out⟩
    case measure=>simp[intOf];omega
   ·have hkn:k=D:=by omega
    have HRG:=hid (show Own wr w3.heap.size u17 ((List.range D).map fun i=>((B+i:Nat):Int)) by have:=HR.out;rw[hkn] at this;exact this);have HFZ:=hid (agt P M vm mod P' M' vm' mod' N u17 ((List.range D).map fun i=>((B+i:Nat):Int)) wr (ags.out.kept hkr) (ahe.out.kept hkr) HRG.out.sl);obtain⟨l,hl⟩:∃ l,l=(List.range D).map fun i=>((B+i:Nat):Int):=⟨_,rfl⟩
    rw[<-hl] at HFZ;have HLL:=hid hl;have agu:=hid (VR.out.kept hkr);have ai5:=hid (adn.out.kept hkr);have HKE:=hid (Qn.out.tr hkr);have bx:=agr.out.kept hkr;have by':=ai6.out.kept hkr;have b0:=bx.h0;have b1:=bx.h1;have b2:=bx.h2;have c0:=by'.h0;have c1:=by'.h1;have c2:=by'.h2;have HSW:=hid (show s2<wr.heap.size from agu.out.1);have hng:¬ (k:Int)< (D:Int):=by omega
    clear hkn hlt hkr bx by' hl;go_wp2_with(go_at_call 20;(with_reducible refine HFZ.out.mono ?_);rintro e w9 ⟨hk9,hx⟩;have HK9:=hid hk9;have hbr:=agu.out.kept hk9;have hfr:=ai5.out.kept hk9;have adp:=hid hbr;have z0:=hbr.2 0 _ rfl;have z1:=hbr.2 1 _ rfl;have z2:=hbr.2 2 _ rfl;have z3:=hbr.2 3 _ rfl;have z4:=hbr.2 4 _ rfl;have f0:=hfr.2 0;have f1:=hfr.2 1;have f2:=hfr.2 2;have f3:=hfr.2 3;have f4:=hfr.2 4;have lb:=hbr.1;clear hbr hfr;clear hk9;unfold EW at hx;rcases hx with⟨err,h0,rfl⟩|⟨N2,hn2,G2,H2,r2,a2,am2,A,Pv,a9,c9,fa,fc,hrf,hcq,rfl,ho9,hr9⟩)
    ·have hkw:=HKE.out.tr HK9.out;refine bodyPost_ret (aF rfl rfl (bT (adp.out.mG _ _ _ _ _))) rfl ⟨?_,.inl ⟨err,h0,rfl⟩⟩;exact aH hkw (cZ _ _ _ _ _ _ _) (show w.heap.size<=s2 by have:=HS2.out;omega) hkw.size
    ·have hkw:=HKE.out.tr HK9.out;have hwr:w.heap.size<=wr.heap.size:=HKE.out.size;obtain rfl:N2=N:=by omega
     refine bodyPost_ret (aF rfl rfl (bT (adp.out.mG _ _ _ _ _))) rfl ⟨?_,.inr ⟨N2,rfl,B,rfl,D,rfl,hB,hD2,G2,H2,r2,a2,am2,A,Pv,a9,c9,fa,fc,hrf,by rw[<-HLL.out];exact hcq,rfl, ?_, ?_⟩⟩
     ·exact aH hkw (cZ _ _ _ _ _ _ _) (show w.heap.size<=s2 by have:=HS2.out;omega) hkw.size
     ·exact(jE ho9 HSW.out _ _ _ _ _).mono hwr
     ·exact(hr9.mG HSW.out _ _ _ _ _).mono hwr
end
end Go.Proofs.YtoilbeadokallaaGreatDoor
