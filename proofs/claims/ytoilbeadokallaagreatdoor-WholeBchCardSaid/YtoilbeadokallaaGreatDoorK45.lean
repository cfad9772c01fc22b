/- The walk of FromZeros. Conditions: the lists lie in memory. -/
import Derived.Test.YtoilbeadokallaaGreatDoorK41
import Derived.Test.YtoilbeadokallaaGreatDoorK43
import Derived.Test.YtoilbeadokallaaGreatDoorK44
namespace Go.Proofs.YtoilbeadokallaaGreatDoor
section
open Go.RowKit Cw Cw.Gj
theorem mY.swap {P M:Int} {mod:List Int} {P' M':Int} {mod':List Int} {n:Int} {G G2 H:GFd} {r0 a:Int} (h:mY P M mod P' M' mod' n G H r0 a) (t:aK G2) (d:G2.P=P/\G2.M=M/\G2.mod=mod):mY P M mod P' M' mod' n G2 H r0 a:=by
 have e1:=h.dG.1.trans d.1.symm;have e2:=h.dG.2.1.trans d.2.1.symm;have e3:=h.dG.2.2.trans d.2.2.symm;refine⟨t,h.tH,d,h.dH,e1.symm.trans h.hP, ?_,h.ro,h.n1,h.n2,by rw[<-e2];exact h.dv⟩;rcases h.rt with h1|h1
 ·exact .inl (by rw[<-e2];exact h1)
 ·exact .inr (by rw[<-e2,<-e3];exact h1)
def Zt {P M:Int} {mod:List Int} {P' M':Int} {mod':List Int} {n:Nat} {G H:GFd} {r0 a:Int} (h:mY P M mod P' M' mod' (n:Int) G H r0 a) (bs:List Bool) (A:List (List Int)):Prop:=
 ∀ j,j<n->bs.getD j false=true->∀ r,r<A.length->Vz h.tG h.tH h.phi n (Cw.Rg.pw (h.tH.e a) j) (fe h.tG A r)
def ixI (l:List Int) (x:Int):Int:=if l.findIdx (fun y=>y==x)<l.length then((l.findIdx (fun y=>y==x):Nat):Int) else-1
theorem VT (l:List Int) (x:Int):(∃ k:Nat,ixI l x=k/\k<l.length/\l.getD k 0=x/\∀ j,j<k->l.getD j 0≠x)∨(ixI l x=-1/\∀ j,j<l.length->l.getD j 0≠x):=by
 have hlow:∀ j,j<l.findIdx (fun y=>y==x)->j<l.length->l.getD j 0≠x:=fun j hj hl=>by
  have h1:=List.not_of_lt_findIdx hj;have h2:l.getD j 0=l[j]:=by simp[List.getD,hl]
  rw[h2];simpa using h1
 unfold ixI;by_cases h:l.findIdx (fun y=>y==x)<l.length
 ·rw[zu h];refine .inl ⟨_,rfl,h, ?_,fun j hj=>hlow j hj (by omega)⟩;have h1:=List.findIdx_getElem (w:=h);have h2:l.getD (l.findIdx (fun y=>y==x)) 0=l[l.findIdx (fun y=>y==x)]:=by simp[List.getD,h]
  rw[h2];simpa using h1
 ·rw[zx h];exact .inr ⟨rfl,fun j hj=>hlow j (by omega) hj⟩
theorem VU {f:Int->Int} {l:List Int} {j:Nat} (h:j<l.length):(l.map f).getD j 0=f (l.getD j 0):=by simp[List.getD,h]
theorem adq {P M:Int} {mod:List Int} {P' M':Int} {mod':List Int} {n:Nat} {G H:GFd} {r0 a:Int} (h:mY P M mod P' M' mod' (n:Int) G H r0 a) {bs:List Bool} {E L:List Int} (hE:ai1 n bs E)
  (hL:h.tH.pl L=Pl.prf (fun i=>h.tH.e ((E.map fun i=>pJ H a i).getD i 0)) (E.map fun i=>pJ H a i).length) {A:List (List Int)} (hC:aky G n (L.map (ixI (jQ G H r0))) A):Rf G.q A n (pvL (opG G) A n)/\Zt h bs A:=by
 obtain⟨g,hg,hl,hw,rfl⟩:=hC.ex;obtain⟨c1,c2,c3⟩:=Nr h.tG hw;have hn:1<=n:=by have:=h.n1;omega
 refine⟨?_,fun j hj hb r hr=>?_⟩
 ·rw[(SE h.tG c1).2];exact c1
 ·obtain⟨i,hi,hei⟩:=yR (hE.all j hj hb);have ha:=h.agl;have ey:h.tH.e (pJ H a (j:Int))=Cw.Rg.pw (h.tH.e a) j:=h.tH.Ce ha.2.1 j;have hroot:Pl.ev (h.tH.pl L) (Cw.Rg.pw (h.tH.e a) j)=0:=by
   rw[hL];refine(Pl.QV _ _ _).2 ⟨i,by rw[yx];exact hi, ?_⟩;have e1:(E.map fun i=>pJ H a i).getD i 0=pJ H a (j:Int):=by
    rw[VU hi];have:E.getD i 0=E[i]:=by simp[List.getD,hi]
    rw[this,hei]
   rw[e1];exact ey
  have hmp:h.phi.mp (h.tG.pl (L.map (ixI (jQ G H r0))))=h.tH.pl L:=agk h.tG h.tH h.phi h.im (by simp) (fun k hk=>by
   have hk2:k<L.length:=by simpa using hk
   have hb2:=hC.el _ (zF hk);have e1:(L.map (ixI (jQ G H r0))).getD k 0=(L.map (ixI (jQ G H r0)))[k]:=by simp[List.getD,hk2]
   rw[e1];refine⟨hb2, ?_⟩;have e2:(L.map (ixI (jQ G H r0)))[k]=ixI (jQ G H r0) (L.getD k 0):=by simp[List.getD,hk2]
   rw[e2] at hb2 ⊢;rcases VT (jQ G H r0) (L.getD k 0) with⟨m,e3,_,e4,_⟩|⟨e3,_⟩
   ·rw[e3,yL];exact e4
   ·rw[e3] at hb2;omega)
  have hone:Cw.Rg.pw (Cw.Rg.pw (h.tH.e a) j) n=1:=by
   have h1:=ha.2.2.2.1;rw[yL] at h1;rw[<-Cw.Rg.gK,vO,Cw.Rg.gK,h1];exact Cw.Rg.nT _
  have hg2:Pl.ev (h.phi.mp (h.tG.pl g)) (Cw.Rg.pw (h.tH.e a) j)=0:=by
   have:=Zq h.tG h.tH h.phi (n:=n) (P:=h.tG.pl (L.map (ixI (jQ G H r0)))) (by rw[hmp];exact hroot) hone;rw[<-hg] at this;exact this
  refine agi h.tG h.tH h.phi (L:=JH n g (n+1-g.length)) (fun i hi=>?_) _ ((c3 _).2 (Cm h.tG n hr));rw[wE] at hi;have e1:fe h.tG (JH n g (n+1-g.length)) i=fc h.tG (shL n g i):=funext fun k=>by
   show h.tG.e ((Gj.row (JH n g (n+1-g.length)) i).getD k 0)=_;rw[Hg hi];rfl
  rw[e1];exact Zo h.tG h.tH h.phi (by omega) hg2
def FzO (P M:Int) (mod:List Int) (P' M':Int) (mod':List Int) (n:Int) (l:List Int) (w:World) (e:Ending) (w':World):Prop:=
 ay w w'/\((∃ err:Int,err≠0/\e=.returned (.tuple #[EW,.int .i64 err]))∨
  ∃ (N:Nat) (_:n=(N:Int)) (G H:GFd) (r0 a:Int) (h:mY P M mod P' M' mod' (N:Int) G H r0 a) (A:List (List Int)) (Pv:List Nat) (xa:Option Addr) (c:Nat) (fa:Option Addr) (fc':Nat),
   Rf G.q A N Pv/\Zt h (fJ N l) A/\e=.returned (.tuple #[.agg #[.int .i64 G.P,.int .i64 G.M,.slice xa G.mod.length c,.int .i64 N,.slice fa A.length fc'],.int .i64 0])/\Own w' w.heap.size (.slice xa G.mod.length c) G.mod/\Ro w' w.heap.size (.slice fa A.length fc') A)
theorem VW (b:Nat) (H:GFd) (s:aK H) (a:Int) (i:Nat) (w:World) (hg:dW w b H) (ha:inn H.q a≠0) (hi:i<=100):
  Calls Tryz.prog 24 #[.pointer (some ⟨b,0,none⟩),.int .i64 a,.int .i64 i] w fun e w'=>e=.returned (.tuple #[.int .i64 (pJ H a i),.int .i64 0])/\∃ m,w'=w.drewN m:=by
 by_cases h:i=0
 ·subst h;have e:pJ H a ((0:Nat):Int)=1:=by rw[G7 s ha];rfl
  rw[e];exact pow_zero b H a w hg
 ·exact aeJ b H a i w hg s ha (by omega) (by omega) (by omega)
set_option maxRecDepth 100000 in
set_option maxHeartbeats 8000000 in
theorem agt (P M:Int) (vm:Value) (mod:List Int) (P' M':Int) (vm':Value) (mod':List Int) (n:Int) (v:Value) (l:List Int) (w:World) (hvm:Sl w vm mod) (JM:Sl w vm' mod') (hv:Sl w v l):
  Calls Tryz.prog 20 #[.agg #[.int .i64 P,.int .i64 M,vm],.agg #[.int .i64 P',.int .i64 M',vm'],.int .i64 n,v] w (FzO P M mod P' M' mod' n l w):=by
 obtain⟨s2,hs2⟩:∃ x,x=w.heap.size+1+1:=⟨_,rfl⟩
 obtain⟨W1,hW1⟩:∃ x,x=((w.alloc (.cells #[.int .i64 P,.int .i64 M,vm] 24)).alloc (.cells #[.int .i64 P',.int .i64 M',vm'] 24)).alloc (.cells #[.int .i64 0,.int .i64 0,.slice none 0 0,.int .i64 0,.slice none 0 0] 29):=⟨_,rfl⟩
 have hk1:ay w W1:=by rw[hW1];exact((ah _ _).tr (ah _ _)).tr (ah _ _)
 have bx:nJ W1 w.heap.size P M vm:=by rw[hW1];exact((aS w P M vm 24).kept (ah _ _)).kept (ah _ _)
 have by':nJ W1 (w.heap.size+1) P' M' vm':=by
  rw[hW1];have:=(aS (w.alloc (.cells #[.int .i64 P,.int .i64 M,vm] 24)) P' M' vm' 24).kept (ah _ (.cells #[.int .i64 0,.int .i64 0,.slice none 0 0,.int .i64 0,.slice none 0 0] 29));simpa using this
 have br:Bk W1 s2 [.int .i64 0,.int .i64 0,.slice none 0 0,.int .i64 0,.slice none 0 0]:=by rw[hW1];exact aG _ [.int .i64 0,.int .i64 0,.slice none 0 0,.int .i64 0,.slice none 0 0] _ _ (by rw[hs2];simp)
 have fr:Fz W1 s2:=by rw[hW1];exact bD _ _ _ _ (by rw[hs2];simp)
 have HBR:=hid br;have HFR:=hid fr;have HBX:=hid bx;have HBY:=hid by';have HVM:=hid (hvm.kept hk1);have HVN:=hid (JM.kept hk1);have HV:=hid (hv.kept hk1);have HK1:=hid hk1;have HS2:=hid hs2;have b0:=bx.h0;have b1:=bx.h1;have b2:=bx.h2;clear hvm JM hv hk1 br fr bx by';by_cases hf:fD P M mod;case neg=>
  have HN:=hid (check_any P M vm mod W1 HVM.out 1 (.inr ⟨hf,rfl⟩));clear hf;go_enter Tryz.func20,Tryz.ntmps20;go_upto_region 1 with(fail)
  rw[<-hW1,<-hs2];clear hW1 hs2;go_upto_region 3 with(go_at_call 18;(with_reducible refine HN.out.mono ?_);rintro e w2 ⟨rfl,hk2⟩;have HKx:=hid (HK1.out.tr hk2);have hbr:=HBR.out.kept hk2;have hfr:=HFR.out.kept hk2;have Zu:=hid hbr;have z0:=hbr.2 0 _ rfl;have z1:=hbr.2 1 _ rfl;have z2:=hbr.2 2 _ rfl;have z3:=hbr.2 3 _ rfl;have z4:=hbr.2 4 _ rfl;have f0:=hfr.2 0;have f1:=hfr.2 1;have f2:=hfr.2 2;have f3:=hfr.2 3;have f4:=hfr.2 4;have lb:=hbr.1;clear hbr hfr)
  go_wp2_with(fail)
  refine bodyPost_ret (aF rfl rfl (bT (Zu.out.mG _ _ _ _ _))) rfl ⟨?_,.inl ⟨1,by decide,rfl⟩⟩;exact aH HKx.out (cZ _ _ _ _ _ _ _) (show w.heap.size<=s2 by have:=HS2.out;omega) (HKx.out).size
 have HN:=hid (check_any P M vm mod W1 HVM.out 0 (.inl ⟨hf,rfl⟩));clear hf;go_enter Tryz.func20,Tryz.ntmps20;go_upto_region 1 with(fail)
 rw[<-hW1,<-hs2];clear hW1 hs2;go_upto_region 4 with(go_at_call 18;(with_reducible refine HN.out.mono ?_);rintro e w2 ⟨rfl,hk2⟩)
 have HK2:=hid (HK1.out.tr hk2);have Me:=hid (HBR.out.kept hk2);have aaR:=hid (HFR.out.kept hk2);have Yb:=hid (HBX.out.kept hk2);have agq:=hid (HVM.out.kept hk2);have HV2:=hid (HV.out.kept hk2);have HEX:=hid (Md P M vm mod P' M' vm' mod' n w2 (HVM.out.kept hk2) (HVN.out.kept hk2));have bx2:=HBX.out.kept hk2;have by2:=HBY.out.kept hk2;clear b0 b1 b2 hk2;have b0:=bx2.h0;have b1:=bx2.h1;have b2:=bx2.h2;have c0:=by2.h0;have c1:=by2.h1;have c2:=by2.h2;clear bx2 by2;go_upto_region 5 with(go_at_call 19;(with_reducible refine HEX.out.mono ?_);rintro e w3 ⟨hk3,hx⟩;have HK3:=hid hk3;clear hk3;rcases hx with⟨_,pb,sa,sl,sc,x,err,h0,rfl⟩|⟨b,G,H,r0,a,gi,hed,rfl,hg3,ho3⟩)
 ·have te:(err != 0)=true:=by simpa using h0
  have H0:=hid h0;have HKx:=hid (HK2.out.tr HK3.out);have hbr:=Me.out.kept HK3.out;have hfr:=aaR.out.kept HK3.out;have Zu:=hid hbr;have z0:=hbr.2 0 _ rfl;have z1:=hbr.2 1 _ rfl;have z2:=hbr.2 2 _ rfl;have z3:=hbr.2 3 _ rfl;have z4:=hbr.2 4 _ rfl;have f0:=hfr.2 0;have f1:=hfr.2 1;have f2:=hfr.2 2;have f3:=hfr.2 3;have f4:=hfr.2 4;have lb:=hbr.1;clear hbr hfr;clear h0;go_wp2_with(fail)
  refine bodyPost_ret (aF rfl rfl (bT (Zu.out.mG _ _ _ _ _))) rfl ⟨?_,.inl ⟨err,H0.out,rfl⟩⟩;exact aH HKx.out (cZ _ _ _ _ _ _ _) (show w.heap.size<=s2 by have:=HS2.out;omega) (HKx.out).size
 ·obtain⟨N,rfl⟩:=zY (show 0<=n by have:=hed.n1;omega);have hN:1<=N/\N<=64:=by have h1:=hed.n1;have h2:=hed.n2;omega
  obtain⟨hN1,hN2⟩:=hN;have HED:=hid hed;obtain⟨Q,hQ⟩:∃ x,x=G.q.toNat:=⟨_,rfl⟩
  rw[<-hQ] at ho3 ⊢;have hQ1:2<=Q:=by have:=q2 hed.tG;omega
  have hQ2:Q<=256:=by have:=hed.tG.qb;omega
  have HQ:=hid hQ;have HG3:=hid hg3;have HO3:=hid ho3;have Qn:=hid (HK2.out.tr HK3.out);have VR:=hid (Me.out.kept HK3.out);have adn:=hid (aaR.out.kept HK3.out);have agr:=hid (Yb.out.kept HK3.out);have ags:=hid (agq.out.kept HK3.out);have HCL:=hid (L8 Q N v l w3 (HV2.out.kept HK3.out) hQ1 hQ2 hN1 hN2);clear hed hQ hg3 ho3 b0 b1 b2 c0 c1 c2;go_upto_region 8 with(go_at_call 50;(with_reducible refine HCL.out.mono ?_);rintro e w4 ⟨hk4,hx⟩;have HK4:=hid hk4;clear hk4;rcases hx with⟨err,h0,rfl⟩|⟨ve,E,rfl,hse,hcl⟩)
  ·have te:(err != 0)=true:=by simpa using h0
   have H0:=hid h0;have HKx:=hid (Qn.out.tr HK4.out);have hbr:=VR.out.kept HK4.out;have hfr:=adn.out.kept HK4.out;have Zu:=hid hbr;have z0:=hbr.2 0 _ rfl;have z1:=hbr.2 1 _ rfl;have z2:=hbr.2 2 _ rfl;have z3:=hbr.2 3 _ rfl;have z4:=hbr.2 4 _ rfl;have f0:=hfr.2 0;have f1:=hfr.2 1;have f2:=hfr.2 2;have f3:=hfr.2 3;have f4:=hfr.2 4;have lb:=hbr.1;clear hbr hfr;clear h0;go_wp2_with(fail)
   refine bodyPost_ret (aF rfl rfl (bT (Zu.out.mG _ _ _ _ _))) rfl ⟨?_,.inl ⟨err,H0.out,rfl⟩⟩;exact aH HKx.out (cZ _ _ _ _ _ _ _) (show w.heap.size<=s2 by have:=HS2.out;omega) (HKx.out).size
  ·have akA:=hid hcl;have HKA:=hid (Qn.out.tr HK4.out);have HG4:=hid (HG3.out.kept HK4.out);have HO4:=hid (HO3.out.kept HK4.out);have ahd:=hid (VR.out.kept HK4.out);have adI:=hid (adn.out.kept HK4.out);have amX:=hid (agr.out.kept HK4.out);have amY:=hid (ags.out.kept HK4.out);have HA:=hid HED.out.agl.2.1;have htH:=HED.out.tH;obtain⟨ea,ec,rfl,ai3,⟨hem,_⟩,aaS⟩:=hse;unfold maxLen at hem;have amZ:=hcl.len;obtain⟨D,hD⟩:∃ D,D=E.length:=⟨_,rfl⟩
   rw[<-hD] at ai3 amZ ⊢;have HD:=hid hD;have HEC:=hid aaS;clear hcl hD aaS;go_wp2_with(fail)
   go_loopw [57,16] (fun vi vo wr=>∃ (k:Nat) (v16:Value),k<=D/\vi=.int .i64 k/\vo=v16/\Hid (Own wr w4.heap.size v16 ((E.take k).map fun i=>pJ H a i))/\ay w4 wr) (fun vi _ _=>D- (intOf vi).toNat)
   case atStart=>exact⟨0,_,by omega,rfl,rfl,hid (bZ _ _),ay.rfl' _⟩
   case round=>
    obtain⟨k,v16,hk,rfl,rfl,HR,hkr⟩:=hrel;have HKR:=hid hkr;have hsr:=hkr.size;by_cases hlt:k<D
    ·have hlt':(k:Int)< (D:Int):=by omega
     have hkE:k<E.length:=by rw[<-HD.out];exact hlt
     obtain⟨bb,off,rfl,hbb,hcell⟩:=HEC.out (fun e=>by rw[e] at hkE;simp at hkE);have hck:=(hkr.cell' hbb).trans (hcell k hkE);have hzb:=akA.out.bd E[k] (zF hkE);have e0:E.getD k 0=E[k]:=by simp[List.getD,hkE]
     obtain⟨i,hi⟩:∃ i:Nat,E[k]=(i:Int):=⟨E[k].toNat,by omega⟩
     rw[e0,hi] at hck;rw[hi] at hzb;have hi64:i<=100:=by omega
     obtain⟨y,hy⟩:∃ y,y=pJ H a (i:Int):=⟨_,rfl⟩
     have HPW:=hid (fun(W:World) (h:ay w4 W)=>(show Calls Tryz.prog 24 #[.pointer (some ⟨b,0,none⟩),.int .i64 a,.int .i64 i] W fun e w'=>e=.returned (.tuple #[.int .i64 y,.int .i64 0])/\∃ m,w'=W.drewN m by rw[hy];exact VW b H htH a i W (HG4.out.kept h) HA.out hi64));have HTK:Hid ((E.take (k+1)).map (fun i=>pJ H a i)=(E.take k).map (fun i=>pJ H a i)++ [y]):=hid (by rw[yV hkE,xq,hi,hy];rfl);have hlk:((E.take k).map fun i=>pJ H a i).length=k:=by rw[yx,yF];omega
     have HLK:=hid hlk;clear hcell hzb e0 hi hy hkr hlk;go_wp2_with(first|(go_at_call 24;(with_reducible refine(HPW.out wr HKR.out).mono ?_);rintro e w6 ⟨rfl,m6,rfl⟩)|(at_builtin;refine bG rfl _ _ rfl w4.heap.size _ _ rfl ((HR.out.drewN m6).kept (ah _ _)) ⟨wr.heap.size,0,none⟩ y rfl (aU rfl) (by rw[HLK.out];omega) (by simp;omega) ?_;intro v7 w7 ho7 hg7))
     have HR7:=hid (show Own w7 w4.heap.size v7 ((E.take (k+1)).map fun i=>pJ H a i) by rw[HTK.out];exact ho7);have HK7:=hid (show ay w4 w7 from Below.grown ((HKR.out.drewN m6).tr (ah _ _)) hg7 (by simp;omega) (fun z e=>(aN HR.out e).1));clear ho7 hg7;go_roundw;case rel=>exact⟨k+1,_,by omega,by go_num,rfl,HR7,HK7.out⟩
     case measure=>simp[intOf];omega
    ·have hkn:k=D:=by omega
     have HRR:=hid (show Own wr w4.heap.size u16 (E.map fun i=>pJ H a i) by have:=HR.out;rw[hkn,HD.out,wu] at this;exact this);have am0:=hid (LV b H htH u16 (E.map fun i=>pJ H a i) wr (HG4.out.kept HKR.out) HRR.out.sl (by rw[yx,<-HD.out];omega));subst hkn;clear hlt hkr;go_wp2_with(go_at_call 51;(with_reducible refine am0.out.mono ?_);rintro e w6 ⟨vL,L,rfl,hoL,hkL,hcL,hpL⟩;obtain⟨la,lc,rfl,ai4,⟨hlm,_⟩,Nz⟩:=hoL.sl;unfold maxLen at hlm;obtain⟨LN,hLN⟩:∃ x,x=L.length:=⟨_,rfl⟩;rw[<-hLN] at ai4 ⊢;have HLN:=hid hLN;have HLC:=hid Nz;have HKL:=hid hkL;have HPL:=hid hpL;have HCA:=hid hcL;clear hoL hkL hcL hpL hLN Nz)
     have hLb:LN<=65:=by
      have h1:=htH.yD HCA.out HPL.out;rw[Pl.QU,yx,<-HLN.out,<-HD.out] at h1;omega
     have akB:=hid (HKR.out.tr HKL.out);have HO6:=hid (HO4.out.kept akB.out)
     go_loopw [77,21] (fun vi vo ws=>∃ (j:Nat) (v21:Value),j<=LN/\vi=.int .i64 j/\vo=v21/\Hid (Own ws w6.heap.size v21 ((L.take j).map (ixI (jQ G H r0))))/\ay w6 ws) (fun vi _ _=>LN- (intOf vi).toNat)
     case atStart=>exact⟨0,_,by omega,rfl,rfl,hid (bZ _ _),ay.rfl' _⟩
     case round=>
      obtain⟨j,v21,hj,rfl,rfl,HR2,hks⟩:=hrel;have HKS:=hid hks;have hss:=hks.size;by_cases hlj:j<LN
      ·have aoB:(j:Int)< (LN:Int):=by omega
       have hjL:j<L.length:=by rw[<-HLN.out];exact hlj
       obtain⟨lb,aoC,rfl,hlb,hcl⟩:=HLC.out (fun e=>by rw[e] at hjL;simp at hjL);have hcj:=(hks.cell' hlb).trans (hcl j hjL);obtain⟨x,hx⟩:∃ x,x=L.getD j 0:=⟨_,rfl⟩
       rw[<-hx] at hcj;obtain⟨z,hz⟩:∃ z,z=ixI (jQ G H r0) x:=⟨_,rfl⟩
       have HIX:=hid (fun(W:World) (h:ay w6 W)=>CP (.slice (some ⟨gi,0,none⟩) Q Q) (jQ G H r0) x W ((HO6.out.kept h).sl) z (by rw[hz];exact VT _ x));have HTJ:Hid ((L.take (j+1)).map (ixI (jQ G H r0))=(L.take j).map (ixI (jQ G H r0))++ [z]):=hid (by rw[yV hjL,xq,hz,hx];simp[List.getD,hjL]);have HLJ:=hid (show((L.take j).map (ixI (jQ G H r0))).length=j by rw[yx,yF];omega);clear hcl hks hx hz;go_wp2_with(first|(go_at_call 52;(with_reducible refine(HIX.out wr HKS.out).mono ?_);rintro e w7 ⟨rfl,e7⟩;rw[e7];clear e7 w7)|(at_builtin;refine bG rfl _ _ rfl w6.heap.size _ _ rfl (HR2.out.kept (ah _ _)) ⟨wr.heap.size,0,none⟩ z rfl (aU rfl) (by rw[HLJ.out];omega) (by simp;omega) ?_;intro v8 w8 ho8 hg8))
       have HR8:=hid (show Own w8 w6.heap.size v8 ((L.take (j+1)).map (ixI (jQ G H r0))) by rw[HTJ.out];exact ho8);have HK8:=hid (show ay w6 w8 from Below.grown (HKS.out.tr (ah _ _)) hg8 (by simp;omega) (fun z e=>(aN HR2.out e).1));clear ho8 hg8;go_roundw;case rel=>exact⟨j+1,_,by omega,by go_num,rfl,HR8,HK8.out⟩
       case measure=>simp[intOf];omega
      ·have hjn:j=LN:=by omega
       have HRG:=hid (show Own wr w6.heap.size u21 (L.map (ixI (jQ G H r0))) by have:=HR2.out;rw[hjn,HLN.out,wu] at this;exact this);have HKW:=hid (akB.out.tr HKS.out);have HCY:=hid (adl P M vm mod N u21 (L.map (ixI (jQ G H r0))) wr (amY.out.kept HKW.out) HRG.out.sl hN1 hN2 (by rw[yx,<-HLN.out];omega));have agu:=hid (ahd.out.kept HKW.out);have ai5:=hid (adI.out.kept HKW.out);have HKE:=hid (HKA.out.tr HKW.out);have bx:=amX.out.kept HKW.out;have b0:=bx.h0;have b1:=bx.h1;have b2:=bx.h2;have hsw:s2<wr.heap.size:=agu.out.1;have HSW:=hid hsw;subst hjn;clear hlj hks bx;go_wp2_with(go_at_call 53;(with_reducible refine HCY.out.mono ?_);rintro e w9 ⟨hk9,hx⟩;have HK9:=hid hk9;have hbr:=agu.out.kept hk9;have hfr:=ai5.out.kept hk9;have adp:=hid hbr;have z0:=hbr.2 0 _ rfl;have z1:=hbr.2 1 _ rfl;have z2:=hbr.2 2 _ rfl;have z3:=hbr.2 3 _ rfl;have z4:=hbr.2 4 _ rfl;have f0:=hfr.2 0;have f1:=hfr.2 1;have f2:=hfr.2 2;have f3:=hfr.2 3;have f4:=hfr.2 4;have lb:=hbr.1;clear hbr hfr hk9;unfold EW at hx;rcases hx with⟨err,h0,rfl⟩|⟨G2,A,a9,c9,fa,fc,hcp,hd,rfl,ho9,hr9⟩<;>first|(have HDD:=hid hd;clear hd)|skip)
       ·have hkw:=HKE.out.tr HK9.out;refine bodyPost_ret (aF rfl rfl (bT (adp.out.mG _ _ _ _ _))) rfl ⟨?_,.inl ⟨err,h0,rfl⟩⟩;exact aH hkw (cZ _ _ _ _ _ _ _) (show w.heap.size<=s2 by have:=HS2.out;omega) hkw.size
       ·have hkw:=HKE.out.tr HK9.out;have hwr:w.heap.size<=wr.heap.size:=HKE.out.size;have hsd:=HED.out.swap hcp.t HDD.out;have hem:jQ G H r0=jQ G2 H r0:=HED.out.Oi hsd;rw[hem] at hcp;obtain⟨hrf,hcq⟩:=adq hsd akA.out HPL.out hcp;refine bodyPost_ret (aF rfl rfl (bT (adp.out.mG _ _ _ _ _))) rfl ⟨?_,.inr ⟨N,rfl,G2,H,r0,a,hsd,A,_,a9,c9,fa,fc,hrf,hcq,rfl, ?_, ?_⟩⟩
        ·exact aH hkw (cZ _ _ _ _ _ _ _) (show w.heap.size<=s2 by have:=HS2.out;omega) hkw.size
        ·exact(jE ho9 HSW.out _ _ _ _ _).mono hwr
        ·exact(hr9.mG HSW.out _ _ _ _ _).mono hwr
end
end Go.Proofs.YtoilbeadokallaaGreatDoor
