/- The walk of infoset's basis.add. Conditions: the field lies in memory with its tables; the basis and the vector are the call's own, all apart; the vector's entries are elements. -/
import Derived.Test.YtoilbeadokallaaGreatDoorK28
import Derived.RegionTactic
import Derived.ChangeAlike
namespace Go.Proofs.YtoilbeadokallaaGreatDoor
section
open Go.RowKit Cw Cw.Gj
def ajW (w0 w:World) (bb b bv:Nat) (rs:List (List Int)) (vr:Value) (rv:Nat->Value) (vp:Value) (R:List (List Int) ×List Nat×Bool) (e:Ending) (w':World):Prop:=
 e=.returned (.bool R.2.2)/\∃ vr' rv' vp',BaM w' w0.heap.size bb b R.1 R.2.1 vr' rv' vp'/\(∀ x,BaS bb vr' rv' R.1.length vp' x->BaS bb vr rv rs.length vp x∨w.heap.size<=x)/\Fr (fun x=>BaS bb vr rv rs.length vp x∨x=bv) w w'
set_option maxRecDepth 100000 in
set_option maxHeartbeats 8000000 in
theorem UQ (b:Nat) (G:GFd) (t:aK G) (bb bv n cap:Nat) (rs:List (List Int)) (ps:List Nat) (vr:Value) (rv:Nat->Value) (vp:Value) (vl:List Int) (w0 w:World) (hg:dW w0 b G) (hk:ay w0 w) (hb:BaM w w0.heap.size bb b rs ps vr rv vp)
  (hv:Own w w0.heap.size (.slice (some ⟨bv,0,none⟩) n cap) vl) (hne:¬ BaS bb vr rv rs.length vp bv) (hl:∀ i,i<rs.length->(Gj.row rs i).length=vl.length) (hpl:ps.length=rs.length) (hp:∀ i,i<rs.length->ps.getD i 0<vl.length)
  (hE:∀ j,j<vl.length->0<=vl.getD j 0/\vl.getD j 0<G.q) (h0:0<vl.length) (hlen:vl.length<=1000) (hrl:rs.length<=1000):
  Calls Tryz.prog 169 #[.pointer (some ⟨bb,0,none⟩),.slice (some ⟨bv,0,none⟩) n cap] w (ajW w0 w bb b bv rs vr rv vp (kY (opG G) rs ps vl)):=by
 have hn:n=vl.length:=by
  rcases hv.form with⟨e,_⟩|⟨_,_,e,_⟩
  ·cases e
  ·cases e;rfl
 subst hn;obtain⟨ra,rc,hvr⟩:=hb.m.lenOf;subst hvr;obtain⟨L,hL⟩:∃ x,x=vl.length:=⟨_,rfl⟩
 obtain⟨R,hR⟩:∃ x,x=rs.length:=⟨_,rfl⟩
 have hbv:=hv.lt;have HL:=hid hL;have HR:=hid hR;have x0:=hb.bk.2 0 _ rfl;have x1:=hb.bk.2 1 _ rfl;have HB:=hid hb;have HV:=hid hv;have HNE:=hid hne;have HRL:=hid hl;have HPL:=hid hpl;have HP:=hid hp;have HE:=hid hE;have HG:=hid hg;have HK:=hid hk;have hbb:=hb.bk.1;have nbb:¬ bb=bv:=fun e=>hne (.inl e.symm);rw[<-hL] at h0 hlen HRL HP HE ⊢;rw[<-hR] at hrl HPL HRL HP x1 ⊢;clear hl hpl hp hE hne hv hb hg hk hL hR;go_enter Tryz.func169,Tryz.ntmps169;go_wp2_with(fail)
 go_loopw [18] (fun vi wr=>∃ (i:Nat) (u:List Int),i<=R/\vi=.int .i64 i/\Hid (u.length=L)/\Hid (dV (opG G) (rs.drop i) (ps.drop i) u=dV (opG G) rs ps vl)/\Hid (∀ j,j<L->0<=u.getD j 0/\u.getD j 0<G.q)/\
   Own wr w0.heap.size (.slice (some ⟨bv,0,none⟩) L cap) u/\w.grownBy wr (some bv)) (fun vi _=>R- (intOf vi).toNat)
 case atStart=>exact⟨0,vl,by omega,rfl,hid HL.out.symm,hid rfl,HE,by have:=HV.out;rw[<-HL.out] at this;exact this,World.grownBy.refl _ _⟩
 case round=>
  obtain⟨i,u,hi,rfl,HUL,HBR,HUE,hown,hgr⟩:=hrel;have hbr:=HB.out.grown hgr HNE.out;have hkr:ay w0 wr:=aH HK.out hgr hbv.1 HK.out.size;clear x0 x1;have x0:=hbr.bk.2 0 _ rfl;have x1:=hbr.bk.2 1 _ rfl;have x2:=hbr.bk.2 2 _ rfl;by_cases hlt:i<R
  ·have hlt':(i:Int)< (R:Int):=by omega
   obtain⟨g,hg⟩:∃ g,ra=some ⟨g,0,none⟩:=by
    rcases hbr.m.form with⟨e,e2⟩|⟨g,cp,e,_⟩
    ·rw[e2] at HR;have:=HR.out;simp at this;omega
    ·injection e with e1 _ _;exact⟨g,e1⟩
   subst hg;have hiR:i<rs.length:=by rw[<-HR.out];exact hlt
   have hcr:=hbr.m.cell hiR;obtain⟨rb,cp,er,_,hrb,hcp,aij⟩:=hbr.m.og hiR (by intro e;have:=HRL.out i hlt;rw[e] at this;simp at this;omega);unfold maxLen at aij;have hrow:=hbr.m.row i hiR;rw[er] at hcr hrow;rw[HRL.out i hlt] at hcr hrow hcp;obtain⟨pa,pc,ep,hpc,anX⟩:=hbr.p.sl.lenOf;rw[aI,HPL.out] at ep hpc;subst ep;obtain⟨gp,hgp⟩:∃ g,pa=some ⟨g,0,none⟩:=by
    rcases hbr.p.form with⟨e,e2⟩|⟨g,cp,e,_⟩
    ·have:=congrArg List.length e2;rw[aI,HPL.out] at this;simp at this;omega
    ·injection e with e1 _ _;exact⟨g,e1⟩
   subst hgp;have hcp2:=hbr.p.cell (i:=i) (by rw[aI,HPL.out];exact hlt);rw[ints_at (by rw[HPL.out];exact hlt)] at hcp2;have hpL:=HP.out i hlt;obtain⟨p,hpp⟩:∃ p,p=ps.getD i 0:=⟨_,rfl⟩
   rw[<-hpp] at hcp2 hpL;have anY:(p:Int)< (L:Int):=by omega
   have hp0:(0:Int)<=(p:Int):=by omega
   have hcv:=hown.cell (i:=p) (by rw[HUL.out];exact hpL);obtain⟨x,hx⟩:∃ x,x=u.getD p 0:=⟨_,rfl⟩
   rw[<-hx] at hcv;have HST:Hid (dV (opG G) (rs.drop (i+1)) (ps.drop (i+1)) (if x=0 then u else Ql (opG G) x (Gj.row rs i) u)=dV (opG G) rs ps vl):=hid (by
    rw[<-HBR.out,UO hiR (by rw[HPL.out,HR.out]),hx,hpp])
   have HX:=hid hx;have HPP:=hid hpp;have aav:=hid hbr;have aly:=hid hrow;have HKR:=hid hkr;have HOWN:=hid hown;have HGR:=hid hgr;clear hrow hpp hx hbr hkr;by_cases hx0:x=0
   ·have tx:(x != 0)=false:=by simpa using hx0
    have HX0:=hid hx0;clear hx0;go_wp2_with(fail)
    go_roundw;case rel=>exact⟨i+1,u,by omega,by go_num,HUL,hid (by rw[<-HST.out,zu HX0.out]),HUE,HOWN.out,HGR.out⟩
    case measure=>simp[intOf];omega
   ·have tx:(x != 0)=true:=by simpa using hx0
    have HX0:=hid hx0;clear hx0;have nrb:¬ rb=bv:=fun e=>HNE.out (.inr (.inl (.inr ⟨i,hiR,by rw[er,<-e];rfl⟩)));go_upto_region 6 with(fail)
    obtain⟨wo,hwo⟩:∃ y,y=wr:=⟨_,rfl⟩
    subst hwo;go_wp2_with(fail)
    go_loopw [37] (fun vj wx=>∃ (k:Nat) (ys:List Int),k<=L/\vj=.int .i64 k/\Hid (ys.length=L)/\Hid (∀ j,j<L->ys.getD j 0=if j<k then(Ql (opG G) x (Gj.row rs i) u).getD j 0 else u.getD j 0)/\
      Own wx w0.heap.size (.slice (some ⟨bv,0,none⟩) L cap) ys/\w.grownBy wx (some bv)) (fun vj _=>L- (intOf vj).toNat)
    case atStart=>exact⟨0,u,by omega,rfl,HUL,hid (fun j hj=>by simp),HOWN.out,HGR.out⟩
    case round=>
     obtain⟨k,ys,hk,rfl,hyl,hys,afy,hgx⟩:=hrel;have hbx:=HB.out.grown hgx HNE.out;have hkx:ay w0 wr:=aH HK.out hgx hbv.1 HK.out.size;clear x0 x1 x2 hcr hcp2 hcv hown hgr;have x0:=hbx.bk.2 0 _ rfl;have f0:=hbx.fz;by_cases hkl:k<L
     ·have hkl':(k:Int)< (L:Int):=by omega
      have hk0:(0:Int)<=(k:Int):=by omega
      have hrx:=hbx.m.row i hiR;rw[er,HRL.out i hlt] at hrx;have hcz:=hrx.cell (i:=k) (by rw[HRL.out i hlt];exact hkl);obtain⟨z,hz⟩:∃ z,z=(Gj.row rs i).getD k 0:=⟨_,rfl⟩
      rw[<-hz] at hcz;have hcy:=afy.cell (i:=k) (by rw[hyl.out];exact hkl);obtain⟨y,hy⟩:∃ z,z=ys.getD k 0:=⟨_,rfl⟩
      rw[<-hy] at hcy;have hfy:=afy.frozen k;have j2:((k:Int)).toNat=k:=by omega
      have hgw:=HG.out.kept hkx;have HUS:Hid (∀ j,j<L->(ys.set k (gu G y (iE G (bF G x z)))).getD j 0=if j<k+1 then(Ql (opG G) x (Gj.row rs i) u).getD j 0 else u.getD j 0):=hid (fun j hj=>by
       by_cases e:j=k
       ·rw[e,zu (by omega),Gy (by rw[HUL.out];exact hkl)];have e1:(ys.set k (gu G y (iE G (bF G x z)))).getD k 0=gu G y (iE G (bF G x z)):=by
         have:k<ys.length:=by rw[hyl.out];exact hkl
         simp[List.getD,this]
        have e2:=hys.out k hkl;rw[zx (by omega)] at e2;rw[e1,hy,e2,hz];rfl
       ·have e1:(ys.set k (gu G y (iE G (bF G x z)))).getD j 0=ys.getD j 0:=by simp[List.getD,zS (Ne.symm e)]
        rw[e1,hys.out j hj];by_cases e2:j<k
        ·rw[zu e2,zu (by omega)]
        ·rw[zx e2,zx (by omega)])
      have HOX:=hid afy;have HGX:=hid hgx;have HKX:=hid hkx;clear hy hz hrx hbx afy hgx hkx f0;go_wp2_with(fail)
      go_region_law(first|(go_simp;go_at_call 94;(with_reducible refine(mul_any b G x z _ (by exact hgw.drew) t).mono ?_);rintro e w4 ⟨rfl,n4,rfl⟩)|(go_simp;go_at_call 189;(with_reducible refine(Sm b G y (bF G x z) _ (by exact hgw.drewN _) t).mono ?_);rintro e w5 ⟨rfl,n5,rfl⟩))
      all_goals
       go_wp2_with(fail)
       go_roundw;case rel=>
        refine⟨k+1,ys.set k (gu G y (iE G (bF G x z))),by omega,by go_num,hid (by simp[hyl.out]),HUS, ?_, ?_⟩
        ·exact(HOX.out.drewN _).set _ _
        ·exact aQ (lW HGX.out _) _ _
       case measure=>simp[intOf];omega
     ·have hkk:Hid (ys=Ql (opG G) x (Gj.row rs i) u):=hid (Bh (by rw[N8,hyl.out,HUL.out]) fun j hj=>by
       rw[hyl.out] at hj;rw[hys.out j hj,zu (by omega)])
      go_wp2_with(fail)
      go_roundw;case rel=>exact⟨i+1,ys,by omega,by go_num,hyl,hid (by rw[<-HST.out,zx HX0.out,hkk.out]),hid (fun j hj=>by
       rw[hkk.out,Gy (by rw[HUL.out];exact hj)];exact t.jv _ _),afy,hgx⟩
      case measure=>simp[intOf];omega
  ·have hbu:Hid (dV (opG G) rs ps vl=u):=hid (by rw[<-HBR.out,YJ (by rw[<-HR.out];omega)]);obtain⟨z,hzz⟩:∃ z,z=DW u:=⟨_,rfl⟩
   have HIF:=hid (afx (.slice (some ⟨bv,0,none⟩) L cap) u wr hown.sl);have HZ:=hid hzz;rw[<-hzz] at HIF;clear hzz;by_cases hz:z<0
   ·have hno:Hid (kY (opG G) rs ps vl=(rs,ps,false)):=hid (Lr (by rw[hbu.out,<-HZ.out];exact hz));have aav:=hid hbr;have HGR:=hid hgr;clear hbr hgr hkr;go_wp2_with(go_at_call 35;refine HIF.out.mono ?_;rintro e w' ⟨rfl,rfl⟩)
    go_ret;rw[hno.out];have e:=HR.out;subst e;exact⟨rfl,_,rv,vp,aav.out,fun x hx=>.inl hx,Fr.OT HGR.out (.inr rfl)⟩
   ·obtain⟨k,hzk,hkl,hne0,hyes⟩:=Gz (o:=opG G) (rs:=rs) (ps:=ps) (v:=vl) (by rw[hbu.out,<-HZ.out];exact hz);rw[hbu.out] at hzk hkl hne0 hyes;rw[HUL.out] at hkl;have hzk':z=(k:Int):=HZ.out.trans hzk;rw[hzk'] at HIF;clear HZ hz hzk hzk';have hcv:=hown.cell (i:=k) (by rw[HUL.out];exact hkl);have hue:=HUE.out k hkl;obtain⟨y,hy⟩:∃ y,y=u.getD k 0:=⟨_,rfl⟩
    rw[<-hy] at hcv hne0 hyes hue;have HIN:Hid (inn G.q y≠0):=hid (by rw[bI hue];exact hne0);have hk0:(0:Int)<=(k:Int):=by omega
    have hkl':(k:Int)< (L:Int):=by omega
    have hgw:=HG.out.kept hkr;have alO:=hid hyes;have aav:=hid hbr;have HGR:=hid hgr;have HKR:=hid hkr;have HOWN:=hid hown;clear hyes hy hue hne0 hbr hgr hown x1 x2;go_upto_region 15 with(go_at_call 35;refine HIF.out.mono ?_;rintro e w' ⟨rfl,rfl⟩)
    go_quiet((go_at_call 178;refine Calls.quiet_of (pX b G y _ (hgw.drewN _) t HIN.out)));go_upto_region 16 with(fail)
    obtain⟨wz,hwz⟩:∃ x,x=wr.drewN nq:=⟨_,rfl⟩
    rw[<-hwz];have hkz:ay wr wz:=by rw[hwz];exact aB _ _
    clear hwz hcv x0 hgw;have HBZ:=hid (aav.out.kept hkz);have x0:=HBZ.out.bk.2 0 _ rfl;have x1:=HBZ.out.bk.2 1 _ rfl;have hgz:=HG.out.kept (HKR.out.tr hkz);have hsz:=(HOWN.out.kept hkz).sl;have hul:u.length=L:=HUL.out;have HKZ:=hid hkz;have hbz:bb<wz.heap.size:=HBZ.out.bk.1;have hlow:w0.heap.size<=wz.heap.size:=(HKR.out.tr hkz).size;rw[<-HR.out] at x1;clear hkz
    go_region_law(first|(go_simp;go_at_call 179;(with_reducible refine(jL b G (fG G y) _ u _ (by exact hgz.drew) t (by exact hsz.kept (aC _)) (by omega)).mono ?_);rintro e w4 ⟨rfl,ho4,hk4⟩;have fZ:ay wz w4:=(by exact(aC _).tr hk4);have HB4:=hid (HBZ.out.kept fZ);have x0:=HB4.out.bk.2 0 _ rfl;have x1:=HB4.out.bk.2 1 _ rfl;rw[<-HR.out] at x1;rw[HUL.out] at ho4;have HO4:=hid ho4;have l4:bb<w4.heap.size:=HB4.out.bk.1;have HK4:=hid fZ;have hs4:=fZ.size;clear ho4 hk4 fZ)|(refine kZ rfl (.tmp 83) (.tmp 91) rfl w0.heap.size (.slice ra R rc) R _ rfl (by rw[HR.out];exact(HB4.out.m.kept (ah _ _)).out) ⟨w4.heap.size,0,none⟩ (.slice (some ⟨wz.heap.size,0,none⟩) L L) rfl (by exact aU rfl) rfl (by omega) (by simp;omega) ?_;intro w5 v6 w6 e5 o6 hg6 hl6;obtain⟨a6,c6,e6⟩:=dh o6;subst e6;have k45:ay w4 w5:=(by rw[e5];exact ah _ _);clear e5;rw[HR.out] at hg6 hl6;have nvr:(Value.slice ra rs.length rc).ownBlock≠some bb:=fun e=>HB4.out.n1 (.inl e);have y1:=((HB4.out.bk.kept k45).gbo hg6 nvr).2 1 _ rfl;have z1:=((HB4.out.fz.kept k45).gbo hg6 nvr).2 1))
    all_goals
     have eR:=HR.out;subst eR;obtain⟨r1,r2,r3⟩:=HBZ.out.addRow (HK4.out.tr k45) (HO4.out.kept k45) o6 hg6 hl6;obtain⟨w8,hw8⟩:∃ x,x=w6.setCell ⟨bb,1,none⟩ (.slice a6 (rs.length+1) c6):=⟨_,rfl⟩
     rw[<-hw8] at r1 r3 ⊢;have hk8:ay w0 w8:=r3.old (HKR.out.tr HKZ.out) (fun x hx=>(HBZ.out.lt hx).1);have HR1:=hid r1;have HR2:=hid r2;have HR3:=hid r3;have anZ:w0.heap.size<=w8.heap.size:=hk8.size;have x2:=r1.bk.2 2 _ rfl;have l8:bb<w8.heap.size:=r1.bk.1;clear hw8 r1 r2 r3 o6 hg6 hl6 y1 z1 hk8 x0 x1;go_wp2_with(at_builtin;refine dn rfl _ _ rfl w0.heap.size vp (bQ ps) rfl (HR1.out.p.kept (ah _ _)) ⟨w8.heap.size,0,none⟩ k rfl (aU rfl) (by rw[aI,HPL.out];omega) (by simp;omega) ?_;intro g9 c9 w9 o9 hg9 hd9;rw[aI,HPL.out] at o9 ⊢;have y2:=((HR1.out.bk.kept (ah _ _)).gbo hg9 HR1.out.n2).2 2 _ rfl;have z2:=((HR1.out.fz.kept (ah _ _)).gbo hg9 HR1.out.n2).2 2)
     obtain⟨q1,q2,q3⟩:=HR1.out.YK (ah _ _) o9 hg9 (hd9.imp id fun e=>⟨g9,rfl,e⟩);have HQ1:=hid q1;have HQ2:=hid q2;have HQ3:=hid q3;clear q1 q2 q3 o9 hg9 hd9 y2 z2;go_ret;rw[alO.out];have hz8:=HR3.out.size;have hzr:=HKZ.out.size;have hrw:=HGR.out.size;refine⟨rfl,_,_,_,HQ1.out,fun x hx=>?_,aii HGR.out (((Fr.mg _ HKZ.out).tr HR3.out (fun x _ h=>.inl h)).tr HQ3.out (fun x hx h=>(HR2.out x h).elim .inl (fun q=>absurd hx (by omega)))) (.inr rfl)⟩;rcases HQ2.out x hx with q|q
     ·rcases HR2.out x q with q|q
      ·exact .inl q
      ·exact .inr (by omega)
     ·exact .inr (by omega)
end
end Go.Proofs.YtoilbeadokallaaGreatDoor
