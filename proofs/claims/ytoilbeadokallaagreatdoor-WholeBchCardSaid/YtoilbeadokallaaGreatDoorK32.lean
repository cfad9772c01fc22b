/- The walk of infoset.Family. Conditions: the code is one and lies in memory. -/
import Derived.Test.YtoilbeadokallaaGreatDoorK30
import Derived.Test.YtoilbeadokallaaGreatDoorK31
namespace Go.Proofs.YtoilbeadokallaaGreatDoor
section
open Go.RowKit Cw Cw.Gj
set_option maxRecDepth 100000 in
set_option maxHeartbeats 8000000 in
theorem PW (G:GFd) (t:aK G) (n:Nat) (ma:Option Addr) (ml mc:Nat) (va:Option Addr) (vc:Nat) (A:List (List Int)) (P:List Nat) (w:World) (h:CdM w G n ma ml mc va vc A P) (hA:0<A.length):
  Calls Tryz.prog 64 #[cdV G n ma ml mc va A.length vc] w fun e w'=>∃ v steps,e=.returned (.tuple #[v,.int .i64 0])/\FmM w' w.heap.size v steps/\DX (opG G) A n [] (steps.map (·.2))/\ay w w':=by
 show Calls Tryz.prog 64 #[.agg #[.int .i64 G.P,.int .i64 G.M,.slice ma ml mc,.int .i64 n,.slice va A.length vc]] w _;obtain⟨W1,hW1⟩:∃ x,x=w.alloc (.cells #[.int .i64 G.P,.int .i64 G.M,.slice ma ml mc,.int .i64 n,.slice va A.length vc] 29):=⟨_,rfl⟩
 have hk1:ay w W1:=by rw[hW1];exact ah _ _
 have bx:Bk W1 w.heap.size [.int .i64 G.P,.int .i64 G.M,.slice ma ml mc,.int .i64 n,.slice va A.length vc]:=by rw[hW1];exact aG w [.int .i64 G.P,.int .i64 G.M,.slice ma ml mc,.int .i64 n,.slice va A.length vc] _ _ rfl
 have hn2:=h.n2;have hle:=h.rf.le;have hA2:A.length<=256:=by omega
 have HC1:=hid (h.kept hk1);have HW:=hid h.rf.ri.w;have HBX:=hid bx;have HK1:=hid hk1;have x0:=bx.2 0 _ rfl;have x1:=bx.2 1 _ rfl;have x2:=bx.2 2 _ rfl;have x3:=bx.2 3 _ rfl;have x4:=bx.2 4 _ rfl;clear h bx hk1 hle;go_enter Tryz.func64,Tryz.ntmps64;go_upto_region 1 with(fail)
 rw[<-hW1];clear hW1;have HOP:=hid (NZ G t n ma ml mc va vc A P W1 HC1.out);unfold cdV at HOP;go_upto_region 2 with(go_at_call 118;refine HOP.out.mono ?_;rintro e w2 ⟨b,H,rfl,hg2,tH,hop,hq,hk2⟩)
 have acF:=hid hop;have HQ:=hid hq;have HB2:=hid (HBX.out.kept hk2);have HC2:=hid (HC1.out.kept hk2);have HG2:=hid hg2;have HK2:=hid hk2;obtain⟨bc,hbc⟩:∃ x,x=w.heap.size:=⟨_,rfl⟩
 rw[<-hbc] at HB2 x0 x1 x2 x3 x4 ⊢;have HBC:=hid hbc;clear hop hq x0 x1 x2 x3 x4 hg2 hk2 hbc;go_wp2_with(fail)
 go_loopw [7,6] (fun vu vo wr=>∃ (vu' vo':Value) (used:List Nat) (steps:List (Value×List Nat×Nat)),vu'=vu/\vo'=vo/\Own wr w2.heap.size vu' (bQ used)/\FmM wr w2.heap.size vo' steps/\Hid (∀ p∈steps,∀ x,p.1.ownBlock=some x->vu'.ownBlock≠some x)/\
   Hid (∀ rest,DX (opG G) A n used rest->DX (opG G) A n [] (steps.map (·.2)++rest))/\Hid (used.length<=64*aax n used)/\Hid (steps.length<=aax n used)/\ay w2 wr) (fun _ vo _=>n+1-YT vo)
 case atStart=>exact⟨_,_,[],[],rfl,rfl,bZ _ _,⟨YR _ _,fun p hp=>by cases hp⟩,hid (fun p hp=>by cases hp),hid (fun rest h=>h),hid (by simp),hid (by simp),ay.rfl' _⟩
 case round=>
  obtain⟨vu,vo,used,steps,rfl,rfl,hou,hfm,ajY,HFR,HUL,aiq,hkr⟩:=hrel;have HOU:=hid hou;have HFM:=hid hfm;have HKR:=hid hkr;have hcu:=UR n used;have HCU:=hid hcu;clear hou hfm hkr hcu;go_upto_region 7 with(fail)
  obtain⟨W3,hW3⟩:∃ x,x=wr.alloc (.cells #[.bool false,.bool true] 4):=⟨_,rfl⟩
  obtain⟨gb,hgb⟩:∃ x,x=wr.heap.size:=⟨_,rfl⟩
  have hk3:ay wr W3:=by rw[hW3];exact ah _ _
  have d0:W3.cell? ⟨gb,0,none⟩=some (.bool false):=by rw[hW3,World.cell?_alloc_at _ _ _ _ hgb];rfl
  have d1:W3.cell? ⟨gb,1,none⟩=some (.bool true):=by rw[hW3,World.cell?_alloc_at _ _ _ _ hgb];rfl
  have lgb:gb<W3.heap.size:=by rw[hW3,hgb];simp
  have HD0:=hid d0;have HD1:=hid d1;have HK3:=hid hk3;have HGB:=hid hgb;clear d0 d1;go_wp2_with(fail)
  rw[<-hW3,<-hgb];clear hW3 hgb hk3;obtain⟨wa,hwa⟩:∃ y,y=wr:=⟨_,rfl⟩
  subst hwa
  go_loopw [25,8] (fun vk vd wx=>∃ (vd':Value) (k:Nat),vd'=vd/\k<=2/\vk=.int .i64 k/\Own wx W3.heap.size vd' (bQ (aay n used k))/\ay W3 wx) (fun vk _ _=>2- (intOf vk).toNat)
  case atStart=>exact⟨_,0,rfl,by omega,rfl,bZ _ _,ay.rfl' _⟩
  case round=>
   obtain⟨vd,k,rfl,hk,rfl,hod,hkx⟩:=hrel;have HOD:=hid hod;have HKX:=hid hkx;clear hod hkx;by_cases hlt:k<2
   ·obtain⟨old,hold⟩:∃ x:Bool,x=(k==1):=⟨_,rfl⟩
    have dk:wr.cell? ⟨gb,k,none⟩=some (.bool old):=by
     rw[hold]
     match k,hlt with
     |0,_=>exact(HKX.out.cell' lgb).trans HD0.out
     |1,_=>exact(HKX.out.cell' lgb).trans HD1.out
    have hlt':(k:Int)<2:=by omega
    have hk0:(0:Int)<=(k:Int):=by omega
    have YX:ay w2 wr:=HKR.out.tr (HK3.out.tr HKX.out);have hbx:=HB2.out.kept YX;have x3:=hbx.2 3 _ rfl;have lbx:=hbx.1;have lgx:gb<wr.heap.size:=HKX.out.lt lgb;have HOLD:=hid hold;have afF:=hid YX;clear hold YX hbx;go_wp2_with(fail)
    obtain⟨wb,hwb⟩:∃ y,y=wr:=⟨_,rfl⟩
    subst hwb
    go_loopw [31,8] (fun vi vd2 wy=>∃ (vd3:Value) (i:Nat),vd3=vd2/\i<=n/\vi=.int .i64 i/\Own wy W3.heap.size vd3 (bQ (ET n used k i))/\ay W3 wy) (fun vi _ _=>n- (intOf vi).toNat)
    case atStart=>exact⟨_,0,rfl,by omega,rfl,by rw[UZ];exact HOD.out,HKX.out⟩
    case round=>
     obtain⟨vd2,i,rfl,hi,rfl,hoy,hky⟩:=hrel;have HOY:=hid hoy;have HKY:=hid hky;have HUY:=hid (HOU.out.sl.kept (HK3.out.tr HKY.out));have hsy:W3.heap.size<=wr.heap.size:=hky.size;clear hoy hky;by_cases hin:i<n
     ·have hin':(i:Int)< (n:Int):=by omega
      have hjl:=YS n used k i;by_cases hu:used.contains i=true
      ·have HCT:=hid (oq _ _ (i:Int) wr HUY.out (oW.2 (by simpa using hu)));cases old with
       |true=>
        have HY:Hid ((used.contains i==(k==1))=true):=hid (by rw[<-HOLD.out,hu];rfl);clear hu;go_wp2_with(first|(go_at_call 37;refine HCT.out.mono ?_;rintro e w' ⟨rfl,rfl⟩)|(at_builtin;refine dn rfl _ _ rfl W3.heap.size vd2 (bQ (ET n used k i)) rfl (HOY.out.kept (ah _ _)) ⟨wr.heap.size,0,none⟩ i rfl (aU rfl) (by rw[aI];omega) (by simp;omega) ?_;intro g9 c9 w9 o9 hg9 hd9))
        go_roundw;case rel=>exact⟨_,i+1,rfl,by omega,by go_num,by rw[Oa HY.out,show bQ (ET n used k i++ [i])=bQ (ET n used k i)++ [(i:Int)] by simp[bQ]];exact o9,(HKY.out.tr (ah _ _)).grown hg9 (HKY.out.tr (ah _ _)).size (fun j e=>(aN HOY.out e).1)⟩
        case measure=>simp[intOf];omega
       |false=>
        have HY:Hid ((used.contains i==(k==1))=false):=hid (by rw[<-HOLD.out,hu];rfl);clear hu;go_wp2_with(go_at_call 37;refine HCT.out.mono ?_;rintro e w' ⟨rfl,rfl⟩)
        go_roundw;case rel=>exact⟨_,i+1,rfl,by omega,by go_num,by rw[U1 HY.out];exact HOY.out,HKY.out⟩
        case measure=>simp[intOf];omega
      ·have hu:used.contains i=false:=by simpa using hu
       have HCT:=hid (lV _ _ (i:Int) wr HUY.out (fun q=>by rw[oW] at q;simp[q] at hu));cases old with
       |false=>
        have HY:Hid ((used.contains i==(k==1))=true):=hid (by rw[<-HOLD.out,hu];rfl);clear hu;go_wp2_with(first|(go_at_call 37;refine HCT.out.mono ?_;rintro e w' ⟨rfl,rfl⟩)|(at_builtin;refine dn rfl _ _ rfl W3.heap.size vd2 (bQ (ET n used k i)) rfl (HOY.out.kept (ah _ _)) ⟨wr.heap.size,0,none⟩ i rfl (aU rfl) (by rw[aI];omega) (by simp;omega) ?_;intro g9 c9 w9 o9 hg9 hd9))
        go_roundw;case rel=>exact⟨_,i+1,rfl,by omega,by go_num,by rw[Oa HY.out,show bQ (ET n used k i++ [i])=bQ (ET n used k i)++ [(i:Int)] by simp[bQ]];exact o9,(HKY.out.tr (ah _ _)).grown hg9 (HKY.out.tr (ah _ _)).size (fun j e=>(aN HOY.out e).1)⟩
        case measure=>simp[intOf];omega
       |true=>
        have HY:Hid ((used.contains i==(k==1))=false):=hid (by rw[<-HOLD.out,hu];rfl);clear hu;go_wp2_with(go_at_call 37;refine HCT.out.mono ?_;rintro e w' ⟨rfl,rfl⟩)
        go_roundw;case rel=>exact⟨_,i+1,rfl,by omega,by go_num,by rw[U1 HY.out];exact HOY.out,HKY.out⟩
        case measure=>simp[intOf];omega
     ·have alR:i=n:=by omega
      subst alR;go_wp2_with(fail)
      go_roundw;case rel=>exact⟨_,k+1,rfl,by omega,by go_num,by rw[<-U0 i used hlt];exact HOY.out,HKY.out⟩
      case measure=>simp[intOf];omega
   ·obtain rfl:k=2:=by omega
    have YX:ay w2 wr:=HKR.out.tr (HK3.out.tr HKX.out);have hbx:=HB2.out.kept YX;have x0:=hbx.2 0 _ rfl;have x1:=hbx.2 1 _ rfl;have x2:=hbx.2 2 _ rfl;have x3:=hbx.2 3 _ rfl;have x4:=hbx.2 4 _ rfl;have lbx:=hbx.1;obtain⟨g,hg⟩:∃ g,g=nH (opG G) A n used:=⟨_,rfl⟩
    have hgl:g.length<=64:=by rw[hg];exact zJ (YN _ _ _ _) hn2
    have HGR:Hid (Calls Tryz.prog 119 #[.pointer (some ⟨b,0,none⟩),.agg #[.int .i64 G.P,.int .i64 G.M,.slice ma ml mc,.int .i64 n,.slice va A.length vc],vd] wr fun e w'=>∃ v,e=.returned v/\Own w' wr.heap.size v (bQ g)/\ay wr w'):=hid (by
     have:=ES b H tH G.P G.M (.slice ma ml mc) n va vc A _ (nG n used) wr (HG2.out.kept YX) (HC2.out.g.kept YX) (by rw[HQ.out];exact HW.out) hA hA2 HOD.out.sl (fun i hi=>GI (used:=used) (by simp[List.getD,hi])) (by have:=Dy n used;omega);rw[acF.out] at this;rw[hg];exact this)
    have afF:=hid YX;have HGE:=hid hg;clear YX hbx hg;go_upto_region 18 with(go_at_call 119;refine HGR.out.mono ?_;rintro e w5 ⟨v5,rfl,ho5,hk5⟩;obtain⟨a5,c5,e5,_,_⟩:=ho5.sl.lenOf;rw[aI] at e5;subst e5;have HO5:=hid ho5;have HK5:=hid hk5;clear ho5 hk5)
    obtain⟨W6,hW6⟩:∃ x,x=w5.alloc (.cells #[.slice a5 g.length c5,.int .i64 0] 123):=⟨_,rfl⟩
    obtain⟨xb,hxb⟩:∃ x,x=w5.heap.size:=⟨_,rfl⟩
    rw[<-hW6,<-hxb];have hk6:ay w5 W6:=by rw[hW6];exact ah _ _
    have bx6:Bk W6 xb [.slice a5 g.length c5,.int .i64 0]:=by rw[hW6];exact aG w5 [.slice a5 g.length c5,.int .i64 0] _ _ hxb
    have fx6:Fz W6 xb:=by rw[hW6];exact bD _ _ _ _ hxb
    have HB6:=hid bx6;have HF6:=hid fx6;have ajZ:=hid (afF.out.tr (HK5.out.tr hk6));have aj0:=hid ((HK3.out.tr HKX.out).tr (HK5.out.tr hk6));have HO6:=hid (HO5.out.kept hk6);have HXB:Hid (∀ x,(Value.slice a5 g.length c5).ownBlock=some x->wr.heap.size<=x/\x<xb):=hid (fun x e=>by
     have h1:=aN HO5.out e;rw[hxb];exact h1)
    have hxw:w2.heap.size<=xb:=by rw[hxb];exact(afF.out.tr HK5.out).size
    have alS:wa.heap.size<=xb:=by rw[hxb];exact((HK3.out.tr HKX.out).tr HK5.out).size
    have hxs:xb<W6.heap.size:=bx6.1;have x0:=bx6.2 0 _ rfl;clear hW6 hxb hk6 fx6 bx6;obtain⟨wc,hwc⟩:∃ y,y=wr:=⟨_,rfl⟩
    subst hwc;go_wp2_with(fail)
    clear x0
    go_loopw [53] (fun vi wx=>∃ j:Nat,j<=g.length/\vi=.int .i64 j/\Bk wx xb [.slice a5 g.length c5,.int .i64 (mP used (g.take j):Nat)]/\Fz wx xb/\W6.grownBy wx (some xb)) (fun vi _=>g.length- (intOf vi).toNat)
    case atStart=>exact⟨0,by omega,rfl,HB6.out,HF6.out,World.grownBy.refl _ _⟩
    case round=>
     obtain⟨j,hj,rfl,hbk,hfz,hgx⟩:=hrel;have air:ay w2 wr:=aH ajZ.out hgx hxw ajZ.out.size;have agY:ay wa wr:=aH aj0.out hgx alS aj0.out.size;have hou:=HOU.out.kept agY;have hos:Own wr wc.heap.size (.slice a5 g.length c5) (bQ g):=by
      refine HO6.out.grownBy hgx ?_;cases e:(Value.slice a5 g.length c5).ownBlock with
      |none=>exact .inl rfl
      |some x=>exact .inr fun e2=>absurd (wW e2) (by have:=(HXB.out x e).2;omega)
     have HBK:=hid hbk;have HFZ:=hid hfz;have HGX:=hid hgx;have ais:=hid air;have ait:=hid agY;have aj1:=hid hou;have HOS:=hid hos;have lxb:xb<wr.heap.size:=hbk.1;have x0:=hbk.2 0 _ rfl;have x1:=hbk.2 1 _ rfl;have f1:=hfz.2 1;by_cases hjl:j<g.length
     ·have aiu:(j:Int)< (g.length:Int):=by omega
      have hj0:(0:Int)<=(j:Int):=by omega
      obtain⟨g5,e5⟩:∃ g5,a5=some ⟨g5,0,none⟩:=by
       rcases hos.form with⟨_,e⟩|⟨g5,c,e,_⟩
       ·have:=congrArg List.length e;rw[aI,xP] at this;omega
       ·injection e with e1 _ _;exact⟨g5,e1⟩
      subst e5;have hcs:=hos.cell (i:=j) (by rw[aI];exact hjl);rw[ints_at hjl] at hcs;have hrt:=PN (used:=used) hjl;have hrl:=GL used (g.take j);rw[yF] at hrl;obtain⟨y,hy⟩:∃ y,y=g.getD j 0:=⟨_,rfl⟩
      rw[<-hy] at hcs hrt;obtain⟨r,hr⟩:∃ r,r=mP used (g.take j):=⟨_,rfl⟩
      rw[<-hr] at hrt hrl x1;have alT:r<=64:=by omega
      have HRT:=hid hrt;have HRX:=hid hr;clear hrt hrl hr hy hbk hfz hgx air agY hou hos;by_cases hu:used.contains y=true
      ·have HCT:=hid (oq _ _ (y:Int) wr aj1.out.sl (oW.2 (by simpa using hu)));have HU:=hid hu;clear hu f1;go_wp2_with(go_at_call 37;refine HCT.out.mono ?_;rintro e w' ⟨rfl,rfl⟩)
       go_roundw;case rel=>exact⟨j+1,by omega,by go_num,by rw[HRT.out,zu HU.out,Nat.add_zero,HRX.out];exact HBK.out,HFZ.out,HGX.out⟩
       case measure=>simp[intOf];omega
      ·have hu:used.contains y=false:=by simpa using hu
       have HCT:=hid (lV _ _ (y:Int) wr aj1.out.sl (fun q=>by rw[oW] at q;simp[q] at hu));have HU:=hid hu;have hw1:IntKind.i64.wrap ((r:Int)+1)=((r+1:Nat):Int):=by rw[IntWalk.i64_in _ (by omega)];omega
       clear hu;go_wp2_with(go_at_call 37;refine HCT.out.mono ?_;rintro e w' ⟨rfl,rfl⟩)
       go_roundw;case rel=>exact⟨j+1,by omega,by go_num,by rw[HRT.out,zx (by rw[HU.out];simp)];exact HBK.out.set 1 _,fE HFZ.out _ _ _,aQ HGX.out _ _⟩
       case measure=>simp[intOf];omega
     ·have hjg:j=g.length:=by omega
      subst hjg;rw[wu] at HBK x1;clear hbk hfz hgx air agY hou hos;obtain⟨r,hr⟩:∃ r,r=mP used g:=⟨_,rfl⟩
      rw[<-hr] at x1 HBK;have HR:=hid hr;clear hr;by_cases hr0:r=0
      ·have t0:(((r:Nat):Int)==0)=true:=by simp;omega
       have alU:Hid (DX (opG G) A n [] (steps.map (·.2))):=hid (by
        have:=HFR.out [] (.stop used (by rw[<-HGE.out,<-HR.out];exact hr0))
        rwa [List.append_nil] at this)
       clear hr0;go_wp2_with(fail)
       refine bodyPost_ret (v:=.tuple #[vo,.int .i64 0]) ?_ rfl ⟨vo,steps,rfl, ?_,alU.out, ?_⟩
       ·simp[results,Tryz.results64,go_sem]
       ·exact(HFM.out.kept ait.out).mono (HK1.out.tr HK2.out).size
       ·exact(HK1.out.tr HK2.out).tr ais.out
      ·have t0:(((r:Nat):Int)==0)=false:=by simp;omega
       have HR0:=hid hr0;have HSO:=hid (Gx _ _ _ _ HOS.out (by rw[aI];omega));clear hr0 f1;go_upto_region 27 with(go_at_call 103;(with_reducible refine HSO.out.mono ?_);rintro e w7 ⟨rfl,ho7,hg7⟩)
       obtain⟨s,hs⟩:∃ s,s=pR (opG G) A n used:=⟨_,rfl⟩
       have hss:bQ s=mW (bQ g):=by rw[hs,Jl,<-HGE.out]
       have hsl:s.length=g.length:=by have:=congrArg List.length hss;rwa [aI,Jk,aI] at this
       rw[<-hss] at ho7;have agZ:wr.grownBy w7 (Value.slice a5 g.length c5).ownBlock:=by
        rcases hg7 with⟨rfl,e⟩|⟨y,e,h7⟩
        ·exact World.grownBy.refl _ _
        ·rw[e];exact h7
       have hnx:∀ x,(Value.slice a5 g.length c5).ownBlock=some x->wc.heap.size<=x/\x<xb:=HXB.out;have hb7:Bk w7 xb [.slice a5 g.length c5,.int .i64 r]:=HBK.out.gbo agZ (fun e=>by have:=(hnx xb e).2;omega);have hk7:ay wa w7:=ait.out.grown agZ ait.out.size (fun x e=>by have:=(hnx x e).1;have:=((HK3.out.tr HKX.out)).size;omega);have aj2:ay w2 w7:=ais.out.grown agZ ais.out.size (fun x e=>by have:=(hnx x e).1;have:=afF.out.size;omega);have HS:=hid hs;have HSL:=hid hsl;have HO7:=hid ho7;have HB7:=hid hb7;have HK7:=hid hk7;have aiv:=hid aj2;have HU7:=hid (HOU.out.kept hk7);have HM7:=hid (HFM.out.kept hk7);have l7:xb<w7.heap.size:=hb7.1;clear x0 x1 hs hss hsl ho7 hg7 agZ hnx hb7 hk7 aj2;have x0:=HB7.out.2 0 _ rfl;have x1:=HB7.out.2 1 _ rfl;have hg1:1<=g.length:=by
        have:=GL used g;have h1:=HR.out;have h2:=HR0.out;omega
       obtain⟨g5,e5⟩:∃ g5,a5=some ⟨g5,0,none⟩:=by
        rcases HO7.out.form with⟨_,e⟩|⟨g5,c,e,_⟩
        ·have:=congrArg List.length e;rw[aI,xP,HSL.out] at this;omega
        ·injection e with e1 _ _;exact⟨g5,e1⟩
       subst e5;have hug:=HUL.out;have hcu:=HCU.out;have alV:=HSL.out;go_upto_region 28 with(at_builtin;refine uh rfl _ _ rfl w2.heap.size vu (bQ used) rfl HU7.out ⟨g5,0,none⟩ g.length c5 (bQ s) rfl (by rw[aI];exact alV) (fun q hq=>by rw[Addr.add_lit,xQ];exact HO7.out.cell hq) (by rw[aI];omega) aiv.out.size ?_;intro v8 w8 o8 hg8 hd8)
       have hvu:∀ x,vu.ownBlock=some x->w2.heap.size<=x/\x<wa.heap.size:=fun x e=>aN HOU.out e;have hnx:∀ x,(Value.slice (some ⟨g5,0,none⟩) g.length c5).ownBlock=some x->wc.heap.size<=x/\x<xb:=HXB.out;have an1:wa.heap.size<=wc.heap.size:=(HK3.out.tr HKX.out).size;have hb8:Bk w8 xb [.slice (some ⟨g5,0,none⟩) g.length c5,.int .i64 r]:=HB7.out.gbo hg8 (fun e=>by have:=(hvu xb e).2;omega);have hm8:FmM w8 w2.heap.size vo steps:=HM7.out.afC HU7.out hg8 ajY.out;have ho8:Own w8 wc.heap.size (.slice (some ⟨g5,0,none⟩) g.length c5) (bQ s):=HO7.out.grownBy hg8 (by
        cases e:(Value.slice (some ⟨g5,0,none⟩) g.length c5).ownBlock with
        |none=>exact .inl rfl
        |some x=>exact .inr fun e2=>absurd (hvu x e2.symm).2 (by have:=(hnx x e).1;omega))
       have aj3:ay w2 w8:=aiv.out.grown hg8 aiv.out.size (fun x e=>(hvu x e).1);have an2:w7.heap.size<=w8.heap.size:=hg8.size;have an3:=HK7.out.size;have HB8:=hid hb8;have HM8:=hid hm8;have HO8:=hid ho8;have aiw:=hid aj3;have HU8:=hid (show Own w8 w2.heap.size v8 (bQ (used++s)) by rw[show bQ (used++s)=bQ used++bQ s by simp[bQ]];exact o8);have HD8:=hid hd8;have HVU:=hid hvu;have HNX:=hid hnx;have l8:xb<w8.heap.size:=hb8.1;clear x0 x1 hb8 hm8 ho8 aj3 o8 hd8 hg8 hvu hnx;have x0:=HB8.out.2 0 _ rfl;have x1:=HB8.out.2 1 _ rfl;have hsl:=aiq.out;go_wp2_with(at_builtin;refine uj rfl _ _ rfl w2.heap.size vo steps rfl (HM8.out.own.kept (ah _ _)) ⟨w8.heap.size,0,none⟩ (.slice (some ⟨g5,0,none⟩) g.length c5,s,r) rfl (U2 _ _ _ _).1 (U2 _ _ _ _).2 rfl (by omega) (by have:=aiw.out.size;simp;omega) ?_;intro v9 w9 o9 hg9)
       have hku:=ah w8 (.cells #[.slice (some ⟨g5,0,none⟩) g.length c5,.int .i64 r] 123);have hm9:=(HM8.out.kept hku).add ((HO8.out.kept hku).mono (by have:=afF.out.size;omega)) o9 hg9;have hcn:aax n used<aax n (used++s):=by
        rw[HS.out];exact Jm (o:=opG G) (A:=A) (by rw[<-HGE.out,<-HR.out];exact HR0.out)
       have HM9:=hid hm9;have HCN:=hid hcn;have hk9:ay w2 w9:=(aiw.out.tr hku).grown hg9 (aiw.out.tr hku).size (fun x e=>(HM8.out.own.lt e).1);have HK9:=hid hk9;have hu9:Own w9 w2.heap.size v8 (bQ (used++s)):=(HU8.out.kept hku).grownBy hg9 (by
        cases e:v8.ownBlock with
        |none=>exact .inl rfl
        |some x=>exact .inr fun e2=>LD (HM8.out.own.kept hku) (HU8.out.kept hku) e e2.symm)
       have HU9:=hid hu9;have HL9:=hid o9.len;clear hku hm9 hcn hk9 hu9 o9 hg9 x0 x1;go_roundw;case rel=>
        refine⟨v8,v9,used++s,steps++ [(.slice (some ⟨g5,0,none⟩) g.length c5,s,r)],rfl,rfl,HU9.out,HM9.out,hid (fun p hp x e e2=>?_),hid (fun rest hr=>?_),hid ?_,hid ?_,HK9.out⟩
        ·rcases yQ.1 hp with hp|hp
         ·have h1:=aN (HFM.out.row p hp) e;rcases HD8.out with q|q
          ·exact ajY.out p hp x e (by rw[<-q];exact e2)
          ·have:=q x e2;omega
         ·rw[zH.1 hp] at e;have h1:=HNX.out x e;rcases HD8.out with q|q
          ·have:=(HVU.out x (by rw[<-q];exact e2)).2;omega
          ·have:=q x e2;omega
        ·have h1:=HFR.out ((s,r)::rest) (by
          have:=DX.next (o:=opG G) (A:=A) (n:=n) used rest (by rw[<-HGE.out,<-HR.out];exact HR0.out) (by rw[<-HS.out];exact hr);rw[<-HGE.out,<-HR.out,<-HS.out] at this;exact this)
         simpa using h1
        ·have h1:=HCN.out;have h2:=HUL.out;have h3:=HSL.out;rw[zX];omega
        ·have h1:=HCN.out;have h2:=aiq.out;rw[zX];simp;omega
       case measure=>
        have h1:=HL9.out;have h2:=HFM.out.own.len;have h3:=aiq.out;have h4:=HCU.out;rw[zX] at h1;simp at h1;show n+1-YT v9<n+1-YT vo;omega
end
end Go.Proofs.YtoilbeadokallaaGreatDoor
