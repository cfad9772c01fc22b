/- The walk of bch.Zeros at a code that is well formed and a field that extends. -/
import Derived.Test.YtoilbeadokallaaGreatDoorK17
import Derived.Test.YtoilbeadokallaaGreatDoorK41
import Derived.Test.YtoilbeadokallaaGreatDoorK43
import Derived.Test.YtoilbeadokallaaGreatDoorK45
namespace Go.Proofs.YtoilbeadokallaaGreatDoor
section
open Go.RowKit Cw Cw.Gj
set_option maxRecDepth 100000 in
set_option maxHeartbeats 8000000 in
theorem Zv (P' M':Int) (vm':Value) (mod':List Int) (n:Nat) (G H:GFd) (r0 a:Int) (h:mY G.P G.M G.mod P' M' mod' (n:Int) G H r0 a) (ma:Option Addr) (ml mc:Nat) (va:Option Addr) (vn vc:Nat) (A:List (List Int)) (Pv:List Nat) (w:World) (hvm:Sl w (.slice ma ml mc) G.mod) (hv:Rd w (.slice va vn vc) A) (hrf:Rf G.q A n Pv) (JM:Sl w vm' mod'):
  Calls Tryz.prog 8 #[.agg #[.int .i64 G.P,.int .i64 G.M,.slice ma ml mc,.int .i64 n,.slice va vn vc],.agg #[.int .i64 P',.int .i64 M',vm']] w fun e w'=>ay w w'/\∃ v,e=.returned (.tuple #[v,.int .i64 0])/\Own w' w.heap.size v (bQ (DR H (jQ G H r0) A n a)):=by
 have hn1:1<=n:=by have:=h.n1;omega
 have hn2:n<=64:=by have:=h.n2;omega
 obtain⟨W1,hW1⟩:∃ x,x=(w.alloc (.cells #[.int .i64 G.P,.int .i64 G.M,.slice ma ml mc,.int .i64 n,.slice va vn vc] 29)).alloc (.cells #[.int .i64 P',.int .i64 M',vm'] 24):=⟨_,rfl⟩
 have hk1:ay w W1:=by rw[hW1];exact(ah _ _).tr (ah _ _)
 have bc:SX W1 w.heap.size G.P G.M (.slice ma ml mc) n (.slice va vn vc):=by rw[hW1];exact(mD _ _ _ _ _ _ _).kept (ah _ _)
 have by':nJ W1 (w.heap.size+1) P' M' vm':=by
  rw[hW1];have:=aS (w.alloc (.cells #[.int .i64 G.P,.int .i64 G.M,.slice ma ml mc,.int .i64 n,.slice va vn vc] 29)) P' M' vm' 24;simpa using this
 have HBC:=hid bc;have HBY:=hid by';have HVM:=hid (hvm.kept hk1);have HVN:=hid (JM.kept hk1);have HV:=hid (hv.kept hk1);have HK1:=hid hk1;have HED:=hid h;have HRF:=hid hrf;have HCC:=hid (sD G h.tG ma ml mc n va vn vc A Pv W1 (hvm.kept hk1) (hv.kept hk1) hrf hn1 hn2);have b0:=bc.h0;have b1:=bc.h1;have b2:=bc.h2;have b3:=bc.h3;have b4:=bc.h4;clear hvm JM hv hk1 bc by' h hrf;go_enter Tryz.func8,Tryz.ntmps8;go_upto_region 1 with(fail)
 rw[<-hW1];clear hW1;go_upto_region 4 with(go_at_call 23;(with_reducible refine HCC.out.mono ?_);rintro e w2 ⟨rfl,hk2⟩)
 have HK2:=hid (HK1.out.tr hk2);have HEX:=hid (Md G.P G.M (.slice ma ml mc) G.mod P' M' vm' mod' n w2 (HVM.out.kept hk2) (HVN.out.kept hk2));have bx2:=HBC.out.kept hk2;have by2:=HBY.out.kept hk2;have am3:=hid bx2;have HV2:=hid (HV.out.kept hk2);clear b0 b1 b2 b3 b4 hk2;have b0:=bx2.h0;have b1:=bx2.h1;have b2:=bx2.h2;have b3:=bx2.h3;have c0:=by2.h0;have c1:=by2.h1;have c2:=by2.h2;clear bx2 by2;go_upto_region 5 with(go_at_call 19;(with_reducible refine HEX.out.mono ?_);rintro e w3 ⟨hk3,hx⟩;have HK3:=hid hk3;clear hk3;rcases hx with⟨hno,_⟩|⟨b,G2,H2,r2,a2,gi,hed,rfl,hg3,ho3⟩;exact absurd ⟨G,H,r0,a,HED.out⟩ hno)
 have aoE:=hid hed;have HA2:=hid hed.agl.2.1;have htH:=hed.tH;have HQG:Hid (G.q=G2.q):=hid (adb HED.out.tG hed.tG (HED.out.sdG hed));have HZS:Hid (DR H (jQ G H r0) A n a=DR H2 (jQ G2 H2 r2) A n a2):=hid (HED.out.Zr hed A n);obtain⟨im,him⟩:∃ x,x=jQ G2 H2 r2:=⟨_,rfl⟩
 have HIL:Hid (im.length=G2.q.toNat):=hid (by rw[him];exact Y6 _ _ _);rw[<-him] at HZS ho3;have HQB:Hid (∀ x:Int,x<G.q->x< (im.length:Int)):=hid (fun x hx=>by have h1:=HQG.out;have h2:=HIL.out;omega);obtain⟨Q,hQ⟩:∃ x,x=G2.q.toNat:=⟨_,rfl⟩
 rw[<-hQ] at ho3 ⊢;obtain⟨W4,hW4⟩:∃ x,x=(w3.alloc (.cells #[.pointer (some ⟨b,0,none⟩)] 55)).alloc (.cells #[.slice (some ⟨gi,0,none⟩) Q Q] 22):=⟨_,rfl⟩
 rw[<-hW4];obtain⟨pg,hpg⟩:∃ x,x=w3.heap.size:=⟨_,rfl⟩
 have hk4:ay w3 W4:=by rw[hW4];exact(ah _ _).tr (ah _ _)
 have d1:W4.cell? ⟨pg,0,none⟩=some (.pointer (some ⟨b,0,none⟩)):=by
  rw[hW4,hpg];exact(ay.cell' (ah _ _) (by simp)).trans (aU rfl)
 have d2:W4.cell? ⟨pg+1,0,none⟩=some (.slice (some ⟨gi,0,none⟩) Q Q):=by
  rw[hW4,hpg];simp
 have hsz:pg+1<W4.heap.size:=by rw[hW4,hpg];simp
 rw[<-hpg];have HD1:=hid d1;have HD2:=hid d2;have HG4:=hid (hg3.kept hk4);have HI4:=hid ((ho3.kept hk4).sl);have HK4:=hid ((HK2.out.tr HK3.out).tr hk4);have akC:=hid (am3.out.kept (HK3.out.tr hk4));have HV4:=hid (HV2.out.kept (HK3.out.tr hk4));have bc4:=akC.out;have HQ:=hid hQ;clear b0 b1 b2 b3 c0 c1 c2 hed hg3 ho3 hk4 d1 d2 hW4 hpg him hQ;have b3:=bc4.h3;clear bc4;go_wp2_with(fail)
 clear b3
 go_loopw [36,11] (fun vi vo wr=>∃ (k:Nat) (v11:Value),k<=n/\vi=.int .i64 k/\vo=v11/\Hid (Own wr W4.heap.size v11 (bQ (DR H2 im A k a2)))/\ay W4 wr) (fun vi _ _=>n- (intOf vi).toNat)
 case atStart=>exact⟨0,_,by omega,rfl,rfl,hid (bZ _ _),ay.rfl' _⟩
 case round=>
  obtain⟨k,v11,hk,rfl,rfl,HR,hkr⟩:=hrel;have HKR:=hid hkr;have hsr:=hkr.size;by_cases hlt:k<n
  ·have hlt':(k:Int)< (n:Int):=by omega
   have ai7:k<=100:=by omega
   have e1:=(hkr.cell' (show pg<W4.heap.size by omega)).trans HD1.out;obtain⟨y,hy⟩:∃ y,y=pJ H2 a2 (k:Int):=⟨_,rfl⟩
   have HPW:=hid (fun(W:World) (h:ay W4 W)=>(show Calls Tryz.prog 24 #[.pointer (some ⟨b,0,none⟩),.int .i64 a2,.int .i64 k] W fun e w'=>e=.returned (.tuple #[.int .i64 y,.int .i64 0])/\∃ m,w'=W.drewN m by rw[hy];exact VW b H2 htH a2 k W (HG4.out.kept h) HA2.out ai7));obtain⟨t,ht⟩:∃ t,t=A.all fun r=>Jy H2 im r y==0:=⟨_,rfl⟩
   have HCF:=hid (fun(W:World) (px:Nat) (hkm:ay W4 W) (hc:W.cell? ⟨px,0,none⟩=some (.int .i64 y)) (hl:px<W.heap.size)=>(show Calls Tryz.prog 25 #[.slice va vn vc,.func (.func 26) #[] #[.pointer (some ⟨pg,0,none⟩),.pointer (some ⟨pg+1,0,none⟩),.pointer (some ⟨px,0,none⟩)]] W fun e w'=>e=.returned (.bool (!t))/\ay W w' by
    rw[ht];exact Zh b H2 htH pg (pg+1) px (.slice (some ⟨gi,0,none⟩) Q Q) im y (.slice va vn vc) A n _ ⟨HG4.out.kept hkm,HI4.out.kept hkm,(hkm.cell' (show pg<W4.heap.size by omega)).trans HD1.out,(hkm.cell' (show pg+1<W4.heap.size by omega)).trans HD2.out,hc,HV4.out.kept hkm,⟨zZ (show pg<W4.heap.size by omega) hkm.size,zZ (show pg+1<W4.heap.size by omega) hkm.size,hl⟩⟩ (fun i hi=>⟨HRF.out.ri.wf i hi,fun j hj=>⟨(HRF.out.ri.bd i j hi hj).1,HQB.out _ (HRF.out.ri.bd i j hi hj).2⟩⟩) (by omega)))
   have HZK:Hid (bQ (DR H2 im A (k+1) a2)=bQ (DR H2 im A k a2)++if t then[(k:Int)] else[]):=hid (by
    unfold DR bQ;rw[xu,wV,xq];congr 1;rw[ht,hy];cases hz:(A.all fun r=>Jy H2 im r (pJ H2 a2 (k:Int))==0)<;>simp[hz])
   have HLK:Hid ((bQ (DR H2 im A k a2)).length<=k):=hid (by
    unfold bQ DR;rw[yx];exact zJ (vT _ _) (by simp))
   clear hkr hy ht;go_upto_region 12 with(go_at_call 24;(with_reducible refine(HPW.out wr HKR.out).mono ?_);rintro e w6 ⟨rfl,hm6⟩;have HK6:=hid (show ay W4 w6 from by obtain⟨m6,rfl⟩:=hm6;exact HKR.out.drewN m6);have HO6:=hid (show Own w6 W4.heap.size u11 _ from by obtain⟨m6,rfl⟩:=hm6;exact HR.out.drewN m6);clear hm6)
   obtain⟨w7,hw7⟩:∃ x,x=w6.alloc (.cells #[.int .i64 y] 3):=⟨_,rfl⟩
   rw[<-hw7];have WB:ay w6 w7:=by rw[hw7];exact ah _ _
   have akD:=hid (HCF.out w7 w6.heap.size (HK6.out.tr WB) (by rw[hw7];exact aU rfl) (by rw[hw7];simp));have HK7:=hid (HK6.out.tr WB);have HO7:=hid (HO6.out.kept WB);have b2:=(akC.out.kept HK7.out).h4;clear hw7 WB e1;cases t
   ·go_wp2_with(go_at_call 25;(with_reducible refine akD.out.mono ?_);rintro e w8 ⟨rfl,hk8⟩;have HK8:=hid (HK7.out.tr hk8);have HO8:=hid (HO7.out.kept hk8);clear hk8 b2)
    go_roundw;case rel=>exact⟨k+1,_,by omega,by go_num,rfl,hid (by have:=HO8.out;rw[HZK.out];simpa using this),HK8.out⟩
    case measure=>simp[intOf];omega
   ·go_wp2_with(first|(go_at_call 25;(with_reducible refine akD.out.mono ?_);rintro e w8 ⟨rfl,hk8⟩;have HK8:=hid (HK7.out.tr hk8);have HO8:=hid (HO7.out.kept hk8);have hs8:=HK8.out.size;clear hk8 b2)|(at_builtin;refine bG rfl _ _ rfl W4.heap.size _ _ rfl (HO8.out.kept (ah _ _)) ⟨w8.heap.size,0,none⟩ (k:Int) rfl (aU rfl) (by have:=HLK.out;omega) (by simp;omega) ?_;intro v9 w9 ho9 hg9))
    have HR9:=hid (show Own w9 W4.heap.size v9 (bQ (DR H2 im A (k+1) a2)) by rw[HZK.out];exact ho9);have HK9:=hid (show ay W4 w9 from Below.grown (HK8.out.tr (ah _ _)) hg9 (by simp;omega) (fun z e=>(aN HO8.out e).1));clear ho9 hg9;go_roundw;case rel=>exact⟨k+1,_,by omega,by go_num,rfl,HR9,HK9.out⟩
    case measure=>simp[intOf];omega
  ·have hkn:k=n:=by omega
   subst hkn;have hkw:=HK4.out.tr HKR.out;have HRR:=hid (show Own wr w.heap.size u11 (bQ (DR H (jQ G H r0) A k a)) by rw[HZS.out];exact HR.out.mono HK4.out.size);have HKW:=hid hkw;clear hkw hkr hlt;go_wp2_with(fail)
   exact bodyPost_ret (v:=.tuple #[u11,.int .i64 0]) (by simp[results,Tryz.results8,go_sem]) rfl ⟨HKW.out,u11,rfl,HRR.out⟩
end
end Go.Proofs.YtoilbeadokallaaGreatDoor
