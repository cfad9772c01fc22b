/- Lemmas on the way to the row. Conditions: each lemma's own, stated with it. -/
import Derived.Test.YtoilbeadokallaaGreatDoorK07
import Derived.Test.YtoilbeadokallaaGreatDoorK15
import Derived.Test.YtoilbeadokallaaGreatDoorK20
import Derived.Test.YtoilbeadokallaaGreatDoorK27
import Derived.Test.YtoilbeadokallaaGreatDoorK28
import Derived.Test.YtoilbeadokallaaGreatDoorK40
set_option maxHeartbeats 8000000
namespace Go.Proofs.YtoilbeadokallaaGreatDoor
section
open Go.RowKit Cw Cw.Gj
theorem Zd (P M:Int) (ma:Option Addr) (ml mc:Nat) (mod:List Int) (n:Int) (va:Option Addr) (vc:Nat) (A:List (List Int)) (m:Int) (w:World) (hvm:Sl w (.slice ma ml mc) mod) (hv:Rd w (.slice va A.length vc) A):
  Calls Tryz.prog 7 #[.agg #[.int .i64 P,.int .i64 M,.slice ma ml mc,.int .i64 n,.slice va A.length vc],.int .i64 m,.int .i64 4096] w (Few P M mod n A m w):=by
 obtain⟨w1,hw1⟩:∃ w1,w1=w.alloc (.cells #[.int .i64 P,.int .i64 M,.slice ma ml mc,.int .i64 n,.slice va A.length vc] 29):=⟨_,rfl⟩
 have hk1:ay w w1:=by rw[hw1];exact ah _ _
 have bc:SX w1 w.heap.size P M (.slice ma ml mc) n (.slice va A.length vc):=by rw[hw1];exact mD _ _ _ _ _ _ _
 have gG:=hvm.kept hk1;have hv1:=hv.kept hk1;have hcm:A.length<=maxLen:=by
  obtain⟨_,_,_,h1,h2,_⟩:=hv.get;omega
 unfold maxLen at hcm;have b0:=bc.h0;have b1:=bc.h1;have b2:=bc.h2;have b3:=bc.h3;have b4:=bc.h4;go_enter Tryz.func7,Tryz.ntmps7;go_wp2_with(fail)
 rw[<-hw1];clear hw1 hvm hv
 (with_reducible refine(Lj P M ma ml mc mod n va A.length vc A w1 gG hv1).mono ?_)
 rintro e w2 ⟨r,rfl,hr,hk2⟩;have bc2:=bc.kept hk2;have hk12:=hk1.tr hk2;clear b0 b1 b2 b3 b4;have b0:=bc2.h0;have b1:=bc2.h1;have b2:=bc2.h2;have b3:=bc2.h3;have b4:=bc2.h4;by_cases hr0:r=0;case neg=>
  have tr:(r != 0)=true:=by simpa using hr0
  clear hr;go_wp2_with(fail)
  go_ret;exact⟨false,rfl,fun e=>by(cases e),hk12⟩
 have tr:(r != 0)=false:=by simpa using hr0
 have HC:=hid (hr.1 hr0);by_cases hnm:n>m
 ·clear hr hr0;go_wp2_with(fail)
  go_ret;exact⟨false,rfl,fun e=>by(cases e),hk12⟩
 have HCM:Hid (acu P M mod n A/\n<=m):=hid ⟨HC.out,by omega⟩;have ho:=fK HC.out.1.1.ck.1.1;obtain⟨q,hq⟩:∃ q,q=dw P M:=⟨_,rfl⟩
 have hqb:2<=q/\q<=256:=by
  obtain⟨G,t,h1,h2,h3⟩:=Gv HC.out.1.1.ck;have e:=aap t ⟨h1,h2,h3⟩;have:=t.qb;rw[hq,e];omega
 have HQ:Hid (dw P M=q):=hid hq.symm;have amB:=HC.out.1.1.n;have hn1:=HC.out.2;clear hr hr0 hq ho;go_wp2_with(go_at_call 22;(with_reducible refine(eF P M (.slice ma ml mc) _).mono ?_);rintro e w3 ⟨rfl,k3⟩;rw[HQ.out];have bc3:=bc2.kept k3;have d0:=bc3.h0;have d1:=bc3.h1;have d2:=bc3.h2;have d3:=bc3.h3;have d4:=bc3.h4)
 have Bj:=hk12.tr k3
 go_loop [8,25] (fun vs vi=>∃ (k:Nat) (s:Int),k<=A.length/\vi=.int .i64 k/\vs=.int .i64 s/\0<=s/\s<=4096) (fun _ vi=>A.length- (intOf vi).toNat)
 case atStart=>exact⟨0,1,by omega,rfl,rfl,by omega,by omega⟩
 case round=>
  obtain⟨k,s,hk,rfl,rfl,s1,s2⟩:=hrel;have c1:s*q<=4096*256:=Int.le_trans (zV s2 (by omega)) (zG (by omega) (by omega));have c2:0<=s*q:=yN (by omega) (by omega);by_cases hlt:k<A.length
  ·have hlt':(k:Int)< (A.length:Int):=by omega
   by_cases hbig:4096<s*q
   ·go_wp2_with(fail)
    go_ret;exact⟨false,rfl,fun e=>by(cases e),Bj⟩
   ·go_wp2_with(fail)
    go_round;case rel=>exact⟨k+1,s*q,by omega,by go_num,rfl,by omega,by omega⟩
    case measure=>simp[intOf];omega
  ·have hlt':¬ (k:Int)< (A.length:Int):=by omega
   clear c1 c2;go_wp2_with(fail)
   obtain⟨d,hd⟩:∃ d:Int,d=n-A.length:=⟨_,rfl⟩
   try rw[<-hd]
   go_loop [9,40] (fun vs vi=>∃ (j:Nat) (s:Int),((j:Int)<=n-A.length∨j=0)/\vi=.int .i64 j/\vs=.int .i64 s/\0<=s/\s<=4096) (fun _ vi=>((n-A.length)-intOf vi).toNat)
   case atStart=>exact⟨0,1,.inr rfl,rfl,rfl,by omega,by omega⟩
   case round=>
    obtain⟨j,s,hj,rfl,rfl,s1,s2⟩:=hrel;have c1:s*q<=4096*256:=Int.le_trans (zV s2 (by omega)) (zG (by omega) (by omega));have c2:0<=s*q:=yN (by omega) (by omega);by_cases hjl:(j:Int)<n-A.length
    ·by_cases hbig:4096<s*q
     ·go_wp2_with(fail)
      go_ret;exact⟨false,rfl,fun e=>by(cases e),Bj⟩
     ·go_wp2_with(fail)
      go_round;case rel=>exact⟨j+1,s*q,by omega,by go_num,rfl,by omega,by omega⟩
      case measure=>simp[intOf];omega
    ·go_wp2_with(fail)
     go_ret;exact⟨true,rfl,fun _=>HCM.out,Bj⟩
def Jy (H:GFd) (im row:List Int) (x:Int):Int:=evL H (row.map fun y=>im.getD y.toNat 0) x
def LZ (im row:List Int) (k:Nat):List Int:=(List.range row.length).map fun(j:Nat)=>if j<k then im.getD (row.getD j 0).toNat 0 else 0
theorem Ze (im row:List Int) (k:Nat):(LZ im row k).length=row.length:=by simp[LZ]
theorem Vu (im row:List Int):LZ im row 0=List.replicate row.length 0:=by
 refine zM (by simp[LZ]) fun j h1 h2=>?_;simp[LZ]
theorem Vw (im row:List Int):LZ im row row.length=row.map fun y=>im.getD y.toNat 0:=by
 refine zM (by simp[LZ]) fun j h1 h2=>?_;have:j<row.length:=by simpa[LZ] using h1
 simp[LZ,this,List.getD]
theorem Zf {im row:List Int} {k:Nat}:(LZ im row k).set k (im.getD (row.getD k 0).toNat 0)=LZ im row (k+1):=by
 refine zM (by simp[LZ]) fun j h1 h2=>?_;rw[xO];by_cases e:k=j
 ·subst e;simp[LZ]
 ·have:(j<k)=(j<k+1):=by rw[eq_iff_iff];omega
  simp[LZ,e,this]
theorem Vx (b:Nat) (H:GFd) (s:aK H) (vi vr:Value) (im row:List Int) (x:Int) (w:World) (hg:dW w b H) (hi:Sl w vi im) (hr:Sl w vr row) (hb:∀ j,j<row.length->0<=row.getD j 0/\row.getD j 0<im.length) (hl:row.length<=1000):
  Calls Tryz.prog 27 #[.pointer (some ⟨b,0,none⟩),vi,vr,.int .i64 x] w fun e w'=>e=.returned (.int .i64 (Jy H im row x))/\ay w w':=by
 have HI:=hid hi;obtain⟨a,cap,rfl,hcap,⟨hcm,_⟩,hc⟩:=hr;obtain⟨ai,ci,rfl,aiV,⟨amC,_⟩,hci⟩:=hi;unfold maxLen at hcm amC;have HC:=hid hc;have HCI:=hid hci;have HB:=hid hb;obtain⟨L,hL⟩:∃ L,L=row.length:=⟨_,rfl⟩
 obtain⟨I,hI⟩:∃ I,I=im.length:=⟨_,rfl⟩
 have HGF:=hid hg;rw[<-hL] at hcap hl ⊢;rw[<-hI] at aiV ⊢;have HLL:=hid hL;have HII:=hid hI;clear hc hci hb hL hI hg;go_enter Tryz.func27,Tryz.ntmps27;go_wp2_with(at_make;refine aJ rfl _ _ rfl L _ _ rfl rfl rfl rfl (by omega) ?_;intro w1 ho1 hk1)
 obtain⟨g,hgx⟩:∃ g,g=w.heap.size:=⟨_,rfl⟩
 rw[<-hgx] at ho1 ⊢;have HX:=hid hgx;have HO1:=hid ho1;have HK1:=hid hk1;clear ho1 hk1 hgx
 go_loopw [17] (fun vi wr=>∃ k:Nat,k<=L/\vi=.int .i64 k/\Own wr g (.slice (some ⟨g,0,none⟩) L L) (LZ im row k)/\ay w wr) (fun vi _=>L- (intOf vi).toNat)
 case atStart=>exact⟨0,by omega,rfl,by rw[Vu,<-HLL.out];exact HO1.out,HK1.out⟩
 case round=>
  obtain⟨k,hk,rfl,ho,hkr⟩:=hrel;by_cases hlt:k<L
  ·have hlt':(k:Int)< (L:Int):=by omega
   have hk0:(0:Int)<=(k:Int):=by omega
   obtain⟨bb,off,rfl,hbb,hcell⟩:=HC.out (fun e=>by have:=HLL.out;rw[e] at this;simp at this;omega);have hck:=(hkr.cell' hbb).trans (hcell k (by rw[<-HLL.out];exact hlt));obtain⟨z,hz⟩:∃ z,z=row.getD k 0:=⟨_,rfl⟩
   have hzb:=HB.out k (by rw[<-HLL.out];exact hlt);rw[<-hz] at hck hzb;rw[<-HII.out] at hzb;obtain⟨z0,z1⟩:=hzb;obtain⟨bi,oi,rfl,hbi,aaO⟩:=HCI.out (fun e=>by have:=HII.out;rw[e] at this;simp at this;omega);have hci:=(hkr.cell' hbi).trans (aaO z.toNat (by rw[<-HII.out];omega));obtain⟨y,hy⟩:∃ y,y=im.getD z.toNat 0:=⟨_,rfl⟩
   rw[<-hy] at hci;have HY:Hid (im.getD (row.getD k 0).toNat 0=y):=hid (by rw[<-hz,hy]);have hcg:=ho.cell (i:=k) (by rw[Ze,<-HLL.out];exact hlt);have hfg:=ho.frozen k;have hlg:=ho.lt.2;have HO:=hid ho;have HKR:=hid hkr;clear hcell aaO hz hy ho hkr;go_wp2_with(fail)
   go_roundw;case rel=>exact⟨k+1,by omega,by go_num,by rw[<-Zf,HY.out];exact HO.out.set k y,aA _ HKR.out (xK HX.out.symm)⟩
   case measure=>simp[intOf];omega
  ·have hkn:k=L:=by omega
   subst hkn;have HE:=hid (show Own wr g (.slice (some ⟨g,0,none⟩) k k) (row.map fun y=>im.getD y.toNat 0) by rw[<-Vw,<-HLL.out];exact ho);have HKR:=hid hkr;clear ho hkr hlt;obtain⟨pl,hpl⟩:∃ pl,pl=(row.map fun y=>im.getD y.toNat 0):=⟨_,rfl⟩
   rw[<-hpl] at HE;have HV:Hid (Jy H im row x=evL H pl x):=hid (by rw[hpl];rfl);clear hpl;go_wp2_with(go_at_call 60;(with_reducible refine(Vq b H s _ pl x _ (HGF.out.kept HKR.out) HE.out.sl).mono ?_);rintro e w' ⟨rfl,m,rfl⟩)
   go_ret;exact⟨aW (by rw[HV.out]),HKR.out.drewN m⟩
theorem P8 (b:Nat) (H:GFd) (s:aK H) (pg pi px:Nat) (vi vr:Value) (im row:List Int) (x:Int) (w:World) (hg:dW w b H) (hi:Sl w vi im) (hr:Sl w vr row) (hb:∀ j,j<row.length->0<=row.getD j 0/\row.getD j 0<im.length) (hl:row.length<=1000)
  (c1:w.cell? ⟨pg,0,none⟩=some (.pointer (some ⟨b,0,none⟩))) (c2:w.cell? ⟨pi,0,none⟩=some vi) (c3:w.cell? ⟨px,0,none⟩=some (.int .i64 x)):
  Calls Tryz.prog 26 #[vr,.pointer (some ⟨pg,0,none⟩),.pointer (some ⟨pi,0,none⟩),.pointer (some ⟨px,0,none⟩)] w fun e w'=>e=.returned (.bool (Jy H im row x != 0))/\ay w w':=by
 have HV:=hid (Vx b H s vi vr im row x w hg hi hr hb hl);obtain⟨y,hy⟩:∃ y,y=Jy H im row x:=⟨_,rfl⟩
 rw[<-hy] at HV ⊢;clear hg hi hr hb hl hy;go_enter Tryz.func26,Tryz.ntmps26;go_wp2_with(go_at_call 27;(with_reducible refine HV.out.mono ?_);rintro e w' ⟨rfl,hk⟩)
 go_ret;exact⟨rfl,hk⟩
structure ZeM (w:World) (b:Nat) (H:GFd) (pg pi px:Nat) (vi:Value) (im:List Int) (x:Int) (v:Value) (A:List (List Int)) (n:Nat):Prop where
 g:dW w b H
 i:Sl w vi im
 c1:w.cell? ⟨pg,0,none⟩=some (.pointer (some ⟨b,0,none⟩))
 c2:w.cell? ⟨pi,0,none⟩=some vi
 c3:w.cell? ⟨px,0,none⟩=some (.int .i64 x)
 r:Rd w v A
 l:pg<w.heap.size/\pi<w.heap.size/\px<w.heap.size
theorem ZeM.kept {w w':World} {b:Nat} {H:GFd} {pg pi px:Nat} {vi:Value} {im:List Int} {x:Int} {v:Value} {A:List (List Int)} {n:Nat} (h:ZeM w b H pg pi px vi im x v A n) (k:ay w w'):ZeM w' b H pg pi px vi im x v A n:=
 ⟨h.g.kept k,h.i.kept k,(ay.cell' k h.l.1).trans h.c1,(ay.cell' k h.l.2.1).trans h.c2,(ay.cell' k h.l.2.2).trans h.c3,h.r.kept k,⟨k.lt h.l.1,k.lt h.l.2.1,k.lt h.l.2.2⟩⟩
theorem Zg (b:Nat) (H:GFd) (s:aK H) (pg pi px:Nat) (vi:Value) (im:List Int) (x:Int) (v:Value) (A:List (List Int)) (n:Nat) (w:World) (h:ZeM w b H pg pi px vi im x v A n)
  (hb:∀ i,i<A.length->(Gj.row A i).length=n/\∀ j,j<n->0<=en A i j/\en A i j<im.length) (hn:n<=1000):
  Calls Tryz.prog 59 #[v,.func (.func 26) #[] #[.pointer (some ⟨pg,0,none⟩),.pointer (some ⟨pi,0,none⟩),.pointer (some ⟨px,0,none⟩)]] w fun e w'=>∃ k:Int,e=.returned (.int .i64 k)/\(decide (0<=k)=!(A.all fun r=>Jy H im r x==0))/\ay w w':=by
 obtain⟨a,cap,rfl,hcap,hcm,hb0⟩:=h.r.get;unfold maxLen at hcm;have HZ:=hid h;have HB:=hid hb;clear h hb;go_enter Tryz.func59,Tryz.ntmps59;go_wp2_with(fail)
 go_loopw [8] (fun vi wr=>∃ j:Nat,j<=A.length/\vi=.int .i64 j/\Hid (∀ i,i<j->Jy H im (Gj.row A i) x=0)/\ay w wr) (fun vi _=>A.length- (intOf vi).toNat)
 case atStart=>exact⟨0,by omega,rfl,hid fun i hi=>by omega,ay.rfl' _⟩
 case round=>
  obtain⟨j,hj,rfl,hlow,hkr⟩:=hrel;have hz:=HZ.out.kept hkr;by_cases hlt:j<A.length
  ·have hlt':(j:Int)< (A.length:Int):=by omega
   obtain⟨bb,off,rfl,hbb⟩:=hb0 (by intro e;rw[e] at hlt;simp at hlt);obtain⟨u,u1,u2⟩:=hz.r.cellAt hlt;obtain⟨l1,l2⟩:=HB.out j hlt;have HV:=hid (P8 b H s pg pi px vi u im (Gj.row A j) x wr hz.g hz.i u2 (by rw[l1];exact l2) (by rw[l1];exact hn) hz.c1 hz.c2 hz.c3);obtain⟨y,hy⟩:∃ y,y=Jy H im (Gj.row A j) x:=⟨_,rfl⟩
   rw[<-hy] at HV;have HY:=hid hy;have HKR:=hid hkr;clear hz u2 l1 l2 hy hkr;by_cases e:y=0
   ·have ty:(y != 0)=false:=by simpa using e
    rw[ty] at HV;have HE:=hid e;clear e ty;go_wp2_with(fail)
    refine HV.out.mono ?_;rintro e w' ⟨rfl,hk'⟩;go_wp2_with(fail)
    go_roundw;case rel=>exact⟨j+1,by omega,by go_num,hid fun i hi=>by
     by_cases e:i=j
     ·rw[e,<-HY.out];exact HE.out
     ·exact hlow.out i (by omega),HKR.out.tr hk'⟩
    case measure=>simp[intOf];omega
   ·have ty:(y != 0)=true:=by simpa using e
    rw[ty] at HV;have HF:Hid ((A.all fun r=>Jy H im r x==0)=false):=hid (by
     rw[List.all_eq_false];refine⟨A[j],zF hlt, ?_⟩;have:Gj.row A j=A[j]:=by unfold Gj.row;simp[List.getD,hlt]
     rw[<-this,<-HY.out];simpa using e)
    clear e ty;go_wp2_with(fail)
    refine HV.out.mono ?_;rintro e w' ⟨rfl,hk'⟩;go_wp2_with(fail)
    go_ret;exact⟨j,rfl,by rw[HF.out];simp,HKR.out.tr hk'⟩
  ·have hlt':¬ (j:Int)< (A.length:Int):=by omega
   have HF:Hid ((A.all fun r=>Jy H im r x==0)=true):=hid (by
    rw[sZ];intro r hr;obtain⟨i,hi,rfl⟩:=yR hr;have:Gj.row A i=A[i]:=by unfold Gj.row;simp[List.getD,hi]
    rw[<-this,hlow.out i (by omega)];rfl)
   have HKR:=hid hkr;clear hkr hz;go_wp2_with(fail)
   go_ret;exact⟨-1,rfl,by rw[HF.out];rfl,HKR.out⟩
theorem Zh (b:Nat) (H:GFd) (s:aK H) (pg pi px:Nat) (vi:Value) (im:List Int) (x:Int) (v:Value) (A:List (List Int)) (n:Nat) (w:World) (h:ZeM w b H pg pi px vi im x v A n)
  (hb:∀ i,i<A.length->(Gj.row A i).length=n/\∀ j,j<n->0<=en A i j/\en A i j<im.length) (hn:n<=1000):
  Calls Tryz.prog 25 #[v,.func (.func 26) #[] #[.pointer (some ⟨pg,0,none⟩),.pointer (some ⟨pi,0,none⟩),.pointer (some ⟨px,0,none⟩)]] w fun e w'=>e=.returned (.bool (!(A.all fun r=>Jy H im r x==0)))/\ay w w':=by
 have HI:=hid (Zg b H s pg pi px vi im x v A n w h hb hn);obtain⟨r,hr⟩:∃ r,r=!(A.all fun r=>Jy H im r x==0):=⟨_,rfl⟩
 rw[<-hr] at HI ⊢;clear h hb hr;go_enter Tryz.func25,Tryz.ntmps25;go_wp2_with(go_at_call 59;refine HI.out.mono ?_;rintro e w' ⟨k,rfl,hkr,hk⟩)
 go_ret;exact⟨by rfl,hk⟩
structure adN (P M:Int) (mod:List Int) (H G:GFd) (r0:Int):Prop where
 tG:aK G
 dG:G.P=P/\G.M=M/\G.mod=mod
 hP:G.P=H.P
 rt:(G.M=1/\r0=0)∨(1<G.M/\∃ l,rtL H (G.mod++ [1]) (upTo H.q.toNat)=r0::l)
 dv:1<=G.M/\G.M<=H.M/\H.M%G.M=0
def amD (P M:Int) (mod:List Int) (H:GFd) (w:World) (e:Ending) (w':World):Prop:=
 ay w w'/\(((¬ ∃ G r0,adN P M mod H G r0)/\∃ err:Int,err≠0/\e=.returned (.tuple #[.slice none 0 0,.int .i64 err]))∨
  ∃ G r0 gi,adN P M mod H G r0/\e=.returned (.tuple #[.slice (some ⟨gi,0,none⟩) G.q.toNat G.q.toNat,.int .i64 0])/\Own w' w.heap.size (.slice (some ⟨gi,0,none⟩) G.q.toNat G.q.toNat) (jQ G H r0))
def JL (G H:GFd) (r:Int) (k:Nat):List Int:=(List.range G.q.toNat).map fun(x:Nat)=>if x<k then Ei H (bY G.P x G.M.toNat) (lD H r (G.M.toNat-1)) G.M.toNat else 0
theorem Og (G H:GFd) (r:Int) (k:Nat):(JL G H r k).length=G.q.toNat:=by simp[JL]
theorem Jz (G H:GFd) (r:Int):JL G H r 0=List.replicate G.q.toNat 0:=by
 refine zM (by simp[JL]) fun j h1 h2=>?_;simp[JL]
theorem JA (G H:GFd) (r:Int):JL G H r G.q.toNat=jQ G H r:=by
 refine zM (by simp[JL,jQ]) fun j h1 h2=>?_;have:j<G.q.toNat:=by simpa[JL] using h1
 simp only[JL,jQ,su,List.getElem_range];rw[zu this]
theorem Oh {G H:GFd} {r:Int} {k:Nat}:(JL G H r k).set k (Ei H (bY G.P (k:Int) G.M.toNat) (lD H r (G.M.toNat-1)) G.M.toNat)=JL G H r (k+1):=by
 refine zM (by simp[JL]) fun j h1 h2=>?_;rw[xO];by_cases e:k=j
 ·subst e;simp[JL]
 ·have:(j<k)=(j<k+1):=by rw[eq_iff_iff];omega
  simp[JL,e,this]
theorem Vy {a b c:World} {g:Nat} {x:Option Nat} (h:a.grownBy b (some g)) (k:b.grownBy c x) (hx:∀ j,x=some j->a.heap.size<=j∨g=j):a.grownBy c (some g):=World.grownBy.andThen h k fun j e=>(hx j e).imp id fun e=>by rw[e]
theorem G9 {W:World} {a:Addr} {v:Value} (h:W.cell? a=some v):a.block<W.heap.size:=by
 obtain⟨o,ho,_⟩:=cells_of_cell h;exact(zL.1 ho).1
theorem aiW {H:GFd} (s:aK H) (l:List Int):s.pl (l++ [1])≠0:=fun e=>by
 have:=congrArg (fun p=>p.a l.length) e;have h1:(s.pl (l++ [1])).a l.length=1:=by
  have h3:(l++ [1]).getD l.length 0=1:=by simp[List.getD]
  rw[s.OE,h3,s.iH]
 have h2:(s.pl (l++ [1])).a l.length=0:=this;rw[h1] at h2;exact Fd.dO h2
set_option maxRecDepth 100000 in
theorem VA (b:Nat) (H:GFd) (s:aK H) (P M:Int) (vm:Value) (mod:List Int) (w:World) (hg:dW w b H) (hvm:Sl w vm mod):
  Calls Tryz.prog 48 #[.agg #[.int .i64 P,.int .i64 M,vm],.pointer (some ⟨b,0,none⟩)] w (amD P M mod H w):=by
 obtain⟨W1,hW1⟩:∃ x,x=w.alloc (.cells #[.int .i64 P,.int .i64 M,vm] 24):=⟨_,rfl⟩
 have hk1:ay w W1:=by rw[hW1];exact ah _ _
 have bx:nJ W1 w.heap.size P M vm:=by rw[hW1];exact aS _ _ _ _ _
 have b0:=bx.h0;have b1:=bx.h1;have b2:=bx.h2;have HV1:=hid (hvm.kept hk1);have HG1:=hid (hg.kept hk1);have HK1:=hid hk1;clear hvm hg hk1;by_cases hf:fD P M mod;case neg=>
  have HN:=hid (Bl P M vm mod W1 HV1.out hf);have HF:=hid hf;clear hf;go_enter Tryz.func48,Tryz.ntmps48;go_wp2_with(go_at_call 47;rw[<-hW1];clear hW1;(with_reducible refine HN.out.mono ?_);rintro e w2 ⟨rfl,hk2⟩;have HK2:=hid hk2;clear hk2)
  go_ret2;refine⟨HK1.out.tr HK2.out,.inl ⟨?_,1,by decide,rfl⟩⟩;rintro⟨G,r0,h⟩;exact HF.out (by rw[<-h.dG.1,<-h.dG.2.1,<-h.dG.2.2];exact h.tG.field)
 have HN:=hid (fA P M vm mod W1 HV1.out hf);clear hf;go_enter Tryz.func48,Tryz.ntmps48;go_upto_region 4 with(go_at_call 47;rw[<-hW1];clear hW1;(with_reducible refine HN.out.mono ?_);rintro e w2 ⟨b2',G,rfl,hg2,tG,gP,gM,gm,hk2⟩)
 have HDG:=hid (show G.P=P/\G.M=M/\G.mod=mod from⟨gP,gM,gm⟩);have hqb:=tG.qb;obtain⟨m,hm⟩:∃ m:Nat,M=(m:Int):=⟨M.toNat,by have:=gM;omega⟩
 subst hm;have HMT:Hid (G.M=(m:Int)):=hid gM;have hm1:1<=m:=by have:=gM;omega
 have hm8:m<=8:=by have:=gM;omega
 have hq1:2<=G.q:=by omega
 have hq2:G.q<=256:=by omega
 clear gP gM gm hqb;obtain⟨Q,hQ⟩:∃ Q:Nat,G.q=(Q:Int):=⟨G.q.toNat,by omega⟩
 have hQ1:2<=Q:=by omega
 have hQ2:Q<=256:=by omega
 have HQ:=hid hQ;clear hQ hq1 hq2;have HG2:=hid (HG1.out.kept hk2);have HGG:=hid hg2;have HK2:=hid (HK1.out.tr hk2);have bx2:=bx.kept hk2;have HV2:=hid (HV1.out.kept hk2);clear b0 b1 b2;have b0:=bx2.h0;have b1:=bx2.h1;have b2:=bx2.h2;have HTP:=hid (EL b H w2 HG2.out s);obtain⟨HPp,hHP⟩:∃ x,x=H.P:=⟨_,rfl⟩
 rw[<-hHP] at HTP;have HHP:=hid hHP;clear hHP hg2 hk2;go_upto_region 5 with(go_at_call 91;(with_reducible refine HTP.out.mono ?_);rintro e w3 ⟨rfl,hk3⟩)
 have HG3:=hid (HG2.out.kept hk3);have amE:=hid (HGG.out.kept hk3);have HK3:=hid (HK2.out.tr hk3);have bx3:=bx2.kept hk3;have HV3:=hid (HV2.out.kept hk3);clear b0 b1 b2 hk3;have b0:=bx3.h0;have b1:=bx3.h1;have b2:=bx3.h2;by_cases hpp:P=HPp;case neg=>
  have tp:(P != HPp)=true:=by simpa using hpp
  have HPP:=hid hpp;clear hpp;go_wp2_with(fail)
  go_ret2;refine⟨HK3.out,.inl ⟨?_,10,by decide,rfl⟩⟩;rintro⟨G',r0,h⟩;exact HPP.out (by rw[HHP.out,<-h.hP,h.dG.1])
 have tp:(P != HPp)=false:=by simpa using hpp
 have HPP:Hid (G.P=H.P):=hid (by rw[HDG.out.1,hpp,HHP.out]);clear hpp;have HDE:=hid (I4 b H (m:Int) w3 HG3.out s);by_cases hdg:1<=(m:Int)/\(m:Int)<=H.M/\H.M%(m:Int)=0;case neg=>
  rw[yK hdg] at HDE;have amF:=hid hdg;clear hdg;go_wp2_with(go_at_call 92;(with_reducible refine HDE.out.mono ?_);rintro e w4 ⟨rfl,hk4⟩)
  go_ret2;refine⟨HK3.out.tr hk4,.inl ⟨?_,10,by decide,rfl⟩⟩;rintro⟨G',r0,h⟩;exact amF.out (by rw[<-h.dG.2.1];exact h.dv)
 rw[xG hdg] at HDE;have HDV:Hid (1<=G.M/\G.M<=H.M/\H.M%G.M=0):=hid (by rw[HMT.out];exact hdg);clear hdg;go_upto_region 7 with(go_at_call 92;(with_reducible refine HDE.out.mono ?_);rintro e w4 ⟨rfl,hk4⟩)
 have HG4:=hid (HG3.out.kept hk4);have aks:=hid (amE.out.kept hk4);have HK4:=hid (HK3.out.tr hk4);have bx4:=bx3.kept hk4;have HV4:=hid (HV3.out.kept hk4);clear b0 b1 b2 hk4;have b0:=bx4.h0;have b1:=bx4.h1;have b2:=bx4.h2;obtain⟨p0,hp0⟩:∃ x,x=w4.heap.size:=⟨_,rfl⟩
 obtain⟨W5,hW5⟩:∃ x,x=w4.alloc (.cells #[.int .i64 1] 3):=⟨_,rfl⟩
 have ho5:Own W5 p0 (.slice (some ⟨p0,0,none⟩) 1 1) [1]:=by rw[hW5,hp0];exact Vo (zy _)
 have hk5:ay w4 W5:=by rw[hW5];exact ah _ _
 have HO5:=hid ho5;have HG5:=hid (HG4.out.kept hk5);have afI:=hid (aks.out.kept hk5);have HK5:=hid (HK4.out.tr hk5);have bx5:=bx4.kept hk5;have HV5:=hid (HV4.out.kept hk5);have aom:p0<W5.heap.size:=ho5.lt.2;have aon:Hid (w.heap.size<=p0):=hid (by rw[hp0];exact HK4.out.size);have hsp:w.heap.size<p0:=by rw[hp0];exact G9 bx4.h0
 have HKP:Hid (w4.heap.size<=p0):=hid (by rw[hp0];exact zy _);have akt:=hid hk5;go_upto_region 8 with(fail)
 rw[<-hW5,<-hp0];clear hW5 hp0 b0 b1 b2 ho5 hk5;have b0:=bx5.h0;have b1:=bx5.h1;have b2:=bx5.h2;by_cases hm0:m=1;case pos=>
  subst hm0;go_upto_region 16 with(fail)
  have HPW:Hid (lD H 0 (G.M.toNat-1)=[1]):=hid (by rw[HMT.out];rfl);have HED:Hid (adN P ((1:Nat):Int) mod H G 0):=hid ⟨tG,HDG.out,HPP.out,.inl ⟨HMT.out,rfl⟩,HDV.out⟩;have HVP:Hid (Sl W5 (.slice (some ⟨p0,0,none⟩) 1 1) (lD H 0 (G.M.toNat-1))):=hid (by rw[HPW.out];exact HO5.out.sl);go_wp2_with(first|(go_at_call 95;(with_reducible refine(kS b2' G _ afI.out).mono ?_);rintro e w6 ⟨rfl,n6,rfl⟩;rw[HQ.out])|(at_make;refine aJ rfl _ _ rfl Q _ _ rfl rfl rfl rfl (by omega) ?_;intro W7 ho7 hk7))
  obtain⟨g,hgx⟩:∃ x,x=W5.heap.size:=⟨_,rfl⟩
  have WB:ay W5 W7:=(aB _ n6).tr hk7;have ho7:Own W7 W5.heap.size (.slice (some ⟨W5.heap.size,0,none⟩) Q Q) (List.replicate Q 0):=ho7;rw[<-hgx] at ho7 ⊢;have HO7:=hid ho7;have HK7:=hid WB;have hgl:W5.heap.size<=g:=by rw[hgx];exact zy _
  clear ho7 hk7 WB hgx
  go_loopw [82] (fun vi wr=>∃ k:Nat,k<=Q/\vi=.int .i64 k/\Own wr g (.slice (some ⟨g,0,none⟩) Q Q) (JL G H 0 k)/\W7.grownBy wr (some g)) (fun vi _=>Q- (intOf vi).toNat)
  case atStart=>exact⟨0,by omega,rfl,by rw[Jz,HQ.out];exact HO7.out,World.grownBy.refl _ _⟩
  case round=>
   obtain⟨k,hk,rfl,ho,hgr⟩:=hrel;have HO:=hid ho;have HGR:=hid hgr;have hkr:ay W5 wr:=aH HK7.out hgr hgl HK7.out.size;have HKR:=hid hkr;clear ho hgr hkr;by_cases hlt:k<Q
   ·have hlt':(k:Int)< (Q:Int):=by omega
    have hk0:(0:Int)<=(k:Int):=by omega
    have HDI:=hid (AL b2' G (k:Int) wr (afI.out.kept HKR.out) tG 1 HMT.out);rw[bI (q:=G.q) (x:=(k:Int)) ⟨hk0,by rw[HQ.out];exact hlt'⟩] at HDI;have HLD:Hid ((bY G.P (k:Int) 1).length=1):=hid (aP _ _ _);obtain⟨dl,hdl⟩:∃ x,x=bY G.P (k:Int) 1:=⟨_,rfl⟩
    rw[<-hdl] at HDI HLD;have HDL:=hid hdl;clear hdl;obtain⟨val,hval⟩:∃ x,x=Ei H dl (lD H 0 (G.M.toNat-1)) 1:=⟨_,rfl⟩
    have aiX:Hid (Ei H (bY G.P (k:Int) G.M.toNat) (lD H 0 (G.M.toNat-1)) G.M.toNat=val):=hid (by rw[hval,HDL.out,HMT.out,yL]);have aiY:Hid (min dl.length (lD H 0 (G.M.toNat-1)).length=1):=hid (by rw[HLD.out,jG,HMT.out,yL];omega);have HDT:=hid (fun(W:World) (v1:Value) (h1:dW W b H) (h2:Sl W v1 dl) (h3:Sl W (.slice (some ⟨p0,0,none⟩) 1 1) (lD H 0 (G.M.toNat-1)))=>(show Calls Tryz.prog 96 #[.pointer (some ⟨b,0,none⟩),v1,.slice (some ⟨p0,0,none⟩) 1 1] W fun e w'=>e=.returned (.int .i64 val)/\∃ m,w'=W.drewN m by
     have:=Sr b H v1 _ dl (lD H 0 (G.M.toNat-1)) W h1 s h2 h3;rw[aiY.out,<-hval] at this;exact this))
    clear hval;go_wp2_with(first|(go_at_call 97;(with_reducible refine HDI.out.mono ?_);rintro e w8 ⟨g8,rfl,ho8,hk8⟩;have hcg:=(HO.out.kept hk8).cell (i:=k) (by rw[Og,HQ.out];omega);have hfg:=(HO.out.kept hk8).frozen k;have hlg:=(HO.out.kept hk8).lt.2)|(go_at_call 96;(with_reducible refine(HDT.out _ _ ((HG5.out.kept HKR.out).kept hk8) ho8.sl ((HVP.out.kept HKR.out).kept hk8)).mono ?_);rintro e w9 ⟨rfl,n9,rfl⟩))
    have HR:=hid (((HO.out.kept hk8).drewN n9).set k val);have HG8:=hid (aO (bJ HGR.out (hk8.tr (aB _ n9))) (aj (w8.drewN n9) g k (.int .i64 val)));clear ho8 hk8 hcg hfg hlg;go_roundw;case rel=>exact⟨k+1,by omega,by go_num,by rw[<-Oh,aiX.out];exact HR.out,HG8.out⟩
    case measure=>simp[intOf];omega
   ·have hkn:k=Q:=by omega
    subst hkn;have HE:Hid (Own wr g (.slice (some ⟨g,0,none⟩) k k) (jQ G H 0)):=hid (by rw[<-JA,HQ.out];exact HO.out);clear hlt;go_wp2_with(fail)
    go_ret2;refine⟨HK5.out.tr HKR.out,.inr ⟨G,0,g,HED.out,by rw[HQ.out];rfl, ?_⟩⟩;rw[HQ.out];exact HE.out.mono (by have:=HK5.out.size;omega)
 have hm2:1<m:=by omega
 have tm:decide (1< (m:Int))=true:=by simp;omega
 have tm2:decide (1<m)=true:=by simp;omega
 clear hm0;obtain⟨am,cm,eV,hcm,hcm2,hmc⟩:=HV5.out;subst eV;have aoo:mod.length<=8:=by
  have h1:=(tG.shape.2.2.2 (by rw[HMT.out];omega)).1;rw[HMT.out,HDG.out.2.2] at h1;omega
 have hO0:Own (W5.alloc (.cells #[] 3)) W5.heap.size (.slice (some ⟨W5.heap.size,0,none⟩) 0 0) []:=iW (zy _);have hB0:Below W5.heap.size W5 (W5.alloc (.cells #[] 3)):=(Below.refl _ _).alloc (zy _) _;have hsrc:∀ ad,am=some ad->∀ j,j<mod.length->(W5.alloc (.cells #[] 3)).cell? (ad.add j)=some (.int .i64 (mod.getD j 0)):=fun ad had j hj=>by
  obtain⟨b',off',e,hb',hc'⟩:=hmc (by intro e;rw[e] at hj;simp at hj);rw[had] at e;cases e
  rw[Addr.add_lit];exact(Below.cell hB0 (p:=⟨b',off'+j,none⟩) hb').trans (hc' j hj)
 have ae5:mod≠ []->am≠none:=fun h=>by
  obtain⟨b',off',e,_⟩:=hmc h;rw[e];simp
 have Hs:=hid hsrc;have H0:=hid hcm2.2;have H1:=hid ae5;have HPN:=hid (aiW s mod);have HO0:=hid hO0;have HB0:=hid hB0;obtain⟨R,hR⟩:∃ R,R=rtL H (mod++ [1]) (upTo H.q.toNat):=⟨_,rfl⟩
 have HRR:=hid hR;have HRP:=hid (fun(v:Value) (W:World) (h1:dW W b H) (h2:Sl W v (mod++ [1]))=>(show Calls Tryz.prog 93 #[.pointer (some ⟨b,0,none⟩),v] W fun e w'=>∃ v',e=.returned (.tuple #[v',.int .i64 0])/\Own w' W.heap.size v' R/\ay W w' by rw[hR];exact ac9 b H s v (mod++ [1]) W h1 h2 (by simp;omega) HPN.out));have bx6:=bx5.kept (ah W5 (.cells #[] 3));clear hsrc ae5 hmc hR hO0 hB0;go_upto_region 9 with(fail)
 clear b0 b1 b2;have b2:=bx6.h2;go_upto_region 10 with(first|(at_builtin;(refine gW rfl (.tmp 46) (.tmp 48) rfl W5.heap.size _ rfl HO0.out am mod.length cm mod rfl rfl H0.out H1.out Hs.out (by omega) ?_);intro gm cm1 w6 hg6 gm1 gm2 ho6;have hb6:=dI HB0.out hg6 HB0.out.size HO0.out.lt.1;clear gm1)|(at_builtin;(refine bG rfl (.tmp 49) (.tmp 50) rfl W5.heap.size _ mod rfl (ho6.kept (ah _ _)) ⟨w6.heap.size,0,none⟩ 1 rfl (aU rfl) (by omega) (by have:=hb6.size;simp;omega) ?_);intro v7 w7 ho7 hg7;have hb7:=nM (hb6.alloc hb6.size (.cells #[.int .i64 1] 3)) (by have:=hb6.size;simp;omega) (ho6.kept (ah _ _)) (zy _) hg7;have bx7:=bx5.kept hb7;have b1:=bx7.h1)|(go_at_call 93;refine(HRP.out v7 w7 (HG5.out.kept hb7) ho7.sl).mono ?_;rintro e w8 ⟨vr,rfl,hor,hkr⟩))
 have adO:=hid (show ay W5 w8 from Below.trans hb7 (hkr.mono hb7.size));have HB7:=hid hb7;have aop:=hb7.size;have HOR:=hid hor;clear hor hkr ho6 hg6 gm2 hb6 ho7 hg7 hb7;cases R with
 |nil=>
  obtain⟨ra,rc,er,_,_⟩:=HOR.out.sl.lenOf;subst er;go_wp2_with(fail)
  go_ret2;refine⟨HK5.out.tr adO.out,.inl ⟨?_,10,by decide,rfl⟩⟩;rintro⟨G',r0,h⟩;rcases h.rt with⟨h1,_⟩|⟨_,l,h1⟩
  ·rw[h.dG.2.1] at h1;omega
  ·rw[h.dG.2.2,<-HRR.out] at h1;cases h1
 |cons r0 rest=>
  rcases HOR.out.form with⟨_,e⟩|⟨gr,rc,er,aoq,adw,_⟩
  ·cases e
  subst er;obtain⟨RL,hRL⟩:∃ x,x=(r0::rest).length:=⟨_,rfl⟩
  have aor:1<=RL:=by rw[hRL];simp
  have hrc:=HOR.out.cell (i:=0) (by simp);rw[show(r0::rest).getD 0 0=r0 from rfl] at hrc;rw[<-hRL];have HRL:=hid hRL;have tr:(((RL:Nat):Int)==0)=false:=by simp;omega
  have tr0:(0:Int)< (RL:Int):=by omega
  have tr1:0<RL:=by omega
  have bx8:=bx5.kept adO.out;have HRC:=hid hrc;have amG:=hid bx8;clear b1 b2 hRL hrc bx8;have HO8:=hid (HO5.out.kept adO.out);go_upto_region 13 with(fail)
  go_loopw [13,10] (fun vi vp wr=>∃ (j g cap:Nat),j+1<=m/\vi=.int .i64 ((j+1:Nat):Int)/\vp=.slice (some ⟨g,0,none⟩) (j+1) cap/\Hid (Own wr p0 (.slice (some ⟨g,0,none⟩) (j+1) cap) (lD H r0 j))/\(g=p0∨w8.heap.size<=g)/\w8.grownBy wr (some p0)) (fun vi _ _=>m- (intOf vi).toNat)
  case atStart=>exact⟨0,p0,1,by omega,rfl,rfl,HO8,.inl rfl,World.grownBy.refl _ _⟩
  case round=>
   obtain⟨j,g0,cap,hj,rfl,rfl,HO,hgg,adP⟩:=hrel;obtain⟨wz,hwz⟩:∃ y,y=wr:=⟨_,rfl⟩
   subst hwz;have aku:ay w4 wz:=aH (akt.out.tr adO.out) adP HKP.out (zJ akt.out.size adO.out.size);have ahb:=hid aku;have amH:=hid adP;have hb1:=amG.out.h1;have hs8:w.heap.size<w8.heap.size:=G9 hb1;have b1:wz.cell? ⟨w.heap.size,1,none⟩=some (.int .i64 (m:Int)):=(aZ adP hs8 (by omega)).trans hb1;have aeG:gr<w8.heap.size:=G9 HRC.out;have hcr:wz.cell? ⟨gr,0,none⟩=some (.int .i64 r0):=(aZ adP aeG (by omega)).trans HRC.out;have aos:=adO.out.size;have aot:=adP.size;clear adP hb1 aku;by_cases hlt:j+1<m
   ·have hlt':((j:Int)+1)< (m:Int):=by omega
    have hlt2:decide (((j+1:Nat):Int)< (m:Int))=true:=by simp;omega
    have hcp:=HO.out.cell (i:=j) (by rw[jG];omega);have hj0:(0:Int)<=(j:Int):=by omega
    have wj:IntKind.i64.wrap (((j+1:Nat):Int)-1)=(j:Int):=by rw[IntWalk.i64_in _ (by omega)];omega
    have wj2:IntKind.i64.wrap ((j:Int)+1-1)=(j:Int):=by rw[IntWalk.i64_in _ (by omega)];omega
    have wj3:IntKind.i64.wrap (j:Int)=(j:Int):=IntWalk.i64_in _ (by omega);have hj1:(j:Int)< (j:Int)+1:=by omega
    obtain⟨x,hx⟩:∃ x,x=(lD H r0 j).getD j 0:=⟨_,rfl⟩
    rw[<-hx] at hcp;obtain⟨y,hy⟩:∃ y,y=bF H x r0:=⟨_,rfl⟩
    have HMU:=hid (fun(W:World) (h:ay wz W)=>(show Calls Tryz.prog 94 #[.pointer (some ⟨b,0,none⟩),.int .i64 x,.int .i64 r0] W fun e w'=>e=.returned (.int .i64 y)/\∃ m,w'=W.drewN m by rw[hy];exact mul_any b H x r0 W ((HG4.out.kept ahb.out).kept h) s));have HPX:Hid (lD H r0 (j+1)=lD H r0 j++ [y]):=hid (by rw[lD,<-hx,hy]);clear hx hy;go_upto_region 15 with(fail)
    go_region_law(first|(go_simp;go_at_call 94;(with_reducible refine(HMU.out _ (by exact aC _)).mono ?_);rintro e w9 ⟨rfl,n9,rfl⟩)|(refine oI rfl (.tmp 64) (.tmp 75) rfl p0 _ (lD H r0 j) rfl (by exact(HO.out.drewN _).kept (ah _ _)) _ y rfl (by exact aU rfl) (by rw[jG];omega) (by simp;omega) ?_;intro v9 w10 o10 Vd akv;have HGX:=hid (show w8.grownBy w10 (some p0) from Vy (bJ amH.out (by exact(aB _ _).tr (ah _ _))) Vd (fun k e=>by cases e;exact hgg.symm.imp id Eq.symm));have akw:=hid (show Own w10 p0 v9 (lD H r0 (j+1)) by rw[HPX.out];exact o10);have amI:=hid (show v9.ownBlock=some g0∨ ∃ z,v9.ownBlock=some z/\w8.heap.size<=z from akv.imp id (fun e=>⟨_,e,by simp;omega⟩));clear o10 Vd akv))
    all_goals
     rcases akw.out.form with⟨_,e⟩|⟨g1,c1,e1,_⟩
     ·have:=congrArg List.length e;rw[jG] at this;simp at this
     ·rw[jG] at e1;subst e1;have hl12:g1=p0∨w8.heap.size<=g1:=by
       rcases amI.out with e|⟨z,e,hz⟩
       ·cases e;exact hgg
       ·cases e;exact .inr hz
      have amJ:=hid hl12;clear hl12;go_wp2_with(fail)
      go_roundw;case rel=>exact⟨j+1,g1,c1,by omega,by go_num,rfl,akw,amJ.out,HGX.out⟩
      case measure=>simp[intOf];omega
   ·have hjm:j+1=m:=by omega
    have hlt2:decide (((j+1:Nat):Int)< (m:Int))=false:=by simp;omega
    have hlt3:¬ ((j:Int)+1< (m:Int)):=by omega
    have hkz:ay w wz:=HK4.out.tr ahb.out;have HKZ:=hid hkz;have akx:=hid (aks.out.kept ahb.out);have HGZ:=hid (HG4.out.kept ahb.out);have HED:Hid (adN P (m:Int) mod H G r0):=hid ⟨tG,HDG.out,HPP.out,.inr ⟨by rw[HMT.out];omega,rest,by rw[HDG.out.2.2];exact HRR.out.symm⟩,HDV.out⟩;have HVP:Hid (Sl wz (.slice (some ⟨g0,0,none⟩) (j+1) cap) (lD H r0 (G.M.toNat-1))):=hid (by rw[HMT.out,yL,show m-1=j by omega];exact HO.out.sl);clear hkz hcr aeG hs8 hgg hjm hlt;go_upto_region 16 with(fail)
    go_wp2_with(first|(go_at_call 95;(with_reducible refine(kS b2' G _ akx.out).mono ?_);rintro e w6 ⟨rfl,n6,rfl⟩;rw[HQ.out])|(at_make;refine aJ rfl _ _ rfl Q _ _ rfl rfl rfl rfl (by omega) ?_;intro W7 ho7 hk7))
    obtain⟨g,hgx⟩:∃ x,x=wz.heap.size:=⟨_,rfl⟩
    have WB:ay wz W7:=(aB _ n6).tr hk7;have ho7:Own W7 wz.heap.size (.slice (some ⟨wz.heap.size,0,none⟩) Q Q) (List.replicate Q 0):=ho7;rw[<-hgx] at ho7 ⊢;have HO7:=hid ho7;have HK7:=hid WB;have hgl:wz.heap.size<=g:=by rw[hgx];exact zy _
    clear ho7 hk7 WB hgx
    go_loopw [82] (fun vi wr=>∃ k:Nat,k<=Q/\vi=.int .i64 k/\Own wr g (.slice (some ⟨g,0,none⟩) Q Q) (JL G H r0 k)/\W7.grownBy wr (some g)) (fun vi _=>Q- (intOf vi).toNat)
    case atStart=>exact⟨0,by omega,rfl,by rw[Jz,HQ.out];exact HO7.out,World.grownBy.refl _ _⟩
    case round=>
     obtain⟨k,hk,rfl,ho,hgr⟩:=hrel;have HO:=hid ho;have HGR:=hid hgr;have hkr:ay wz wr:=aH HK7.out hgr hgl HK7.out.size;have HKR:=hid hkr;clear ho hgr hkr;by_cases hlt:k<Q
     ·have hlt':(k:Int)< (Q:Int):=by omega
      have hk0:(0:Int)<=(k:Int):=by omega
      have HDI:=hid (AL b2' G (k:Int) wr (akx.out.kept HKR.out) tG m HMT.out);rw[bI (q:=G.q) (x:=(k:Int)) ⟨hk0,by rw[HQ.out];exact hlt'⟩] at HDI;have HLD:Hid ((bY G.P (k:Int) m).length=m):=hid (aP _ _ _);obtain⟨dl,hdl⟩:∃ x,x=bY G.P (k:Int) m:=⟨_,rfl⟩
      rw[<-hdl] at HDI HLD;have HDL:=hid hdl;clear hdl;obtain⟨val,hval⟩:∃ x,x=Ei H dl (lD H r0 (G.M.toNat-1)) m:=⟨_,rfl⟩
      have aiX:Hid (Ei H (bY G.P (k:Int) G.M.toNat) (lD H r0 (G.M.toNat-1)) G.M.toNat=val):=hid (by rw[hval,HDL.out,HMT.out,yL]);have aiY:Hid (min dl.length (lD H r0 (G.M.toNat-1)).length=m):=hid (by rw[HLD.out,jG,HMT.out,yL];omega);have HDT:=hid (fun(W:World) (v1:Value) (h1:dW W b H) (h2:Sl W v1 dl) (h3:Sl W (.slice (some ⟨g0,0,none⟩) (j+1) cap) (lD H r0 (G.M.toNat-1)))=>(show Calls Tryz.prog 96 #[.pointer (some ⟨b,0,none⟩),v1,.slice (some ⟨g0,0,none⟩) (j+1) cap] W fun e w'=>e=.returned (.int .i64 val)/\∃ m,w'=W.drewN m by
       have:=Sr b H v1 _ dl (lD H r0 (G.M.toNat-1)) W h1 s h2 h3;rw[aiY.out,<-hval] at this;exact this))
      clear hval;go_wp2_with(first|(go_at_call 97;(with_reducible refine HDI.out.mono ?_);rintro e w8 ⟨g8,rfl,ho8,hk8⟩;have hcg:=(HO.out.kept hk8).cell (i:=k) (by rw[Og,HQ.out];omega);have hfg:=(HO.out.kept hk8).frozen k;have hlg:=(HO.out.kept hk8).lt.2)|(go_at_call 96;(with_reducible refine(HDT.out _ _ ((HGZ.out.kept HKR.out).kept hk8) ho8.sl ((HVP.out.kept HKR.out).kept hk8)).mono ?_);rintro e w9 ⟨rfl,n9,rfl⟩))
      have HR:=hid (((HO.out.kept hk8).drewN n9).set k val);have HG8:=hid (aO (bJ HGR.out (hk8.tr (aB _ n9))) (aj (w8.drewN n9) g k (.int .i64 val)));clear ho8 hk8 hcg hfg hlg;go_roundw;case rel=>exact⟨k+1,by omega,by go_num,by rw[<-Oh,aiX.out];exact HR.out,HG8.out⟩
      case measure=>simp[intOf];omega
     ·have hkn:k=Q:=by omega
      subst hkn;have HE:Hid (Own wr g (.slice (some ⟨g,0,none⟩) k k) (jQ G H r0)):=hid (by rw[<-JA,HQ.out];exact HO.out);clear hlt;go_wp2_with(fail)
      go_ret2;refine⟨HKZ.out.tr HKR.out,.inr ⟨G,r0,g,HED.out,by rw[HQ.out];rfl, ?_⟩⟩;rw[HQ.out];exact HE.out.mono (by have:=HKZ.out.size;omega)
def unS (bs:List Bool):Nat:=(bs.filter fun b=>!b).length
theorem Zi (n:Nat):unS (List.replicate n false)=n:=by simp[unS]
theorem L6:∀ {bs:List Bool} {j:Nat},j<bs.length->bs.getD j false=false->unS (bs.set j true)+1=unS bs
 |b::bs,0,_,h=>by
  have:b=false:=by simpa using h
  subst this;simp[unS]
 |b::bs,j+1,hj,h=>by
  have ih:=L6 (bs:=bs) (j:=j) (by simpa using hj) (by simpa using h);cases b<;>simp[unS] at ih ⊢ <;>omega
def WC (C:List (List Int)):Nat:=(C.map List.length).sum
theorem JB (C:List (List Int)) (l:List Int):WC (C++ [l])=WC C+l.length:=by simp[WC]
structure ahc (n:Nat) (C:List (List Int)):Prop where
 len:C.length<=n
 ll:∀ r,r<C.length->(Gj.row C r).length<=n
 bd:∀ r,r<C.length->∀ x∈Gj.row C r,0<=x/\x<n
 all:∀ j:Nat,j<n->∃ r,r<C.length/\(j:Int)∈Gj.row C r
 tt:WC C<=n
structure ade (n i:Nat) (C:List (List Int)) (bs:List Bool):Prop where
 bl:bs.length=n
 len:C.length<=i
 ll:∀ r,r<C.length->(Gj.row C r).length<=n
 bd:∀ r,r<C.length->∀ x∈Gj.row C r,0<=x/\x<n
 seen:∀ j:Nat,j<n->bs.getD j false=true->∃ r,r<C.length/\(j:Int)∈Gj.row C r
 low:∀ j,j<i->bs.getD j false=true
 tt:WC C+unS bs<=n
structure aga (n i j:Nat) (C:List (List Int)) (cs:List Nat) (bs:List Bool):Prop where
 jn:j<n
 bl:bs.length=n
 cl:WC C+cs.length+unS bs<=n
 cb:∀ x∈cs,x<n
 seen:∀ k:Nat,k<n->bs.getD k false=true->(∃ r,r<C.length/\(k:Int)∈Gj.row C r)∨k∈cs
 low:∀ k,k<i->bs.getD k false=true
 at_:j=i∨bs.getD i false=true
theorem P9 {n i:Nat} {C:List (List Int)} {bs:List Bool} (h:ade n i C bs) (hi:i<n):aga n i i C [] bs:=
 ⟨hi,h.bl,by have:=h.tt;simp;omega,fun x hx=>by simp at hx,fun k hk hb=>.inl (h.seen k hk hb),h.low,.inl rfl⟩
theorem DJ {bs:List Bool} {j k:Nat} (hj:j<bs.length):(bs.set j true).getD k false=if k=j then true else bs.getD k false:=by
 by_cases e:k=j
 ·subst e;rw[zu rfl];simp[List.getD,hj]
 ·rw[zx e,List.getD,List.getD,zS (Ne.symm e)]
theorem VB {n i j j':Nat} {C:List (List Int)} {cs:List Nat} {bs:List Bool} (h:aga n i j C cs bs) (h0:bs.getD j false=false) (hj':j'<n):aga n i j' C (cs++ [j]) (bs.set j true):=by
 have hj:j<bs.length:=by rw[h.bl];exact h.jn
 have hu:=L6 hj h0;refine⟨hj',by rw[zI];exact h.bl,by have:=h.cl;rw[zX,List.length_singleton];omega,fun x hx=>?_,fun k hk hb=>?_,fun k hk=>?_,.inr ?_⟩
 ·rcases yQ.1 hx with e|e
  ·exact h.cb x e
  ·rw[zH.1 e];exact h.jn
 ·rw[DJ hj] at hb;by_cases e:k=j
  ·subst e;exact .inr (by simp)
  ·rw[zx e] at hb;rcases h.seen k hk hb with q|q
   ·exact .inl q
   ·exact .inr (yH _ q)
 ·rw[DJ hj]
  split
  ·rfl
  ·exact h.low k hk
 ·rw[DJ hj]
  split
  ·rfl
  ·rcases h.at_ with e|e
   ·rename_i hne;exact absurd e.symm hne
   ·exact e
theorem BA {C:List (List Int)} {l:List Int} {r:Nat}:Gj.row (C++ [l]) r=if r<C.length then Gj.row C r else if r=C.length then l else[]:=by
 unfold Gj.row;by_cases h:r<C.length
 ·rw[zu h,List.getD,List.getD,yU h]
 ·rw[zx h];by_cases e:r=C.length
  ·rw[zu e,e];simp[List.getD]
  ·rw[zx e];have:(C++ [l]).length<=r:=by simp;omega
   simp[List.getD,zT this]
theorem VD {n i j:Nat} {C:List (List Int)} {cs:List Nat} {bs bs0:List Bool} (h:ade n i C bs0) (k:aga n i j C cs bs) (h1:bs.getD j false=true) {l:List Int} (hl:l.Perm (bQ cs)):ade n (i+1) (C++ [l]) bs:=by
 have hlen:l.length=cs.length:=by rw[hl.length_eq];simp[bQ]
 refine⟨k.bl,by have:=h.len;simp;omega,fun r hr=>?_,fun r hr x hx=>?_,fun m hm hb=>?_,fun m hm=>?_,by have:=k.cl;rw[JB,hlen];omega⟩
 ·rw[BA]
  split
  ·exact h.ll r (by assumption)
  ·split
   ·have:=k.cl;omega
   ·simp
 ·rw[BA] at hx
  split at hx
  ·exact h.bd r (by assumption) x hx
  ·split at hx
   ·have hx2:=hl.mem_iff.1 hx;unfold bQ at hx2;obtain⟨y,hy,rfl⟩:=yY.1 hx2;have:=k.cb y hy;omega
   ·simp at hx
 ·rcases k.seen m hm hb with⟨r,hr,hx⟩|q
  ·exact⟨r,by simp;omega,by rw[BA,zu hr];exact hx⟩
  ·refine⟨C.length,by simp, ?_⟩;rw[BA,zx (by omega),zu rfl];exact hl.mem_iff.2 (yY.2 ⟨m,q,rfl⟩)
 ·by_cases e:m=i
  ·subst e;rcases k.at_ with e|e
   ·rw[<-e];exact h1
   ·exact e
  ·exact k.low m (by omega)
theorem VE {n i:Nat} {C:List (List Int)} {bs:List Bool} (h:ade n i C bs) (h1:bs.getD i false=true):ade n (i+1) C bs:=
 ⟨h.bl,by have:=h.len;omega,h.ll,h.bd,h.seen,fun m hm=>by
  by_cases e:m=i
  ·rw[e];exact h1
  ·exact h.low m (by omega),h.tt⟩
theorem Zj {n:Nat} {C:List (List Int)} {bs:List Bool} (h:ade n n C bs):ahc n C:=⟨h.len,h.ll,h.bd,fun j hj=>h.seen j hj (h.low j hj),by have:=h.tt;omega⟩
def sln:Value->Nat
 | .slice _ n _=>n
 |_=>0
theorem Own.sln {w:World} {B:Nat} {v:Value} {xs:List Int} (h:Own w B v xs):sln v=xs.length:=by
 obtain⟨a,c,rfl,_,_⟩:=h.sl.lenOf;rfl
theorem wC {a b c:World} {g:Nat} {x:Option Nat} (h:a.grownBy b (some g)) (k:b.grownBy c x) (hx:∀ j,x=some j->a.heap.size<=j∨g=j):a.grownBy c (some g):=World.grownBy.andThen h k fun j e=>(hx j e).imp id fun e=>by rw[e]
theorem VF (cs:List Nat) (j:Nat):bQ (cs++ [j])=bQ cs++ [(j:Int)]:=by simp[bQ]
theorem BD (cs:List Nat):(bQ cs).length=cs.length:=by simp[bQ]
def amK (n:Nat) (w:World) (e:Ending) (w':World):Prop:=
 ay w w'/\((∃ err:Int,err≠0/\e=.returned (.tuple #[.slice none 0 0,.int .i64 err]))∨ ∃ a c C,e=.returned (.tuple #[.slice a C.length c,.int .i64 0])/\Rd w' (.slice a C.length c) C/\ahc n C)
set_option maxRecDepth 100000 in
theorem Qa (q n:Nat) (w:World) (hq:2<=q) (hq2:q<=256) (hn:1<=n) (hn2:n<=64):
  Calls Tryz.prog 100 #[.int .i64 q,.int .i64 n] w (amK n w):=by
 have HG:=hid (ND q n w (by omega) (by omega));obtain⟨g,hg⟩:∃ x,x=Nat.gcd q n:=⟨_,rfl⟩
 rw[<-hg] at HG;have i0:decide ((q:Int)<2)=false:=by simp;omega
 have j0:decide (256< (q:Int))=false:=by simp;omega
 have i1:decide ((n:Int)<1)=false:=by simp;omega
 have j1:decide (65536< (n:Int))=false:=by simp;omega
 have t1:decide (q<2)=false:=by simp;omega
 have t2:decide (256<q)=false:=by simp;omega
 have t3:decide (n<1)=false:=by simp;omega
 have t4:decide (65536<n)=false:=by simp;omega
 clear hg;by_cases h1:g=1;case neg=>
  have t5:(((g:Nat):Int) != 1)=true:=by simp;omega
  have H1:=hid h1;clear h1;go_enter Tryz.func100,Tryz.ntmps100;go_wp2_with(go_at_call 117;(with_reducible refine HG.out.mono ?_);rintro e w2 ⟨rfl,hk⟩)
  go_ret2;exact⟨hk,.inl ⟨10,by decide,rfl⟩⟩
 have t5:(((g:Nat):Int) != 1)=false:=by simp;omega
 have H1:=hid h1;clear h1;go_enter Tryz.func100,Tryz.ntmps100;go_wp2_with(first|(go_at_call 117;(with_reducible refine HG.out.mono ?_);rintro e w2 ⟨rfl,hk2⟩)|(at_make;refine iK rfl _ _ rfl n _ _ rfl rfl rfl rfl (by omega) ?_;intro W1 ho1 hk1))
 obtain⟨s,hs⟩:∃ s,s=w2.heap.size:=⟨_,rfl⟩
 rw[<-hs] at ho1 ⊢;have HS:=hid hs;have HO1:=hid ho1;have HK1:=hid (hk2.tr hk1);have HK2:=hid hk2;have hsW:s<W1.heap.size:=ho1.lt.2;clear ho1 hk1 hs hk2
 go_loopw [38,8] (fun vi vo wr=>∃ (i:Nat) (C:List (List Int)) (rv:Nat->Value) (bs:List Bool),i<=n/\vi=.int .i64 i/\lG wr s (.slice (some ⟨s,0,none⟩) n n) bs/\Hid (Mx wr W1.heap.size vo C rv)/\ade n i C bs/\W1.grownBy wr (some s)) (fun vi _ _=>n- (intOf vi).toNat)
 case atStart=>exact⟨0,[],_,_,by omega,rfl,HO1.out,hid (qR _ _),⟨by simp,by simp,fun _ h=>absurd h (yw _),fun _ h=>absurd h (yw _),fun j hj hb=>by simp[List.getD,hj] at hb,fun _ h=>absurd h (yw _),by rw[Zi];simp[WC]⟩,World.grownBy.refl _ _⟩
 case round=>
  obtain⟨i,C,rv,bs,hi,rfl,ho,HMX,hci,hgr⟩:=hrel;have HCI:=hid hci;have HGR:=hid hgr;have HO:=hid ho;have aou:=hgr.size;have hbl:=hci.bl;clear hci hgr;by_cases hlt:i<n
  ·have hlt':(i:Int)< (n:Int):=by omega
   have hi0:(0:Int)<=(i:Int):=by omega
   have hcb:=ho.cell (i:=i) (by rw[hbl];exact hlt);obtain⟨x,hx⟩:∃ x,x=bs.getD i false:=⟨_,rfl⟩
   rw[<-hx] at hcb;have HX:=hid hx.symm;clear hx ho hbl;cases x with
   |true=>
    go_wp2_with(fail)
    go_roundw;case rel=>exact⟨i+1,C,rv,bs,by omega,by go_num,HO.out,HMX,VE HCI.out HX.out,HGR.out⟩
    case measure=>simp[intOf];omega
   |false=>
    obtain⟨vo',hvo⟩:∃ y,y=u8:=⟨_,rfl⟩
    subst hvo;obtain⟨wy,hwy⟩:∃ y,y=wr:=⟨_,rfl⟩
    subst hwy;go_wp2_with(fail)
    go_loopw [12,11] (fun vj vc wx=>∃ (j:Nat) (cs:List Nat) (bs':List Bool),vj=.int .i64 j/\lG wx s (.slice (some ⟨s,0,none⟩) n n) bs'/\Hid (Own wx wy.heap.size vc (bQ cs))/\Hid (aga n i j C cs bs')/\wy.grownBy wx (some s)) (fun _ vc _=>n-sln vc)
    case atStart=>exact⟨i,[],bs,rfl,HO.out,hid (bZ _ _),hid (P9 HCI.out hlt),World.grownBy.refl _ _⟩
    case round=>
     obtain⟨j,cs,bs',rfl,ho',HOC,HCJ,aiZ⟩:=hrel;have hjn:=HCJ.out.jn;have amL:=HCJ.out.bl;have hcl':=HCJ.out.cl;have hcb':=ho'.cell (i:=j) (by rw[amL];exact hjn);obtain⟨z,hz⟩:∃ z,z=bs'.getD j false:=⟨_,rfl⟩
     rw[<-hz] at hcb';have HZ:=hid hz.symm;have hj0:(0:Int)<=(j:Int):=by omega
     have aov:(j:Int)< (n:Int):=by omega
     have hsx:s<wr.heap.size:=ho'.lt.2;have hsy:s<wy.heap.size:=by omega
     have HO':=hid ho';have ai0:=hid aiZ;have hwx:=aiZ.size;obtain⟨va,agb,ev,_,_⟩:=HOC.out.sl.lenOf;rw[BD] at ev;subst ev;have hne:(Value.slice va cs.length agb).ownBlock≠some s:=fun e=>by have:=(aN HOC.out e).1;omega
     have HNE:=hid hne;clear hz aiZ hne;cases z with
     |false=>
      have hfz:=ho'.frozen j;obtain⟨pr,hpr⟩:∃ x,x=j*q:=⟨_,rfl⟩
      have ae8:pr<=64*256:=by rw[hpr];exact uS (by omega) hq2
      have hp2:(j:Int)*(q:Int)=(pr:Int):=by rw[hpr];simp
      obtain⟨r,hr⟩:∃ x,x=pr%n:=⟨_,rfl⟩
      have hrn:r<n:=by rw[hr];exact vU _ (by omega)
      have ht:((pr:Int)).tmod (n:Int)=(r:Int):=by rw[yS (by omega),hr];simp
      have w1:IntKind.i64.wrap (pr:Int)=(pr:Int):=IntWalk.i64_in _ (by omega);have w3:IntKind.i64.wrap (r:Int)=(r:Int):=IntWalk.i64_in _ (by omega);have t0:(((n:Nat):Int)==0)=false:=by simp;omega
      have t1n:¬ ((n:Nat):Int)=0:=by omega
      have hus:=L6 (bs:=bs') (j:=j) (by omega) HZ.out;have HCN:=hid (VB (j':=r) HCJ.out HZ.out hrn);have hset:=ho'.set j true;have afN:=hid hset;have HOA:=hid (HOC.out.grownBy (aj wr s j (.bool true)) (.inr HNE.out));clear hpr hr ho' hset;go_wp2_with(at_builtin;refine bG rfl _ _ rfl wy.heap.size _ _ rfl (HOA.out.kept (ah _ _)) ⟨wr.heap.size,0,none⟩ (j:Int) rfl (aU (by simp)) (by rw[BD];omega) (by simp;omega) ?_;intro v' w' ho2 hg2)
      have hg3:=wC (bJ (aO ai0.out (aj wr s j (.bool true))) (ah _ _)) hg2 (fun y e=>.inl (aN HOA.out e).1);have HB2:=hid ((afN.out.kept (ah _ _)).append (HOA.out.kept (ah _ _)) hg2);have HO2:=hid (show Own w' wy.heap.size v' (bQ (cs++ [j])) by rw[VF];exact ho2);have HG3:=hid hg3;have hs2:=ho2.sln;clear hg3 hg2 ho2;go_roundw;case rel=>exact⟨r,cs++ [j],bs'.set j true,rfl,HB2.out,HO2,HCN,HG3.out⟩
      case measure=>rw[hs2];simp[sln,BD];omega
     |true=>
      go_upto_region 19 with(go_at_call 103;refine(Gx _ (bQ cs) wy.heap.size wr HOC.out (by rw[BD];omega)).mono ?_;rintro e w3 ⟨rfl,ho3,hx3⟩)
      have hg3:wy.grownBy w3 (some s)/\w3.heap[s]?=wr.heap[s]?:=by
       rcases hx3 with⟨rfl,_⟩|⟨y,hy,hgy⟩
       ·exact⟨ai0.out,rfl⟩
       ·refine⟨wC ai0.out hgy (fun k e=>.inl ?_),hgy.block s hsx (fun e=>?_)⟩
        ·cases e;exact(aN HOC.out hy).1
        ·exact HNE.out (hy.trans e.symm)
      have hnh:¬ Has vo' rv C.length s:=fun h=>by have:=(HMX.out.has_lt h).1;omega
      have hm3:=HMX.out.grown hg3.1 hnh;have hm4:=hm3.kept (ah w3 (.cells #[.slice va cs.length agb] 22));have HM4:=hid hm4;have HO3:=hid ho3;have HG3:=hid hg3.1;have HB3:=hid (HO'.out.of_block hg3.2);have hcl:=HCI.out.len;have hs3:=hg3.1.size;have HPM:Hid ((mW (bQ cs)).Perm (bQ cs)):=hid (vJ _ _);clear hx3 hg3 hnh hm3 hm4 ho3;go_wp2_with(at_builtin;refine dD rfl _ _ rfl W1.heap.size _ _ _ rfl HM4.out.out _ (.slice va cs.length agb) rfl (aU rfl) rfl (by omega) (by simp;omega) ?_;intro v8 w8 o8 hg8)
      have hd4:∀ x,(Value.slice va cs.length agb).ownBlock=some x->∀ k,k<C.length->(rv k).ownBlock≠some x:=fun x hx k hk e=>by
       have h1:=aN (HMX.out.row k hk) e;have h2:=aN HO3.out hx;omega
      have hk3:=ah w3 (.cells #[.slice va cs.length agb] 22);have hm8:=Mx.add HM4.out ((HO3.out.kept hk3).mono (by omega)) hd4 o8 hg8;have hgw:∀ y,vo'.ownBlock=some y->W1.heap.size<=y:=fun y e=>(World.ownsRow.lt HM4.out.out y e).1;have hg9:=wC (bJ (wC HGR.out HG3.out (fun y e=>.inr (by cases e;rfl))) hk3) hg8 (fun y e=>.inl (hgw y e));have hb8:=(HB3.out.kept hk3).of_block (hg8.block s (by simp;omega) (fun e=>by have:=hgw s e.symm;omega));have HM8:=hid hm8;have HG9:=hid hg9;have HB8:=hid hb8;clear hd4 hk3 hm8 hg9 hb8 o8 hg8 hgw;go_roundw;case rel=>exact⟨i+1,C++ [mW (bQ cs)],_,bs',by omega,by go_num,HB8.out,HM8,VD HCI.out HCJ.out HZ.out HPM.out,HG9.out⟩
      case measure=>simp[intOf];omega
  ·have hin:i=n:=by omega
   subst hin;have hmx:=HMX.out;have hkf:ay w wr:=aH HK1.out HGR.out (by rw[HS.out];exact HK2.out.size) HK1.out.size;obtain⟨a,c,rfl⟩:=hmx.lenOf;clear hmx;go_wp2_with(fail)
   go_ret2;exact⟨hkf,.inr ⟨a,c,C,rfl,HMX.out.rd,Zj HCI.out⟩⟩
theorem Zk (x:Int) (px g n:Nat) (bs:List Bool) (B:Nat) (w:World) (hp:w.cell? ⟨px,0,none⟩=some (.slice (some ⟨g,0,none⟩) n n)) (ho:lG w B (.slice (some ⟨g,0,none⟩) n n) bs) (h0:0<=x) (h1:x<n):
  Calls Tryz.prog 102 #[.int .i64 x,.pointer (some ⟨px,0,none⟩)] w fun e w'=>e=.returned (.bool (bs.getD x.toNat false))/\w=w':=by
 have hl:=ho.len;obtain⟨j,rfl⟩:=zY h0;have hcb:=ho.cell (i:=j) (by omega);rw[yL];obtain⟨z,hz⟩:∃ z,z=bs.getD j false:=⟨_,rfl⟩
 rw[<-hz] at hcb ⊢;clear ho hz hl;go_enter Tryz.func102,Tryz.ntmps102;go_wp2_with(fail)
 go_ret;exact⟨rfl,rfl⟩
def anyS (bs:List Bool) (l:List Int):Bool:=l.any fun x=>bs.getD x.toNat false
theorem agc (v:Value) (l:List Int) (px g n:Nat) (bs:List Bool) (B:Nat) (w:World) (hv:Sl w v l) (hp:w.cell? ⟨px,0,none⟩=some (.slice (some ⟨g,0,none⟩) n n)) (ho:lG w B (.slice (some ⟨g,0,none⟩) n n) bs) (hb:∀ x∈l,0<=x/\x<n):
  Calls Tryz.prog 35 #[v,.func (.func 102) #[] #[.pointer (some ⟨px,0,none⟩)]] w fun e w'=>∃ k:Int,e=.returned (.int .i64 k)/\(decide (0<=k)=anyS bs l)/\w=w':=by
 obtain⟨a,cap,rfl,hcap,⟨hcm,_⟩,hc⟩:=hv;unfold maxLen at hcm;have HO:=hid ho;have HB:=hid hb;have HP:=hid hp;have HC:=hid hc;clear ho hb hp hc;go_enter Tryz.func35,Tryz.ntmps35;go_wp2_with(fail)
 go_loop [8] (fun vi=>∃ j:Nat,j<=l.length/\vi=.int .i64 j/\Hid (∀ i,i<j->bs.getD (l.getD i 0).toNat false=false)) (fun vi=>l.length- (intOf vi).toNat)
 case atStart=>exact⟨0,by omega,rfl,hid fun i hi=>by omega⟩
 case round=>
  obtain⟨j,hj,rfl,hlow⟩:=hrel;by_cases hlt:j<l.length
  ·have hlt':(j:Int)< (l.length:Int):=by omega
   obtain⟨bl,off,rfl,hbl,hcell⟩:=HC.out (by intro e;rw[e] at hlt;simp at hlt);have hck:=hcell j hlt;obtain⟨z,hz⟩:∃ z,z=l.getD j 0:=⟨_,rfl⟩
   rw[<-hz] at hck;have hmem:z∈l:=by rw[hz];simp only[List.getD,zq hlt,zU];exact zF _
   obtain⟨z0,z1⟩:=HB.out z hmem;have HV:=hid (Zk z px g n bs B w HP.out HO.out z0 z1);obtain⟨y,hy⟩:∃ y,y=bs.getD z.toNat false:=⟨_,rfl⟩
   rw[<-hy] at HV;have HY:=hid hy;have HZ:=hid hz;have HM:=hid hmem;clear hcell hz hmem hy z0 z1;cases y with
   |false=>
    go_wp2_with(fail)
    refine HV.out.mono ?_;rintro e w' ⟨rfl,rfl⟩;go_wp2_with(fail)
    go_round;case rel=>exact⟨j+1,by omega,by go_num,hid fun i hi=>by
     by_cases e:i=j
     ·rw[e,<-HZ.out];exact HY.out.symm
     ·exact hlow.out i (by omega)⟩
    case measure=>simp[intOf];omega
   |true=>
    have HF:Hid (anyS bs l=true):=hid (rO.2 ⟨z,HM.out,HY.out.symm⟩);go_wp2_with(fail)
    refine HV.out.mono ?_;rintro e w' ⟨rfl,rfl⟩;go_wp2_with(fail)
    go_ret;exact⟨j,rfl,by rw[HF.out];simp,rfl⟩
  ·have hlt':¬ (j:Int)< (l.length:Int):=by omega
   have HF:Hid (anyS bs l=false):=hid (by
    unfold anyS;rw[List.any_eq_false];intro x hx;obtain⟨i,hi,rfl⟩:=yR hx;have:=hlow.out i (by omega);simp only[List.getD,zq hi,zU] at this;simpa[List.getD] using this)
   go_wp2_with(fail)
   go_ret;exact⟨-1,rfl,by rw[HF.out];rfl,rfl⟩
theorem agd (v:Value) (l:List Int) (px g n:Nat) (bs:List Bool) (B:Nat) (w:World) (hv:Sl w v l) (hp:w.cell? ⟨px,0,none⟩=some (.slice (some ⟨g,0,none⟩) n n)) (ho:lG w B (.slice (some ⟨g,0,none⟩) n n) bs) (hb:∀ x∈l,0<=x/\x<n):
  Calls Tryz.prog 101 #[v,.func (.func 102) #[] #[.pointer (some ⟨px,0,none⟩)]] w fun e w'=>e=.returned (.bool (anyS bs l))/\w=w':=by
 have HI:=hid (agc v l px g n bs B w hv hp ho hb);obtain⟨r,hr⟩:∃ r,r=anyS bs l:=⟨_,rfl⟩
 rw[<-hr] at HI ⊢;clear hv hp ho hb hr;go_enter Tryz.func101,Tryz.ntmps101;go_wp2_with(go_at_call 35;refine HI.out.mono ?_;rintro e w' ⟨k,rfl,hkr,rfl⟩)
 go_ret;exact⟨by rfl,rfl⟩
structure ai1 (n:Nat) (bs:List Bool) (E:List Int):Prop where
 len:E.length<=64
 bd:∀ x∈E,0<=x/\x<n
 all:∀ j:Nat,j<n->bs.getD j false=true->(j:Int)∈E
def amM (n:Nat) (bs:List Bool) (w:World) (e:Ending) (w':World):Prop:=
 ay w w'/\((∃ err:Int,err≠0/\e=.returned (.tuple #[.slice none 0 0,.int .i64 err]))∨ ∃ v E,e=.returned (.tuple #[v,.int .i64 0])/\Sl w' v E/\ai1 n bs E)
structure adQ (n k:Nat) (bs:List Bool) (C:List (List Int)) (E:List Int):Prop where
 len:E.length<=k*64
 bd:∀ x∈E,0<=x/\x<n
 all:∀ r,r<k->∀ x∈Gj.row C r,(∃ y∈Gj.row C r,bs.getD y.toNat false=true)->x∈E
 tt:E.length<=WC (C.take k)
theorem JC {C:List (List Int)} {k:Nat} (h:k<C.length):WC (C.take (k+1))=WC (C.take k)+(Gj.row C k).length:=by
 rw[yV h,JB];have:Gj.row C k=C[k]:=by unfold Gj.row;simp[List.getD,h]
 rw[this]
theorem Zl {n k:Nat} {bs:List Bool} {C:List (List Int)} {E:List Int} (h:adQ n k bs C E) (hC:ahc n C) (hk:k<C.length) (hn:n<=64):adQ n (k+1) bs C (E++Gj.row C k):=
 ⟨by have:=h.len;have:=hC.ll k hk;rw[zX];omega,fun x hx=>by
  rcases yQ.1 hx with e|e
  ·exact h.bd x e
  ·exact hC.bd k hk x e,fun r hr x hx hy=>by
  by_cases e:r=k
  ·subst e;exact wK _ hx
  ·exact yH _ (h.all r (by omega) x hx hy),by have:=h.tt;rw[JC hk,zX];omega⟩
theorem adf {n k:Nat} {bs:List Bool} {C:List (List Int)} {E:List Int} (h:adQ n k bs C E) (hk:k<C.length) (h0:anyS bs (Gj.row C k)=false):adQ n (k+1) bs C E:=
 ⟨by have:=h.len;omega,h.bd,fun r hr x hx hy=>by
  by_cases e:r=k
  ·subst e;obtain⟨y,hy1,hy2⟩:=hy;unfold anyS at h0;rw[List.any_eq_false] at h0;exact absurd hy2 (h0 y hy1)
  ·exact h.all r (by omega) x hx hy,by have:=h.tt;rw[JC hk];omega⟩
theorem Zm {n:Nat} {bs:List Bool} {C:List (List Int)} {E E':List Int} (h:adQ n C.length bs C E) (hC:ahc n C) (hn:n<=64) (hp:E'.Perm E):ai1 n bs E':=
 ⟨by have h1:=h.tt;have h2:=hC.tt;rw[wu] at h1;rw[hp.length_eq];omega,fun x hx=>h.bd x (hp.mem_iff.1 hx),fun j hj hb=>by
  obtain⟨r,hr,hx⟩:=hC.all j hj;exact hp.mem_iff.2 (h.all r hr _ hx ⟨(j:Int),hx,by rw[yL];exact hb⟩)⟩
set_option maxRecDepth 100000 in
theorem L8 (q n:Nat) (v:Value) (l:List Int) (w:World) (hv:Sl w v l) (hq:2<=q) (hq2:q<=256) (hn:1<=n) (hn2:n<=64):
  Calls Tryz.prog 50 #[.int .i64 q,.int .i64 n,v] w (amM n (fJ n l) w):=by
 have HCO:=hid (Qa q n w hq hq2 hn hn2);have HV:=hid hv;have i0:decide ((q:Int)<2)=false:=by simp;omega
 have j0:decide (256< (q:Int))=false:=by simp;omega
 have i1:decide ((n:Int)<1)=false:=by simp;omega
 have j1:decide (64< (n:Int))=false:=by simp;omega
 have t1:decide (q<2)=false:=by simp;omega
 have t2:decide (256<q)=false:=by simp;omega
 have t3:decide (n<1)=false:=by simp;omega
 have t4:decide (64<n)=false:=by simp;omega
 clear hv;go_enter Tryz.func50,Tryz.ntmps50;go_upto_region 6 with(go_at_call 100;(with_reducible refine HCO.out.mono ?_);rintro e w2 ⟨hk2,hx⟩;have HK2:=hid hk2;clear hk2;rcases hx with⟨err,h0,rfl⟩|⟨ca,cc,C,rfl,hrd,hcp⟩)
 ·have te:(err != 0)=true:=by simpa using h0
  have H0:=hid h0;clear h0;go_wp2_with(fail)
  go_ret2;exact⟨HK2.out,.inl ⟨err,H0.out,rfl⟩⟩
 ·have HCP:=hid hcp;have HME:=hid (CV n v l w2 (HV.out.kept HK2.out) hn hn2);have HRD:=hid hrd;obtain⟨L,hL⟩:∃ L,L=C.length:=⟨_,rfl⟩
  obtain⟨a,cap,e1,hcap,hcm,hb0⟩:=hrd.get;unfold maxLen at hcm;have amN:C.length<=64:=by have:=hcp.len;omega
  cases e1
  rw[<-hL] at HRD hcap amN ⊢;have HLL:=hid hL;have HB0:=hid hb0;clear hcp hrd hL hb0;go_upto_region 9 with(go_at_call 61;(with_reducible refine HME.out.mono ?_);rintro e w3 ⟨g,rfl,ho3,hk3⟩;have HO3:=hid ho3;have HK3:=hid (HK2.out.tr hk3);have amO:=hid (HRD.out.kept hk3);clear ho3 hk3)
  obtain⟨px,hpx⟩:∃ x,x=w3.heap.size:=⟨_,rfl⟩
  obtain⟨W4,hW4⟩:∃ x,x=w3.alloc (.cells #[.slice (some ⟨g,0,none⟩) n n] 112):=⟨_,rfl⟩
  rw[<-hW4,<-hpx];have hk4:ay w3 W4:=by rw[hW4];exact ah _ _
  have hc4:W4.cell? ⟨px,0,none⟩=some (.slice (some ⟨g,0,none⟩) n n):=by rw[hW4];exact aU hpx.symm
  have hpl:px<W4.heap.size:=by rw[hW4,hpx];simp
  have HO4:=hid (HO3.out.kept hk4);have HK4:=hid (HK3.out.tr hk4);have amP:=hid (amO.out.kept hk4);have HC4:=hid hc4;clear hW4 hpx hk4 hc4;go_wp2_with(fail)
  go_loopw [42,11] (fun vi vo wr=>∃ (k:Nat) (E:List Int),k<=L/\vi=.int .i64 k/\Hid (Own wr W4.heap.size vo E)/\Hid (adQ n k (fJ n l) C E)/\ay W4 wr) (fun vi _ _=>L- (intOf vi).toNat)
  case atStart=>exact⟨0,[],by omega,rfl,hid (bZ _ _),hid ⟨by simp,fun x hx=>by simp at hx,fun r hr=>absurd hr (yw _),by simp⟩,ay.rfl' _⟩
  case round=>
   obtain⟨k,E,hk,rfl,HO,HI,hkr⟩:=hrel;have hrd:=amP.out.kept hkr;have hpc:=(ay.cell' hkr hpl).trans HC4.out;have hob:=HO4.out.kept hkr;have hEl:=HI.out.len;have HKR:=hid hkr;have aow:=hkr.size;clear hkr;by_cases hlt:k<L
   ·have hlt':(k:Int)< (L:Int):=by omega
    have hkC:k<C.length:=by rw[<-HLL.out];exact hlt
    obtain⟨bb,off,rfl,hbb⟩:=HB0.out (by intro e;rw[e] at hkC;simp at hkC);obtain⟨u,u1,u2⟩:=hrd.cellAt hkC;obtain⟨ua,uc,rfl,hu1,hu2⟩:=u2.lenOf;have HCF:=hid (agd _ (Gj.row C k) px g n (fJ n l) _ wr u2 hpc hob (HCP.out.bd k hkC));obtain⟨r,hr⟩:∃ r,r=anyS (fJ n l) (Gj.row C k):=⟨_,rfl⟩
    rw[<-hr] at HCF;have HR:=hid hr;have hrl:=HCP.out.ll k hkC;have HU:=hid u2;obtain⟨R,hRR⟩:∃ R,R=(Gj.row C k).length:=⟨_,rfl⟩
    rw[<-hRR] at HCF hrl HU u1;have HRR:=hid hRR;clear hrd hpc hob u2 hr hRR;cases r with
    |false=>
     go_wp2_with(go_at_call 101;refine HCF.out.mono ?_;rintro e w6 ⟨rfl,rfl⟩)
     go_roundw;case rel=>exact⟨k+1,E,by omega,by go_num,HO,hid (adf HI.out (by rw[<-HLL.out];exact hlt) HR.out.symm),HKR.out⟩
     case measure=>simp[intOf];omega
    |true=>
     obtain⟨_,_,e2,_,⟨_,hc0⟩,hcell⟩:=HU.out;cases e2
     have HC0:=hid hc0;have hys:Gj.row C k≠ []->ua≠none:=fun h=>by
      obtain⟨b',off',e,_⟩:=hcell h;rw[e];simp
     have hcs:∀ ad,ua=some ad->∀ j,j< (Gj.row C k).length->wr.cell? (ad.add j)=some (.int .i64 ((Gj.row C k).getD j 0)):=fun ad had j hj=>by
      obtain⟨b',off',e,hb',hc'⟩:=hcell (by intro e;rw[e] at hj;simp at hj);rw[had] at e;cases e
      rw[Addr.add_lit];exact hc' j hj
     have HYS:=hid hys;have HCS:=hid hcs;clear hc0 hcell hys hcs;go_wp2_with(first|(go_at_call 101;refine HCF.out.mono ?_;rintro e w6 ⟨rfl,rfl⟩)|(at_builtin;refine iD rfl _ _ rfl W4.heap.size _ E rfl HO.out ua _ uc (Gj.row C k) rfl rfl HC0.out HYS.out HCS.out (by omega) (by omega) ?_;intro v7 w7 ho7 hg7 _))
     have hk7:ay W4 w7:=Below.grown HKR.out hg7 HKR.out.size (fun y e=>(aN HO.out e).1);have HO7:=hid ho7;have HK7:=hid hk7;clear ho7 hg7 hk7;go_roundw;case rel=>exact⟨k+1,E++Gj.row C k,by omega,by go_num,HO7,hid (Zl HI.out HCP.out (by rw[<-HLL.out];exact hlt) hn2),HK7.out⟩
     case measure=>simp[intOf];omega
   ·have hkn:k=L:=by omega
    subst hkn;clear hrd hpc hob hlt;go_upto_region 17 with(go_at_call 103;refine(Gx _ E W4.heap.size wr HO.out (by omega)).mono ?_;rintro e w8 ⟨rfl,ho8,hx8⟩)
    have hk8:ay W4 w8:=by
     rcases hx8 with⟨rfl,_⟩|⟨y,hy,hgy⟩
     ·exact HKR.out
     ·exact Below.grown HKR.out hgy HKR.out.size (fun z e=>by cases e;exact(aN HO.out hy).1)
    have HO8:=hid ho8;have HK8:=hid hk8;clear ho8 hx8 hk8;go_wp2_with(fail)
    go_ret2;exact⟨HK4.out.tr HK8.out,.inr ⟨_,_,rfl,HO8.out.sl,Zm (by rw[<-HLL.out];exact HI.out) HCP.out hn2 (vJ _ _)⟩⟩
end
end Go.Proofs.YtoilbeadokallaaGreatDoor
