/- Lemmas on the way to the row. Conditions: each lemma's own, stated with it. -/
import Derived.Test.YtoilbeadokallaaGreatDoorK08
import Derived.Test.YtoilbeadokallaaGreatDoorK13
import Derived.Test.YtoilbeadokallaaGreatDoorK14
import Derived.Test.YtoilbeadokallaaGreatDoorK17
import Derived.Deep.RegionHeld3
set_option maxHeartbeats 4000000
namespace Go.Proofs.YtoilbeadokallaaGreatDoor
section
open Go.RowKit Cw Cw.Gj
structure aft (P M:Int) (mod:List Int) (cols:Int) (A:List (List Int)):Prop where
 ck:qL P M mod
 lo:0<=cols
 hi:cols<=256
 n:(A.length:Int)<=256
 len:∀ i,i<A.length->((Gj.row A i).length:Int)=cols
 bd:∀ i,i<A.length->∀ j,j< (Gj.row A i).length->0<=(Gj.row A i).getD j 0/\(Gj.row A i).getD j 0<dw P M
def ajU (P M:Int) (mod:List Int) (cols:Int) (A:List (List Int)) (w:World) (e:Ending) (w':World):Prop:=∃ r:Int,e=.returned (.int .i64 r)/\(r=0↔aft P M mod cols A)/\ay w w'
theorem zo {P M:Int} {mod:List Int} {cols:Int} {A:List (List Int)} {w w':World} {r:Int} (hr:r≠0) (h:¬ aft P M mod cols A) (k:ay w w'):ajU P M mod cols A w (.returned (.int .i64 r)) w':=⟨r,rfl,⟨fun e=>absurd e hr,fun e=>absurd e h⟩,k⟩
set_option maxRecDepth 100000 in
theorem Ld (P M:Int) (vm:Value) (mod:List Int) (cols:Int) (v:Value) (A:List (List Int)) (w:World) (hvm:Sl w vm mod) (hv:Rd w v A):
  Calls Tryz.prog 111 #[.agg #[.int .i64 P,.int .i64 M,vm],.agg #[.int .i64 cols,v]] w (ajU P M mod cols A w):=by
 obtain⟨a,cap,rfl,hcap,hcm,hb0⟩:=hv.get;unfold maxLen at hcm;obtain⟨w1,hw1⟩:∃ w1,w1=(w.alloc (.cells #[.int .i64 P,.int .i64 M,vm] 24)).alloc (.cells #[.int .i64 cols,.slice a A.length cap] 71):=⟨_,rfl⟩
 have hk1:ay w w1:=by rw[hw1];exact(ah _ _).tr (ah _ _)
 have bf:nJ w1 w.heap.size P M vm:=by rw[hw1];exact(aS w _ _ _ _).kept (ah _ _)
 have bm:BoxM w1 (w.heap.size+1) cols (.slice a A.length cap):=by
  rw[hw1];have:=gX (w.alloc (.cells #[.int .i64 P,.int .i64 M,vm] 24)) cols (.slice a A.length cap) 71;simpa using this
 have gG:=hvm.kept hk1;have hv1:=hv.kept hk1;have b0:=bf.h0;have b1:=bf.h1;have b2:=bf.h2;go_enter Tryz.func111,Tryz.ntmps111;go_wp2_with(fail)
 rw[<-hw1];clear hw1 hvm hv;by_cases hck:qL P M mod;case neg=>
  (with_reducible refine(oZ P M vm mod _ gG 1 (.inr ⟨hck,rfl⟩)).mono ?_)
  rintro e w2 ⟨rfl,hk2⟩;go_wp2_with(fail)
  go_ret;exact zo (by decide) (fun q=>hck q.ck) (hk1.tr hk2)
 (with_reducible refine(oZ P M vm mod _ gG 0 (.inl ⟨hck,rfl⟩)).mono ?_)
 rintro e w2 ⟨rfl,hk2⟩;have bf2:=bf.kept hk2;have bm2:=bm.kept hk2;have hv2:=hv1.kept hk2;have ku:=hk1.tr hk2;have m0:=bm2.h0;have m1:=bm2.h1;clear b0 b1 b2 hk1 hk2 gG hv1 bf bm;have HCK:=hid hck;clear hck;by_cases g1:cols<0
 ·go_wp2_with(fail)
  go_ret;exact zo (by decide) (fun q=>by have:=q.lo;omega) ku
 by_cases g2:cols>256
 ·go_wp2_with(fail)
  go_ret;exact zo (by decide) (fun q=>by have:=q.hi;omega) ku
 by_cases g3:(A.length:Int) >256
 ·go_wp2_with(fail)
  go_ret;exact zo (by decide) (fun q=>by have:=q.n;omega) ku
 go_wp2_with(fail)
 go_loopw [6] (fun vi wr=>∃ k:Nat,k<=A.length/\vi=.int .i64 k/\Hid (∀ i,i<k->((Gj.row A i).length:Int)=cols)/\ay w2 wr) (fun vi _=>A.length- (intOf vi).toNat)
 case atStart=>exact⟨0,by omega,rfl,(hid fun i hi=>by omega),ay.rfl' _⟩
 case round=>
  obtain⟨k,hk,rfl,hd,hkr⟩:=hrel;obtain⟨wo,hwo⟩:∃ x,x=wr:=⟨_,rfl⟩
  rw[<-hwo] at hkr ⊢;clear hwo;have bx:=bm2.kept hkr;have m0:=bx.h0;have m1:=bx.h1;by_cases hlt:k<A.length
  ·obtain⟨bb,off,rfl,hbb⟩:=hb0 (by intro e;rw[e] at hlt;simp at hlt);obtain⟨u,u1,u2⟩:=(hv2.kept hkr).cellAt hlt;obtain⟨ua,uc,rfl,u3,u4⟩:=u2.lenOf;unfold maxLen at u4;obtain⟨m,hm⟩:∃ m,m=(Gj.row A k).length:=⟨_,rfl⟩
   rw[<-hm] at u1 u3;have HM:=hid hm;have hlt':(k:Int)< (A.length:Int):=by omega
   clear hm u2;by_cases hz:(m:Int)=cols
   ·have tz:((m:Int) != cols)=false:=by simp[hz]
    have HZ:=hid hz;clear hz;go_wp2_with(fail)
    go_quiet(fail);go_wp2_with(fail)
    go_roundw;case rel=>exact⟨k+1,by omega,by go_num,hid (fun i hi=>by
     by_cases e:i=k
     ·rw[e,<-HM.out];exact HZ.out
     ·exact hd.out i (by omega)),by exact hkr.drewN _⟩
    case measure=>simp[intOf];omega
   ·have tz:((m:Int) != cols)=true:=by simp[hz]
    have HZ:=hid hz;clear hz;go_wp2_with(fail)
    go_quiet(fail);go_wp2_with(fail)
    go_ret;exact zo (by decide) (fun q=>HZ.out (by rw[HM.out];exact q.len k hlt)) (by exact(ku.tr hkr).drewN _)
  ·have HL:Hid (∀ i,i<A.length->((Gj.row A i).length:Int)=cols):=hid fun i hi=>hd.out i (by omega);go_wp2_with(fail)
   have bfo:=bf2.kept hkr;have hvo:=hv2.kept hkr;have hko:=ku.tr hkr;have bmo:=bx;clear hk hlt hd hkr m0 m1
   go_loopw [5,7] (fun ve vi wr=>∃ k:Nat,k<=A.length/\vi=.int .i64 k/\Hid (∀ i,i<k->∀ j,j< (Gj.row A i).length->0<=(Gj.row A i).getD j 0/\(Gj.row A i).getD j 0<dw P M)/\ay wo wr) (fun _ vi _=>A.length- (intOf vi).toNat)
   case atStart=>exact⟨0,by omega,rfl,hid (fun i hi=>by omega),by exact ay.rfl' _⟩
   case round=>
    obtain⟨k,hk,rfl,hd,hkr⟩:=hrel;have bw:=bfo.kept hkr;have b0:=bw.h0;have b1:=bw.h1;have b2:=bw.h2;have bx:=bmo.kept hkr;have m0:=bx.h0;have m1:=bx.h1;by_cases hlt:k<A.length
    ·obtain⟨bb,off,rfl,hbb⟩:=hb0 (by intro e;rw[e] at hlt;simp at hlt);obtain⟨u,u1,u2⟩:=(hvo.kept hkr).cellAt hlt;have hlt':(k:Int)< (A.length:Int):=by omega
     have agL:=hko.lt hbb;by_cases hz:∀ j,j< (Gj.row A k).length->0<=(Gj.row A k).getD j 0/\(Gj.row A k).getD j 0<dw P M
     ·have HZ:=hid hz;clear hz;go_wp2_with(fail)
      go_region_held3 (fun w'=>w'.cell? ⟨w.heap.size,0,none⟩=some (.int .i64 P)/\w'.cell? ⟨w.heap.size,1,none⟩=some (.int .i64 M)/\w'.cell? ⟨w.heap.size,2,none⟩=some vm/\w'.cell? ⟨w.heap.size+1,1,none⟩=some (.slice (some ⟨bb,off,none⟩) A.length cap)/\w'.cell? ⟨bb,off+k,none⟩=some u) ((simp[*];done))
       ((go_at_call 162;(with_reducible refine(AA P M vm u (Gj.row A k) _ (by exact u2.kept (aC _)) 0 (.inl ⟨HZ.out,rfl⟩)).mono ?_);rintro e w3 ⟨rfl,hk3⟩;have dN:ay wr w3:=(by exact(aC _).tr hk3);have bw3:=bw.kept dN;have d0:=bw3.h0;have d1:=bw3.h1;have d2:=bw3.h2;have bx3:=bx.kept dN;have d3:=bx3.h1;have d4:=(dN.cell' (hkr.lt (agL))).trans u1))
      all_goals
       go_wp2_with(fail)
       go_roundw;case rel=>exact⟨k+1,by omega,by go_num,hid (fun i hi=>by
        by_cases e:i=k
        ·rw[e];exact HZ.out
        ·exact hd.out i (by omega)),by exact hkr.tr dN⟩
       case measure=>simp[intOf];omega
     ·have HZ:=hid hz;clear hz;go_wp2_with(fail)
      go_region_held3 (fun w'=>w'.cell? ⟨w.heap.size,0,none⟩=some (.int .i64 P)/\w'.cell? ⟨w.heap.size,1,none⟩=some (.int .i64 M)/\w'.cell? ⟨w.heap.size,2,none⟩=some vm/\w'.cell? ⟨w.heap.size+1,1,none⟩=some (.slice (some ⟨bb,off,none⟩) A.length cap)/\w'.cell? ⟨bb,off+k,none⟩=some u) ((simp[*];done))
       ((go_at_call 162;(with_reducible refine(AA P M vm u (Gj.row A k) _ (by exact u2.kept (aC _)) 2 (.inr ⟨HZ.out,rfl⟩)).mono ?_);rintro e w3 ⟨rfl,hk3⟩;have dN:ay wr w3:=(by exact(aC _).tr hk3);have bw3:=bw.kept dN;have d0:=bw3.h0;have d1:=bw3.h1;have d2:=bw3.h2;have bx3:=bx.kept dN;have d3:=bx3.h1;have d4:=(dN.cell' (hkr.lt (agL))).trans u1))
      all_goals
       go_wp2_with(fail)
       go_ret;exact zo (by decide) (fun q=>HZ.out (q.bd k hlt)) (by exact(hko.tr hkr).tr dN)
    ·go_wp2_with(fail)
     go_ret;exact⟨0,rfl,⟨fun _=>⟨HCK.out,by omega,by omega,by omega,HL.out,fun i hi=>hd.out i (by omega)⟩,fun _=>rfl⟩,hko.tr hkr⟩
theorem Gt {A:List (List Int)} {k:Nat} (h:k<A.length):A.take (k+1)=A.take k++ [Gj.row A k]:=by
 rw[List.take_add_one,zq h];unfold Gj.row;simp[List.getD,h]
theorem Ji (v:Value) (A:List (List Int)) (w:World) (hv:Rd w v A) (hn:A.length<=256) (hl:∀ i,i<A.length->(Gj.row A i).length<=1000):
  Calls Tryz.prog 285 #[v] w fun e w'=>∃ v' rv,e=.returned v'/\Mx w' w.heap.size v' A rv/\ay w w':=by
 obtain⟨a,cap,rfl,hcap,hcm,hb0⟩:=hv.get;unfold maxLen at hcm;have HL:=hid hl;clear hl;go_enter Tryz.func285,Tryz.ntmps285;go_wp2_with(fail)
 go_loopw [3,4] (fun vo vi wr=>∃ (k:Nat) (oa:Option Addr) (oc:Nat) (rv:Nat->Value),k<=A.length/\vi=.int .i64 k/\vo=.slice oa k oc/\Mx wr w.heap.size (.slice oa k oc) (A.take k) rv/\ay w wr) (fun _ vi _=>A.length- (intOf vi).toNat)
 case atStart=>exact⟨0,none,0,_,by omega,rfl,rfl,by rw[List.take_zero];exact qR _ _,ay.rfl' _⟩
 case round=>
  obtain⟨k,oa,oc,rv,hk,rfl,rfl,hmx,hkr⟩:=hrel;by_cases hlt:k<A.length
  ·obtain⟨bb,off,rfl,hbb⟩:=hb0 (by intro e;rw[e] at hlt;simp at hlt);have hlt':(k:Int)< (A.length:Int):=by omega
   have HT:Hid (A.take (k+1)=A.take k++ [Gj.row A k]):=hid (Gt hlt);have hTl:(A.take k).length=k:=by simp;omega
   have hlk:=HL.out k hlt;have hke:=ah wr (.cells #[] 3);have hoe:=iW (w:=wr) (zy _);obtain⟨u,u1,u2⟩:=(hv.kept (hkr.tr hke)).cellAt hlt;obtain⟨ua,uc,rfl,huc,⟨hum,hu0⟩,hcu⟩:=u2;have HC:Hid (∀ ad,ua=some ad->∀ j,j< (Gj.row A k).length->(wr.alloc (.cells #[] 3)).cell? (ad.add j)=some (.int .i64 ((Gj.row A k).getD j 0))):=hid (fun ad e j hj=>by
    obtain⟨b2,off2,e2,hb2,hcell⟩:=hcu (by intro e;rw[e] at hj;simp at hj);rw[e2] at e;cases e
    rw[Addr.add_lit];exact hcell j hj)
   have HU0:=hid hu0;have HUN:Hid (Gj.row A k≠ []->ua≠none):=hid (fun e2 e=>by
    obtain⟨b2,off2,e3,_⟩:=hcu e2;rw[e3] at e;cases e)
   have hsz:wr.heap.size<=(wr.alloc (.cells #[] 3)).heap.size:=hke.size;clear hcu hu0 hum huc;go_wp2_with(first|(at_builtin;refine gW rfl (.tmp 12) (.tmp 16) rfl wr.heap.size wr.heap.size rfl hoe ua (Gj.row A k).length uc (Gj.row A k) rfl rfl HU0.out HUN.out HC.out (by omega) ?_;intro gm cm w4 hg4 _ hB4 ho4;obtain⟨hk4,hs4⟩:ay wr w4/\w.heap.size<=w4.heap.size:=⟨dI hke hg4 hsz (zy _),zJ hkr.size (zJ hsz hg4.size)⟩;have hm4:=hmx.kept hk4;have hk7:=ah w4 (.cells #[.slice (some ⟨gm,0,none⟩) (Gj.row A k).length cm] 22);have hm7:=hm4.kept hk7;have ho7:=ho4.kept hk7;have HO:=hid hm7.out;rw[hTl] at HO)|(at_builtin;refine dD rfl (.tmp 11) (.tmp 18) rfl w.heap.size _ k _ rfl HO.out ⟨w4.heap.size,0,none⟩ (.slice (some ⟨gm,0,none⟩) (Gj.row A k).length cm) rfl (aU rfl) rfl (by omega) (by simp;omega) ?_;intro v8 w8 o8 hg8))
   have hm8:=hm7.add (l:=Gj.row A k) (ho7.mono hkr.size) (fun x hx j hj e2=>by
    have h1:=aN ho7 hx;have h2:=aN (hmx.row j hj) e2;omega) (by rw[hTl];exact o8) hg8
   have hk8:ay w w8:=(((hkr.tr hk4).tr hk7).grown hg8 (by simp;omega) (fun k e=>by
    have:=World.ownsRow.lt hm7.out k e;exact this.1))
   rw[<-HT.out] at hm8;obtain⟨oa8,oc8,e8⟩:=hm8.lenOf;rw[show(A.take (k+1)).length=k+1 by simp;omega] at e8;subst e8;clear o8 hg8 hm7 ho7;go_wp2_with(fail)
   go_roundw;case rel=>exact⟨k+1,oa8,oc8,_,by omega,by go_num,rfl,hm8,hk8⟩
   case measure=>simp[intOf];omega
  ·have HE:Hid (A.take k=A):=hid (wQ (by omega));have hke:k=A.length:=by omega
   go_wp2_with(fail)
   go_ret;exact⟨_,rv,rfl,by rw[HE.out] at hmx;exact hmx,hkr⟩
end
section
set_option maxRecDepth 100000
open Go.RowKit Cw Cw.Gj
def Le (G:GFd) (x:Int) (l:List Int) (k:Nat):List Int:=(List.range l.length).map fun j=>if j<k then bF G x (l.getD j 0) else 0
theorem Gu {G:GFd} {x:Int} {l:List Int} {k j:Nat} (h:j<l.length):(Le G x l k).getD j 0=if j<k then bF G x (l.getD j 0) else 0:=by
 unfold Le;simp[List.getD,h]
theorem uf (G:GFd) (x:Int) (l:List Int) (k:Nat):(Le G x l k).length=l.length:=by simp[Le]
theorem Uz (G:GFd) (x:Int) (l:List Int):Le G x l 0=List.replicate l.length 0:=fM (by simp[Le]) fun i hi=>by
 rw[uf] at hi;rw[Gu hi,zx (by omega)];simp[List.getD,hi]
theorem UA {G:GFd} {x:Int} {l:List Int} {k:Nat} (h:k<l.length):(Le G x l k).set k (bF G x (l.getD k 0))=Le G x l (k+1):=fM (by simp[Le]) fun i hi=>by
 rw[zI,uf] at hi;rw[Gu hi];by_cases e:i=k
 ·subst e;rw[zu (by omega)];simp[List.getD,uf,hi]
 ·rw[List.getD,zS (Ne.symm e),<-List.getD,Gu hi];by_cases g:i<k
  ·rw[zu g,zu (by omega)]
  ·rw[zx g,zx (by omega)]
theorem UC (G:GFd) (x:Int) (l:List Int):Le G x l l.length=l.map (bF G x):=fM (by simp[Le]) fun i hi=>by
 rw[uf] at hi;rw[Gu hi,zu hi];simp[List.getD,hi]
theorem zA (G:GFd) (t:aK G) (P M:Int) (mod:List Int) (vm:Value) (x:Int) (v:Value) (l:List Int) (w:World) (ho:Of G P M mod) (hvm:Sl w vm mod) (hv:Sl w v l) (hl:l.length<=1000):
  Calls Tryz.prog 286 #[.agg #[.int .i64 P,.int .i64 M,vm],.int .i64 x,v] w fun e w'=>∃ v',e=.returned v'/\Own w' w.heap.size v' (l.map (bF G x))/\ay w w':=by
 obtain⟨a,cap,rfl,hcap,⟨hcm,_⟩,hc⟩:=hv;unfold maxLen at hcm;have hk0:=ah w (.cells #[.int .i64 P,.int .i64 M,vm] 24);have bf:=aS w P M vm 24;have hs1:(w.alloc (.cells #[.int .i64 P,.int .i64 M,vm] 24)).heap.size=w.heap.size+1:=by simp
 have gG:=hvm.kept hk0;go_enter Tryz.func286,Tryz.ntmps286;go_wp2_with(at_make;refine aJ rfl _ _ rfl l.length _ _ rfl rfl rfl rfl (by omega) ?_;intro w2 ho2 hk2)
 rw[<-Uz G x l] at ho2;rw[hs1] at ho2;try rw[hs1]
 obtain⟨w1,hw1⟩:∃ w1,w1=w.alloc (.cells #[.int .i64 P,.int .i64 M,vm] 24):=⟨_,rfl⟩
 rw[<-hw1] at hk0 bf hk2 gG hs1;have HS:=hid hs1;clear hvm hw1 hs1
 go_loopw [8] (fun vi wr=>∃ k:Nat,k<=l.length/\vi=.int .i64 k/\Own wr (w.heap.size+1) (.slice (some ⟨w.heap.size+1,0,none⟩) l.length l.length) (Le G x l k)/\ay w1 wr) (fun vi _=>l.length- (intOf vi).toNat)
 case atStart=>exact⟨0,by omega,rfl,ho2,hk2⟩
 case round=>
  obtain⟨k,hk,rfl,hor,hkr⟩:=hrel;clear ho2;by_cases hlt:k<l.length
  ·obtain⟨bl,off,rfl,hb,hcell⟩:=hc (by intro e;rw[e] at hlt;simp at hlt);have bfr:=bf.kept hkr;have b0:=bfr.h0;have b1:=bfr.h1;have b2:=bfr.h2;have ck:=((hk0.tr hkr).cell' hb).trans (hcell k hlt);obtain⟨z,hz⟩:∃ z,z=l.getD k 0:=⟨_,rfl⟩
   rw[<-hz] at ck;have HZ:Hid ((Le G x l k).set k (bF G x z)=Le G x l (k+1)):=hid (by rw[hz];exact UA hlt);have hlt':(k:Int)< (l.length:Int):=by omega
   have hsl:=gG.kept hkr;have nb1:¬ w.heap.size+1=bl:=by omega
   have nb2:¬ w.heap.size+1=w.heap.size:=by omega
   have nb3:¬ bl=w.heap.size+1:=by omega
   have nb4:¬ w.heap.size=w.heap.size+1:=by omega
   obtain⟨m,hm⟩:∃ m,m=bF G x z:=⟨_,rfl⟩
   have HM:Hid (bF G x z=m):=hid hm.symm;rw[HM.out] at HZ;clear hz hcell hm;go_wp2_with(fail)
   go_region_held3 (fun w'=>w'.cell? ⟨w.heap.size,0,none⟩=some (.int .i64 P)/\w'.cell? ⟨w.heap.size,1,none⟩=some (.int .i64 M)/\w'.cell? ⟨w.heap.size,2,none⟩=some vm/\w'.cell? ⟨bl,off+k,none⟩=some (.int .i64 z)) (first|(simp[*];done)|(simp[go_sem, *];done))
    ((go_at_call 351;(with_reducible refine(pq G t P M mod vm x z _ ho (by exact hsl.kept (aC _))).mono ?_);rintro e w3 ⟨rfl,hk3⟩;rw[HM.out];have dN:ay wr w3:=(by exact(aC _).tr hk3);have bf3:=bfr.kept dN;have d0:=bf3.h0;have d1:=bf3.h1;have d2:=bf3.h2;have d3:=(dN.cell' ((hk0.tr hkr).lt hb)).trans ck;have ho3:=hor.kept dN;have cx:=ho3.cell (i:=k) (by rw[uf];exact hlt);have fx:=ho3.frozen k))
   all_goals
    have ho4:=ho3.set k m;rw[HZ.out] at ho4;have hk4:ay w1 (w3.setCell ⟨w.heap.size+1,k,none⟩ (.int .i64 m)):=aA (b:=w.heap.size+1) (i:=k) (.int .i64 m) (hkr.tr dN) (by rw[HS.out];exact zy _);go_wp2_with(fail)
    go_roundw;case rel=>exact⟨k+1,by omega,by go_num,by exact ho4,by exact hk4⟩
    case measure=>simp[intOf];omega
  ·have HE:Hid (Le G x l k=l.map (bF G x)):=hid (by rw[show k=l.length by omega];exact UC G x l);rw[HE.out] at hor;go_wp2_with(fail)
   go_ret;exact⟨_,rfl,hor.mono (by omega),hk0.tr hkr⟩
def axS (o:Cw.Op) (x:Int) (u l:List Int) (k:Nat):List Int:=(List.range l.length).map fun j=>if j<k then(iP o x u l).getD j 0 else 0
theorem NY {o:Cw.Op} {x:Int} {u l:List Int} {k j:Nat} (h:j<l.length):(axS o x u l k).getD j 0=if j<k then(iP o x u l).getD j 0 else 0:=by
 unfold axS;simp[List.getD,h]
theorem zB (o:Cw.Op) (x:Int) (u l:List Int) (k:Nat):(axS o x u l k).length=l.length:=by simp[axS]
theorem Yl (o:Cw.Op) (x:Int) (u l:List Int):axS o x u l 0=List.replicate l.length 0:=fM (by simp[axS]) fun i hi=>by
 rw[zB] at hi;rw[NY hi,zx (by omega)];simp[List.getD,hi]
theorem qo {o:Cw.Op} {x:Int} {u l:List Int} {k:Nat} (h:k<l.length):(iP o x u l).getD k 0=if u.getD k 0=0 then l.getD k 0 else o.add (l.getD k 0) (o.mul x (u.getD k 0)):=by
 unfold iP;simp[List.getD,h]
theorem Ym {o:Cw.Op} {x:Int} {u l:List Int} {k:Nat} (h:k<l.length):(axS o x u l k).set k ((iP o x u l).getD k 0)=axS o x u l (k+1):=fM (by simp[axS]) fun i hi=>by
 rw[zI,zB] at hi;rw[NY hi];by_cases e:i=k
 ·subst e;rw[zu (by omega)];simp[List.getD,zB,hi]
 ·rw[List.getD,zS (Ne.symm e),<-List.getD,NY hi];by_cases g:i<k
  ·rw[zu g,zu (by omega)]
  ·rw[zx g,zx (by omega)]
theorem Yo (o:Cw.Op) (x:Int) (u l:List Int):axS o x u l l.length=iP o x u l:=fM (by simp[axS,iP]) fun i hi=>by
 rw[zB] at hi;rw[NY hi,zu hi]
theorem Jj (l:List Int) (k:Nat) (a b:Int):(l.set k a).set k b=l.set k b:=by simp
theorem zC (G:GFd) (t:aK G) (P M:Int) (mod:List Int) (vm:Value) (x:Int) (v vu:Value) (l u:List Int) (w:World) (ho:Of G P M mod) (hvm:Sl w vm mod) (hv:Sl w v l) (hu:Sl w vu u) (hul:u.length=l.length) (hl:l.length<=1000):
  Calls Tryz.prog 288 #[.agg #[.int .i64 P,.int .i64 M,vm],v,.int .i64 x,vu] w fun e w'=>∃ v',e=.returned v'/\Own w' w.heap.size v' (iP (opG G) x u l)/\ay w w':=by
 obtain⟨a,cap,rfl,hcap,⟨hcm,_⟩,hc⟩:=hv;obtain⟨au,anV,rfl,ah7,⟨alI,_⟩,hcu⟩:=hu;unfold maxLen at hcm alI;have hu0:∀ k,k<l.length->u≠ []:=fun k hk e=>by rw[e] at hul;simp at hul;rw[<-hul] at hk;simp at hk
 rw[hul] at ah7 hcu;rw[hul];have hk0:=ah w (.cells #[.int .i64 P,.int .i64 M,vm] 24);have bf:=aS w P M vm 24;have hs1:(w.alloc (.cells #[.int .i64 P,.int .i64 M,vm] 24)).heap.size=w.heap.size+1:=by simp
 have gG:=hvm.kept hk0;have HUL:=hid hul;clear hul;go_enter Tryz.func288,Tryz.ntmps288;go_wp2_with(at_make;refine aJ rfl _ _ rfl l.length _ _ rfl rfl rfl rfl (by omega) ?_;intro w2 ho2 hk2)
 rw[<-Yl (opG G) x u l] at ho2;rw[hs1] at ho2;try rw[hs1]
 obtain⟨w1,hw1⟩:∃ w1,w1=w.alloc (.cells #[.int .i64 P,.int .i64 M,vm] 24):=⟨_,rfl⟩
 rw[<-hw1] at hk0 bf hk2 gG hs1;have HS:=hid hs1;clear hvm hw1 hs1
 go_loopw [10] (fun vi wr=>∃ k:Nat,k<=l.length/\vi=.int .i64 k/\Own wr (w.heap.size+1) (.slice (some ⟨w.heap.size+1,0,none⟩) l.length l.length) (axS (opG G) x u l k)/\ay w1 wr) (fun vi _=>l.length- (intOf vi).toNat)
 case atStart=>exact⟨0,by omega,rfl,ho2,hk2⟩
 case round=>
  obtain⟨k,hk,rfl,hor,hkr⟩:=hrel;clear ho2;by_cases hlt:k<l.length
  ·obtain⟨bl,off,rfl,hb,hcell⟩:=hc (by intro e;rw[e] at hlt;simp at hlt);obtain⟨bu,ah8,rfl,hbu,aao⟩:=hcu (hu0 k hlt);have hbr:=(hk0.tr hkr).lt hb;have anW:=(hk0.tr hkr).lt hbu;have ck:=((hk0.tr hkr).cell' hb).trans (hcell k hlt);have cu:=((hk0.tr hkr).cell' hbu).trans (aao k hlt);have hstep:=Ym (o:=opG G) (x:=x) (u:=u) hlt;rw[qo hlt] at hstep;obtain⟨z,hz⟩:∃ z,z=l.getD k 0:=⟨_,rfl⟩
   obtain⟨y,hy⟩:∃ y,y=u.getD k 0:=⟨_,rfl⟩
   rw[<-hz] at ck hstep;rw[<-hy] at cu hstep;have hlt':(k:Int)< (l.length:Int):=by omega
   have hsl:=gG.kept hkr;have nb1:¬ w.heap.size+1=bl:=by omega
   have nb2:¬ w.heap.size+1=bu:=by omega
   have nb3:¬ bl=w.heap.size+1:=by omega
   have nb4:¬ bu=w.heap.size+1:=by omega
   have nb5:¬ w.heap.size=w.heap.size+1:=by omega
   have cx:=hor.cell (i:=k) (by rw[zB];exact hlt);have fx:=hor.frozen k;clear hcell aao hz hy;by_cases hy0:y=0
   ·subst hy0;rw[zu rfl] at hstep;have ho4:=hor.set k z;rw[hstep] at ho4;have hk4:ay w1 (wr.setCell ⟨w.heap.size+1,k,none⟩ (.int .i64 z)):=aA (b:=w.heap.size+1) (i:=k) (.int .i64 z) hkr (by rw[HS.out];exact zy _);have cu4:(wr.setCell ⟨w.heap.size+1,k,none⟩ (.int .i64 z)).cell? ⟨bu,ah8+k,none⟩=some (.int .i64 0):=by rw[World.cell?_setCell_far _ _ _ _ nb2];exact cu
    clear hor hstep;go_wp2_with(fail)
    go_roundw;case rel=>exact⟨k+1,by omega,by go_num,by exact ho4,by exact hk4⟩
    case measure=>simp[intOf];omega
   ·rw[zx hy0] at hstep;have ty:(y != 0)=true:=by simpa using hy0
    obtain⟨m,hm⟩:∃ m,m=bF G x y:=⟨_,rfl⟩
    have HM:Hid (bF G x y=m):=hid hm.symm;obtain⟨s,hs⟩:∃ s,s=gu G z m:=⟨_,rfl⟩
    have HA:Hid (gu G z m=s):=hid hs.symm;have HST:Hid ((axS (opG G) x u l k).set k s=axS (opG G) x u l (k+1)):=hid (by rw[hs,hm];exact hstep);have ho4:=hor.set k z;have hk4:ay w1 (wr.setCell ⟨w.heap.size+1,k,none⟩ (.int .i64 z)):=aA (b:=w.heap.size+1) (i:=k) (.int .i64 z) hkr (by rw[HS.out];exact zy _);have cu4:(wr.setCell ⟨w.heap.size+1,k,none⟩ (.int .i64 z)).cell? ⟨bu,ah8+k,none⟩=some (.int .i64 y):=by rw[World.cell?_setCell_far _ _ _ _ nb2];exact cu
    have cl4:(wr.setCell ⟨w.heap.size+1,k,none⟩ (.int .i64 z)).cell? ⟨bl,off+k,none⟩=some (.int .i64 z):=by rw[World.cell?_setCell_far _ _ _ _ nb1];exact ck
    clear hor hstep hy0 hm hs;go_wp2_with(fail)
    obtain⟨wz,hwz⟩:∃ x,x=wr.setCell ⟨w.heap.size+1,k,none⟩ (.int .i64 z):=⟨_,rfl⟩
    rw[<-hwz] at ho4 hk4 cu4 cl4 ⊢;clear hwz;have bfr:=bf.kept hk4;have b0:=bfr.h0;have b1:=bfr.h1;have b2:=bfr.h2;have alJ:=gG.kept hk4;have lb:=hk4.lt (hk0.lt hb);have lu:=hk4.lt (hk0.lt hbu)
    go_region_held3 (fun w'=>w'.cell? ⟨w.heap.size,0,none⟩=some (.int .i64 P)/\w'.cell? ⟨w.heap.size,1,none⟩=some (.int .i64 M)/\w'.cell? ⟨w.heap.size,2,none⟩=some vm/\w'.cell? ⟨bl,off+k,none⟩=some (.int .i64 z)/\w'.cell? ⟨bu,ah8+k,none⟩=some (.int .i64 y)) (first|(simp[*];done)|(simp[go_sem, *];done))
     ((first|(go_at_call 351;(with_reducible refine(pq G t P M mod vm x y _ ho (by exact alJ.kept (aC _))).mono ?_);rintro e w3 ⟨rfl,hk3⟩;rw[HM.out];have dN:ay wz w3:=(by exact(aC _).tr hk3);have bf3:=bfr.kept dN;have d0:=bf3.h0;have d1:=bf3.h1;have d2:=bf3.h2;have d3:=(dN.cell' lb).trans cl4;have d4:=(dN.cell' lu).trans cu4)|(go_at_call 352;(with_reducible refine(OV G t P M mod vm z m _ ho).mono ?_);rintro e w4 ⟨rfl,hk5⟩;rw[HA.out];have zk:ay wz w4:=(by exact dN.tr hk5);have bf4:=bfr.kept zk;have e0:=bf4.h0;have e1:=bf4.h1;have e2:=bf4.h2;have e3:=(zk.cell' lb).trans cl4;have e4:=(zk.cell' lu).trans cu4;have ho5:=ho4.kept zk;have cx5:=ho5.cell (i:=k) (by rw[zI,zB];exact hlt);have fx5:=ho5.frozen k)))
    all_goals
     have ho6:=ho5.set k s;rw[Jj,HST.out] at ho6;have hk6:ay w1 (w4.setCell ⟨w.heap.size+1,k,none⟩ (.int .i64 s)):=aA (b:=w.heap.size+1) (i:=k) (.int .i64 s) (hk4.tr zk) (by rw[HS.out];exact zy _);go_wp2_with(fail)
     go_roundw;case rel=>exact⟨k+1,by omega,by go_num,by exact ho6,by exact hk6⟩
     case measure=>simp[intOf];omega
  ·have HE:Hid (axS (opG G) x u l k=iP (opG G) x u l):=hid (by rw[show k=l.length by omega];exact Yo (opG G) x u l);rw[HE.out] at hor;go_wp2_with(fail)
   go_ret;exact⟨_,rfl,hor.mono (by omega),hk0.tr hkr⟩
end
section
open Go.RowKit Cw Cw.Gj
theorem Mx.same {w:World} {B g n cap:Nat} {A:List (List Int)} {rv:Nat->Value} (h:Mx w B (.slice (some ⟨g,0,none⟩) n cap) A rv) (r:Nat):
  Mx (w.setCell ⟨g,r,none⟩ (rv r)) B (.slice (some ⟨g,0,none⟩) n cap) A rv:=by
 have hn:n=A.length:=by
  rcases h.form with⟨e,_⟩|⟨_,_,e,_⟩
  ·cases e
  ·cases e;rfl
 subst hn;have hg:w.grownBy (w.setCell ⟨g,r,none⟩ (rv r)) (some g):=aj w g r (rv r);have hnx:∀ x xs,Own w B x xs->x.ownBlock=none∨x.ownBlock≠some g:=fun x xs ho=>by
  cases e:x.ownBlock with
  |none=>exact .inl rfl
  |some y=>exact .inr fun e2=>row_ne h.out ho (by rw[e];exact e2) rfl
 refine⟨?_,fun i hi=>(h.row i hi).grownBy hg (hnx _ _ (h.row i hi)),h.dis⟩;have h1:=(World.ownsRow.stored h.out r (rv r)).1;have e:((List.range A.length).map rv).set r (rv r)=(List.range A.length).map rv:=by
  refine zM (by simp) fun j h1 h2=>?_;rw[xO];by_cases e1:r=j
  ·rw[zu e1];simp[e1]
  ·rw[zx e1]
 rw[e] at h1;exact h1
structure Er (w1 wr:World) (v:Value) (A:List (List Int)) (rv:Nat->Value) (vp:Value) (P:List Nat):Prop where
 k:ay w1 wr
 m:Mx wr w1.heap.size v A rv
 p:Own wr w1.heap.size vp (bQ P)
 s:∀ y,vp.ownBlock=some y->¬ Has v rv A.length y
section
variable {w1 wr wx:World} {g n cap:Nat} {v vp:Value} {A:List (List Int)} {rv:Nat->Value} {P:List Nat}
theorem Er.kept (e:Er w1 wr v A rv vp P) (k:ay wr wx):Er w1 wx v A rv vp P:=⟨e.k.tr k,e.m.kept k,e.p.kept k,e.s⟩
theorem Er.pne (e:Er w1 wr (.slice (some ⟨g,0,none⟩) n cap) A rv vp P):vp.ownBlock=none∨vp.ownBlock≠some g:=by
 cases h:vp.ownBlock with
 |none=>exact .inl rfl
 |some y=>exact .inr fun q=>e.s y h (.inl q.symm)
theorem Er.gB (e:Er w1 wr (.slice (some ⟨g,0,none⟩) n cap) A rv vp P):w1.heap.size<=g:=(e.m.has_lt (g:=g) (.inl rfl)).1
theorem Er.put (e:Er w1 wr (.slice (some ⟨g,0,none⟩) n cap) A rv vp P) (k:ay wr wx) {i:Nat} {u:Value} {l:List Int} (hi:i<A.length) (hu:Own wx wr.heap.size u l):
  Er w1 (wx.setCell ⟨g,i,none⟩ u) (.slice (some ⟨g,0,none⟩) n cap) (A.set i l) (fun j=>if j=i then u else rv j) vp P:=by
 have ex:=e.kept k;refine⟨aA _ ex.k e.gB,ex.m.put hi (hu.mono e.k.size) (fun x hx j hj e2=>?_),ex.p.grownBy (aj wx g i u) ex.pne,fun y hy q=>?_⟩
 ·have h1:=aN hu hx;have h2:=aN (e.m.row j hj) e2;omega
 ·rw[zI] at q;rcases SQ q with q|q
  ·exact e.s y hy q
  ·have h1:=aN hu q;have h2:=aN e.p hy;omega
theorem Er.same (e:Er w1 wr (.slice (some ⟨g,0,none⟩) n cap) A rv vp P) (r:Nat):Er w1 (wr.setCell ⟨g,r,none⟩ (rv r)) (.slice (some ⟨g,0,none⟩) n cap) A rv vp P:=
 ⟨aA _ e.k e.gB,e.m.same r,e.p.grownBy (aj wr g r (rv r)) e.pne,e.s⟩
theorem Er.swap (e:Er w1 wr (.slice (some ⟨g,0,none⟩) n cap) A rv vp P) {r p:Nat} (hr:r<A.length) (hp:p<A.length) (hne:r≠p):
  Er w1 ((wr.setCell ⟨g,r,none⟩ (rv p)).setCell ⟨g,p,none⟩ (rv r)) (.slice (some ⟨g,0,none⟩) n cap) (dS A r p) (fun i=>rv (if i=r then p else if i=p then r else i)) vp P:=
 ⟨aA _ (aA _ e.k e.gB) e.gB,e.m.swap hr hp hne,(e.p.grownBy (aj wr g r (rv p)) e.pne).grownBy (aj _ g p (rv r)) e.pne,fun y hy q=>e.s y hy (by rw[aT] at q;exact FW hr hp q)⟩
theorem Er.app (e:Er w1 wr v A rv vp P) {g' m cp:Nat} {Q:List Nat} (hg:wr.grownBy wx vp.ownBlock) (ho:Own wx w1.heap.size (.slice (some ⟨g',0,none⟩) m cp) (bQ Q)) (hd:vp.ownBlock=some g'∨wr.heap.size<=g'):Er w1 wx v A rv (.slice (some ⟨g',0,none⟩) m cp) Q:=by
 obtain⟨x,hx,hx1,hx3⟩:∃ x,wr.grownBy wx (some x)/\w1.heap.size<=x/\¬ Has v rv A.length x:=by
  cases q:vp.ownBlock with
  |none=>rw[q] at hg;exact⟨wr.heap.size,⟨hg.os,hg.tape,hg.output,hg.size,fun i hi _=>hg.block i hi (by simp)⟩,e.k.size,fun h=>by have:=(e.m.has_lt h).2;omega⟩
  |some g=>rw[q] at hg;exact⟨g,hg,(aN e.p q).1,e.s g q⟩
 refine⟨aH e.k hx hx1 e.k.size,e.m.grown hx hx3,ho,fun y hy q=>?_⟩;have e1:g'=y:=by simpa[Value.ownBlock] using hy
 subst e1;rcases hd with d|d
 ·exact e.s _ d q
 ·have:=(e.m.has_lt q).2;omega
end
theorem Yp {G:GFd} (t:aK G) {x:Int} (hx:0<=x/\x<G.q) (hx0:inn G.q x≠0):fG G x=1↔x=1:=by
 obtain⟨h1,h2,h3⟩:=Gj.qQ t x hx0;constructor
 ·intro e;rw[e,t.iH,Rg.mul_comm,Rg.mul_one] at h3;exact Sz t hx h3
 ·intro e;rw[e,t.iH,Rg.mul_one] at h3;rw[e];exact Sz t (by rw[e] at h1 h2;exact⟨h1,h2⟩) h3
def acg (o:Cw.Op) (A0:List (List Int)) (cols:Nat) (w:World) (e:Ending) (w':World):Prop:=
 ∃ v' vp rv,e=.returned (.tuple #[v',vp])/\Mx w' w.heap.size v' (gj o cols 0 A0 []).1 rv/\Own w' w.heap.size vp (bQ (gj o cols 0 A0 []).2)/\ay w w'
theorem ah9 {o:Cw.Op} {m c:Nat} {A:List (List Int)} {P:List Nat} (h:¬ fnd A c P.length<A.length):gj o (m+1) c A P=gj o m (c+1) A P:=by rw[gj,zx h]
theorem afu {o:Cw.Op} {m c:Nat} {A:List (List Int)} {P:List Nat} (h:fnd A c P.length<A.length):gj o (m+1) c A P=gj o m (c+1) (II o A P.length (fnd A c P.length) c) (P++ [c]):=by rw[gj,zu h]
theorem UD (o:Cw.Op) (m c:Nat) {A:List (List Int)} {P:List Nat} (h:A.length<=P.length):gj o m c A P=(A,P):=by
 have h1:=IJ o m c A [] P;rw[Bf o m c h] at h1;exact Prod.ext h1.1.symm h1.2.symm
set_option maxRecDepth 100000 in
theorem UE (G:GFd) (t:aK G) (P0 M0:Int) (mod:List Int) (vm:Value) (cols:Nat) (v:Value) (A0:List (List Int)) (w:World) (ho:Of G P0 M0 mod) (hvm:Sl w vm mod) (hv:Rd w v A0) (hw:WF G.q A0 cols) (hc2:cols<=256) (hn1:A0.length<=256) (hn0:A0≠ []):
  Calls Tryz.prog 163 #[.agg #[.int .i64 P0,.int .i64 M0,vm],v,.int .i64 cols] w (acg (opG G) A0 cols w):=by
 have hk0:=ah w (.cells #[.int .i64 P0,.int .i64 M0,vm] 24);have bf:=aS w P0 M0 vm 24;have hs1:(w.alloc (.cells #[.int .i64 P0,.int .i64 M0,vm] 24)).heap.size=w.heap.size+1:=by simp
 obtain⟨w1,hw1⟩:∃ w1,w1=w.alloc (.cells #[.int .i64 P0,.int .i64 M0,vm] 24):=⟨_,rfl⟩
 rw[<-hw1] at hk0 bf hs1;have gG:=hvm.kept hk0;have hv1:=hv.kept hk0;have HL:∀ i,i<A0.length->(Gj.row A0 i).length<=1000:=fun i hi=>by rw[hw.wf i hi];omega
 go_enter Tryz.func163,Tryz.ntmps163;go_wp2_with(fail)
 rw[<-hw1];clear hw1 hvm hv
 (with_reducible refine(Ji v A0 w1 hv1 hn1 HL).mono ?_)
 rintro e w2 ⟨v',rv0,rfl,hm2,hk2⟩;obtain⟨g,cap,rfl,hgB,hg2,hcap,hcm⟩:=hm2.get hn0;unfold maxLen at hcm;have hri:=jC hw;have hgj:Hid (gj (opG G) (cols-0) 0 A0 []=gj (opG G) cols 0 A0 []):=hid rfl;have her:Er w1 w2 (.slice (some ⟨g,0,none⟩) A0.length cap) A0 rv0 (.slice none 0 0) []:=⟨hk2,hm2,bZ _ _,fun y e=>by cases e⟩
 have HS:=hid hs1;clear hs1 hm2 hk2 HL hv1;go_wp2_with(fail)
 go_loopw [9,10,11] (fun vp vr vc wr=>∃ (c:Nat) (A:List (List Int)) (P:List Nat) (pa:Option Addr) (pc:Nat) (rv:Nat->Value),c<=cols/\vp=.slice pa P.length pc/\vr=.int .i64 P.length/\vc=.int .i64 c/\Er w1 wr (.slice (some ⟨g,0,none⟩) A0.length cap) A rv (.slice pa P.length pc) P/\RI G.q A cols c P/\Hid (A.length=A0.length)/\Hid (gj (opG G) (cols-c) c A P=gj (opG G) cols 0 A0 [])) (fun _ _ vi _=>cols- (intOf vi).toNat)
 case atStart=>exact⟨0,A0,[],none,0,rv0,by omega,rfl,rfl,rfl,her,hri,hid rfl,hgj⟩
 case round=>
  obtain⟨c,A,P,pa,pc,rv,hcc,rfl,rfl,rfl,he,hr,hA,hgP⟩:=hrel;clear her hri hgj;have hPn:=hr.lt;by_cases hlt:c<cols;case neg=>
   have hce:c=cols:=by omega
   subst hce;have HG:=hid hgP;clear hgP;go_wp2_with(fail)
   go_ret2;refine⟨_,_,rv,rfl, ?_, ?_,hk0.tr he.k⟩
   ·rw[<-HG.out.out,uH];exact he.m.mono hk0.size
   ·rw[<-HG.out.out,uH];exact he.p.mono hk0.size
  have hlt':(c:Int)< (cols:Int):=by omega
  by_cases hfull:P.length<A0.length;case neg=>
   have hf':¬ (P.length:Int)< (A0.length:Int):=by omega
   have HG:Hid (gj (opG G) cols 0 A0 []=(A,P)):=hid (by rw[<-hgP.out];exact UD _ _ _ (by have:=hA.out;omega));go_wp2_with(fail)
   go_ret2;refine⟨_,_,rv,rfl, ?_, ?_,hk0.tr he.k⟩
   ·rw[HG.out];exact he.m.mono hk0.size
   ·rw[HG.out];exact he.p.mono hk0.size
  have hf':(P.length:Int)< (A0.length:Int):=by omega
  go_upto_block 2 with(fail)
  have hAl:=hA.out
  go_cut [12] (fun vk wx=>∃ k:Nat,vk=.int .i64 k/\wr=wx/\P.length<=k/\k<=A.length/\Hid (∀ i,P.length<=i->i<k->en A i c=0)/\Hid (k<A.length->en A k c≠0))
  case first=>
   go_wp2_with(fail)
   go_loop [12] (fun vi=>∃ k:Nat,vi=.int .i64 k/\P.length<=k/\k<=A.length/\Hid (∀ i,P.length<=i->i<k->en A i c=0)) (fun vi=>A.length- (intOf vi).toNat)
   case atStart=>exact⟨P.length,rfl,zy _,hPn,hid fun i h1 h2=>by omega⟩
   case round=>
    obtain⟨k,rfl,hk1,hk2,hlow⟩:=hrel;by_cases hk:k<A.length
    ·obtain⟨bk,ck,e1,_⟩:=he.m.og hk (by intro e;have:=hr.wf k hk;rw[e] at this;simp at this;omega);have x1:=he.m.cell hk;have x2:=he.m.row k hk;rw[hr.wf k hk] at e1;rw[e1] at x1 x2;have x3:=x2.cell (i:=c) (by rw[hr.wf k hk];exact hlt);obtain⟨z,hz⟩:∃ z,z=(Gj.row A k).getD c 0:=⟨_,rfl⟩
     rw[<-hz] at x3;have HZ:Hid (en A k c=z):=hid hz.symm;have hkk:(k:Int)< (A0.length:Int):=by omega
     clear hz x2 e1;by_cases hz0:z=0
     ·have tz:(z==0)=true:=by simpa using hz0
      have HZ0:=hid hz0;clear hz0;go_wp2_with(fail)
      go_round;case rel=>
       refine⟨k+1,by go_num,by omega,by omega,hid fun i h1 h2=>?_⟩;by_cases e:i=k
       ·rw[e,HZ.out];exact HZ0.out
       ·exact hlow.out i h1 (by omega)
      case measure=>simp[intOf];omega
     ·have tz:(z==0)=false:=by simpa using hz0
      have HZ0:=hid hz0;clear hz0;go_wp2_with(fail)
      go_meet;case rel=>exact⟨k,rfl,rfl,hk1,hk2,hlow,hid fun _=>by rw[HZ.out];exact HZ0.out⟩
    ·have hkk:¬ (k:Int)< (A0.length:Int):=by omega
     go_wp2_with(fail)
     go_meet;case rel=>exact⟨k,rfl,rfl,hk1,hk2,hlow,hid fun h=>absurd h hk⟩
  case rest=>
   obtain⟨k,rfl,rfl,hk1,hk2,hlow,hke⟩:=hcut;have hfe:=Nq hk1 hk2 hlow.out hke.out hPn;by_cases hkn:k=A.length
   ·have hno:¬ fnd A c P.length<A.length:=fun q=>by have:=hfe.1.1 q;omega
    have HR:=hid (hr.none hno);have HG:Hid (gj (opG G) (cols- (c+1)) (c+1) A P=gj (opG G) cols 0 A0 []):=hid (by
     rw[<-hgP.out,show cols-c=cols- (c+1)+1 by omega,ah9 hno])
    have tk:((k:Int)==(A0.length:Int))=true:=by simp;omega
    clear hfe hno hkn;go_wp2_with(fail)
    go_roundw;case rel=>exact⟨c+1,A,P,pa,pc,rv,by omega,rfl,rfl,by go_num,he,HR.out,hA,HG⟩
    case measure=>simp[intOf];omega
   have hkA:k<A.length:=by omega
   have HPI:=hid (hfe.2 hkA);have tk:((k:Int)==(A0.length:Int))=false:=by simp;omega
   have hPA:P.length<A.length:=by omega
   have hkk:(k:Int)< (A0.length:Int):=by omega
   clear hfe hkn;go_upto_region 11 with(fail)
   go_cut [] (fun wx=>∃ s1:Nat->Value,Er w1 wx (.slice (some ⟨g,0,none⟩) A0.length cap) (dS A P.length k) s1 (.slice pa P.length pc) P)
   case first=>
    obtain⟨a1,n1,c1,e1⟩:=he.m.shape hPA;have x1:=he.m.cell hPA;have f1:=he.m.frozen P.length;by_cases hkr:P.length=k
    ·subst hkr;have hs:=((he.same P.length).same P.length).kept (aC _);rw[e1] at hs x1;have HE:=hid hs;clear hs e1;go_region;all_goals
      go_wp2_with(fail)
      go_meet;case rel=>exact⟨rv,by rw[CJ];exact HE.out⟩
    ·obtain⟨a2,n2,c2,e2⟩:=he.m.shape hkA;have x2:=he.m.cell hkA;have f2:=he.m.frozen k;have hs:=(he.swap hPA hkA hkr).kept (aC _);rw[e1,e2] at hs;rw[e1] at x1;rw[e2] at x2;have HE:=hid hs;have ahH:¬ k=P.length:=fun e=>hkr e.symm;clear hs e1 e2;go_region;all_goals
      go_wp2_with(fail)
      go_meet;case rel=>exact⟨_,HE.out⟩
   case rest=>
    obtain⟨s1,es⟩:=hcut;obtain⟨wy,hwy⟩:∃ x,x=wc:=⟨_,rfl⟩
    rw[<-hwy] at es ⊢;clear hwy he;obtain⟨S,hS⟩:∃ S,S=dS A P.length k:=⟨_,rfl⟩
    have hwS:WF G.q S cols:=by rw[hS];exact SI hr.w hPA hkA
    have hSl:S.length=A.length:=by rw[hS];exact aT _ _ _
    have hxk:en S P.length c=en A k c:=by rw[hS,ji hPA,zu rfl]
    rw[<-hS] at es;have hPS:P.length<S.length:=by omega
    have hrow:(Gj.row S P.length).length=cols:=hwS.wf _ hPS;obtain⟨br,cr,e1,_⟩:=es.m.og hPS (by intro e;rw[e] at hrow;simp at hrow;omega);have x1:=es.m.cell hPS;have f1:=es.m.frozen P.length;have x2:=es.m.row _ hPS;rw[hrow] at e1;rw[e1] at x1 x2;have x3:=x2.cell (i:=c) (by rw[hrow];exact hlt);have hxb:=hwS.bd P.length c hPS hlt;obtain⟨x,hx⟩:∃ x,x=en S P.length c:=⟨_,rfl⟩
    have hx3:wy.cell? ⟨br,c,none⟩=some (.int .i64 x):=by rw[hx];exact x3
    rw[<-hx] at hxb hxk;have hx0:inn G.q x≠0:=by rw[bI hxb,hxk];exact hke.out hkA
    have hi1:=Yp t hxb hx0;have HX:=hid hx;have HS':=hid hS;have HSl:=hid hSl;have HI1:=hid hi1;have E1:=hid e1;clear hi1 hx hxk hSl hS x3 e1 hrow;go_upto_if 69 with(fail)
    go_cut [] (fun wx=>∃ s2:Nat->Value,Er w1 wx (.slice (some ⟨g,0,none⟩) A0.length cap) (scR (opG G) S S P.length c) s2 (.slice pa P.length pc) P)
    case first=>
     by_cases hx1:x=1
     ·have tx:(x != 1)=false:=by simpa using hx1
      have HE:Hid (scR (opG G) S S P.length c=S):=hid (Ky (by rw[<-HX.out];exact HI1.out.2 hx1));clear hx1;go_wp2_with(fail)
      go_meet;case rel=>exact⟨s1,by rw[HE.out];exact es⟩
     ·have tx:(x != 1)=true:=by simpa using hx1
      have HE:Hid (S.set P.length ((Gj.row S P.length).map (bF G (fG G x)))=scR (opG G) S S P.length c):=hid (by
       rw[SH (by rw[<-HX.out];exact fun e=>hx1 (HI1.out.1 e)),<-HX.out];rfl)
      have bfy:=bf.kept es.k;have b0:=bfy.h0;have b1:=bfy.h1;have b2:=bfy.h2;have adD:=gG.kept es.k;have hrs:=x2.sl;have hln:(Gj.row S P.length).length<=1000:=by rw[hwS.wf _ hPS];omega
      have lbr:=(aN x2 rfl).2;have lg:=(es.m.has_lt (g:=g) (.inl rfl)).2;have ngb:¬ g=br:=fun e=>row_ne es.m.out x2 rfl (by rw[e];rfl);have nbg:¬ br=g:=fun e=>ngb e.symm;have ngw:¬ g=w.heap.size:=by have q:=es.gB;have:=HS.out;omega
      have nwg:¬ w.heap.size=g:=fun e=>ngw e.symm;clear hx1;go_wp2_with(fail)
      refine wp_region_noPanic ?_;refine wp_region_held_drew (S:=fun w'=>w'.cell? ⟨w.heap.size,0,none⟩=some (.int .i64 P0)/\w'.cell? ⟨w.heap.size,1,none⟩=some (.int .i64 M0)/\w'.cell? ⟨w.heap.size,2,none⟩=some vm/\w'.cell? ⟨br,c,none⟩=some (.int .i64 x)) (by kernel_rfl) ?_ (fun hHeld=>?_)
      ·(simp[*];done)
      refine tkH 0 ?_;try simp only[bU]
      refine tkH 1 ?_;try simp only[bU]
      refine tkH 2 ?_;try simp only[bU]
      refine tkH 3 ?_;try simp only[bU]
      refine tkH 4 ?_;try simp only[bU]
      refine tkH 5 ?_;try simp only[bU]
      refine tkH 6 ?_;try simp only[bU]
      refine tkH 8 ?_;try simp only[bU]
      refine tkH 12 ?_;try simp only[bU]
      refine tkH 13 ?_;try simp only[bU]
      refine tkH 14 ?_;try simp only[bU]
      refine wpAnyH_ready (rs:=[7,15]) (by kernel_rfl) (by simp) ?_;refine(AllReadyH.cons (o:=?aia) ?ach (fun K hK=>?aci) (AllReadyH.cons (o:=?agT) ?Yq (fun K hK=>?Yr) AllReadyH.nil));case ach=>(simp only[yX,yt,yZ];rfl)
      case Yq=>(simp only[yX,yt,yZ];rfl)
      case aci=>
       go_simp;refine hK.out _ _ ?_ (fun hHeld=>?_)
       ·assumption
       clear hK K;try simp only[bU]
       refine tkH 9 ?_;try simp only[bU]
       refine tkH 10 ?_;try simp only[bU]
       refine wpAnyH_ready (rs:=[11,15]) (by kernel_rfl) (by simp) ?_;refine(AllReadyH.cons (o:=?agU) ?Yt (fun K hK=>?Yu) (AllReadyH.cons (o:=?agV) ?Yv (fun K hK=>?Yw) AllReadyH.nil));case Yt=>(simp only[yX,yt,yZ];rfl)
       case Yv=>(simp only[yX,yt,yZ];rfl)
       case Yu=>
        go_simp;go_at_call 287;(with_reducible refine(Tq G t P0 M0 mod vm x _ (hid ho) (by exact adD.kept (aC _))).mono ?_);rintro e w3 ⟨rfl,hk3⟩;have dN:ay wy w3:=(by exact(aC _).tr hk3);have bf3:=bfy.kept dN;have d30:=bf3.h0;have d31:=bf3.h1;have d32:=bf3.h2;have d33:=(dN.cell' lbr).trans hx3;have d34:=(dN.cell' lg).trans x1;try go_wp2_with(fail)
        refine hK.out _ _ ?_ (fun hHeld=>?_)
        ·(simp[*];done)
        clear hK K;try simp only[bU]
        refine rdH 15 (fun K hK=>?_);go_simp;refine hK.out _ _ ?_ (fun hHeld=>?_)
        ·assumption
        clear hK K;try simp only[bU]
        refine rdH 16 (fun K hK=>?_);go_simp;go_at_call 286;(with_reducible refine(zA G t P0 M0 mod vm (fG G x) _ (Gj.row S P.length) _ ho (by exact adD.kept dN) (by exact hrs.kept dN) hln).mono ?_);rintro e w4 ⟨v4,rfl,ho4,hk4⟩;have fZ:ay wy w4:=(by exact dN.tr hk4);obtain⟨n4,hn4⟩:∃ n,n=((Gj.row S P.length).map (bF G (fG G x))).length:=⟨_,rfl⟩;obtain⟨a4,c4,e4,_,_⟩:=ho4.sl.lenOf;rw[<-hn4] at e4;subst e4;clear hn4;have bf4:=bfy.kept fZ;have d40:=bf4.h0;have d41:=bf4.h1;have d42:=bf4.h2;have d43:=(fZ.cell' lbr).trans hx3;have f4:=(fZ.frozen' lg).trans f1;have d44:=(fZ.cell' lg).trans x1;try go_wp2_with(fail)
        refine hK.out _ _ ?_ (fun hHeld=>?_)
        ·(simp[*];done)
        clear hK K;try simp only[bU]
        refine tkH 17 ?_;try simp only[bU]
        refine rdH 18 (fun K hK=>?_);go_simp;refine hK.out _ _ ?_ (fun hHeld=>?_)
        ·(simp[go_sem, *];done)
        clear hK K;try simp only[bU]
        refine wpAnyH_done (by kernel_rfl) ?_ _;refine NoPanic.normal ?_;go_wp2_with(fail)
        have hp:=es.put fZ hPS (ho4.mono (by have q:=dN.size;exact q));rw[HE.out] at hp;go_meet;case rel=>exact⟨_,hp⟩
       case Yw=>
        go_simp;refine hK.out _ _ ?_ (fun hHeld=>?_)
        ·assumption
        clear hK K;try simp only[bU]
        refine rdH 11 (fun K hK=>?_);go_simp;go_at_call 287;(with_reducible refine(Tq G t P0 M0 mod vm x _ (hid ho) (by exact adD.kept (aC _))).mono ?_);rintro e w3 ⟨rfl,hk3⟩;have dN:ay wy w3:=(by exact(aC _).tr hk3);have bf3:=bfy.kept dN;have d30:=bf3.h0;have d31:=bf3.h1;have d32:=bf3.h2;have d33:=(dN.cell' lbr).trans hx3;have d34:=(dN.cell' lg).trans x1;try go_wp2_with(fail)
        refine hK.out _ _ ?_ (fun hHeld=>?_)
        ·(simp[*];done)
        clear hK K;try simp only[bU]
        refine rdH 16 (fun K hK=>?_);go_simp;go_at_call 286;(with_reducible refine(zA G t P0 M0 mod vm (fG G x) _ (Gj.row S P.length) _ ho (by exact adD.kept dN) (by exact hrs.kept dN) hln).mono ?_);rintro e w4 ⟨v4,rfl,ho4,hk4⟩;have fZ:ay wy w4:=(by exact dN.tr hk4);obtain⟨n4,hn4⟩:∃ n,n=((Gj.row S P.length).map (bF G (fG G x))).length:=⟨_,rfl⟩;obtain⟨a4,c4,e4,_,_⟩:=ho4.sl.lenOf;rw[<-hn4] at e4;subst e4;clear hn4;have bf4:=bfy.kept fZ;have d40:=bf4.h0;have d41:=bf4.h1;have d42:=bf4.h2;have d43:=(fZ.cell' lbr).trans hx3;have f4:=(fZ.frozen' lg).trans f1;have d44:=(fZ.cell' lg).trans x1;try go_wp2_with(fail)
        refine hK.out _ _ ?_ (fun hHeld=>?_)
        ·(simp[*];done)
        clear hK K;try simp only[bU]
        refine tkH 17 ?_;try simp only[bU]
        refine rdH 18 (fun K hK=>?_);go_simp;refine hK.out _ _ ?_ (fun hHeld=>?_)
        ·(simp[go_sem, *];done)
        clear hK K;try simp only[bU]
        refine wpAnyH_done (by kernel_rfl) ?_ _;refine NoPanic.normal ?_;go_wp2_with(fail)
        have hp:=es.put fZ hPS (ho4.mono (by have q:=dN.size;exact q));rw[HE.out] at hp;go_meet;case rel=>exact⟨_,hp⟩
      case Yr=>
       go_simp;refine hK.out _ _ ?_ (fun hHeld=>?_)
       ·assumption
       clear hK K;try simp only[bU]
       refine rdH 7 (fun K hK=>?_);go_simp;refine hK.out _ _ ?_ (fun hHeld=>?_)
       ·assumption
       clear hK K;try simp only[bU]
       refine tkH 9 ?_;try simp only[bU]
       refine tkH 10 ?_;try simp only[bU]
       refine rdH 11 (fun K hK=>?_);go_simp;go_at_call 287;(with_reducible refine(Tq G t P0 M0 mod vm x _ (hid ho) (by exact adD.kept (aC _))).mono ?_);rintro e w3 ⟨rfl,hk3⟩;have dN:ay wy w3:=(by exact(aC _).tr hk3);have bf3:=bfy.kept dN;have d30:=bf3.h0;have d31:=bf3.h1;have d32:=bf3.h2;have d33:=(dN.cell' lbr).trans hx3;have d34:=(dN.cell' lg).trans x1;try go_wp2_with(fail)
       refine hK.out _ _ ?_ (fun hHeld=>?_)
       ·(simp[*];done)
       clear hK K;try simp only[bU]
       refine rdH 16 (fun K hK=>?_);go_simp;go_at_call 286;(with_reducible refine(zA G t P0 M0 mod vm (fG G x) _ (Gj.row S P.length) _ ho (by exact adD.kept dN) (by exact hrs.kept dN) hln).mono ?_);rintro e w4 ⟨v4,rfl,ho4,hk4⟩;have fZ:ay wy w4:=(by exact dN.tr hk4);obtain⟨n4,hn4⟩:∃ n,n=((Gj.row S P.length).map (bF G (fG G x))).length:=⟨_,rfl⟩;obtain⟨a4,c4,e4,_,_⟩:=ho4.sl.lenOf;rw[<-hn4] at e4;subst e4;clear hn4;have bf4:=bfy.kept fZ;have d40:=bf4.h0;have d41:=bf4.h1;have d42:=bf4.h2;have d43:=(fZ.cell' lbr).trans hx3;have f4:=(fZ.frozen' lg).trans f1;have d44:=(fZ.cell' lg).trans x1;try go_wp2_with(fail)
       refine hK.out _ _ ?_ (fun hHeld=>?_)
       ·(simp[*];done)
       clear hK K;try simp only[bU]
       refine tkH 17 ?_;try simp only[bU]
       refine rdH 18 (fun K hK=>?_);go_simp;refine hK.out _ _ ?_ (fun hHeld=>?_)
       ·(simp[go_sem, *];done)
       clear hK K;try simp only[bU]
       refine wpAnyH_done (by kernel_rfl) ?_ _;refine NoPanic.normal ?_;go_wp2_with(fail)
       have hp:=es.put fZ hPS (ho4.mono (by have q:=dN.size;exact q));rw[HE.out] at hp;go_meet;case rel=>exact⟨_,hp⟩
    case rest=>
     obtain⟨s2,et⟩:=hcut;obtain⟨wt,hwt⟩:∃ x,x=wc:=⟨_,rfl⟩
     rw[<-hwt] at et ⊢;clear hwt x1 f1 x2 hx3 es;obtain⟨T,hT⟩:∃ T,T=scR (opG G) S S P.length c:=⟨_,rfl⟩
     rw[<-hT] at et;have hTl:T.length=S.length:=by rw[hT];exact fB _ _ _ _ _
     have hLT:Ln T cols:=by rw[hT];exact SK hwS.wf
     have HT:=hid hT;clear hT;go_wp2_with(fail)
     go_loopw [13] (fun vi wx=>∃ (i:Nat) (s3:Nat->Value),i<=A0.length/\vi=.int .i64 i/\Er w1 wx (.slice (some ⟨g,0,none⟩) A0.length cap) (st2 (opG G) T T P.length c i) s3 (.slice pa P.length pc) P) (fun vi _=>A0.length- (intOf vi).toNat)
     case atStart=>exact⟨0,s2,by omega,rfl,by rw[FT];exact et⟩
     case round=>
      obtain⟨i,s3,hi,rfl,ei⟩:=hrel;obtain⟨wi,hwi⟩:∃ x,x=wr:=⟨_,rfl⟩
      rw[<-hwi] at ei ⊢;clear hwi et;have hXl:(st2 (opG G) T T P.length c i).length=A0.length:=by rw[bK,hTl,HSl.out,hAl]
      have hPT:P.length<T.length:=by rw[hTl,HSl.out];exact hPA
      have hLX:Ln (st2 (opG G) T T P.length c i) cols:=Ns hLT (fun _=>hPT);have hTn:T.length=A0.length:=by rw[hTl,HSl.out,hAl]
      obtain⟨X,hX⟩:∃ X,X=st2 (opG G) T T P.length c i:=⟨_,rfl⟩
      rw[<-hX] at hXl hLX ei;have HX2:=hid hX;have HXl:=hid hXl;clear hX;by_cases hin:i<A0.length
      ·have hin':(i:Int)< (A0.length:Int):=by omega
       have hiX:i<X.length:=by omega
       have hPX:P.length<X.length:=by omega
       by_cases hir:i=P.length
       ·have tr:((i:Int) != (P.length:Int))=false:=by simp;omega
        have HEQ:Hid (st2 (opG G) T T P.length c (i+1)=X):=hid (by rw[HX2.out];exact oU (.inl hir));clear hir;go_wp2_with(fail)
        go_roundw;case rel=>exact⟨i+1,s3,by omega,by go_num,by rw[HEQ.out];exact ei⟩
        case measure=>simp[intOf];omega
       ·have tr:((i:Int) != (P.length:Int))=true:=by simp;omega
        have hri:=hLX i hiX;obtain⟨bi,ci,e1,_⟩:=ei.m.og hiX (by intro e;rw[e] at hri;simp at hri;omega);have x1:=ei.m.cell hiX;have f1:=ei.m.frozen i;have x2:=ei.m.row _ hiX;rw[hri] at e1;rw[e1] at x1 x2;have x3:=x2.cell (i:=c) (by rw[hri];exact hlt);obtain⟨z,hz⟩:∃ z,z=(Gj.row X i).getD c 0:=⟨_,rfl⟩
        rw[<-hz] at x3;have hzT:en T i c=z:=by
         rw[hz,HX2.out];show en T i c=en (st2 (opG G) T T P.length c i) i c;unfold en;rw[jo (by omega),zx (by omega)]
        have E1:=hid e1;have HIR:=hid hir;clear hz e1 hir;by_cases hz0:z=0
        ·have tz:(z != 0)=false:=by simpa using hz0
         have HEQ:Hid (st2 (opG G) T T P.length c (i+1)=X):=hid (by rw[HX2.out];exact oU (.inr (by rw[hzT];exact hz0)));clear hz0;go_wp2_with(fail)
         go_roundw;case rel=>exact⟨i+1,s3,by omega,by go_num,by rw[HEQ.out];exact ei⟩
         case measure=>simp[intOf];omega
        ·have tz:(z != 0)=true:=by simpa using hz0
         have HEQ:Hid (X.set i (iP (opG G) (iE G z) (Gj.row X P.length) (Gj.row X i))=st2 (opG G) T T P.length c (i+1)):=hid (by
          rw[HX2.out];have:=CG (o:=opG G) (A:=T) (A2:=T) (r:=P.length) (c:=c) (i:=i) hPT (by omega) HIR.out (by rw[hzT];exact hz0);rw[hzT] at this;exact this)
         have hrP:=hLX P.length hPX;obtain⟨bP,cP,eP,_⟩:=ei.m.og hPX (by intro e;rw[e] at hrP;simp at hrP;omega);have y1:=ei.m.cell hPX;have y2:=ei.m.row _ hPX;rw[hrP] at eP;rw[eP] at y1 y2;have bfi:=bf.kept ei.k;have b0:=bfi.h0;have b1:=bfi.h1;have b2:=bfi.h2;have aib:=gG.kept ei.k;have hrs:=x2.sl;have hrp:=y2.sl;have hll:(Gj.row X P.length).length=(Gj.row X i).length:=by rw[hrP,hri]
         have hln:(Gj.row X i).length<=1000:=by rw[hri];omega
         have lbi:=(aN x2 rfl).2;have lg:=(ei.m.has_lt (g:=g) (.inl rfl)).2;have ngb:¬ g=bi:=fun e=>row_ne ei.m.out x2 rfl (by rw[e];rfl);have nbg:¬ bi=g:=fun e=>ngb e.symm;have ngw:¬ g=w.heap.size:=by have q:=ei.gB;have:=HS.out;omega
         have nwg:¬ w.heap.size=g:=fun e=>ngw e.symm;have nip:¬ i=P.length:=HIR.out;have npi:¬ P.length=i:=fun e=>nip e.symm;have EP:=hid eP;clear hz0 eP;go_wp2_with(fail)
         refine wp_region_noPanic ?_;refine wp_region_held_drew (S:=fun w'=>w'.cell? ⟨w.heap.size,0,none⟩=some (.int .i64 P0)/\w'.cell? ⟨w.heap.size,1,none⟩=some (.int .i64 M0)/\w'.cell? ⟨w.heap.size,2,none⟩=some vm/\w'.cell? ⟨bi,c,none⟩=some (.int .i64 z)/\w'.cell? ⟨g,P.length,none⟩=some (.slice (some ⟨bP,0,none⟩) cols cP)) (by kernel_rfl) ?_ (fun hHeld=>?_)
         ·(simp[*];done)
         refine tkH 0 ?_;try simp only[bU]
         refine tkH 1 ?_;try simp only[bU]
         refine tkH 2 ?_;try simp only[bU]
         refine tkH 3 ?_;try simp only[bU]
         refine tkH 4 ?_;try simp only[bU]
         refine tkH 5 ?_;try simp only[bU]
         refine tkH 7 ?_;try simp only[bU]
         refine tkH 8 ?_;try simp only[bU]
         refine tkH 9 ?_;try simp only[bU]
         refine tkH 10 ?_;try simp only[bU]
         refine tkH 12 ?_;try simp only[bU]
         refine tkH 16 ?_;try simp only[bU]
         refine tkH 17 ?_;try simp only[bU]
         refine tkH 18 ?_;try simp only[bU]
         refine tkH 19 ?_;try simp only[bU]
         refine wpAnyH_ready (rs:=[6,11]) (by kernel_rfl) (by simp) ?_;refine(AllReadyH.cons (o:=?aic) ?acj (fun K hK=>?acn) (AllReadyH.cons (o:=?agW) ?Yx (fun K hK=>?Yy) AllReadyH.nil));case acj=>(simp only[yX,yt,yZ];rfl)
         case Yx=>(simp only[yX,yt,yZ];rfl)
         case acn=>
          go_simp;refine hK.out _ _ ?_ (fun hHeld=>?_)
          ·assumption
          clear hK K;try simp only[bU]
          refine rdH 11 (fun K hK=>?_);go_simp;refine hK.out _ _ ?_ (fun hHeld=>?_)
          ·assumption
          clear hK K;try simp only[bU]
          refine tkH 13 ?_;try simp only[bU]
          refine tkH 14 ?_;try simp only[bU]
          refine rdH 15 (fun K hK=>?_);go_simp;go_at_call 289;(with_reducible refine(zi G t P0 M0 mod vm z _ ho).mono ?_);rintro e w3 ⟨rfl,hk3⟩;have dN:ay wi w3:=(by exact(aC _).tr hk3);have bf3:=bfi.kept dN;have d30:=bf3.h0;have d31:=bf3.h1;have d32:=bf3.h2;have d33:=(dN.cell' lbi).trans x3;have d34:=(dN.cell' lg).trans x1;have d35:=(dN.cell' lg).trans y1;try go_wp2_with(fail)
          refine hK.out _ _ ?_ (fun hHeld=>?_)
          ·(simp[*];done)
          clear hK K;try simp only[bU]
          refine rdH 20 (fun K hK=>?_);go_simp;go_at_call 288;(with_reducible refine(zC G t P0 M0 mod vm (iE G z) _ _ (Gj.row X i) (Gj.row X P.length) _ ho (by exact aib.kept dN) (by exact hrs.kept dN) (by exact hrp.kept dN) hll hln).mono ?_);rintro e w4 ⟨v4,rfl,ho4,hk4⟩;have fZ:ay wi w4:=(by exact dN.tr hk4);obtain⟨n4,hn4⟩:∃ n,n=(iP (opG G) (iE G z) (Gj.row X P.length) (Gj.row X i)).length:=⟨_,rfl⟩;obtain⟨a4,c4,e4,_,_⟩:=ho4.sl.lenOf;rw[<-hn4] at e4;subst e4;clear hn4;have bf4:=bfi.kept fZ;have d40:=bf4.h0;have d41:=bf4.h1;have d42:=bf4.h2;have d43:=(fZ.cell' lbi).trans x3;have f4:=(fZ.frozen' lg).trans f1;have d44:=(fZ.cell' lg).trans x1;have d45:=(fZ.cell' lg).trans y1;try go_wp2_with(fail)
          refine hK.out _ _ ?_ (fun hHeld=>?_)
          ·(simp[*];done)
          clear hK K;try simp only[bU]
          refine tkH 21 ?_;try simp only[bU]
          refine rdH 22 (fun K hK=>?_);go_simp;refine hK.out _ _ ?_ (fun hHeld=>?_)
          ·(simp[go_sem, *];done)
          clear hK K;try simp only[bU]
          refine wpAnyH_done (by kernel_rfl) ?_ _;refine NoPanic.normal ?_;go_wp2_with(fail)
          have hp:=ei.put fZ hiX (ho4.mono (by have q:=dN.size;exact q));rw[HEQ.out] at hp;go_roundw;case rel=>exact⟨i+1,_,by omega,by go_num,hp⟩
          case measure=>simp[intOf];omega
         case Yy=>
          go_simp;refine hK.out _ _ ?_ (fun hHeld=>?_)
          ·assumption
          clear hK K;try simp only[bU]
          refine tkH 13 ?_;try simp only[bU]
          refine tkH 14 ?_;try simp only[bU]
          refine wpAnyH_ready (rs:=[6,15]) (by kernel_rfl) (by simp) ?_;refine(AllReadyH.cons (o:=?aie) ?aco (fun K hK=>?acp) (AllReadyH.cons (o:=?agX) ?Yz (fun K hK=>?YA) AllReadyH.nil));case aco=>(simp only[yX,yt,yZ];rfl)
          case Yz=>(simp only[yX,yt,yZ];rfl)
          case acp=>
           go_simp;refine hK.out _ _ ?_ (fun hHeld=>?_)
           ·assumption
           clear hK K;try simp only[bU]
           refine rdH 15 (fun K hK=>?_);go_simp;go_at_call 289;(with_reducible refine(zi G t P0 M0 mod vm z _ ho).mono ?_);rintro e w3 ⟨rfl,hk3⟩;have dN:ay wi w3:=(by exact(aC _).tr hk3);have bf3:=bfi.kept dN;have d30:=bf3.h0;have d31:=bf3.h1;have d32:=bf3.h2;have d33:=(dN.cell' lbi).trans x3;have d34:=(dN.cell' lg).trans x1;have d35:=(dN.cell' lg).trans y1;try go_wp2_with(fail)
           refine hK.out _ _ ?_ (fun hHeld=>?_)
           ·(simp[*];done)
           clear hK K;try simp only[bU]
           refine rdH 20 (fun K hK=>?_);go_simp;go_at_call 288;(with_reducible refine(zC G t P0 M0 mod vm (iE G z) _ _ (Gj.row X i) (Gj.row X P.length) _ ho (by exact aib.kept dN) (by exact hrs.kept dN) (by exact hrp.kept dN) hll hln).mono ?_);rintro e w4 ⟨v4,rfl,ho4,hk4⟩;have fZ:ay wi w4:=(by exact dN.tr hk4);obtain⟨n4,hn4⟩:∃ n,n=(iP (opG G) (iE G z) (Gj.row X P.length) (Gj.row X i)).length:=⟨_,rfl⟩;obtain⟨a4,c4,e4,_,_⟩:=ho4.sl.lenOf;rw[<-hn4] at e4;subst e4;clear hn4;have bf4:=bfi.kept fZ;have d40:=bf4.h0;have d41:=bf4.h1;have d42:=bf4.h2;have d43:=(fZ.cell' lbi).trans x3;have f4:=(fZ.frozen' lg).trans f1;have d44:=(fZ.cell' lg).trans x1;have d45:=(fZ.cell' lg).trans y1;try go_wp2_with(fail)
           refine hK.out _ _ ?_ (fun hHeld=>?_)
           ·(simp[*];done)
           clear hK K;try simp only[bU]
           refine tkH 21 ?_;try simp only[bU]
           refine rdH 22 (fun K hK=>?_);go_simp;refine hK.out _ _ ?_ (fun hHeld=>?_)
           ·(simp[go_sem, *];done)
           clear hK K;try simp only[bU]
           refine wpAnyH_done (by kernel_rfl) ?_ _;refine NoPanic.normal ?_;go_wp2_with(fail)
           have hp:=ei.put fZ hiX (ho4.mono (by have q:=dN.size;exact q));rw[HEQ.out] at hp;go_roundw;case rel=>exact⟨i+1,_,by omega,by go_num,hp⟩
           case measure=>simp[intOf];omega
          case YA=>
           go_simp;go_at_call 289;(with_reducible refine(zi G t P0 M0 mod vm z _ ho).mono ?_);rintro e w3 ⟨rfl,hk3⟩;have dN:ay wi w3:=(by exact(aC _).tr hk3);have bf3:=bfi.kept dN;have d30:=bf3.h0;have d31:=bf3.h1;have d32:=bf3.h2;have d33:=(dN.cell' lbi).trans x3;have d34:=(dN.cell' lg).trans x1;have d35:=(dN.cell' lg).trans y1;try go_wp2_with(fail)
           refine hK.out _ _ ?_ (fun hHeld=>?_)
           ·(simp[*];done)
           clear hK K;try simp only[bU]
           refine rdH 6 (fun K hK=>?_);go_simp;refine hK.out _ _ ?_ (fun hHeld=>?_)
           ·assumption
           clear hK K;try simp only[bU]
           refine rdH 20 (fun K hK=>?_);go_simp;go_at_call 288;(with_reducible refine(zC G t P0 M0 mod vm (iE G z) _ _ (Gj.row X i) (Gj.row X P.length) _ ho (by exact aib.kept dN) (by exact hrs.kept dN) (by exact hrp.kept dN) hll hln).mono ?_);rintro e w4 ⟨v4,rfl,ho4,hk4⟩;have fZ:ay wi w4:=(by exact dN.tr hk4);obtain⟨n4,hn4⟩:∃ n,n=(iP (opG G) (iE G z) (Gj.row X P.length) (Gj.row X i)).length:=⟨_,rfl⟩;obtain⟨a4,c4,e4,_,_⟩:=ho4.sl.lenOf;rw[<-hn4] at e4;subst e4;clear hn4;have bf4:=bfi.kept fZ;have d40:=bf4.h0;have d41:=bf4.h1;have d42:=bf4.h2;have d43:=(fZ.cell' lbi).trans x3;have f4:=(fZ.frozen' lg).trans f1;have d44:=(fZ.cell' lg).trans x1;have d45:=(fZ.cell' lg).trans y1;try go_wp2_with(fail)
           refine hK.out _ _ ?_ (fun hHeld=>?_)
           ·(simp[*];done)
           clear hK K;try simp only[bU]
           refine tkH 21 ?_;try simp only[bU]
           refine rdH 22 (fun K hK=>?_);go_simp;refine hK.out _ _ ?_ (fun hHeld=>?_)
           ·(simp[go_sem, *];done)
           clear hK K;try simp only[bU]
           refine wpAnyH_done (by kernel_rfl) ?_ _;refine NoPanic.normal ?_;go_wp2_with(fail)
           have hp:=ei.put fZ hiX (ho4.mono (by have q:=dN.size;exact q));rw[HEQ.out] at hp;go_roundw;case rel=>exact⟨i+1,_,by omega,by go_num,hp⟩
           case measure=>simp[intOf];omega
      ·have hie:i=A0.length:=by omega
       have hin':¬ (i:Int)< (A0.length:Int):=by omega
       have HP:Hid (X=II (opG G) A P.length (fnd A c P.length) c):=hid (by
        rw[HX2.out,hie,HPI.out,<-FU (by omega),pv2,HT.out,HS'.out,<-hAl];try rw[fB,aT])
       have hfk:fnd A c P.length<A.length:=by rw[HPI.out];exact hkA
       have HR:=hid (hr.step t hlt hfk);have HG:Hid (gj (opG G) (cols- (c+1)) (c+1) (II (opG G) A P.length (fnd A c P.length) c) (P++ [c])=gj (opG G) cols 0 A0 []):=hid (by
        rw[<-hgP.out,show cols-c=cols- (c+1)+1 by omega,afu hfk])
       have aeU:(bQ P).length=P.length:=by simp[bQ]
       have aeV:P.length<=256:=by omega
       have HPL:=hid aeU;have hkw:=ah wi (.cells #[.int .i64 c] 3);have ew:=ei.kept hkw;rw[HP.out] at HXl ew;have hB1:w1.heap.size<=(wi.alloc (.cells #[.int .i64 c] 3)).heap.size:=ew.k.size;clear hie aeU;go_wp2_with(at_builtin;refine dn rfl _ _ rfl w1.heap.size _ (bQ P) rfl ew.p ⟨wi.heap.size,0,none⟩ c rfl (aU rfl) (by rw[HPL.out];omega) hB1 ?_;intro g' cap' w7 o7 hg7 hd7;rw[HPL.out] at o7 ⊢)
       have HIN:Hid (bQ P++ [(c:Int)]=bQ (P++ [c])):=hid (by simp[bQ]);rw[HIN.out] at o7;have ex:=ew.app hg7 o7 hd7;clear o7 hg7 hd7;go_roundw;case rel=>exact⟨c+1,_,P++ [c],some ⟨g',0,none⟩,cap',s3,by omega,by simp,by simp,by go_num,by simpa using ex,HR.out,HXl,HG⟩
       case measure=>simp[intOf];omega
theorem Gv {P M:Int} {mod:List Int} (h:qL P M mod):∃ G,aK G/\G.P=P/\G.M=M/\G.mod=mod:=by
 obtain⟨hs,x,g1,g2,g3⟩:=(jK P M mod).2 h;obtain⟨o1,o2,o3,o4,o5,o6⟩:=fK hs.1;obtain⟨m,rfl⟩:=zY (show 0<=M by omega);have e6:dw P m=P^m:=by rw[o6];simp
 have hbd:=xA (p:=P) (by omega) (m:=m) (by omega) mod (x:=x) (by omega) (by rw[<-e6];exact g2);have hnd:=kH P m mod x;have hq0:0<=dw P m:=by omega
 refine⟨⟨P,m,dw P m,mod,pU P m mod x,(List.range (dw P m).toNat).map fun v:Nat=>(((pU P m mod x).idxOf (v:Int):Nat):Int)⟩,⟨hs,rfl,⟨x,g1,g2,by simpa using g3,by simp⟩,by simp,fun i hi=>?_⟩,rfl,rfl,rfl⟩;have hi:i< (pU P m mod x).length:=hi;show((List.range (dw P m).toNat).map fun v:Nat=>(((pU P m mod x).idxOf (v:Int):Nat):Int)).getD ((pU P m mod x).getD i 0).toNat 0=i;have hz:=hbd ((pU P m mod x).getD i 0) (by simp[List.getD,hi]);obtain⟨z,hz0⟩:∃ z,z=(pU P m mod x).getD i 0:=⟨_,rfl⟩
 rw[<-hz0] at hz ⊢;rw[<-e6] at hz;have hzl:z.toNat< (dw P m).toNat:=by omega
 have hzz:((z.toNat:Nat):Int)=z:=by omega
 simp only[List.getD,yM,vZ hzl,sK,zU,hzz];have e:z=(pU P m mod x)[i]:=by rw[hz0];simp[List.getD,hi]
 rw[e,hnd.idxOf_getElem i hi]
theorem Mx.acr {w:World} {B g n cap:Nat} {A:List (List Int)} {rv:Nat->Value} (h:Mx w B (.slice (some ⟨g,0,none⟩) n cap) A rv) {k:Nat} (hk:k<=A.length):Ro w B (.slice (some ⟨g,0,none⟩) k cap) (A.take k):=by
 have hl:(A.take k).length=k:=by simp;omega
 have hcap:k<=cap/\cap<=maxLen:=by
  rcases h.form with⟨e,_⟩|⟨_,_,e,_,_,h3,h4⟩
  ·cases e
  ·cases e;omega
 refine⟨some ⟨g,0,none⟩,cap,by rw[hl],by omega,⟨hcap.2,fun e=>by cases e⟩,fun _=>⟨g,0,rfl,(h.has_lt (.inl rfl)).1,(h.has_lt (.inl rfl)).2,fun i hi=>?_⟩⟩;rw[hl] at hi;refine⟨rv i,by rw[xQ];exact h.cell (by omega), ?_⟩;rw[Bd hi];exact h.row i (by omega)
theorem UF (o:Cw.Op) (P0 M0:Int) (vm:Value) (cols:Nat) (v:Value) (w:World) (hv:Rd w v []):
  Calls Tryz.prog 163 #[.agg #[.int .i64 P0,.int .i64 M0,vm],v,.int .i64 cols] w (acg o [] cols w):=by
 have hk0:=ah w (.cells #[.int .i64 P0,.int .i64 M0,vm] 24);have hv1:=hv.kept hk0;have HG:Hid (gj o cols 0 [] []=([],[])):=hid (UD o cols 0 (zy _));go_enter Tryz.func163,Tryz.ntmps163;go_wp2_with(fail)
 (with_reducible refine(Ji v [] _ hv1 (by simp) (fun i hi=>absurd hi (yw _))).mono ?_)
 rintro e w2 ⟨v',rv0,rfl,hm2,hk2⟩;obtain⟨a,cap,rfl⟩:=hm2.lenOf;have hmm:=hm2.mono hk0.size;have hkk:=hk0.tr hk2;simp only[xP] at*;go_wp2_with(fail)
 go_loopw [9,10,11] (fun vp vr vc wr=>vp=.slice none 0 0/\vr=.int .i64 0/\vc=.int .i64 0/\wr=w2) (fun _ _ vi _=>0)
 case atStart=>exact⟨rfl,rfl,rfl,rfl⟩
 case round=>
  obtain⟨rfl,rfl,rfl,hwr⟩:=hrel;by_cases hlt:0< (cols:Int)
  ·go_wp2_with(fail)
   go_ret2;refine⟨_,_,rv0,rfl, ?_, ?_, ?_⟩
   ·rw[HG.out];exact hmm
   ·rw[HG.out];exact bZ _ _
   ·exact hkk
  ·go_wp2_with(fail)
   go_ret2;refine⟨_,_,rv0,rfl, ?_, ?_, ?_⟩
   ·rw[HG.out];exact hmm
   ·rw[HG.out];exact bZ _ _
   ·exact hkk
def alK (o:Cw.Op) (A:List (List Int)) (cols:Nat) (w:World) (e:Ending) (w':World):Prop:=
 ∃ v' vp,e=.returned (.tuple #[v',vp])/\Ro w' w.heap.size v' (oQ o A cols)/\Own w' w.heap.size vp (bQ (pvL o A cols))/\ay w w'
theorem Py (G:GFd) (t:aK G) (P0 M0:Int) (mod:List Int) (vm:Value) (cols:Nat) (v:Value) (A:List (List Int)) (w:World) (ho:Of G P0 M0 mod) (hvm:Sl w vm mod) (hv:Rd w v A) (hw:WF G.q A cols) (hc2:cols<=256) (hn1:A.length<=256):
  Calls Tryz.prog 112 #[.agg #[.int .i64 P0,.int .i64 M0,vm],v,.int .i64 cols] w (alK (opG G) A cols w):=by
 have hk0:=ah w (.cells #[.int .i64 P0,.int .i64 M0,vm] 24);have hs1:(w.alloc (.cells #[.int .i64 P0,.int .i64 M0,vm] 24)).heap.size=w.heap.size+1:=by simp
 have bf:=aS w P0 M0 vm 24;have hv1:=hv.kept hk0;have gG:=hvm.kept hk0;have HL:Hid ((gj (opG G) cols 0 A []).2.length<=(gj (opG G) cols 0 A []).1.length):=hid (Ar t cols 0 (by omega) (jC hw)).1.lt;have HE:∀ w1,Rd w1 v A->Sl w1 vm mod->Calls Tryz.prog 163 #[.agg #[.int .i64 P0,.int .i64 M0,vm],v,.int .i64 cols] w1 (acg (opG G) A cols w1):=fun w1 h1 h2=>by
  by_cases hA:A=[]
  ·subst hA;exact UF (opG G) P0 M0 vm cols v w1 h1
  ·exact UE G t P0 M0 mod vm cols v A w1 ho h2 h1 hw hc2 hn1 hA
 have HE2:=hid HE;obtain⟨w1,hw1⟩:∃ w1,w1=w.alloc (.cells #[.int .i64 P0,.int .i64 M0,vm] 24):=⟨_,rfl⟩
 rw[<-hw1] at hk0 bf hs1 hv1 gG;have b0:=bf.h0;have b1:=bf.h1;have b2:=bf.h2;clear HE;go_enter Tryz.func112,Tryz.ntmps112;go_wp2_with(fail)
 rw[<-hw1];clear hw1
 (with_reducible refine(HE2.out w1 hv1 gG).mono ?_)
 rintro e w2 ⟨v',vp,rv,rfl,hm2,hp2,hk2⟩;have HM:=hid hm2;obtain⟨B,hB⟩:∃ B,B=(gj (opG G) cols 0 A []).1:=⟨_,rfl⟩
 obtain⟨P,hP⟩:∃ P,P=(gj (opG G) cols 0 A []).2:=⟨_,rfl⟩
 rw[<-hB] at hm2 HL;rw[<-hP] at hp2 HL;have HB:=hid hB;have HP:=hid hP;clear hB hP;have hps:=hp2;obtain⟨pa,pc,rfl,hpl,hpm⟩:=hps.sl.lenOf;unfold maxLen at hpm;rw[aI] at hpl hps ⊢;have HPS:=hid (hps.mono hk0.size);have hPB:=HL.out;have hkk:=hk0.tr hk2;clear hps hp2;rcases hm2.form with⟨rfl,hB0⟩|⟨g,cap,rfl,_,_,hcap,hcm⟩
 ·have hP0:P.length=0:=by rw[hB0] at hPB;simpa using hPB
  have HR:Hid (Ro w2 w.heap.size (.slice none 0 0) (B.take P.length)):=hid (by rw[hP0,List.take_zero];exact aeW _ _);rw[hP0] at HPS ⊢;go_wp2_with(fail)
  go_ret2;refine⟨_,_,rfl, ?_, ?_,hkk⟩
  ·rw[oQ,<-HB.out,<-HP.out];exact HR.out
  ·rw[pvL,<-HP.out];exact HPS.out
 ·have hrd:=(hm2.mono hk0.size).acr hPB;have HR:=hid hrd;unfold maxLen at hcm;have hi1:(P.length:Int)<=(cap:Int):=by omega
  clear hrd hm2 HM;go_wp2_with(fail)
  go_ret2;refine⟨_,_,rfl, ?_, ?_,hkk⟩
  ·rw[oQ,<-HB.out,<-HP.out];exact HR.out
  ·rw[pvL,<-HP.out];exact HPS.out
theorem aap {P M:Int} {mod:List Int} {G:GFd} (t:aK G) (h:G.P=P/\G.M=M/\G.mod=mod):dw P M=G.q:=by rw[t.hq,h.1,h.2.1]
theorem acs {G:GFd} {P M:Int} {mod:List Int} {n:Nat} {A:List (List Int)} (h:aft P M mod n A) (hq:dw P M=G.q):WF G.q A n:=
 ⟨fun i hi=>by have:=h.len i hi;omega,fun i j hi hj=>by have:=h.bd i hi j (by have:=h.len i hi;omega);rw[hq] at this;exact this⟩
def SpP (P M:Int) (mod:List Int) (cols:Int) (A:List (List Int)):Prop:=aft P M mod cols A/\∀ G,aK G->G.P=P->G.M=M->G.mod=mod->oQ (opG G) A cols.toNat=A
theorem afv {P M:Int} {mod:List Int} {cols:Int} {A:List (List Int)} {G:GFd} (t:aK G) (h1:G.P=P) (h2:G.M=M) (h3:G.mod=mod) (hm:aft P M mod cols A) (hc:oQ (opG G) A cols.toNat=A):SpP P M mod cols A:=
 ⟨hm,fun H tH k1 k2 k3=>by rw[EG tH t (by rw[k1,h1]) (by rw[k2,h2]) (by rw[k3,h3])];exact hc⟩
def alL (P M:Int) (mod:List Int) (cols:Int) (A:List (List Int)) (w:World) (e:Ending) (w':World):Prop:=∃ r:Int,e=.returned (.int .i64 r)/\(r=0↔SpP P M mod cols A)/\ay w w'
theorem Lh (P M:Int) (vm:Value) (mod:List Int) (cols:Int) (v:Value) (A:List (List Int)) (w:World) (hvm:Sl w vm mod) (hv:Rd w v A):
  Calls Tryz.prog 55 #[.agg #[.int .i64 P,.int .i64 M,vm],.agg #[.int .i64 cols,v]] w (alL P M mod cols A w):=by
 obtain⟨a,cap,rfl,hcap,hcm,_⟩:=hv.get;obtain⟨am,cm,rfl,_,_⟩:=hvm.lenOf;obtain⟨nm,hnm⟩:∃ n,n=mod.length:=⟨_,rfl⟩
 rw[<-hnm] at hvm ⊢;clear hnm;obtain⟨w1,hw1⟩:∃ w1,w1=(w.alloc (.cells #[.int .i64 P,.int .i64 M,.slice am nm cm] 24)).alloc (.cells #[.int .i64 cols,.slice a A.length cap] 71):=⟨_,rfl⟩
 have hk1:ay w w1:=by rw[hw1];exact(ah _ _).tr (ah _ _)
 have bf:nJ w1 w.heap.size P M (.slice am nm cm):=by rw[hw1];exact(aS w _ _ _ _).kept (ah _ _)
 have bm:BoxM w1 (w.heap.size+1) cols (.slice a A.length cap):=by
  rw[hw1];have:=gX (w.alloc (.cells #[.int .i64 P,.int .i64 M,.slice am nm cm] 24)) cols (.slice a A.length cap) 71;simpa using this
 have gG:=hvm.kept hk1;have hv1:=hv.kept hk1;have b0:=bf.h0;have b1:=bf.h1;have b2:=bf.h2;have m0:=bm.h0;have m1:=bm.h1;go_enter Tryz.func55,Tryz.ntmps55;go_wp2_with(fail)
 rw[<-hw1];clear hw1 hvm hv
 (with_reducible refine(Ld P M (.slice am nm cm) mod cols _ A w1 gG hv1).mono ?_)
 rintro e w2 ⟨r,rfl,hr,hk2⟩;have hk12:=hk1.tr hk2;by_cases hr0:r=0;case neg=>
  have tr:(r != 0)=true:=by simpa using hr0
  have HR:Hid (¬SpP P M mod cols A):=hid fun q=>hr0 (hr.2 q.1);have HR0:=hid hr0;clear hr0 hr;go_wp2_with(fail)
  go_ret;exact⟨r,rfl,⟨fun e=>absurd e HR0.out,fun e=>absurd e HR.out⟩,hk12⟩
 subst hr0;have hmp:=hr.1 rfl;obtain⟨G,t,h1,h2,h3⟩:=Gv hmp.ck;have hq:=aap t ⟨h1,h2,h3⟩;obtain⟨n,rfl⟩:=zY hmp.lo;have hwf:=acs hmp hq;have hn1:=hmp.hi;have hn2:=hmp.n;have HMP:=hid hmp;have bf2:=bf.kept hk2;have bm2:=bm.kept hk2;have Hu:=gG.kept hk2;have hv2:=hv1.kept hk2;clear b0 b1 b2 m0 m1 hr hk1 hk2 gG hv1 bf bm;have b0:=bf2.h0;have b1:=bf2.h1;have b2:=bf2.h2;have m0:=bm2.h0;have m1:=bm2.h1;have HGF:Hid (Of G P M mod):=hid ⟨h1,h2,h3⟩;clear h1 h2 h3 hq;go_wp2_with(fail)
 (with_reducible refine(Py G t P M mod (.slice am nm cm) n _ A w2 HGF.out Hu hv2 hwf (by omega) (by omega)).mono ?_)
 rintro e w3 ⟨v',vp,rfl,hr3,hp3,hk3⟩;have bm3:=bm2.kept hk3;have hv3:=hv2.kept hk3;have ajV:=hr3.rd;obtain⟨ca,cc,rfl,_,_⟩:=hr3.get;have hps:=hp3.sl;obtain⟨pa,pc,rfl,_,_⟩:=hps.lenOf;have Bj:=hk12.tr hk3;clear m0 m1 hr3 hp3 hps;have m1:=bm3.h1;by_cases hc:oQ (opG G) A n=A
 ·have HC:Hid (SpP P M mod n A):=hid (afv t HGF.out.1 HGF.out.2.1 HGF.out.2.2 HMP.out (by simpa using hc));have HCE:=hid hc;clear hc;go_wp2_with(fail)
  refine(Az _ _ _ _ w3 ajV hv3 true ⟨fun _=>HCE.out,fun _=>rfl⟩).mono ?_;rintro e w4 ⟨rfl,n4,rfl⟩;go_wp2_with(fail)
  go_ret;exact⟨0,rfl,⟨fun _=>HC.out,fun _=>rfl⟩,Bj.drewN _⟩
 ·have HC:Hid (¬SpP P M mod n A):=hid fun q=>hc (by simpa using q.2 G t HGF.out.1 HGF.out.2.1 HGF.out.2.2);have HCE:=hid hc;clear hc;go_wp2_with(fail)
  refine(Az _ _ _ _ w3 ajV hv3 false ⟨(fun h=>by cases h),fun h=>absurd h HCE.out⟩).mono ?_;rintro e w4 ⟨rfl,n4,rfl⟩;go_wp2_with(fail)
  go_ret;exact⟨5,rfl,⟨(fun e=>by cases e),fun e=>absurd e HC.out⟩,Bj.drewN _⟩
def acu (P M:Int) (mod:List Int) (n:Int) (A:List (List Int)):Prop:=SpP P M mod n A/\1<=n/\n<=64
def alM (P M:Int) (mod:List Int) (n:Int) (A:List (List Int)) (w:World) (e:Ending) (w':World):Prop:=∃ r:Int,e=.returned (.int .i64 r)/\(r=0↔acu P M mod n A)/\ay w w'
theorem Lj (P M:Int) (ma:Option Addr) (ml mc:Nat) (mod:List Int) (n:Int) (va:Option Addr) (vn vc:Nat) (A:List (List Int)) (w:World) (hvm:Sl w (.slice ma ml mc) mod) (hv:Rd w (.slice va vn vc) A):
  Calls Tryz.prog 21 #[.agg #[.int .i64 P,.int .i64 M,.slice ma ml mc,.int .i64 n,.slice va vn vc]] w (alM P M mod n A w):=by
 obtain⟨w1,hw1⟩:∃ w1,w1=w.alloc (.cells #[.int .i64 P,.int .i64 M,.slice ma ml mc,.int .i64 n,.slice va vn vc] 29):=⟨_,rfl⟩
 have hk1:ay w w1:=by rw[hw1];exact ah _ _
 have bc:SX w1 w.heap.size P M (.slice ma ml mc) n (.slice va vn vc):=by rw[hw1];exact mD _ _ _ _ _ _ _
 have gG:=hvm.kept hk1;have hv1:=hv.kept hk1;have b0:=bc.h0;have b1:=bc.h1;have b2:=bc.h2;have b3:=bc.h3;have b4:=bc.h4;go_enter Tryz.func21,Tryz.ntmps21;go_wp2_with(fail)
 rw[<-hw1];clear hw1 hvm hv;by_cases hck:qL P M mod;case neg=>
  (with_reducible refine(oZ P M (.slice ma ml mc) mod w1 gG 1 (.inr ⟨hck,rfl⟩)).mono ?_)
  rintro e w2 ⟨rfl,hk2⟩;go_wp2_with(fail)
  go_ret;exact⟨1,rfl,⟨(fun e=>by cases e),fun q=>absurd q.1.1.ck hck⟩,hk1.tr hk2⟩
 (with_reducible refine(oZ P M (.slice ma ml mc) mod w1 gG 0 (.inl ⟨hck,rfl⟩)).mono ?_)
 rintro e w2 ⟨rfl,hk2⟩;have bc2:=bc.kept hk2;have Hu:=gG.kept hk2;have hv2:=hv1.kept hk2;have hk12:=hk1.tr hk2;clear b0 b1 b2 b3 b4 hck;have b0:=bc2.h0;have b1:=bc2.h1;have b2:=bc2.h2;have b3:=bc2.h3;have b4:=bc2.h4;by_cases g1:n<1
 ·go_wp2_with(fail)
  go_ret;exact⟨4,rfl,⟨(fun e=>by cases e),fun q=>by have:=q.2.1;omega⟩,hk12⟩
 by_cases g2:n>64
 ·go_wp2_with(fail)
  go_ret;exact⟨4,rfl,⟨(fun e=>by cases e),fun q=>by have:=q.2.2;omega⟩,hk12⟩
 go_wp2_with(fail)
 (with_reducible refine(Lh P M (.slice ma ml mc) mod n (.slice va vn vc) A w2 Hu hv2).mono ?_)
 rintro e w3 ⟨r,rfl,hr,hk3⟩;go_wp2_with(fail)
 go_ret;exact⟨r,rfl,⟨fun e=>⟨hr.1 e,by omega,by omega⟩,fun q=>hr.2 q.1⟩,hk12.tr hk3⟩
def Few (P M:Int) (mod:List Int) (n:Int) (A:List (List Int)) (m:Int) (w:World) (e:Ending) (w':World):Prop:=∃ r:Bool,e=.returned (.bool r)/\(r=true->acu P M mod n A/\n<=m)/\ay w w'
end
end Go.Proofs.YtoilbeadokallaaGreatDoor
