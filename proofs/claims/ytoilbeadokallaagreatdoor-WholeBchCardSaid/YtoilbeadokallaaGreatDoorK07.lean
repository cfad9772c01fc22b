/- Lemmas on the way to the row. Conditions: each lemma's own, stated with it. -/
import Derived.Test.YtoilbeadokallaaGreatDoorK02
import Derived.Test.YtoilbeadokallaaGreatDoorK03
import Derived.Test.YtoilbeadokallaaGreatDoorK06
import Derived.Deep.RegionHeld3
import Derived.Deep.DeepCutAuto
import Derived.WalkLawsBesides
set_option maxHeartbeats 2000000
namespace Go.Proofs.YtoilbeadokallaaGreatDoor
section
open Go.RowKit Cw
structure aeH (w3 wx:World) (b gl gm cm:Nat) (P M:Int) (q:Nat) (mod:List Int) (akO:Value):Prop where
 hb:w3.heap.size<=b
 hb2:b<wx.heap.size
 hgl:w3.heap.size<=gl
 hgb:gl≠b
 hgm:mod≠ []->gm≠gl
 c0:wx.cell? ⟨b,0,none⟩=some (.int .i64 P)
 c1:wx.cell? ⟨b,1,none⟩=some (.int .i64 M)
 c2:wx.cell? ⟨b,2,none⟩=some (.slice (some ⟨gm,0,none⟩) mod.length cm)
 c3:wx.cell? ⟨b,3,none⟩=some (.int .i64 q)
 c4:wx.cell? ⟨b,4,none⟩=some akO
 c5:wx.cell? ⟨b,5,none⟩=some (.slice (some ⟨gl,0,none⟩) q q)
 hm:Own wx w3.heap.size (.slice (some ⟨gm,0,none⟩) mod.length cm) mod
 hl:Own wx w3.heap.size (.slice (some ⟨gl,0,none⟩) q q) (List.replicate q 0)
 bel:Below w3.heap.size w3 wx
theorem fA (P M:Int) (vm:Value) (mod:List Int) (w:World) (hvm:Sl w vm mod) (hs:fD P M mod):
  Calls Tryz.prog 47 #[.agg #[.int .i64 P,.int .i64 M,vm]] w fun e w'=>∃ b G,e=.returned (.tuple #[.pointer (some ⟨b,0,none⟩),.int .i64 0])/\dW w' b G/\aK G/\G.P=P/\G.M=M/\G.mod=mod/\ay w w':=by
 have hk0:=ah w (.cells #[.int .i64 P,.int .i64 M,vm] 24);have hv1:=hvm.kept hk0;have hbx:=aS w P M vm 24;obtain⟨hs,hex⟩:=hs;obtain⟨o1,o2,o3,o4,o5,o6⟩:=fK hs.1;obtain⟨m,rfl⟩:=zY (show 0<=M by omega);have hm:(m:Int).toNat=m:=by omega
 rw[hm] at o5 o6;have h1:1<=P^m:=uV (by omega);obtain⟨q,hq⟩:=zY (show 0<=P^m by omega);have HO:Hid (dw P m=q):=hid (by rw[o6,hq]);have Hq:=hid hq;have hq2:q<=256:=by omega
 have hml:1<m->mod.length=m:=fun h=>by have:=(hs.2.2.2 (by omega)).1;omega
 have anu:mod.length<=8:=by
  by_cases e:m=1
  ·have:=hs.2.2.1 (by omega);subst this;simp
  ·have:=(hs.2.2.2 (by omega)).1;omega
 have hmd:fF P mod:=by
  by_cases e:m=1
  ·have:=hs.2.2.1 (by omega);subst this;intro x hx;cases hx
  ·exact(hs.2.2.2 (by omega)).2
 have HN:Hid (∃ x,1<=x/\x< (q:Int)/\kG P m mod q x):=hid (by
  obtain⟨x,g1,g2,g3⟩:=hex;rw[HO.out] at g2 g3;exact⟨x,g1,g2,by simpa using g3⟩)
 have HS:=hid hs;clear hs hex hq h1 o5 o6;go_enter Tryz.func47,Tryz.ntmps47;go_wp2_with(first
  |(go_at_call 44;refine(kR P m vm mod _ hv1 true ⟨fun _=>HS.out,fun _=>rfl⟩).mono ?_;rintro e w1 ⟨rfl,hk1⟩;have bx1:=hbx.kept hk1;have c0:=bx1.h0;have c1:=bx1.h1;have c2:=bx1.h2)
  |(go_at_call 46;refine(dP P m _).mono ?_;rintro e w2 ⟨rfl,n2,rfl⟩;rw[HO.out])
  |(go_at_call 45;refine(jB P m vm mod q _ ((hv1.kept hk1).kept (aB _ _)) o1 o2 (by omega) (by omega) Hq.out hq2 hml hmd).mono ?_;rintro e w3 ⟨hk3,(⟨g,v,g1,g2,g3,rfl,ho⟩|⟨hno,_⟩)⟩;rotate_left;(exact absurd HN.out (fun⟨x,g1,g2,g3⟩=>hno x g1 g2 g3));rcases ho.form with⟨_,hnil⟩|⟨ge,cap,rfl,hg1,hg2,hg3,hg4⟩;(exact absurd hnil (E5 _ _ _ _))))
 have hmk:=qJ q (by omega);have bx3:=(bx1.drewN n2).kept hk3;have d0:=bx3.h0;have d1:=bx3.h1;have d2:=bx3.h2;have hv3:=((hv1.kept hk1).kept (aB _ n2)).kept hk3;obtain⟨av,cv,rfl,hcv1,hcv2,aby⟩:=hv3;have hB0:Below w3.heap.size w3 (w3.alloc (.cells #[] 3)).drew:=((Below.refl _ _).alloc (zy _) _).drew;have hO0:Own (w3.alloc (.cells #[] 3)).drew w3.heap.size (.slice (some ⟨w3.heap.size,0,none⟩) 0 0) []:=(iW (zy _)).drew;have hB1:Below w3.heap.size w3 ((w3.alloc (.cells #[] 3)).alloc (.cells (madeCells #[.int .i64 0] q) 3)).drew:=(((Below.refl _ _).alloc (zy _) _).alloc (by simp) _).drew;have hO1:Own ((w3.alloc (.cells #[] 3)).alloc (.cells (madeCells #[.int .i64 0] q) 3)).drew w3.heap.size (.slice (some ⟨w3.heap.size,0,none⟩) 0 0) []:=((iW (zy _)).kept (ah _ _)).drew;have hB2:Below w3.heap.size w3 ((w3.alloc (.cells (madeCells #[.int .i64 0] q) 3)).alloc (.cells #[] 3)).drew:=(((Below.refl _ _).alloc (zy _) _).alloc (by simp) _).drew;have hO2:Own ((w3.alloc (.cells (madeCells #[.int .i64 0] q) 3)).alloc (.cells #[] 3)).drew w3.heap.size (.slice (some ⟨w3.heap.size+1,0,none⟩) 0 0) []:=by
  have h:=iW (w:=w3.alloc (.cells (madeCells #[.int .i64 0] q) 3)) (B:=w3.heap.size) (by simp);simp at h;exact h.drew
 have hL1:Own ((w3.alloc (.cells #[] 3)).alloc (.cells (madeCells #[.int .i64 0] q) 3)).drew w3.heap.size (.slice (some ⟨w3.heap.size+1,0,none⟩) q q) (List.replicate q 0):=by
  have h:=jA (w:=w3.alloc (.cells #[] 3)) (B:=w3.heap.size) (n:=q) (by omega) (by simp);simp only[World.size_alloc] at h;exact h.drew
 have hL2:Own ((w3.alloc (.cells (madeCells #[.int .i64 0] q) 3)).alloc (.cells #[] 3)).drew w3.heap.size (.slice (some ⟨w3.heap.size,0,none⟩) q q) (List.replicate q 0):=
  ((jA (by omega) (zy _)).kept (ah _ _)).drew
 have hsrc:∀ W,Below w3.heap.size w3 W->∀ ad,av=some ad->∀ j,j<mod.length->W.cell? (ad.add j)=some (.int .i64 (mod.getD j 0)):=fun W hW ad had j hj=>by
  obtain⟨b',off',e,hb',hc'⟩:=aby (by intro e;rw[e] at hj;simp at hj);rw[had] at e;cases e
  rw[Addr.add_lit];exact(Below.cell hW (p:=⟨b',off'+j,none⟩) hb').trans (hc' j hj)
 have hcv0:av=none->cv=0:=hcv2.2;have aeI:mod≠ []->av≠none:=fun h=>by
  obtain⟨b',off',e,_⟩:=aby h;rw[e];simp
 have Hs:=hid hsrc;have H0:=hid hcv0;have H1:=hid aeI;clear hsrc hcv0 aeI aby
 go_cut [6] (fun s6 wx=>∃ b gl gm cm:Nat,s6=.pointer (some ⟨b,0,none⟩)/\aeH w3 wx b gl gm cm P m q mod (.slice (some ⟨ge,0,none⟩) (pU P m mod g).length cap))
 case first=>
  go_region_held3 (fun w'=>w'.cell? ⟨w.heap.size,0,none⟩=some (.int .i64 P)/\w'.cell? ⟨w.heap.size,1,none⟩=some (.int .i64 m)/\w'.cell? ⟨w.heap.size,2,none⟩=some (.slice av mod.length cv)) ((go_keep;done))
   (first|(refine gI rfl (.tmp 26) (.tmp 28) rfl w3.heap.size _ rfl hO2 av mod.length cv mod rfl rfl H0.out H1.out (Hs.out _ hB2) (by omega) ?_;intro gm cm w4 hg4 gm1 gm2 ho4;have hb4:=dI hB2 hg4 hB2.size hO2.lt.1;have bx4:=bx3.below hb4 bx3.lt;have e0:=bx4.h0;have e1:=bx4.h1;have e2:=bx4.h2;have hl4:=hL2.grown hg4 (by omega);have gm3:=hid gm1;clear gm1)|(refine gI rfl (.tmp 26) (.tmp 28) rfl w3.heap.size _ rfl hO0 av mod.length cv mod rfl rfl H0.out H1.out (Hs.out _ hB0) (by omega) ?_;intro gm cm w4 hg4 gm1 gm2 ho4;have hb4:=dI hB0 hg4 hB0.size hO0.lt.1;have bx4:=bx3.below hb4 bx3.lt;have e0:=bx4.h0;have e1:=bx4.h1;have e2:=bx4.h2;have gm3:=hid gm1;clear gm1)|(refine gI rfl (.tmp 26) (.tmp 28) rfl w3.heap.size _ rfl hO1 av mod.length cv mod rfl rfl H0.out H1.out (Hs.out _ hB1) (by omega) ?_;intro gm cm w4 hg4 gm1 gm2 ho4;have hb4:=dI hB1 hg4 hB1.size hO1.lt.1;have bx4:=bx3.below hb4 bx3.lt;have e0:=bx4.h0;have e1:=bx4.h1;have e2:=bx4.h2;have hl4:=hL1.grown hg4 (by omega);have gm3:=hid gm1;clear gm1))
  all_goals(go_wp2_with fail;go_meet)
  ·have z:=ho4.lt.2;have z2:=hb4.size;exact⟨w4.heap.size+1,w4.heap.size,gm,cm,rfl,⟨by omega,by simp,z2,by omega,fun _=>by omega,by simp,by simp,by simp,by simp,by simp,by simp,(ho4.kept (ah _ _)).kept (ah _ _),((jA (by omega) z2).kept (ah _ _)),(hb4.alloc z2 _).alloc (by simp;omega) _⟩⟩
  ·have z:=hl4.lt.2;have z2:=hb4.size;exact⟨w4.heap.size,w3.heap.size+1,gm,cm,rfl,⟨by omega,by simp,by omega,by omega,fun h=>by have:=gm3.out h;simp at this;omega,by simp,by simp,by simp,by simp,by simp,by simp,ho4.kept (ah _ _),hl4.kept (ah _ _),hb4.alloc z2 _⟩⟩
  ·have z:=hl4.lt.2;have z2:=hb4.size;exact⟨w4.heap.size,w3.heap.size,gm,cm,rfl,⟨by omega,by simp,by omega,by omega,fun h=>by have:=gm3.out h;simp at this;omega,by simp,by simp,by simp,by simp,by simp,by simp,ho4.kept (ah _ _),hl4.kept (ah _ _),hb4.alloc z2 _⟩⟩
 case rest=>
  obtain⟨b,gl,gm,cm,rfl,hmid⟩:=hcut;clear hL1 hL2 hB0 hB1 hB2 hO0 hO1 hO2 hmk d0 d1 d2 Hs H0 H1 c0 c1 c2;go_wp2_with(fail)
  obtain⟨ex,hex⟩:∃ l,l=pU P m mod g:=⟨_,rfl⟩
  have hxb:∀ z∈ex,0<=z/\z< (q:Int):=by rw[hex,<-Hq.out];exact xA o1 (by omega) mod (by omega) (by rw[Hq.out];exact g2)
  have hnd:Hid (ex.Nodup):=hid (by rw[hex];exact kH _ _ _ _);rw[<-hex] at ho hg3 hmid ⊢;have HX:=hid hex;clear hex;have ahx:∀ i,i<ex.length->w3.cell? ⟨ge,i,none⟩=some (.int .i64 (ex.getD i 0)):=fun i hi=>ho.cell hi;have akP:ex.length<=256:=by
   have:=g3.1;rw[<-HX.out] at this;omega
  go_loopw [39] (fun vk wr=>∃ (k:Nat) (lg:List Int),k<=ex.length/\vk=.int .i64 k/\Hid (lg.length=q)/\Hid (∀ i,i<k->lg.getD (ex.getD i 0).toNat 0=i)/\Own wr w3.heap.size (.slice (some ⟨gl,0,none⟩) q q) lg/\wc.grownBy wr (some gl)) (fun vk _=>ex.length- (intOf vk).toNat)
  case atStart=>exact⟨0,_,by omega,rfl,hid (by simp),hid (fun i hi=>by omega),hmid.hl,World.grownBy.refl _ _⟩
  case round=>
   obtain⟨k,lg,hk,rfl,hlen,hlg,hown,hgr⟩:=hrel;have hbg:some b≠some gl:=fun e=>hmid.hgb (by cases e;rfl);have hsame:∀ o,wr.cell? ⟨b,o,none⟩=wc.cell? ⟨b,o,none⟩:=fun o=>World.cell?_of_block (a:=⟨b,o,none⟩) (hgr.block b hmid.hb2 hbg);have hge:some ge≠some gl:=fun e=>by have:=hmid.hgl;cases e;omega
   have agH:∀ i,i<ex.length->wr.cell? ⟨ge,i,none⟩=some (.int .i64 (ex.getD i 0)):=fun i hi=>
    (World.cell?_of_block (a:=⟨ge,i,none⟩) (hgr.block ge (by have:=hmid.bel.size;omega) hge)).trans ((Below.cell hmid.bel (p:=⟨ge,i,none⟩) hg2).trans (ahx i hi))
   by_cases hlt:k<ex.length
   ·have cE:=agH k hlt;have hzm:0<=ex.getD k 0/\ex.getD k 0< (q:Int):=hxb _ (by simp only[List.getD,zq hlt,zU];exact zF _);have hstep:=WJ (lg:=lg) hnd.out hxb hlen.out hlt hlg.out;obtain⟨z,hz⟩:=zY hzm.1;rw[hz] at cE hstep hzm;have hzq:z<q:=by omega
    have hfz:=hown.frozen z;have hcz:=hown.cell (i:=z) (by rw[hlen.out];exact hzq);have hset:=hown.set z (k:Int);have adw:=aO hgr (aj wr gl z (.int .i64 (k:Int)));have c5:=(hsame 5).trans hmid.c5;have HST:Hid (∀ i,i<k+1->(lg.set z k).getD (ex.getD i 0).toNat 0=i):=hid (by simpa using hstep);clear agH hsame hown hgr ahx hz hzm hstep;go_wp2_with(fail)
    go_roundw;case rel=>exact⟨k+1,lg.set z k,by omega,by go_num,hid (by simp[hlen.out]),HST,hset,adw⟩
    case measure=>simp[intOf];omega
   ·have hkl:k=ex.length:=by omega
    have hgf:dW wr b ⟨P,m,q,mod,ex,lg⟩:=by
     refine⟨zZ hmid.hb2 hgr.size,(hsame 0).trans hmid.c0,(hsame 1).trans hmid.c1,⟨_,(hsame 2).trans hmid.c2, ?_⟩,(hsame 3).trans hmid.c3,⟨ge,cap,(hsame 4).trans hmid.c4,by have:=hmid.bel.size;have:=hgr.size;omega,agH⟩,⟨gl,q, ?_,hown.lt.2,fun i hi=>hown.cell hi⟩⟩
     ·by_cases hmn:mod=[]
      ·subst hmn;refine⟨_,cm,rfl,xZ _,⟨?_,fun e=>by cases e⟩,fun h=>absurd rfl h⟩;have:=hmid.hm.form;rcases this with⟨e,_⟩|⟨_,_,e,_,_,_,hc⟩
       ·cases e
       ·cases e;exact hc
      ·exact(hmid.hm.grown hgr (hmid.hgm hmn)).sl
     ·rw[(hsame 5).trans hmid.c5];show _=some (Value.slice _ lg.length q);rw[hlen.out]
    have htab:aK ⟨P,m,q,mod,ex,lg⟩:=⟨HS.out,HO.out.symm,⟨g,g1,g2,by simpa using g3,by simpa using HX.out⟩,by simpa using hlen.out,fun i hi=>hlg.out i (by rw[hkl];exact hi)⟩
    have hkept:ay w wr:=by
     have h1:ay w w3:=(hk0.tr (hk1.drewN n2)).tr hk3;exact h1.trans ((hmid.bel.mono h1.size).trans (dI (Below.refl _ _) hgr (zJ h1.size hmid.bel.size) (zJ h1.size hmid.hgl)))
    clear hsame agH ahx hkl;go_wp2_with(fail)
    go_ret2;exact⟨b,_,rfl,hgf,htab,rfl,rfl,rfl,hkept⟩
theorem Nl (b:Nat) (q x:Int) (w:World) (hq:w.cell? ⟨b,3,none⟩=some (.int .i64 q)) (h0:0<=x) (h1:x<q):
  Calls Tryz.prog 105 #[.pointer (some ⟨b,0,none⟩),.int .i64 x] w fun e w'=>e=.returned (.bool true)/\∃ m,w'=w.drewN m:=by
 go_enter Tryz.func105,Tryz.ntmps105
 go_wp2
 go_ret;exact⟨by simp[*],0,rfl⟩
theorem abz (b:Nat) (q x:Int) (w:World) (hq:w.cell? ⟨b,3,none⟩=some (.int .i64 q)) (h:x<0∨q<=x):
  Calls Tryz.prog 105 #[.pointer (some ⟨b,0,none⟩),.int .i64 x] w fun e w'=>e=.returned (.bool false)/\∃ m,w'=w.drewN m:=by
 by_cases h0:x<0
 ·clear h;go_enter Tryz.func105,Tryz.ntmps105
  go_wp2
  go_ret;exact⟨by simp[*],0,rfl⟩
 ·have h1:0<=x:=by omega
  have h2:q<=x:=by omega
  clear h0 h;go_enter Tryz.func105,Tryz.ntmps105
  go_wp2
  go_ret;exact⟨by simp;omega,0,rfl⟩
theorem jc (b:Nat) (q x:Int) (w:World) (hq:w.cell? ⟨b,3,none⟩=some (.int .i64 q)):
  Calls Tryz.prog 58 #[.pointer (some ⟨b,0,none⟩),.int .i64 x] w fun e w'=>e=.returned (.int .i64 (inn q x))/\∃ m,w'=w.drewN m:=by
 by_cases h:0<=x/\x<q
 ·rw[bI h];obtain⟨h0,h1⟩:=h;go_enter Tryz.func58,Tryz.ntmps58;go_wp2_with(go_at_call 105;refine(Nl _ _ _ _ hq h0 h1).mono ?_;rintro e w' ⟨rfl,m,rfl⟩)
  go_ret;exact⟨rfl,m,rfl⟩
 ·rw[Qw h];have h':x<0∨q<=x:=by omega
  clear h;go_enter Tryz.func58,Tryz.ntmps58;go_wp2_with(go_at_call 105;refine(abz _ _ _ _ hq h').mono ?_;rintro e w' ⟨rfl,m,rfl⟩)
  go_ret;exact⟨rfl,m,rfl⟩
theorem abA (b:Nat) (P q x0 y0 X Y:Int) (m:Nat) (w:World) (hP:w.cell? ⟨b,0,none⟩=some (.int .i64 P)) (hq:w.cell? ⟨b,3,none⟩=some (.int .i64 q)) (hP2:2<P) (hP3:P<=256)
  (hX:inn q x0=X) (hY:inn q y0=Y) (hX1:X<=255) (hY1:Y<=255) (hst:BI P m X Y X Y 0 1):
  Calls Tryz.prog 115 #[.pointer (some ⟨b,0,none⟩),.int .i64 x0,.int .i64 y0] w fun e w'=>e=.returned (.int .i64 (Af P m X Y))/\∃ m,w'=w.drewN m:=by
 have HX:=hid hX;have HY:=hid hY;clear hX hY;have hPe:(P==2)=false:=by simp;omega
 go_enter Tryz.func115,Tryz.ntmps115;go_wp2_with(fail)
 refine(jc _ _ _ _ hq).mono ?_;rintro e w' ⟨rfl,m1,rfl⟩;rw[HX.out];go_wp2_with(fail)
 refine(jc _ _ _ _ (by simpa using hq)).mono ?_;rintro e w' ⟨rfl,m2,rfl⟩;rw[HY.out];go_wp2_with(fail)
 go_loopw [1,2,7,8] (fun vx vy vs vp wr=>∃ x y s p:Int,vx=.int .i64 x/\vy=.int .i64 y/\vs=.int .i64 s/\vp=.int .i64 p/\BI P m X Y x y s p/\∃ n,wr=w.drewN n)
  (fun vx vy _ _ _=>(intOf vx).toNat+(intOf vy).toNat)
 case atStart=>exact⟨_,_,_,_,rfl,rfl,rfl,rfl,hst,_,rfl⟩
 case round=>
  obtain⟨x,y,s,p,rfl,rfl,rfl,rfl,hinv,n,rfl⟩:=hrel;obtain⟨b1,b2,b3,b4,b5,b6⟩:=Qx hinv;by_cases hxy:0<x∨0<y
  ·obtain⟨c1,c2,c3,c4,c5,hinv'⟩:=JU (by omega) hP3 hX1 hY1 hinv hxy;have HI:=hid hinv';clear hinv hst hinv';have d1:=xI b1 (show 0<=P by omega);have d2:=xI b2 (show 0<=P by omega);have q1:=zK x (show P≠0 by omega);have q2:=zQ x (show 0<P by omega);have q3:=zK y (show P≠0 by omega);have q4:=zQ y (show 0<P by omega);have r1:=zK (x+y) (show P≠0 by omega);have r2:=zQ (x+y) (show 0<P by omega);have hlt:x/P<=x:=wJ P b1;have hlt2:y/P<=y:=wJ P b2;have HM:Hid ((x/P).toNat+(y/P).toNat<x.toNat+y.toNat):=hid (by
    rcases hxy with g|g
    ·have:x/P<x:=div_lt_self (by omega) g;omega
    ·have:y/P<y:=div_lt_self (by omega) g;omega)
   have hxy':0<x∨(¬0<x/\0<y):=by omega
   clear hxy;rcases hxy' with hx|⟨hx,hy⟩;all_goals
    go_wp2_with(fail)
    go_quiet(fail);go_wp2_with(fail)
    go_roundw;case rel=>exact⟨_,_,_,_,rfl,rfl,rfl,rfl,HI.out,_,rfl⟩
    case measure=>exact HM.out
  ·have hx0:x=0:=by omega
   have hy0:y=0:=by omega
   subst hx0 hy0;have hfin:=hid (Oo hinv);go_wp2_with(fail)
   go_ret;exact⟨aW hfin.out,_,rfl⟩
theorem abB (b:Nat) (q x0 y0 X Y:Int) (w:World) (hP:w.cell? ⟨b,0,none⟩=some (.int .i64 2)) (hq:w.cell? ⟨b,3,none⟩=some (.int .i64 q))
  (hX:inn q x0=X) (hY:inn q y0=Y) (_hX0:0<=X) (_hY0:0<=Y) (_hX1:X<=255) (_hY1:Y<=255):
  Calls Tryz.prog 115 #[.pointer (some ⟨b,0,none⟩),.int .i64 x0,.int .i64 y0] w fun e w'=>e=.returned (.int .i64 (bits BinOp.xor .i64 X Y))/\∃ m,w'=w.drewN m:=by
 have HX:=hid hX;have HY:=hid hY;clear hX hY;go_enter Tryz.func115,Tryz.ntmps115;go_wp2_with(fail)
 refine(jc _ _ _ _ hq).mono ?_;rintro e w' ⟨rfl,m1,rfl⟩;rw[HX.out];go_wp2_with(fail)
 refine(jc _ _ _ _ (by simpa using hq)).mono ?_;rintro e w' ⟨rfl,m2,rfl⟩;rw[HY.out];go_wp2_with(fail)
 go_ret;exact⟨rfl,_,rfl⟩
theorem IG (a b:Nat) (ha:a<256) (hb:b<256):bits .xor .i64 (a:Int) (b:Int)=((a ^^^ b:Nat):Int):=by
 have hx:a ^^^ b<2^8:=Nat.xor_lt_two_pow (by omega) (by omega);have h1:(BitVec.ofInt 64 (a:Int)).toNat=a:=by
  rw[BitVec.ofInt_natCast,BitVec.toNat_ofNat];exact vX (by omega)
 have h2:(BitVec.ofInt 64 (b:Int)).toNat=b:=by
  rw[BitVec.ofInt_natCast,BitVec.toNat_ofNat];exact vX (by omega)
 show IntKind.i64.wrap ((BitVec.ofInt 64 (a:Int) ^^^ BitVec.ofInt 64 (b:Int)).toNat:Int)=_;rw[BitVec.toNat_xor,h1,h2,IntKind.wrap_i64];omega
theorem Np:∀ (k a b:Nat),a<2^k->b<2^k->((a ^^^ b:Nat):Int)=Af 2 k a b
 |0,a,b,ha,hb=>by
  have h1:a=0:=by simp at ha;exact ha
  have h2:b=0:=by simp at hb;exact hb
  subst h1 h2;rfl
 |k+1,a,b,ha,hb=>by
  rw[Nat.pow_succ] at ha hb;have ih:=Np k (a/2) (b/2) (by omega) (by omega);have e1:(a ^^^ b) /2=a/2 ^^^ b/2:=Nat.xor_div_two;have e2:(a ^^^ b)%2=(a+b)%2:=by
   have:=Nat.xor_mod_two_pow (a:=a) (b:=b) (n:=1);rw[Nat.pow_one] at this;rcases Nat.mod_two_eq_zero_or_one a with h1|h1<;>rcases Nat.mod_two_eq_zero_or_one b with h2|h2<;>rw[h1,h2] at this<;>rw[this,Nat.add_mod,h1,h2]<;>rfl
  rw[<-e1] at ih;rw[Af];have e3:((a:Int) /2)=((a/2:Nat):Int):=by omega
  have e4:((b:Int) /2)=((b/2:Nat):Int):=by omega
  rw[e3,e4,<-ih];omega
theorem add_any (b:Nat) (G:GFd) (x y:Int) (w:World) (hg:dW w b G) (ht:aK G):
  Calls Tryz.prog 115 #[.pointer (some ⟨b,0,none⟩),.int .i64 x,.int .i64 y] w fun e w'=>e=.returned (.int .i64 (gu G x y))/\∃ m,w'=w.drewN m:=by
 obtain⟨q1,q2,q3,q4,q5,q6,q7⟩:=ht.qb;have hX:=iY (q:=G.q) (by omega) x;have hY:=iY (q:=G.q) (by omega) y;by_cases h2:G.P=2
 ·have hP:=hg.hP;rw[h2] at hP;refine(abB b G.q x y _ _ w hP hg.hq rfl rfl hX.1 hY.1 (by omega) (by omega)).mono fun e w' ⟨he,hw⟩=>⟨?_,hw⟩
  rw[he];refine aW ?_;obtain⟨X,hXn⟩:=zY hX.1;obtain⟨Y,hYn⟩:=zY hY.1;have e:((2^G.M.toNat:Nat):Int)=(2:Int)^G.M.toNat:=by simp
  have eq:G.q=((2^G.M.toNat:Nat):Int):=by rw[e,q7,h2]
  have hx2:=hX.2;have hy2:=hY.2;rw[hXn,eq] at hx2;rw[hYn,eq] at hy2;unfold gu;rw[hXn,hYn,IG X Y (by omega) (by omega),h2];exact Np _ X Y (Int.ofNat_lt.1 hx2) (Int.ofNat_lt.1 hy2)
 ·exact abA b G.P G.q x y _ _ G.M.toNat w hg.hP hg.hq (by omega) q4 rfl rfl (by omega) (by omega) (Ia (by rw[<-q7];exact hX) (by rw[<-q7];exact hY))
theorem y7 (b:Nat) (G:GFd) (x0:Int) (w:World) (hg:dW w b G) (ht:aK G):
  Calls Tryz.prog 71 #[.pointer (some ⟨b,0,none⟩),.int .i64 x0] w fun e w'=>e=.returned (.int .i64 (iE G x0))/\∃ m,w'=w.drewN m:=by
 obtain⟨q1,q2,q3,q4,q5,q6,q7⟩:=ht.qb;have hX:=iY (q:=G.q) (by omega) x0;have hst:=Ib (P:=G.P) (m:=G.M.toNat) (X:=inn G.q x0) (by rw[<-q7];exact hX);have hP:=hg.hP;have hq:=hg.hq;have hfin:Hid (iE G x0=AZ G.P G.M.toNat (inn G.q x0)):=hid rfl;have Q7:=hid q7;clear q7 hg ht;obtain⟨X,hXe⟩:∃ X,X=inn G.q x0:=⟨_,rfl⟩
 rw[<-hXe] at hX hst hfin;have HX:=hid hXe.symm;clear hXe;generalize G.P=P at*;generalize G.M.toNat=m at*;generalize G.q=q at*;go_enter Tryz.func71,Tryz.ntmps71;go_wp2_with(fail)
 refine(jc _ _ _ _ hq).mono ?_;rintro e w' ⟨rfl,m1,rfl⟩;rw[HX.out];go_wp2_with(fail)
 go_loopw [1,5,6] (fun vx vs vp wr=>∃ x s p:Int,vx=.int .i64 x/\vs=.int .i64 s/\vp=.int .i64 p/\Eh P m X x s p/\∃ n,wr=w.drewN n)
  (fun vx _ _ _=>(intOf vx).toNat)
 case atStart=>exact⟨_,_,_,rfl,rfl,rfl,hst,_,rfl⟩
 case round=>
  obtain⟨x,s,p,rfl,rfl,rfl,hinv,n,rfl⟩:=hrel;obtain⟨b1,b3,b4,b5⟩:=Qy hinv;by_cases hx:0<x
  ·obtain⟨c1,c2,c3,c4,c5,hinv'⟩:=JV q3 q4 (by omega) hinv hx;have HI:=hid hinv';clear hinv hst hinv';have d1:=xI b1 (show 0<=P by omega);have k1:=zK x (show P≠0 by omega);have k2:=zQ x (show 0<P by omega);have r1:=zK (-(x%P)) (show P≠0 by omega);have r2:=zQ (-(x%P)) (show 0<P by omega);have hlt:x/P<=x:=wJ P b1;have HM:Hid ((x/P).toNat<x.toNat):=hid (by have:x/P<x:=div_lt_self q3 hx;omega);go_wp2_with(fail)
   have w1':IntKind.i64.wrap (P-x%P)=P-x%P:=IntWalk.i64_in _ (by omega);have w2':IntKind.i64.wrap (-(x%P)%P*p)=-(x%P)%P*p:=IntWalk.i64_in _ (by clear w1';omega);have w3':IntKind.i64.wrap (s+ -(x%P)%P*p)=s+ -(x%P)%P*p:=IntWalk.i64_in _ (by clear w1' w2';omega);go_quiet(fail);clear w1' w2' w3';go_wp2_with(fail)
   go_roundw;case rel=>exact⟨_,_,_,rfl,rfl,rfl,HI.out,_,rfl⟩
   case measure=>exact HM.out
  ·have hx0:x=0:=by omega
   subst hx0;have hend:=hid (Oq hinv);go_wp2_with(fail)
   go_ret;exact⟨aW (by rw[hfin.out,hend.out]),_,rfl⟩
theorem Sm (b:Nat) (G:GFd) (x y:Int) (w:World) (hg:dW w b G) (ht:aK G):
  Calls Tryz.prog 189 #[.pointer (some ⟨b,0,none⟩),.int .i64 x,.int .i64 y] w fun e w'=>e=.returned (.int .i64 (gu G x (iE G y)))/\∃ m,w'=w.drewN m:=by
 go_enter Tryz.func189,Tryz.ntmps189;go_wp2_with(first|(go_at_call 71;refine(y7 b G y _ hg ht).mono ?_;rintro e w' ⟨rfl,m1,rfl⟩)|(go_at_call 115;refine(add_any b G x (iE G y) _ (hg.drewN _) ht).mono ?_;rintro e w' ⟨rfl,m2,rfl⟩))
 go_ret;exact⟨rfl,_,rfl⟩
theorem mul_any (b:Nat) (G:GFd) (x0 y0:Int) (w:World) (hg:dW w b G) (ht:aK G):
  Calls Tryz.prog 94 #[.pointer (some ⟨b,0,none⟩),.int .i64 x0,.int .i64 y0] w fun e w'=>e=.returned (.int .i64 (bF G x0 y0))/\∃ m,w'=w.drewN m:=by
 obtain⟨q1,q2,q3,q4,q5,q6,q7⟩:=ht.qb;have hX:=iY (q:=G.q) (by omega) x0;have hY:=iY (q:=G.q) (by omega) y0;have hq:=hg.hq;have hfin:Hid (bF G x0 y0=if inn G.q x0=0∨inn G.q y0=0 then 0 else JJ G (qK G (inn G.q x0)+qK G (inn G.q y0))):=hid rfl;have Q7:=hid q7;clear q7;obtain⟨X,hXe⟩:∃ X,X=inn G.q x0:=⟨_,rfl⟩
 obtain⟨Y,hYe⟩:∃ Y,Y=inn G.q y0:=⟨_,rfl⟩
 rw[<-hXe] at hX hfin;rw[<-hYe] at hY hfin;have HX:=hid hXe.symm;have HY:=hid hYe.symm;clear hXe hYe;by_cases hx:X=0
 ·subst hx;go_enter Tryz.func94,Tryz.ntmps94;go_wp2_with(fail)
  refine(jc _ _ _ _ hq).mono ?_;rintro e w' ⟨rfl,m1,rfl⟩;rw[HX.out];go_wp2_with(fail)
  refine(jc _ _ _ _ (by simpa using hq)).mono ?_;rintro e w' ⟨rfl,m2,rfl⟩;rw[HY.out];go_wp2_with(fail)
  go_ret;exact⟨aW (by rw[hfin.out];simp),_,rfl⟩
 by_cases hy:Y=0
 ·subst hy;have tx:(X==0)=false:=by simpa using hx
  clear hx;go_enter Tryz.func94,Tryz.ntmps94;go_wp2_with(fail)
  refine(jc _ _ _ _ hq).mono ?_;rintro e w' ⟨rfl,m1,rfl⟩;rw[HX.out];go_wp2_with(fail)
  refine(jc _ _ _ _ (by simpa using hq)).mono ?_;rintro e w' ⟨rfl,m2,rfl⟩;rw[HY.out];go_wp2_with(fail)
  go_ret;exact⟨aW (by rw[hfin.out];simp),_,rfl⟩
 have tx:(X==0)=false:=by simpa using hx
 have ty:(Y==0)=false:=by simpa using hy
 obtain⟨be,ce,e1,e2,e3⟩:=hg.hexp;obtain⟨bl,cl,l1,l2,l3⟩:=hg.agG;have lx:=ht.Ic (z:=X) (by omega) hX.2;have ly:=ht.Ic (z:=Y) (by omega) hY.2;have hR:Hid (bF G x0 y0=JJ G (qK G X+qK G Y)):=hid (by rw[hfin.out,zx (by rintro(h|h);exact hx h;exact hy h)]);have hll:=ht.llen;have hel:=ht.ZA;have cX:=l3 X.toNat (by omega);have cY:=l3 Y.toNat (by omega);clear l3;obtain⟨Xn,rfl⟩:=zY hX.1;obtain⟨Yn,rfl⟩:=zY hY.1;have hlx:Hid (qK G Xn=G.log.getD (Xn:Int).toNat 0):=hid rfl;have hly:Hid (qK G Yn=G.log.getD (Yn:Int).toNat 0):=hid rfl;obtain⟨u,hu⟩:∃ u,u=G.log.getD (Xn:Int).toNat 0:=⟨_,rfl⟩
 obtain⟨v,hv⟩:∃ u,u=G.log.getD (Yn:Int).toNat 0:=⟨_,rfl⟩
 rw[<-hu] at cX lx hlx;rw[<-hv] at cY ly hly;clear hu hv hx hy hfin;have m0:=zK (u+v) (show G.q-1≠0 by omega);have m1:=zQ (u+v) (show 0<G.q-1 by omega);have cE:=e3 ((u+v)%(G.q-1)).toNat (by omega);have hF:Hid (bF G x0 y0=G.exp.getD ((u+v)%(G.q-1)).toNat 0):=hid (by rw[hR.out,hlx.out,hly.out];rfl);have HLL:=hid hll;have HEL:=hid hel;have hxl:(Xn:Int)< (G.log.length:Int):=by omega
 have hyl:(Yn:Int)< (G.log.length:Int):=by omega
 have hml:(u+v)%(G.q-1)< (G.exp.length:Int):=by omega
 have nx:(Xn:Int).toNat=Xn:=by omega
 have ny:(Yn:Int).toNat=Yn:=by omega
 rw[nx] at cX;rw[ny] at cY;clear nx ny hll hel e3 hR hlx hly;obtain⟨z,hz⟩:∃ t,t=G.exp.getD ((u+v)%(G.q-1)).toNat 0:=⟨_,rfl⟩
 rw[<-hz] at cE hF;clear hz;go_enter Tryz.func94,Tryz.ntmps94;go_wp2_with(fail)
 refine(jc _ _ _ _ hq).mono ?_;rintro e w' ⟨rfl,m1,rfl⟩;rw[HX.out];go_wp2_with(fail)
 refine(jc _ _ _ _ (by simpa using hq)).mono ?_;rintro e w' ⟨rfl,m2,rfl⟩;rw[HY.out];go_wp2_with(fail)
 have w1':IntKind.i64.wrap (u+v)=u+v:=IntWalk.i64_in _ (by omega);have w2':IntKind.i64.wrap (G.q-1)=G.q-1:=IntWalk.i64_in _ (by clear w1';omega);go_quiet(fail);clear w1' w2';go_wp2_with(fail)
 go_ret;exact⟨aW hF.out.symm,_,World.drewN_drewN _ _ _⟩
theorem kS (b:Nat) (G:GFd) (w:World) (hg:dW w b G):
  Calls Tryz.prog 95 #[.pointer (some ⟨b,0,none⟩)] w fun e w'=>e=.returned (.int .i64 G.q)/\∃ m,w'=w.drewN m:=by
 have hq:=hg.hq;go_enter Tryz.func95,Tryz.ntmps95
 go_wp2
 go_ret;exact⟨rfl,0,rfl⟩
theorem pX (b:Nat) (G:GFd) (x0:Int) (w:World) (hg:dW w b G) (ht:aK G) (hx:inn G.q x0≠0):
  Calls Tryz.prog 178 #[.pointer (some ⟨b,0,none⟩),.int .i64 x0] w fun e w'=>e=.returned (.tuple #[.int .i64 (fG G x0),.int .i64 0])/\∃ m,w'=w.drewN m:=by
 obtain⟨q1,q2,q3,q4,q5,q6,q7⟩:=ht.qb;have hX:=iY (q:=G.q) (by omega) x0;have hq:=hg.hq;have hR:Hid (fG G x0=JJ G (G.q-1-qK G (inn G.q x0))):=hid (by unfold fG;rw[zx hx]);have Q7:=hid q7;clear q7;obtain⟨X,hXe⟩:∃ X,X=inn G.q x0:=⟨_,rfl⟩
 rw[<-hXe] at hX hR hx;have HX:=hid hXe.symm;clear hXe;have tx:(X==0)=false:=by simpa using hx
 obtain⟨be,ce,e1,e2,e3⟩:=hg.hexp;obtain⟨bl,cl,l1,l2,l3⟩:=hg.agG;have lx:=ht.Ic (z:=X) (by omega) hX.2;have hll:=ht.llen;have hel:=ht.ZA;have cX:=l3 X.toNat (by omega);clear l3;obtain⟨Xn,rfl⟩:=zY hX.1;have hlx:Hid (qK G Xn=G.log.getD (Xn:Int).toNat 0):=hid rfl;obtain⟨u,hu⟩:∃ u,u=G.log.getD (Xn:Int).toNat 0:=⟨_,rfl⟩
 rw[<-hu] at cX lx hlx;clear hu hx;have m0:=zK (G.q-1-u) (show G.q-1≠0 by omega);have m1:=zQ (G.q-1-u) (show 0<G.q-1 by omega);have cE:=e3 ((G.q-1-u)%(G.q-1)).toNat (by omega);have hF:Hid (fG G x0=G.exp.getD ((G.q-1-u)%(G.q-1)).toNat 0):=hid (by rw[hR.out,hlx.out];rfl);have HLL:=hid hll;have HEL:=hid hel;have hxl:(Xn:Int)< (G.log.length:Int):=by omega
 have hml:(G.q-1-u)%(G.q-1)< (G.exp.length:Int):=by omega
 have nx:(Xn:Int).toNat=Xn:=by omega
 rw[nx] at cX;clear nx hll hel e3 hR hlx;obtain⟨z,hz⟩:∃ t,t=G.exp.getD ((G.q-1-u)%(G.q-1)).toNat 0:=⟨_,rfl⟩
 rw[<-hz] at cE hF;clear hz;generalize G.q=q at*;have hmm:Hid ((q-1-u)%(q-1)=-u%(q-1)):=hid (by simp);rw[hmm.out] at m0 m1 cE hml;go_enter Tryz.func178,Tryz.ntmps178;go_wp2_with(go_at_call 58;refine(jc _ _ _ _ hq).mono ?_;rintro e w' ⟨rfl,m1,rfl⟩;rw[HX.out])
 have w1':IntKind.i64.wrap (q-1)=q-1:=IntWalk.i64_in _ (by omega);have w2':IntKind.i64.wrap (q-1-u)=q-1-u:=IntWalk.i64_in _ (by clear w1';omega);go_quiet(fail);clear w1' w2';go_wp2_with(fail)
 go_ret2;exact⟨by rw[hF.out,hmm.out];rfl,_,World.drewN_drewN _ _ _⟩
theorem pow_zero (b:Nat) (G:GFd) (x0:Int) (w:World) (hg:dW w b G):
  Calls Tryz.prog 24 #[.pointer (some ⟨b,0,none⟩),.int .i64 x0,.int .i64 0] w fun e w'=>e=.returned (.tuple #[.int .i64 1,.int .i64 0])/\∃ m,w'=w.drewN m:=by
 have hq:=hg.hq;go_enter Tryz.func24,Tryz.ntmps24;go_wp2_with(go_at_call 58;refine(jc _ _ _ _ hq).mono ?_;rintro e w' ⟨rfl,m1,rfl⟩)
 go_ret2;exact⟨rfl,_,rfl⟩
theorem aeJ (b:Nat) (G:GFd) (x0 n:Int) (w:World) (hg:dW w b G) (ht:aK G) (hx:inn G.q x0≠0) (hn:n≠0) (_hn1:-9223372036854775808<=n) (_hn2:n<=9223372036854775807):
  Calls Tryz.prog 24 #[.pointer (some ⟨b,0,none⟩),.int .i64 x0,.int .i64 n] w fun e w'=>e=.returned (.tuple #[.int .i64 (pJ G x0 n),.int .i64 0])/\∃ m,w'=w.drewN m:=by
 obtain⟨q1,q2,q3,q4,q5,q6,q7⟩:=ht.qb;have hX:=iY (q:=G.q) (by omega) x0;have hq:=hg.hq;have hR:Hid (pJ G x0 n=JJ G (qK G (inn G.q x0)*(n%(G.q-1)))):=hid rfl;have Q7:=hid q7;clear q7;obtain⟨X,hXe⟩:∃ X,X=inn G.q x0:=⟨_,rfl⟩
 rw[<-hXe] at hX hR hx;have HX:=hid hXe.symm;clear hXe;have tx:(X==0)=false:=by simpa using hx
 have tn:(n==0)=false:=by simpa using hn
 obtain⟨be,ce,e1,e2,e3⟩:=hg.hexp;obtain⟨bl,cl,l1,l2,l3⟩:=hg.agG;have lx:=ht.Ic (z:=X) (by omega) hX.2;have hll:=ht.llen;have hel:=ht.ZA;have cX:=l3 X.toNat (by omega);clear l3;obtain⟨Xn,rfl⟩:=zY hX.1;have hlx:Hid (qK G Xn=G.log.getD (Xn:Int).toNat 0):=hid rfl;obtain⟨u,hu⟩:∃ u,u=G.log.getD (Xn:Int).toNat 0:=⟨_,rfl⟩
 rw[<-hu] at cX lx hlx;clear hu hx;have v0:=zK n (show G.q-1≠0 by omega);have v1:=zQ n (show 0<G.q-1 by omega);obtain⟨v,hv⟩:∃ v,v=n%(G.q-1):=⟨_,rfl⟩
 have HV:Hid ((n.tmod (G.q-1)+(G.q-1))%(G.q-1)=v):=hid (by rw[Qz,hv]);rw[<-hv] at v0 v1 hR;clear hv;obtain⟨t1,t2⟩:=aaV (n:=n) (k:=G.q-1) (by omega);obtain⟨p1,p2⟩:=eY (u:=u) (v:=v) lx.1 (by omega) v0 (by omega);have m0:=zK (u*v) (show G.q-1≠0 by omega);have m1:=zQ (u*v) (show 0<G.q-1 by omega);have cE:=e3 ((u*v)%(G.q-1)).toNat (by omega);have hF:Hid (pJ G x0 n=G.exp.getD ((u*v)%(G.q-1)).toNat 0):=hid (by rw[hR.out,hlx.out];rfl);have HLL:=hid hll;have HEL:=hid hel;have hxl:(Xn:Int)< (G.log.length:Int):=by omega
 have hml:(u*v)%(G.q-1)< (G.exp.length:Int):=by omega
 have nx:(Xn:Int).toNat=Xn:=by omega
 rw[nx] at cX;clear nx hll hel e3 hR hlx;obtain⟨z,hz⟩:∃ t,t=G.exp.getD ((u*v)%(G.q-1)).toNat 0:=⟨_,rfl⟩
 rw[<-hz] at cE hF;clear hz hn;obtain⟨lx1,lx2⟩:=lx;generalize G.q=q at*;have HVV:=HV.out;clear HV;have s0:0<=n.tmod (q-1)+(q-1):=by omega
 go_enter Tryz.func24,Tryz.ntmps24;go_wp2_with(go_at_call 58;refine(jc _ _ _ _ hq).mono ?_;rintro e w' ⟨rfl,m1,rfl⟩;rw[HX.out])
 have w1':IntKind.i64.wrap (u*v)=u*v:=IntWalk.i64_in _ (by clear HVV;omega);go_quiet(fail);clear w1';go_wp2_with(fail)
 go_ret2;exact⟨by rw[hF.out];rfl,_,World.drewN_drewN _ _ _⟩
theorem Sr (b:Nat) (G:GFd) (v1 v2:Value) (l1 l2:List Int) (w:World) (hg:dW w b G) (ht:aK G) (hv1:Sl w v1 l1) (hv2:Sl w v2 l2):
  Calls Tryz.prog 96 #[.pointer (some ⟨b,0,none⟩),v1,v2] w fun e w'=>e=.returned (.int .i64 (Ei G l1 l2 (min l1.length l2.length)))/\∃ m,w'=w.drewN m:=by
 obtain⟨a1,cap1,rfl,hcap1,⟨hcm1,_⟩,hc1⟩:=hv1;obtain⟨a2,cap2,rfl,hcap2,⟨hcm2,_⟩,hc2⟩:=hv2;unfold maxLen at hcm1 hcm2;go_enter Tryz.func96,Tryz.ntmps96;go_wp2_with(fail)
 all_goals
  go_loopw [7,14] (fun vs vi wr=>∃ k:Nat,k<=min l1.length l2.length/\vi=.int .i64 k/\vs=.int .i64 (Ei G l1 l2 k)/\∃ n,wr=w.drewN n) (fun _ vi _=>min l1.length l2.length- (intOf vi).toNat)
  case atStart=>exact⟨0,by omega,rfl,rfl,0,rfl⟩
  case round=>
   obtain⟨k,hk,rfl,rfl,n,hw⟩:=hrel;have hgw:dW wr b G:=by rw[hw];exact hg.drewN n
   have hcw:∀ a,wr.cell? a=w.cell? a:=fun a=>by rw[hw];rfl
   have HW:=hid hw;clear hw;by_cases hlt:k<min l1.length l2.length
   ·obtain⟨b1,off1,rfl,hb1,hcell1⟩:=hc1 (by intro e;rw[e] at hlt;simp at hlt);obtain⟨b2,off2,rfl,hb2,hcell2⟩:=hc2 (by intro e;rw[e] at hlt;simp at hlt);have hlt1:k<l1.length:=by omega
    have hlt2:k<l2.length:=by omega
    have hck1:=(hcw _).trans (hcell1 k hlt1);have ahy:=(hcw _).trans (hcell2 k hlt2);have hst:Hid (Ei G l1 l2 (k+1)=gu G (Ei G l1 l2 k) (bF G (l1.getD k 0) (l2.getD k 0))):=hid rfl;obtain⟨z1,hz1⟩:∃ z,z=l1.getD k 0:=⟨_,rfl⟩
    obtain⟨z2,hz2⟩:∃ z,z=l2.getD k 0:=⟨_,rfl⟩
    obtain⟨s,hs⟩:∃ s,s=Ei G l1 l2 k:=⟨_,rfl⟩
    rw[<-hz1] at hck1 hst;rw[<-hz2] at ahy hst;rw[<-hs] at hst ⊢;clear hcell1 hcell2 hcw hz1 hz2 hs;have i0:(0:Int)<=(k:Int):=by omega
    have i1:(k:Int)< (l1.length:Int):=by omega
    have i2:(k:Int)< (l2.length:Int):=by omega
    have HLT:=hid hlt;clear hlt;go_wp2_with(fail)
    go_quiet(first|(go_at_call 94;refine Calls.quiet_of (mul_any b G z1 z2 _ (hgw.drewN _) ht))|(go_at_call 115;refine Calls.quiet_of (add_any b G s (bF G z1 z2) _ (hgw.drewN _) ht)));go_wp2_with(fail)
    go_roundw;case rel=>exact⟨k+1,by have:=HLT.out;omega,by go_num,iC hst.out.symm,_,by rw[HW.out,World.drewN_drewN]⟩
    case measure=>have:=HLT.out;simp[intOf];omega
   ·clear hcw;have e:Hid (k=min l1.length l2.length):=hid (by omega);go_wp2_with(fail)
    go_ret;exact⟨aW (by rw[e.out]),_,HW.out⟩
end
end Go.Proofs.YtoilbeadokallaaGreatDoor
