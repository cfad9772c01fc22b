/- Lemmas on the way to the row. Conditions: each lemma's own, stated with it. -/
import Derived.Test.YtoilbeadokallaaGreatDoorK28
set_option maxHeartbeats 4000000
namespace Go.Proofs.YtoilbeadokallaaGreatDoor
section
open Go.RowKit Cw Cw.Gj
theorem acP (b:Nat) (G:GFd) (t:aK G) (bv n cap:Nat) (a:Int) (xs:List Int) (vu:Value) (us:List Int) (w0 w:World) (hg:dW w0 b G) (hk:ay w0 w) (hv:Own w w0.heap.size (.slice (some ⟨bv,0,none⟩) n cap) xs) (hu:Sl w0 vu us) (hl:us.length=xs.length) (hlen:xs.length<=1000):
  Calls Tryz.prog 186 #[.pointer (some ⟨b,0,none⟩),.slice (some ⟨bv,0,none⟩) n cap,.int .i64 a,vu] w fun e w'=>e=.returned (.tuple #[])/\w.grownBy w' (some bv)/\Own w' w0.heap.size (.slice (some ⟨bv,0,none⟩) n cap) (iP (opG G) a us xs):=by
 have hn:n=xs.length:=by
  rcases hv.form with⟨e,_⟩|⟨_,_,e,_⟩
  ·cases e
  ·cases e;rfl
 subst hn;have hbv:=hv.lt;obtain⟨ua,uc,rfl,hcap,hcm⟩:=hu.lenOf;unfold maxLen at hcm;rw[hl] at hcap ⊢;have HL:=hid hl;clear hl;have HU:=hid hu;rw[HL.out] at HU;have hsz0:=hk.size;clear hu;go_enter Tryz.func186,Tryz.ntmps186;go_wp2_with(fail)
 go_loopw [12,8,9] (fun vi _ _ wr=>∃ (k:Nat) (ys:List Int),k<=xs.length/\vi=.int .i64 k/\Hid (ys.length=xs.length)/\Hid (∀ j,j<xs.length->ys.getD j 0=if j<k then(iP (opG G) a us xs).getD j 0 else xs.getD j 0)/\
   Own wr w0.heap.size (.slice (some ⟨bv,0,none⟩) xs.length cap) ys/\w.grownBy wr (some bv)/\ay w0 wr) (fun vi _ _ _=>xs.length- (intOf vi).toNat)
 case atStart=>exact⟨0,xs,by omega,rfl,hid rfl,hid (fun j hj=>by simp),hv,World.grownBy.refl _ _,hk⟩
 case round=>
  obtain⟨k,ys,hkl,rfl,hyl,hys,hown,hgr,hkr⟩:=hrel;by_cases hlt:k<xs.length
  ·have hur:=HU.out.kept hkr;obtain⟨a',cap',e1,_,_,hc⟩:=hur;obtain⟨bu,off,e2,hbu,hcell⟩:=hc (fun e=>by rw[e] at HL;have:=HL.out;simp at this;omega);rw[HL.out] at e1;cases e1
   subst e2;have hcu:=hcell k (by rw[HL.out];exact hlt);clear hcell hc;obtain⟨z,hz⟩:∃ z,z=us.getD k 0:=⟨_,rfl⟩
   rw[<-hz] at hcu;have HZ:=hid hz;clear hz;by_cases hz0:z=0
   ·have tz:(z != 0)=false:=by simpa using hz0
    have HZ0:=hid hz0;clear hz0;go_wp2_with(fail)
    go_roundw;case rel=>exact⟨k+1,ys,by omega,by go_num,hyl,hid (fun j hj=>by
     rw[hys.out j hj];by_cases e:j=k
     ·rw[e,zx (by omega),zu (by omega),lX hlt,<-HZ.out,zu HZ0.out]
     ·by_cases e2:j<k
      ·rw[zu e2,zu (by omega)]
      ·rw[zx e2,zx (by omega)]),hown,hgr,hkr⟩
    case measure=>simp[intOf];omega
   ·have tz:(z != 0)=true:=by simpa using hz0
    have HZ0:=hid hz0;clear hz0;have hgw:=hg.kept hkr;have hcy:=hown.cell (i:=k) (by rw[hyl.out];exact hlt);obtain⟨y,hy⟩:∃ z,z=ys.getD k 0:=⟨_,rfl⟩
    rw[<-hy] at hcy;have hfy:=hown.frozen k;have j0:(0:Int)<=(k:Int):=by omega
    have j1:(k:Int)< (xs.length:Int):=by omega
    have j2:((k:Int)).toNat=k:=by omega
    have HUS:Hid (∀ j,j<xs.length->(ys.set k (gu G y (bF G a z))).getD j 0=if j<k+1 then(iP (opG G) a us xs).getD j 0 else xs.getD j 0):=hid (fun j hj=>by
     by_cases e:j=k
     ·rw[e,zu (by omega),lX hlt,<-HZ.out,zx HZ0.out];have e1:(ys.set k (gu G y (bF G a z))).getD k 0=gu G y (bF G a z):=by
       have:k<ys.length:=by rw[hyl.out];exact hlt
       simp[List.getD,this]
      have e2:=hys.out k hlt;rw[zx (by omega)] at e2;rw[e1,hy,e2];rfl
     ·have e1:(ys.set k (gu G y (bF G a z))).getD j 0=ys.getD j 0:=by simp[List.getD,zS (Ne.symm e)]
      rw[e1,hys.out j hj];by_cases e2:j<k
      ·rw[zu e2,zu (by omega)]
      ·rw[zx e2,zx (by omega)])
    clear hy;go_wp2_with(fail)
    go_region_law(first|(go_simp;go_at_call 94;(with_reducible refine(mul_any b G a z _ (by exact hgw.drew) t).mono ?_);rintro e w4 ⟨rfl,n4,rfl⟩)|(go_simp;go_at_call 115;(with_reducible refine(add_any b G y (bF G a z) _ (by exact hgw.drewN _) t).mono ?_);rintro e w5 ⟨rfl,n5,rfl⟩))
    all_goals
     go_wp2_with(fail)
     go_roundw;case rel=>
      refine⟨k+1,ys.set k (gu G y (bF G a z)),by omega,by go_num,hid (by simp[hyl.out]),HUS, ?_, ?_, ?_⟩
      ·exact(hown.drewN _).set _ _
      ·exact aQ (lW hgr _) _ _
      ·exact aH (aH hkr (bW (aB wr _)) hbv.1 hkr.size) (aj _ bv k _) hbv.1 (hkr.drewN _).size
     case measure=>simp[intOf];omega
  ·have HE:Hid (iP (opG G) a us xs=ys):=hid (Bh (by rw[dR,hyl.out]) fun i hi=>by
    rw[dR] at hi;rw[hys.out i hi,zu (by omega)])
   go_wp2_with(fail)
   go_end0
   exact⟨rfl,hgr,by rw[HE.out];exact hown⟩
def GN (o:Cw.Op) (B:List (List Int)) (cols:Nat) (x:List Int) (k:Nat):List Int:=(List.range k).foldl (fun v i=>if x.getD i 0=0 then v else iP o (x.getD i 0) (Gj.row B i) v) (List.replicate cols 0)
theorem Bv (o:Cw.Op) (B:List (List Int)) (cols:Nat) (x:List Int):∀ k,(GN o B cols x k).length=cols
 |0=>by simp[GN]
 |k+1=>by
  have h:=Bv o B cols x k;unfold GN at h ⊢;rw[xu,rW,sJ,List.foldl_nil]
  split
  ·exact h
  ·rw[dR];exact h
theorem Jp {o:Cw.Op} {B:List (List Int)} {cols:Nat} {x:List Int} {k:Nat} (h:x.getD k 0=0):GN o B cols x (k+1)=GN o B cols x k:=by
 unfold GN;rw[xu,rW,sJ,List.foldl_nil,zu h]
theorem Jq {o:Cw.Op} {B:List (List Int)} {cols:Nat} {x:List Int} {k:Nat} (h:x.getD k 0≠0):GN o B cols x (k+1)=iP o (x.getD k 0) (Gj.row B k) (GN o B cols x k):=by
 unfold GN;rw[xu,rW,sJ,List.foldl_nil,zx h]
theorem acQ (b:Nat) (G:GFd) (t:aK G) (cols:Nat) (vx:Value) (xs:List Int) (vb:Value) (B:List (List Int)) (w:World) (hg:dW w b G) (hx:Sl w vx xs) (hb:Rd w vb B) (hl:xs.length=B.length) (hw:∀ i,i<B.length->(Gj.row B i).length=cols) (hc:cols<=1000):
  Calls Tryz.prog 173 #[.pointer (some ⟨b,0,none⟩),vx,vb,.int .i64 cols] w fun e w'=>∃ v,e=.returned v/\Own w' w.heap.size v (acA (opG G) B cols xs)/\ay w w':=by
 have hfin:Hid (acA (opG G) B cols xs=GN (opG G) B cols xs xs.length):=hid rfl;obtain⟨xa,xc,rfl,hxc,hxm⟩:=hx.lenOf;obtain⟨ba,bc,rfl,hbc,hbm,hb0⟩:=hb.get;unfold maxLen at hxm;have HX:=hid hx;have HB:=hid hb;have HW:=hid hw;have HG:=hid hg;obtain⟨N,hN⟩:∃ x,x=xs.length:=⟨_,rfl⟩
 rw[<-hl] at ⊢;rw[<-hN] at hxc hl ⊢;have HN:=hid hN;have HL:=hid hl;clear hx hb hw hg hN hl hbc;go_enter Tryz.func173,Tryz.ntmps173;go_wp2_with(at_make;refine aJ rfl _ _ rfl cols _ _ rfl rfl rfl rfl (by omega) ?_;intro w1 ho1 hk1)
 obtain⟨g,hgg⟩:∃ g,g=w.heap.size:=⟨_,rfl⟩
 rw[<-hgg] at ho1 ⊢;have HGG:=hid hgg;have HO1:=hid ho1;have HK1:=hid hk1;clear ho1 hk1 hgg
 go_loopw [16] (fun vi wr=>∃ k:Nat,k<=N/\vi=.int .i64 k/\Own wr g (.slice (some ⟨g,0,none⟩) cols cols) (GN (opG G) B cols xs k)/\ay w wr) (fun vi _=>N- (intOf vi).toNat)
 case atStart=>exact⟨0,by omega,rfl,HO1.out,HK1.out⟩
 case round=>
  obtain⟨k,hk,rfl,ho,hkr⟩:=hrel;by_cases hlt:k<N
  ·have hlt':(k:Int)< (N:Int):=by omega
   have hk0:(0:Int)<=(k:Int):=by omega
   obtain⟨a',cap',e1,_,_,hcx⟩:=HX.out.kept hkr;obtain⟨bx,ox,e2,hbx,aaA⟩:=hcx (fun e=>by have:=HN.out;rw[e] at this;simp at this;omega);rw[<-HN.out] at e1;cases e1
   subst e2;have hck:=aaA k (by rw[<-HN.out];exact hlt);obtain⟨z,hz⟩:∃ z,z=xs.getD k 0:=⟨_,rfl⟩
   rw[<-hz] at hck;have HZ:=hid hz;clear aaA hcx hz;by_cases hz0:z=0
   ·have tz:(z != 0)=false:=by simpa using hz0
    have HZ0:=hid hz0;clear hz0;go_wp2_with(fail)
    go_roundw;case rel=>exact⟨k+1,by omega,by go_num,by rw[Jp (by rw[<-HZ.out];exact HZ0.out)];exact ho,hkr⟩
    case measure=>simp[intOf];omega
   ·have tz:(z != 0)=true:=by simpa using hz0
    have HZ0:=hid hz0;clear hz0;have hkB:k<B.length:=by rw[<-HL.out];exact hlt
    obtain⟨bb,ob,e3,hbb⟩:=hb0 (fun e=>by rw[e] at hkB;simp at hkB);subst e3;obtain⟨u,hu,hsu⟩:=HB.out.cellAt hkB;have hur:wr.cell? ⟨bb,ob+k,none⟩=some u:=(hkr.cell' hbb).trans hu;have HSU:=hid hsu;have HLU:Hid ((Gj.row B k).length=(GN (opG G) B cols xs k).length):=hid (by rw[HW.out k hkB,Bv]);have HO:Hid (Own wr w.heap.size (.slice (some ⟨g,0,none⟩) cols cols) (GN (opG G) B cols xs k)):=hid (by rw[<-HGG.out];exact ho);have HKR:=hid hkr;clear ho hkr hu hsu;go_wp2_with(go_at_call 186;refine(acP b G t g cols cols z (GN (opG G) B cols xs k) u (Gj.row B k) w wr HG.out HKR.out HO.out HSU.out HLU.out (by rw[Bv];exact hc)).mono ?_;rintro e w2 ⟨rfl,hg2,ho2⟩)
    go_roundw;case rel=>exact⟨k+1,by omega,by go_num,by rw[Jq (by rw[<-HZ.out];exact HZ0.out),<-HZ.out,HGG.out];rw[HGG.out] at ho2;exact ho2,aH HKR.out hg2 (xK HGG.out.symm) HKR.out.size⟩
    case measure=>simp[intOf];omega
  ·have hkn:k=N:=by omega
   subst hkn;have hf:Hid (GN (opG G) B cols xs k=acA (opG G) B cols xs):=hid (by rw[hfin.out,HN.out]);go_wp2_with(fail)
   go_ret;exact⟨_,rfl,by rw[<-hf.out,<-HGG.out];exact ho,hkr⟩
theorem Y1 (P M:Int) (vm:Value) (mod:List Int) (bm c1 c2:Nat) (v1 v2:Value) (A1 A2:List (List Int)) (w:World) (hvm:Sl w vm mod) (hs:fD P M mod) (hbm:bm<w.heap.size)
  (m0:w.cell? ⟨bm,0,none⟩=some (.int .i64 c1)) (m1:w.cell? ⟨bm,1,none⟩=some v1) (m2:w.cell? ⟨bm,2,none⟩=some (.int .i64 c2)) (m3:w.cell? ⟨bm,3,none⟩=some v2) (hv1:Rd w v1 A1) (hv2:Rd w v2 A2)
  (hw:∀ G,aK G->G.P=P->G.M=M->G.mod=mod->WF G.q A1 c1/\WF G.q A2 c2) (hc1:c1<=256) (hc2:c2<=256) (hn1:A1.length<=256) (hn2:A2.length<=256):
  Calls Tryz.prog 69 #[.agg #[.int .i64 P,.int .i64 M,vm],.slice (some ⟨bm,0,none⟩) 2 2] w fun e w'=>∃ b G,e=.returned (.tuple #[.pointer (some ⟨b,0,none⟩),.int .i64 0])/\dW w' b G/\aK G/\G.P=P/\G.M=M/\G.mod=mod/\ay w w':=by
 obtain⟨va,vc,rfl,_,_⟩:=hv1.get;obtain⟨ua,uc,rfl,_,_⟩:=hv2.get;have hk0:=ah w (.cells #[.int .i64 P,.int .i64 M,vm] 24);have gG:=hvm.kept hk0;have HW:=hid hw;clear hw;go_enter Tryz.func69,Tryz.ntmps69;go_wp2_with(go_at_call 47;refine(fA P M vm mod _ gG hs).mono ?_;rintro e w2 ⟨b,G,rfl,hg2,ht,hP,hM,hmod,hk2⟩)
 have ku:=hk0.tr hk2;have HP:=hid hP;have HM:=hid hM;have HO:=hid hmod;have HWF:=hid (HW.out G ht hP hM hmod);clear hP hM hmod
 go_loopw [20,9,10] (fun vi _ _ wr=>∃ k:Nat,k<=2/\vi=.int .i64 k/\ay w wr/\dW wr b G) (fun vi _ _ _=>2- (intOf vi).toNat)
 case atStart=>exact⟨0,by omega,rfl,ku,hg2⟩
 case round=>
  obtain⟨k,hk,rfl,hkr,hgr⟩:=hrel;clear hk0 hk2 ku hg2 gG;by_cases e:k=0
  ·subst e;have d0:wr.cell? ⟨bm,0,none⟩=some (.int .i64 c1):=(hkr.cell' hbm).trans m0;have d1:wr.cell? ⟨bm,1,none⟩=some (.slice va A1.length vc):=(hkr.cell' hbm).trans m1;have hka:=ah wr (.cells #[.int .i64 c1,.slice va A1.length vc] 71);have hga:=hgr.kept hka;have hva:=hv1.kept (hkr.tr hka);go_wp2_with(fail)
   refine(CQ b G c1 _ A1 _ hga hva HWF.out.1 hc1 hn1).mono ?_;rintro e w3 ⟨rfl,hk3⟩;go_wp2_with(fail)
   have hk4:=hkr.tr (hka.tr hk3);have hg4:=hga.kept hk3;go_roundw;case rel=>exact⟨1,by omega,by go_num,hk4,hg4⟩
   case measure=>simp[intOf]
  ·by_cases e1:k=1
   ·subst e1;have d0:wr.cell? ⟨bm,2,none⟩=some (.int .i64 c2):=(hkr.cell' hbm).trans m2;have d1:wr.cell? ⟨bm,3,none⟩=some (.slice ua A2.length uc):=(hkr.cell' hbm).trans m3;have hka:=ah wr (.cells #[.int .i64 c2,.slice ua A2.length uc] 71);have hga:=hgr.kept hka;have hva:=hv2.kept (hkr.tr hka);go_wp2_with(fail)
    refine(CQ b G c2 _ A2 _ hga hva HWF.out.2 hc2 hn2).mono ?_;rintro e w3 ⟨rfl,hk3⟩;go_wp2_with(fail)
    have hk4:=hkr.tr (hka.tr hk3);have hg4:=hga.kept hk3;go_roundw;case rel=>exact⟨2,by omega,by go_num,hk4,hg4⟩
    case measure=>simp[intOf]
   ·obtain rfl:k=2:=by omega
    go_wp2_with(fail)
    go_ret2;exact⟨b,G,rfl,hgr,ht,HP.out,HM.out,HO.out,hkr⟩
structure Qm (w:World) (B0 bo:Nat) (n:Int) (C:List (List Int)) (vv:Value) (rv:Nat->Value):Prop where
 m:Mx w B0 vv C rv
 b:Bk w bo [.int .i64 n,vv]
 f:Fz w bo
 lt:bo<B0
theorem Qm.kept {w w':World} {B0 bo:Nat} {n:Int} {C:List (List Int)} {vv:Value} {rv:Nat->Value} (h:Qm w B0 bo n C vv rv) (k:ay w w'):Qm w' B0 bo n C vv rv:=⟨h.m.kept k,h.b.kept k,h.f.kept k,h.lt⟩
theorem Qm.nbo {w:World} {B0 bo:Nat} {n:Int} {C:List (List Int)} {vv:Value} {rv:Nat->Value} (h:Qm w B0 bo n C vv rv):vv.ownBlock≠some bo:=fun e=>by
 have:=(h.m.has_lt (.inl e)).1;have:=h.lt;omega
theorem Qm.add {W w w5 w6:World} {B0 bo:Nat} {n:Int} {C:List (List Int)} {vv:Value} {rv:Nat->Value} (h:Qm w B0 bo n C vv rv) (k:ay w w5) (hB:B0<=w.heap.size) {u v6:Value} {l:List Int} (ho:Own w5 w.heap.size u l)
  (o6:w6.ownsRow B0 22 1 v6 (C.length+1) ((List.range C.length).map rv++ [u])) (hg:w5.grownBy w6 vv.ownBlock) (kW:ay W w) (hW:W.heap.size<=bo):
  Qm (w6.setCell ⟨bo,1,none⟩ v6) B0 bo n (C++ [l]) v6 (fun i=>if i=C.length then u else rv i)/\ay W (w6.setCell ⟨bo,1,none⟩ v6)/\B0<=(w6.setCell ⟨bo,1,none⟩ v6).heap.size:=by
 have m6:=(h.m.kept k).add (ho.mono hB) (fun x hx j hj e=>by
  have h1:=aN ho hx;have h2:=h.m.has_lt (.inr ⟨j,hj,e⟩);omega) o6 hg
 have gs:=aj w6 bo 1 v6;have hlt:=h.lt;have k6:ay W w6:=(kW.tr k).grown hg (kW.tr k).size (fun j e=>by
  have q:=(h.m.has_lt (.inl e)).1;have q2:=kW.size;omega)
 refine⟨⟨m6.grown gs (fun q=>by have:=(m6.has_lt q).1;omega),((h.b.kept k).gbo hg h.nbo).set 1 v6, ?_,h.lt⟩,aA _ k6 hW, ?_⟩
 ·exact⟨by have:=((h.f.kept k).gbo hg h.nbo).1;simpa using this,fun i=>by rw[World.frozen?_setCell];exact((h.f.kept k).gbo hg h.nbo).2 i⟩
 ·have:=hg.size;have:=k.size;simp;omega
theorem Jr {A:List (List Int)} {k:Nat} (h:k<A.length):A.take (k+1)=A.take k++ [Gj.row A k]:=by
 have e:Gj.row A k=A[k]:=by simp[Gj.row,List.getD,h]
 rw[yV h,e]
theorem GR {o:Cw.Op} {X B:List (List Int)} {n k:Nat} (h:k<X.length):Gj.row (mulL o X B n) k=acA o B n (Gj.row X k):=by
 simp[Gj.row,mulL,List.getD,h]
set_option maxRecDepth 100000 in
theorem Y2 (G:GFd) (t:aK G) (vm:Value) (n:Nat) (v1 v2:Value) (X B:List (List Int)) (w:World) (hvm:Sl w vm G.mod) (h1:Rd w v1 X) (h2:Rd w v2 B) (hw1:WF G.q X B.length) (hw2:WF G.q B n) (hn:n<=256) (hX:X.length<=256) (hB:B.length<=256):
  Calls Tryz.prog 123 #[.agg #[.int .i64 G.P,.int .i64 G.M,vm],.agg #[.int .i64 B.length,v1],.agg #[.int .i64 n,v2]] w fun e w'=>∃ v rv,e=.returned (.tuple #[.agg #[.int .i64 n,v],.int .i64 0])/\Mx w' w.heap.size v (mulL (opG G) X B n) rv/\ay w w':=by
 obtain⟨xa,xc,rfl,_,_⟩:=h1.get;obtain⟨ba,bc,rfl,_,_⟩:=h2.get;obtain⟨W1,hW1⟩:∃ x,x=(((w.alloc (.cells #[.int .i64 G.P,.int .i64 G.M,vm] 24)).alloc (.cells #[.int .i64 B.length,.slice xa X.length xc] 71)).alloc (.cells #[.int .i64 n,.slice ba B.length bc] 71)).alloc (.cells #[.int .i64 0,.slice none 0 0] 71):=⟨_,rfl⟩
 obtain⟨s,hs⟩:∃ s,s=w.heap.size:=⟨_,rfl⟩
 have hk1:ay w W1:=by rw[hW1];exact(((ah _ _).tr (ah _ _)).tr (ah _ _)).tr (ah _ _)
 have bf:Bk W1 s [.int .i64 G.P,.int .i64 G.M,vm]:=by rw[hW1];exact(((aG _ [.int .i64 G.P,.int .i64 G.M,vm] _ _ (by simp[hs])).kept (ah _ _)).kept (ah _ _)).kept (ah _ _)
 have b1:Bk W1 (s+1) [.int .i64 B.length,.slice xa X.length xc]:=by rw[hW1];exact((aG _ [.int .i64 B.length,.slice xa X.length xc] _ _ (by simp[hs])).kept (ah _ _)).kept (ah _ _)
 have b2:Bk W1 (s+1+1) [.int .i64 n,.slice ba B.length bc]:=by rw[hW1];exact(aG _ [.int .i64 n,.slice ba B.length bc] _ _ (by simp[hs])).kept (ah _ _)
 have br:Bk W1 (s+1+1+1) [.int .i64 0,.slice none 0 0]:=by rw[hW1];exact aG _ [.int .i64 0,.slice none 0 0] _ _ (by simp[hs])
 have fr:Fz W1 (s+1+1+1):=by rw[hW1];exact bD _ _ _ _ (by simp[hs])
 have hs1:W1.heap.size=s+1+1+1+1:=by rw[hW1,hs];simp
 have y0:=bf.2 0 _ rfl;have y1:=bf.2 1 _ rfl;have y2:=bf.2 2 _ rfl;have p0:=b1.2 0 _ rfl;have p1:=b1.2 1 _ rfl;have q0:=b2.2 0 _ rfl;have q1:=b2.2 1 _ rfl;obtain⟨W2,hW2⟩:∃ x,x=W1.alloc (.cells #[.int .i64 B.length,.slice xa X.length xc,.int .i64 n,.slice ba B.length bc] 71):=⟨_,rfl⟩
 have hk2:ay W1 W2:=by rw[hW2];exact ah _ _
 have b4:Bk W2 W1.heap.size [.int .i64 B.length,.slice xa X.length xc,.int .i64 n,.slice ba B.length bc]:=by rw[hW2];exact aG _ [.int .i64 B.length,.slice xa X.length xc,.int .i64 n,.slice ba B.length bc] _ _ rfl
 have HOP:=hid (Y1 G.P G.M vm G.mod W1.heap.size B.length n _ _ X B W2 (hvm.kept (hk1.tr hk2)) t.field b4.1 (b4.2 0 _ rfl) (b4.2 1 _ rfl) (b4.2 2 _ rfl) (b4.2 3 _ rfl) (h1.kept (hk1.tr hk2)) (h2.kept (hk1.tr hk2)) (fun H hH e1 e2 e3=>by
  rw[show H.q=G.q by rw[hH.hq,t.hq,e1,e2]];exact⟨hw1,hw2⟩) hB hn hX hB)
 have HK1:=hid hk1;have HK2:=hid hk2;have HS:=hid hs;have HS1:=hid hs1;have HBF:=hid bf;have HB1:=hid b1;have HB2:=hid b2;have HBR:=hid br;have HFR:=hid fr;have H1:=hid h1;have H2:=hid h2;have HW1:=hid hw1;have HW2:=hid hw2;clear hk1 hk2 bf b1 b2 br fr b4 h1 h2 hw1 hw2 hs1;go_enter Tryz.func123,Tryz.ntmps123;go_upto_region 1 with(fail)
 rw[<-hW1,<-hs];clear hW1 hs;go_upto_region 2 with(go_at_call 69;rw[<-hW2];(with_reducible refine HOP.out.mono ?_);rintro e w3 ⟨b,H,rfl,hg3,tH,hP,hM,hmod,hk3⟩)
 have acF:Hid (opG H=opG G):=hid (EG tH t hP hM hmod);have Ac:=hid (HK2.out.tr hk3);have HG3:=hid hg3;clear hP hM hmod hg3 hk3 y0 y1 y2 p0 p1 q0 q1 hW2;have hb1:=HB1.out.kept Ac.out;have hb2:=HB2.out.kept Ac.out;have p0:=hb1.2 0 _ rfl;have p1:=hb1.2 1 _ rfl;have q0:=hb2.2 0 _ rfl;have q1:=hb2.2 1 _ rfl;clear hb1 hb2;go_upto_region 7 with(fail)
 obtain⟨W4,hW4⟩:∃ x,x=w3.alloc (.cells #[.int .i64 n,.slice none 0 0] 71):=⟨_,rfl⟩
 rw[<-hW4];obtain⟨bo,hbo⟩:∃ x,x=w3.heap.size:=⟨_,rfl⟩
 have hk4:ay w3 W4:=by rw[hW4];exact ah _ _
 have o4:Qm W4 W4.heap.size bo n [] (.slice none 0 0) (fun _=>.slice none 0 0):=⟨qR _ _,by rw[hW4];exact aG _ [.int .i64 n,.slice none 0 0] _ _ hbo,by rw[hW4];exact bD _ _ _ _ hbo,by rw[hW4,hbo];simp⟩
 obtain⟨B0,hB0⟩:∃ x,x=W4.heap.size:=⟨_,rfl⟩
 rw[<-hbo];rw[<-hB0] at o4;have HB0:=hid hB0;have HBO:=hid hbo;have HO4:=hid o4;have HK4:=hid hk4;have HKw:=hid ((HK1.out.tr Ac.out));have HXL:Hid ((mulL (opG G) X B n).length=X.length):=hid (by simp[mulL]);clear hW4 hk4 o4 hB0 hbo p0 p1 q0 q1;have hb1:=HB1.out.kept (Ac.out.tr HK4.out);have p1:=hb1.2 1 _ rfl;clear hb1;go_wp2_with(fail)
 go_loopw [38] (fun vi wr=>∃ (k:Nat) (vv:Value) (rv:Nat->Value),k<=X.length/\vi=.int .i64 k/\Qm wr B0 bo n ((mulL (opG G) X B n).take k) vv rv/\ay w3 wr/\Hid (B0<=wr.heap.size)) (fun vi _=>X.length- (intOf vi).toNat)
 case atStart=>exact⟨0,_,_,by omega,rfl,HO4.out,HK4.out,hid (by rw[HB0.out];exact zy _)⟩
 case round=>
  obtain⟨k,vv,rv,hk,rfl,hom,hkr,HBS⟩:=hrel;have hkw:ay w wr:=HKw.out.tr hkr;by_cases hlt:k<X.length
  ·have hlt':(k:Int)< (X.length:Int):=by omega
   have hk0:(0:Int)<=(k:Int):=by omega
   obtain⟨_,_,e1,_,_,hx0⟩:=H1.out.get;obtain⟨xb,xo,e2,hxb⟩:=hx0 (fun e=>by rw[e] at hlt;simp at hlt);cases e1
   subst e2;obtain⟨u,hu,hsu⟩:=H1.out.cellAt hlt;have hur:wr.cell? ⟨xb,xo+k,none⟩=some u:=(hkw.cell' hxb).trans hu;have hsz:=hsu.kept hkw;have h2z:=H2.out.kept hkw;have hgz:=HG3.out.kept hkr;have hlx:(Gj.row X k).length=B.length:=HW1.out.wf k hlt;have HLX:=hid hlx;have hb2:=HB2.out.kept (Ac.out.tr hkr);have q0:=hb2.2 0 _ rfl;have q1:=hb2.2 1 _ rfl;have o1:=hom.b.2 1 _ rfl;have HM:=hid hom;have HKR:=hid hkr;have al1:=hid hb2;have aiA:((mulL (opG G) X B n).take k).length<=256:=by rw[yF];omega
   have an8:bo<wr.heap.size:=hom.b.1;have hBw:B0<=wr.heap.size:=HBS.out;have al2:Hid (∀ i,i<B.length->(Gj.row B i).length=n):=hid HW2.out.wf;clear p1 hu hsu hb2 hom hx0 hkw hkr hlx;go_wp2_with(fail)
   go_region_law(first|(go_simp;go_at_call 173;(with_reducible refine(acQ b H tH n u (Gj.row X k) _ B _ (by exact hgz.drew) (by exact hsz.kept (aC _)) (by exact h2z.kept (aC _)) HLX.out al2.out (by omega)).mono ?_);rintro e w5 ⟨v5,rfl,ho5,hk5⟩;have zk:ay wr w5:=(by exact(aC _).tr hk5);have HO5:=hid (show Own w5 wr.heap.size v5 _ from ho5);obtain⟨a5,c5,e5,_,_⟩:=ho5.sl.lenOf;obtain⟨l5,hl5⟩:∃ x,x=(acA (opG H) B n (Gj.row X k)).length:=⟨_,rfl⟩;rw[<-hl5] at e5;subst e5;have HM5:=hid (HM.out.kept zk);have o1:=HM5.out.b.2 1 _ rfl;have hb5:=al1.out.kept zk;have q0:=hb5.2 0 _ rfl;have q1:=hb5.2 1 _ rfl;have hs5:=zk.size;have HK5:=hid zk;have l5':bo<w5.heap.size:=HM5.out.b.1;have l6:s+1+1<w5.heap.size:=hb5.1;clear hk5 ho5 zk hb5 hl5)|(refine kZ rfl (.tmp 43) (.tmp 51) rfl B0 vv ((mulL (opG G) X B n).take k).length _ rfl (by exact(HM5.out.m.kept (ah _ _)).out) ⟨w5.heap.size,0,none⟩ (.slice a5 l5 c5) rfl (by exact aU rfl) rfl (by omega) (by simp;omega) ?_;intro w6 v7 w7 e6 o7 hg7 _;obtain⟨a7,c7,e7⟩:=dh o7;subst e7;have k56:ay w5 w6:=(by rw[e6];exact ah _ _);clear e6;have z0:=((HM5.out.b.kept k56).gbo hg7 HM5.out.nbo).2 1 _ rfl;have z1:=((HM5.out.f.kept k56).gbo hg7 HM5.out.nbo).2 1))
   all_goals
    obtain⟨r1,r2,r3⟩:=HM.out.add (HK5.out.tr k56) hBw (HO5.out.kept k56) o7 hg7 HKR.out (xK HBO.out.symm);rw[acF.out,<-GR hlt,<-Jr (by rw[HXL.out];exact hlt)] at r1;simp only[yF] at r1 r2 r3;have HR1:=hid r1;have HR2:=hid r2;have HR3:=hid r3;clear r1 r2 r3 o7 hg7 z0 z1;go_wp2_with(fail)
    go_roundw;case rel=>
     exact⟨k+1,_,_,by omega,by go_num,HR1.out,HR2.out,HR3⟩
    case measure=>simp[intOf];omega
  ·have hkn:k=X.length:=by omega
   subst hkn;have hft:Hid ((mulL (opG G) X B n).take X.length=mulL (opG G) X B n):=hid (by rw[<-HXL.out,wu]);rw[hft.out] at hom;have hbr:=HBR.out.kept (Ac.out.tr hkr);have hfr:=HFR.out.kept (Ac.out.tr hkr);have r0:=hbr.2 0 _ rfl;have r1:=hbr.2 1 _ rfl;have g0:=hfr.2 0;have g1:=hfr.2 1;have o0:=hom.b.2 0 _ rfl;obtain⟨la,lc,el⟩:=hom.m.lenOf;obtain⟨L,hL⟩:∃ x,x=(mulL (opG G) X B n).length:=⟨_,rfl⟩
   rw[<-hL] at el;subst el;have o1:=hom.b.2 1 _ rfl;have HM:=hid hom;have HKR:=hid hkw;have aav:=hid hbr;have HLO:Hid (s+1+1+1<B0):=hid (by
    have h1:=Ac.out.size;have h2:=HS1.out;have h3:=HBO.out;have h4:=HM.out.lt;omega)
   have hlr:s+1+1+1<wr.heap.size:=hbr.1;clear hom hkr hkw hbr hfr hL p1;go_wp2_with(fail)
   refine bodyPost_ret (aF rfl rfl (mF ((aav.out.set 0 _).set 1 _))) rfl ⟨_,rv,rfl, ?_, ?_⟩
   ·exact(HM.out.m.grown (aQ (aj _ _ 0 _) 1 _) (fun q=>by have:=(HM.out.m.has_lt q).1;have:=HLO.out;omega)).mono (by have:=HLO.out;have:=HS.out;omega)
   ·exact aA _ (aA _ HKR.out (by have:=HS.out;omega)) (by have:=HS.out;omega)
theorem gV (n:Nat):(jF n).length=n:=by simp[jF]
theorem Js {n i:Nat} (h:i<n):Gj.row (jF n) i=(List.replicate n 0).set i 1:=by simp[Gj.row,jF,List.getD,h]
theorem Y3 (n:Nat) (w:World) (hn:n<=256):
  Calls Tryz.prog 172 #[.int .i64 n] w fun e w'=>∃ v rv,e=.returned v/\Mx w' w.heap.size v (jF n) rv/\ay w w':=by
 go_enter Tryz.func172,Tryz.ntmps172;go_wp2_with(at_make;refine jl rfl _ _ rfl n _ _ rfl rfl rfl rfl (by omega) ?_;intro w1 hm1 hk1)
 obtain⟨g,hg⟩:∃ g,g=w.heap.size:=⟨_,rfl⟩
 rw[<-hg] at hm1 ⊢;have HG:=hid hg;have HM1:=hid hm1;have HK1:=hid hk1;clear hg hm1 hk1
 go_loopw [9] (fun vi wr=>∃ (k:Nat) (C:List (List Int)) (rv:Nat->Value),k<=n/\vi=.int .i64 k/\Hid (C.length=n)/\Hid (∀ i,i<n->Gj.row C i=if i<k then Gj.row (jF n) i else[])/\
   Mx wr g (.slice (some ⟨g,0,none⟩) n n) C rv/\ay w wr) (fun vi _=>n- (intOf vi).toNat)
 case atStart=>exact⟨0,_,_,by omega,rfl,hid (by simp),hid (fun i hi=>by rw[qW];simp),HM1.out,HK1.out⟩
 case round=>
  obtain⟨k,C,rv,hk,rfl,HC,HR,hmx,hkr⟩:=hrel;by_cases hlt:k<n
  ·have hlt':(k:Int)< (n:Int):=by omega
   have hk0:(0:Int)<=(k:Int):=by omega
   have hkC:k<C.length:=by rw[HC.out];exact hlt
   have hgs:g<wr.heap.size:=(hmx.has_lt (g:=g) (.inl rfl)).2;have nbg:¬ g=wr.heap.size:=by omega
   have an9:¬ wr.heap.size=g:=by omega
   have HM:=hid hmx;have HKR:=hid hkr;clear hmx hkr;go_wp2_with(at_make;refine aJ rfl _ _ rfl n _ _ rfl rfl rfl rfl (by omega) ?_;intro w3 ho3 hk3;have hm3:=HM.out.kept hk3;have x1:=hm3.cell hkC;have f1:=hm3.frozen k;have y1:=ho3.cell (i:=k) (by simpa using hlt);have z1:=ho3.frozen k;have HM3:=hid hm3;have HO3:=hid ho3;have HK3:=hid hk3;clear hm3 ho3 hk3)
   have hput:=HM3.out.put hkC (HO3.out.mono (Nat.le_of_lt hgs)) (fun x hx j hj e2=>by
    have h1:=aN HO3.out hx;have h2:=HM.out.has_lt (.inr ⟨j,hj,e2⟩);omega)
   have hent:=hput.ent (i:=k) (b:=wr.heap.size) (n:=n) (cp:=n) (by rw[zI];exact hkC) (by simp) k 1;have HE:=hid hent;clear hput hent x1 f1 y1 z1;go_roundw;case rel=>
    refine⟨k+1,_,_,by omega,by go_num,hid (by rw[zI,zI,HC.out]),hid (fun i hi=>?_),HE.out, ?_⟩
    ·rw[oh (by rw[zI];exact hkC),oh hkC,oh hkC,zu rfl];by_cases e:i=k
     ·rw[zu e,zu (by omega),e,Js hlt]
     ·rw[zx e,zx e,HR.out i hi];by_cases e2:i<k
      ·rw[zu e2,zu (by omega)]
      ·rw[zx e2,zx (by omega)]
    ·have hsz:=HKR.out.size;exact aA _ (aA _ (HKR.out.tr HK3.out) (xK HG.out.symm)) hsz
   case measure=>simp[intOf];omega
  ·have HE:Hid (C=jF n):=hid (Gj.iI (by rw[HC.out,gV]) fun i hi=>by rw[HR.out i (by rw[<-HC.out];exact hi),zu (by have:=HC.out;omega)]);go_wp2_with(fail)
   go_ret;exact⟨_,rv,rfl,by rw[<-HE.out,<-HG.out];exact hmx,hkr⟩
set_option maxRecDepth 100000 in
theorem LJ (G:GFd) (t:aK G) (vm:Value) (v1:Value) (X:List (List Int)) (w:World) (hvm:Sl w vm G.mod) (h1:Rd w v1 X) (hw1:WF G.q X X.length) (hX1:1<=X.length) (hX:X.length<=256) (hpv:(AX (opG G) X).2.length=X.length):
  Calls Tryz.prog 122 #[.agg #[.int .i64 G.P,.int .i64 G.M,vm],.agg #[.int .i64 X.length,v1]] w fun e w'=>∃ v rv,e=.returned (.tuple #[.agg #[.int .i64 X.length,v],.int .i64 0])/\Mx w' w.heap.size v (AX (opG G) X).1 rv/\ay w w':=by
 obtain⟨xa,xc,rfl,_,_⟩:=h1.get;obtain⟨W1,hW1⟩:∃ x,x=((w.alloc (.cells #[.int .i64 G.P,.int .i64 G.M,vm] 24)).alloc (.cells #[.int .i64 X.length,.slice xa X.length xc] 71)).alloc (.cells #[.int .i64 0,.slice none 0 0] 71):=⟨_,rfl⟩
 obtain⟨s,hs⟩:∃ s,s=w.heap.size:=⟨_,rfl⟩
 have hk1:ay w W1:=by rw[hW1];exact((ah _ _).tr (ah _ _)).tr (ah _ _)
 have bf:Bk W1 s [.int .i64 G.P,.int .i64 G.M,vm]:=by rw[hW1];exact((aG _ [.int .i64 G.P,.int .i64 G.M,vm] _ _ (by simp[hs])).kept (ah _ _)).kept (ah _ _)
 have b1:Bk W1 (s+1) [.int .i64 X.length,.slice xa X.length xc]:=by rw[hW1];exact(aG _ [.int .i64 X.length,.slice xa X.length xc] _ _ (by simp[hs])).kept (ah _ _)
 have br:Bk W1 (s+1+1) [.int .i64 0,.slice none 0 0]:=by rw[hW1];exact aG _ [.int .i64 0,.slice none 0 0] _ _ (by simp[hs])
 have fr:Fz W1 (s+1+1):=by rw[hW1];exact bD _ _ _ _ (by simp[hs])
 have hs1:W1.heap.size=s+1+1+1:=by rw[hW1,hs];simp
 have y0:=bf.2 0 _ rfl;have y1:=bf.2 1 _ rfl;have y2:=bf.2 2 _ rfl;have p0:=b1.2 0 _ rfl;have p1:=b1.2 1 _ rfl;obtain⟨W2,hW2⟩:∃ x,x=W1.alloc (.cells #[.int .i64 X.length,.slice xa X.length xc] 71):=⟨_,rfl⟩
 have hk2:ay W1 W2:=by rw[hW2];exact ah _ _
 have b4:Bk W2 W1.heap.size [.int .i64 X.length,.slice xa X.length xc]:=by rw[hW2];exact aG _ [.int .i64 X.length,.slice xa X.length xc] _ _ rfl
 have HOP:=hid (FX G t vm W1.heap.size X.length _ X W2 (hvm.kept (hk1.tr hk2)) b4.1 (b4.2 0 _ rfl) (b4.2 1 _ rfl) (h1.kept (hk1.tr hk2)) hw1 hX hX);have HK1:=hid hk1;have HK2:=hid hk2;have HS:=hid hs;have HS1:=hid hs1;have HB1:=hid b1;have HBR:=hid br;have HFR:=hid fr;have H1:=hid h1;have HW1:=hid hw1;have HPV:=hid hpv;clear hk1 hk2 bf b1 br fr b4 h1 hw1 hs1 hpv;go_enter Tryz.func122,Tryz.ntmps122;go_upto_region 1 with(fail)
 rw[<-hW1,<-hs];clear hW1 hs;go_upto_region 2 with(go_at_call 69;rw[<-hW2];(with_reducible refine HOP.out.mono ?_);rintro e w3 ⟨b,H,rfl,hg3,tH,hop,hq,hk3⟩)
 have acF:=hid hop;have HQ:=hid hq;have Ac:=hid (HK2.out.tr hk3);have HG3:=hid hg3;clear hop hq hg3 hk3 y0 y1 y2 p0 p1 hW2;have hb1:=HB1.out.kept Ac.out;have p0:=hb1.2 0 _ rfl;have p1:=hb1.2 1 _ rfl;clear hb1;have HUN:=hid (Y3 X.length w3 hX);go_upto_region 7 with(go_at_call 172;(with_reducible refine HUN.out.mono ?_);rintro e w4 ⟨vu,ru,rfl,hmu,hk4⟩)
 obtain⟨ua,uc,eu⟩:=hmu.lenOf;rw[gV] at eu;subst eu;have HMU:=hid hmu;have HK4:=hid hk4;have HB4:=hid (HB1.out.kept (Ac.out.tr hk4));clear p0 p1 hmu hk4;have p0:=HB4.out.2 0 _ rfl;have p1:=HB4.out.2 1 _ rfl;have hrd:=H1.out.kept ((HK1.out.tr Ac.out).tr HK4.out);have HCL:Hid (∀ i,i<X.length->(Gj.row X i).length<=1000):=hid (fun i hi=>by rw[HW1.out.wf i hi];omega);have HWX:Hid (WF H.q X X.length):=hid (by rw[HQ.out];exact HW1.out);have HLN:Hid (Ln (jF X.length) X.length):=hid (fun i hi=>by rw[gV] at hi;rw[Js hi];simp);have hs4:=HK4.out.size
 go_region_law(first
  |(go_simp;go_at_call 130;(with_reducible refine(EH _ X _ (by exact hrd.kept (aC _)) hX HCL.out).mono ?_);rintro e w5 ⟨v5,r5,rfl,aj8,hm5,hk5⟩;have zk:ay w4 w5:=(by exact(aC _).tr hk5);have aiB:Mx w5 w4.heap.size v5 X r5:=hm5;obtain⟨g5,c5,e5⟩:∃ g c,v5=.slice (some ⟨g,0,none⟩) X.length c:=(by rcases aiB.form with⟨e,_⟩|⟨g,c,e,_⟩;exact absurd (by rw[e];rfl) aj8;exact⟨g,c,e⟩);subst e5;have HM5:=hid aiB;have HK5:=hid zk;have hb5:=HB4.out.kept zk;have p0:=hb5.2 0 _ rfl;have p1:=hb5.2 1 _ rfl;clear hm5 hk5 aiB zk hb5 aj8)
  |(go_simp;go_at_call 131;(with_reducible refine(qX b H tH X.length X.length g5 c5 (.slice ua X.length uc) X (jF X.length) r5 ru w3 _ HG3.out (by exact HK4.out.tr HK5.out) ⟨by exact HM5.out.mono hs4,by exact HMU.out.kept HK5.out,fun x hx hy=>(by have h1:=HM5.out.has_lt hx;have h2:=HMU.out.has_lt (by rw[gV];simpa[gV] using hy);omega)⟩ HWX.out HLN.out (.inr (gV _)) hX1 hX hX hX1 hX).mono ?_);rintro e w6 ⟨vp,d,s1,s2,rfl,hk6,hm6,hp6⟩;rw[acF.out] at hm6 hp6;obtain⟨pa,pc,ep,_,_⟩:=hp6.sl.lenOf;rw[aI,show(gjP (opG G) X.length 0 X (jF X.length) []).2.2.length=X.length from HPV.out] at ep;subst ep;have HM6:=hid hm6;have HK6:=hid hk6;have hb6:=HB1.out.kept (Ac.out.tr hk6);have p0:=hb6.2 0 _ rfl;have p1:=hb6.2 1 _ rfl;have aiC:=hid (HBR.out.kept (Ac.out.tr hk6));have r0:=aiC.out.2 0 _ rfl;have r1:=aiC.out.2 1 _ rfl;have ag0:=HFR.out.kept (Ac.out.tr hk6);have g0:=ag0.2 0;have g1:=ag0.2 1;have hlr:s+1+1<w6.heap.size:=ag0.1;clear hm6 hp6 hk6 hb6 ag0))
 all_goals
  have HLO:Hid (s+1+1<w3.heap.size):=hid (by
   have h1:=Ac.out.size;have h2:=HS1.out;omega)
  go_wp2_with(fail)
  refine bodyPost_ret (aF rfl rfl (mF (u0:=.int .i64 X.length) (u1:=.slice ua X.length uc) ?_)) rfl ⟨_,s2,rfl, ?_, ?_⟩
  ·exact(aiC.out.set 0 _).set 1 _
  ·have hm:=HM6.out.m2;have hd:¬ Has (.slice ua X.length uc) s2 (gjP (opG G) X.length 0 X (jF X.length) []).2.1.length (s+1+1):=fun q=>by
    have:=(hm.has_lt q).1;have:=HLO.out;omega
   have hle:w.heap.size<=w3.heap.size:=(HK1.out.tr Ac.out).size;exact(hm.grown (aQ (aj _ _ 0 _) 1 _) hd).mono hle
  ·have hk:ay w w6:=(HK1.out.tr Ac.out).tr HK6.out;have hle:w.heap.size<=s+1+1:=by have:=HS.out;omega
   exact aA _ (aA _ hk hle) hle
def qI (r:List Int) (S:List Nat) (k:Nat):List Int:=(List.range S.length).map fun j=>if j<k then r.getD (S.getD j 0) 0 else 0
theorem PX (r:List Int) (S:List Nat):qI r S 0=List.replicate S.length 0:=by
 refine zM (by simp[qI]) fun j h1 h2=>?_;simp[qI]
theorem PY (r:List Int) (S:List Nat):qI r S S.length=S.map fun j=>r.getD j 0:=by
 refine zM (by simp[qI]) fun j h1 h2=>?_;have:j<S.length:=by simpa[qI] using h1
 simp[qI,this,List.getD]
theorem U9 {r:List Int} {S:List Nat} {k:Nat}:(qI r S k).set k (r.getD (S.getD k 0) 0)=qI r S (k+1):=by
 refine zM (by simp[qI]) fun j h1 h2=>?_;rw[xO];by_cases e:k=j
 ·subst e;simp[qI]
 ·have:(j<k)=(j<k+1):=by rw[eq_iff_iff];omega
  simp[qI,e,this]
theorem Va (r:List Int) (S:List Nat) (k:Nat):(qI r S k).length=S.length:=by simp[qI]
theorem Dz {A:List (List Int)} {S:List Nat} {k:Nat} (h:k<A.length):Gj.row (dM A S) k=S.map fun j=>(Gj.row A k).getD j 0:=by
 simp[Gj.row,dM,List.getD,h]
set_option maxRecDepth 100000 in
theorem LK (G:GFd) (t:aK G) (vm:Value) (n:Nat) (v1:Value) (A:List (List Int)) (S:List Nat) (vs:Value) (w:World) (hvm:Sl w vm G.mod) (h1:Rd w v1 A) (hw1:WF G.q A n) (hn:n<=256) (hA:A.length<=256) (hs:Sl w vs (bQ S)) (hS:∀ i,i<S.length->S.getD i 0<n) (hSl:S.length<=256):
  Calls Tryz.prog 121 #[.agg #[.int .i64 G.P,.int .i64 G.M,vm],.agg #[.int .i64 n,v1],vs] w fun e w'=>∃ v rv,e=.returned (.tuple #[.agg #[.int .i64 S.length,v],.int .i64 0])/\Mx w' w.heap.size v (dM A S) rv/\ay w w':=by
 obtain⟨xa,xc,rfl,_,_⟩:=h1.get;obtain⟨sa,sc,rfl,hsc,hsm⟩:=hs.lenOf;rw[aI] at hsc ⊢;unfold maxLen at hsm;obtain⟨W1,hW1⟩:∃ x,x=((w.alloc (.cells #[.int .i64 G.P,.int .i64 G.M,vm] 24)).alloc (.cells #[.int .i64 n,.slice xa A.length xc] 71)).alloc (.cells #[.int .i64 0,.slice none 0 0] 71):=⟨_,rfl⟩
 obtain⟨s,hs'⟩:∃ s,s=w.heap.size:=⟨_,rfl⟩
 have hk1:ay w W1:=by rw[hW1];exact((ah _ _).tr (ah _ _)).tr (ah _ _)
 have bf:Bk W1 s [.int .i64 G.P,.int .i64 G.M,vm]:=by rw[hW1];exact((aG _ [.int .i64 G.P,.int .i64 G.M,vm] _ _ (by simp[hs'])).kept (ah _ _)).kept (ah _ _)
 have b1:Bk W1 (s+1) [.int .i64 n,.slice xa A.length xc]:=by rw[hW1];exact(aG _ [.int .i64 n,.slice xa A.length xc] _ _ (by simp[hs'])).kept (ah _ _)
 have br:Bk W1 (s+1+1) [.int .i64 0,.slice none 0 0]:=by rw[hW1];exact aG _ [.int .i64 0,.slice none 0 0] _ _ (by simp[hs'])
 have fr:Fz W1 (s+1+1):=by rw[hW1];exact bD _ _ _ _ (by simp[hs'])
 have hs1:W1.heap.size=s+1+1+1:=by rw[hW1,hs'];simp
 have y0:=bf.2 0 _ rfl;have y1:=bf.2 1 _ rfl;have y2:=bf.2 2 _ rfl;have p0:=b1.2 0 _ rfl;have p1:=b1.2 1 _ rfl;obtain⟨W2,hW2⟩:∃ x,x=W1.alloc (.cells #[.int .i64 n,.slice xa A.length xc] 71):=⟨_,rfl⟩
 have hk2:ay W1 W2:=by rw[hW2];exact ah _ _
 have b4:Bk W2 W1.heap.size [.int .i64 n,.slice xa A.length xc]:=by rw[hW2];exact aG _ [.int .i64 n,.slice xa A.length xc] _ _ rfl
 have HOP:=hid (FX G t vm W1.heap.size n _ A W2 (hvm.kept (hk1.tr hk2)) b4.1 (b4.2 0 _ rfl) (b4.2 1 _ rfl) (h1.kept (hk1.tr hk2)) hw1 hn hA);obtain⟨N,hN⟩:∃ x,x=S.length:=⟨_,rfl⟩
 rw[<-hN] at hsc hSl ⊢;have HN:=hid hN;have HK1:=hid hk1;have HK2:=hid hk2;have HS':=hid hs';have HS1:=hid hs1;have HB1:=hid b1;have HBR:=hid br;have HFR:=hid fr;have H1:=hid h1;have HW1:=hid hw1;have HSS:=hid hs;have HSB:=hid hS;clear hk1 hk2 bf b1 br fr b4 h1 hw1 hs1 hs hS hN;go_enter Tryz.func121,Tryz.ntmps121;go_upto_region 1 with(fail)
 rw[<-hW1,<-hs'];clear hW1 hs';go_upto_region 2 with(go_at_call 69;rw[<-hW2];(with_reducible refine HOP.out.mono ?_);rintro e w3 ⟨b,H,rfl,hg3,tH,hop,hq,hk3⟩)
 have Ac:=hid (HK2.out.tr hk3);clear hop hq hg3 tH hk3 y0 y1 y2 p0 p1 hW2;have HKw:=hid (HK1.out.tr Ac.out);have hb1:=HB1.out.kept Ac.out;have p0:=hb1.2 0 _ rfl;have p1:=hb1.2 1 _ rfl;have HS3:=hid (HSS.out.kept HKw.out);have hsN:Hid (∀ k,k<N->∃ (q:Nat) (b0 o0:Nat),q=S.getD k 0/\q<n/\sa=some ⟨b0,o0,none⟩/\b0<w.heap.size/\w.cell? ⟨b0,o0+k,none⟩=some (.int .i64 q)):=hid (fun k hk=>by
  obtain⟨_,_,e1,_,_,hc⟩:=HSS.out;obtain⟨b0,o0,e2,hb,hcell⟩:=hc (fun e=>by have:=congrArg List.length e;rw[aI,<-HN.out] at this;simp at this;omega);cases e1
  have:=hcell k (by rw[aI,<-HN.out];exact hk);rw[ints_at (by rw[<-HN.out];exact hk)] at this;exact⟨_,b0,o0,rfl,HSB.out k (by rw[<-HN.out];exact hk),e2,hb,this⟩)
 clear hb1;go_upto_region 6 with(fail)
 go_wp2_with(fail)
 go_loop [35] (fun vi=>∃ k:Nat,k<=N/\vi=.int .i64 k) (fun vi=>N- (intOf vi).toNat)
 case atStart=>exact⟨0,by omega,rfl⟩
 case round=>
  obtain⟨k,hk,rfl⟩:=hrel;by_cases hlt:k<N
  ·have hlt':(k:Int)< (N:Int):=by omega
   have hk0:(0:Int)<=(k:Int):=by omega
   obtain⟨q,b0,o0, -,hqn,rfl,hb0,hcq⟩:=hsN.out k hlt;have al3:w3.cell? ⟨b0,o0+k,none⟩=some (.int .i64 q):=(HKw.out.cell' hb0).trans hcq;have t1:decide ((q:Int)<0)=false:=by simp
   have t2:decide ((n:Int)<=(q:Int))=false:=by simp;omega
   have t2n:decide (n<=q)=false:=by simp;omega
   clear hcq;go_wp2_with(fail)
   go_round;case rel=>exact⟨k+1,by omega,by go_num⟩
   case measure=>simp[intOf];omega
  ·go_upto_region 13 with(fail)
   clear hlt hk;obtain⟨W4,hW4⟩:∃ x,x=w3.alloc (.cells #[.int .i64 N,.slice none 0 0] 71):=⟨_,rfl⟩
   rw[<-hW4];obtain⟨bo,hbo⟩:∃ x,x=w3.heap.size:=⟨_,rfl⟩
   have hk4:ay w3 W4:=by rw[hW4];exact ah _ _
   have o4:Qm W4 W4.heap.size bo N [] (.slice none 0 0) (fun _=>.slice none 0 0):=⟨qR _ _,by rw[hW4];exact aG _ [.int .i64 N,.slice none 0 0] _ _ hbo,by rw[hW4];exact bD _ _ _ _ hbo,by rw[hW4,hbo];simp⟩
   obtain⟨B0,hB0⟩:∃ x,x=W4.heap.size:=⟨_,rfl⟩
   rw[<-hbo];rw[<-hB0] at o4;have HB0:=hid hB0;have HBO:=hid hbo;have HO4:=hid o4;have HK4:=hid hk4;have HXL:Hid ((dM A S).length=A.length):=hid (by simp[dM]);clear hW4 hk4 o4 hB0 hbo p0 p1;have hb1:=HB1.out.kept (Ac.out.tr HK4.out);have p1:=hb1.2 1 _ rfl;clear hb1;go_wp2_with(fail)
   go_loopw [55] (fun vi wr=>∃ (k:Nat) (vv:Value) (rv:Nat->Value),k<=A.length/\vi=.int .i64 k/\Qm wr B0 bo N ((dM A S).take k) vv rv/\ay w3 wr/\Hid (B0<=wr.heap.size)) (fun vi _=>A.length- (intOf vi).toNat)
   case atStart=>exact⟨0,_,_,by omega,rfl,HO4.out,HK4.out,hid (by rw[HB0.out];exact zy _)⟩
   case round=>
    obtain⟨k,vv,rv,hk,rfl,hom,hkr,HBS⟩:=hrel;have hkw:ay w wr:=HKw.out.tr hkr;by_cases hlt:k<A.length
    ·have hlt':(k:Int)< (A.length:Int):=by omega
     have hk0:(0:Int)<=(k:Int):=by omega
     obtain⟨_,_,e1,_,_,hx0⟩:=H1.out.get;obtain⟨xb,xo,e2,hxb⟩:=hx0 (fun e=>by rw[e] at hlt;simp at hlt);cases e1
     subst e2;obtain⟨u,hu,hsu⟩:=H1.out.cellAt hlt;have hur:wr.cell? ⟨xb,xo+k,none⟩=some u:=(hkw.cell' hxb).trans hu;have hlx:(Gj.row A k).length=n:=HW1.out.wf k hlt;obtain⟨ua,uc,eu,_,_⟩:=hsu.lenOf;rw[hlx] at eu;subst eu;have HSU:=hid hsu;have HLX:=hid hlx;obtain⟨g,hg⟩:∃ g,g=wr.heap.size:=⟨_,rfl⟩
     have HM:=hid hom;have HKR:=hid hkr;have al4:=hid hkw;have aiA:((dM A S).take k).length<=256:=by rw[yF];omega
     clear p1 hu hsu hom hx0 hkw hkr hlx;go_upto_region 17 with(at_make;refine aJ rfl _ _ rfl N _ _ rfl rfl rfl rfl (by omega) ?_;intro w5 ho5 hk5)
     rw[<-hg] at ho5 ⊢;obtain⟨wo,hwo⟩:∃ y,y=wr:=⟨_,rfl⟩
     subst hwo;have HG:=hid hg;have HO5:=hid ho5;have HK5:=hid hk5;clear ho5 hk5 hg hur;go_wp2_with(fail)
     go_loopw [64] (fun vj wx=>∃ j:Nat,j<=N/\vj=.int .i64 j/\Own wx g (.slice (some ⟨g,0,none⟩) N N) (qI (Gj.row A k) S j)/\ay wo wx) (fun vj _=>N- (intOf vj).toNat)
     case atStart=>exact⟨0,by omega,rfl,by rw[PX,<-HN.out];exact HO5.out,HK5.out⟩
     case round=>
      obtain⟨j,hj,rfl,hox,hkx⟩:=hrel;by_cases hjl:j<N
      ·have aiu:(j:Int)< (N:Int):=by omega
       have hj0:(0:Int)<=(j:Int):=by omega
       have aiD:=al4.out.tr hkx;obtain⟨q,b0,o0,hqq,hqn,rfl,hb0,hcq⟩:=hsN.out j hjl;have al3:wr.cell? ⟨b0,o0+j,none⟩=some (.int .i64 q):=(aiD.cell' hb0).trans hcq;have aoa:(q:Int)< (n:Int):=by omega
       have hq0:(0:Int)<=(q:Int):=by omega
       obtain⟨_,_,e3,_,_,hcu⟩:=HSU.out;obtain⟨b9,o9,e4,hb9,aaB⟩:=hcu (fun e=>by have:=HLX.out;rw[e] at this;simp at this;omega);cases e3
       subst e4;have hcz:=(aiD.cell' hb9 (o:=o9+q)).trans (aaB q (by rw[HLX.out];exact hqn));obtain⟨z,hz⟩:∃ z,z=(Gj.row A k).getD q 0:=⟨_,rfl⟩
       rw[<-hz] at hcz;have HZ:=hid hz;have HQQ:=hid hqq;have hcg:=hox.cell (i:=j) (by rw[Va,<-HN.out];exact hjl);have hfg:=hox.frozen j;have HOX:=hid hox;have HKX:=hid hkx;clear aaB hcu hz hqq hcq hox hkx aiD;go_wp2_with(fail)
       go_roundw;case rel=>
        have h2:=HOX.out.set j z;rw[HZ.out,HQQ.out,U9] at h2;rw[HZ.out,HQQ.out];exact⟨j+1,by omega,by go_num,h2,aA _ HKX.out (xK HG.out.symm)⟩
       case measure=>simp[intOf];omega
      ·have hjN:j=N:=by omega
       subst hjN;rw[HN.out,PY,<-Dz hlt] at hox;rw[<-HN.out] at hox;have hom:=HM.out.kept hkx;have o1:=hom.b.2 1 _ rfl;have HOX:=hid hox;have HKX:=hid hkx;have HMX:=hid hom;have hBx:B0<=wr.heap.size:=zJ HBS.out hkx.size;clear hox hkx hom;go_wp2_with(at_builtin;refine dD rfl _ _ rfl B0 vv ((dM A S).take k).length _ rfl (HMX.out.m.kept (ah _ _)).out ⟨wr.heap.size,0,none⟩ (.slice (some ⟨g,0,none⟩) j j) rfl (aU rfl) rfl (by omega) (by simp;omega) ?_;intro v7 w7 o7 hg7;obtain⟨a7,c7,e7⟩:=dh o7;subst e7;have z0:=((HMX.out.b.kept (ah _ _)).gbo hg7 HMX.out.nbo).2 1 _ rfl;have z1:=((HMX.out.f.kept (ah _ _)).gbo hg7 HMX.out.nbo).2 1)
       obtain⟨r1,r2,r3⟩:=HM.out.add (HKX.out.tr (ah _ _)) HBS.out ((show Own wr wo.heap.size _ _ by rw[<-HG.out];exact HOX.out).kept (ah _ _)) o7 hg7 HKR.out (xK HBO.out.symm);rw[<-Jr (by rw[HXL.out];exact hlt)] at r1;simp only[yF] at r1 r2 r3;have HR1:=hid r1;have HR2:=hid r2;have HR3:=hid r3;clear r1 r2 r3 o7 hg7 z0 z1;go_roundw;case rel=>exact⟨k+1,_,_,by omega,by go_num,HR1.out,HR2.out,HR3⟩
       case measure=>simp[intOf];omega
    ·have hkn:k=A.length:=by omega
     subst hkn;have hft:Hid ((dM A S).take A.length=dM A S):=hid (by rw[<-HXL.out,wu]);rw[hft.out] at hom;have hbr:=HBR.out.kept (Ac.out.tr hkr);have hfr:=HFR.out.kept (Ac.out.tr hkr);have r0:=hbr.2 0 _ rfl;have r1:=hbr.2 1 _ rfl;have g0:=hfr.2 0;have g1:=hfr.2 1;have o0:=hom.b.2 0 _ rfl;obtain⟨la,lc,el⟩:=hom.m.lenOf;obtain⟨L,hL⟩:∃ x,x=(dM A S).length:=⟨_,rfl⟩
     rw[<-hL] at el;subst el;have o1:=hom.b.2 1 _ rfl;have HM:=hid hom;have HKR:=hid hkw;have aav:=hid hbr;have HLO:Hid (s+1+1<B0):=hid (by
      have h1:=Ac.out.size;have h2:=HS1.out;have h3:=HBO.out;have h4:=HM.out.lt;omega)
     have hlr:s+1+1<wr.heap.size:=hbr.1;clear hom hkr hkw hbr hfr hL p1;go_wp2_with(fail)
     refine bodyPost_ret (aF rfl rfl (mF ((aav.out.set 0 _).set 1 _))) rfl ⟨_,rv,rfl, ?_, ?_⟩
     ·exact(HM.out.m.grown (aQ (aj _ _ 0 _) 1 _) (fun q=>by have:=(HM.out.m.has_lt q).1;have:=HLO.out;omega)).mono (by have:=HLO.out;have:=HS'.out;omega)
     ·exact aA _ (aA _ HKR.out (by have:=HS'.out;omega)) (by have:=HS'.out;omega)
end
end Go.Proofs.YtoilbeadokallaaGreatDoor
