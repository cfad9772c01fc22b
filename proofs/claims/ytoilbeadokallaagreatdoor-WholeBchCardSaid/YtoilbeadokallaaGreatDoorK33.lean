/- Lemmas on the way to the row. Conditions: each lemma's own, stated with it. -/
import Derived.Test.YtoilbeadokallaaGreatDoorK31
set_option maxHeartbeats 8000000
namespace Go.Proofs.YtoilbeadokallaaGreatDoor
section
open Go.RowKit Cw Cw.Gj
theorem acN {G:GFd} (t:aK G) {a:Int} {us xs:List Int} (h:∀ j,j<xs.length->0<=xs.getD j 0/\xs.getD j 0<G.q):∀ j,j<xs.length->0<=(iP (opG G) a us xs).getD j 0/\(iP (opG G) a us xs).getD j 0<G.q:=fun j hj=>by
 rw[lX hj]
 split
 ·exact h j hj
 ·exact t.jv _ _
theorem U7 {o:Cw.Op} {r w:List Int} {rec:List Int->List Int×Int->List Int×Int} {F a:Nat} {s:List Int×Int} (h2:a<=F):Wx o r w rec (F+1-a) a s=Wx o r w rec (F+1- (a+1)) (a+1) (rec (iP o a r w) s):=by
 obtain⟨f,hf⟩:∃ f,F+1-a=f+1:=⟨F-a,by omega⟩
 rw[hf,show F+1- (a+1)=f by omega];rfl
theorem Jo {o:Cw.Op} {q:Nat} {B:List (List Int)} {w:List Int} {al:Bool} {rec:Nat->List Int->List Int×Int->List Int×Int} {K i:Nat} {s:List Int×Int} (h:i<K):YF o q B w al rec (K-i) i s=YF o q B w al rec (K- (i+1)) (i+1) (Wx o (Gj.row B i) w (rec (i+1)) (if al then min 1 (q-1) else q-1) 1 s):=by
 obtain⟨f,hf⟩:∃ f,K-i=f+1:=⟨K-i-1,by omega⟩
 rw[hf,show K- (i+1)=f by omega];rfl
set_option maxRecDepth 100000 in
theorem YZ (b:Nat) (G:GFd) (t:aK G) (bs:Nat) (c1 c2 c3 c4 c5 c6:Value) (vg:Value) (B:List (List Int)) (rv:Nat->Value) (N:Nat) (w0:World) (hg:dW w0 b G) (hbs:w0.heap.size<=bs) (hN:0<N) (hN2:N<=64) (hB:∀ i,i<B.length->(Gj.row B i).length=N) (hB2:B.length<=64):
  ∀ (n:Nat) (vw:Value) (vl:List Int) (first:Nat) (alone:Bool) (bv:Value) (s:List Int×Int) (w:World),n<=64->first<=64->ay w0 w->SrM w bs b c1 c2 c3 c4 c5 c6 bv s->Mx w (bs+1) vg B rv->Own w (bs+1) vw vl->vl.length=N->(∀ j,j<N->0<=vl.getD j 0/\vl.getD j 0<G.q)->
  Calls Tryz.prog 67 #[.pointer (some ⟨bs,0,none⟩),vg,vw,.int .i64 first,.int .i64 n,.bool alone] w (aip w bs b c1 c2 c3 c4 c5 c6 (zD (opG G) G.q.toNat B n vl first alone s)):=by
 have HG:=hid hg;have HB:=hid hB;have hq2:2<=G.q/\G.q<=256:=⟨t.qb.1,t.qb.2.1⟩
 clear hg hB;intro n;induction n with
 |zero=>
  intro vw vl first alone bv s w hn hf hk hs hm hv hl hE
  have HL:=hid (YW b G t bs c1 c2 c3 c4 c5 c6 bv s vw vl w0 w HG.out hk hbs hs hv (by rw[hl];exact hE) (by omega) (by omega));clear hs hm hv hE hk;go_enter Tryz.func67,Tryz.ntmps67;go_wp2_with(go_at_call 127;refine HL.out.mono ?_;rintro e w2 ⟨rfl,bv2,hs2,hg2⟩;have HS2:=hid hs2;have HG2:=hid hg2;clear hs2 hg2)
  go_end0
  exact⟨rfl,bv2,HS2.out,HG2.out⟩
 |succ n ih=>
  intro vw vl first alone bv s w hn hf hk hs hm hv hl hE
  have IH:=hid ih;have HS:=hid hs;have HM:=hid hm;have HV:=hid hv;have HL:=hid hl;have HE:=hid hE;have HK:=hid hk;obtain⟨va,vc,hva⟩:=hm.lenOf;subst hva;obtain⟨R,hR⟩:∃ x,x=B.length:=⟨_,rfl⟩
  have HR:=hid hR;rw[<-hR] at hB2 ⊢;obtain⟨Q,hQ⟩:∃ x,x=G.q.toNat:=⟨_,rfl⟩
  have hQq:G.q=(Q:Int):=by omega
  have HQQ:=hid hQq;have hQ2:2<=Q/\Q<=256:=by omega
  obtain⟨F,hF⟩:∃ x,x=if alone then min 1 (Q-1) else Q-1:=⟨_,rfl⟩
  have HF:=hid hF;obtain⟨rec,hrec⟩:∃ x,x=fun(i:Nat) (v:List Int) (s:List Int×Int)=>zD (opG G) Q B n v i false s:=⟨_,rfl⟩
  have alW:=hid hrec;obtain⟨S,hS⟩:∃ x,x=zD (opG G) Q B (n+1) vl first alone s:=⟨_,rfl⟩
  have HSS:Hid (YF (opG G) Q B vl alone rec (R-n-first) first s=S):=hid (by rw[hS,hrec,hR];rfl);rw[<-hQ] at IH ⊢;rw[<-hS];have adG:=hid (fun w' (h:dW w' b G)=>kS b G w' h);simp only[hQq] at adG;obtain⟨N1,hN1⟩:∃ x,x=n+1:=⟨_,rfl⟩
  rw[<-hN1];have HN1:=hid hN1;have hn1:N1<=64:=by omega
  have hn0:1<=N1:=by omega
  have tn:(((N1:Nat):Int)==0)=false:=by simp;omega
  clear ih hs hm hv hl hE hk hR hQ hQq hF hrec hS hq2 hn hN1;go_enter Tryz.func67,Tryz.ntmps67;go_wp2_with(fail)
  go_loopw [12] (fun vi wr=>∃ (i:Nat) (bv':Value) (s':List Int×Int),i<=128/\vi=.int .i64 i/\Hid (YF (opG G) Q B vl alone rec (R-n-i) i s'=S)/\SrM wr bs b c1 c2 c3 c4 c5 c6 bv' s'/\w.grownBy wr (some bs)) (fun vi _=>200- (intOf vi).toNat)
  case atStart=>exact⟨first,bv,s,by omega,rfl,HSS,HS.out,World.grownBy.refl _ _⟩
  case round=>
   obtain⟨i,bv',s',hi,rfl,HI,hsr,hgr⟩:=hrel;have hw1:IntKind.i64.wrap ((i:Int)+(N1:Int))=(i:Int)+(N1:Int):=IntWalk.i64_in _ (by omega);have HSR:=hid hsr;have HGR:=hid hgr;clear hsr hgr;by_cases hlt:i+N1<=R
   ·have c1':decide ((i:Int)+(N1:Int)<=(R:Int))=true:=by simp;omega
    have hi64:i<R:=by omega
    have HIR:Hid (i<R-n):=hid (by have:=HN1.out;omega);go_wp2_with(fail)
    obtain⟨wo,hwo⟩:∃ y,y=wr:=⟨_,rfl⟩
    subst hwo
    go_loopw [13] (fun va wx=>∃ (a:Nat) (bv2:Value) (s2:List Int×Int),1<=a/\a<=F+1/\va=.int .i64 a/\Hid (alone=true->a=1)/\Hid (Wx (opG G) (Gj.row B i) vl (rec (i+1)) (F+1-a) a s2=Wx (opG G) (Gj.row B i) vl (rec (i+1)) F 1 s')/\SrM wx bs b c1 c2 c3 c4 c5 c6 bv2 s2/\w.grownBy wx (some bs)) (fun va _=>F+1- (intOf va).toNat)
    case atStart=>exact⟨1,bv',s',by omega,by omega,rfl,hid fun _=>rfl,hid (by rw[uy]),HSR.out,HGR.out⟩
    case round=>
     obtain⟨a,bv2,s2,ha1,haF,rfl,HAL,HSA,hsx,hgx⟩:=hrel;have hkx:ay w0 wr:=aH HK.out hgx hbs HK.out.size;have x0:=hsx.bk.2 0 _ rfl;have lx:bs<wr.heap.size:=hsx.bk.1;have hgw:=HG.out.kept hkx;have HSX:=hid hsx;have HGX:=hid hgx;have HKX:=hid hkx;clear hsx hgx hkx;by_cases haq:a<Q
     ·have c2':decide ((a:Int)< (Q:Int))=true:=by simp;omega
      have c2n:decide (a<Q)=true:=by simp;omega
      have HVX:=hid (HV.out.grownBy HGX.out (.inr fun e=>by have:=(aN HV.out e).1;omega));have HMX:=hid (HM.out.grown HGX.out (fun e=>by have:=(HM.out.has_lt e).1;omega));have alX:=hid (fun w' (h:ay wr w')=>clone_any vw vl w' (HVX.out.sl.kept h) (by rw[HL.out];omega));have afG:=hid (adG.out wr hgw);have HAF:Hid (a<=F):=hid (by
       rw[HF.out];by_cases e:alone=true
       ·rw[zu e,HAL.out e];omega
       ·rw[zx e];omega)
      clear hgw;go_upto_region 9 with(first|(go_at_call 95;(with_reducible refine afG.out.mono ?_);rintro e w1 ⟨rfl,n1,rfl⟩)|(go_at_call 128;(with_reducible refine(alX.out _ (aB _ _)).mono ?_);rintro e w3 ⟨v3,rfl,ho3,hk3⟩))
      have aix:Own w3 wr.heap.size v3 vl:=ho3;have dN:ay wr w3:=(aB _ _).tr hk3;obtain⟨g3,cap3,e3,hg3,an4,an5,alY⟩:∃ g c,v3=.slice (some ⟨g,0,none⟩) N c/\wr.heap.size<=g/\g<w3.heap.size/\N<=c/\c<=maxLen:=by
       rcases aix.form with⟨_,e⟩|⟨g,c,e,e1,e2,e4,e5⟩
       ·have:=HL.out;rw[e] at this;simp at this;omega
       ·rw[HL.out] at e e4;exact⟨g,c,e,e1,e2,e4,e5⟩
      subst e3;unfold maxLen at alY;have HO3:=hid aix;have HK3:=hid dN;clear ho3 hk3 aix dN x0;obtain⟨gg,hgg⟩:∃ g,va=some ⟨g,0,none⟩:=by
       rcases HMX.out.form with⟨_,e2⟩|⟨g,cp,e,_⟩
       ·have:=HR.out;rw[e2] at this;simp at this;omega
       ·injection e with e1 _ _;exact⟨g,e1⟩
      subst hgg;have hiB:i<B.length:=by rw[<-HR.out];exact hi64
      have hm3:=HMX.out.kept HK3.out;have hcr:=hm3.cell hiB;obtain⟨rb,cp,er,_,hrb,hcp,aij⟩:=hm3.og hiB (by intro e;have:=HB.out i hiB;rw[e] at this;simp at this;omega);unfold maxLen at aij;rw[er,HB.out i hiB] at hcr;rw[HB.out i hiB] at hcp er;have HER:=hid er;have alZ:(i:Int)< (R:Int):=by omega
      have hi0:(0:Int)<=(i:Int):=by omega
      have lgg:gg<w3.heap.size:=(hm3.has_lt (.inl rfl)).2;clear hm3 er;go_upto_region 10 with(fail)
      clear hcr;obtain⟨wp,hwp⟩:∃ y,y=wr:=⟨_,rfl⟩
      subst hwp;go_wp2_with(fail)
      go_loopw [47] (fun vj wx=>∃ (j:Nat) (ys:List Int),j<=N/\vj=.int .i64 j/\Hid (ys.length=N)/\Hid (∀ q,q<N->ys.getD q 0=if q<j then(iP (opG G) a (Gj.row B i) vl).getD q 0 else vl.getD q 0)/\Own wx wp.heap.size (.slice (some ⟨g3,0,none⟩) N cap3) ys/\ay wp wx) (fun vj _=>N- (intOf vj).toNat)
      case atStart=>exact⟨0,vl,by omega,rfl,HL,hid (fun q hq=>by simp),HO3.out,HK3.out⟩
      case round=>
       obtain⟨j,ys,hj,rfl,hyl,hys,hox,hkx⟩:=hrel;have hsx:=HSX.out.kept hkx;have x0:=hsx.bk.2 0 _ rfl;have lbx:bs<wr.heap.size:=hsx.bk.1;have hgw:=HG.out.kept (HKX.out.tr hkx);have hmx:=HMX.out.kept hkx;have an6:g3<wr.heap.size:=hox.lt.2;by_cases hjl:j<N
       ·have aiu:(j:Int)< (N:Int):=by omega
        have hj0:(0:Int)<=(j:Int):=by omega
        have hrx:=hmx.row i hiB;rw[HER.out] at hrx;have hcz:=hrx.cell (i:=j) (by rw[HB.out i hiB];exact hjl);obtain⟨z,hz⟩:∃ z,z=(Gj.row B i).getD j 0:=⟨_,rfl⟩
        rw[<-hz] at hcz;have HZ:=hid hz;clear hz hrx hmx hsx;by_cases hz0:z=0
        ·have tz:(z != 0)=false:=by simpa using hz0
         have HZ0:=hid hz0;clear hz0;go_wp2_with(fail)
         go_roundw;case rel=>exact⟨j+1,ys,by omega,by go_num,hyl,hid (fun q hq=>by
          rw[hys.out q hq];by_cases e:q=j
          ·rw[e,zx (by omega),zu (by omega),lX (by rw[HL.out];exact hjl),<-HZ.out,zu HZ0.out]
          ·by_cases e2:q<j
           ·rw[zu e2,zu (by omega)]
           ·rw[zx e2,zx (by omega)]),hox,hkx⟩
         case measure=>simp[intOf];omega
        ·have tz:(z != 0)=true:=by simpa using hz0
         have HZ0:=hid hz0;clear hz0;have hcy:=hox.cell (i:=j) (by rw[hyl.out];exact hjl);obtain⟨y,hy⟩:∃ z,z=ys.getD j 0:=⟨_,rfl⟩
         rw[<-hy] at hcy;have hfy:=hox.frozen j;have j2:((j:Int)).toNat=j:=by omega
         have nbb:¬ bs=g3:=by omega
         have an7:¬ g3=bs:=by omega
         have HUS:Hid (∀ q,q<N->(ys.set j (gu G y (bF G a z))).getD q 0=if q<j+1 then(iP (opG G) a (Gj.row B i) vl).getD q 0 else vl.getD q 0):=hid (fun q hq=>by
          by_cases e:q=j
          ·rw[e,zu (by omega),lX (by rw[HL.out];exact hjl),<-HZ.out,zx HZ0.out];have e1:(ys.set j (gu G y (bF G a z))).getD j 0=gu G y (bF G a z):=by
            have:j<ys.length:=by rw[hyl.out];exact hjl
            simp[List.getD,this]
           have e2:=hys.out j hjl;rw[zx (by omega)] at e2;rw[e1,hy,e2];rfl
          ·have e1:(ys.set j (gu G y (bF G a z))).getD q 0=ys.getD q 0:=by simp[List.getD,zS (Ne.symm e)]
           rw[e1,hys.out q hq];by_cases e2:q<j
           ·rw[zu e2,zu (by omega)]
           ·rw[zx e2,zx (by omega)])
         have HOX:=hid hox;have aiy:=hid hkx;clear hy hox hkx;go_wp2_with(fail)
         go_region_law(first|(go_simp;go_at_call 94;(with_reducible refine(mul_any b G a z _ (by exact hgw.drew) t).mono ?_);rintro e w4 ⟨rfl,n4,rfl⟩)|(go_simp;go_at_call 115;(with_reducible refine(add_any b G y (bF G a z) _ (by exact hgw.drewN _) t).mono ?_);rintro e w5 ⟨rfl,n5,rfl⟩))
         all_goals
          go_wp2_with(fail)
          go_roundw;case rel=>
           refine⟨j+1,ys.set j (gu G y (bF G a z)),by omega,by go_num,hid (by simp[hyl.out]),HUS, ?_, ?_⟩
           ·exact(HOX.out.drewN _).set _ _
           ·exact aH (aH aiy.out (bW (aB wr _)) hg3 aiy.out.size) (aj _ g3 j _) hg3 (aiy.out.drewN _).size
          case measure=>simp[intOf];omega
       ·have hkk:Hid (ys=iP (opG G) a (Gj.row B i) vl):=hid (Bh (by rw[dR,hyl.out,HL.out]) fun q hq=>by
         rw[hyl.out] at hq;rw[hys.out q hq,zu (by omega)])
        obtain⟨i1,hi1⟩:∃ x,x=i+1:=⟨_,rfl⟩
        have hw3:IntKind.i64.wrap ((i:Int)+1)=(i1:Int):=by rw[IntWalk.i64_in _ (by omega)];omega
        have HI1:=hid hi1;have hw4:IntKind.i64.wrap ((N1:Int)-1)=(n:Int):=by have:=HN1.out;rw[IntWalk.i64_in _ (by omega)];omega
        have afH:=hid (IH.out (.slice (some ⟨g3,0,none⟩) N cap3) ys i1 false bv2 s2 wr (by have:=HN1.out;omega) (by omega) (HKX.out.tr hkx) hsx hmx (hox.mono (by omega)) hyl.out (fun q hq=>by rw[hkk.out];exact acN t (fun q hq=>HE.out q (by rw[<-HL.out];exact hq)) q (by rw[HL.out];exact hq)));have aj6:w.grownBy wr (some bs):=bJ HGX.out hkx;have al0:=hid aj6;clear hox hkx hsx hmx hgw x0 aj6;obtain⟨s5,hs5⟩:∃ x,x=zD (opG G) Q B n ys i1 false s2:=⟨_,rfl⟩
        have HS5:Hid (s5=rec (i+1) (iP (opG G) a (Gj.row B i) vl) s2):=hid (by rw[hs5,alW.out,hkk.out,hi1]);rw[<-HR.out,<-hs5] at afH;clear hs5 hi1;go_upto_region 16 with(go_at_call 67;(with_reducible refine afH.out.mono ?_);rintro e w5 ⟨rfl,bv5,hs5,hg5⟩)
        have aj7:=hid hs5;have afI:=hid (aO al0.out hg5);clear hs5 hg5;have HSN:=hid ((U7 (o:=opG G) (r:=Gj.row B i) (w:=vl) (rec:=rec (i+1)) (s:=s2) HAF.out).symm.trans HSA.out);cases alone with
        |false=>
         go_wp2_with(fail)
         go_roundw;case rel=>exact⟨a+1,bv5,s5,by omega,by have:=HAF.out;omega,by go_num,hid (fun e=>by cases e),hid (by rw[HS5.out];exact HSN.out),aj7.out,afI.out⟩
         case measure=>have:=HAF.out;simp[intOf];omega
        |true=>
         go_wp2_with(fail)
         go_roundw;case rel=>exact⟨i1,bv5,s5,by have:=HI1.out;omega,by go_num,hid (by
          rw[HI1.out];have e1:=HAL.out rfl;have e2:F=1:=by rw[HF.out,zu rfl];omega
          have e3:=HSN.out;subst e1;rw[e2] at e3;rw[<-HI.out,Jo HIR.out,HS5.out,zu rfl,<-show F=min 1 (Q-1) by rw[HF.out,zu rfl],e2];rw[<-e3];rfl),aj7.out,afI.out⟩
         case measure=>have:=HI1.out;simp[intOf];omega
     ·have c2':decide ((a:Int)< (Q:Int))=false:=by simp;omega
      have c2n:decide (a<Q)=false:=by simp;omega
      have afG:=hid (adG.out wr hgw);clear hgw;have haf:a=F+1:=by
       have h1:=HF.out;have h2:=HAL.out;cases alone with
       |false=>rw[zx (by simp)] at h1;omega
       |true=>have:=h2 rfl;omega
      have HAF:=hid haf;clear haf;go_wp2_with(go_at_call 95;(with_reducible refine afG.out.mono ?_);rintro e w1 ⟨rfl,n1,rfl⟩)
      go_roundw;case rel=>exact⟨i+1,bv2,s2,by omega,by go_num,hid (by
       have e3:=HSA.out;rw[HAF.out,uH] at e3;rw[<-HI.out,Jo HIR.out,<-HF.out,<-e3];rfl),HSX.out.kept (aB _ _),bJ HGX.out (aB _ _)⟩
      case measure=>simp[intOf];omega
   ·have c1':decide ((i:Int)+(N1:Int)<=(R:Int))=false:=by simp;omega
    have hfin:Hid (s'=S):=hid (by
     have e:R-n-i=0:=by have:=HN1.out;omega
     rw[<-HI.out,e];rfl)
    go_wp2_with(fail)
    go_end0
    exact⟨rfl,bv',by rw[<-hfin.out];exact HSR.out,HGR.out⟩
theorem U8 (x:Int):-9223372036854775808<=IntKind.i64.wrap x/\IntKind.i64.wrap x<=9223372036854775807:=by
 rw[IntKind.wrap_i64];omega
theorem acO (w:World) (x y z:Int) (T:TypeId):Sl (w.alloc (.cells #[.int .i64 x,.int .i64 y,.int .i64 z] T)) (.slice (some ⟨w.heap.size,0,none⟩) 3 3) [x,y,z]:=by
 refine⟨_,3,rfl,by simp,⟨by unfold maxLen;omega,fun e=>by cases e⟩,fun _=>⟨w.heap.size,0,rfl,by simp,fun i hi=>?_⟩⟩;have hi':i<3:=by simpa using hi
 match i,hi' with
 |0,_=>simp
 |1,_=>simp
 |2,_=>simp
def aiz (k q g:Nat) (words:Int) (wd:Nat) (w:World) (e:Ending) (w':World):Prop:=
 ay w w'/\((∃ x,e=.returned (.tuple #[.int .i64 x,.int .i64 0]))∨(¬YG k q g words wd/\e=.returned (.tuple #[.int .i64 0,.int .i64 8])))
set_option maxRecDepth 100000 in
theorem Y0 (b:Nat) (G:GFd) (t:aK G) (bs:Nat) (c1 c2 c3 c4 bv:Value) (va:Option Addr) (k vc:Nat) (ga:Option Addr) (g gc:Nat) (s:List Int×Int) (wd:Nat) (w:World) (hg:dW w b G) (hs:SrM w bs b c1 c2 c3 c4 (.slice va k vc) (.slice ga g gc) bv s) (h1:1<=wd) (hwk:wd<=k) (hk:k<=64) (hg1:1<=g) (hg2:g<=64):
  Calls Tryz.prog 66 #[.pointer (some ⟨bs,0,none⟩),.int .i64 wd] w (aiz k G.q.toNat g s.2 wd w):=by
 have x0:=hs.bk.2 0 _ rfl;have x5:=hs.bk.2 5 _ rfl;have x6:=hs.bk.2 6 _ rfl;have x8:=hs.bk.2 8 _ rfl;have lb:bs<w.heap.size:=hs.bk.1;have HCH:=hid (PV k wd 65536 (by omega) (by omega) (by omega) (by omega) w);have HS:=hid hs;have HG:=hid hg;have HB:=hid (U8 (65536-s.2));obtain⟨wv,hwv⟩:∃ x,x=s.2:=⟨_,rfl⟩
 rw[<-hwv] at x8 HB ⊢;have HWV:=hid hwv;obtain⟨q,hq⟩:∃ x,x=G.q:=⟨_,rfl⟩
 have hqb:=t.qb;have hq2:2<=q/\q<=256:=by rw[hq];omega
 have HQ:=hid hq;have adG:=hid (fun w' (h:dW w' b G)=>kS b G w' h);simp only[<-hq] at adG;have w1:IntKind.i64.wrap (q-1)=q-1:=IntWalk.i64_in _ (by omega);have w2:IntKind.i64.wrap ((wd:Int)-1)=((wd-1:Nat):Int):=by rw[IntWalk.i64_in _ (by omega)];omega
 have HEX:=hid (fun w'=>acz (q-1) (wd-1) 65536 w' (by omega) (by omega) (by omega) (by omega) (by omega));clear hs hg hwv hq hqb;cases hc:chR k wd 65536 with
 |none=>
  have HN:=hid hc;rw[hc] at HCH;unfold chT at HCH;clear hc;go_enter Tryz.func66,Tryz.ntmps66;go_wp2_with(go_at_call 124;refine HCH.out.mono ?_;rintro e w2 ⟨rfl,hk2⟩;have HK2:=hid hk2;clear hk2)
  refine bodyPost_ret (v:=.tuple #[.int .i64 0,.int .i64 8]) ?_ rfl ⟨HK2.out,.inr ⟨?_,rfl⟩⟩
  ·simp[results,Tryz.results66,go_sem]
  ·rintro⟨_,n,hn,_⟩;rw[HN.out] at hn;cases hn
 |some c=>
  have HC:=hid hc;have hc1:=acL hc hwk;have hc2:=afE hc (by omega);rw[hc] at HCH;unfold chT at HCH;clear hc;go_enter Tryz.func66,Tryz.ntmps66;go_upto_region 2 with(go_at_call 124;refine HCH.out.mono ?_;rintro e w2 ⟨rfl,hk2⟩)
  have HK2:=hid hk2;have hs2:=HS.out.kept hk2;have ahD:=HG.out.kept hk2;clear x0 x5 x6 x8 hk2;have x0:=hs2.bk.2 0 _ rfl;have x6:=hs2.bk.2 6 _ rfl;have x8:=hs2.bk.2 8 _ rfl;rw[<-HWV.out] at x8;have HS2:=hid hs2;have l2:bs<w2.heap.size:=hs2.bk.1;have afG:=hid (adG.out w2 ahD);clear hs2 ahD;go_upto_region 5 with(first
   |(go_at_call 95;(with_reducible refine afG.out.mono ?_);rintro e w3 ⟨rfl,n3,rfl⟩)
   |(go_at_call 125;(with_reducible refine(HEX.out _).mono ?_);rintro e w4 ⟨rfl,hx⟩;rcases hx with⟨rfl,hp1,hp2⟩|⟨rfl,hne⟩))
  ·obtain⟨p,hp⟩:∃ p,p=(q-1)^ (wd-1):=⟨_,rfl⟩
   rw[<-hp] at hp1 hp2 ⊢;have HP:=hid hp;obtain⟨W4,hW4⟩:∃ x,x=w2.drewN n3:=⟨_,rfl⟩
   have hk4:ay w2 W4:=by rw[hW4];exact aB _ _
   rw[<-hW4];have hs4:=HS2.out.kept hk4;have HS4:=hid hs4;have HK4:=hid hk4;clear x0 x6 x8 hp hW4 hk4;have x6:=hs4.bk.2 6 _ rfl;have x8:=hs4.bk.2 8 _ rfl;rw[<-HWV.out] at x8;have l4:bs<W4.heap.size:=hs4.bk.1;clear hs4;have HPR:Hid (∀ w' v',Sl w' v' [(g:Int),(c:Int),p]->Calls Tryz.prog 126 #[.int .i64 (IntKind.i64.wrap (65536-wv)),v'] w' fun e w''=>w''=w'/\∃ x y:Int,e=.returned (.tuple #[.int .i64 x,.int .i64 y])/\(y≠0->prR (IntKind.i64.wrap (65536-wv)) [(g:Int),(c:Int),p]=none)):=hid (fun w' v' hv=>by
    refine(LG (IntKind.i64.wrap (65536-wv)) v' [(g:Int),(c:Int),p] w' hv (fun j hj=>by
     match j,hj with
     |0,_=>simp;omega
     |1,_=>simp;omega
     |2,_=>simp;omega) HB.out.1 HB.out.2 (by simp)).mono ?_
    rintro e w2 ⟨⟨x,_,rfl⟩|⟨h,k,hk,rfl⟩,rfl⟩
    ·exact⟨rfl,x,0,rfl,fun h=>absurd rfl h⟩
    ·exact⟨rfl,0,k,rfl,fun _=>h⟩)
   obtain⟨mo,hmo⟩:∃ x,IntKind.i64.wrap (65536-wv)=x:=⟨_,rfl⟩
   rw[hmo] at HPR;have HMO:=hid hmo;have alT:g<=64:=hg2;go_upto_region 7 with(fail)
   go_region_law((go_simp;go_at_call 126;(with_reducible refine(HPR.out _ _ (by exact(acO _ _ _ _ _).kept (aC _))).mono ?_);rintro e w6 ⟨hw6,x,y,rfl,hy⟩;have HW6:Hid (ay W4 w6):=hid (by rw[hw6];exact(ah _ _).tr (aC _));have HY:=hid hy;clear hw6 hy))
   all_goals
    by_cases hy0:y=0
    ·have ty:(y != 0)=false:=by simpa using hy0
     clear hy0;go_wp2_with(fail)
     refine bodyPost_ret (v:=.tuple #[.int .i64 x,.int .i64 0]) ?_ rfl ⟨?_,.inl ⟨x,rfl⟩⟩
     ·simp[results,Tryz.results66,go_sem]
     ·exact HK2.out.tr (HK4.out.tr HW6.out)
    ·have ty:(y != 0)=true:=by simpa using hy0
     have hno:=HY.out hy0;have HNO:=hid hno;clear hy0 hno;go_wp2_with(fail)
     refine bodyPost_ret (v:=.tuple #[.int .i64 0,.int .i64 8]) ?_ rfl ⟨?_,.inr ⟨?_,rfl⟩⟩
     ·simp[results,Tryz.results66,go_sem]
     ·exact HK2.out.tr (HK4.out.tr HW6.out)
     ·rintro⟨hq,n,hn,hp⟩;have h1:=HC.out;rw[hn] at h1;have e:n=c:=wW h1;subst e;have e2:q=2:=by have:=HQ.out;omega
      have e3:p=1:=by rw[HP.out,e2,show(2:Int)-1=1 from rfl,Int.one_pow]
      rw[HMO.out] at hp;exact hp (by have:=HNO.out;rw[e3] at this;exact this)
  ·have HNE:=hid hne;clear hne;go_wp2_with(fail)
   refine bodyPost_ret (v:=.tuple #[.int .i64 0,.int .i64 8]) ?_ rfl ⟨HK2.out.tr (aB _ _),.inr ⟨?_,rfl⟩⟩
   ·simp[results,Tryz.results66,go_sem]
   ·rintro⟨hq,_⟩;have:=HNE.out;have:=HQ.out;omega
end
end Go.Proofs.YtoilbeadokallaaGreatDoor
