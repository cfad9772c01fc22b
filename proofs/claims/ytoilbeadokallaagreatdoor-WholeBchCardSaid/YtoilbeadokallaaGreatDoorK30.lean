/- Lemmas on the way to the row. Conditions: each lemma's own, stated with it. -/
import Derived.Test.YtoilbeadokallaaGreatDoorK28
import Derived.Test.YtoilbeadokallaaGreatDoorK29
set_option maxHeartbeats 4000000
namespace Go.Proofs.YtoilbeadokallaaGreatDoor
section
open Go.RowKit Cw Cw.Gj
theorem Own.fr {S:Nat->Prop} {w w':World} {B:Nat} {v:Value} {xs:List Int} (h:Own w B v xs) (f:Fr S w w') (hn:∀ g,v.ownBlock=some g->¬ S g):Own w' B v xs:=by
  obtain⟨h1,h2⟩:=h;refine⟨h1, ?_⟩;rcases h2 with h2|⟨g,cap,cur,rfl,hb,hg,r⟩
  · exact .inl h2
  · exact .inr ⟨g,cap,cur,rfl,hb,(f.block g (zL.1 hg).1 (hn g rfl)).trans hg,r⟩
theorem BaM.gbo {w w':World} {B0 bb b:Nat} {rs:List (List Int)} {ps:List Nat} {vr:Value} {rv:Nat->Value} {vp:Value} (h:BaM w B0 bb b rs ps vr rv vp) {y:Option Nat} (hg:w.grownBy w' y) (hx:∀ x,y=some x->¬ BaS bb vr rv rs.length vp x):BaM w' B0 bb b rs ps vr rv vp:=by
  cases y with
  |none=>exact h.kept ⟨hg.os,hg.tape,hg.output,hg.size,fun i hi=>hg.block i hi (by simp)⟩
  |some x=>exact h.grown hg (hx x rfl)
theorem gY (A:List (List Int)) (i:Nat):(jP A i).length=A.length:=by simp[jP]
structure BaI (rs:List (List Int)) (ps:List Nat) (L:Nat):Prop where
  l:∀ i,i<rs.length->(Gj.row rs i).length=L
  n:ps.length=rs.length
  p:∀ i,i<rs.length->ps.getD i 0<L
theorem GH (o:Cw.Op):∀ (rs:List (List Int)) (ps:List Nat) (v:List Int),(dV o rs ps v).length=v.length
  | [],_,_=>by rw[dV];intro _ _ _ _ e;cases e
  |_::_,[],_=>by rw[dV];intro _ _ _ _ _ e;cases e
  |r::rs,p::ps,v=>by rw[dV,GH o rs ps];split<;>simp[Ql]
theorem YL {o:Cw.Op} {rs:List (List Int)} {ps:List Nat} {v:List Int} (h:BaI rs ps v.length):BaI (kY o rs ps v).1 (kY o rs ps v).2.1 v.length/\(kY o rs ps v).1.length<=rs.length+1/\((kY o rs ps v).2.2=false->(kY o rs ps v).1=rs/\(kY o rs ps v).2.1=ps):=by
  by_cases hz:DW (dV o rs ps v)<0
  · rw[Lr hz]
    exact⟨h,Nat.le_succ _,fun _=>⟨rfl,rfl⟩⟩
  · obtain⟨k,_,hk,_,e⟩:=Gz hz
    rw[GH] at hk;rw[e];refine⟨⟨fun i hi=>?_,by simp[h.n],fun i hi=>?_⟩,by simp,fun q=>by cases q⟩
    · have hi':i<rs.length+1:=by simpa using hi
      by_cases q:i<rs.length
      · have:=h.l i q
        simpa[Gj.row,List.getD,yU q] using this
      · have q2:i=rs.length:=by omega
        subst q2;simp[Gj.row,List.getD,GH]
    · have hi':i<rs.length+1:=by simpa using hi
      by_cases q:i<rs.length
      · have:=h.p i q
        have q':i<ps.length:=by rw[h.n];exact q
        simpa[List.getD,yU q'] using this
      · have q2:i=ps.length:=by rw[h.n];omega
        subst q2;simpa[List.getD] using hk
theorem Ls {o:Cw.Op} {A:List (List Int)} {l:List Nat} {i:Nat} (h:i<l.length) (rs:List (List Int)) (ps:List Nat):bV o A (l.drop i) rs ps=if(kY o rs ps (jP A (l.getD i 0))).2.2 then l.getD i 0::bV o A (l.drop (i+1)) (kY o rs ps (jP A (l.getD i 0))).1 (kY o rs ps (jP A (l.getD i 0))).2.1 else bV o A (l.drop (i+1)) rs ps:=by
  rw[yP h,bV];have e:l.getD i 0=l[i]:=by simp[List.getD,h]
  rw[e]
set_option maxRecDepth 100000 in
theorem ES (b:Nat) (G:GFd) (t:aK G) (P M:Int) (vm:Value) (n:Nat) (va:Option Addr) (vc:Nat) (A:List (List Int)) (vo:Value) (l:List Nat) (w:World) (hg:dW w b G) (hv:Rd w (.slice va A.length vc) A) (hw:WF G.q A n) (hA:0<A.length) (hA2:A.length<=256)
    (ho:Sl w vo (bQ l)) (hl:∀ i,i<l.length->l.getD i 0<n) (hl2:l.length<=1000):
    Calls Tryz.prog 119 #[.pointer (some ⟨b,0,none⟩),.agg #[.int .i64 P,.int .i64 M,vm,.int .i64 n,.slice va A.length vc],vo] w fun e w'=>∃ v,e=.returned v/\Own w' w.heap.size v (bQ (bV (opG G) A l [] []))/\ay w w':=by
  obtain⟨oa,oc,rfl,hoc,hom⟩:=ho.lenOf;rw[aI] at hoc ⊢;obtain⟨W0,hW0⟩:∃ x,x=w.alloc (.cells #[.int .i64 P,.int .i64 M,vm,.int .i64 n,.slice va A.length vc] 29):=⟨_,rfl⟩
  obtain⟨W1,hW1⟩:∃ x,x=W0.alloc (.cells #[.pointer (some ⟨b,0,none⟩),.slice none 0 0,.slice none 0 0] 231):=⟨_,rfl⟩
  have hk0:ay w W0:=by rw[hW0];exact ah _ _
  have hk1:ay W0 W1:=by rw[hW1];exact ah _ _
  have bx:Bk W0 w.heap.size [.int .i64 P,.int .i64 M,vm,.int .i64 n,.slice va A.length vc]:=by rw[hW0];exact aG w [.int .i64 P,.int .i64 M,vm,.int .i64 n,.slice va A.length vc] _ _ rfl
  have b0:BaM W1 W0.heap.size W0.heap.size b [] [] (.slice none 0 0) (fun _=>.slice none 0 0) (.slice none 0 0):=by
    rw[hW1];refine⟨aG _ [.pointer (some ⟨b,0,none⟩),.slice none 0 0,.slice none 0 0] _ _ rfl,bD _ _ _ _ rfl,zy _,qR _ _,bZ _ _,fun q=>?_,(fun e=>by cases e),(fun x _ e=>by cases e)⟩;rcases q with q|⟨i,hi,_⟩
    · cases q
    · exact absurd hi (yw _)
  have HB0:=hid b0;have HK0:=hid hk0;have HK1:=hid hk1;have HBX:=hid bx;have HG:=hid (hg.kept hk0);have HV:=hid (hv.kept hk0);have HW:=hid hw;have HO:=hid (ho.kept hk0);have HLL:=hid hl;have hs0:W0.heap.size=w.heap.size+1:=by rw[hW0];simp
  obtain⟨bb,hbb⟩:∃ x,x=W0.heap.size:=⟨_,rfl⟩
  rw[<-hbb] at HB0;obtain⟨N,hN⟩:∃ x,x=l.length:=⟨_,rfl⟩
  have HN:=hid hN;rw[<-hN] at hoc hl2 HLL ⊢;have HBB:=hid hbb;clear hg hv hw ho hl b0 bx hk0 hk1 hN;go_enter Tryz.func119,Tryz.ntmps119;go_upto_region 2 with(fail)
  rw[<-hW0,<-hW1,<-hs0,<-hbb];clear hW0 hW1 hs0 hbb;go_wp2_with(fail)
  go_loopw [16,8] (fun vi vo wr=>∃ (vt:Value) (i:Nat) (rs:List (List Int)) (ps:List Nat) (vr:Value) (rv:Nat->Value) (vp:Value) (out:List Nat),i<=N/\vi=.int .i64 i/\vt=vo/\Own wr bb vt (bQ out)/\BaM wr bb bb b rs ps vr rv vp/\Hid (∀ x,BaS bb vr rv rs.length vp x->vt.ownBlock≠some x)/\
      Hid (out++bV (opG G) A (l.drop i) rs ps=bV (opG G) A l [] [])/\Hid (BaI rs ps A.length)/\Hid (rs.length<=i)/\Hid (out.length<=i)/\ay W0 wr) (fun vi _ _=>N- (intOf vi).toNat)
  case atStart=>exact⟨_,0,[],[],_,_,_,[],by omega,rfl,rfl,bZ _ _,HB0.out,hid (fun x _ e=>by cases e),hid rfl,hid ⟨fun _ h=>absurd h (yw _),rfl,fun _ h=>absurd h (yw _)⟩,hid (xZ _),hid (xZ _),HK1.out⟩
  case round=>
    obtain⟨vt,i,rs,ps,vr,rv,vp,out,hi,rfl,rfl,hot,hbm,HNT,HGR,HBI,HRI,HOI,hkr⟩:=hrel;by_cases hlt:i<N
    · have hlt':(i:Int)< (N:Int):=by omega
      have hi0:(0:Int)<=(i:Int):=by omega
      obtain⟨_,_,e1,_,_,hco⟩:=HO.out.kept hkr;obtain⟨ob,oo,e2,hob,aaw⟩:=hco (fun e=>by have:=congrArg List.length e;rw[aI,<-HN.out] at this;simp at this;omega);rw[aI,<-HN.out] at e1;cases e1
      subst e2;have hcp:=aaw i (by rw[aI,<-HN.out];exact hlt);rw[ints_at (by rw[<-HN.out];exact hlt)] at hcp;have hpn:=HLL.out i hlt;have hstep:=Ls (o:=opG G) (A:=A) (l:=l) (i:=i) (by rw[<-HN.out];exact hlt) rs ps;obtain⟨p,hp⟩:∃ p,p=l.getD i 0:=⟨_,rfl⟩
      rw[<-hp] at hcp hpn hstep;have hinv:=YL (o:=opG G) (rs:=rs) (ps:=ps) (v:=jP A p) (by rw[gY];exact HBI.out);rw[gY] at hinv;have hbx:=HBX.out.kept hkr;have x0:=hbx.2 0 _ rfl;have x1:=hbx.2 1 _ rfl;have x2:=hbx.2 2 _ rfl;have x3:=hbx.2 3 _ rfl;have x4:=hbx.2 4 _ rfl;have x5:=hbx.1;have ajX:=hid (PD P M vm n va vc A p wr (HV.out.kept hkr) (fun k hk=>by rw[HW.out.wf k hk];exact hpn) (by omega));have hbs:bb<=wr.heap.size:=by rw[HBB.out];exact hkr.size
      have hadd:Hid (∀ g4 c4 w4,Own w4 wr.heap.size (.slice (some ⟨g4,0,none⟩) A.length c4) (jP A p)->ay wr w4->Calls Tryz.prog 169 #[.pointer (some ⟨bb,0,none⟩),.slice (some ⟨g4,0,none⟩) A.length c4] w4 (ajW W0 w4 bb b g4 rs vr rv vp (kY (opG G) rs ps (jP A p)))):=hid (fun g4 c4 w4 ho4 hk4=>by
        refine UQ b G t bb g4 A.length c4 rs ps vr rv vp (jP A p) W0 w4 HG.out (hkr.tr hk4) (by rw[<-HBB.out];exact hbm.kept hk4) (by rw[<-HBB.out];exact ho4.mono hbs) (fun q=>?_) (by rw[gY];exact HBI.out.l) HBI.out.n (by rw[gY];exact HBI.out.p) (fun j hj=>?_) (by rw[gY];exact hA) (by rw[gY];omega) (by have:=HRI.out;omega)
        · have h1:=(hbm.lt q).2
          have h2:=(aN (g:=g4) ho4 rfl).1;omega
        · rw[gY] at hj
          have e:(jP A p).getD j 0=en A j p:=by simp[jP,List.getD,hj]
          rw[e];exact HW.out.bd j p hj hpn)
      have afz:=hid hstep;have aik:=hid hinv;have HOT:=hid hot;have HBM:=hid hbm;have HKR:=hid hkr;clear hco aaw hstep hinv hp hot hbm hkr hbx;by_cases hR:(kY (opG G) rs ps (jP A p)).2.2=true
      · have HRT:=hid hR
        clear hR;go_wp2_with(first
          |(go_at_call 170;refine ajX.out.mono ?_;rintro e w4 ⟨v4,rfl,ho4,hk4⟩;obtain⟨g4,c4,e4⟩:∃ g c,v4=.slice (some ⟨g,0,none⟩) A.length c:=(by
              rcases ho4.form with⟨_,e2⟩|⟨g,c,e,_⟩
              · have h7:=congrArg List.length e2;rw[gY] at h7;exact absurd h7 (by simp only[xP];omega)
              · exact⟨g,c,by rw[e,gY]⟩);subst e4;have HO4:=hid ho4;have HK4:=hid hk4;clear ho4 hk4)
          |(go_at_call 169;refine(hadd.out g4 c4 w4 HO4.out HK4.out).mono ?_;rintro e w5 ⟨e5,vr5,rv5,vp5,adE,PI,acB⟩;rw[HRT.out] at e5;subst e5;have adB:=hid adE;have acC:=hid PI;have acD:=hid acB;have ail:=hid ((HOT.out.kept HK4.out).fr acB (fun g e q=>(by
              have h1:=aN HOT.out e;rcases q with q|q
              · exact HNT.out g q e
              · have h2:=(aN (g:=g4) HO4.out rfl).1;omega)));have hs5:bb<=w5.heap.size:=(by have:=acB.size;have:=HK4.out.size;omega);clear adE PI acB)
          |(at_builtin;refine dn rfl _ _ rfl bb vt (bQ out) rfl (ail.out.kept (ah _ _)) ⟨w5.heap.size,0,none⟩ p rfl (aU rfl) (by rw[aI];have:=HOI.out;omega) (by simp;omega) ?_;intro g9 c9 w9 o9 hg9 hd9))
        have hap:∀ x,BaS bb vr5 rv5 (kY (opG G) rs ps (jP A p)).1.length vp5 x->vt.ownBlock≠some x:=fun x hx e=>by
          have h1:=aN HOT.out e;rcases acC.out x hx with q|q
          · exact HNT.out x q e
          · have:=HK4.out.size;omega
        have hb9:=(adB.out.kept (ah _ _)).gbo hg9 (fun x e q=>hap x q e);have hk9:ay W0 w9:=(((acD.out.old (HKR.out.tr HK4.out) (fun x q=>by
          rw[<-HBB.out];rcases q with q|q
          · exact(HBM.out.lt q).1
          · have:=(aN (g:=g4) HO4.out rfl).1;omega)).tr (ah _ _))).grown hg9 ((((acD.out.old (HKR.out.tr HK4.out) (fun x q=>by
          rw[<-HBB.out];rcases q with q|q
          · exact(HBM.out.lt q).1
          · have:=(aN (g:=g4) HO4.out rfl).1;omega)).tr (ah _ _))).size) (fun j e=>by rw[<-HBB.out];exact(aN HOT.out e).1)
        rw[<-HBB.out] at hb9;have HAP:=hid hap;have HB9:=hid hb9;have HK9:=hid hk9;have HD9:=hid hd9;have HO9:=hid o9;clear hap hb9 hk9 hd9 o9 hg9;go_roundw;case rel=>
          refine⟨_,i+1,_,_,vr5,rv5,vp5,out++ [p],by omega,by go_num,rfl, ?_,HB9.out,hid (fun x hx e=>?_),hid ?_,hid aik.out.1,hid ?_,hid ?_,HK9.out⟩
          · have e:bQ (out++ [p])=bQ out++ [(p:Int)]:=by simp[bQ]
            rw[e];exact HO9.out
          · have e':g9=x:=by simpa[Value.ownBlock] using e
            rcases HD9.out with q|q
            · exact HAP.out x hx (by rw[q,e'])
            · have:=(adB.out.lt hx).2
              simp at q;omega
          · rw[<-HGR.out,afz.out,zu HRT.out,uY];rfl
          · have:=aik.out.2.1;have:=HRI.out;omega
          · have:=HOI.out;simp;omega
        case measure=>simp[intOf];omega
      · have hRF:(kY (opG G) rs ps (jP A p)).2.2=false:=by simpa using hR
        have HRT:=hid hRF;obtain⟨hE1,hE2⟩:=aik.out.2.2 hRF;have HE1:=hid hE1;have HE2:=hid hE2;clear hR hRF hE1 hE2;go_wp2_with(first
          |(go_at_call 170;refine ajX.out.mono ?_;rintro e w4 ⟨v4,rfl,ho4,hk4⟩;obtain⟨g4,c4,e4⟩:∃ g c,v4=.slice (some ⟨g,0,none⟩) A.length c:=(by
              rcases ho4.form with⟨_,e2⟩|⟨g,c,e,_⟩
              · have h7:=congrArg List.length e2;rw[gY] at h7;exact absurd h7 (by simp only[xP];omega)
              · exact⟨g,c,by rw[e,gY]⟩);subst e4;have HO4:=hid ho4;have HK4:=hid hk4;clear ho4 hk4)
          |(go_at_call 169;refine(hadd.out g4 c4 w4 HO4.out HK4.out).mono ?_;rintro e w5 ⟨e5,vr5,rv5,vp5,adE,PI,acB⟩;rw[HRT.out] at e5;rw[HE1.out,HE2.out] at adE;rw[HE1.out] at PI;subst e5;have adB:=hid adE;have acC:=hid PI;have acD:=hid acB;clear adE PI acB))
        have ail:=hid ((HOT.out.kept HK4.out).fr acD.out (fun g e q=>(by
          have h1:=aN HOT.out e;rcases q with q|q
          · exact HNT.out g q e
          · have h2:=(aN (g:=g4) HO4.out rfl).1;omega)))
        have hap:∀ x,BaS bb vr5 rv5 rs.length vp5 x->vt.ownBlock≠some x:=fun x hx e=>by
          have h1:=aN HOT.out e;rcases acC.out x hx with q|q
          · exact HNT.out x q e
          · have:=HK4.out.size;omega
        have hk9:ay W0 w5:=acD.out.old (HKR.out.tr HK4.out) (fun x q=>by
          rw[<-HBB.out];rcases q with q|q
          · exact(HBM.out.lt q).1
          · have:=(aN (g:=g4) HO4.out rfl).1;omega)
        have hb9:=adB.out;rw[<-HBB.out] at hb9;have HAP:=hid hap;have HB9:=hid hb9;have HK9:=hid hk9;clear hap hb9 hk9;go_roundw;case rel=>exact⟨vt,i+1,rs,ps,vr5,rv5,vp5,out,by omega,by go_num,rfl,ail.out,HB9.out,HAP,hid (by rw[<-HGR.out,afz.out,zx (by rw[HRT.out];simp)]),HBI,hid (by have:=HRI.out;omega),hid (by have:=HOI.out;omega),HK9.out⟩
        case measure=>simp[intOf];omega
    · have hout:Hid (out=bV (opG G) A l [] []):=hid (by
        rw[<-HGR.out,xW (by rw[<-HN.out];omega)];simp[bV])
      go_wp2_with(fail)
      go_ret;exact⟨_,rfl,by rw[<-hout.out];exact hot.mono (by rw[HBB.out];exact HK0.out.size),HK0.out.tr hkr⟩
end
section
set_option maxRecDepth 100000
open Go.RowKit Cw Cw.Gj
structure adF (l:List Nat) (n:Nat):Prop where
 b:∀ i,i<l.length->l.getD i 0<n
 a:∀ i,i+1<l.length->l.getD i 0<l.getD (i+1) 0
theorem acE (P M:Int) (vm:Value) (n:Nat) (vg:Value) (l:List Nat) (v:Value) (bm:Nat) (w:World) (hbm:bm<w.heap.size) (hm:w.cell? ⟨bm,0,none⟩=some v) (hv:Sl w v (bQ l)) (hl:adF l n) (hl2:l.length<=1000):
  Calls Tryz.prog 292 #[.agg #[.int .i64 P,.int .i64 M,vm,.int .i64 n,vg],.slice (some ⟨bm,0,none⟩) 1 1] w fun e w'=>e=.returned (.int .i64 0)/\ay w w':=by
 obtain⟨W1,hW1⟩:∃ x,x=w.alloc (.cells #[.int .i64 P,.int .i64 M,vm,.int .i64 n,vg] 29):=⟨_,rfl⟩
 have hk1:ay w W1:=by rw[hW1];exact ah _ _
 have bx:Bk W1 w.heap.size [.int .i64 P,.int .i64 M,vm,.int .i64 n,vg]:=by rw[hW1];exact aG w [.int .i64 P,.int .i64 M,vm,.int .i64 n,vg] _ _ rfl
 have hm1:W1.cell? ⟨bm,0,none⟩=some v:=(hk1.cell' hbm).trans hm;have hv1:=hv.kept hk1;have x3:=bx.2 3 _ rfl;obtain⟨N,hN⟩:∃ x,x=l.length:=⟨_,rfl⟩
 obtain⟨a,cap,rfl,hcap,hcm⟩:=hv1.lenOf;have HN:=hid hN;rw[aI,<-hN] at hcap hm1;have HV:=hid hv1;have HL:=hid hl;have HK1:=hid hk1;have hl3:N<=1000:=by omega
 unfold maxLen at hcm;clear hv hm hl hv1 bx hk1 hl2 hN;go_enter Tryz.func292,Tryz.ntmps292;go_upto_region 1 with(fail)
 rw[<-hW1];clear hW1;go_wp2_with(fail)
 go_loop [11] (fun vi=>∃ k:Nat,k<=1/\vi=.int .i64 k) (fun vi=>1- (intOf vi).toNat)
 case atStart=>exact⟨0,by omega,rfl⟩
 case round=>
  obtain⟨k,hk,rfl⟩:=hrel;by_cases e:k=0
  ·subst e;go_wp2_with(fail)
   go_loop [17] (fun vi=>∃ j:Nat,j<=N/\vi=.int .i64 j) (fun vi=>N- (intOf vi).toNat)
   case atStart=>exact⟨0,by omega,rfl⟩
   case round=>
    obtain⟨j,hj,rfl⟩:=hrel;by_cases hlt:j<N
    ·have hlt':(j:Int)< (N:Int):=by omega
     have hj0:(0:Int)<=(j:Int):=by omega
     have hne:bQ l≠ []:=fun e=>by have:=congrArg List.length e;rw[aI] at this;simp at this;have:=HN.out;rw[this,‹l=[]›] at hlt;simp at hlt
     obtain⟨a',cap',e1,_,_,hc⟩:=HV.out;obtain⟨b,off,e2,hb,hcell⟩:=hc hne;cases e1
     subst e2;have hck:=hcell j (by rw[aI,<-HN.out];exact hlt);rw[ints_at (by rw[<-HN.out];exact hlt)] at hck;have hxb:=HL.out.b j (by rw[<-HN.out];exact hlt);obtain⟨x,hx⟩:∃ x,x=l.getD j 0:=⟨_,rfl⟩
     rw[<-hx] at hck hxb;have t1:decide ((x:Int)<0)=false:=by simp
     have t2:decide ((n:Int)<=(x:Int))=false:=by simp;omega
     by_cases hj1:j=0
     ·subst hj1;rw[Nat.add_zero] at hck;clear hcell hc hx;go_wp2_with(fail)
      go_round;case rel=>exact⟨1,by omega,by go_num⟩
      case measure=>simp[intOf];omega
     ·obtain⟨i,rfl⟩:∃ i,j=i+1:=⟨j-1,by omega⟩
      have hcp:=hcell i (by rw[aI,<-HN.out];omega);rw[ints_at (by rw[<-HN.out];omega)] at hcp;have hxa:=HL.out.a i (by rw[<-HN.out];exact hlt);rw[<-hx] at hxa;obtain⟨y,hy⟩:∃ y,y=l.getD i 0:=⟨_,rfl⟩
      rw[<-hy] at hcp hxa;have t3:decide ((0:Int)< ((i+1:Nat):Int))=true:=by simp
      have t4:decide ((x:Int)<=(y:Int))=false:=by simp;omega
      have hw1:IntKind.i64.wrap (((i+1:Nat):Int)-1)=(i:Int):=by rw[IntWalk.i64_in _ (by omega)];omega
      have hi0:(0:Int)<=(i:Int):=by omega
      have hiN:(i:Int)< (N:Int):=by omega
      clear hcell hc hx hy;go_wp2_with(fail)
      go_round;case rel=>exact⟨i+1+1,by omega,by go_num⟩
      case measure=>simp[intOf];omega
    ·go_wp2_with(fail)
     go_round;case rel=>exact⟨1,by omega,by go_num⟩
     case measure=>simp[intOf]
  ·obtain rfl:k=1:=by omega
   go_wp2_with(fail)
   go_ret;exact⟨rfl,HK1.out⟩
theorem YM (G:GFd) (t:aK G) (n:Nat) (ma:Option Addr) (ml mc:Nat) (va:Option Addr) (vc:Nat) (A:List (List Int)) (P:List Nat) (l:List Nat) (v:Value) (w:World) (h:CdM w G n ma ml mc va vc A P) (hv:Sl w v (bQ l)) (hl:adF l n) (hl2:l.length<=1000) (hA:0<A.length):
  Calls Tryz.prog 171 #[cdV G n ma ml mc va A.length vc,v] w fun e w'=>e=.returned (.tuple #[.int .i64 ((bV (opG G) A l [] []).length:Nat),.int .i64 0])/\ay w w':=by
 show Calls Tryz.prog 171 #[.agg #[.int .i64 G.P,.int .i64 G.M,.slice ma ml mc,.int .i64 n,.slice va A.length vc],v] w _;obtain⟨W1,hW1⟩:∃ x,x=w.alloc (.cells #[.int .i64 G.P,.int .i64 G.M,.slice ma ml mc,.int .i64 n,.slice va A.length vc] 29):=⟨_,rfl⟩
 have hk1:ay w W1:=by rw[hW1];exact ah _ _
 have bx:Bk W1 w.heap.size [.int .i64 G.P,.int .i64 G.M,.slice ma ml mc,.int .i64 n,.slice va A.length vc]:=by rw[hW1];exact aG w [.int .i64 G.P,.int .i64 G.M,.slice ma ml mc,.int .i64 n,.slice va A.length vc] _ _ rfl
 have HC1:=hid (h.kept hk1);have hle:=h.rf.le;have hA2:A.length<=256:=by have:=h.n2;omega
 have hn2:=h.n2;have hv1:=hv.kept hk1;obtain⟨a,cap,rfl,_,_⟩:=hv1.lenOf;rw[aI] at hv1 ⊢;have HV:=hid hv1;have HL:=hid hl;have HK1:=hid hk1;have HBX:=hid bx;have x0:=bx.2 0 _ rfl;have x1:=bx.2 1 _ rfl;have x2:=bx.2 2 _ rfl;have x3:=bx.2 3 _ rfl;have x4:=bx.2 4 _ rfl;have HW:=hid h.rf.ri.w;clear hv hv1 hl bx hk1 h;go_enter Tryz.func171,Tryz.ntmps171;go_upto_region 1 with(fail)
 rw[<-hW1];clear hW1;have HOP:=hid (NZ G t n ma ml mc va vc A P W1 HC1.out);unfold cdV at HOP;go_upto_region 2 with(go_at_call 118;refine HOP.out.mono ?_;rintro e w2 ⟨b,H,rfl,hg2,tH,hop,hq,hk2⟩)
 have acF:=hid hop;have HQ:=hid hq;have HB2:=hid (HBX.out.kept hk2);have HV2:=hid (HV.out.kept hk2);have HC2:=hid (HC1.out.kept hk2);clear hop hq x0 x1 x2 x3 x4;have x0:=HB2.out.2 0 _ rfl;have x1:=HB2.out.2 1 _ rfl;have x2:=HB2.out.2 2 _ rfl;have x3:=HB2.out.2 3 _ rfl;have x4:=HB2.out.2 4 _ rfl;obtain⟨W3,hW3⟩:∃ x,x=w2.alloc (.cells #[.slice a l.length cap] 22):=⟨_,rfl⟩
 have hk3:ay w2 W3:=by rw[hW3];exact ah _ _
 have c3:W3.cell? ⟨w2.heap.size,0,none⟩=some (.slice a l.length cap):=by rw[hW3];exact aU rfl
 have l3:w2.heap.size<W3.heap.size:=by rw[hW3];simp
 have HST:=hid (acE G.P G.M (.slice ma ml mc) n (.slice va A.length vc) l _ w2.heap.size W3 l3 c3 (HV2.out.kept hk3) HL.out hl2);have HK3:=hid hk3;have HK2:=hid hk2;have HG2:=hid hg2;clear c3 l3 hk3 hk2 hg2;go_upto_region 4 with(go_at_call 292;rw[<-hW3];refine HST.out.mono ?_;rintro e w4 ⟨rfl,hk4⟩)
 have oJ:=HK3.out.tr hk4;have HB4:=hid (HB2.out.kept oJ);clear x0 x1 x2 x3 x4;have x0:=HB4.out.2 0 _ rfl;have x1:=HB4.out.2 1 _ rfl;have x2:=HB4.out.2 2 _ rfl;have x3:=HB4.out.2 3 _ rfl;have x4:=HB4.out.2 4 _ rfl;have HGR:=hid (ES b H tH G.P G.M (.slice ma ml mc) n va vc A _ l w4 (HG2.out.kept oJ) (HC2.out.g.kept oJ) (by rw[HQ.out];exact HW.out) hA hA2 (HV2.out.kept oJ) HL.out.b hl2);have alP:=hid oJ;clear oJ hk4;go_wp2_with(go_at_call 119;refine HGR.out.mono ?_;rintro e w5 ⟨v5,rfl,ho5,hk5⟩;obtain⟨a5,c5,rfl,_,_⟩:=ho5.sl.lenOf;rw[aI,acF.out])
 refine bodyPost_ret (v:=.tuple #[.int .i64 ((bV (opG G) A l [] []).length:Nat),.int .i64 0]) ?_ rfl ⟨rfl,(HK1.out.tr HK2.out).tr (alP.out.tr hk5)⟩;simp[results,Tryz.results171,go_sem]
theorem PK (G:GFd) (t:aK G) (n:Nat) (ma:Option Addr) (ml mc:Nat) (va:Option Addr) (vc:Nat) (A:List (List Int)) (P:List Nat) (l:List Nat) (v:Value) (w:World) (h:CdM w G n ma ml mc va vc A P) (hv:Sl w v (bQ l)) (hl:adF l n) (hA:0<A.length) (h1:(bV (opG G) A l [] []).length=A.length) (h2:l.length=A.length):
  Calls Tryz.prog 120 #[cdV G n ma ml mc va A.length vc,v] w fun e w'=>e=.returned (.tuple #[.bool true,.int .i64 0])/\ay w w':=by
 have hle:=h.rf.le;have hn2:=h.n2;obtain⟨W1,hW1⟩:∃ x,x=w.alloc (.cells #[.int .i64 G.P,.int .i64 G.M,.slice ma ml mc,.int .i64 n,.slice va A.length vc] 29):=⟨_,rfl⟩
 have hk1:ay w W1:=by rw[hW1];exact ah _ _
 have bx:Bk W1 w.heap.size [.int .i64 G.P,.int .i64 G.M,.slice ma ml mc,.int .i64 n,.slice va A.length vc]:=by rw[hW1];exact aG w [.int .i64 G.P,.int .i64 G.M,.slice ma ml mc,.int .i64 n,.slice va A.length vc] _ _ rfl
 have HR:=hid (YM G t n ma ml mc va vc A P l v W1 (h.kept hk1) (hv.kept hk1) hl (by omega) hA);rw[h1] at HR;unfold cdV at HR ⊢;obtain⟨a,cap,rfl,_,_⟩:=hv.lenOf;rw[aI,h2] at HR ⊢;have x0:=bx.2 0 _ rfl;have x1:=bx.2 1 _ rfl;have x2:=bx.2 2 _ rfl;have x3:=bx.2 3 _ rfl;have x4:=bx.2 4 _ rfl;have HBX:=hid bx;have HK1:=hid hk1;clear h1 h2 hv h bx hk1 hl;go_enter Tryz.func120,Tryz.ntmps120;go_upto_region 1 with(fail)
 rw[<-hW1];clear hW1;go_upto_region 2 with(go_at_call 171;refine HR.out.mono ?_;rintro e w2 ⟨rfl,hk2⟩)
 have HB2:=hid (HBX.out.kept hk2);clear x0 x1 x2 x3 x4;have x2:=HB2.out.2 4 _ rfl;go_wp2_with(fail)
 refine bodyPost_ret (v:=.tuple #[.bool true,.int .i64 0]) ?_ rfl ⟨rfl,HK1.out.tr hk2⟩;simp[results,Tryz.results120,go_sem]
end
section
open Go.RowKit Cw Cw.Gj
theorem lq (o:Cw.Op) (A:List (List Int)):∀ (l:List Nat) (rs:List (List Int)) (ps:List Nat),(bV o A l rs ps).Sublist l
 | [],_,_=>by simp[bV]
 |i::is,rs,ps=>by
  rw[bV]
  split
  ·exact(lq o A is _ _).cons_cons i
  ·exact(lq o A is _ _).cons i
theorem GI {n:Nat} {used:List Nat} {i:Nat} (h:i∈nG n used):i<n:=by
 unfold nG at h;rcases yQ.1 h with h|h
 ·exact yT.1 (xH.1 h).1
 ·exact yT.1 (xH.1 h).1
theorem Lu (n:Nat) (used:List Nat):(nG n used).Nodup:=by
 unfold nG;rw[uq];refine⟨tJ.sublist wL,tJ.sublist wL,fun a ha b hb e=>?_⟩;have h1:=(xH.1 ha).2;have h2:=(xH.1 hb).2;rw[e] at h1;rw[h2] at h1;cases h1
theorem Dy (n:Nat) (used:List Nat):(nG n used).length<=n:=by
 have h:∀ (l:List Nat) (p:Nat->Bool),(l.filter fun i=>!p i).length+(l.filter fun i=>p i).length=l.length:=fun l p=>by
  induction l with
  |nil=>rfl
  |cons a l ih=>cases h:p a<;>simp[h]<;>omega
 have:=h (List.range n) (fun i=>used.contains i);rw[vN] at this;unfold nG;rw[zX];omega
def nH (o:Cw.Op) (A:List (List Int)) (n:Nat) (used:List Nat):List Nat:=bV o A (nG n used) [] []
def pR (o:Cw.Op) (A:List (List Int)) (n:Nat) (used:List Nat):List Nat:=(mW (bQ (nH o A n used))).map Int.toNat
theorem GK {o:Cw.Op} {A:List (List Int)} {n:Nat} {used:List Nat} {i:Nat} (h:i∈nH o A n used):i<n:=GI ((lq o A _ _ _).subset h)
theorem YN (o:Cw.Op) (A:List (List Int)) (n:Nat) (used:List Nat):(nH o A n used).length<=n:=zJ (lq o A _ _ _).length_le (Dy n used)
theorem PL (o:Cw.Op) (A:List (List Int)) (n:Nat) (used:List Nat):(nH o A n used).Nodup:=(Lu n used).sublist (lq o A _ _ _)
theorem Jl (o:Cw.Op) (A:List (List Int)) (n:Nat) (used:List Nat):bQ (pR o A n used)=mW (bQ (nH o A n used)):=by
 unfold pR bQ;rw[rG]
 conv=>rhs;rw[<-List.map_id (mW _)]
 refine wO fun x hx=>?_;have hp:(mW (bQ (nH o A n used))).Perm (bQ (nH o A n used)):=vJ _ _;have:=hp.mem_iff.1 hx;obtain⟨y,_,rfl⟩:=yY.1 this;simp
theorem lC (o:Cw.Op) (A:List (List Int)) (n:Nat) (used:List Nat):(pR o A n used).Perm (nH o A n used):=by
 have hp:(mW (bQ (nH o A n used))).Perm (bQ (nH o A n used)):=vJ _ _;have h2:=hp.map Int.toNat;have e:(bQ (nH o A n used)).map Int.toNat=nH o A n used:=by
  unfold bQ;rw[rG]
  conv=>rhs;rw[<-List.map_id (nH o A n used)]
  exact wO fun x _=>by simp
 rw[e] at h2;exact h2
theorem YO (o:Cw.Op) (A:List (List Int)) (n:Nat) (used:List Nat):adF (pR o A n used) n:=by
 have hpm:=lC o A n used;have hnd:(pR o A n used).Nodup:=hpm.nodup_iff.2 (PL o A n used);have hs:(mW (bQ (nH o A n used))).Pairwise (·<=·):=by
  have:=List.pairwise_mergeSort (le:=fun x y:Int=>decide (x<=y)) (fun a b c h1 h2=>by simp at*;omega) (fun a b=>by simp;omega) (bQ (nH o A n used));exact this.imp (fun h=>by simpa using h)
 have hs2:(pR o A n used).Pairwise (·<=·):=by
  rw[<-Jl] at hs;unfold bQ at hs;rw[uG] at hs;exact hs.imp (fun h=>by omega)
 refine⟨fun i hi=>?_,fun i hi=>?_⟩
 ·have:(pR o A n used).getD i 0∈pR o A n used:=by simp[List.getD,hi]
  exact GK (hpm.mem_iff.1 this)
 ·have h1:=List.pairwise_iff_getElem.1 hs2 i (i+1) (by omega) hi (by omega);have h2:=List.pairwise_iff_getElem.1 hnd i (i+1) (by omega) hi (by omega);have e1:(pR o A n used).getD i 0=(pR o A n used)[i]:=by simp[List.getD,show i< (pR o A n used).length by omega]
  have e2:(pR o A n used).getD (i+1) 0=(pR o A n used)[i+1]:=by simp[List.getD,hi]
  rw[e1,e2];omega
def aax (n:Nat) (used:List Nat):Nat:=((List.range n).filter fun i=>used.contains i).length
theorem UR (n:Nat) (used:List Nat):aax n used<=n:=by
 have:=(wL (p:=fun i=>used.contains i) (l:=List.range n)).length_le;rw[vN] at this;exact this
theorem UU {p q:Nat->Bool}:∀ {l:List Nat} {x:Nat},x∈l->(∀ i,p i=true->q i=true)->p x=false->q x=true->(l.filter p).length< (l.filter q).length
 | [],x,h,_,_,_=>by cases h
 |a::l,x,h,hpq,hp,hq=>by
  have hle:∀ l:List Nat,(l.filter p).length<=(l.filter q).length:=fun l=>by
   induction l with
   |nil=>simp
   |cons b l ih=>
    cases hb:p b with
    |true=>simp[hb,hpq b hb];exact ih
    |false=>cases hb2:q b<;>simp[hb,hb2]<;>omega
  rcases yO.1 h with e|h
  ·subst e;have:=hle l;simp[hp,hq];omega
  ·have:=UU h hpq hp hq;cases hb:p a with
   |true=>simp[hb,hpq a hb];exact this
   |false=>cases hb2:q a<;>simp[hb,hb2]<;>omega
theorem Jm {o:Cw.Op} {A:List (List Int)} {n:Nat} {used:List Nat} (h:mP used (nH o A n used)≠0):aax n used<aax n (used++pR o A n used):=by
 have:∃ x∈nH o A n used,used.contains x=false:=by
  unfold mP at h;have h2:(nH o A n used).filter (fun i=>!used.contains i)≠ []:=fun e=>h (by rw[e];rfl);obtain⟨x,hx⟩:=List.exists_mem_of_ne_nil _ h2;have:=xH.1 hx;exact⟨x,this.1,by simpa using this.2⟩
 obtain⟨x,h1,h2⟩:=this;refine UU (x:=x) (yT.2 (GK h1)) (fun i hi=>?_) h2 ?_
 ·simp at hi ⊢;exact .inl hi
 ·have:=(lC o A n used).mem_iff.2 h1;simp[this]
inductive DX (o:Cw.Op) (A:List (List Int)) (n:Nat):List Nat->List (List Nat×Nat)->Prop
 |stop (used:List Nat) (h:mP used (nH o A n used)=0):DX o A n used []
 |next (used:List Nat) (rest:List (List Nat×Nat)) (h:mP used (nH o A n used)≠0) (hr:DX o A n (used++pR o A n used) rest):DX o A n used ((pR o A n used,mP used (nH o A n used))::rest)
theorem N9 {l m:List Int} (hp:l.Perm m) (hs:m.Pairwise (·<=·)):mW l=m:=by
 have h1:(mW l).Pairwise (·<=·):=by
  have:=List.pairwise_mergeSort (le:=fun x y:Int=>decide (x<=y)) (fun a b c h1 h2=>by simp at*;omega) (fun a b=>by simp;omega) l;exact this.imp (fun h=>by simpa using h)
 have h2:(mW l).Perm m:=(vJ _ _).trans hp;exact h2.eq_of_pairwise (fun a b _ _ h1 h2=>by omega) h1 hs
theorem YP {o:Cw.Op} {A:List (List Int)} {n:Nat} {used:List Nat} {steps:List (List Nat×Nat)} (h:DX o A n used steps):aax n used+steps.length<=n:=by
 induction h with
 |stop used _=>have:=UR n used;simpa using this
 |next used rest h _ ih=>
  have:=Jm h;simp;omega
theorem GL (used set:List Nat):mP used set<=set.length:=vT _ _
theorem acG:nH op2 lH 7 []=[0,1,2,3]:=by decide
theorem acH:nH op2 lH 7 [0,1,2,3]=[4,5,6,0]:=by decide
theorem ain:nH op2 lH 7 [0,1,2,3,0,4,5,6]=[0,1,2,3]:=by decide
theorem afA:pR op2 lH 7 []=[0,1,2,3]:=by
 unfold pR;rw[acG,N9 (l:=bQ [0,1,2,3]) (m:=[0,1,2,3]) (List.Perm.refl _) (by decide)];rfl
theorem afB:pR op2 lH 7 [0,1,2,3]=[0,4,5,6]:=by
 unfold pR;rw[acH,N9 (l:=bQ [4,5,6,0]) (m:=[0,4,5,6]) (by decide) (by decide)];rfl
theorem LC {o:Cw.Op} {A:List (List Int)} {n:Nat} {used:List Nat} {steps:List (List Nat×Nat)} (h:DX o A n used steps):
  (mP used (nH o A n used)=0/\steps=[])∨(mP used (nH o A n used)≠0/\∃ rest,DX o A n (used++pR o A n used) rest/\steps=(pR o A n used,mP used (nH o A n used))::rest):=by
 cases h with
 |stop _ h=>exact .inl ⟨h,rfl⟩
 |next _ rest h hr=>exact .inr ⟨h,rest,hr,rfl⟩
theorem UW (steps:List (List Nat×Nat)) (h:DX op2 lH 7 [] steps):steps=[([0,1,2,3],4),([0,4,5,6],3)]:=by
 rcases LC h with⟨h0,_⟩|⟨_,rest,h1,rfl⟩
 ·rw[acG] at h0;exact absurd h0 (by decide)
 ·rw[afA] at h1;rw[acG,afA];have h1:DX op2 lH 7 [0,1,2,3] rest:=h1;rcases LC h1 with⟨h0,_⟩|⟨_,rest,h2,rfl⟩
  ·rw[acH] at h0;exact absurd h0 (by decide)
  ·rw[afB] at h2;rw[acH,afB];have h2:DX op2 lH 7 [0,1,2,3,0,4,5,6] rest:=h2;rcases LC h2 with⟨_,rfl⟩|⟨h0,_⟩
   ·rfl
   ·exact absurd (show mP [0,1,2,3,0,4,5,6] (nH op2 lH 7 [0,1,2,3,0,4,5,6])=0 by rw[ain];decide) h0
theorem Tryz.infoStep:(Tryz.prog.info? 123).map (fun i=>(i.zero,i.size,i.bytes))=some (some (.agg #[.slice none 0 0,.int .i64 0]),2,32):=by kernel_rfl
theorem uh {w:World} {ops:Array Oper} {rest:List Oper} {o:Oper} {a:Act} {Q:Exit->Act->World->Prop} (hgd:o.guard=none) (s x:Operand)
  (ho:o.op=.call {callee:=.builtin .append,args:=#[s,x],argTypes:=#[22,22]}) (B:Nat) (v:Value) (xs:List Int) (hs:a.eval s=v) (hown:Own w B v xs)
  (ad:Addr) (m c:Nat) (ys:List Int) (hx:a.eval x=.slice (some ad) m c) (hm:ys.length=m) (hc:∀ j,j<ys.length->w.cell? (ad.add j)=some (.int .i64 (ys.getD j 0)))
  (hlen:xs.length+m<=1000000) (hB:B<=w.heap.size)
  (h:∀ v' w',Own w' B v' (xs++ys)->w.grownBy w' v.ownBlock->(v'.ownBlock=v.ownBlock∨ ∀ x,v'.ownBlock=some x->w.heap.size<=x)->wpList Tryz.prog ops Q rest (a.put o.dst v') w'):wpList Tryz.prog ops Q (o::rest) a w:=by
 obtain⟨i0,hi,hz0,hz1,hz2⟩:=info_parts Tryz.infoInt;rcases hown.form with⟨rfl,rfl⟩|⟨g,cap,rfl,_⟩
 ·refine iD hgd s x ho w.heap.size _ [] hs (bZ _ _) (some ad) m c ys hx hm (fun e=>by cases e) (fun _ e=>by cases e) (fun ad' e=>by cases e;exact hc) hlen (zy _) fun v' w' h1 h2 _=>?_;exact h v' w' (h1.mono hB) h2 (.inr fun x e=>(aN h1 e).1)
 ·obtain⟨n,hn⟩:∃ n,n=xs.length:=⟨_,rfl⟩
  rw[<-hn] at hown hs hlen;have hcell:∀ j u,(ys.map (Value.int .i64))[j]?=some u->w.cell? (ad.add j)=some u:=fun j u hu=>by
   have hj:j<ys.length:=by have:=(zN.1 hu).1;simpa using this
   rw[hc j hj];simp[zq hj] at hu;simp[List.getD,zq hj,hu]
  by_cases hroom:n+m<=cap
  ·obtain⟨w',hrun,h1,h2⟩:=run_append_fits (P:=Tryz.prog) w B 22 o.type 3 i0 1 Tryz.underlying22 hi hz1 g n cap (xs.map (Value.int .i64)) (by rw[hn] at hown ⊢;exact hown) ad m c (ys.map (Value.int .i64)) (by simp[hm]) hcell (ints_oneCell _ _) hroom;refine wpList_plain hgd fun K hK=>?_;unfold Oper.wp;simp[execOp,ho,resolve,invoke,builtin,hs,hx,hrun,Result.andThen];refine hK _ _ (h (.slice (some ⟨g,0,none⟩) (n+m) cap) w' ?_ h2 (.inl rfl));unfold Own;rw[zX,<-hn,hm];simpa using h1
  ·obtain⟨v',w',hrun,h1,h2⟩:=run_append_arg_grows (P:=Tryz.prog) w 22 o.type 3 i0 (.int .i64 0) 1 8 Tryz.underlying22 hi hz0 hz1 hz2 rfl (by decide) ⟨g,0,none⟩ n cap (xs.map (Value.int .i64)) (by simp[hn]) (fun j u hu=>by
    have hj:j<xs.length:=by have:=(zN.1 hu).1;simpa using this
    rw[Addr.add_lit,xQ,hown.cell hj];simp[zq hj] at hu;simp[List.getD,zq hj,hu]) ad m c (ys.map (Value.int .i64)) (by simp[hm]) hcell (by omega) (by unfold maxLen;omega) (by omega)
   have hO:Own w' w.heap.size v' (xs++ys):=by unfold Own;rw[zX,<-hn,hm];simpa using h1
   refine wpList_plain hgd fun K hK=>?_;unfold Oper.wp;simp[execOp,ho,resolve,invoke,builtin,hs,hx,hrun,Result.andThen];exact hK _ _ (h v' w' (hO.mono hB) (nN h2) (.inr fun x e=>(aN hO e).1))
def stc (l:List (Value×List Nat×Nat)):List Value:=l.flatMap fun p=>[p.1,.int .i64 (p.2.2:Int)]
theorem YQ (l:List (Value×List Nat×Nat)) (p:Value×List Nat×Nat):stc (l++ [p])=stc l++ [p.1,.int .i64 (p.2.2:Int)]:=by unfold stc;rw[List.flatMap_append];simp
theorem UY:∀ {l:List (Value×List Nat×Nat)} {k:Nat} {p:Value×List Nat×Nat},l[k]?=some p->(stc l)[k*2]?=some p.1/\(stc l)[k*2+1]?=some (.int .i64 (p.2.2:Int))
 | [],k,p,h=>by simp at h
 |x::l,0,p,h=>by
  have:x=p:=by simpa using h
  subst this;exact⟨rfl,rfl⟩
 |x::l,k+1,p,h=>by
  have h':l[k]?=some p:=by simpa using h
  have e1:(k+1)*2=k*2+1+1:=by omega
  rw[e1];exact UY h'
def Ea (w:World) (B:Nat) (v:Value) (l:List (Value×List Nat×Nat)):Prop:=w.ownsRow B 123 2 v l.length (stc l)
theorem YR (w:World) (B:Nat):Ea w B (.slice none 0 0) []:=⟨rfl,.inl ⟨rfl,rfl⟩⟩
theorem Ea.gb {w w':World} {B:Nat} {v:Value} {l:List (Value×List Nat×Nat)} (h:Ea w B v l) {x:Option Nat} (hg:w.grownBy w' x) (hx:v.ownBlock=none∨v.ownBlock≠x):Ea w' B v l:=World.ownsRow.kept h hg hx
theorem Ea.lt {w:World} {B g:Nat} {v:Value} {l:List (Value×List Nat×Nat)} (h:Ea w B v l) (e:v.ownBlock=some g):B<=g/\g<w.heap.size:=World.ownsRow.lt h g e
theorem Ea.kept {w w':World} {B:Nat} {v:Value} {l:List (Value×List Nat×Nat)} (h:Ea w B v l) (k:ay w w'):Ea w' B v l:=by
 refine h.gb (x:=some w.heap.size) ⟨k.os,k.tape,k.output,k.size,fun i hi _=>k.block i hi⟩ (.inr fun q=>?_);have:=(h.lt q).2;omega
theorem Ea.form {w:World} {B:Nat} {v:Value} {l:List (Value×List Nat×Nat)} (h:Ea w B v l):
  (v=.slice none 0 0/\l=[])∨ ∃ g cap,v=.slice (some ⟨g,0,none⟩) l.length cap/\B<=g/\g<w.heap.size/\l.length<=cap/\cap<=maxLen:=by
 obtain⟨h1,h⟩:=h;rcases h with⟨h,h0⟩|⟨g,cap,cur,h,hb,hg,h2,h3,_⟩
 ·exact .inl ⟨h,zO h0⟩
 ·exact .inr ⟨g,cap,h,hb,(zL.1 hg).1,h2,h3⟩
theorem Ea.cells {w:World} {B g n cap:Nat} {l:List (Value×List Nat×Nat)} (h:Ea w B (.slice (some ⟨g,0,none⟩) n cap) l) {k:Nat} {p:Value×List Nat×Nat} (hk:l[k]?=some p):
  w.cell? ⟨g,k*2,none⟩=some p.1/\w.cell? ⟨g,k*2+1,none⟩=some (.int .i64 (p.2.2:Int)):=by
 have hn:n=l.length:=by
  rcases h.form with⟨e,_⟩|⟨_,_,e,_⟩
  ·cases e
  ·cases e;rfl
 subst hn;have hkl:k<l.length:=(zN.1 hk).1;obtain⟨h1,h2⟩:=UY hk;exact⟨by rw[World.ownsRow.cellAt h (k*2) (by omega),h1],by rw[World.ownsRow.cellAt h (k*2+1) (by omega),h2]⟩
theorem LD {w:World} {B B' g:Nat} {v x:Value} {l:List (Value×List Nat×Nat)} {xs:List Int} (h:Ea w B v l) (k:Own w B' x xs) (hx:x.ownBlock=some g):v.ownBlock≠some g:=fun e=>by
 obtain⟨_,h|⟨g1,_,c1,rfl,_,hg,_⟩⟩:=h
 ·rw[h.1] at e;cases e
 ·obtain⟨_,k|⟨g2,_,c2,rfl,_,hg',_⟩⟩:=k
  ·rw[k.1] at hx;cases hx
  ·have e1:g1=g:=by simpa[Value.ownBlock] using e
   have e2:g2=g:=by simpa[Value.ownBlock] using hx
   rw[e1] at hg;rw[e2,hg] at hg';simp at hg'
theorem uj {w:World} {ops:Array Oper} {rest:List Oper} {o:Oper} {a:Act} {Q:Exit->Act->World->Prop} (hgd:o.guard=none) (s x:Operand)
  (ho:o.op=.call {callee:=.builtin .append,args:=#[s,x],argTypes:=#[115,115]}) (B:Nat) (v:Value) (l:List (Value×List Nat×Nat)) (hs:a.eval s=v) (hown:Ea w B v l)
  (ad:Addr) (p:Value×List Nat×Nat) (hx:a.eval x=.slice (some ad) 1 1) (h0:w.cell? (ad.add 0)=some p.1) (h1:w.cell? (ad.add 1)=some (.int .i64 (p.2.2:Int))) (hp:p.1.oneCell'=true) (hlen:l.length+1<=1000000) (hB:B<=w.heap.size)
  (h:∀ v' w',Ea w' B v' (l++ [p])->w.grownBy w' v.ownBlock->wpList Tryz.prog ops Q rest (a.put o.dst v') w'):
  wpList Tryz.prog ops Q (o::rest) a w:=by
 obtain⟨i0,hi,hz0,hz1,hz2⟩:=info_parts Tryz.infoStep;refine wpList_append_own _ hgd s x 115 ho B 123 i0 _ 2 32 Tryz.underlying115 hi hz0 hz1 hz2 rfl (by decide) v l.length (stc l) hs hown ad 1 1 [p.1,.int .i64 (p.2.2:Int)] hx rfl (fun j u hu=>?_) ?_ (by unfold maxLen;omega) (by omega) hB fun v' w' h1 h2 _=>h v' w' ?_ h2
 ·match j with
  |0=>(have e:u=p.1:=(by simpa using hu.symm);rw[e];exact h0)
  |1=>(have e:u=.int .i64 (p.2.2:Int):=(by simpa using hu.symm);rw[e];exact h1)
  |j+2=>simp at hu
 ·intro u hu;have:u=p.1∨u=.int .i64 (p.2.2:Int):=by simpa using hu
  rcases this with rfl|rfl
  ·exact hp
  ·rfl
 ·unfold Ea;rw[YQ,zX];exact h1
structure FmM (w:World) (B:Nat) (v:Value) (l:List (Value×List Nat×Nat)):Prop where
 own:Ea w B v l
 row:∀ p∈l,Own w B p.1 (bQ p.2.1)
theorem FmM.kept {w w':World} {B:Nat} {v:Value} {l:List (Value×List Nat×Nat)} (h:FmM w B v l) (k:ay w w'):FmM w' B v l:=⟨h.own.kept k,fun p hp=>(h.row p hp).kept k⟩
theorem FmM.mono {w:World} {B B':Nat} {v:Value} {l:List (Value×List Nat×Nat)} (h:FmM w B v l) (hB:B'<=B):FmM w B' v l:=by
 refine⟨?_,fun p hp=>(h.row p hp).mono hB⟩;obtain⟨h1,h2⟩:=h.own;rcases h2 with h2|⟨g,cap,cur,e,hb,r⟩
 ·exact⟨h1,.inl h2⟩
 ·exact⟨h1,.inr ⟨g,cap,cur,e,zJ hB hb,r⟩⟩
theorem FmM.afC {w w':World} {B B':Nat} {v u:Value} {l:List (Value×List Nat×Nat)} {xs:List Int} (h:FmM w B v l) (hu:Own w B' u xs) (hg:w.grownBy w' u.ownBlock) (hn:∀ p∈l,∀ x,p.1.ownBlock=some x->u.ownBlock≠some x):FmM w' B v l:=by
 cases q:u.ownBlock with
 |none=>
  rw[q] at hg;exact h.kept ⟨hg.os,hg.tape,hg.output,hg.size,fun i hi=>hg.block i hi (by simp)⟩
 |some y=>
  rw[q] at hg;refine⟨h.own.gb hg (.inr (LD h.own hu q)),fun p hp=>(h.row p hp).grownBy hg ?_⟩;cases q2:p.1.ownBlock with
  |none=>exact .inl rfl
  |some x=>exact .inr fun e=>by cases e;exact hn p hp y q2 q
theorem FmM.add {w w':World} {B:Nat} {v v':Value} {l:List (Value×List Nat×Nat)} {p:Value×List Nat×Nat} (h:FmM w B v l) (hp:Own w B p.1 (bQ p.2.1)) (o:Ea w' B v' (l++ [p])) (hg:w.grownBy w' v.ownBlock):FmM w' B v' (l++ [p]):=by
 refine⟨o,fun q hq=>?_⟩;have hr:Own w B q.1 (bQ q.2.1):=by
  rcases yQ.1 hq with hq|hq
  ·exact h.row q hq
  ·rw[zH.1 hq];exact hp
 refine hr.grownBy hg ?_;cases e:q.1.ownBlock with
 |none=>exact .inl rfl
 |some x=>exact .inr fun e2=>LD h.own hr e e2.symm
def aay (n:Nat) (used:List Nat) (k:Nat):List Nat:=if k=0 then[] else if k=1 then(List.range n).filter (fun i=>!used.contains i) else nG n used
def ET (n:Nat) (used:List Nat) (k i:Nat):List Nat:=aay n used k++(List.range i).filter fun j=>used.contains j==(k==1)
theorem UZ (n:Nat) (used:List Nat) (k:Nat):ET n used k 0=aay n used k:=by simp[ET]
theorem U0 (n:Nat) (used:List Nat) {k:Nat} (h:k<2):ET n used k n=aay n used (k+1):=by
 match k,h with
 |0,_=>
  have e:(fun j=>used.contains j==(0==1))=fun j=>!used.contains j:=by funext j;cases used.contains j<;>rfl
  simp only[ET,aay];rw[e];rfl
 |1,_=>
  have e:(fun j=>used.contains j==(1==1))=fun j=>used.contains j:=by funext j;cases used.contains j<;>rfl
  simp only[ET,aay];rw[e];rfl
theorem Oa {n:Nat} {used:List Nat} {k i:Nat} (h:(used.contains i==(k==1))=true):ET n used k (i+1)=ET n used k i++ [i]:=by
 unfold ET;rw[xu,wV,uY];simp only[List.filter_cons,List.filter_nil,h,if_true]
theorem U1 {n:Nat} {used:List Nat} {k i:Nat} (h:(used.contains i==(k==1))=false):ET n used k (i+1)=ET n used k i:=by
 unfold ET;rw[xu,wV];rw[uJ (by rw[h];simp)];simp
theorem YS (n:Nat) (used:List Nat) (k i:Nat):(ET n used k i).length<=n+i:=by
 unfold ET;rw[zX];have h1:((List.range i).filter fun j=>used.contains j==(k==1)).length<=i:=by
  have:=(wL (p:=fun j=>used.contains j==(k==1)) (l:=List.range i)).length_le;rw[vN] at this;exact this
 have h2:(aay n used k).length<=n:=by
  unfold aay
  split
  ·simp
  ·split
   ·have:=(wL (p:=fun i=>!used.contains i) (l:=List.range n)).length_le;rw[vN] at this;exact this
   ·exact Dy n used
 omega
theorem PN {used g:List Nat} {j:Nat} (h:j<g.length):mP used (g.take (j+1))=mP used (g.take j)+if used.contains (g.getD j 0) then 0 else 1:=by
 have e:g.getD j 0=g[j]:=by simp[List.getD,h]
 rw[yV h,e];unfold mP;rw[wV,zX];cases q:used.contains g[j] with
 |true=>rw[uJ (by rw[q];simp)];simp
 |false=>rw[List.filter_cons_of_pos (by rw[q];simp)];simp
def YT:Value->Nat
 | .slice _ n _=>n
 |_=>0
theorem Ea.len {w:World} {B:Nat} {v:Value} {l:List (Value×List Nat×Nat)} (h:Ea w B v l):YT v=l.length:=by
 rcases h.form with⟨rfl,rfl⟩|⟨g,cap,rfl,_⟩<;>rfl
theorem U2 (w:World) (u0 u1:Value) (T:TypeId):(w.alloc (.cells #[u0,u1] T)).cell? ((⟨w.heap.size,0,none⟩:Addr).add 0)=some u0/\(w.alloc (.cells #[u0,u1] T)).cell? ((⟨w.heap.size,0,none⟩:Addr).add 1)=some u1:=by
 constructor
 ·rw[Addr.add_lit,World.cell?_alloc_at _ _ _ _ rfl];rfl
 ·rw[Addr.add_lit,World.cell?_alloc_at _ _ _ _ rfl];rfl
end
end Go.Proofs.YtoilbeadokallaaGreatDoor
