/- Plain laws: the sets of Family are information sets, and the columns of such a set have an inverse. Conditions: the rows are in reduced form. -/
import Derived.Test.YtoilbeadokallaaGreatDoorK37
namespace Go.Proofs.YtoilbeadokallaaGreatDoor
section
open Go.RowKit Cw Cw.Gj Cw.Rg Cw.Fd Cw.PS Cw.Dm
def BV (q:Int) (K:Nat) (v:List Int):Prop:=v.length=K/\∀ j,j<K->0<=v.getD j 0/\v.getD j 0<q
def GIr (q:Int) (K:Nat):List (List Int)->List Nat->Prop
 | [],[]=>True
 |r::rs,p::ps=>BV q K r/\p<K/\r.getD p 0=1/\(∀ r'∈rs,r'.getD p 0=0)/\GIr q K rs ps
 |_,_=>False
theorem Ve {q:Int} {K k:Nat} {u:List Int} (hu:BV q K u) (hk:k<K) (h1:u.getD k 0=1):∀ {rs:List (List Int)} {ps:List Nat},GIr q K rs ps->(∀ p∈ps,u.getD p 0=0)->GIr q K (rs++ [u]) (ps++ [k])
 | [],[],_,_=>⟨hu,hk,h1,fun _ h=>by simp at h,trivial⟩
 | [],_::_,h,_=>h.elim
 |_::_,[],h,_=>h.elim
 |r::rs,p::ps,⟨a,b,c,d,e⟩,h0=>⟨a,b,c,fun r' hr'=>by
   rcases yQ.1 hr' with h|h
   ·exact d _ h
   ·rw[zH.1 h];exact h0 p (xJ ..),Ve hu hk h1 e (fun x hx=>h0 x (yJ _ hx))⟩
section
variable {G:GFd} (t:aK G)
def fc (v:List Int):Nat->Rs t.fs.mon:=fun k=>t.e (v.getD k 0)
theorem row_mem {L:List (List Int)} {i:Nat} (h:i<L.length):Gj.row L i=L[i]:=by unfold Gj.row;simp[List.getD,h]
theorem Vf {L:List (List Int)} {i:Nat} (h:i<L.length):fe t L i=fc t L[i]:=funext fun k=>by
 show t.e ((Gj.row L i).getD k 0)=t.e (L[i].getD k 0);rw[row_mem h]
theorem vC {L:List (List Int)} {r:List Int} {K:Nat} (h:r∈L):Sp t L K (fc t r):=by
 obtain⟨i,hi,rfl⟩:=yR h;rw[<-Vf t hi];exact Cm t K hi
theorem mX {L M:List (List Int)} {K:Nat} (h:∀ r∈L,Sp t M K (fc t r)) (v:Nat->Rs t.fs.mon) (hv:Sp t L K v):Sp t M K v:=
 SC t (fun i hi=>by rw[Vf t hi];exact h _ (zF hi)) v hv
theorem Y4 {α:Type} [Cw.Fd α] (a x u:α):a+(x-a-u)=x-u:=by
 rw[sub_def (x-a) u,<-add_assoc,add_comm a (x-a),sub_add_cancel,<-sub_def]
theorem Vg {K:Nat}:∀ {rs:List (List Int)} {ps:List Nat} {v:List Int},GIr G.q K rs ps->BV G.q K v->
  BV G.q K (dV (opG G) rs ps v)/\(∀ p∈ps,(dV (opG G) rs ps v).getD p 0=0)/\Sp t rs K (fun k=>fc t v k-fc t (dV (opG G) rs ps v) k)/\
   ∀ j,j<K->v.getD j 0=0->(∀ r∈rs,r.getD j 0=0)->(dV (opG G) rs ps v).getD j 0=0
 | [],[],v,_,hv=>by
  have e:dV (opG G) [] [] v=v:=by rw[dV];intro r rs p ps e;cases e
  rw[e];exact⟨hv,fun p hp=>by simp at hp,(jd t [] K).ext _ _ (fun k _=>(sub_self _).symm) (jd t [] K).zero,fun j _ h _=>h⟩
 | [],_::_,_,h,_=>h.elim
 |_::_,[],_,h,_=>h.elim
 |r::rs,p::ps,v,⟨hr,hp,h1,h0,h⟩,hv=>by
  obtain⟨v',hv'⟩:∃ v',v'=if v.getD p 0=0 then v else Ql (opG G) (v.getD p 0) r v:=⟨_,rfl⟩
  have e:dV (opG G) (r::rs) (p::ps) v=dV (opG G) rs ps v':=by rw[dV,hv']
  have hval:∀ k,k<K->(0<=v'.getD k 0/\v'.getD k 0<G.q)/\t.e (v'.getD k 0)=t.e (v.getD k 0)-t.e (v.getD p 0)*t.e (r.getD k 0):=fun k hk=>by
   rw[hv'];by_cases z:v.getD p 0=0
   ·rw[zu z,z,t.bC,zero_mul,sub_zero];exact⟨hv.2 k hk,rfl⟩
   ·rw[zx z,Gy (by rw[hv.1];exact hk)];refine⟨t.jv _ _, ?_⟩;show t.e (gu G (v.getD k 0) (iE G (bF G (v.getD p 0) (r.getD k 0))))=_;rw[t.nX,t.OB,t.fQ,<-sub_def]
  have hl:v'.length=K:=by
   rw[hv']
   split
   ·exact hv.1
   ·rw[N8];exact hv.1
  have hbv:BV G.q K v':=⟨hl,fun k hk=>(hval k hk).1⟩
  have hp0:v'.getD p 0=0:=OM t (hbv.2 p hp) (by rw[(hval p hp).2,h1,t.iH,mul_one,sub_self]);obtain⟨i1,i2,i3,i4⟩:=Vg h hbv;rw[e];refine⟨i1,fun x hx=>?_, ?_,fun j hj hj0 hr0=>?_⟩
  ·rcases yO.1 hx with rfl|hx
   ·exact i4 _ hp hp0 h0
   ·exact i2 x hx
  ·have s:=jd t (r::rs) K;have a1:=mX t (M:=r::rs) (fun x hx=>vC t (K:=K) (yJ _ hx)) _ i3;refine s.ext _ _ (fun k hk=>?_) (s.add _ _ (s.smul (t.e (v.getD p 0)) _ (vC t (xJ ..))) a1);show t.e (v.getD p 0)*t.e (r.getD k 0)+(t.e (v'.getD k 0)-t.e ((dV (opG G) rs ps v').getD k 0))=t.e (v.getD k 0)-t.e ((dV (opG G) rs ps v').getD k 0);rw[(hval k hk).2];exact Y4 _ _ _
  ·refine i4 j hj ?_ (fun x hx=>hr0 x (yJ _ hx));exact OM t (hbv.2 j hj) (by rw[(hval j hj).2,hj0,hr0 r (xJ ..),t.bC,mul_zero,sub_zero])
theorem GY {A:List (List Int)} {i j:Nat} (h:j<A.length):(jP A i).getD j 0=en A j i:=by simp[jP,List.getD,h]
theorem acU {A:List (List Int)} {n i:Nat} (hw:WF G.q A n) (hi:i<n):BV G.q A.length (jP A i):=⟨gY A i,fun j hj=>by rw[GY hj];exact hw.bd j i hj hi⟩
theorem DF {f:Int->Int} {l:List Int} {j:Nat} (h:j<l.length):(l.map f).getD j 0=f (l.getD j 0):=by simp[List.getD,h]
theorem wB {A:List (List Int)} {n:Nat} (hw:WF G.q A n):∀ (l:List Nat) (rs:List (List Int)) (ps:List Nat) (cs:List (List Int)),(∀ i∈l,i<n)->GIr G.q A.length rs ps->(∀ r∈rs,Sp t cs A.length (fc t r))->
  ∃ rs' ps',GIr G.q A.length rs' ps'/\rs'.length=rs.length+(bV (opG G) A l rs ps).length/\(∀ r∈rs',Sp t (cs++(bV (opG G) A l rs ps).map (jP A)) A.length (fc t r))/\(∀ r∈rs,r∈rs')/\∀ i∈l,Sp t rs' A.length (fc t (jP A i))
 | [],rs,ps,cs,_,hg,hs=>⟨rs,ps,hg,by simp[bV],fun r hr=>by simpa[bV] using hs r hr,fun _ h=>h,fun i hi=>by simp at hi⟩
 |i::is,rs,ps,cs,hl,hg,hs=>by
  have hcb:=acU hw (hl i (xJ ..));obtain⟨b1,b2,b3,_⟩:=Vg t hg hcb;by_cases hz:DW (dV (opG G) rs ps (jP A i))<0
  ·have hno:=Lr hz;have eg:bV (opG G) A (i::is) rs ps=bV (opG G) A is rs ps:=by simp[bV,hno]
   obtain⟨rs',ps',c1,c2,c3,c4,c5⟩:=wB hw is rs ps cs (fun x hx=>hl x (yJ _ hx)) hg hs;rw[eg];refine⟨rs',ps',c1,c2,c3,c4,fun x hx=>?_⟩;rcases yO.1 hx with rfl|hx
   ·have hn:mO (dV (opG G) rs ps (jP A x))=none:=by
     cases q:mO (dV (opG G) rs ps (jP A x)) with
     |none=>rfl
     |some k=>rw[DW,q] at hz;exact absurd hz (by simp)
    refine(jd t rs' A.length).ext _ _ (fun k hk=>?_) (mX t (fun r hr=>vC t (c4 r hr)) _ b3);show fc t (jP A x) k-t.e ((dV (opG G) rs ps (jP A x)).getD k 0)=_;rw[ug hn k (by rw[b1.1];exact hk),t.bC,sub_zero]
   ·exact c5 x hx
  ·obtain⟨k,e1,hk,h0,hyes⟩:=Gz hz;obtain⟨u,hu⟩:∃ u,u=dV (opG G) rs ps (jP A i):=⟨_,rfl⟩
   rw[<-hu] at b1 b2 b3 hk h0 hyes;obtain⟨u',hu'⟩:∃ u',u'=u.map fun y=>(opG G).mul ((opG G).inv (u.getD k 0)) y:=⟨_,rfl⟩
   rw[<-hu'] at hyes;have eg:bV (opG G) A (i::is) rs ps=i::bV (opG G) A is (rs++ [u']) (ps++ [k]):=by simp[bV,hyes]
   have hkK:k<A.length:=by rw[<-b1.1];exact hk
   have hin:inn G.q (u.getD k 0)≠0:=by rw[bI (b1.2 k hkK)];exact h0
   obtain⟨v1,v2,v3⟩:=qQ t _ hin;have hval:∀ j,j<A.length->u'.getD j 0=bF G (fG G (u.getD k 0)) (u.getD j 0):=fun j hj=>by rw[hu',DF (by rw[b1.1];exact hj)];rfl
   have hve:∀ j,j<A.length->t.e (u'.getD j 0)=t.e (fG G (u.getD k 0))*t.e (u.getD j 0):=fun j hj=>by rw[hval j hj,t.fQ]
   have hub:BV G.q A.length u':=⟨by rw[hu',yx];exact b1.1,fun j hj=>by rw[hval j hj];exact t.eY _ _⟩
   have hu1:u'.getD k 0=1:=Sz t (hub.2 k hkK) (by rw[hve k hkK,v3]);have hgi:∀ p∈ps,p<A.length:=by
    have:∀ {rs:List (List Int)} {ps:List Nat},GIr G.q A.length rs ps->∀ p∈ps,p<A.length:=fun {rs}=>by
     induction rs with
     |nil=>intro ps h p hp;cases ps with
      |nil=>simp at hp
      |cons=>exact h.elim
     |cons r rs ih=>intro ps h p hp;cases ps with
      |nil=>exact h.elim
      |cons x ps=>
       rcases yO.1 hp with e|e
       ·rw[e];exact h.2.1
       ·exact ih h.2.2.2.2 p e
    exact this hg
   have hup:∀ p∈ps,u'.getD p 0=0:=fun p hp=>OM t (hub.2 p (hgi p hp)) (by rw[hve p (hgi p hp),b2 p hp,t.bC,mul_zero]);have scs:=jd t (cs++ [jP A i]) A.length;have hsu:Sp t (cs++ [jP A i]) A.length (fc t u'):=by
    have a1:=mX t (M:=cs++ [jP A i]) (fun x hx=>vC t (K:=A.length) (yH _ hx)) _ (mX t hs _ b3);have a2:=vC t (K:=A.length) (show jP A i∈cs++ [jP A i] by simp);have a3:=scs.smul (t.e (fG G (u.getD k 0))) _ (scs.add _ _ a2 (scs.smul (-1) _ a1));refine scs.ext _ _ (fun j hj=>?_) a3;show t.e (fG G (u.getD k 0))*(t.e ((jP A i).getD j 0)+ -1*(t.e ((jP A i).getD j 0)-t.e (u.getD j 0)))=t.e (u'.getD j 0);rw[hve j hj,neg_mul,one_mul,<-sub_def];congr 1;exact Cw.Rg.sub_eq (by rw[Rg.add_comm,Rg.sub_add_cancel])
   obtain⟨rs',ps',c1,c2,c3,c4,c5⟩:=wB hw is (rs++ [u']) (ps++ [k]) (cs++ [jP A i]) (fun x hx=>hl x (yJ _ hx)) (Ve hub hkK hu1 hg hup) (fun r hr=>by
    rcases yQ.1 hr with h|h
    ·exact mX t (fun x hx=>vC t (yH _ hx)) _ (hs r h)
    ·rw[zH.1 h];exact hsu)
   rw[eg];refine⟨rs',ps',c1,by rw[c2,zX];simp;omega,fun r hr=>by have:=c3 r hr;rwa [uY] at this,fun r hr=>c4 r (yH _ hr),fun x hx=>?_⟩;rcases yO.1 hx with rfl|hx
   ·have s:=jd t rs' A.length;have a1:=mX t (fun r hr=>vC t (c4 r (yH _ hr))) _ b3;have a2:=vC t (K:=A.length) (c4 u' (by simp));refine s.ext _ _ (fun j hj=>?_) (s.add _ _ a1 (s.smul (t.e (u.getD k 0)) _ a2));show fc t (jP A x) j-t.e (u.getD j 0)+t.e (u.getD k 0)*t.e (u'.getD j 0)=_;rw[hve j hj,<-mul_assoc,Rg.mul_comm (t.e (u.getD k 0)),v3,one_mul,sub_add_cancel]
   ·exact c5 x hx
theorem aaE {K:Nat}:∀ {rs:List (List Int)} {ps:List Nat},GIr G.q K rs ps->∀ y:Nat->Rs t.fs.mon,(∀ k,k<K->cmb (fe t rs) rs.length y k=0)->∀ i,i<rs.length->y i=0
 | [],_,_,_,_,i,hi=>absurd hi (yw _)
 |_::_,[],h,_,_,_,_=>h.elim
 |r::rs,p::ps,⟨hr,hp,h1,h0,h⟩,y,hy,i,hi=>by
  have e0:y 0=0:=by
   have:=hy p hp;unfold cmb at this;rw[yG,Fg,bH (fun j hj=>by
    show y (j+1)*t.e ((Gj.row (r::rs) (j+1)).getD p 0)=0;rw[show Gj.row (r::rs) (j+1)=Gj.row rs j from rfl,row_mem hj,h0 _ (zF hj),t.bC,mul_zero]),add_zero] at this
   have e:y 0*t.e (r.getD p 0)=0:=this
   rwa [h1,t.iH,mul_one] at e
  cases i with
  |zero=>exact e0
  |succ i=>
   refine aaE h (fun j=>y (j+1)) (fun k hk=>?_) i (by simpa using hi);have:=hy k hk;unfold cmb at this;rw[yG,Fg,e0,zero_mul,zero_add] at this;exact this
end
def uv {α:Type} [Cw.Fd α]:Nat->Nat->α:=fun i k=>if k=i then 1 else 0
theorem Vh {α:Type} [Cw.Fd α] {K k:Nat} (y:Nat->α) (hk:k<K):cmb uv K y k=y k:=by
 unfold cmb;rw[kL hk fun i _ hne=>by show y i*(if k=i then 1 else 0)=0;rw[zx (Ne.symm hne),mul_zero]];show y k*(if k=k then 1 else 0)=y k;rw[zu rfl,mul_one]
theorem afR {α:Type} [Cw.Fd α] (K:Nat):Bas (uv (α:=α)) K K (fun _=>True):=⟨fun _=>trivial,fun v _=>⟨v,fun k hk=>(Vh v hk).symm⟩,fun y hy i hi=>by rw[<-Vh y hi];exact hy i hi⟩
theorem acV {α:Type} [Cw.Fd α] (K:Nat):Spc K (fun _:Nat->α=>True):=⟨fun _ _ _ _=>trivial,trivial,fun _ _ _ _=>trivial,fun _ _ _=>trivial⟩
section
variable {G:GFd} (t:aK G)
theorem aaF {K:Nat} {rs:List (List Int)} {ps:List Nat} (h:GIr G.q K rs ps) (hf:∀ v,Sp t rs K v):rs.length=K:=
 aek (acV K) ⟨fun _=>trivial,fun v _=>hf v,aaE t h⟩ (afR K)
theorem acW {A L:List (List Int)} {n:Nat} {P:List Nat} (hR:Rf G.q A n P) (hc:∀ i,i<n->Sp t L A.length (fc t (jP A i))) (v:Nat->Rs t.fs.mon):Sp t L A.length v:=by
 have s:=jd t L A.length;refine s.ext _ _ (fun k hk=>Vh v hk) (s.cmb v A.length fun i hi=>?_);have hi':i<P.length:=by rw[<-hR.len];exact hi
 refine s.ext _ _ (fun k hk=>?_) (hc _ (hR.ri.pc i hi'));show t.e ((jP A (P.getD i 0)).getD k 0)=if k=i then 1 else 0
 rw[GY hk];by_cases e:k=i
 ·rw[zu e,e,hR.ri.one i hi',t.iH]
 ·rw[zx e,hR.ri.zer i k hi' hk e,t.bC]
theorem Vj {n:Nat} {used:List Nat} {i:Nat} (h:i<n):i∈nG n used:=by
 unfold nG;cases q:used.contains i with
 |true=>exact wK _ (xH.2 ⟨yT.2 h,q⟩)
 |false=>exact yH _ (xH.2 ⟨yT.2 h,by rw[q];rfl⟩)
theorem GZ {A:List (List Int)} {n:Nat} {P:List Nat} (hR:Rf G.q A n P) (used:List Nat):(pR (opG G) A n used).length=A.length/\(∀ v,Sp t ((pR (opG G) A n used).map (jP A)) A.length v)/\(bV (opG G) A (pR (opG G) A n used) [] []).length=A.length:=by
 have hw:=hR.ri.w;obtain⟨rs,ps,c1,c2,c3,_,c5⟩:=wB t hw (nG n used) [] [] [] (fun i hi=>GI hi) trivial (fun r hr=>by simp at hr);have hf:=acW t hR (fun i hi=>c5 i (Vj hi));have hlen:=aaF t c1 hf;have hp:=lC (opG G) A n used;have hg:(nH (opG G) A n used).length=A.length:=by unfold nH;simpa[hlen] using c2.symm
 have hmem:∀ i,i∈nH (opG G) A n used->i∈pR (opG G) A n used:=fun i hi=>hp.mem_iff.2 hi;have hS:∀ v,Sp t ((pR (opG G) A n used).map (jP A)) A.length v:=fun v=>by
  refine mX t (fun r hr=>?_) _ (mX t c3 v (hf v));have hr:r∈(nH (opG G) A n used).map (jP A):=by simpa[nH] using hr
  obtain⟨i,hi,rfl⟩:=yY.1 hr;exact vC t (yY.2 ⟨i,hmem i hi,rfl⟩)
 refine⟨by rw[hp.length_eq,hg],hS, ?_⟩;obtain⟨rs2,ps2,d1,d2,d3,_,d5⟩:=wB t hw (pR (opG G) A n used) [] [] [] (fun i hi=>GK (hp.mem_iff.1 hi)) trivial (fun r hr=>by simp at hr);have hf2:∀ v,Sp t rs2 A.length v:=fun v=>mX t (fun r hr=>by
  obtain⟨i,hi,rfl⟩:=yY.1 hr;exact d5 i hi) v (hS v)
 have:=aaF t d1 hf2;simpa[this] using d2.symm
theorem aaG {A A2:List (List Int)} {cols N r p c:Nat} (hw:WF G.q A cols) (hw2:WF G.q A2 N) (hl:A2.length=A.length) (hr:r<A.length) (hp:p<A.length) (hc:c<cols) (h0:en A p c≠0):
  WF G.q (pv2 (opG G) A A2 r p c) N/\(∀ k,k<N->t.e (en (pv2 (opG G) A A2 r p c) r k)=Cw.Fd.inv (t.e (en A p c))*t.e (en A2 p k))/\
   ∀ i k,i<A.length->i≠r->k<N->t.e (en (pv2 (opG G) A A2 r p c) i k)=t.e (en (dS A2 r p) i k)-t.e (en (dS A r p) i c)*(Cw.Fd.inv (t.e (en A p c))*t.e (en A2 p k)):=by
 have hr2:r<A2.length:=by rw[hl];exact hr
 have hp2:p<A2.length:=by rw[hl];exact hp
 have hS2:=SI hw2 hr2 hp2;have hpb:=hw.bd p c hp hc;have hin:inn G.q (en A p c)≠0:=by rw[bI hpb];exact h0
 have hi:=qQ t _ hin;have er:en (dS A r p) r c=en A p c:=by rw[ji hr,zu rfl]
 have er2:Gj.row (dS A2 r p) r=Gj.row A2 p:=by rw[jX hr2,zu rfl]
 obtain⟨u,hu⟩:∃ u,u=OL (opG G) ((opG G).inv (en A p c)) (Gj.row A2 p):=⟨_,rfl⟩
 have hul:u.length=N:=by rw[hu,qp,hw2.wf p hp2]
 have hue:∀ k,k<N->(0<=u.getD k 0/\u.getD k 0<G.q)/\t.e (u.getD k 0)=Cw.Fd.inv (t.e (en A p c))*t.e (en A2 p k):=fun k hk=>by
  have e1:u.getD k 0=if fG G (en A p c)=1 then en A2 p k else bF G (fG G (en A p c)) (en A2 p k):=by
   rw[hu,Sv (by rw[hw2.wf p hp2];exact hk)];rfl
  have e2:Cw.Fd.inv (t.e (en A p c))=t.e (fG G (en A p c)):=(Cw.Fd.oM (by rw[Rg.mul_comm];exact hi.2.2)).symm;by_cases h1:fG G (en A p c)=1
  ·rw[zu h1] at e1;rw[e1,e2,h1,t.iH,Rg.one_mul];exact⟨hw2.bd p k hp2 hk,rfl⟩
  ·rw[zx h1] at e1;exact⟨by rw[e1];exact t.eY _ _,by rw[e1,e2,t.fQ]⟩
 have hlS:(dS A r p).length=A.length:=aT _ _ _;have aaH:(dS A2 r p).length=A2.length:=aT _ _ _;have hrow:∀ i,i<A.length->Gj.row (pv2 (opG G) A A2 r p c) i=if i=r then u else if en (dS A r p) i c=0 then Gj.row (dS A2 r p) i else iP (opG G) ((opG G).neg (en (dS A r p) i c)) u (Gj.row (dS A2 r p) i):=fun i hi=>by
  unfold pv2;rw[jo (by rw[fB,aaH,hl];exact hi),zu (by rw[hl];exact hi)];unfold cl2 scR;rw[er,er2,<-hu,iU (by rw[aaH];exact hr2),zu rfl,iU (by rw[aaH];exact hr2)];by_cases e:i=r
  ·rw[zu e,zu e]
  ·rw[zx e,zx e,zx e];have e1:∀ X,en ((dS A r p).set r X) i c=en (dS A r p) i c:=fun X=>by unfold en;rw[iU (by rw[hlS];exact hr),zx e]
   rw[e1]
 have hB:∀ i k,i<A.length->i≠r->k<N->en (pv2 (opG G) A A2 r p c) i k=if en (dS A r p) i c=0 then en (dS A2 r p) i k else if u.getD k 0=0 then en (dS A2 r p) i k else gu G (en (dS A2 r p) i k) (bF G (iE G (en (dS A r p) i c)) (u.getD k 0)):=fun i k hi hir hk=>by
  show(Gj.row (pv2 (opG G) A A2 r p c) i).getD k 0=_;rw[hrow i hi,zx hir];by_cases e:en (dS A r p) i c=0
  ·rw[zu e,zu e];rfl
  ·rw[zx e,zx e,qo (by rw[hS2.wf i (by rw[aaH,hl];exact hi)];exact hk)];rfl
 have hBr:∀ k,en (pv2 (opG G) A A2 r p c) r k=u.getD k 0:=fun k=>by
  show(Gj.row (pv2 (opG G) A A2 r p c) r).getD k 0=_;rw[hrow r hr,zu rfl]
 refine⟨⟨fun i hi=>?_,fun i k hi hk=>?_⟩,fun k hk=>by rw[hBr];exact(hue k hk).2,fun i k hi hir hk=>?_⟩
 ·rw[dX,hl] at hi;rw[hrow i hi]
  split
  ·exact hul
  ·split
   ·exact hS2.wf i (by rw[aaH,hl];exact hi)
   ·rw[dR];exact hS2.wf i (by rw[aaH,hl];exact hi)
 ·rw[dX,hl] at hi;by_cases hir:i=r
  ·rw[hir,hBr];exact(hue k hk).1
  ·rw[hB i k hi hir hk]
   split
   ·exact hS2.bd i k (by rw[aaH,hl];exact hi) hk
   ·split
    ·exact hS2.bd i k (by rw[aaH,hl];exact hi) hk
    ·exact t.jv _ _
 ·rw[hB i k hi hir hk,<- (hue k hk).2];by_cases z:en (dS A r p) i c=0
  ·rw[zu z,z,t.bC,Rg.zero_mul,Rg.sub_zero]
  ·rw[zx z];by_cases z2:u.getD k 0=0
   ·rw[zu z2,z2,t.bC,Rg.mul_zero,Rg.sub_zero]
   ·rw[zx z2,t.nX,t.fQ,t.OB,Rg.neg_mul,<-Rg.sub_def]
theorem G5 (Z:Nat->Nat->Rs t.fs.mon) (N:Nat):∀ (m c:Nat) {A A2:List (List Int)} {P:List Nat} {cols:Nat},c+m=cols->RI G.q A cols c P->WF G.q A2 N->A2.length=A.length->(∀ i k,i<A.length->k<cols->t.e (en A i k)=sm N (fun j=>t.e (en A2 i j)*Z j k))->
  (gjP (opG G) m c A A2 P).2.1.length=A2.length/\WF G.q (gjP (opG G) m c A A2 P).2.1 N/\∀ i k,i<A.length->k<cols->t.e (en (gjP (opG G) m c A A2 P).1 i k)=sm N (fun j=>t.e (en (gjP (opG G) m c A A2 P).2.1 i j)*Z j k)
 |0,_,A,A2,P,cols,_,_,hw2,_,hl=>⟨rfl,hw2,hl⟩
 |m+1,c,A,A2,P,cols,hc,h,hw2,hl2,hl=>by
  rw[gjP];by_cases hf:fnd A c P.length<A.length
  ·rw[zu hf];have hge:=EF A c P.length;have hr:P.length<A.length:=by omega
   have h0:=y8 hf;obtain⟨a1,a2,a3⟩:=aaG t h.w h.w rfl hr hf (by omega) h0;obtain⟨b1,b2,b3⟩:=aaG t h.w hw2 hl2 hr hf (by omega) h0;have hst:=h.step t (by omega) hf;rw[<-FU hr] at hst;have ih:=G5 Z N m (c+1) (A:=pv2 (opG G) A A P.length (fnd A c P.length) c) (A2:=pv2 (opG G) A A2 P.length (fnd A c P.length) c) (cols:=cols) (by omega) hst b1 (by rw[dX,dX,hl2]) (fun i k hi hk=>by
    rw[dX] at hi;by_cases hir:i=P.length
    ·rw[hir,a2 k hk,hl _ k hf hk,jr];refine aX fun j hj=>?_;rw[b2 j hj,mul_assoc]
    ·rw[a3 i k hi hir hk,ji hi,hl _ k (Aq hr hf hi) hk,hl _ k hf hk,jr,jr,<-MJ];refine aX fun j hj=>?_;rw[b3 i j hi hir hj,ji (k:=j) (by rw[hl2];exact hi),Rg.sub_mul];congr 1;rw[mul_assoc,mul_assoc])
   rw[dX,dX] at ih;exact ih
  ·rw[zx hf];exact G5 Z N m (c+1) (by omega) (h.none hf) hw2 hl2 hl
theorem LP {n i k:Nat} (hi:i<n) (hk:k<n):en (jF n) i k=if k=i then 1 else 0:=by
 unfold en jF;rw[Cj hi];by_cases e:k=i
 ·subst e;simp[List.getD,hk]
 ·rw[zx e,List.getD,zS (Ne.symm e)];simp[hk]
theorem acX (t:aK G) (n:Nat):WF G.q (jF n) n:=⟨fun i hi=>by
 rw[gV] at hi;unfold jF;rw[Cj hi];simp,fun i k hi hk=>by
 rw[gV] at hi;rw[LP hi hk];have:=q2 t
 split<;>omega⟩
theorem acY {A:List (List Int)} {S:List Nat} {r c:Nat} (hr:r<A.length) (hc:c<S.length):en (dM A S) r c=en A r (S.getD c 0):=by
 unfold en dM;rw[row_mem (L:=A.map fun r=>S.map fun j=>r.getD j 0) (by rw[yx];exact hr),su,row_mem hr];simp[List.getD,hc]
theorem acZ {A:List (List Int)} {n:Nat} {P:List Nat} (hR:Rf G.q A n P) (used:List Nat) (hA:0<A.length):
  GU G A n (pR (opG G) A n used)/\∃ j,j<A.length/\t.e (en (AX (opG G) (dM A (pR (opG G) A n used))).1 0 j)≠0:=by
 obtain⟨h1,h2,h3⟩:=GZ t hR used;have hasc:=YO (opG G) A n used;have hlt:∀ i∈pR (opG G) A n used,i<n:=fun i hi=>GK ((lC (opG G) A n used).mem_iff.1 hi);obtain⟨S,hS⟩:∃ S,S=pR (opG G) A n used:=⟨_,rfl⟩
 rw[<-hS] at h1 h2 h3 hasc hlt ⊢;obtain⟨X,hX⟩:∃ X,X=dM A S:=⟨_,rfl⟩
 rw[<-hX];have hXl:X.length=A.length:=by rw[hX];simp[dM]
 have hen:∀ r c,r<A.length->c<A.length->en X r c=en A r (S.getD c 0):=fun r c hr hc=>by rw[hX];exact acY hr (by rw[h1];exact hc)
 have amo:∀ c,c<A.length->S.getD c 0<n:=fun c hc=>hlt _ (Bg (by rw[h1];exact hc));have hXw:WF G.q X A.length:=⟨fun i hi=>by
  rw[hXl] at hi;rw[hX];unfold dM;rw[row_mem (L:=A.map fun r=>S.map fun j=>r.getD j 0) (by rw[yx];exact hi),su,yx,h1],fun i k hi hk=>by
  rw[hXl] at hi;rw[hen i k hi hk];exact hR.ri.bd i _ hi (amo k hk)⟩
 have amq:∀ y:Nat->Rs t.fs.mon,(∀ k,k<A.length->cmb (fe t X) X.length y k=0)->∀ i,i<X.length->y i=0:=fun y hy i hi=>by
  rw[hXl] at hi hy;have hV:Spc A.length (fun v:Nat->Rs t.fs.mon=>sm A.length (fun r=>y r*v r)=0):=
   ⟨fun v w e hv=>by rw[<-aX (fun r hr=>by rw[e r hr]:∀ r,r<A.length->y r*v r=y r*w r)];exact hv,bH fun r _=>mul_zero _,
    fun v w hv hw=>by
     rw[show(fun r=>y r*(v r+w r))=fun r=>y r*v r+y r*w r from funext fun r=>Rg.mul_add _ _ _,Ah,hv,hw,add_zero],
    fun a v hv=>by
     rw[show(fun r=>y r*(a*v r))=fun r=>a*(y r*v r) from funext fun r=>by rw[<-mul_assoc,Rg.mul_comm (y r) a,mul_assoc],<-jr,hv,mul_zero]⟩
  obtain⟨z,hz⟩:=h2 (uv i);have h4:=hV.ext _ _ (fun k hk=>(hz k hk).symm) (hV.cmb z _ fun c hc=>by
   rw[yx] at hc;have e:=Vf t (L:=S.map (jP A)) (i:=c) (by rw[yx];exact hc);rw[su] at e;have h5:=hy c (by rw[<-h1];exact hc);unfold cmb at h5;refine Eq.trans (aX fun r hr=>?_) h5;show y r*fe t (S.map (jP A)) c r=y r*t.e (en X r c);rw[e];show y r*t.e ((jP A S[c]).getD r 0)=y r*t.e (en X r c);rw[GY hr,hen r c hr (by rw[<-h1];exact hc)];congr 3;simp[List.getD,hc])
  have h4:sm A.length (fun r=>y r*uv i r)=0:=h4;rw[kL hi fun r _ hne=>by show y r*(if r=i then 1 else 0)=0;rw[zx hne,mul_zero]] at h4;have h4:y i*(if i=i then 1 else 0)=0:=h4
  rwa [zu rfl,mul_one] at h4
 have hbX:Bas (fe t X) X.length A.length (Sp t X A.length):=⟨fun y=>⟨y,fun k _=>rfl⟩,fun v hv=>hv,amq⟩
 obtain⟨c1,c2,c3⟩:=Nr t hXw;have hbC:=Z4 t c1;have e1:=QY hbX hbC (fun v hv=>(c3 v).2 hv);have e2:=QY hbC hbX (fun v hv=>(c3 v).1 hv);have hpv:(pvL (opG G) X A.length).length=A.length:=by rw[<-c1.len];omega
 have hgj:=IJ (opG G) X.length 0 X (jF X.length) [];have hlk:=G5 t (fe t X) A.length A.length 0 (A:=X) (A2:=jF X.length) (P:=[]) (cols:=A.length) (by omega) (jC hXw) (by rw[hXl];exact acX t _) (gV _) (fun i k hi hk=>by
  rw[hXl] at hi ⊢;rw[kL hi fun j hj hne=>by rw[LP hi hj,zx hne,t.bC,zero_mul],LP hi hi,zu rfl,t.iH,one_mul];rfl)
 have hri:=(Ar t A.length 0 (A:=X) (P:=[]) (cols:=A.length) (by omega) (jC hXw))
 rw[hXl] at hgj hlk;have hP:(gj (opG G) A.length 0 X []).2.length=A.length:=hpv;refine⟨⟨hasc,h3,h1, ?_, ?_, ?_⟩, ?_⟩
 ·rw[<-hX];show(gjP (opG G) X.length 0 X (jF X.length) []).2.2.length=_;rw[hXl,hgj.2];exact hP
 ·rw[<-hX];show WF G.q (gjP (opG G) X.length 0 X (jF X.length) []).2.1 _;rw[hXl];exact hlk.2.1
 ·rw[<-hX];show(gjP (opG G) X.length 0 X (jF X.length) []).2.1.length=_;rw[hXl,hlk.1,gV]
 ·refine yu fun hno=>?_;have h6:=hlk.2.2 0 ((gj (opG G) A.length 0 X []).2.getD 0 0) hA (hri.1.pc 0 (by rw[hP];exact hA));rw[hgj.1,hri.1.one 0 (by rw[hP];exact hA),t.iH,bH fun j hj=>by
   have:t.e (en (gjP (opG G) A.length 0 X (jF A.length) []).2.1 0 j)=0:=yu fun h=>hno ⟨j,hj,by
    show t.e (en (gjP (opG G) X.length 0 X (jF X.length) []).2.1 0 j)≠0;rw[hXl];exact h⟩
   rw[this,zero_mul]] at h6
  exact Cw.Fd.dO h6
end
end
end Go.Proofs.YtoilbeadokallaaGreatDoor
