/- Lemmas on the way to the row. Conditions: each lemma's own, stated with it. -/
import Derived.Test.YtoilbeadokallaaGreatDoorK15
import Derived.Test.YtoilbeadokallaaGreatDoorK38
import Derived.Test.YtoilbeadokallaaGreatDoorK39
import Derived.Test.YtoilbeadokallaaGreatDoorK40
import Derived.Test.YtoilbeadokallaaGreatDoorK41
namespace Go.Proofs.YtoilbeadokallaaGreatDoor
section
open Go.RowKit Cw Cw.Gj Cw.Rg Cw.Fd Cw.PS Cw.Dm
theorem agf {v:List Int} {j:Nat} (h:v.getD j 0≠0):wt v≠0:=fun e=>by
 have hj:j<v.length:=by
  refine Nat.lt_of_not_le fun hle=>h ?_;simp[List.getD,zT hle]
 unfold wt at e;have h1:=tZ.1 (wF.1 e) v[j] (zF hj);have h2:v.getD j 0=v[j]:=by simp[List.getD,hj]
 rw[h2] at h;exact h1 (by simpa using h)
theorem agh {v:List Int} (h:wt v≠0):∃ k,mO v=some k/\k<v.length/\v.getD k 0≠0:=by
 cases q:mO v with
 |some k=>
  obtain⟨h1,h2,_⟩:=mQ q;exact⟨k,rfl,h1,h2⟩
 |none=>
  exfalso;refine h ?_;unfold wt;rw[wF,tZ];intro a ha;obtain⟨i,hi,rfl⟩:=yR ha;have:=ug q i hi;have h2:v.getD i 0=v[i]:=by simp[List.getD,hi]
  rw[h2] at this;simp[this]
theorem adg:wt []=0:=rfl
section
variable {G:GFd} (t:aK G) (A:List (List Int)) (n:Nat)
def CW (v:List Int):Prop:=BV G.q n v/\Sp t A n (fc t v)
def jR (v:List Int):Prop:=CW t A n v/\wt v≠0
def GoodS (s:List Int×Int):Prop:=s.1=[]∨jR t A n s.1
theorem L9 {a:Int} {us xs:List Int} (hx:BV G.q n xs):BV G.q n (iP (opG G) a us xs)/\∀ k,k<n->t.e ((iP (opG G) a us xs).getD k 0)=t.e (xs.getD k 0)+t.e a*t.e (us.getD k 0):=by
 refine⟨⟨by rw[dR];exact hx.1,fun j hj=>?_⟩,fun k hk=>?_⟩
 ·rw[qo (by rw[hx.1];exact hj)]
  split
  ·exact hx.2 j hj
  ·exact t.jv _ _
 ·rw[qo (by rw[hx.1];exact hk)]
  split
  ·rename_i h;rw[h,t.bC,mul_zero,add_zero]
  ·show t.e (gu G _ (bF G _ _))=_;rw[t.nX,t.fQ]
theorem VG {a:Int} {us xs:List Int} (hx:CW t A n xs) (hu:Sp t A n (fc t us)):CW t A n (iP (opG G) a us xs):=by
 obtain⟨h1,h2⟩:=L9 t n (a:=a) (us:=us) hx.1;have s:=jd t A n;exact⟨h1,s.ext _ _ (fun k hk=>(h2 k hk).symm) (s.add _ _ hx.2 (s.smul (t.e a) _ hu))⟩
theorem He:CW t A n (List.replicate n 0):=by
 have h:∀ j,(List.replicate n (0:Int)).getD j 0=0:=fun j=>qV;refine⟨⟨by simp,fun j _=>by rw[h];have:=q2 t;omega⟩,(jd t A n).ext _ _ (fun k _=>?_) (jd t A n).zero⟩;show 0=t.e ((List.replicate n (0:Int)).getD k 0);rw[h,t.bC]
theorem Qb {w:List Int} (hw:CW t A n w) (h:wt w≠0):jR t A n (fC (opG G) w):=by
 obtain⟨k,hk,hk1,hk2⟩:=agh h;have e:fC (opG G) w=w.map fun y=>(opG G).mul ((opG G).inv (w.getD k 0)) y:=by unfold fC;rw[hk];rfl
 have hkn:k<n:=by rw[<-hw.1.1];exact hk1
 have hin:inn G.q (w.getD k 0)≠0:=by rw[bI (hw.1.2 k hkn)];exact hk2
 obtain⟨v1,v2,v3⟩:=qQ t _ hin;have hval:∀ j,j<n->(fC (opG G) w).getD j 0=bF G (fG G (w.getD k 0)) (w.getD j 0):=fun j hj=>by rw[e,DF (by rw[hw.1.1];exact hj)];rfl
 have hbv:BV G.q n (fC (opG G) w):=⟨by rw[e,yx];exact hw.1.1,fun j hj=>by rw[hval j hj];exact t.eY _ _⟩
 have s:=jd t A n;refine⟨⟨hbv,s.ext _ _ (fun j hj=>?_) (s.smul (t.e (fG G (w.getD k 0))) _ hw.2)⟩,agf (j:=k) fun e0=>?_⟩
 ·show t.e (fG G (w.getD k 0))*t.e (w.getD j 0)=t.e ((fC (opG G) w).getD j 0);rw[hval j hj,t.fQ]
 ·have h1:t.e ((fC (opG G) w).getD k 0)=1:=by rw[hval k hkn,t.fQ,v3]
  rw[e0,t.bC] at h1;exact Cw.Fd.dO h1.symm
theorem DK {w:List Int} {s:List Int×Int} (hw:CW t A n w) (hs:GoodS t A n s):
  GoodS t A n (mV (opG G) w s)/\(jR t A n s.1->jR t A n (mV (opG G) w s).1)/\(wt w≠0->jR t A n (mV (opG G) w s).1):=by
 have hne:wt s.1≠0->jR t A n s.1:=fun h=>by
  rcases hs with h1|h1
  ·rw[h1] at h;exact absurd adg h
  ·exact h1
 unfold mV;by_cases c1:wt w=0∨(0<wt s.1/\wt s.1<wt w)
 ·rw[zu c1];refine⟨hs,fun h=>h,fun h=>?_⟩;rcases c1 with c|c
  ·exact absurd c h
  ·exact hne (by omega)
 ·rw[zx c1];have hw0:wt w≠0:=fun e=>c1 (.inl e);have hl:=Qb t A n hw hw0;by_cases c2:wt s.1=0∨wt w<wt s.1∨cmpL (fC (opG G) w) s.1<0
  ·rw[zu c2];exact⟨.inr hl,fun _=>hl,fun _=>hl⟩
  ·rw[zx c2];have hg:=hne (fun e=>c2 (.inl e));exact⟨.inr hg,fun _=>hg,fun _=>hg⟩
theorem JD {Q:List Int×Int->Prop} {r w:List Int} {rec:List Int->List Int×Int->List Int×Int} (hr:Sp t A n (fc t r)) (hw:CW t A n w) (hrec:∀ v s,CW t A n v->Q s->Q (rec v s)):
  ∀ (f a:Nat) (s:List Int×Int),Q s->Q (Wx (opG G) r w rec f a s)
 |0,_,_,h=>h
 |f+1,a,_,h=>JD hr hw hrec f (a+1) _ (hrec _ _ (VG t A n hw hr) h)
theorem DL {Q:List Int×Int->Prop} {q:Nat} {B:List (List Int)} {w:List Int} {alone:Bool} {rec:Nat->List Int->List Int×Int->List Int×Int} (hB:∀ i,Sp t A n (fc t (Gj.row B i))) (hw:CW t A n w) (hrec:∀ i v s,CW t A n v->Q s->Q (rec i v s)):
  ∀ (f i:Nat) (s:List Int×Int),Q s->Q (YF (opG G) q B w alone rec f i s)
 |0,_,_,h=>h
 |f+1,i,s,h=>DL hB hw hrec f (i+1) _ (JD t A n (hB i) hw (hrec (i+1)) _ _ s h)
theorem JE {Q:List Int×Int->Prop} {q:Nat} {B:List (List Int)} (hB:∀ i,Sp t A n (fc t (Gj.row B i))) (hQ:∀ w s,CW t A n w->Q s->Q (mV (opG G) w s)):
  ∀ (m:Nat) (w:List Int) (first:Nat) (alone:Bool) (s:List Int×Int),CW t A n w->Q s->Q (zD (opG G) q B m w first alone s)
 |0,w,_,_,s,hw,h=>hQ w s hw h
 |m+1,_,_,_,s,hw,h=>DL t A n hB hw (fun i v s hv hs=>JE hB hQ m v i false s hv hs) _ _ s h
theorem DN {Q:List Int×Int->Prop} {q m:Nat} (hQ:∀ w s,CW t A n w->Q s->Q (mV (opG G) w s)):∀ (Gs:List (List (List Int))) (s:List Int×Int),(∀ B∈Gs,∀ i,Sp t A n (fc t (Gj.row B i)))->Q s->Q (Aa (opG G) q n m Gs s)
 | [],_,_,h=>h
 |B::Gs,s,hB,h=>DN hQ Gs _ (fun C hC=>hB C (yJ _ hC)) (JE t A n (hB B (xJ ..)) hQ m _ 0 true s (He t A n) h)
theorem Qc {q:Nat} (hq:2<=q) {B:List (List Int)} {Gs:List (List (List Int))} (hB:∀ C∈B::Gs,∀ i,Sp t A n (fc t (Gj.row C i))) (hl:0<B.length) {k:Nat} (hk:k<n) (h0:t.e (en B 0 k)≠0):jR t A n (Aa (opG G) q n 1 (B::Gs) ([],0)).1:=by
 have hgs:GoodS t A n ([],(0:Int)):=.inl rfl;have hQ:∀ w s,CW t A n w->jR t A n s.1->jR t A n (mV (opG G) w s).1:=fun w s hw hs=>(DK t A n hw (.inr hs)).2.1 hs;refine DN t A n (Q:=fun s=>jR t A n s.1) hQ Gs _ (fun C hC=>hB C (yJ _ hC)) ?_;have hBi:=hB B (xJ ..);obtain⟨f,hf⟩:∃ f,B.length-0-0=f+1:=⟨B.length-1,by omega⟩
 show jR t A n (YF (opG G) q B (List.replicate n 0) true (fun i v s=>zD (opG G) q B 0 v i false s) (B.length-0-0) 0 ([],0)).1;rw[hf,YF];refine DL t A n (Q:=fun s=>jR t A n s.1) hBi (He t A n) (fun i v s hv hs=>hQ v s hv hs) f 1 _ ?_;rw[zu rfl,show min 1 (q-1)=0+1 by omega,Wx,Wx];have hz:=He t A n;have hcw:=VG t A n (a:=((1:Nat):Int)) hz (hBi 0);refine(DK t A n hcw hgs).2.2 (agf (j:=k) fun e=>?_);have h1:=(L9 t n (a:=((1:Nat):Int)) (us:=Gj.row B 0) hz.1).2 k hk;rw[e,t.bC,show(List.replicate n (0:Int)).getD k 0=0 from qV,t.bC,zero_add,show t.e ((1:Nat):Int)=1 from t.iH,one_mul] at h1;exact h0 h1.symm
theorem VH (t:aK G) (n:Nat) {B:List (List Int)} {x:List Int} (hB:WF G.q B n):∀ m,m<=B.length->BV G.q n (GN (opG G) B n x m)/\∀ k,k<n->t.e ((GN (opG G) B n x m).getD k 0)=sm m (fun i=>t.e (x.getD i 0)*t.e (en B i k))
 |0,_=>by
  refine⟨(He t [] n).1,fun k _=>?_⟩;rw[iF];show t.e ((List.replicate n (0:Int)).getD k 0)=0;rw[qV,t.bC]
 |m+1,hm=>by
  obtain⟨h1,h2⟩:=VH t n hB m (by omega);by_cases z:x.getD m 0=0
  ·rw[Jp z];refine⟨h1,fun k hk=>?_⟩;rw[aY,h2 k hk,z,t.bC,zero_mul,add_zero]
  ·rw[Jq z];obtain⟨h3,h4⟩:=L9 t n (a:=x.getD m 0) (us:=Gj.row B m) h1;refine⟨h3,fun k hk=>?_⟩;rw[aY,h4 k hk,h2 k hk];rfl
theorem VI {S:List Nat} {P:List Nat} (hR:Rf G.q A n P) (hs:GU G A n S) {i:Nat} (hi:i<A.length):
  CW t A n (Gj.row (Dx (opG G) A n S) i)/\∀ k,k<n->t.e (en (Dx (opG G) A n S) i k)=cmb (fe t A) A.length (fun j=>t.e (en (AX (opG G) (dM A S)).1 i j)) k:=by
 obtain⟨_,_,_,_,hw,hl⟩:=hs;have e:Gj.row (Dx (opG G) A n S) i=GN (opG G) A n (Gj.row (AX (opG G) (dM A S)).1 i) A.length:=by
  unfold Dx;rw[GR (by rw[hl];exact hi)];unfold acA GN;rw[hw.wf i (by rw[hl];exact hi)]
 obtain⟨h1,h2⟩:=VH t n (x:=Gj.row (AX (opG G) (dM A S)).1 i) hR.ri.w A.length (zy _);have h3:∀ k,k<n->t.e (en (Dx (opG G) A n S) i k)=cmb (fe t A) A.length (fun j=>t.e (en (AX (opG G) (dM A S)).1 i j)) k:=fun k hk=>by
  show t.e ((Gj.row (Dx (opG G) A n S) i).getD k 0)=_;rw[e,h2 k hk];rfl
 refine⟨⟨by rw[e];exact h1,⟨_,fun k hk=>h3 k hk⟩⟩,h3⟩
theorem VJ {S:List Nat} (hs:GU G A n S):(Dx (opG G) A n S).length=A.length:=by
 unfold Dx mulL;rw[yx,hs.2.2.2.2.2]
theorem JF {P:List Nat} (hR:Rf G.q A n P) (hA:0<A.length) {used:List Nat} {steps:List (List Nat×Nat)} (h:DX (opG G) A n used steps):∀ p∈steps,(GU G A n p.1/\∃ j,j<A.length/\t.e (en (AX (opG G) (dM A p.1)).1 0 j)≠0)/\p.2<=A.length:=by
 induction h with
 |stop used _=>intro p hp;simp at hp
 |next used rest h _ ih=>
  intro p hp;rcases yO.1 hp with rfl|hp
  ·refine⟨acZ t hR used hA, ?_⟩;have h1:=(GZ t hR used).1;have h2:=(lC (opG G) A n used).length_eq;have h3:=GL used (nH (opG G) A n used);show mP used (nH (opG G) A n used)<=A.length;omega
  ·exact ih p hp
theorem JG (t:aK G) {P:List Nat} (hR:Rf G.q A n P) (hA:0<A.length) {steps:List (List Nat×Nat)} (h:DX (opG G) A n [] steps):steps≠ []:=by
 cases h with
 |stop _ h=>
  exfalso;have h1:=(GZ t hR []).1;have h2:=(lC (opG G) A n []).length_eq;have h3:mP [] (nH (opG G) A n [])=(nH (opG G) A n []).length:=by
   unfold mP;rw[List.filter_eq_self.2 (fun a _=>by simp)]
  omega
 |next=>simp
theorem Zn {P:List Nat} (hR:Rf G.q A n P) (hA:0<A.length) {steps:List (List Nat×Nat)} (hf:DX (opG G) A n [] steps) {rk:List Int} {best:List Int} (h:Lp (opG G) A.length G.q.toNat n (DY G A n steps) rk 1 ([],0) (some best)):jR t A n best:=by
 have hst:=JF t A n hR hA hf;have hne:=JG A n t hR hA hf;have hB:∀ C∈DY G A n steps,∀ i,Sp t A n (fc t (Gj.row C i)):=fun C hC i=>by
  obtain⟨p,hp,rfl⟩:=yY.1 hC;have hs:=(hst p hp).1.1;by_cases hi:i<A.length
  ·exact(VI t A n hR hs hi).1.2
  ·refine(jd t A n).ext _ _ (fun k _=>?_) (jd t A n).zero;show 0=t.e ((Gj.row (Dx (opG G) A n p.1) i).getD k 0);rw[Kv (by rw[VJ A n hs];omega)];exact t.bC.symm
 have hq:2<=G.q.toNat:=by have:=q2 t;omega
 have h1:jR t A n (Aa (opG G) G.q.toNat n 1 (DY G A n steps) ([],0)).1:=by
  cases steps with
  |nil=>exact absurd rfl hne
  |cons p rest=>
   obtain⟨⟨hs,j,hj,h0⟩,_⟩:=hst p (xJ ..);have hr:=(VI t A n hR hs (i:=0) hA).2;have hk:∃ k,k<n/\t.e (en (Dx (opG G) A n p.1) 0 k)≠0:=yu fun hno=>h0 ((Z4 t hR).ind (fun j=>t.e (en (AX (opG G) (dM A p.1)).1 0 j)) (fun k hk=>by
    rw[<-hr k hk];exact yu fun h=>hno ⟨k,hk,h⟩) j hj)
   obtain⟨k,hk,hk0⟩:=hk;exact Qc t A n hq (B:=Dx (opG G) A n p.1) (Gs:=DY G A n rest) hB (by rw[VJ A n hs];exact hA) hk hk0
 have hQ:∀ w s,CW t A n w->jR t A n s.1->jR t A n (mV (opG G) w s).1:=fun w s hw hs=>(DK t A n hw (.inr hs)).2.1 hs;have key:∀ (w:Nat) (s:List Int×Int) (r:Option (List Int)),Lp (opG G) A.length G.q.toNat n (DY G A n steps) rk w s r->(w=1/\s=([],0))∨jR t A n s.1->∀ b,r=some b->jR t A n b:=fun w s r hr=>by
  have hg:∀ (w:Nat) (s:List Int×Int),(w=1/\s=([],0))∨jR t A n s.1->jR t A n (Aa (opG G) G.q.toNat n w (DY G A n steps) s).1:=fun w s h=>by
   rcases h with⟨rfl,rfl⟩|h
   ·exact h1
   ·exact DN t A n (Q:=fun s=>jR t A n s.1) hQ _ s hB h
  induction hr with
  |big=>intro _ b e;cases e
  |stop w s hw _=>intro hs b e;rw[<-wW e];exact hg w s hs
  |next w s r hw _ _ ih=>intro hs b e;exact ih (.inr (hg w s hs)) b e
  |done w s hw=>
   intro hs b e;rw[<-wW e];rcases hs with⟨rfl,_⟩|h
   ·omega
   ·exact h
 exact key 1 ([],0) (some best) h (.inl ⟨rfl,rfl⟩) best rfl
end
section
variable {G H:GFd} (t:aK G) (s:aK H) (φ:Hm (Rs t.fs.mon) (Rs s.fs.mon))
def Vz (n:Nat) (y:Rs s.fs.mon) (v:Nat->Rs t.fs.mon):Prop:=sm n (fun k=>φ.f (v k)*pw y k)=0
theorem aaP (n:Nat) (y:Rs s.fs.mon):Spc n (Vz t s φ n y) where
 ext v w e hv:=by
  unfold Vz at hv ⊢;rw[<-hv];exact aX fun k hk=>by rw[e k hk]
 zero:=bH fun k _=>by show φ.f 0*_=0;rw[φ.zero,zero_mul]
 add v w hv hw:=by
  unfold Vz at hv hw ⊢;rw[show(fun k=>φ.f (v k+w k)*pw y k)=fun k=>φ.f (v k)*pw y k+φ.f (w k)*pw y k from funext fun k=>by rw[φ.add,add_mul],Ah,hv,hw,add_zero]
 smul a v hv:=by
  unfold Vz at hv ⊢;rw[show(fun k=>φ.f (a*v k)*pw y k)=fun k=>φ.f a*(φ.f (v k)*pw y k) from funext fun k=>by rw[φ.mul,mul_assoc],<-jr,hv,mul_zero]
theorem agi {L:List (List Int)} {n:Nat} {y:Rs s.fs.mon} (h:∀ i,i<L.length->Vz t s φ n y (fe t L i)) (v:Nat->Rs t.fs.mon) (hv:Sp t L n v):Vz t s φ n y v:=by
 obtain⟨z,hz⟩:=hv;exact(aaP t s φ n y).ext _ _ (fun k hk=>(hz k hk).symm) ((aaP t s φ n y).cmb z L.length h)
def DR (H:GFd) (im:List Int) (A:List (List Int)) (n:Nat) (a:Int):List Nat:=(List.range n).filter fun(i:Nat)=>A.all fun r=>Jy H im r (pJ H a (i:Int))==0
def ImP (im:List Int):Prop:=∀ x:Int,0<=x->x<G.q->s.e (im.getD x.toNat 0)=φ.f (t.e x)
theorem aaQ {im row:List Int} {n:Nat} (him:ImP t s φ im) (hr:BV G.q n row) (x:Int):Jy H im row x=0↔Vz t s φ n (s.e x) (fc t row):=by
 unfold Jy Vz;rw[s.Nj];have hd:dl (s.pl (row.map fun y=>im.getD y.toNat 0)).a n:=fun i hi=>by
  rw[s.OE,show(row.map fun y=>im.getD y.toNat 0).getD i 0=0 by simp[List.getD,zT (show row.length<=i by rw[hr.1];exact hi)],s.bC]
 rw[<-Pl.ql hd];show sm n (fun k=>(s.pl (row.map fun y=>im.getD y.toNat 0)).a k*pw (s.e x) k)=0↔_;rw[aX fun k hk=>by
  rw[s.OE,DF (f:=fun y=>im.getD y.toNat 0) (by rw[hr.1];exact hk),him _ (hr.2 k hk).1 (hr.2 k hk).2]]
 rfl
theorem VK {n j:Nat} {l:List Nat} (hl:∀ x∈l,x<n) (hj:j<n):(fJ n (bQ l)).getD j false=true↔j∈l:=by
 rw[IW _ hj,rO];constructor
 ·rintro⟨x,hx,e⟩;unfold bQ at hx;obtain⟨y,hy,rfl⟩:=yY.1 hx;have hlt:=hl y hy;have e:(y:Int)%(n:Int)=(j:Int):=by simpa using e
  rw[xw (by omega) (by omega)] at e
  rwa [show j=y by omega]
 ·intro h;refine⟨(j:Int),yY.2 ⟨j,h,rfl⟩, ?_⟩;rw[xw (by omega) (by omega)];simp
theorem VL {im:List Int} {A:List (List Int)} {n:Nat} {a:Int} (him:ImP t s φ im) (hw:WF G.q A n) (ha:inn H.q a≠0) {j:Nat} (hj:j<n):
  (fJ n (bQ (DR H im A n a))).getD j false=true↔ ∀ i,i<A.length->Vz t s φ n (pw (s.e a) j) (fe t A i):=by
 rw[VK (l:=DR H im A n a) (fun x hx=>yT.1 (xH.1 hx).1) hj];unfold DR;rw[xH,yT,sZ];have hbv:∀ i (hi:i<A.length),BV G.q n A[i]:=fun i hi=>by
  have e:=row_mem hi;refine⟨by rw[<-e];exact hw.wf i hi,fun k hk=>?_⟩;have:=hw.bd i k hi hk;unfold en at this;rw[e] at this;exact this
 have epw:s.e (pJ H a (j:Int))=pw (s.e a) j:=s.Ce ha j;have key:∀ i,Vz t s φ n (s.e (pJ H a (j:Int))) (fe t A i)↔Vz t s φ n (pw (s.e a) j) (fe t A i):=fun i=>by
  rw[epw]
 constructor
 ·rintro⟨_,h⟩ i hi;refine(key i).1 ?_;have h1:=h A[i] (zF hi);rw[Vf t hi];exact(aaQ t s φ him (hbv i hi) _).1 (by simpa using h1)
 ·intro h;refine⟨hj,fun r hr=>?_⟩;obtain⟨i,hi,rfl⟩:=yR hr;have:=(aaQ t s φ him (hbv i hi) (pJ H a (j:Int))).2 (by rw[<-Vf t hi];exact(key i).2 (h i hi));simp[this]
theorem adh {v:List Int} {n:Nat} (hv:BV G.q n v):(Ht.LX n (fun k=>φ.f (t.e (v.getD k 0)))).length=wt v:=by
 classical
 unfold Ht.LX;have h1:∀ k,k∈List.range n->(decide (φ.f (t.e (v.getD k 0))≠0))=decide (v.getD k 0≠0):=fun k hk=>by
  have hb:=hv.2 k (yT.1 hk);by_cases z:v.getD k 0=0
  ·rw[z,t.bC,φ.zero];simp
  ·simp only[ne_eq,z,not_false_eq_true,decide_true];exact xG (φ.ne (abt t hb z))
 rw[uZ h1];have h2:∀ k,k<=n->((List.range k).filter fun j=>decide (v.getD j 0≠0)).length=wt (v.take k):=fun k=>by
  induction k with
  |zero=>intro _;rfl
  |succ k ih=>
   intro hk;rw[xu,wV,zX,ih (by omega),UG (by rw[hv.1];omega)];by_cases z:v.getD k 0=0
   ·rw[zu z,uJ (by simpa using z)];rfl
   ·rw[zx z,List.filter_cons_of_pos (by simpa using z)];rfl
 rw[h2 n (zy _),wQ (by rw[hv.1];exact zy _)]
theorem adi {im:List Int} {A:List (List Int)} {n:Nat} {a:Int} {best:List Int} {most y:Nat} (him:ImP t s φ im) (hw:WF G.q A n) (ha:inn H.q a≠0) (hord:Ord (s.e a) n) (hg:jR t A n best)
  (hy:iw (fJ n (bQ (DR H im A n a))) n most (fun _ _ _ _=>True) y):y<=wt best:=by
 rcases hy.is with rfl|⟨step,cross,start,more,hv,rfl⟩
 ·have:=hg.2;omega
 ·have hbv:=hg.1.1;have hn:1<=n:=hord.1;obtain⟨k0,_,hk1,hk2⟩:=agh hg.2;have hk0:k0<n:=by rw[<-hbv.1];exact hk1
  have h1:=Ht.ht hord (c:=KO (fJ n (bQ (DR H im A n a))) n step cross start more) (m:=more) (s:=start) (st:=step) (cr:=cross) (fun k=>φ.f (t.e (best.getD k 0))) ⟨k0,hk0,φ.ne (abt t (hbv.2 k0 hk0) hk2)⟩ hv.pos
   (by have:=hv.g;rwa [vX hv.s] at this) (by
    rcases hv.ok with h|h
    ·exact .inl h
    ·refine .inr ?_
     rwa [vX hv.c] at h) (fun i j hi hj=>by
    have hz:=XI (bs:=fJ n (bQ (DR H im A n a))) hi hj;have e:((start+j*cross)%n+i*step)%n=(start+i*step+j*cross)%n:=by
     rw[Nat.mod_add_mod];congr 1;omega
    rw[e] at hz;have hz2:=(VL t s φ him hw ha (vU _ hn)).1 hz;exact agi t s φ hz2 _ hg.1.2)
  rw[adh t s φ hbv] at h1;unfold Hw;omega
theorem VN {bs:List Bool} {y:Nat} (h:iw bs 1 0 (fun _ _ _ _=>True) y) (hz:bs.getD 0 false=true):2<=y:=by
 have hc:pY bs 1 0 0=1:=CX (zy _) (fun j hj=>by
  have:j=0:=by omega
  subst this;exact hz) (.inl rfl)
 have hcm:KO bs 1 0 0 0 0=1:=by
  show min 1 (pY bs 1 0 0)=1;rw[hc];rfl
 have:=h.all 0 0 0 0 ⟨by omega,rfl,by omega,fun _=>rfl,by omega,zy _,by rw[hcm];omega,.inl rfl⟩ trivial;unfold Hw at this;rw[hcm] at this;exact this
theorem Qd {bs:List Bool} {n y b delta:Nat} (h:iw bs n 0 (fun _ _ _ _=>True) y) (hy:1<=y) (hb:b<n) (hd:delta<=n+1) (hz:∀ i,i+1<delta->bs.getD ((b+i)%n) false=true):delta<=y:=by
 by_cases h1:delta<=1
 ·omega
 ·by_cases hn:n=1
  ·subst hn;have:=VN h (by have:=hz 0 (by omega);rwa [show(b+0)%1=0 by omega] at this);omega
  ·have:=XJ h (by omega) hb (k:=delta-1) (by omega) (by omega) (fun i hi=>by rw[uX];exact hz i (by omega));omega
def shL (n:Nat) (g:List Int) (i:Nat):List Int:=(List.range n).map fun k=>if i<=k then g.getD (k-i) 0 else 0
theorem VO (n:Nat) (g:List Int) (i:Nat):(shL n g i).length=n:=by simp[shL]
theorem Mc {n k:Nat} (g:List Int) (i:Nat) (h:k<n):(shL n g i).getD k 0=if i<=k then g.getD (k-i) 0 else 0:=by simp[shL,List.getD,h]
theorem Zo {n i:Nat} {g:List Int} {y:Rs s.fs.mon} (hi:i+g.length<=n) (h:Pl.ev (φ.mp (t.pl g)) y=0):Vz t s φ n y (fc t (shL n g i)):=by
 unfold Vz;obtain⟨m,rfl⟩:∃ m,n=i+m:=⟨n-i,by omega⟩
 rw[Fh,bH (fun k hk=>by
  show φ.f (t.e ((shL (i+m) g i).getD k 0))*_=0;rw[Mc g i (by omega),zx (by omega),t.bC,φ.zero,zero_mul]),zero_add]
 have hd:dl (t.pl g).a m:=bM (Pl.D5.1 (t.oP g)) (by omega);rw[φ.afU hd] at h;rw[aX (g:=fun k=>pw y i*(φ.f ((t.pl g).a k)*pw y k)) (fun k hk=>by
  show φ.f (t.e ((shL (i+m) g i).getD (i+k) 0))*pw y (i+k)=_;rw[Mc g i (by omega),zu (by omega),show i+k-i=k by omega,kK,t.OE];generalize φ.f _=u;generalize pw y i=v;generalize pw y k=w
  ac_rfl),<-jr,h,mul_zero]
theorem amQ (n:Nat):φ.mp (Pl.x n)=Pl.x n:=Pl.ext (PS.ext fun i=>by
 show φ.f ((Pl.x n).a i)=(Pl.x n).a i;rw[Pl.adt,Pl.adt]
 split
 ·exact φ.one
 ·exact φ.zero)
theorem agj (p q:Pl (Rs t.fs.mon)):φ.mp (p-q)=φ.mp p-φ.mp q:=Pl.ext (PS.ext fun _=>φ.sub _ _)
theorem Zq {n:Nat} {P:Pl (Rs t.fs.mon)} {y:Rs s.fs.mon} (hp:Pl.ev (φ.mp P) y=0) (hy:pw y n=1):Pl.ev (φ.mp (Pl.gcd P (Pl.x n-1))) y=0:=by
 obtain⟨u,v,e⟩:=Pl.bez P (Pl.x n-1);rw[e,φ.Vl,φ.Oc,φ.Oc,Pl.pV,Pl.pW,Pl.pW,hp,agj,amQ,φ.aaI,Pl.BP,Pl.agC,Pl.MN,hy,sub_self,mul_zero,mul_zero,add_zero]
theorem agk {im p L:List Int} (him:ImP t s φ im) (hl:p.length=L.length) (hp:∀ j,j<p.length->(0<=p.getD j 0/\p.getD j 0<G.q)/\im.getD (p.getD j 0).toNat 0=L.getD j 0):φ.mp (t.pl p)=s.pl L:=Pl.ext (PS.ext fun j=>by
 show φ.f (t.e (p.getD j 0))=s.e (L.getD j 0);by_cases hj:j<p.length
 ·obtain⟨h1,h2⟩:=hp j hj;rw[<-him _ h1.1 h1.2,h2]
 ·rw[show p.getD j 0=0 by simp[List.getD,zT (vI hj)],show L.getD j 0=0 by simp[List.getD,zT (show L.length<=j by omega)],t.bC,s.bC,φ.zero])
end
end
end Go.Proofs.YtoilbeadokallaaGreatDoor
