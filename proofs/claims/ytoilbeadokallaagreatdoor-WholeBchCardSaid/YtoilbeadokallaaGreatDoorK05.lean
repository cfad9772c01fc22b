/- Lemmas on the way to the row. Conditions: each lemma's own, stated with it. -/
import Derived.Test.YtoilbeadokallaaGreatDoorK03
import Derived.Test.YtoilbeadokallaaGreatDoorK04
namespace Cw
open Rg
structure PrS where
 p:Int
 pr:Prm p
theorem PrS.two (R:PrS):2<=R.p:=R.pr.1
structure Zp (R:PrS) where
 v:Int
 lo:0<=v
 hi:v<R.p
namespace Zp
variable {R:PrS}
theorem ext {a b:Zp R} (h:a.v=b.v):a=b:=by cases a;cases b;cases h;rfl
def mk' (R:PrS) (x:Int):Zp R:=⟨x%R.p,zK _ (by have:=R.two;omega),zQ _ (by have:=R.two;omega)⟩
theorem abe (x:Int):(mk' R x).v=x%R.p:=rfl
theorem mk_eq {x y:Int}:mk' R x=mk' R y↔x%R.p=y%R.p:=⟨fun h=>congrArg Zp.v h,fun h=>ext h⟩
theorem ahn (a:Zp R):a.v%R.p=a.v:=xw a.lo a.hi
theorem QZ (a:Zp R):mk' R a.v=a:=ext (ahn a)
theorem ex (a:Zp R):∃ x,a=mk' R x:=⟨a.v,(QZ a).symm⟩
instance:Zero (Zp R):=⟨mk' R 0⟩
instance:One (Zp R):=⟨mk' R 1⟩
instance:Add (Zp R):=⟨fun a b=>mk' R (a.v+b.v)⟩
instance:Mul (Zp R):=⟨fun a b=>mk' R (a.v*b.v)⟩
instance:Neg (Zp R):=⟨fun a=>mk' R (-a.v)⟩
instance:Sub (Zp R):=⟨fun a b=>mk' R (a.v-b.v)⟩
theorem mk_zero:mk' R 0=0:=rfl
theorem mk_one:mk' R 1=1:=rfl
theorem jV (x y:Int):mk' R x+mk' R y=mk' R (x+y):=mk_eq.2 (by rw[abe,abe,<-Int.add_emod])
theorem kQ (x y:Int):mk' R x*mk' R y=mk' R (x*y):=mk_eq.2 (by rw[abe,abe,<-Int.mul_emod])
theorem mk_neg (x:Int):-mk' R x=mk' R (-x):=mk_eq.2 (by
 rw[abe];have:=Int.sub_emod 0 x R.p;have h2:=Int.sub_emod 0 (x%R.p) R.p;rw[Int.emod_emod] at h2;rw[Int.zero_sub] at this h2;rw[this,h2])
theorem Ik (x y:Int):mk' R x-mk' R y=mk' R (x-y):=mk_eq.2 (by rw[abe,abe,<-Int.sub_emod])
theorem agD:mk' R R.p=0:=mk_eq.2 (by simp)
instance:Rg (Zp R) where
 add_assoc a b c:=by
  obtain⟨x,rfl⟩:=ex a;obtain⟨y,rfl⟩:=ex b;obtain⟨z,rfl⟩:=ex c;simp only[jV,Int.add_assoc]
 add_comm a b:=by
  obtain⟨x,rfl⟩:=ex a;obtain⟨y,rfl⟩:=ex b;rw[jV,jV,Int.add_comm]
 add_zero a:=by
  obtain⟨x,rfl⟩:=ex a;rw[<-mk_zero,jV,sH]
 add_neg a:=by
  obtain⟨x,rfl⟩:=ex a;rw[mk_neg,jV,Int.add_right_neg,mk_zero]
 sub_def a b:=by
  obtain⟨x,rfl⟩:=ex a;obtain⟨y,rfl⟩:=ex b;rw[mk_neg,jV,Ik,Int.sub_eq_add_neg]
 mul_assoc a b c:=by
  obtain⟨x,rfl⟩:=ex a;obtain⟨y,rfl⟩:=ex b;obtain⟨z,rfl⟩:=ex c;simp only[kQ,sV]
 mul_comm a b:=by
  obtain⟨x,rfl⟩:=ex a;obtain⟨y,rfl⟩:=ex b;rw[kQ,kQ,wI]
 mul_one a:=by
  obtain⟨x,rfl⟩:=ex a;rw[<-mk_one,kQ,qy]
 mul_add a b c:=by
  obtain⟨x,rfl⟩:=ex a;obtain⟨y,rfl⟩:=ex b;obtain⟨z,rfl⟩:=ex c;simp only[jV,kQ,sS]
theorem Q5:(0:Zp R).v=0:=by show 0%R.p=0;simp
theorem aho:(1:Zp R).v=1:=xw (by omega) (by have:=R.two;omega)
theorem ne_zero {a:Zp R} (h:a≠0):a.v≠0:=fun e=>h (ext (e.trans Q5.symm))
theorem Q8:∀ (n:Nat) (x:Int),1<=x->x<R.p->x.toNat<=n->∃ b:Zp R,mk' R x*b=1:=by
 intro n;induction n with
 |zero=>intro x h1 h2 h3;omega
 |succ n ih=>
  intro x h1 h2 h3;by_cases e:x=1
  ·exact⟨1,by rw[e,mk_one,mul_one]⟩
  ·have r0:=R.pr.2 x (by omega) h2;have r1:=zK R.p (show x≠0 by omega);have r2:=zQ R.p (show 0<x by omega);obtain⟨b,hb⟩:=ih (R.p%x) (by omega) (by omega) (by omega);refine⟨-(mk' R (R.p/x)*b), ?_⟩;rw[mul_neg,<-mul_assoc,kQ];have e2:x*(R.p/x)=R.p-R.p%x:=by have:=tX R.p x;omega
   rw[e2,<-Ik,agD,zero_sub,neg_mul,neg_neg,hb]
theorem BU (a:Zp R) (h:a≠0):∃ b,a*b=1:=by
 have:=Q8 a.v.toNat a.v (by have:=a.lo;have:=ne_zero h;omega) a.hi (by omega)
 rwa [QZ] at this
open Classical in
noncomputable instance:Fd (Zp R) where
 inv a:=if h:a≠0 then(BU a h).choose else 0
 jI a h:=by
  rw[dif_pos h];exact(BU a h).choose_spec
 dO h:=by
  have:=congrArg Zp.v h;rw[aho,Q5] at this;omega
end Zp
end Cw
namespace Cw
open Rg Fd PS
structure Mon (α:Type) [Fd α] where
 f:PS α
 m:Nat
 hf:dl f (m+1)
 h1:f m=1
 hm:1<=m
structure Rs {α:Type} [Fd α] (F:Mon α) where
 a:PS α
 h:dl a F.m
namespace Rs
variable {α:Type} [Fd α] {F:Mon α}
theorem ext {x y:Rs F} (h:x.a=y.a):x=y:=by cases x;cases y;cases h;rfl
theorem hne (F:Mon α):F.f F.m≠0:=by rw[F.h1];exact dO
def Cg (F:Mon α) (a b:PS α):Prop:=Dv F.f (a-b)
theorem nU (a:PS α):Cg F a a:=by unfold Cg;rw[sub_self];exact aa0 _
theorem BX {a b:PS α} (h:Cg F a b):Cg F b a:=by unfold Cg;rw[<-neg_sub];exact ZE h
theorem oN {a b c:PS α} (h:Cg F a b) (k:Cg F b c):Cg F a c:=by
 unfold Cg;have:a-c=(a-b)+(b-c):=by
  simp only[sub_def];have:a+ -b+(b+ -c)=(a+ -c)+(-b+b):=by ac_rfl
  rw[this,neg_add,add_zero]
 rw[this];exact ZC h k
theorem Il {a b c d:PS α} (h:Cg F a b) (k:Cg F c d):Cg F (a+c) (b+d):=by
 unfold Cg;have:a+c- (b+d)=(a-b)+(c-d):=by simp only[sub_def,iL];ac_rfl
 rw[this];exact ZC h k
theorem Q9 {a b:PS α} (h:Cg F a b):Cg F (-a) (-b):=by
 unfold Cg;have:-a- -b=-(a-b):=by simp only[sub_def,iL]
 rw[this];exact ZE h
theorem iM {a b:PS α} (c:PS α) {n:Nat} (hc:dl c n) (h:Cg F a b):Cg F (c*a) (c*b):=by
 unfold Cg;rw[<-mul_sub];exact ad6 c hc h
theorem Aj {a b:PS α} (c:PS α) {n:Nat} (hc:dl c n) (h:Cg F a b):Cg F (a*c) (b*c):=by
 rw[mul_comm a,mul_comm b];exact iM c hc h
theorem FD:Cg F F.f 0:=by unfold Cg;rw[sub_zero];exact aa1 _
theorem ahp {a b:PS α} (ha:dl a F.m) (hb:dl b F.m) (h:Cg F a b):a=b:=by
 obtain⟨q,n,hq,e⟩:=h;have:=QJ F.hf (hne F) hq (by rw[<-e];exact nC ha hb);rw[this,zero_mul] at e;exact sub_eq_zero e
theorem Rh (F:Mon α) {n:Nat} (a:PS α) (ha:dl a n):∃ r:Rs F,Cg F a r.a:=by
 obtain⟨q,r,e,hr,hq⟩:=Eu F.hf (hne F) n a ha;refine⟨⟨r,hr⟩,q,_,hq, ?_⟩;rw[e,add_sub_cancel]
noncomputable def mulR (x y:Rs F):Rs F:=(Rh F (x.a*y.a) (BN x.h y.h)).choose
theorem abf (x y:Rs F):Cg F (x.a*y.a) (mulR x y).a:=(Rh F (x.a*y.a) (BN x.h y.h)).choose_spec
noncomputable instance:Zero (Rs F):=⟨⟨0,jZ _⟩⟩
noncomputable instance:One (Rs F):=⟨⟨1,bM QH F.hm⟩⟩
noncomputable instance:Add (Rs F):=⟨fun x y=>⟨x.a+y.a,qN x.h y.h⟩⟩
noncomputable instance:Neg (Rs F):=⟨fun x=>⟨-x.a,Et x.h⟩⟩
noncomputable instance:Sub (Rs F):=⟨fun x y=>⟨x.a-y.a,nC x.h y.h⟩⟩
noncomputable instance:Mul (Rs F):=⟨mulR⟩
theorem ZO:(0:Rs F).a=0:=rfl
theorem QK:(1:Rs F).a=1:=rfl
theorem abg (x y:Rs F):(x+y).a=x.a+y.a:=rfl
theorem neg_a (x:Rs F):(-x).a=-x.a:=rfl
theorem Ak (x y:Rs F):Cg F (x.a*y.a) (x*y).a:=abf x y
theorem mul_eq {x y z:Rs F} (h:Cg F (x.a*y.a) z.a):x*y=z:=ext (ahp (x*y).h z.h (oN (BX (Ak x y)) h))
noncomputable instance:Rg (Rs F) where
 add_assoc x y z:=ext (add_assoc _ _ _)
 add_comm x y:=ext (add_comm _ _)
 add_zero x:=ext (add_zero _)
 add_neg x:=ext (add_neg _)
 sub_def x y:=ext (sub_def _ _)
 mul_assoc x y z:=mul_eq (oN (Aj z.a z.h (BX (Ak x y))) (by
  rw[mul_assoc];exact oN (iM x.a x.h (Ak y z)) (Ak x (y*z))))
 mul_comm x y:=mul_eq (by rw[mul_comm];exact Ak y x)
 mul_one x:=mul_eq (by rw[QK,mul_one];exact nU _)
 mul_add x y z:=mul_eq (by rw[abg,abg,mul_add];exact Il (Ak x y) (Ak x z))
def Irr (F:Mon α):Prop:=∀ (g:PS α) (d:Nat),1<=d->d<F.m->dl g (d+1)->g d=1->¬ Dv g F.f
theorem Q8 (hi:Irr F):∀ (n:Nat) (a:PS α),n<=F.m->dl a n->a≠0->∃ u k,dl u k/\Cg F (u*a) 1:=by
 intro n;induction n using Nat.strongRecOn with
 |ind n ih=>
  intro a hn ha h0;obtain⟨d,hd,h1,h2⟩:=MO ha h0;by_cases hd0:d=0
  ·subst hd0;refine⟨C (inv (a 0)),1,QG _, ?_⟩;have:C (inv (a 0))*a=1:=PS.ext fun i=>by
    rw[dJ,BM]
    split
    ·rename_i e;rw[e,inv_mul h2]
    ·rw[h1 i (by omega),mul_zero]
   rw[this];exact nU _
  ·obtain⟨q,r,e,hr,hq⟩:=Eu h1 h2 (F.m+1) F.f F.hf;by_cases hr0:r=0
   ·refine absurd ?_ (hi (C (inv (a d))*a) d (by omega) (by omega) (qj _ h1) (by rw[dJ,inv_mul h2]));refine⟨C (a d)*q,_,qj _ hq, ?_⟩;rw[e,hr0,add_zero];have:C (a d)*q*(C (inv (a d))*a)=(C (a d)*C (inv (a d)))*(q*a):=by ac_rfl
    rw[this,<-Ou,jI _ h2,ahh,one_mul]
   ·obtain⟨u,k,hu,hc⟩:=ih d (by omega) r (by omega) hr hr0;refine⟨-(u*q),_,Et (BN hu hq), ?_⟩;have e1:-(u*q)*a=u*r-u*F.f:=by
     rw[e,mul_add,neg_mul];simp only[sub_def,iL];have:u*r+(-(u*(q*a))+ -(u*r))=-(u*(q*a))+(u*r+ -(u*r)):=by ac_rfl
     rw[this,add_neg,add_zero,mul_assoc]
    rw[e1];refine oN ?_ hc;have h3:Cg F (u*F.f) 0:=by
     have:=iM (F:=F) u hu FD
     rwa [mul_zero] at this
    have:=Il (nU (F:=F) (u*r)) (Q9 h3);rw[neg_zero,add_zero,<-sub_def] at this;exact this
theorem BU (hi:Irr F) (x:Rs F) (h:x≠0):∃ y:Rs F,x*y=1:=by
 obtain⟨u,k,hu,hc⟩:=Q8 hi F.m x.a (zy _) x.h (fun e=>h (ext e));obtain⟨y,hy⟩:=Rh F u hu;refine⟨y,mul_eq ?_⟩;rw[mul_comm];exact oN (Aj x.a x.h (BX hy)) hc
theorem Ri:(1:Rs F)≠0:=fun e=>by
 have:=congrArg (fun x:Rs F=>x.a 0) e;simp only[QK,ZO,BM,jh,zu] at this;exact dO this
theorem zero_div {g:PS α} {d:Nat} (hd:1<=d) (hd2:d<F.m) (hg:dl g (d+1)) (hg1:g d=1) (hv:Dv g F.f):∃ x y:Rs F,x≠0/\y≠0/\x*y=0:=by
 obtain⟨q,n,hq,e⟩:=hv;have hq0:q≠0:=fun h=>hne F (by rw[e,h,zero_mul,jh]);obtain⟨k,_,h1,h2⟩:=MO hq hq0;have hk:k+d=F.m:=by
  have t:=yj h1 hg;rw[<-e,hg1,mul_one] at t;rcases xX (k+d) F.m with h|h|h
  ·have:=BO (k:=k+d+1) h1 hg (by omega);rw[<-e] at this;exact absurd (this F.m (by omega)) (hne F)
  ·exact h
  ·rw[F.hf (k+d) (by omega)] at t;exact absurd t.symm h2
 refine⟨⟨q,bM h1 (by omega)⟩,⟨g,bM hg (by omega)⟩,fun h=>hq0 (congrArg Rs.a h),fun h=>?_,mul_eq ?_⟩
 ·have:g=0:=congrArg Rs.a h;rw[this,jh] at hg1;exact dO hg1.symm
 ·show Cg F (q*g) 0;rw[<-e];exact FD
end Rs
structure ajd (α:Type) [Fd α] where
 F:Mon α
 irr:Rs.Irr F
open Classical in
noncomputable instance {α:Type} [Fd α] (F:ajd α):Fd (Rs F.F) where
 inv x:=if hx:x≠0 then(Rs.BU F.irr x hx).choose else 0
 jI x hx:=by
  rw[dif_pos hx];exact(Rs.BU F.irr x hx).choose_spec
 dO:=Rs.Ri
end Cw
namespace Cw
open Rg Fd PS
section order
variable {α:Type} [Rg α]
def Ord (a:α) (n:Nat):Prop:=1<=n/\pw a n=1/\∀ k,1<=k->k<n->pw a k≠1
theorem ael {a:α}:∀ n,1<=n->pw a n=1->∃ k,k<=n/\Ord a k:=by
 intro n;induction n using Nat.strongRecOn with
 |ind n ih=>
  intro h1 h2;by_cases h:∃ k,1<=k/\k<n/\pw a k=1
  ·obtain⟨k,k1,k2,k3⟩:=h;obtain⟨j,j1,j2⟩:=ih k k2 k1 k3;exact⟨j,by omega,j2⟩
  ·exact⟨n,zy _,h1,h2,fun k k1 k2 k3=>h ⟨k,k1,k2,k3⟩⟩
theorem Ey {a:α} {n:Nat} (h:pw a n=1) (k:Nat):pw a k=pw a (k%n):=by
 conv=>lhs;rw[<-uM k n]
 rw[kK,gK,h,nT,one_mul]
theorem lQ {a:α} {n:Nat} (h:Ord a n) {k:Nat}:pw a k=1↔n∣k:=by
 constructor
 ·intro e;rw[Ey h.2.1] at e;by_cases hz:k%n=0
  ·exact Nat.dvd_of_mod_eq_zero hz
  ·exact absurd e (h.2.2 _ (by omega) (vU _ h.1))
 ·rintro⟨c,rfl⟩;rw[gK,h.2.1,nT]
theorem Ez {a:α} {m n:Nat} (h:Ord a m) (k:Ord a n):m=n:=Nat.dvd_antisymm ((lQ h).1 k.2.1) ((lQ k).1 h.2.1)
theorem abh:Ord (1:α) 1:=⟨zy _,BL _,fun k h1 h2=>by omega⟩
theorem ZP {a:α} {n d:Nat} (h:Ord a (d*n)):Ord (pw a d) n:=by
 have hn:1<=n:=by
  rcases xR n with e|e
  ·have:=h.1;rw[e] at this;omega
  ·exact e
 have hd:1<=d:=by
  rcases xR d with e|e
  ·have:=h.1;rw[e,sF] at this;omega
  ·exact e
 refine⟨hn,by rw[<-gK];exact h.2.1,fun k k1 k2 e=>?_⟩;rw[<-gK,lQ h] at e;have:=rU (Nat.mul_pos hd k1) e;have:=Nat.le_of_mul_le_mul_left this hd;omega
theorem abj {a b:α} {m n:Nat} (ha:Ord a m) (hb:Ord b n) (hc:Nat.Coprime m n):Ord (a*b) (m*n):=by
 refine⟨Nat.mul_pos ha.1 hb.1, ?_,fun k k1 k2 e=>?_⟩
 ·rw[QD,gK,ha.2.1,nT,one_mul,vO,gK,hb.2.1,nT]
 ·have h1:n∣k:=by
   have h:=congrArg (fun x=>pw x m) e;simp only[nT] at h;rw[<-gK,vO,QD,gK,ha.2.1,nT,one_mul,lQ hb] at h;exact wZ hc.symm h
  have h2:m∣k:=by
   have h:=congrArg (fun x=>pw x n) e;simp only[nT] at h;rw[<-gK,vO k n,QD,gK b,hb.2.1,nT,mul_one,lQ ha] at h;exact wZ hc h
  have:=rU k1 (Nat.Coprime.mul_dvd_of_dvd_of_dvd hc h2 h1);omega
end order
theorem ZQ:∀ n:Nat,2<=n->∃ r,2<=r/\r∣n/\∀ k,2<=k->k∣r->k=r:=by
 intro n;induction n using Nat.strongRecOn with
 |ind n ih=>
  intro h2;by_cases h:∃ k,2<=k/\k∣n/\k≠n
  ·obtain⟨k,k1,k2,k3⟩:=h;have:=rU (by omega) k2;obtain⟨r,r1,r2,r3⟩:=ih k (by omega) k1;exact⟨r,r1,sU r2 k2,r3⟩
  ·exact⟨n,h2,rH _,fun k k1 k2=>yu fun e=>h ⟨k,k1,k2,e⟩⟩
theorem abk:∀ m n:Nat,1<=m->¬ m∣n->∃ d,1<=d/\d∣m/\¬ d∣n/\∀ e,e∣m->e<d->e∣n:=by
 intro m n h1 h2;have key:∀ k,(k∣m->¬ k∣n->∃ d,d∣m/\¬ d∣n/\∀ e,e∣m->e<d->e∣n):=by
  intro k;induction k using Nat.strongRecOn with
  |ind k ih=>
   intro k1 k2;by_cases h:∃ e,e∣m/\e<k/\¬ e∣n
   ·obtain⟨e,e1,e2,e3⟩:=h;exact ih e e2 e1 e3
   ·exact⟨k,k1,k2,fun e e1 e2=>yu fun e3=>h ⟨e,e1,e2,e3⟩⟩
 obtain⟨d,d1,d2,d3⟩:=key m (rH _) h2;exact⟨d,Nat.pos_of_dvd_of_pos d1 h1,d1,d2,d3⟩
theorem aem (m n:Nat) (hm:1<=m) (hn:1<=n) (h:¬ m∣n):∃ a b,a∣n/\b∣m/\Nat.Coprime b a/\n<a*b:=by
 obtain⟨d,d0,d1,d2,d3⟩:=abk m n hm h;have hd2:2<=d:=by
  rcases wR d 2 with g|g
  ·obtain rfl:d=1:=by omega
   exact absurd (Nat.one_dvd n) d2
  ·exact g
 obtain⟨p,p1,⟨e,rfl⟩,p3⟩:=ZQ d hd2;have he0:1<=e:=by
  rcases xR e with g|g
  ·subst g;simp at d0
  ·exact g
 have hep:e<p*e:=by have:=sO e p1;omega
 obtain⟨n1,hn1⟩:=d3 e (sU (Nat.dvd_mul_left _ _) d1) hep;have hpn:¬ p∣n1:=fun⟨c,hc⟩=>d2 ⟨c,by rw[hn1,hc];ac_rfl⟩;refine⟨n1,p*e,⟨e,by rw[hn1,vO]⟩,d1, ?_, ?_⟩
 ·refine yu fun hg=>?_;have hg0:1<=Nat.gcd (p*e) n1:=uK _ d0;have hg2:2<=Nat.gcd (p*e) n1:=by
   have:Nat.gcd (p*e) n1≠1:=hg;omega
  obtain⟨r,r1,r2,r3⟩:=ZQ _ hg2;have rd:r∣p*e:=sU r2 (rQ _ _);have rn:r∣n1:=sU r2 (rX _ _);have hrp:Nat.Coprime r p:=by
   refine yu fun hc=>?_;have:1<=Nat.gcd r p:=uK _ (by omega);have h2:2<=Nat.gcd r p:=by
    have:Nat.gcd r p≠1:=hc;omega
   have a1:=r3 _ h2 (rQ _ _);have a2:=p3 _ h2 (rX _ _);exact hpn (by rw[<-a2,a1];exact rn)
  obtain⟨s,hs⟩:=wZ hrp rd;subst hs;have hps:p*s∣n:=d3 (p*s) (sU ⟨r,by ac_rfl⟩ d1) (by
   have h0:1<=p*s:=by
    rcases xR (p*s) with g|g
    ·have:p*(r*s)=r*(p*s):=by ac_rfl
     rw[this,g] at d0;omega
    ·exact g
   have:=sO (p*s) r1;have e1:p*(r*s)=r*(p*s):=by ac_rfl
   omega)
  obtain⟨x,hx⟩:=hps;have hs0:1<=s:=by
   rcases xR s with g|g
   ·subst g;simp at d0
   ·exact g
  have e2:s*(p*x)=s*(r*n1):=by
   rw[hn1] at hx;have:s*(p*x)=p*s*x:=by ac_rfl
   rw[this,<-hx]
   ac_rfl
  have e3:=Nat.eq_of_mul_eq_mul_left hs0 e2;obtain⟨c,hc⟩:=wZ hrp (⟨n1,e3⟩:r∣p*x);exact d2 ⟨c,by rw[hx,hc];ac_rfl⟩
 ·have e1:n1*(p*e)=p*n:=by rw[hn1];ac_rfl
  rw[e1];have:=sO n p1;omega
theorem Ip {α:Type}:∀ {l k:List α},l.Nodup->(∀ x∈l,x∈k)->l.length<=k.length:=by
 intro l;induction l with
 |nil=>intro k _ _;simp
 |cons x l ih=>
  intro k hl hs;obtain⟨s,t,rfl⟩:=List.append_of_mem (hs x (by simp));have hl':=vS.1 hl;have:=ih (k:=s++t) hl'.2 fun y hy=>by
   have h1:=hs y (by simp[hy]);have hne:y≠x:=fun e=>hl'.1 (e▸hy);simp only[yQ,yO] at h1 ⊢;rcases h1 with h|h|h
   ·exact .inl h
   ·exact absurd h hne
   ·exact .inr h
  simp only[zX,yG] at this ⊢;omega
section finite
variable {α:Type} [Fd α]
structure All (l:List α):Prop where
 nd:l.Nodup
 all:∀ x,x∈l
open Classical in
theorem All.nz {l:List α} (h:All l):∃ k:List α,k.Nodup/\(∀ x,x∈k↔x≠0)/\k.length+1=l.length:=by
 obtain⟨s,t,rfl⟩:=List.append_of_mem (h.all 0);have hn:=h.nd;refine⟨s++t, ?_,fun x=>?_,by simp;omega⟩
 ·rw[uq] at hn ⊢;exact⟨hn.1,(vS.1 hn.2.1).2,fun a ha b hb=>hn.2.2 a ha b (by simp[hb])⟩
 ·have hx:=h.all x;rw[uq] at hn;simp only[yQ,yO] at hx ⊢;constructor
  ·rintro h2 rfl;rcases h2 with h2|h2
   ·exact hn.2.2 _ h2 _ (by simp) rfl
   ·exact(vS.1 hn.2.1).1 h2
  ·intro h2;rcases hx with h3|h3|h3
   ·exact .inl h3
   ·exact absurd h3 h2
   ·exact .inr h3
theorem ZR {a:α} (ha:a≠0) {n i j:Nat} (h:Ord a n) (hi:i<n) (hj:j<n) (e:pw a i=pw a j):i=j:=by
 have key:∀ i j,i<=j->j<n->pw a i=pw a j->i=j:=fun i j hij hj e=>by
  obtain⟨k,rfl⟩:=wU hij;rw[kK] at e;have e2:pw a k=1:=mul_left_cancel (Fj ha i) (by rw[<-e,mul_one]);by_cases hk:k=0
  ·omega
  ·exact absurd e2 (h.2.2 k (by omega) (by omega))
 rcases Nat.le_total i j with g|g
 ·exact key i j g hj e
 ·exact(key j i g hi e.symm).symm
theorem Rj {l:List α} (hl:All l) {a:α} (ha:a≠0):∃ n,n+1<=l.length/\Ord a n:=by
 obtain⟨k,k1,k2,k3⟩:=hl.nz;by_cases h:∃ n,1<=n/\n<=k.length/\pw a n=1
 ·obtain⟨n,n1,n2,n3⟩:=h;obtain⟨j,j1,j2⟩:=ael n n1 n3;exact⟨j,by omega,j2⟩
 ·exfalso;have hnd:((List.range (k.length+1)).map (pw a)).Nodup:=by
   rw[uT,uG];refine uO (R:=fun x y=>x<y) (fun {x y} hx hy hxy e=>?_) uF;obtain⟨c,rfl⟩:=wU (Nat.le_of_lt hxy);rw[kK] at e;have e2:pw a c=1:=mul_left_cancel (Fj ha x) (by rw[<-e,mul_one]);have:=yT.1 hy;exact h ⟨c,by omega,by omega,e2⟩
  have:=Ip hnd (k:=k) fun x hx=>by
   obtain⟨i,_,rfl⟩:=yY.1 hx;exact(k2 _).2 (Fj ha i)
  simp at this;omega
theorem aen {p:Nat->Prop} (N:Nat) (h0:∃ n,p n) (hN:∀ n,p n->n<=N):∃ n,p n/\∀ m,p m->m<=n:=by
 induction N with
 |zero=>
  obtain⟨n,hn⟩:=h0;have:=hN n hn;exact⟨n,hn,fun m hm=>by have:=hN m hm;omega⟩
 |succ N ih=>
  by_cases h:p (N+1)
  ·exact⟨_,h,hN⟩
  ·exact ih fun n hn=>by
    have:=hN n hn;have:n≠N+1:=fun e=>h (e▸hn);omega
theorem cyclic {l:List α} (hl:All l):∃ g:α,g≠0/\Ord g (l.length-1):=by
 obtain⟨n,⟨a,ha,hn⟩,hmax⟩:=aen (p:=fun n=>∃ a:α,a≠0/\Ord a n) l.length ⟨1,1,dO,abh⟩ (fun n ⟨a,ha,hn⟩=>by
  obtain⟨k,k1,k2⟩:=Rj hl ha;have:=Ez hn k2;omega)
 have hall:∀ b:α,b≠0->pw b n=1:=fun b hb=>by
  obtain⟨m,m1,m2⟩:=Rj hl hb;refine(lQ m2).2 (yu fun h=>?_);obtain⟨x,y,⟨x',hx⟩,⟨y',hy⟩,hc,hlt⟩:=aem m n m2.1 hn.1 h;have o1:Ord (pw a x') x:=ZP (by rw[vO,<-hx];exact hn);have o2:Ord (pw b y') y:=ZP (by rw[vO,<-hy];exact m2);have o3:=abj o1 o2 hc.symm;have:=hmax _ ⟨_,jU (Fj ha _) (Fj hb _),o3⟩;omega
 obtain⟨k,k1,k2,k3⟩:=hl.nz;have hp:dl (X n-C 1:PS α) (n+1):=nC (Ov n) (bM (QG 1) (by omega));have hp0:(X n-C 1:PS α)≠0:=fun e=>by
  have:=congrArg (fun p:PS α=>p n) e;simp only[Ai,DZ,Hr,jh,zu] at this;have h1:=hn.1;rw[zx (by omega),sub_zero] at this;exact dO this
 have:=Fq hp hp0 k1 fun x hx=>by
  rw[BP,agA (by omega),ad4 (by omega),hall x ((k2 x).1 hx),sub_self]
 obtain⟨j,j1,j2⟩:=Rj hl ha;have e:=Ez hn j2;refine⟨a,ha, ?_⟩;have:n=l.length-1:=by omega
 rw[<-this];exact hn
end finite
end Cw
namespace Cw
open Rg Fd PS
theorem Iq {p x:Int} (hp:0<p) (m:Nat):bY p x (m+1)=x%p::bY p (x/p) m:=by
 unfold bY;rw[List.range_succ_eq_map,uN,rG,lJ];congr 1;exact wO fun i _=>lK hp i
theorem nV {p:Int} (hp:0<p):∀ (m:Nat) (x:Int),0<=x->x<p^m->ng p (bY p x m)=x
 |0,x,h0,h1=>by simp at h1;simp[bY,ng];omega
 |m+1,x,h0,h1=>by
  rw[Iq hp,ng,nV hp m _ (xI h0 (by omega)) (by
   rw[xY] at h1;exact tV hp h1)]
  have:=tX x p;omega
theorem BZ {p:Int} (hp:0<p):∀ {l:List Int},fF p l->bY p (ng p l) l.length=l
 | [],_=>by simp[bY]
 |d::l,h=>by
  obtain⟨h1,h2⟩:=h d (by simp);rw[yG,Iq hp,ng];have e1:(d+p*ng p l)%p=d:=by rw[wY,xw h1 h2]
  have e2:(d+p*ng p l) /p=ng p l:=by
   rw[Int.add_mul_ediv_left _ _ (by omega),vF h1 h2,Int.zero_add]
  rw[e1,e2,BZ hp (fun x hx=>h x (by simp[hx]))]
theorem MV {P r a:Int} (hP:0<P) (h0:0<=r) (h1:r<P):dgt P (r+P*a) 0=r/\∀ i,dgt P (r+P*a) (i+1)=dgt P a i:=by
 refine⟨by rw[lJ,wY,xw h0 h1],fun i=>?_⟩;rw[lK hP,Int.add_mul_ediv_left _ _ (by omega),vF h0 h1,Int.zero_add]
theorem FH {P:Int} (hP:0<P):∀ (k:Nat) (x y:Int) (i:Nat),i<k->dgt P (Af P k x y) i=(dgt P x i+dgt P y i)%P
 |0,_,_,i,h=>by omega
 |k+1,x,y,i,h=>by
  obtain⟨e1,e2⟩:=MV (P:=P) (r:=(x+y)%P) (a:=Af P k (x/P) (y/P)) hP (zK _ (by omega)) (zQ _ hP);rw[Af];cases i with
  |zero=>rw[e1,lJ,lJ,<-Int.add_emod]
  |succ i=>rw[e2,FH hP k _ _ i (by omega),lK hP,lK hP]
theorem FI {P:Int} (hP:0<P):∀ (k:Nat) (x:Int) (i:Nat),i<k->dgt P (AZ P k x) i=-(dgt P x i)%P
 |0,_,i,h=>by omega
 |k+1,x,i,h=>by
  obtain⟨e1,e2⟩:=MV (P:=P) (r:=-(x%P)%P) (a:=AZ P k (x/P)) hP (zK _ (by omega)) (zQ _ hP);rw[AZ];cases i with
  |zero=>rw[e1,lJ]
  |succ i=>rw[e2,FI hP k _ i (by omega),lK hP]
structure FS where
 P:Int
 m:Nat
 mod:List Int
 pr:Prm P
 hm:1<=m
namespace FS
def R (S:FS):PrS:=⟨S.P,S.pr⟩
theorem pos (S:FS):0<S.P:=by have:=S.pr.1;omega
def pol (S:FS) (l:List Int):PS (Zp S.R):=⟨fun i=>Zp.mk' S.R (l.getD i 0)⟩
theorem iq (S:FS) (l:List Int) (i:Nat):S.pol l i=Zp.mk' S.R (l.getD i 0):=rfl
theorem Ir (S:FS) {l:List Int} {n:Nat} (h:l.length<=n):dl (S.pol l) n:=fun i hi=>by
 rw[iq,zW,zT (by omega)];rfl
def low (S:FS) (i:Nat):Int:=if 1<S.m then S.mod.getD i 0 else 0
def mon (S:FS):Mon (Zp S.R) where
 f:=⟨fun i=>if i=S.m then 1 else if i<S.m then Zp.mk' S.R (S.low i) else 0⟩
 m:=S.m
 hf:=fun i hi=>by
  show(if i=S.m then(1:Zp S.R) else if i<S.m then Zp.mk' S.R (S.low i) else 0)=0;rw[zx (by omega),zx (by omega)]
 h1:=by
  show(if S.m=S.m then(1:Zp S.R) else if S.m<S.m then Zp.mk' S.R (S.low S.m) else 0)=1;rw[zu rfl]
 hm:=S.hm
theorem Iu (S:FS) (i:Nat):S.mon.f i=if i=S.m then 1 else if i<S.m then Zp.mk' S.R (S.low i) else 0:=rfl
def el (S:FS) (x:Int):Rs S.mon:=⟨S.pol (bY S.P x S.m),S.Ir (by rw[aP];exact zy _)⟩
theorem OA (S:FS) (x:Int) {i:Nat} (h:i<S.m):(S.el x).a i=Zp.mk' S.R (dgt S.P x i):=by
 show Zp.mk' S.R ((bY S.P x S.m).getD i 0)=_;rw[BH h]
theorem Rl (S:FS) {x:Int} {r:Rs S.mon} (h:∀ i,i<S.m->(r.a i)=Zp.mk' S.R (dgt S.P x i)):S.el x=r:=Rs.ext (PS.ext fun i=>by
 by_cases hi:i<S.m
 ·rw[OA S x hi,h i hi]
 ·rw[(S.el x).h i (by show S.m<=i;omega),r.h i (by show S.m<=i;omega)])
theorem abl (S:FS) {l:List Int} (hd:fF S.P l) (hl:l.length=S.m):(S.el (ng S.P l)).a=S.pol l:=by
 show S.pol (bY S.P (ng S.P l) S.m)=S.pol l;rw[<-hl,BZ S.pos hd]
theorem Rn (S:FS) {x:Int} (h0:0<=x) (h1:x<S.P):(Zp.mk' S.R x).v=x:=xw h0 h1
theorem EC (S:FS) {x y:Int} (hx:0<=x/\x<S.P^S.m) (hy:0<=y/\y<S.P^S.m) (h:S.el x=S.el y):x=y:=by
 have e:bY S.P x S.m=bY S.P y S.m:=zM (by simp[aP]) fun i h1 h2=>by
  rw[aP] at h1;have:=congrArg (fun r:Rs S.mon=>(r.a i).v) h;simp only[OA S _ h1] at this;rw[Rn S (oL S.pos i) (MF S.pos i),Rn S (oL S.pos i) (MF S.pos i)] at this;simpa[bY] using this
 rw[<-nV S.pos S.m x hx.1 hx.2,<-nV S.pos S.m y hy.1 hy.2,e]
theorem J5 (S:FS) (r:Rs S.mon):∃ x,(0<=x/\x<S.P^S.m)/\S.el x=r:=by
 obtain⟨l,hl⟩:∃ l,l=(List.range S.m).map fun i=>(r.a i).v:=⟨_,rfl⟩
 have hd:fF S.P l:=fun x hx=>by
  rw[hl] at hx;obtain⟨i,_,rfl⟩:=yY.1 hx;exact⟨(r.a i).lo,(r.a i).hi⟩
 have hlen:l.length=S.m:=by rw[hl];simp
 have hb:=xg S.pos hd;rw[hlen] at hb;refine⟨ng S.P l,hb,Rs.ext ?_⟩;rw[abl S hd hlen];refine PS.ext fun i=>?_;rw[iq,hl];by_cases hi:i<S.m
 ·simp only[zW,yM,vZ hi,sK,zU];exact Zp.QZ _
 ·simp only[zW,yM,zT (show(List.range S.m).length<=i by simp;omega),Option.map_none,Option.getD_none];rw[r.h i (by show S.m<=i;omega)];rfl
theorem yC (S:FS):S.el 0=0:=S.Rl fun i _=>by
 rw[Rs.ZO,jh];simp[dgt,Zp.mk_zero]
theorem MW (S:FS):S.el 1=1:=S.Rl fun i _=>by
 rw[Rs.QK,BM];have h2:=S.pr.1;cases i with
 |zero=>rw[zu rfl,lJ,xw (by omega) (by omega)];rfl
 |succ i=>
  rw[zx (by omega),lK S.pos,vF (by omega) (by omega)];simp[dgt,Zp.mk_zero]
theorem Am (S:FS) (x:Int):Zp.mk' S.R (x%S.P)=Zp.mk' S.R x:=Zp.mk_eq.2 (Int.emod_emod _ _)
theorem aeo (S:FS) (x y:Int):S.el (Af S.P S.m x y)=S.el x+S.el y:=S.Rl fun i h=>by
 rw[FH S.pos _ _ _ _ h,Rs.abg,jJ,OA S x h,OA S y h,Zp.jV,Am]
theorem aep (S:FS) (x:Int):S.el (AZ S.P S.m x)=-S.el x:=S.Rl fun i h=>by
 rw[FI S.pos _ _ _ h,Rs.neg_a,ML,OA S x h,Zp.mk_neg,Am]
theorem WZ (S:FS) {a out:List Int} (bi:Int) (ha:a.length=S.m) (ho:out.length=S.m):
  S.pol (stepM S.P S.m S.mod a bi out)=X 1*S.pol out+C (Zp.mk' S.R bi)*S.pol a-C (Zp.mk' S.R (out.getD (S.m-1) 0))*S.mon.f:=PS.ext fun i=>by
 have hm:=S.hm;rw[Ai,jJ,iG,dJ,dJ,iq,iq,Iu];by_cases hi:i<S.m
 ·rw[MH hi,Am,<-Zp.jV,<-Zp.jV,<-Zp.kQ,<-Zp.kQ,<-Zp.Ik,zx (show¬i=S.m by omega),zu hi];have e:Zp.mk' S.R S.P=0:=Zp.agD (R:=S.R);rw[e,zero_sub,neg_mul];have e2:(Zp.mk' S.R (if i=0 then 0 else out.getD (i-1) 0))=if i<1 then 0 else S.pol out (i-1):=by
   by_cases h0:i=0
   ·rw[zu h0,zu (by omega)];rfl
   ·rw[zx h0,zx (by omega)];rfl
  rw[e2];show _+ -(_*Zp.mk' S.R (S.low i))+_=_;rw[sub_def]
  ac_rfl
 ·have z:∀ l:List Int,l.length=S.m->Zp.mk' S.R (l.getD i 0)=0:=fun l hl=>by
   rw[zW,zT (by omega)];rfl
  have za:S.pol a i=0:=z _ ha;rw[z _ (nO _ _ _ _ _ _),za,mul_zero,add_zero,zx (show¬i<1 by omega)];by_cases he:i=S.m
  ·rw[zu he,mul_one,he,sub_self]
  ·rw[zx he,zx hi,mul_zero,sub_zero,zW,zT (by omega)];rfl
def top (S:FS) (b:List Int) (n:Nat):PS (Zp S.R):=⟨fun i=>if i<n then Zp.mk' S.R (b.getD (S.m-n+i) 0) else 0⟩
theorem W9 (S:FS) (b:List Int) {n:Nat} (h:n<S.m):S.top b (n+1)=X 1*S.top b n+C (Zp.mk' S.R (b.getD (S.m-1-n) 0)):=PS.ext fun i=>by
 rw[jJ,iG,Hr];show(if i<n+1 then Zp.mk' S.R (b.getD (S.m- (n+1)+i) 0) else 0)=(if i<1 then 0 else if i-1<n then Zp.mk' S.R (b.getD (S.m-n+(i-1)) 0) else 0)+_;by_cases h0:i=0
 ·rw[zu (show i<n+1 by omega),zu (show i<1 by omega),zu h0,zero_add,h0,show S.m- (n+1)+0=S.m-1-n by omega]
 ·rw[zx (show¬i<1 by omega),zx h0,add_zero];by_cases h1:i<n+1
  ·rw[zu h1,zu (by omega),show S.m- (n+1)+i=S.m-n+(i-1) by omega]
  ·rw[zx h1,zx (by omega)]
theorem Rq (S:FS) {a b:List Int} (ha:a.length=S.m):∀ n,n<=S.m->Rs.Cg S.mon (S.pol (pI S.P S.m S.mod a b n)) (S.pol a*S.top b n)
 |0,_=>by
  have e1:S.pol (pI S.P S.m S.mod a b 0)=0:=PS.ext fun i=>by
   rw[iq,pI];by_cases hi:i<S.m
   ·simp[hi,Zp.mk_zero,jh]
   ·rw[zW,zT (by simp;omega)];rfl
  have e2:S.top b 0=0:=PS.ext fun i=>by
   show(if i<0 then Zp.mk' S.R (b.getD (S.m-0+i) 0) else 0)=0;rw[zx (by omega)]
  rw[e1,e2,mul_zero];exact Rs.nU _
 |n+1,h=>by
  have ih:=Rq S (b:=b) ha n (by omega);rw[pI,WZ S _ ha (jS _ _ _ _ _ _),W9 S b (by omega),mul_add,sub_def];have h1:Rs.Cg S.mon (X 1*S.pol (pI S.P S.m S.mod a b n)) (S.pol a*(X 1*S.top b n)):=by
   have:=Rs.iM (F:=S.mon) (X 1) (Ov 1) ih;have e:S.pol a*(X 1*S.top b n)=X 1*(S.pol a*S.top b n):=by ac_rfl
   rw[e];exact this
  have h2:=Rs.iM (F:=S.mon) (C (Zp.mk' S.R ((pI S.P S.m S.mod a b n).getD (S.m-1) 0))) (QG _) Rs.FD;rw[mul_zero] at h2;have h3:=Rs.Q9 h2;rw[neg_zero] at h3;have:=Rs.Il (Rs.Il h1 (Rs.nU (C (Zp.mk' S.R (b.getD (S.m-1-n) 0))*S.pol a))) h3;rw[add_zero,mul_comm (C _) (S.pol a)] at this;rw[mul_comm (C (Zp.mk' S.R (b.getD (S.m-1-n) 0))) (S.pol a)];exact this
theorem MX (S:FS) (x y:Int):S.el (mulS S.P S.m S.mod x y)=S.el x*S.el y:=by
 refine(Rs.mul_eq ?_).symm;unfold mulS;rw[abl S (xk S.pos _ _ _ _ _) (jS _ _ _ _ _ _)];have h:=Rq S (a:=bY S.P x S.m) (b:=bY S.P y S.m) (aP _ _ _) S.m (zy _);have e:S.top (bY S.P y S.m) S.m=(S.el y).a:=PS.ext fun i=>by
  show(if i<S.m then Zp.mk' S.R ((bY S.P y S.m).getD (S.m-S.m+i) 0) else 0)=Zp.mk' S.R ((bY S.P y S.m).getD i 0);by_cases hi:i<S.m
  ·rw[zu hi,uH,xQ]
  ·rw[zx hi,zW,zT (by rw[aP];omega)];rfl
 rw[e] at h;exact Rs.BX h
theorem els (S:FS):∃ l:List (Rs S.mon),All l/\l.length=(S.P^S.m).toNat:=by
 have hq:0<=S.P^S.m:=Int.le_of_lt (uV S.pos);refine⟨(List.range (S.P^S.m).toNat).map fun i:Nat=>S.el i,⟨?_,fun r=>?_⟩,by simp⟩
 ·rw[uT,uG];refine uO (R:=fun x y=>x<y) (fun {x y} hx hy hxy e=>?_) uF;have h1:=yT.1 hx;have h2:=yT.1 hy;have:=S.EC ⟨by omega,by omega⟩ ⟨by omega,by omega⟩ e;omega
 ·obtain⟨x,hx,e⟩:=S.J5 r;exact yY.2 ⟨x.toNat,yT.2 (by omega),by rw[Int.toNat_of_nonneg hx.1];exact e⟩
end FS
end Cw
namespace Cw
open Rg Fd PS
def itF (f:Int->Int):Nat->Int
 |0=>1
 |n+1=>f (itF f n)
theorem Cb (f:Int->Int):∀ n k,∃ j,k<=j/\j<=k+n/\kF f n ((List.range (k+1)).map (itF f)) (itF f (k+1))=(List.range (j+1)).map (itF f)/\
  (j=k+n∨itF f (j+1)=0∨itF f (j+1)∈(List.range (j+1)).map (itF f))
 |0,k=>⟨k,zy _,zy _,rfl,.inl rfl⟩
 |n+1,k=>by
  rw[kF]
  split
  ·rename_i h
   exact⟨k,zy _,by omega,rfl,.inr h⟩
  ·obtain⟨j,h1,h2,h3,h4⟩:=Cb f n (k+1);refine⟨j,by omega,by omega, ?_, ?_⟩
   ·have e:(List.range (k+1)).map (itF f)++ [itF f (k+1)]=(List.range (k+1+1)).map (itF f):=by
     rw[xu (n:=k+1),xq];rfl
    rw[e];exact h3
   ·rcases h4 with h|h
    ·exact .inl (by omega)
    ·exact .inr h
namespace FS
theorem Xa (S:FS):2<=S.P^S.m:=by
 have h:=ni (p:=S.P) (by have:=S.pr.1;omega) S.hm;have:=S.pr.1;rw[sQ] at h;omega
theorem eY (S:FS) (x y:Int):0<=mulS S.P S.m S.mod x y/\mulS S.P S.m S.mod x y<S.P^S.m:=JO S.pos S.m S.mod x y
def it (S:FS) (x:Int) (i:Nat):Int:=itF (fun y=>mulS S.P S.m S.mod y x) i
theorem aer (S:FS) (x:Int) (i:Nat):0<=S.it x i/\S.it x i<S.P^S.m:=by
 cases i with
 |zero=>have:=S.Xa;exact⟨by show(0:Int)<=1;omega,by show 1<S.P^S.m;omega⟩
 |succ i=>exact S.eY _ _
theorem Rt (S:FS) (x:Int) (i:Nat):S.el (S.it x i)=pw (S.el x) i:=by
 induction i with
 |zero=>exact S.MW
 |succ i ih=>
  rw[fH,<-ih];exact S.MX _ _
theorem aes (S:FS) {x:Int} (h:0<=x/\x<S.P^S.m):S.it x 1=x:=S.EC (S.aer x 1) h (by rw[Rt,BL])
theorem ahq (S:FS) {x:Int} (h:0<=x/\x<S.P^S.m):S.el x=0↔x=0:=⟨fun e=>S.EC h ⟨by omega,by have:=S.Xa;omega⟩ (by rw[e,S.yC]),fun e=>by rw[e,S.yC]⟩
theorem J6 (S:FS) {x:Int} (h:0<=x/\x<S.P^S.m):∃ j,j<=(S.P^S.m).toNat/\pU S.P S.m S.mod x=(List.range (j+1)).map (S.it x)/\
  (j=(S.P^S.m).toNat∨S.it x (j+1)=0∨S.it x (j+1)∈(List.range (j+1)).map (S.it x)):=by
 obtain⟨j,h1,h2,h3,h4⟩:=Cb (fun y=>mulS S.P S.m S.mod y x) (S.P^S.m).toNat 0;have e:itF (fun y=>mulS S.P S.m S.mod y x) (0+1)=x:=S.aes h;rw[e] at h3;refine⟨j,by omega,h3, ?_⟩;rw[xQ] at h4;exact h4
theorem Ru (S:FS) {x:Int} (h:0<=x/\x<S.P^S.m) (hg:kG S.P S.m S.mod (S.P^S.m).toNat x):
  pw (S.el x) ((S.P^S.m).toNat-1)=1/\∀ r:Rs S.mon,r≠0->∃ i,i< (S.P^S.m).toNat-1/\r=pw (S.el x) i:=by
 have hq:=S.Xa;obtain⟨j,j1,j2,_⟩:=S.J6 h;obtain⟨g1,g2⟩:=hg;have hj:j+1=(S.P^S.m).toNat-1:=by rw[j2] at g1;simpa using g1
 have hlast:(pU S.P S.m S.mod x).getD ((S.P^S.m).toNat-2) 0=S.it x j:=by
  rw[j2,zW,yM,vZ (by omega),show(S.P^S.m).toNat-2=j by omega];rfl
 rw[hlast] at g2;have e1:S.it x (j+1)=1:=g2;refine⟨?_,fun r hr=>?_⟩
 ·rw[<-hj,<-Rt,e1,S.MW]
 ·obtain⟨z,hz,rfl⟩:=S.J5 r;have hz0:z≠0:=fun e=>hr (by rw[e,S.yC]);have hmem:z∈pU S.P S.m S.mod x:=by
   refine yu fun hn=>?_;have hnd:(z::pU S.P S.m S.mod x).Nodup:=vS.2 ⟨hn,kH _ _ _ _⟩;have hb:=xA (by have:=S.pr.1;omega) S.hm S.mod h.1 h.2;have hz2:=JR S.P S.m S.mod x;have:=A8 ((S.P^S.m).toNat-1) (z::pU S.P S.m S.mod x) 1 hnd fun y hy=>by
    rcases yO.1 hy with e|e
    ·subst e;omega
    ·have a1:=hb y e;have a2:=hz2 y e;omega
   rw[yG,g1] at this;omega
  rw[j2] at hmem;obtain⟨i,hi,e⟩:=yY.1 hmem;exact⟨i,by have:=yT.1 hi;omega,by rw[<-e,Rt]⟩
theorem abm (S:FS) {x:Int} (h:0<=x/\x<S.P^S.m) (hg:kG S.P S.m S.mod (S.P^S.m).toNat x):Rs.Irr S.mon:=by
 intro g d h1 h2 h3 h4 h5;obtain⟨a,b,ha,hb,hab⟩:=Rs.zero_div h1 h2 h3 h4 h5;obtain⟨e1,e2⟩:=S.Ru h hg;obtain⟨i,hi,rfl⟩:=e2 a ha;obtain⟨j,hj,rfl⟩:=e2 b hb;rw[<-kK] at hab;have:pw (S.el x) (i+j+(((S.P^S.m).toNat-1)*2- (i+j)))=0:=by rw[kK,hab,zero_mul]
 rw[show i+j+(((S.P^S.m).toNat-1)*2- (i+j))=((S.P^S.m).toNat-1)*2 by omega,gK,e1,nT] at this;exact Rs.Ri this
def agE (S:FS) (hi:Rs.Irr S.mon):ajd (Zp S.R):=⟨S.mon,hi⟩
theorem abn (S:FS) (hi:Rs.Irr S.mon):∃ x,1<=x/\x<S.P^S.m/\kG S.P S.m S.mod (S.P^S.m).toNat x:=by
 have hq:=S.Xa;obtain⟨l,l1,l2⟩:=S.els;obtain⟨g,g0,g1⟩:∃ g:Rs S.mon,g≠0/\Ord g (l.length-1):=by
  obtain⟨g,g0,g1⟩:=cyclic (α:=Rs (S.agE hi).F) l1;exact⟨g,g0,g1⟩
 obtain⟨x,hx,hxg⟩:=S.J5 g;have hx0:x≠0:=fun e=>g0 (by rw[<-hxg,e,S.yC]);rw[l2] at g1;have hw:∀ i,S.el (S.it x i)=pw g i:=fun i=>by rw[Rt,hxg]
 have hne:∀ i,pw g i≠0:=fun i=>Fj (α:=Rs (S.agE hi).F) g0 i;obtain⟨j,j1,j2,j3⟩:=S.J6 hx;have hnd:=kH S.P S.m S.mod x;have hle:(pU S.P S.m S.mod x).length<=(S.P^S.m).toNat-1:=by
  have hb:=xA (by have:=S.pr.1;omega) S.hm S.mod hx.1 hx.2;have hz2:=JR S.P S.m S.mod x;exact A8 ((S.P^S.m).toNat-1) _ 1 hnd fun y hy=>by
   have a1:=hb y hy;have a2:=hz2 y hy;omega
 have hlen:(pU S.P S.m S.mod x).length=j+1:=by rw[j2];simp
 have hj:j+1=(S.P^S.m).toNat-1:=by
  rcases j3 with e|e|e
  ·omega
  ·have:=hw (j+1);rw[e,S.yC] at this;exact absurd this.symm (hne _)
  ·obtain⟨i,hir,e2⟩:=yY.1 e;have hi':=yT.1 hir;have e3:pw g i=pw g (j+1):=by rw[<-hw,<-hw,e2]
   rcases wR (j+1) ((S.P^S.m).toNat-1) with h|h
   ·have:=ZR (α:=Rs (S.agE hi).F) g0 g1 (i:=i) (j:=j+1) (by omega) h e3;omega
   ·omega
 refine⟨x,by omega,hx.2,by rw[hlen,hj], ?_⟩;have hlast:(pU S.P S.m S.mod x).getD ((S.P^S.m).toNat-2) 0=S.it x j:=by
  rw[j2,zW,yM,vZ (by omega),show(S.P^S.m).toNat-2=j by omega];rfl
 rw[hlast];refine S.EC (S.eY _ _) ⟨by omega,by omega⟩ ?_;rw[S.MX,hw,hxg,<-fH,S.MW,hj];exact g1.2.1
def mo (S:FS) (low:List Int):PS (Zp S.R):=S.pol low+X low.length
theorem Xb (S:FS) (low:List Int):dl (S.mo low) (low.length+1):=qN (bM (S.Ir (zy _)) (by omega)) (Ov _)
theorem Rw (S:FS) (low:List Int):S.mo low low.length=1:=by
 have:=S.Ir (l:=low) (zy _) low.length (zy _);unfold mo;rw[jJ,this,zero_add,DZ,zu rfl]
theorem abo (S:FS) {low r:List Int} {i:Nat} (hi:i<r.length) (hd:low.length<=i):
  S.pol (Ag S.P low i r)=S.pol r-C (Zp.mk' S.R (r.getD i 0))*(X (i-low.length)*S.mo low):=PS.ext fun k=>by
 rw[Ai,dJ,iG,iq];by_cases hk:k<r.length
 ·rw[BJ hk];by_cases e:k=i
  ·rw[zu e,e,zx (by omega),show i- (i-low.length)=low.length by omega,Rw,mul_one,iq,sub_self];rfl
  ·rw[zx e];by_cases h1:i-low.length<=k/\k<i
   ·rw[zu h1,zx (by omega),Am,<-Zp.jV,<-Zp.kQ,<-Zp.Ik];have e0:Zp.mk' S.R S.P=0:=Zp.agD (R:=S.R);rw[e0,zero_sub,neg_mul,<-sub_def];unfold mo;rw[jJ,DZ,zx (by omega),add_zero];rfl
   ·rw[zx h1];by_cases h2:k<i-low.length
    ·rw[zu h2,mul_zero,sub_zero];rfl
    ·rw[zx h2,S.Xb low _ (by omega),mul_zero,sub_zero];rfl
 ·have z:∀ l:List Int,l.length=r.length->Zp.mk' S.R (l.getD k 0)=0:=fun l hl=>by
   rw[zW,zT (by omega)];rfl
  have zr:S.pol r k=0:=z _ rfl;rw[z _ (lM _ _ _ _),zr,zero_sub];by_cases h2:k<i-low.length
  ·omega
  ·rw[zx h2,S.Xb low _ (by omega),mul_zero,neg_zero]
theorem MZ (S:FS) {low r:List Int}:∀ n,n<=r.length-low.length->(∃ q k,dl q k/\S.pol r=q*S.mo low+S.pol (Ba S.P low r n))/\∀ i,r.length-n<=i->(Ba S.P low r n).getD i 0=0
 |0,_=>⟨⟨0,0,jZ _,by rw[zero_mul,zero_add];rfl⟩,fun i hi=>by rw[Ba,zW,zT (by omega)];rfl⟩
 |n+1,h=>by
  obtain⟨⟨q,k,hq,e⟩,hz⟩:=MZ S (low:=low) (r:=r) n (by omega);have hl:=qh S.P low r n;have hrow:=S.abo (low:=low) (r:=Ba S.P low r n) (i:=r.length-1-n) (by omega) (by omega);refine⟨⟨q+C (Zp.mk' S.R ((Ba S.P low r n).getD (r.length-1-n) 0))*X (r.length-1-n-low.length),k+(r.length-1-n-low.length+1),
   qN (bM hq (by omega)) (qj _ (bM (Ov _) (by omega))), ?_⟩,fun i hi=>?_⟩
  ·rw[Ba,hrow,e,add_mul];generalize S.pol (Ba S.P low r n)=y;generalize C (Zp.mk' S.R ((Ba S.P low r n).getD (r.length-1-n) 0))=c;rw[sub_def,mul_assoc c];generalize c*(X (r.length-1-n-low.length)*S.mo low)=z;have:q*S.mo low+z+(y+ -z)=q*S.mo low+y+(z+ -z):=by ac_rfl
   rw[this,add_neg,add_zero]
  ·by_cases hi2:i<r.length
   ·rw[Ba,BJ (by omega)];by_cases e1:i=r.length-1-n
    ·rw[zu e1]
    ·rw[zx e1,zx (by omega)];exact hz i (by omega)
   ·rw[zW,zT (by rw[qh];omega)];rfl
theorem Na (S:FS) {low mod:List Int} (hd:fF S.P mod) (hl:low.length<=mod.length):QA S.P low mod↔Dv (S.mo low) (S.mo mod):=by
 have er:S.pol (mod++ [1])=S.mo mod:=PS.ext fun i=>by
  unfold mo;rw[jJ,DZ,iq,iq];rcases xX i mod.length with h|h|h
  ·rw[zx (by omega),add_zero];simp[List.getD,yU h]
  ·subst h;rw[zu rfl];simp[List.getD,Zp.mk_zero,Zp.mk_one,zero_add]
  ·rw[zx (by omega),add_zero];rw[zW,zW,zT (by simp;omega),zT (by omega)]
 have hdr:fF S.P (mod++ [1]):=fun x hx=>by
  have:=S.pr.1;rcases yQ.1 hx with h|h
  ·exact hd x h
  ·rw[zH.1 h];omega
 have hlen:(mod++ [1]).length=mod.length+1:=by simp
 obtain⟨⟨q,k,hq,e⟩,hz⟩:=S.MZ (low:=low) (r:=mod++ [1]) (mod.length+1-low.length) (by rw[hlen];exact zy _);rw[er] at e;have hdg:=Ie S.pos (low:=low) hdr (mod.length+1-low.length);unfold QA;constructor
 ·intro h;refine⟨q,k,hq, ?_⟩;have:S.pol (Ba S.P low (mod++ [1]) (mod.length+1-low.length))=0:=PS.ext fun i=>by
   rw[iq];have h0:(Ba S.P low (mod++ [1]) (mod.length+1-low.length)).getD i 0=0:=by
    by_cases hi:i< (Ba S.P low (mod++ [1]) (mod.length+1-low.length)).length
    ·simp only[zW,zq hi,zU];exact h _ (zF _)
    ·rw[zW,zT (by omega)];rfl
   rw[h0];rfl
  rw[e,this,add_zero]
 ·rintro⟨q',k',hq',e'⟩ x hx;obtain⟨i,hi,rfl⟩:=yR hx;have hrd:dl (S.pol (Ba S.P low (mod++ [1]) (mod.length+1-low.length))) low.length:=fun j hj=>by
   rw[iq,hz j (by rw[hlen];omega)];rfl
  have hu:=yA (S.Xb low) (by rw[Rw];exact dO) hq hq' hrd (jZ _) (by rw[<-e,add_zero];exact e');have:=congrArg (fun p:PS (Zp S.R)=>(p i).v) hu.2;simp only[iq,jh] at this;have hb:=eX S.pos hdg i;rw[Rn S hb.1 hb.2] at this;simp only[zW,zq hi,zU] at this;rw[this];exact Zp.Q5
theorem aeu (S:FS) (h1:1<S.m) (hl:S.mod.length=S.m):S.mon.f=S.mo S.mod:=PS.ext fun i=>by
 unfold mo;rw[Iu,jJ,DZ,iq,hl];by_cases h:i=S.m
 ·rw[zu h,zu h,zW,zT (by omega)];show 1=Zp.mk' S.R 0+1;rw[Zp.mk_zero,zero_add]
 ·rw[zx h,zx h,add_zero];by_cases h2:i<S.m
  ·rw[zu h2];unfold low;rw[zu h1]
  ·rw[zx h2,zW,zT (by omega)];rfl
theorem ahr (S:FS) {g:PS (Zp S.R)} {d:Nat} (h1:dl g (d+1)) (h2:g d=1):∃ v:Nat,(v:Int)<S.P^d/\g=S.mo (bY S.P v d):=by
 obtain⟨l,hl⟩:∃ l,l=(List.range d).map fun i=>(g i).v:=⟨_,rfl⟩
 have hd:fF S.P l:=fun x hx=>by
  rw[hl] at hx;obtain⟨i,_,rfl⟩:=yY.1 hx;exact⟨(g i).lo,(g i).hi⟩
 have hlen:l.length=d:=by rw[hl];simp
 have hb:=xg S.pos hd;rw[hlen] at hb;obtain⟨v,hv⟩:=zY hb.1;refine⟨v,by rw[<-hv];exact hb.2, ?_⟩;have e:bY S.P v d=l:=by
  have e1:=BZ S.pos hd;rw[hlen,hv] at e1;exact e1
 rw[e];refine PS.ext fun i=>?_;unfold mo;rw[jJ,DZ,iq,hlen];rcases xX i d with h|h|h
 ·rw[zx (by omega),add_zero,hl];simp only[zW,yM,vZ h,sK,zU];exact(Zp.QZ _).symm
 ·rw[zu h,h,h2,zW,zT (by omega)];show 1=Zp.mk' S.R 0+1;rw[Zp.mk_zero,zero_add]
 ·rw[zx (by omega),add_zero,h1 i (by omega),zW,zT (by omega)];rfl
theorem Rx (S:FS) (h1:1<S.m) (hl:S.mod.length=S.m) (hd:fF S.P S.mod):QB S.P S.mod↔Rs.Irr S.mon:=by
 have hf:=S.aeu h1 hl;constructor
 ·intro h;have key:∀ (g:PS (Zp S.R)) (d:Nat),1<=d->2*d<=S.m->dl g (d+1)->g d=1->¬ Dv g S.mon.f:=fun g d d1 d2 g1 g2 g3=>by
   obtain⟨v,hv,rfl⟩:=S.ahr g1 g2;refine h d d1 (by omega) v hv ((S.Na hd (by rw[aP];omega)).2 ?_);rw[<-hf];exact g3
  intro g d d1 d2 g1 g2 g3;by_cases hdd:2*d<=S.m
  ·exact key g d d1 hdd g1 g2 g3
  ·have d2':d<S.m:=d2;obtain⟨q,n,hq,e⟩:=g3;have hq0:q≠0:=fun h=>Rs.hne S.mon (by rw[e,h,zero_mul,jh]);obtain⟨k,_,k1,k2⟩:=MO hq hq0;have t:=yj k1 g1;rw[<-e,g2,mul_one] at t;have hk:k+d=S.m:=by
    rcases xX (k+d) S.m with h|h|h
    ·have:=BO (k:=k+d+1) k1 g1 (by omega);rw[<-e] at this;exact absurd (this S.m (by omega)) (Rs.hne S.mon)
    ·exact h
    ·rw[S.mon.hf (k+d) (by show S.m+1<=k+d;omega)] at t;exact absurd t.symm k2
   rw[hk] at t;have t':q k=1:=by rw[<-t];exact S.mon.h1
   exact key q k (by omega) (by omega) k1 t' ⟨g,_,g1,by rw[e,mul_comm]⟩
 ·intro h d d1 d2 v hv hdv;have:=(S.Na hd (by rw[aP];omega)).1 hdv;rw[<-hf] at this;have hlen:(bY S.P v d).length=d:=aP _ _ _;have m1:=S.Xb (bY S.P v d);have m2:=S.Rw (bY S.P v d);rw[hlen] at m1 m2;exact h _ d d1 (by show d<S.m;omega) m1 m2 this
end FS
def adu (P M:Int) (mod:List Int) (h:jq P M mod):FS:=⟨P,M.toNat,mod,h.2.1,by have:=fK h.1;omega⟩
theorem Cc {P M:Int} {mod:List Int} (h:jq P M mod):fD P M mod↔Rs.Irr (adu P M mod h).mon:=by
 obtain⟨o1,o2,o3,o4,o5,o6⟩:=fK h.1;constructor
 ·rintro⟨_,x,h1,h2,h3⟩;rw[o6] at h2 h3;exact(adu P M mod h).abm (x:=x) ⟨by omega,h2⟩ h3
 ·intro hi;obtain⟨x,h1,h2,h3⟩:=(adu P M mod h).abn hi;exact⟨h,x,h1,by rw[o6];exact h2,by rw[o6];exact h3⟩
theorem jK (P M:Int) (mod:List Int):fD P M mod↔qL P M mod:=by
 constructor
 ·intro hf;refine⟨hf.1,fun hM=>?_⟩;obtain⟨o1,o2,o3,o4,o5,o6⟩:=fK hf.1.1;obtain⟨s1,s2⟩:=hf.1.2.2.2 hM;exact((adu P M mod hf.1).Rx (by show 1<M.toNat;omega) (by show mod.length=M.toNat;omega) s2).2 ((Cc hf.1).1 hf)
 ·rintro⟨hs,hi⟩;obtain⟨o1,o2,o3,o4,o5,o6⟩:=fK hs.1;rw[Cc hs];by_cases hM:M=1
  ·intro g d d1 d2;have:d<M.toNat:=d2;omega
  ·obtain⟨s1,s2⟩:=hs.2.2.2 hM;exact((adu P M mod hs).Rx (by show 1<M.toNat;omega) (by show mod.length=M.toNat;omega) s2).1 (hi hM)
end Cw
namespace Cw
open Rg Fd PS
namespace aK
variable {G:GFd}
def fs (h:aK G):FS:=adu G.P G.M G.mod h.shape
theorem qe (h:aK G):G.q=h.fs.P^h.fs.m:=h.qb.2.2.2.2.2.2
theorem field (h:aK G):fD G.P G.M G.mod:=by
 obtain⟨x,h1,h2,h3,_⟩:=h.gen;refine⟨h.shape,x,h1,by rw[<-h.hq];exact h2,by rw[<-h.hq];exact h3⟩
theorem irr (h:aK G):Rs.Irr h.fs.mon:=(Cc h.shape).1 h.field
def e (h:aK G) (x:Int):Rs h.fs.mon:=h.fs.el (inn G.q x)
theorem ib (h:aK G) (x:Int):0<=inn G.q x/\inn G.q x<h.fs.P^h.fs.m:=by
 rw[<-h.qe];exact iY (by have:=h.qb;omega) x
theorem ahs (h:aK G) {x y:Int} (k:h.e x=h.e y):inn G.q x=inn G.q y:=h.fs.EC (h.ib x) (h.ib y) k
theorem Iw (h:aK G) {x y:Int} (hx:0<=x/\x<G.q) (hy:0<=y/\y<G.q) (k:h.e x=h.e y):x=y:=by
 have:=h.ahs k
 rwa [bI hx,bI hy] at this
theorem ZT (h:aK G) {x:Int} (hx:0<=x/\x<G.q):h.e x=h.fs.el x:=by unfold e;rw[bI hx]
theorem Ry (h:aK G) (x:Int):h.e (inn G.q x)=h.e x:=by unfold e;rw[aaU (by have:=h.qb;omega)]
theorem bC (h:aK G):h.e 0=0:=by rw[h.ZT ⟨by omega,by have:=h.qb;omega⟩,FS.yC]
theorem iH (h:aK G):h.e 1=1:=by rw[h.ZT ⟨by omega,by have:=h.qb;omega⟩,FS.MW]
theorem Wp (h:aK G) {x:Int}:h.e x=0↔inn G.q x=0:=h.fs.ahq (h.ib x)
theorem jv (h:aK G) (x y:Int):0<=gu G x y/\gu G x y<G.q:=by
 rw[h.qe];exact JW h.fs.pos h.fs.m _ _
theorem ZU (h:aK G) (x:Int):0<=iE G x/\iE G x<G.q:=by
 rw[h.qe];exact JX h.fs.pos h.fs.m _
theorem nX (h:aK G) (x y:Int):h.e (gu G x y)=h.e x+h.e y:=by
 rw[h.ZT (h.jv x y)];exact h.fs.aeo _ _
theorem OB (h:aK G) (x:Int):h.e (iE G x)=-h.e x:=by
 rw[h.ZT (h.ZU x)];exact h.fs.aep _
theorem akN (h:aK G):∃ g:Rs h.fs.mon,pw g (G.q.toNat-1)=1/\(∀ i,i<G.exp.length->h.e (G.exp.getD i 0)=pw g i):=by
 obtain⟨x,h1,h2,h3,h4⟩:=h.gen;have hq:=h.qe;have hx:0<=x/\x<h.fs.P^h.fs.m:=⟨by omega,by rw[<-hq];exact h2⟩
 rw[hq] at h3;obtain⟨g1,_⟩:=h.fs.Ru hx h3;obtain⟨j,j1,j2,_⟩:=h.fs.J6 hx;have j2':G.exp=(List.range (j+1)).map (h.fs.it x):=h4.trans j2;refine⟨h.fs.el x,by rw[hq];exact g1,fun i hi=>?_⟩;rw[j2'] at hi;have hi':i<j+1:=by simpa using hi
 have e1:G.exp.getD i 0=h.fs.it x i:=by
  rw[j2',zW,yM,vZ hi'];rfl
 rw[e1,h.ZT (by have:=h.fs.aer x i;rw[<-hq] at this;exact this),FS.Rt]
theorem Iy (h:aK G) (i:Int):0<=JJ G i/\JJ G i<G.q/\JJ G i≠0:=by
 obtain⟨q1,q2,_⟩:=h.qb;have hl:=h.ZA;have m0:=zK i (show G.q-1≠0 by omega);have m1:=zQ i (show 0<G.q-1 by omega);have hi:(i%(G.q-1)).toNat<G.exp.length:=by omega
 unfold JJ;have:=h.ebd (G.exp.getD (i%(G.q-1)).toNat 0) (by simp only[List.getD,zq hi,zU];exact zF _);omega
theorem eY (h:aK G) (x y:Int):0<=bF G x y/\bF G x y<G.q:=by
 unfold bF
 split
 ·have:=h.qb;omega
 ·have:=h.Iy (qK G (inn G.q x)+qK G (inn G.q y));omega
theorem OC (h:aK G):∃ g:Rs h.fs.mon,pw g (G.q.toNat-1)=1/\(∀ i:Int,0<=i->h.e (JJ G i)=pw g i.toNat)/\(∀ x,inn G.q x≠0->0<=qK G (inn G.q x)/\qK G (inn G.q x)<G.q-1/\h.e x=pw g (qK G (inn G.q x)).toNat):=by
 obtain⟨g,g1,g2⟩:=h.akN;obtain⟨q1,q2,_⟩:=h.qb;have hl:=h.ZA;refine⟨g,g1,fun i hi=>?_,fun x hx=>?_⟩
 ·have m0:=zK i (show G.q-1≠0 by omega);have m1:=zQ i (show 0<G.q-1 by omega);unfold JJ;rw[g2 _ (by omega),Ey g1 i.toNat];congr 1;obtain⟨n,rfl⟩:=zY hi;have:G.q-1=((G.q.toNat-1:Nat):Int):=by omega
  rw[this,<-rP,yL,yL]
 ·have hb:=iY (q:=G.q) (by omega) x;obtain⟨i,i1,i2,i3⟩:=h.adW (z:=inn G.q x) (by omega) hb.2;have e1:qK G (inn G.q x)=i:=i3;rw[e1];refine⟨by omega,by omega, ?_⟩;rw[<-h.Ry,<-i2,g2 i i1];simp
theorem fQ (h:aK G) (x y:Int):h.e (bF G x y)=h.e x*h.e y:=by
 unfold bF;by_cases hz:inn G.q x=0∨inn G.q y=0
 ·rw[zu hz,bC];rcases hz with hz|hz
  ·rw[h.Wp.2 hz,zero_mul]
  ·rw[h.Wp.2 hz,mul_zero]
 ·rw[zx hz];obtain⟨g,g1,g2,g3⟩:=h.OC;obtain⟨a0,a1,a2⟩:=g3 x (fun e=>hz (.inl e));obtain⟨b0,b1,b2⟩:=g3 y (fun e=>hz (.inr e));rw[g2 _ (by omega),a2,b2,<-kK];congr 1;omega
theorem FK (h:aK G) (x y:Int):bF G x y=mulS G.P G.M.toNat G.mod (inn G.q x) (inn G.q y):=by
 have hb:=h.fs.eY (inn G.q x) (inn G.q y);rw[<-h.qe] at hb;have hb:0<=mulS G.P G.M.toNat G.mod (inn G.q x) (inn G.q y)/\mulS G.P G.M.toNat G.mod (inn G.q x) (inn G.q y)<G.q:=hb;refine h.Iw (h.eY x y) hb ?_;rw[h.fQ,h.ZT hb];exact(h.fs.MX _ _).symm
theorem add_comm (h:aK G) (x y:Int):gu G x y=gu G y x:=h.Iw (h.jv _ _) (h.jv _ _) (by rw[nX,nX,Rg.add_comm])
theorem mul_comm (h:aK G) (x y:Int):bF G x y=bF G y x:=h.Iw (h.eY _ _) (h.eY _ _) (by rw[fQ,fQ,Rg.mul_comm])
theorem add_assoc (h:aK G) (x y z:Int):gu G (gu G x y) z=gu G x (gu G y z):=h.Iw (h.jv _ _) (h.jv _ _) (by rw[nX,nX,nX,nX,Rg.add_assoc])
theorem mul_assoc (h:aK G) (x y z:Int):bF G (bF G x y) z=bF G x (bF G y z):=h.Iw (h.eY _ _) (h.eY _ _) (by rw[fQ,fQ,fQ,fQ,Rg.mul_assoc])
theorem mul_add (h:aK G) (x y z:Int):bF G x (gu G y z)=gu G (bF G x y) (bF G x z):=h.Iw (h.eY _ _) (h.jv _ _) (by rw[fQ,nX,nX,fQ,fQ,Rg.mul_add])
theorem add_zero (h:aK G) (x:Int):gu G x 0=inn G.q x:=h.Iw (h.jv _ _) (iY (by have:=h.qb;omega) x) (by rw[nX,bC,Rg.add_zero,Ry])
theorem mul_one (h:aK G) (x:Int):bF G x 1=inn G.q x:=h.Iw (h.eY _ _) (iY (by have:=h.qb;omega) x) (by rw[fQ,iH,Rg.mul_one,Ry])
end aK
end Cw
namespace Cw
open Rg Fd PS
section finite
variable {α:Type} [Fd α]
end finite
end Cw
namespace Cw
open Rg Fd PS
namespace Zp
variable {R:PrS}
theorem all (R:PrS):∃ l:List (Zp R),All l/\l.length=R.p.toNat:=by
 have h2:=R.two;refine⟨(List.range R.p.toNat).map fun i:Nat=>mk' R i,⟨?_,fun a=>?_⟩,by simp⟩
 ·rw[uT,uG];refine uO (R:=fun x y=>x<y) (fun {x y} hx hy hxy e=>?_) uF;have h1:=yT.1 hx;have h2:=yT.1 hy;have:=mk_eq.1 e;rw[xw (by omega) (by omega),xw (by omega) (by omega)] at this;omega
 ·have h0:=a.lo;have h1:=a.hi;exact yY.2 ⟨a.v.toNat,yT.2 (by omega),by rw[Int.toNat_of_nonneg h0,QZ]⟩
end Zp
namespace FS
end FS
namespace aK
variable {G:GFd}
theorem Xc (h:aK G) {x:Int} (hx:inn G.q x≠0):pw (h.e x) (G.q.toNat-1)=1:=by
 obtain⟨g,g1,_,g3⟩:=h.OC;rw[(g3 x hx).2.2,<-gK,vO,gK,g1,nT]
theorem aht (h:aK G) {x:Int} (hx:inn G.q x≠0) (n:Int):h.e (pJ G x n)=pw (h.e x) (n%(G.q-1)).toNat:=by
 obtain⟨g,g1,g2,g3⟩:=h.OC;obtain⟨q1,q2,_⟩:=h.qb;obtain⟨a0,a1,a2⟩:=g3 x hx;have m0:=zK n (show G.q-1≠0 by omega);unfold pJ;rw[g2 _ (yN a0 m0),a2,<-gK,Int.toNat_mul a0 m0]
theorem Ce (h:aK G) {x:Int} (hx:inn G.q x≠0) (n:Nat):h.e (pJ G x n)=pw (h.e x) n:=by
 obtain⟨q1,q2,_⟩:=h.qb;rw[h.aht hx,Ey (h.Xc hx) n];congr 1;have:G.q-1=((G.q.toNat-1:Nat):Int):=by omega
 rw[this,<-rP,yL]
theorem aev (h:aK G) (x n:Int):0<=pJ G x n/\pJ G x n<G.q/\pJ G x n≠0:=h.Iy _
end aK
end Cw
namespace Cw
open Rg Fd PS
namespace aK
variable {G:GFd}
end aK
end Cw
namespace Cw
open Rg Fd PS
namespace FS
theorem getD_none {l:List Int} {i:Nat} (h:l.length<=i):l.getD i 0=0:=by rw[zW,zT h];rfl
theorem abp (S:FS) {c:List Int} {i:Nat} (x:Int) (h:i<c.length):S.pol (c.set i (x%S.P))=S.pol c+C (Zp.mk' S.R x-Zp.mk' S.R (c.getD i 0))*X i:=PS.ext fun k=>by
 rw[jJ,dJ,DZ,iq,iq];by_cases e:k=i
 ·subst e;rw[zu rfl,mul_one,List.getD,xM h,zU,Am];rw[sub_def];have:Zp.mk' S.R (c.getD k 0)+(Zp.mk' S.R x+ -Zp.mk' S.R (c.getD k 0))=Zp.mk' S.R x+(Zp.mk' S.R (c.getD k 0)+ -Zp.mk' S.R (c.getD k 0)):=by ac_rfl
  rw[this,add_neg,add_zero]
 ·rw[zx e,mul_zero,add_zero,List.getD,zS (fun h=>e h.symm)];rfl
theorem OD (S:FS) (a b:List Int) {i j:Nat} {c:List Int} (h:i+j<c.length):S.pol (Ej S.P a b i j c)=S.pol c+C (S.pol a i)*X i*(C (S.pol b j)*X j):=by
 unfold Ej;rw[abp S _ h,<-Zp.jV,<-Zp.kQ];have e:Zp.mk' S.R (c.getD (i+j) 0)+Zp.mk' S.R (a.getD i 0)*Zp.mk' S.R (b.getD j 0)-Zp.mk' S.R (c.getD (i+j) 0)=S.pol a i*S.pol b j:=by
  rw[add_comm,add_sub_cancel];rfl
 rw[e,Ou,aaX];congr 1
 ac_rfl
theorem Iz (S:FS) (a b:List Int) {i:Nat} {c:List Int}:∀ n,i+n<=c.length->S.pol (xC S.P a b i c n)=S.pol c+C (S.pol a i)*X i*sm n (fun j=>C (S.pol b j)*X j)
 |0,_=>by rw[xC,iF,mul_zero,add_zero]
 |n+1,h=>by rw[xC,OD S a b (by rw[nP];omega),Iz S a b n (by omega),aY,mul_add,add_assoc]
theorem IB (S:FS) {a b:List Int} {c:List Int} (hb:b.length<=S.m):∀ n,n+S.m<=c.length+1->S.pol (pK S.P S.m a b c n)=S.pol c+sm n (fun i=>C (S.pol a i)*X i)*S.pol b
 |0,_=>by rw[pK,iF,zero_mul,add_zero]
 |n+1,h=>by
  rw[pK,Iz S a b S.m (by rw[jT];omega),IB S hb n (by omega),<-Ox (S.Ir hb),aY,add_mul,add_assoc]
theorem Rz (S:FS) (n:Nat):S.pol (List.replicate n 0)=0:=PS.ext fun i=>by
 rw[iq,jh];by_cases h:i<n
 ·simp[h,Zp.mk_zero]
 ·rw[getD_none (by simp;omega)];rfl
theorem Xd (S:FS) {a b:List Int} (ha:a.length<=S.m) (hb:b.length<=S.m):S.pol (pK S.P S.m a b (List.replicate (2*S.m-1) 0) S.m)=S.pol a*S.pol b:=by
 have hm:=S.hm;rw[IB S hb S.m (by simp;omega),Rz,zero_add,<-Ox (S.Ir ha)]
theorem FM (p:Int) {m:Nat} (mod:List Int) {i:Nat} (c:List Int) (hmi:m<=i) (hi:i<c.length) {k:Nat} (hk:k<c.length):∀ n,n<=m->
  (qM p m mod i c n).getD k 0=if i-m<=k/\k<i-m+n then(c.getD k 0+(p-c.getD i 0)*mod.getD (k- (i-m)) 0)%p else c.getD k 0
 |0,_=>by rw[zx (by omega)];rfl
 |n+1,h=>by
  have ih:=FM p mod c hmi hi hk n (by omega);have ii:(qM p m mod i c n).getD i 0=c.getD i 0:=by
   rw[FM p mod c hmi hi hi n (by omega),zx (by omega)]
  rw[qM,rdStep];by_cases e:i-m+n=k
  ·rw[zx (by omega)] at ih;rw[zu (by omega),List.getD,e,xM (by rw[nR];exact hk),zU,ii,ih,show k- (i-m)=n by omega]
  ·rw[List.getD,zS e];by_cases h2:i-m<=k/\k<i-m+n
   ·rw[zu h2] at ih;rw[zu (by omega)];exact ih
   ·rw[zx h2] at ih;rw[zx (by omega)];exact ih
theorem take_at (c:List Int) (n i:Nat):(c.take n).getD i 0=if i<n then c.getD i 0 else 0:=by
 by_cases h:i<n
 ·rw[zu h,List.getD,wX h];rfl
 ·rw[zx h,getD_none (by simp;omega)]
theorem RD (S:FS) {i:Nat} {c:List Int} (h1:1<S.m) (hmi:S.m<=i) (hi:i<c.length):
  S.pol ((qM S.P S.m S.mod i c S.m).take i)=S.pol (c.take (i+1))-C (S.pol c i)*(X (i-S.m)*S.mon.f):=PS.ext fun k=>by
 rw[Ai,dJ,iG,iq,iq,take_at,take_at,Iu];rcases xX k i with h|h|h
 ·rw[zu h,zu (by omega),FM S.P S.mod c hmi hi (by omega) S.m (zy _)];by_cases h2:k<i-S.m
  ·rw[zx (by omega),zu h2,mul_zero,sub_zero]
  ·rw[zu (by omega),zx h2,zx (by omega),zu (by omega),Am,<-Zp.jV,<-Zp.kQ,<-Zp.Ik];have e0:Zp.mk' S.R S.P=0:=Zp.agD (R:=S.R);rw[e0,zero_sub,neg_mul,<-sub_def];unfold low;rw[zu h1];rfl
 ·subst h;rw[zx (by omega),zu (by omega),zx (by omega),zu (by omega),mul_one,iq,sub_self];rfl
 ·rw[zx (by omega),zx (by omega),zx (by omega),zx (by omega),zx (by omega),mul_zero,sub_zero]
theorem Nb (S:FS) {c:List Int} (hc:c.length=2*S.m-1):∀ n,n<=S.m-1->Rs.Cg S.mon (S.pol ((pO S.P S.m S.mod c n).take (2*S.m-1-n))) (S.pol c)
 |0,_=>by
  rw[pO,wQ (by omega)];exact Rs.nU _
 |n+1,h=>by
  have ih:=Nb S hc n (by omega);rw[pO,show 2*S.m-1- (n+1)=2*S.m-2-n by omega,RD S (by omega) (by omega) (by rw[nS];omega),show 2*S.m-2-n+1=2*S.m-1-n by omega];refine Rs.oN ?_ ih;have h2:=Rs.iM (F:=S.mon) (C (S.pol (pO S.P S.m S.mod c n) (2*S.m-2-n))*X (2*S.m-2-n-S.m)) (qj _ (Ov _)) Rs.FD;rw[mul_zero,mul_assoc] at h2;have h3:=Rs.Il (Rs.nU (S.pol ((pO S.P S.m S.mod c n).take (2*S.m-1-n)))) (Rs.Q9 h2);rw[neg_zero,add_zero,<-sub_def] at h3;exact h3
theorem abq (S:FS) (x y:Int):S.el (ng S.P (xE S.P S.m S.mod (bY S.P x S.m) (bY S.P y S.m)))=S.el x*S.el y:=by
 have hm:=S.hm;refine(Rs.mul_eq (Rs.BX ?_)).symm;rw[abl S (yc S.pos _ _ _ _) (BK _ _ _ _ _ hm)];have h:=Nb S (c:=pK S.P S.m (bY S.P x S.m) (bY S.P y S.m) (List.replicate (2*S.m-1) 0) S.m) (by rw[jT,uw]) (S.m-1) (zy _);rw[show 2*S.m-1- (S.m-1)=S.m by omega,Xd S (by rw[aP];exact zy _) (by rw[aP];exact zy _)] at h;exact h
theorem RF (S:FS) (x y:Int):ng S.P (xE S.P S.m S.mod (bY S.P x S.m) (bY S.P y S.m))=mulS S.P S.m S.mod x y:=by
 have hb:=xg S.pos (yc S.pos S.m S.mod (bY S.P x S.m) (bY S.P y S.m));rw[BK _ _ _ _ _ S.hm] at hb;exact S.EC hb (S.eY x y) (by rw[abq,MX])
end FS
theorem Xe {P:Int} (hP:0<P) (m:Nat) (x y:Int):ng P (adL P (bY P x m) (bY P y m) m)=Af P m x y:=by
 have hd:fF P (adL P (bY P x m) (bY P y m) m):=MI hP _ (gJ hP m) m;have hl:(adL P (bY P x m) (bY P y m) m).length=m:=by rw[yg,aP]
 obtain⟨b0,b1⟩:=JW hP m x y;have e:adL P (bY P x m) (bY P y m) m=bY P (Af P m x y) m:=zM (by rw[hl,aP]) fun i h1 h2=>by
  have hi:i<m:=by omega
  have k1:=adX P (bY P x m) (bY P y m) m i (by rw[aP];exact hi);rw[zu hi,BH hi,BH hi,<-FH hP m x y i hi] at k1;simp only[List.getD,zq h1,zU] at k1;rw[k1];simp[bY]
 rw[e,nV hP m _ b0 b1]
theorem Xf {P:Int} (hP:0<P) (m:Nat) (x:Int):ng P (ngL P (bY P x m) m)=AZ P m x:=by
 have hl:(ngL P (bY P x m) m).length=m:=by rw[yh,aP]
 obtain⟨b0,b1⟩:=JX hP m x;have e:ngL P (bY P x m) m=bY P (AZ P m x) m:=zM (by rw[hl,aP]) fun i h1 h2=>by
  have hi:i<m:=by omega
  have k1:=adY P (bY P x m) m i (by rw[aP];exact hi);have k2:(P-dgt P x i)%P=-dgt P x i%P:=by rw[show P-dgt P x i=-dgt P x i+P*1 by omega,wY]
  rw[zu hi,BH hi,k2,<-FI hP m x i hi] at k1;simp only[List.getD,zq h1,zU] at k1;rw[k1];simp[bY]
 rw[e,nV hP m _ b0 b1]
end Cw
namespace Cw
open Rg Fd PS
theorem abr {α:Type} [Rg α] {a:α} {N l:Nat} (h:Ord a N):Ord (pw a l) (N/Nat.gcd N l):=by
 have hN:=h.1;have hd:0<Nat.gcd N l:=uK _ hN;obtain⟨n',l',hc,e1,e2⟩:=Nat.exists_coprime N l;obtain⟨d,hdd⟩:∃ d,d=Nat.gcd N l:=⟨_,rfl⟩
 rw[<-hdd] at hd e1 e2 ⊢;have en:N/d=n':=by rw[e1,Nat.mul_div_cancel _ hd]
 rw[en];have hn':1<=n':=by
  rcases xR n' with e|e
  ·rw[e,sF] at e1;omega
  ·exact e
 refine⟨hn', ?_,fun k k1 k2 e=>?_⟩
 ·rw[<-gK,lQ h];exact⟨l',by rw[e1,e2];ac_rfl⟩
 ·rw[<-gK,lQ h,e1,e2] at e;obtain⟨c,hc'⟩:=e;have h2:n'∣l'*k:=⟨c,Nat.eq_of_mul_eq_mul_left hd (by
   have a1:d*(l'*k)=l'*d*k:=by ac_rfl
   have a2:d*(n'*c)=n'*d*c:=by ac_rfl
   rw[a1,a2,hc'])⟩
  have h3:=wZ hc h2;have:=rU k1 h3;omega
def Nc (G:GFd) (x:Int):Nat:=(G.q.toNat-1) /Nat.gcd (G.q.toNat-1) (qK G (inn G.q x)).toNat
namespace aK
variable {G:GFd}
theorem ahu (h:aK G):∃ g:Rs h.fs.mon,Ord g (G.q.toNat-1)/\(∀ x,inn G.q x≠0->h.e x=pw g (qK G (inn G.q x)).toNat):=by
 obtain⟨g,g1,g2,g3⟩:=h.OC;obtain⟨q1,q2,_⟩:=h.qb;refine⟨g,⟨by omega,g1,fun k k1 k2 e=>?_⟩,fun x hx=>(g3 x hx).2.2⟩;have b1:=h.Iy (k:Int);have b0:=h.Iy 0;have e2:JJ G (k:Int)=JJ G 0:=h.Iw ⟨b1.1,b1.2.1⟩ ⟨b0.1,b0.2.1⟩ (by
  rw[g2 _ (by omega),g2 _ (by omega)];simpa[lN] using e)
 have hl:=h.ZA;unfold JJ at e2;rw[xw (by omega) (by omega),xw (by omega) (by omega)] at e2;have:=Ef h.end' (i:=(k:Int).toNat) (j:=(0:Int).toNat) (by omega) (by simp;omega) e2;simp at this;omega
theorem aew (h:aK G) {x:Int} (hx:inn G.q x≠0):Ord (h.e x) (Nc G x):=by
 obtain⟨g,g1,g2⟩:=h.ahu;rw[g2 x hx];exact abr g1
end aK
namespace aK
variable {G:GFd}
end aK
end Cw
namespace Cw
open Rg Fd PS
namespace aK
variable {G:GFd}
theorem aex (h:aK G) {y:Int} (hy:inn G.q y≠0):h.e (fG G y)*h.e y=1:=by
 obtain⟨g,g1,g2,g3⟩:=h.OC;obtain⟨a0,a1,a2⟩:=g3 y hy;unfold fG;rw[zx hy,g2 _ (by omega),a2,<-kK,show(G.q-1-qK G (inn G.q y)).toNat+(qK G (inn G.q y)).toNat=G.q.toNat-1 by omega,g1]
end aK
end Cw
namespace Cw
open Rg Fd PS
def nK (G:GFd) (l:List Int):Prop:=(∀ x∈l,0<=x/\x<G.q)/\(l≠ []->l.getD (l.length-1) 0≠0)
theorem J7 (G:GFd):nK G []:=⟨(fun x hx=>absurd hx (by simp)),fun h=>absurd rfl h⟩
theorem aey {l:List Int} {i:Nat} (h:i<l.length):l.getD i 0∈l:=by
 simp only[List.getD,zq h,zU];exact zF _
theorem jW {l:List Int} {i:Nat} (h:l.length<=i):l.getD i 0=0:=by rw[zW,zT h];rfl
theorem qP {l:List Int} {i:Nat} (x:Int) (h:i<l.length):(l.set i x).getD i 0=x:=by
 rw[List.getD,xM h];rfl
theorem oO {l:List Int} {i j:Nat} (x:Int) (h:i≠j):(l.set i x).getD j 0=l.getD j 0:=by
 rw[List.getD,zS h];rfl
theorem RG (l:List Int) (n i:Nat):(l.take n).getD i 0=if i<n then l.getD i 0 else 0:=by
 by_cases h:i<n
 ·rw[zu h,List.getD,wX h];rfl
 ·rw[zx h,jW (by simp;omega)]
theorem nY {G:GFd} {l:List Int} (h:nK G l) (hq:0<G.q) (i:Nat):0<=l.getD i 0/\l.getD i 0<G.q:=by
 by_cases hi:i<l.length
 ·exact h.1 _ (aey hi)
 ·rw[jW (by omega)];omega
noncomputable instance fdR {G:GFd} (h:aK G):Fd (Rs h.fs.mon):=inferInstanceAs (Fd (Rs (h.fs.agE h.irr).F))
namespace aK
variable {G:GFd}
noncomputable def po (h:aK G) (l:List Int):PS (Rs h.fs.mon):=⟨fun i=>h.e (l.getD i 0)⟩
theorem FN (h:aK G) (l:List Int) (i:Nat):h.po l i=h.e (l.getD i 0):=rfl
theorem ZV (h:aK G) {l m:List Int} (k:∀ i,h.e (l.getD i 0)=h.e (m.getD i 0)):h.po l=h.po m:=PS.ext k
theorem ED (h:aK G):h.po []=0:=PS.ext fun i=>by rw[FN,jW (by simp),bC];rfl
theorem J8 (h:aK G) (l:List Int):dl (h.po l) l.length:=fun i hi=>by rw[FN,jW hi,bC]
theorem RH (h:aK G) {l:List Int} {n:Nat} (hn:l.length<=n):dl (h.po l) n:=bM (h.J8 l) hn
theorem Nh (h:aK G) (n:Nat):h.po (List.replicate n 0)=0:=PS.ext fun i=>by
 rw[FN,jh];by_cases hi:i<n
 ·simp[hi,h.bC]
 ·rw[jW (by simp;omega),bC]
theorem aez (h:aK G):h.po [1]=1:=PS.ext fun i=>by
 rw[FN,BM];cases i with
 |zero=>rw[zu rfl];exact h.iH
 |succ i=>rw[zx (by omega),jW (by simp),bC]
theorem abt (h:aK G) {x:Int} (hx:0<=x/\x<G.q) (h0:x≠0):h.e x≠0:=fun e=>h0 (by
 have:=h.Wp.1 e
 rwa [bI hx] at this)
theorem J9 (h:aK G) {l:List Int} (hc:nK G l) (hl:l≠ []):h.po l (l.length-1)≠0:=by
 have hq:0<G.q:=by have:=h.qb;omega
 exact h.abt (nY hc hq _) (hc.2 hl)
theorem Ko (h:aK G) {l:List Int} {k:Nat} (hz:∀ i,k<=i->l.getD i 0=0):h.po (l.take k)=h.po l:=h.ZV fun i=>by
 rw[RG]
 split
 ·rfl
 ·rw[hz i (by omega)]
theorem Xg {l:List Int} {k:Nat} (hr:∀ x∈l,0<=x/\x<G.q) (hk:k<=l.length) (h0:k=0∨l.getD (k-1) 0≠0):nK G (l.take k):=by
 refine⟨fun x hx=>hr x (uU hx),fun hne=>?_⟩;have hl:(l.take k).length=k:=by simp;omega
 rcases h0 with e|e
 ·subst e;exact absurd (by simp) hne
 ·have hk0:0<k:=by
   rcases xR k with g|g
   ·subst g;exact absurd (by simp) hne
   ·exact g
  rw[hl,RG,zu (by omega)];exact e
theorem RJ (h:aK G) {l:List Int} (hc:nK G l) {n:Nat}:dl (h.po l) n↔l.length<=n:=by
 constructor
 ·intro hd;rcases wR n l.length with g|g
  ·have hne:l≠ []:=fun e=>by rw[e] at g;simp at g
   exact absurd (hd (l.length-1) (by omega)) (h.J9 hc hne)
  ·exact g
 ·exact fun hl=>h.RH hl
theorem RN (h:aK G) {l:List Int} {k:Nat} (hk:k<l.length) (z:Int):h.po (l.set k z)=h.po l+C (h.e z-h.e (l.getD k 0))*X k:=PS.ext fun i=>by
 rw[jJ,dJ,DZ,FN,FN];by_cases e:i=k
 ·subst e;rw[zu rfl,Rg.mul_one,qP z hk,Rg.sub_def];have:h.e (l.getD i 0)+(h.e z+ -h.e (l.getD i 0))=h.e z+(h.e (l.getD i 0)+ -h.e (l.getD i 0)):=by ac_rfl
  rw[this,Rg.add_neg,Rg.add_zero]
 ·rw[zx e,Rg.mul_zero,Rg.add_zero,oO z (fun g=>e g.symm)]
theorem RP (h:aK G) {l:List Int} {k:Nat} (hk:k<l.length) (a b:Int):h.po (l.set k (gu G (l.getD k 0) (bF G a b)))=h.po l+C (h.e a*h.e b)*X k:=by
 rw[h.RN hk,nX,fQ];congr 2;rw[Rg.add_comm,Rg.add_sub_cancel]
theorem RQ (h:aK G) {l:List Int} {k:Nat} (hk:k<l.length) (a b:Int):h.po (l.set k (gu G (l.getD k 0) (iE G (bF G a b))))=h.po l-C (h.e a*h.e b)*X k:=by
 rw[h.RN hk,nX,OB,fQ];have e1:h.e (l.getD k 0)+ -(h.e a*h.e b)-h.e (l.getD k 0)=-(h.e a*h.e b):=by rw[Rg.add_comm,Rg.add_sub_cancel]
 rw[e1,ad3,Rg.neg_mul,<-Rg.sub_def]
theorem aeA (h:aK G) {l m:List Int} (k:∀ i,m.getD i 0=inn G.q (l.getD i 0)):h.po m=h.po l:=h.ZV fun i=>by rw[k,Ry]
end aK
end Cw
namespace Cw
open Rg Fd PS
structure DvS {G:GFd} (h:aK G) (l1 l2 us rs:List Int) (s:Nat):Prop where
 ul:us.length=l1.length+1-l2.length
 rl:rs.length=l1.length
 ur:∀ i,0<=us.getD i 0/\us.getD i 0<G.q
 rr:∀ i,0<=rs.getD i 0/\rs.getD i 0<G.q
 eq:h.po l1=h.po us*h.po l2+h.po rs
 uz:∀ i,i+s<l1.length+1-l2.length->us.getD i 0=0
 rz:∀ i,l1.length<=i+s->rs.getD i 0=0
structure DvI {G:GFd} (h:aK G) (l2 rs rs0:List Int) (a:Int) (n j:Nat):Prop where
 rl:rs.length=rs0.length
 rr:∀ i,0<=rs.getD i 0/\rs.getD i 0<G.q
 eq:h.po rs=h.po rs0-C (h.e a)*X n*sm j (fun i=>C (h.po l2 i)*X i)
namespace aK
variable {G:GFd}
theorem Xh (h:aK G) {l1 l2:List Int} (c1:nK G l1):DvS h l1 l2 (List.replicate (l1.length+1-l2.length) 0) l1 0:=by
 have hq:0<G.q:=by have:=h.qb;omega
 have hz:∀ i,(List.replicate (l1.length+1-l2.length) (0:Int)).getD i 0=0:=fun i=>by
  by_cases hi:i<l1.length+1-l2.length
  ·simp[hi]
  ·rw[jW (by simp;omega)]
 exact⟨by simp,rfl,fun i=>by rw[hz];omega,nY c1 hq,by rw[h.Nh,Rg.zero_mul,Rg.zero_add],fun i _=>hz i,fun i hi=>jW (by omega)⟩
theorem RS (h:aK G) {l2 rs:List Int} {a:Int} {n:Nat} (hr:∀ i,0<=rs.getD i 0/\rs.getD i 0<G.q):DvI h l2 rs rs a n 0:=
 ⟨rfl,hr,by rw[iF,Rg.mul_zero,Rg.sub_zero]⟩
theorem Xi (h:aK G) {l2 rs rs0:List Int} {a:Int} {n j:Nat} (k:DvI h l2 rs rs0 a n j) (hn:n+j<rs0.length):
  DvI h l2 (rs.set (n+j) (gu G (rs.getD (n+j) 0) (iE G (bF G a (l2.getD j 0))))) rs0 a n (j+1):=by
 have hlt:n+j<rs.length:=by rw[k.rl];exact hn
 refine⟨by rw[zI,k.rl],fun i=>?_, ?_⟩
 ·by_cases e:i=n+j
  ·subst e;rw[qP _ hlt];exact h.jv _ _
  ·rw[oO _ (fun g=>e g.symm)];exact k.rr i
 ·rw[h.RQ hlt,k.eq,aY,Rg.mul_add,Ou,aaX];have e1:C (h.e a)*C (h.e (l2.getD j 0))*(X n*X j)=C (h.e a)*X n*(C (h.po l2 j)*X j):=by
   show C (h.e a)*C (h.e (l2.getD j 0))*(X n*X j)=C (h.e a)*X n*(C (h.e (l2.getD j 0))*X j)
   ac_rfl
  rw[e1];generalize C (h.e a)*X n*(C (h.po l2 j)*X j)=z;generalize C (h.e a)*X n*sm j (fun i=>C (h.po l2 i)*X i)=y;simp only[Rg.sub_def,Rg.iL]
  ac_rfl
theorem abu (h:aK G) {l1 l2 us rs rs':List Int} {s n:Nat} (c2:nK G l2) (h2:l2≠ []) (k:DvS h l1 l2 us rs s) (hn:n+s+l2.length=l1.length) (i:DvI h l2 rs' rs (bF G (rs.getD (n+l2.length-1) 0) (fG G (l2.getD (l2.length-1) 0))) n l2.length):
  DvS h l1 l2 (us.set n (bF G (rs.getD (n+l2.length-1) 0) (fG G (l2.getD (l2.length-1) 0)))) rs' (s+1):=by
 have hz2:0<l2.length:=yI.2 h2;have hq:0<G.q:=by have:=h.qb;omega
 obtain⟨a,ha⟩:∃ a,a=bF G (rs.getD (n+l2.length-1) 0) (fG G (l2.getD (l2.length-1) 0)):=⟨_,rfl⟩
 rw[<-ha] at i ⊢;have hun:n<us.length:=by rw[k.ul];omega
 have hu0:us.getD n 0=0:=k.uz n (by omega);have ie:=i.eq;rw[<-Ox (h.J8 l2)] at ie;have hri:∀ x,h.e (rs'.getD x 0)=h.e (rs.getD x 0)-h.e a*(if x<n then 0 else h.po l2 (x-n)):=fun x=>by
  have:=congrArg (fun p:PS (Rs h.fs.mon)=>p x) ie;simp only[Ai,Rg.mul_assoc,dJ,iG,FN] at this;exact this
 have htop:h.e a*h.po l2 (l2.length-1)=h.e (rs.getD (n+l2.length-1) 0):=by
  have hl:inn G.q (l2.getD (l2.length-1) 0)≠0:=by
   rw[bI (nY c2 hq _)];exact c2.2 h2
  rw[ha,fQ,FN,Rg.mul_assoc,h.aex hl,Rg.mul_one]
 have hz:∀ x,h.e (rs'.getD x 0)=0->rs'.getD x 0=0:=fun x e=>by
  have:=h.Wp.1 e
  rwa [bI (i.rr x)] at this
 refine⟨by rw[zI,k.ul],by rw[i.rl,k.rl],fun x=>?_,i.rr, ?_,fun x hx=>?_,fun x hx=>hz x ?_⟩
 ·by_cases e:x=n
  ·subst e;rw[qP _ hun,ha];exact h.eY _ _
  ·rw[oO _ (fun g=>e g.symm)];exact k.ur x
 ·rw[h.RN hun,hu0,h.bC,Rg.sub_zero,ie,k.eq,Rg.add_mul];generalize C (h.e a)*X n=c;have e1:h.po us*h.po l2+c*h.po l2+(h.po rs-c*h.po l2)=h.po us*h.po l2+h.po rs+(c*h.po l2+ -(c*h.po l2)):=by
   rw[Rg.sub_def];ac_rfl
  rw[e1,Rg.add_neg,Rg.add_zero]
 ·rw[oO _ (by omega)];exact k.uz x (by omega)
 ·rw[hri];by_cases e:x=n+l2.length-1
  ·rw[zx (by omega),show x-n=l2.length-1 by omega,htop,e,Rg.sub_self]
  ·rw[k.rz x (by omega),h.bC,zx (by omega),h.J8 l2 _ (by omega),Rg.mul_zero,Rg.sub_zero]
theorem aeB (h:aK G) {l1 l2 us rs:List Int} (h2:l2≠ []) (k:DvS h l1 l2 us rs (l1.length+1-l2.length)):h.po l1=h.po us*h.po l2+h.po rs/\∀ i,l2.length-1<=i->rs.getD i 0=0:=by
 have hz2:0<l2.length:=yI.2 h2;exact⟨k.eq,fun i hi=>k.rz i (by omega)⟩
end aK
end Cw
namespace Cw
open Rg Fd PS
namespace aK
variable {G:GFd}
end aK
theorem field2:fD 2 1 []:=(jK 2 1 []).2 ⟨⟨by decide,⟨by omega,fun d h1 h2=>by omega⟩,fun _=>rfl,fun h=>absurd rfl h⟩,fun h=>absurd rfl h⟩
end Cw
namespace Cw
open Rg Fd PS
def evL (G:GFd):List Int->Int->Int
 | [],_=>0
 |c::l,x=>gu G (bF G (evL G l x) x) c
namespace aK
variable {G:GFd}
noncomputable def pl (h:aK G) (l:List Int):Pl (Rs h.fs.mon):=⟨h.po l,l.length,h.J8 l⟩
theorem OE (h:aK G) (l:List Int) (i:Nat):(h.pl l).a i=h.e (l.getD i 0):=rfl
theorem oP (h:aK G) (l:List Int):(h.pl l).ln<=l.length:=Pl.D5.2 (h.J8 l)
theorem Ci (h:aK G):h.pl []=0:=Pl.ext h.ED
theorem aeC (h:aK G):h.pl [1]=1:=Pl.ext h.aez
theorem IC (h:aK G) {l:List Int} (hc:nK G l):(h.pl l).ln=l.length:=by
 refine Nat.le_antisymm (h.oP l) ?_;exact(h.RJ hc).1 (Pl.J4 _)
theorem yD (h:aK G) {l:List Int} {P:Pl (Rs h.fs.mon)} (hc:nK G l) (e:h.pl l=P):l.length=P.ln:=by rw[<-e,h.IC hc]
theorem RU (h:aK G) {l:List Int} (hc:nK G l):h.pl l=0↔l=[]:=by
 rw[<-Pl.kP,h.IC hc,wF]
theorem Kq (h:aK G) (x:Int) (l:List Int):h.pl (x::l)=Pl.c (h.e x)+Pl.x 1*h.pl l:=Pl.ext (PS.ext fun i=>by
 show h.e ((x::l).getD i 0)=(Pl.c (h.e x)).a i+(Pl.x 1*h.pl l).a i;rw[Pl.agB,Pl.WR];cases i with
 |zero=>rw[zu rfl,zu (by omega),Rg.add_zero];rfl
 |succ i=>rw[zx (by omega),zx (by omega),Rg.zero_add];rfl)
theorem RV (h:aK G) (x:Int):h.pl [x]=Pl.c (h.e x):=by rw[Kq,Ci,Rg.mul_zero,Rg.add_zero]
theorem aeD (h:aK G) (r:Int):h.pl [iE G r,1]=Pl.lin (h.e r):=by
 rw[Kq,RV,h.OB,h.iH,Pl.aa2,Rg.mul_one,Pl.ahk];unfold Pl.lin;rw[Rg.sub_def,Rg.add_comm]
theorem aeE (h:aK G) (a:Int) (l:List Int):h.pl (l.map (bF G a))=Pl.c (h.e a)*h.pl l:=Pl.ext (PS.ext fun i=>by
 rw[Pl.MP,OE,OE];by_cases hi:i<l.length
 ·have:(l.map (bF G a)).getD i 0=bF G a (l.getD i 0):=by simp[List.getD,hi]
  rw[this,fQ]
 ·rw[jW (by simp;omega),jW (by omega),bC,Rg.mul_zero])
theorem yE (h:aK G) {l:List Int} (hc:nK G l) (i:Nat):0<=l.getD i 0/\l.getD i 0<G.q:=nY hc (by have:=h.qb;omega) i
theorem abv (h:aK G) {a:Int} {l:List Int} (ha:inn G.q a≠0) (hc:nK G l):nK G (l.map (bF G a)):=by
 refine⟨fun x hx=>?_,fun hne e=>?_⟩
 ·obtain⟨y,_,rfl⟩:=yY.1 hx;exact h.eY _ _
 ·have hl:l≠ []:=fun e=>hne (by rw[e];rfl);have hp:0<l.length:=yI.2 hl;rw[yx] at e;have h1:(l.map (bF G a)).getD (l.length-1) 0=bF G a (l.getD (l.length-1) 0):=by simp[List.getD,show l.length-1<l.length by omega]
  rw[h1] at e;have h2:=congrArg h.e e;rw[fQ,bC] at h2;rcases Fd.mul_eq_zero h2 with g|g
  ·exact ha (h.Wp.1 g)
  ·exact h.abt (h.yE hc _) (hc.2 hl) g
theorem ZW (h:aK G) {y:Int} (hy:inn G.q y≠0):h.e (fG G y)=inv (h.e y):=oM (by rw[Rg.mul_comm];exact h.aex hy)
theorem aeF (h:aK G) {y:Int} (hy:inn G.q y≠0):inn G.q (fG G y)≠0:=fun e=>by
 have:=h.Wp.2 e;rw[h.ZW hy] at this;exact Fd.QF (fun e=>hy (h.Wp.1 e)) this
theorem Xj (h:aK G) {l:List Int} (hc:nK G l) (hl:l≠ []):inn G.q (l.getD (l.length-1) 0)≠0/\nK G (l.map (bF G (fG G (l.getD (l.length-1) 0))))/\h.pl (l.map (bF G (fG G (l.getD (l.length-1) 0))))=Pl.mon (h.pl l):=by
 have h0:inn G.q (l.getD (l.length-1) 0)≠0:=by rw[bI (h.yE hc _)];exact hc.2 hl
 refine⟨h0,h.abv (h.aeF h0) hc, ?_⟩;rw[aeE,h.ZW h0];unfold Pl.mon Pl.lc;rw[h.IC hc];rfl
theorem RX (h:aK G) (l:List Int) (x:Int):0<=evL G l x/\evL G l x<G.q:=by
 cases l with
 |nil=>have:=h.qb;unfold evL;omega
 |cons c l=>exact h.jv _ _
theorem Xk (h:aK G):∀ (l:List Int) (x:Int),h.e (evL G l x)=Pl.ev (h.pl l) (h.e x)
 | [],x=>by rw[Ci,Pl.BQ];exact h.bC
 |c::l,x=>by
  rw[evL,nX,fQ,Xk h l x,Kq,Pl.pV,Pl.pW,Pl.ahm,Pl.agC,Rg.BL,Rg.mul_comm,Rg.add_comm]
theorem RY (h:aK G) {l m:List Int} (x:Int) (k:h.pl l=h.pl m):evL G l x=evL G m x:=h.Iw (h.RX l x) (h.RX m x) (by rw[Xk,Xk,k])
theorem Nj (h:aK G) {l:List Int} {x:Int}:evL G l x=0↔Pl.ev (h.pl l) (h.e x)=0:=by
 rw[<-Xk,h.Wp,bI (h.RX l x)]
theorem Xl (l:List Int) {k:Nat} (hk:k<l.length) (x:Int):evL G (l.drop k) x=gu G (bF G (evL G (l.drop (k+1)) x) x) (l.getD k 0):=by
 rw[yP hk,evL];simp only[List.getD,zq hk,zU]
end aK
end Cw
