/- Lemmas on the way to the row, merged: walks of functions and plain algebra. Conditions: each lemma's own, stated with it. -/
import Derived.Test.YtoilbeadokallaaGreatDoorK02
import Derived.Test.YtoilbeadokallaaGreatDoorK03
namespace Cw
open Rg
structure PrS where
 p:Int
 pr:Prm p
theorem PrS.two (R:PrS):2≤R.p:=R.pr.1
structure Zp (R:PrS) where
 v:Int
 lo:0≤v
 hi:v < R.p
namespace Zp
variable {R:PrS}
theorem ext {a b:Zp R} (h:a.v=b.v):a=b:=by cases a;cases b;cases h;rfl
def mk' (R:PrS) (x:Int):Zp R:=⟨x % R.p,Int.emod_nonneg _ (by have:=R.two;omega),Int.emod_lt_of_pos _ (by have:=R.two;omega)⟩
theorem mk_v (x:Int):(mk' R x).v=x % R.p:=rfl
theorem mk_eq {x y:Int}:mk' R x=mk' R y ↔ x % R.p=y % R.p:=⟨fun h=>congrArg Zp.v h,fun h=>ext h⟩
theorem v_mod (a:Zp R):a.v % R.p=a.v:=Int.emod_eq_of_lt a.lo a.hi
theorem mk_of (a:Zp R):mk' R a.v=a:=ext (v_mod a)
theorem ex (a:Zp R):∃ x,a=mk' R x:=⟨a.v,(mk_of a).symm⟩
instance:Zero (Zp R):=⟨mk' R 0⟩
instance:One (Zp R):=⟨mk' R 1⟩
instance:Add (Zp R):=⟨fun a b=>mk' R (a.v + b.v)⟩
instance:Mul (Zp R):=⟨fun a b=>mk' R (a.v * b.v)⟩
instance:Neg (Zp R):=⟨fun a=>mk' R (-a.v)⟩
instance:Sub (Zp R):=⟨fun a b=>mk' R (a.v - b.v)⟩
theorem mk_zero:mk' R 0=0:=rfl
theorem mk_one:mk' R 1=1:=rfl
theorem mk_add (x y:Int):mk' R x + mk' R y=mk' R (x + y):=mk_eq.2 (by rw [mk_v,mk_v,← Int.add_emod])
theorem mk_mul (x y:Int):mk' R x * mk' R y=mk' R (x * y):=mk_eq.2 (by rw [mk_v,mk_v,← Int.mul_emod])
theorem mk_neg (x:Int):-mk' R x=mk' R (-x):=mk_eq.2 (by
 rw [mk_v]
 have:=Int.sub_emod 0 x R.p
 have h2:=Int.sub_emod 0 (x % R.p) R.p
 rw [Int.emod_emod] at h2
 rw [Int.zero_sub] at this h2
 rw [this,h2])
theorem mk_sub (x y:Int):mk' R x - mk' R y=mk' R (x - y):=mk_eq.2 (by rw [mk_v,mk_v,← Int.sub_emod])
theorem mk_p:mk' R R.p=0:=mk_eq.2 (by simp)
instance:Rg (Zp R) where
 add_assoc a b c:=by
  obtain ⟨x,rfl⟩:=ex a;obtain ⟨y,rfl⟩:=ex b;obtain ⟨z,rfl⟩:=ex c
  simp only [mk_add,Int.add_assoc]
 add_comm a b:=by
  obtain ⟨x,rfl⟩:=ex a;obtain ⟨y,rfl⟩:=ex b
  rw [mk_add,mk_add,Int.add_comm]
 add_zero a:=by
  obtain ⟨x,rfl⟩:=ex a
  rw [← mk_zero,mk_add,Int.add_zero]
 add_neg a:=by
  obtain ⟨x,rfl⟩:=ex a
  rw [mk_neg,mk_add,Int.add_right_neg,mk_zero]
 sub_def a b:=by
  obtain ⟨x,rfl⟩:=ex a;obtain ⟨y,rfl⟩:=ex b
  rw [mk_neg,mk_add,mk_sub,Int.sub_eq_add_neg]
 mul_assoc a b c:=by
  obtain ⟨x,rfl⟩:=ex a;obtain ⟨y,rfl⟩:=ex b;obtain ⟨z,rfl⟩:=ex c
  simp only [mk_mul,Int.mul_assoc]
 mul_comm a b:=by
  obtain ⟨x,rfl⟩:=ex a;obtain ⟨y,rfl⟩:=ex b
  rw [mk_mul,mk_mul,Int.mul_comm]
 mul_one a:=by
  obtain ⟨x,rfl⟩:=ex a
  rw [← mk_one,mk_mul,Int.mul_one]
 mul_add a b c:=by
  obtain ⟨x,rfl⟩:=ex a;obtain ⟨y,rfl⟩:=ex b;obtain ⟨z,rfl⟩:=ex c
  simp only [mk_add,mk_mul,Int.mul_add]
theorem zero_v:(0:Zp R).v=0:=by show 0 % R.p=0;simp
theorem one_v:(1:Zp R).v=1:=Int.emod_eq_of_lt (by omega) (by have:=R.two;omega)
theorem ne_zero {a:Zp R} (h:a ≠ 0):a.v ≠ 0:=fun e=>h (ext (e.trans zero_v.symm))
theorem inv_ex:∀ (n:Nat) (x:Int),1≤x→x < R.p→x.toNat≤n→∃ b:Zp R,mk' R x * b=1:=by
 intro n
 induction n with
 | zero=>intro x h1 h2 h3;omega
 | succ n ih =>
  intro x h1 h2 h3
  by_cases e:x=1
  ·exact ⟨1,by rw [e,mk_one,mul_one]⟩
  ·have r0:=R.pr.2 x (by omega) h2
   have r1:=Int.emod_nonneg R.p (show x ≠ 0 by omega)
   have r2:=Int.emod_lt_of_pos R.p (show 0 < x by omega)
   obtain ⟨b,hb⟩:=ih (R.p % x) (by omega) (by omega) (by omega)
   refine ⟨-(mk' R (R.p / x) * b), ?_⟩
   rw [mul_neg,← mul_assoc,mk_mul]
   have e2:x * (R.p / x)=R.p - R.p % x:=by have:=Int.mul_ediv_add_emod R.p x;omega
   rw [e2,← mk_sub,mk_p,zero_sub,neg_mul,neg_neg,hb]
theorem inv_ex' (a:Zp R) (h:a ≠ 0):∃ b,a * b=1:=by
 have:=inv_ex a.v.toNat a.v (by have:=a.lo;have:=ne_zero h;omega) a.hi (by omega)
 rwa [mk_of] at this
open Classical in
noncomputable instance:Fd (Zp R) where
 inv a:=if h:a ≠ 0 then (inv_ex' a h).choose else 0
 mul_inv a h:=by
  rw [dif_pos h]
  exact (inv_ex' a h).choose_spec
 one_ne h:=by
  have:=congrArg Zp.v h
  rw [one_v,zero_v] at this
  omega
end Zp
end Cw
namespace Cw
open Rg Fd PS
structure Mon (α:Type) [Fd α] where
 f:PS α
 m:Nat
 hf:dl f (m + 1)
 h1:f m=1
 hm:1≤m
structure Rs {α:Type} [Fd α] (F:Mon α) where
 a:PS α
 h:dl a F.m
namespace Rs
variable {α:Type} [Fd α] {F:Mon α}
theorem ext {x y:Rs F} (h:x.a=y.a):x=y:=by cases x;cases y;cases h;rfl
theorem hne (F:Mon α):F.f F.m ≠ 0:=by rw [F.h1];exact one_ne
def Cg (F:Mon α) (a b:PS α):Prop:=Dv F.f (a - b)
theorem cg_refl (a:PS α):Cg F a a:=by unfold Cg;rw [sub_self];exact Dv_zero _
theorem cg_symm {a b:PS α} (h:Cg F a b):Cg F b a:=by unfold Cg;rw [← neg_sub];exact Dv_neg h
theorem cg_trans {a b c:PS α} (h:Cg F a b) (k:Cg F b c):Cg F a c:=by
 unfold Cg
 have:a - c=(a - b) + (b - c):=by
  simp only [sub_def]
  have:a + -b + (b + -c)=(a + -c) + (-b + b):=by ac_rfl
  rw [this,neg_add,add_zero]
 rw [this]
 exact Dv_add h k
theorem cg_add {a b c d:PS α} (h:Cg F a b) (k:Cg F c d):Cg F (a + c) (b + d):=by
 unfold Cg
 have:a + c - (b + d)=(a - b) + (c - d):=by simp only [sub_def,neg_add_rev];ac_rfl
 rw [this]
 exact Dv_add h k
theorem cg_neg {a b:PS α} (h:Cg F a b):Cg F (-a) (-b):=by
 unfold Cg
 have:-a - -b=-(a - b):=by simp only [sub_def,neg_add_rev]
 rw [this]
 exact Dv_neg h
theorem cg_mul_left {a b:PS α} (c:PS α) {n:Nat} (hc:dl c n) (h:Cg F a b):Cg F (c * a) (c * b):=by
 unfold Cg
 rw [← mul_sub]
 exact Dv_mul c hc h
theorem cg_mul_right {a b:PS α} (c:PS α) {n:Nat} (hc:dl c n) (h:Cg F a b):Cg F (a * c) (b * c):=by
 rw [mul_comm a,mul_comm b];exact cg_mul_left c hc h
theorem cg_self:Cg F F.f 0:=by unfold Cg;rw [sub_zero];exact Dv_refl _
theorem cg_eq {a b:PS α} (ha:dl a F.m) (hb:dl b F.m) (h:Cg F a b):a=b:=by
 obtain ⟨q,n,hq,e⟩:=h
 have:=mul_low F.hf (hne F) hq (by rw [← e];exact dl_sub ha hb)
 rw [this,zero_mul] at e
 exact sub_eq_zero e
theorem rem_ex (F:Mon α) {n:Nat} (a:PS α) (ha:dl a n):∃ r:Rs F,Cg F a r.a:=by
 obtain ⟨q,r,e,hr,hq⟩:=div_ex F.hf (hne F) n a ha
 refine ⟨⟨r,hr⟩,q,_,hq, ?_⟩
 rw [e,add_sub_cancel]
noncomputable def mulR (x y:Rs F):Rs F:=(rem_ex F (x.a * y.a) (dl_mul x.h y.h)).choose
theorem mulR_cg (x y:Rs F):Cg F (x.a * y.a) (mulR x y).a:=(rem_ex F (x.a * y.a) (dl_mul x.h y.h)).choose_spec
noncomputable instance:Zero (Rs F):=⟨⟨0,dl_zero _⟩⟩
noncomputable instance:One (Rs F):=⟨⟨1,dl_mono dl_one F.hm⟩⟩
noncomputable instance:Add (Rs F):=⟨fun x y=>⟨x.a + y.a,dl_add x.h y.h⟩⟩
noncomputable instance:Neg (Rs F):=⟨fun x=>⟨-x.a,dl_neg x.h⟩⟩
noncomputable instance:Sub (Rs F):=⟨fun x y=>⟨x.a - y.a,dl_sub x.h y.h⟩⟩
noncomputable instance:Mul (Rs F):=⟨mulR⟩
theorem zero_a:(0:Rs F).a=0:=rfl
theorem one_a:(1:Rs F).a=1:=rfl
theorem add_a (x y:Rs F):(x + y).a=x.a + y.a:=rfl
theorem neg_a (x:Rs F):(-x).a=-x.a:=rfl
theorem mul_cg (x y:Rs F):Cg F (x.a * y.a) (x * y).a:=mulR_cg x y
theorem mul_eq {x y z:Rs F} (h:Cg F (x.a * y.a) z.a):x * y=z:=ext (cg_eq (x * y).h z.h (cg_trans (cg_symm (mul_cg x y)) h))
noncomputable instance:Rg (Rs F) where
 add_assoc x y z:=ext (add_assoc _ _ _)
 add_comm x y:=ext (add_comm _ _)
 add_zero x:=ext (add_zero _)
 add_neg x:=ext (add_neg _)
 sub_def x y:=ext (sub_def _ _)
 mul_assoc x y z:=mul_eq (cg_trans (cg_mul_right z.a z.h (cg_symm (mul_cg x y))) (by
  rw [mul_assoc]
  exact cg_trans (cg_mul_left x.a x.h (mul_cg y z)) (mul_cg x (y * z))))
 mul_comm x y:=mul_eq (by rw [mul_comm];exact mul_cg y x)
 mul_one x:=mul_eq (by rw [one_a,mul_one];exact cg_refl _)
 mul_add x y z:=mul_eq (by rw [add_a,add_a,mul_add];exact cg_add (mul_cg x y) (mul_cg x z))
def Irr (F:Mon α):Prop:=∀ (g:PS α) (d:Nat),1≤d→d < F.m→dl g (d + 1)→g d=1→¬ Dv g F.f
theorem inv_ex (hi:Irr F):∀ (n:Nat) (a:PS α),n≤F.m→dl a n→a ≠ 0→∃ u k,dl u k∧Cg F (u * a) 1:=by
 intro n
 induction n using Nat.strongRecOn with
 | ind n ih =>
  intro a hn ha h0
  obtain ⟨d,hd,h1,h2⟩:=deg_ex ha h0
  by_cases hd0:d=0
  ·subst hd0
   refine ⟨C (inv (a 0)),1,dl_C _, ?_⟩
   have:C (inv (a 0)) * a=1:=PS.ext fun i=>by
    rw [C_mul_at,one_at]
    split
    ·rename_i e;rw [e,inv_mul h2]
    ·rw [h1 i (by omega),mul_zero]
   rw [this]
   exact cg_refl _
  ·obtain ⟨q,r,e,hr,hq⟩:=div_ex h1 h2 (F.m + 1) F.f F.hf
   by_cases hr0:r=0
   ·refine absurd ?_ (hi (C (inv (a d)) * a) d (by omega) (by omega) (dl_Cmul _ h1) (by rw [C_mul_at,inv_mul h2]))
    refine ⟨C (a d) * q,_,dl_Cmul _ hq, ?_⟩
    rw [e,hr0,add_zero]
    have:C (a d) * q * (C (inv (a d)) * a)=(C (a d) * C (inv (a d))) * (q * a):=by ac_rfl
    rw [this,← C_mul,mul_inv _ h2,C_one,one_mul]
   ·obtain ⟨u,k,hu,hc⟩:=ih d (by omega) r (by omega) hr hr0
    refine ⟨-(u * q),_,dl_neg (dl_mul hu hq), ?_⟩
    have e1:-(u * q) * a=u * r - u * F.f:=by
     rw [e,mul_add,neg_mul]
     simp only [sub_def,neg_add_rev]
     have:u * r + (-(u * (q * a)) + -(u * r))=-(u * (q * a)) + (u * r + -(u * r)):=by ac_rfl
     rw [this,add_neg,add_zero,mul_assoc]
    rw [e1]
    refine cg_trans ?_ hc
    have h3:Cg F (u * F.f) 0:=by
     have:=cg_mul_left (F:=F) u hu cg_self
     rwa [mul_zero] at this
    have:=cg_add (cg_refl (F:=F) (u * r)) (cg_neg h3)
    rw [neg_zero,add_zero,← sub_def] at this
    exact this
theorem inv_ex' (hi:Irr F) (x:Rs F) (h:x ≠ 0):∃ y:Rs F,x * y=1:=by
 obtain ⟨u,k,hu,hc⟩:=inv_ex hi F.m x.a (Nat.le_refl _) x.h (fun e=>h (ext e))
 obtain ⟨y,hy⟩:=rem_ex F u hu
 refine ⟨y,mul_eq ?_⟩
 rw [mul_comm]
 exact cg_trans (cg_mul_right x.a x.h (cg_symm hy)) hc
theorem one_ne':(1:Rs F) ≠ 0:=fun e=>by
 have:=congrArg (fun x:Rs F=>x.a 0) e
 simp only [one_a,zero_a,one_at,zero_at,if_pos] at this
 exact one_ne this
theorem zero_div {g:PS α} {d:Nat} (hd:1≤d) (hd2:d < F.m) (hg:dl g (d + 1)) (hg1:g d=1) (hv:Dv g F.f):∃ x y:Rs F,x ≠ 0∧y ≠ 0∧x * y=0:=by
 obtain ⟨q,n,hq,e⟩:=hv
 have hq0:q ≠ 0:=fun h=>hne F (by rw [e,h,zero_mul,zero_at])
 obtain ⟨k,_,h1,h2⟩:=deg_ex hq hq0
 have hk:k + d=F.m:=by
  have t:=mul_top h1 hg
  rw [← e,hg1,mul_one] at t
  rcases Nat.lt_trichotomy (k + d) F.m with h | h | h
  ·have:=dl_mul' (k:=k + d + 1) h1 hg (by omega)
   rw [← e] at this
   exact absurd (this F.m (by omega)) (hne F)
  ·exact h
  ·rw [F.hf (k + d) (by omega)] at t
   exact absurd t.symm h2
 refine ⟨⟨q,dl_mono h1 (by omega)⟩,⟨g,dl_mono hg (by omega)⟩,fun h=>hq0 (congrArg Rs.a h),fun h=>?_,mul_eq ?_⟩
 ·have:g=0:=congrArg Rs.a h
  rw [this,zero_at] at hg1
  exact one_ne hg1.symm
 ·show Cg F (q * g) 0
  rw [← e]
  exact cg_self
end Rs
structure IMon (α:Type) [Fd α] where
 F:Mon α
 irr:Rs.Irr F
open Classical in
noncomputable instance {α:Type} [Fd α] (F:IMon α):Fd (Rs F.F) where
 inv x:=if hx:x ≠ 0 then (Rs.inv_ex' F.irr x hx).choose else 0
 mul_inv x hx:=by
  rw [dif_pos hx]
  exact (Rs.inv_ex' F.irr x hx).choose_spec
 one_ne:=Rs.one_ne'
end Cw
namespace Cw
open Rg Fd PS
section order
variable {α:Type} [Rg α]
def Ord (a:α) (n:Nat):Prop:=1≤n∧pw a n=1∧∀ k,1≤k→k < n→pw a k ≠ 1
theorem ord_of {a:α}:∀ n,1≤n→pw a n=1→∃ k,k≤n∧Ord a k:=by
 intro n
 induction n using Nat.strongRecOn with
 | ind n ih =>
  intro h1 h2
  by_cases h:∃ k,1≤k∧k < n∧pw a k=1
  ·obtain ⟨k,k1,k2,k3⟩:=h
   obtain ⟨j,j1,j2⟩:=ih k k2 k1 k3
   exact ⟨j,by omega,j2⟩
  ·exact ⟨n,Nat.le_refl _,h1,h2,fun k k1 k2 k3=>h ⟨k,k1,k2,k3⟩⟩
theorem pw_mod {a:α} {n:Nat} (h:pw a n=1) (k:Nat):pw a k=pw a (k % n):=by
 conv=>lhs;rw [← Nat.div_add_mod k n]
 rw [pw_add,pw_mul,h,one_pw,one_mul]
theorem ord_dvd {a:α} {n:Nat} (h:Ord a n) {k:Nat}:pw a k=1 ↔ n ∣ k:=by
 constructor
 ·intro e
  rw [pw_mod h.2.1] at e
  by_cases hz:k % n=0
  ·exact Nat.dvd_of_mod_eq_zero hz
  ·exact absurd e (h.2.2 _ (by omega) (Nat.mod_lt _ h.1))
 ·rintro ⟨c,rfl⟩
  rw [pw_mul,h.2.1,one_pw]
theorem ord_unique {a:α} {m n:Nat} (h:Ord a m) (k:Ord a n):m=n:=Nat.dvd_antisymm ((ord_dvd h).1 k.2.1) ((ord_dvd k).1 h.2.1)
theorem ord_one:Ord (1:α) 1:=⟨Nat.le_refl _,pw_one _,fun k h1 h2=>by omega⟩
theorem ord_pw {a:α} {n d:Nat} (h:Ord a (d * n)):Ord (pw a d) n:=by
 have hn:1≤n:=by
  rcases Nat.eq_zero_or_pos n with e | e
  ·have:=h.1;rw [e] at this;omega
  ·exact e
 have hd:1≤d:=by
  rcases Nat.eq_zero_or_pos d with e | e
  ·have:=h.1;rw [e,Nat.zero_mul] at this;omega
  ·exact e
 refine ⟨hn,by rw [← pw_mul];exact h.2.1,fun k k1 k2 e=>?_⟩
 rw [← pw_mul,ord_dvd h] at e
 have:=Nat.le_of_dvd (Nat.mul_pos hd k1) e
 have:=Nat.le_of_mul_le_mul_left this hd
 omega
theorem ord_mul {a b:α} {m n:Nat} (ha:Ord a m) (hb:Ord b n) (hc:Nat.Coprime m n):Ord (a * b) (m * n):=by
 refine ⟨Nat.mul_pos ha.1 hb.1, ?_,fun k k1 k2 e=>?_⟩
 ·rw [mul_pw,pw_mul,ha.2.1,one_pw,one_mul,Nat.mul_comm,pw_mul,hb.2.1,one_pw]
 ·have h1:n ∣ k:=by
   have h:=congrArg (fun x=>pw x m) e
   simp only [one_pw] at h
   rw [← pw_mul,Nat.mul_comm,mul_pw,pw_mul,ha.2.1,one_pw,one_mul,ord_dvd hb] at h
   exact Nat.Coprime.dvd_of_dvd_mul_left hc.symm h
  have h2:m ∣ k:=by
   have h:=congrArg (fun x=>pw x n) e
   simp only [one_pw] at h
   rw [← pw_mul,Nat.mul_comm k n,mul_pw,pw_mul b,hb.2.1,one_pw,mul_one,ord_dvd ha] at h
   exact Nat.Coprime.dvd_of_dvd_mul_left hc h
  have:=Nat.le_of_dvd k1 (Nat.Coprime.mul_dvd_of_dvd_of_dvd hc h2 h1)
  omega
end order
theorem fac_ex:∀ n:Nat,2≤n→∃ r,2≤r∧r ∣ n∧∀ k,2≤k→k ∣ r→k=r:=by
 intro n
 induction n using Nat.strongRecOn with
 | ind n ih =>
  intro h2
  by_cases h:∃ k,2≤k∧k ∣ n∧k ≠ n
  ·obtain ⟨k,k1,k2,k3⟩:=h
   have:=Nat.le_of_dvd (by omega) k2
   obtain ⟨r,r1,r2,r3⟩:=ih k (by omega) k1
   exact ⟨r,r1,Nat.dvd_trans r2 k2,r3⟩
  ·exact ⟨n,h2,Nat.dvd_refl _,fun k k1 k2=>Classical.byContradiction fun e=>h ⟨k,k1,k2,e⟩⟩
theorem ndvd_ex:∀ m n:Nat,1≤m→¬ m ∣ n→∃ d,1≤d∧d ∣ m∧¬ d ∣ n∧∀ e,e ∣ m→e < d→e ∣ n:=by
 intro m n h1 h2
 have key:∀ k,(k ∣ m→¬ k ∣ n→∃ d,d ∣ m∧¬ d ∣ n∧∀ e,e ∣ m→e < d→e ∣ n):=by
  intro k
  induction k using Nat.strongRecOn with
  | ind k ih =>
   intro k1 k2
   by_cases h:∃ e,e ∣ m∧e < k∧¬ e ∣ n
   ·obtain ⟨e,e1,e2,e3⟩:=h
    exact ih e e2 e1 e3
   ·exact ⟨k,k1,k2,fun e e1 e2=>Classical.byContradiction fun e3=>h ⟨e,e1,e2,e3⟩⟩
 obtain ⟨d,d1,d2,d3⟩:=key m (Nat.dvd_refl _) h2
 exact ⟨d,Nat.pos_of_dvd_of_pos d1 h1,d1,d2,d3⟩
theorem cop_ex (m n:Nat) (hm:1≤m) (hn:1≤n) (h:¬ m ∣ n):∃ a b,a ∣ n∧b ∣ m∧Nat.Coprime b a∧n < a * b:=by
 obtain ⟨d,d0,d1,d2,d3⟩:=ndvd_ex m n hm h
 have hd2:2≤d:=by
  rcases Nat.lt_or_ge d 2 with g | g
  ·obtain rfl:d=1:=by omega
   exact absurd (Nat.one_dvd n) d2
  ·exact g
 obtain ⟨p,p1,⟨e,rfl⟩,p3⟩:=fac_ex d hd2
 have he0:1≤e:=by
  rcases Nat.eq_zero_or_pos e with g | g
  ·subst g;simp at d0
  ·exact g
 have hep:e < p * e:=by have:=Nat.mul_le_mul_right e p1;omega
 obtain ⟨n1,hn1⟩:=d3 e (Nat.dvd_trans (Nat.dvd_mul_left _ _) d1) hep
 have hpn:¬ p ∣ n1:=fun ⟨c,hc⟩=>d2 ⟨c,by rw [hn1,hc];ac_rfl⟩
 refine ⟨n1,p * e,⟨e,by rw [hn1,Nat.mul_comm]⟩,d1, ?_, ?_⟩
 ·refine Classical.byContradiction fun hg=>?_
  have hg0:1≤Nat.gcd (p * e) n1:=Nat.gcd_pos_of_pos_left _ d0
  have hg2:2≤Nat.gcd (p * e) n1:=by
   have:Nat.gcd (p * e) n1 ≠ 1:=hg
   omega
  obtain ⟨r,r1,r2,r3⟩:=fac_ex _ hg2
  have rd:r ∣ p * e:=Nat.dvd_trans r2 (Nat.gcd_dvd_left _ _)
  have rn:r ∣ n1:=Nat.dvd_trans r2 (Nat.gcd_dvd_right _ _)
  have hrp:Nat.Coprime r p:=by
   refine Classical.byContradiction fun hc=>?_
   have:1≤Nat.gcd r p:=Nat.gcd_pos_of_pos_left _ (by omega)
   have h2:2≤Nat.gcd r p:=by
    have:Nat.gcd r p ≠ 1:=hc
    omega
   have a1:=r3 _ h2 (Nat.gcd_dvd_left _ _)
   have a2:=p3 _ h2 (Nat.gcd_dvd_right _ _)
   exact hpn (by rw [← a2,a1];exact rn)
  obtain ⟨s,hs⟩:=Nat.Coprime.dvd_of_dvd_mul_left hrp rd
  subst hs
  have hps:p * s ∣ n:=d3 (p * s) (Nat.dvd_trans ⟨r,by ac_rfl⟩ d1) (by
   have h0:1≤p * s:=by
    rcases Nat.eq_zero_or_pos (p * s) with g | g
    ·have:p * (r * s)=r * (p * s):=by ac_rfl
     rw [this,g] at d0
     omega
    ·exact g
   have:=Nat.mul_le_mul_right (p * s) r1
   have e1:p * (r * s)=r * (p * s):=by ac_rfl
   omega)
  obtain ⟨x,hx⟩:=hps
  have hs0:1≤s:=by
   rcases Nat.eq_zero_or_pos s with g | g
   ·subst g;simp at d0
   ·exact g
  have e2:s * (p * x)=s * (r * n1):=by
   rw [hn1] at hx
   have:s * (p * x)=p * s * x:=by ac_rfl
   rw [this,← hx]
   ac_rfl
  have e3:=Nat.eq_of_mul_eq_mul_left hs0 e2
  obtain ⟨c,hc⟩:=Nat.Coprime.dvd_of_dvd_mul_left hrp (⟨n1,e3⟩:r ∣ p * x)
  exact d2 ⟨c,by rw [hx,hc];ac_rfl⟩
 ·have e1:n1 * (p * e)=p * n:=by rw [hn1];ac_rfl
  rw [e1]
  have:=Nat.mul_le_mul_right n p1
  omega
theorem nodup_sub {α:Type}:∀ {l k:List α},l.Nodup→(∀ x ∈ l,x ∈ k)→l.length≤k.length:=by
 intro l
 induction l with
 | nil=>intro k _ _;simp
 | cons x l ih =>
  intro k hl hs
  obtain ⟨s,t,rfl⟩:=List.append_of_mem (hs x (by simp))
  have hl':=List.nodup_cons.1 hl
  have:=ih (k:=s ++ t) hl'.2 fun y hy=>by
   have h1:=hs y (by simp [hy])
   have hne:y ≠ x:=fun e=>hl'.1 (e ▸ hy)
   simp only [List.mem_append,List.mem_cons] at h1 ⊢
   rcases h1 with h | h | h
   ·exact .inl h
   ·exact absurd h hne
   ·exact .inr h
  simp only [List.length_append,List.length_cons] at this ⊢
  omega
section finite
variable {α:Type} [Fd α]
structure All (l:List α):Prop where
 nd:l.Nodup
 all:∀ x,x ∈ l
open Classical in
theorem All.nz {l:List α} (h:All l):∃ k:List α,k.Nodup∧(∀ x,x ∈ k ↔ x ≠ 0)∧k.length + 1=l.length:=by
 obtain ⟨s,t,rfl⟩:=List.append_of_mem (h.all 0)
 have hn:=h.nd
 refine ⟨s ++ t, ?_,fun x=>?_,by simp;omega⟩
 ·rw [List.nodup_append] at hn ⊢
  exact ⟨hn.1,(List.nodup_cons.1 hn.2.1).2,fun a ha b hb=>hn.2.2 a ha b (by simp [hb])⟩
 ·have hx:=h.all x
  rw [List.nodup_append] at hn
  simp only [List.mem_append,List.mem_cons] at hx ⊢
  constructor
  ·rintro h2 rfl
   rcases h2 with h2 | h2
   ·exact hn.2.2 _ h2 _ (by simp) rfl
   ·exact (List.nodup_cons.1 hn.2.1).1 h2
  ·intro h2
   rcases hx with h3 | h3 | h3
   ·exact .inl h3
   ·exact absurd h3 h2
   ·exact .inr h3
theorem pw_inj {a:α} (ha:a ≠ 0) {n i j:Nat} (h:Ord a n) (hi:i < n) (hj:j < n) (e:pw a i=pw a j):i=j:=by
 have key:∀ i j,i≤j→j < n→pw a i=pw a j→i=j:=fun i j hij hj e=>by
  obtain ⟨k,rfl⟩:=Nat.exists_eq_add_of_le hij
  rw [pw_add] at e
  have e2:pw a k=1:=mul_left_cancel (pw_ne ha i) (by rw [← e,mul_one])
  by_cases hk:k=0
  ·omega
  ·exact absurd e2 (h.2.2 k (by omega) (by omega))
 rcases Nat.le_total i j with g | g
 ·exact key i j g hj e
 ·exact (key j i g hi e.symm).symm
theorem ord_ex {l:List α} (hl:All l) {a:α} (ha:a ≠ 0):∃ n,n + 1≤l.length∧Ord a n:=by
 obtain ⟨k,k1,k2,k3⟩:=hl.nz
 by_cases h:∃ n,1≤n∧n≤k.length∧pw a n=1
 ·obtain ⟨n,n1,n2,n3⟩:=h
  obtain ⟨j,j1,j2⟩:=ord_of n n1 n3
  exact ⟨j,by omega,j2⟩
 ·exfalso
  have hnd:((List.range (k.length + 1)).map (pw a)).Nodup:=by
   rw [List.nodup_iff_pairwise_ne,List.pairwise_map]
   refine List.Pairwise.imp_of_mem (R:=fun x y=>x < y) (fun {x y} hx hy hxy e=>?_) List.pairwise_lt_range
   obtain ⟨c,rfl⟩:=Nat.exists_eq_add_of_le (Nat.le_of_lt hxy)
   rw [pw_add] at e
   have e2:pw a c=1:=mul_left_cancel (pw_ne ha x) (by rw [← e,mul_one])
   have:=List.mem_range.1 hy
   exact h ⟨c,by omega,by omega,e2⟩
  have:=nodup_sub hnd (k:=k) fun x hx=>by
   obtain ⟨i,_,rfl⟩:=List.mem_map.1 hx
   exact (k2 _).2 (pw_ne ha i)
  simp at this
  omega
theorem max_ex {p:Nat→Prop} (N:Nat) (h0:∃ n,p n) (hN:∀ n,p n→n≤N):∃ n,p n∧∀ m,p m→m≤n:=by
 induction N with
 | zero =>
  obtain ⟨n,hn⟩:=h0
  have:=hN n hn
  exact ⟨n,hn,fun m hm=>by have:=hN m hm;omega⟩
 | succ N ih =>
  by_cases h:p (N + 1)
  ·exact ⟨_,h,hN⟩
  ·exact ih fun n hn=>by
    have:=hN n hn
    have:n ≠ N + 1:=fun e=>h (e ▸ hn)
    omega
theorem cyclic {l:List α} (hl:All l):∃ g:α,g ≠ 0∧Ord g (l.length - 1):=by
 obtain ⟨n,⟨a,ha,hn⟩,hmax⟩:=max_ex (p:=fun n=>∃ a:α,a ≠ 0∧Ord a n) l.length ⟨1,1,one_ne,ord_one⟩ (fun n ⟨a,ha,hn⟩=>by
  obtain ⟨k,k1,k2⟩:=ord_ex hl ha
  have:=ord_unique hn k2
  omega)
 have hall:∀ b:α,b ≠ 0→pw b n=1:=fun b hb=>by
  obtain ⟨m,m1,m2⟩:=ord_ex hl hb
  refine (ord_dvd m2).2 (Classical.byContradiction fun h=>?_)
  obtain ⟨x,y,⟨x',hx⟩,⟨y',hy⟩,hc,hlt⟩:=cop_ex m n m2.1 hn.1 h
  have o1:Ord (pw a x') x:=ord_pw (by rw [Nat.mul_comm,← hx];exact hn)
  have o2:Ord (pw b y') y:=ord_pw (by rw [Nat.mul_comm,← hy];exact m2)
  have o3:=ord_mul o1 o2 hc.symm
  have:=hmax _ ⟨_,mul_ne (pw_ne ha _) (pw_ne hb _),o3⟩
  omega
 obtain ⟨k,k1,k2,k3⟩:=hl.nz
 have hp:dl (X n - C 1:PS α) (n + 1):=dl_sub (dl_X n) (dl_mono (dl_C 1) (by omega))
 have hp0:(X n - C 1:PS α) ≠ 0:=fun e=>by
  have:=congrArg (fun p:PS α=>p n) e
  simp only [sub_at,X_at,C_at,zero_at,if_pos] at this
  have h1:=hn.1
  rw [if_neg (by omega),sub_zero] at this
  exact one_ne this
 have:=roots_le hp hp0 k1 fun x hx=>by
  rw [ev_sub,ev_X (by omega),ev_C (by omega),hall x ((k2 x).1 hx),sub_self]
 obtain ⟨j,j1,j2⟩:=ord_ex hl ha
 have e:=ord_unique hn j2
 refine ⟨a,ha, ?_⟩
 have:n=l.length - 1:=by omega
 rw [← this]
 exact hn
end finite
end Cw
namespace Cw
open Rg Fd PS
theorem digL_succ {p x:Int} (hp:0 < p) (m:Nat):digL p x (m + 1)=x % p :: digL p (x / p) m:=by
 unfold digL
 rw [List.range_succ_eq_map,List.map_cons,List.map_map,dgt_zero]
 congr 1
 exact List.map_congr_left fun i _=>dgt_succ hp i
theorem valL_digL {p:Int} (hp:0 < p):∀ (m:Nat) (x:Int),0≤x→x < p ^ m→valL p (digL p x m)=x
 | 0,x,h0,h1=>by simp at h1;simp [digL,valL];omega
 | m + 1,x,h0,h1=>by
  rw [digL_succ hp,valL,valL_digL hp m _ (Int.ediv_nonneg h0 (by omega)) (by
   rw [Int.pow_succ] at h1
   exact Int.ediv_lt_of_lt_mul hp h1)]
  have:=Int.mul_ediv_add_emod x p
  omega
theorem digL_valL {p:Int} (hp:0 < p):∀ {l:List Int},Digs p l→digL p (valL p l) l.length=l
 | [],_=>by simp [digL]
 | d :: l,h=>by
  obtain ⟨h1,h2⟩:=h d (by simp)
  rw [List.length_cons,digL_succ hp,valL]
  have e1:(d + p * valL p l) % p=d:=by rw [Int.add_mul_emod_self_left,Int.emod_eq_of_lt h1 h2]
  have e2:(d + p * valL p l) / p=valL p l:=by
   rw [Int.add_mul_ediv_left _ _ (by omega),Int.ediv_eq_zero_of_lt h1 h2,Int.zero_add]
  rw [e1,e2,digL_valL hp (fun x hx=>h x (by simp [hx]))]
theorem dgt_head {P r a:Int} (hP:0 < P) (h0:0≤r) (h1:r < P):dgt P (r + P * a) 0=r∧∀ i,dgt P (r + P * a) (i + 1)=dgt P a i:=by
 refine ⟨by rw [dgt_zero,Int.add_mul_emod_self_left,Int.emod_eq_of_lt h0 h1],fun i=>?_⟩
 rw [dgt_succ hP,Int.add_mul_ediv_left _ _ (by omega),Int.ediv_eq_zero_of_lt h0 h1,Int.zero_add]
theorem dgt_addD {P:Int} (hP:0 < P):∀ (k:Nat) (x y:Int) (i:Nat),i < k→dgt P (addD P k x y) i=(dgt P x i + dgt P y i) % P
 | 0,_,_,i,h=>by omega
 | k + 1,x,y,i,h=>by
  obtain ⟨e1,e2⟩:=dgt_head (P:=P) (r:=(x + y) % P) (a:=addD P k (x / P) (y / P)) hP (Int.emod_nonneg _ (by omega)) (Int.emod_lt_of_pos _ hP)
  rw [addD]
  cases i with
  | zero=>rw [e1,dgt_zero,dgt_zero,← Int.add_emod]
  | succ i=>rw [e2,dgt_addD hP k _ _ i (by omega),dgt_succ hP,dgt_succ hP]
theorem dgt_negD {P:Int} (hP:0 < P):∀ (k:Nat) (x:Int) (i:Nat),i < k→dgt P (negD P k x) i=-(dgt P x i) % P
 | 0,_,i,h=>by omega
 | k + 1,x,i,h=>by
  obtain ⟨e1,e2⟩:=dgt_head (P:=P) (r:=-(x % P) % P) (a:=negD P k (x / P)) hP (Int.emod_nonneg _ (by omega)) (Int.emod_lt_of_pos _ hP)
  rw [negD]
  cases i with
  | zero=>rw [e1,dgt_zero]
  | succ i=>rw [e2,dgt_negD hP k _ i (by omega),dgt_succ hP]
structure FS where
 P:Int
 m:Nat
 mod:List Int
 pr:Prm P
 hm:1≤m
namespace FS
def R (S:FS):PrS:=⟨S.P,S.pr⟩
theorem pos (S:FS):0 < S.P:=by have:=S.pr.1;omega
def pol (S:FS) (l:List Int):PS (Zp S.R):=⟨fun i=>Zp.mk' S.R (l.getD i 0)⟩
theorem pol_at (S:FS) (l:List Int) (i:Nat):S.pol l i=Zp.mk' S.R (l.getD i 0):=rfl
theorem pol_dl (S:FS) {l:List Int} {n:Nat} (h:l.length≤n):dl (S.pol l) n:=fun i hi=>by
 rw [pol_at,List.getD_eq_getElem?_getD,List.getElem?_eq_none (by omega)];rfl
def low (S:FS) (i:Nat):Int:=if 1 < S.m then S.mod.getD i 0 else 0
def mon (S:FS):Mon (Zp S.R) where
 f:=⟨fun i=>if i=S.m then 1 else if i < S.m then Zp.mk' S.R (S.low i) else 0⟩
 m:=S.m
 hf:=fun i hi=>by
  show (if i=S.m then (1:Zp S.R) else if i < S.m then Zp.mk' S.R (S.low i) else 0)=0
  rw [if_neg (by omega),if_neg (by omega)]
 h1:=by
  show (if S.m=S.m then (1:Zp S.R) else if S.m < S.m then Zp.mk' S.R (S.low S.m) else 0)=1
  rw [if_pos rfl]
 hm:=S.hm
theorem mon_at (S:FS) (i:Nat):S.mon.f i=if i=S.m then 1 else if i < S.m then Zp.mk' S.R (S.low i) else 0:=rfl
def el (S:FS) (x:Int):Rs S.mon:=⟨S.pol (digL S.P x S.m),S.pol_dl (by rw [length_digL];exact Nat.le_refl _)⟩
theorem el_at (S:FS) (x:Int) {i:Nat} (h:i < S.m):(S.el x).a i=Zp.mk' S.R (dgt S.P x i):=by
 show Zp.mk' S.R ((digL S.P x S.m).getD i 0)=_
 rw [digL_at h]
theorem el_eq (S:FS) {x:Int} {r:Rs S.mon} (h:∀ i,i < S.m→(r.a i)=Zp.mk' S.R (dgt S.P x i)):S.el x=r:=Rs.ext (PS.ext fun i=>by
 by_cases hi:i < S.m
 ·rw [el_at S x hi,h i hi]
 ·rw [(S.el x).h i (by show S.m≤i;omega),r.h i (by show S.m≤i;omega)])
theorem el_mk (S:FS) {l:List Int} (hd:Digs S.P l) (hl:l.length=S.m):(S.el (valL S.P l)).a=S.pol l:=by
 show S.pol (digL S.P (valL S.P l) S.m)=S.pol l
 rw [← hl,digL_valL S.pos hd]
theorem mk_dig (S:FS) {x:Int} (h0:0≤x) (h1:x < S.P):(Zp.mk' S.R x).v=x:=Int.emod_eq_of_lt h0 h1
theorem el_inj (S:FS) {x y:Int} (hx:0≤x∧x < S.P ^ S.m) (hy:0≤y∧y < S.P ^ S.m) (h:S.el x=S.el y):x=y:=by
 have e:digL S.P x S.m=digL S.P y S.m:=List.ext_getElem (by simp [length_digL]) fun i h1 h2=>by
  rw [length_digL] at h1
  have:=congrArg (fun r:Rs S.mon=>(r.a i).v) h
  simp only [el_at S _ h1] at this
  rw [mk_dig S (dgt_nonneg S.pos i) (dgt_lt S.pos i),mk_dig S (dgt_nonneg S.pos i) (dgt_lt S.pos i)] at this
  simpa [digL] using this
 rw [← valL_digL S.pos S.m x hx.1 hx.2,← valL_digL S.pos S.m y hy.1 hy.2,e]
theorem el_surj (S:FS) (r:Rs S.mon):∃ x,(0≤x∧x < S.P ^ S.m)∧S.el x=r:=by
 obtain ⟨l,hl⟩:∃ l,l=(List.range S.m).map fun i=>(r.a i).v:=⟨_,rfl⟩
 have hd:Digs S.P l:=fun x hx=>by
  rw [hl] at hx
  obtain ⟨i,_,rfl⟩:=List.mem_map.1 hx
  exact ⟨(r.a i).lo,(r.a i).hi⟩
 have hlen:l.length=S.m:=by rw [hl];simp
 have hb:=valL_bd S.pos hd
 rw [hlen] at hb
 refine ⟨valL S.P l,hb,Rs.ext ?_⟩
 rw [el_mk S hd hlen]
 refine PS.ext fun i=>?_
 rw [pol_at,hl]
 by_cases hi:i < S.m
 ·simp only [List.getD_eq_getElem?_getD,List.getElem?_map,List.getElem?_range hi,Option.map_some,Option.getD_some]
  exact Zp.mk_of _
 ·simp only [List.getD_eq_getElem?_getD,List.getElem?_map,List.getElem?_eq_none (show (List.range S.m).length≤i by simp;omega),Option.map_none,Option.getD_none]
  rw [r.h i (by show S.m≤i;omega)]
  rfl
theorem el_zero (S:FS):S.el 0=0:=S.el_eq fun i _=>by
 rw [Rs.zero_a,zero_at]
 simp [dgt,Zp.mk_zero]
theorem el_one (S:FS):S.el 1=1:=S.el_eq fun i _=>by
 rw [Rs.one_a,one_at]
 have h2:=S.pr.1
 cases i with
 | zero=>rw [if_pos rfl,dgt_zero,Int.emod_eq_of_lt (by omega) (by omega)];rfl
 | succ i =>
  rw [if_neg (by omega),dgt_succ S.pos,Int.ediv_eq_zero_of_lt (by omega) (by omega)]
  simp [dgt,Zp.mk_zero]
theorem mk_mod (S:FS) (x:Int):Zp.mk' S.R (x % S.P)=Zp.mk' S.R x:=Zp.mk_eq.2 (Int.emod_emod _ _)
theorem el_add (S:FS) (x y:Int):S.el (addD S.P S.m x y)=S.el x + S.el y:=S.el_eq fun i h=>by
 rw [dgt_addD S.pos _ _ _ _ h,Rs.add_a,add_at,el_at S x h,el_at S y h,Zp.mk_add,mk_mod]
theorem el_neg (S:FS) (x:Int):S.el (negD S.P S.m x)=-S.el x:=S.el_eq fun i h=>by
 rw [dgt_negD S.pos _ _ _ h,Rs.neg_a,neg_at,el_at S x h,Zp.mk_neg,mk_mod]
theorem pol_step (S:FS) {a out:List Int} (bi:Int) (ha:a.length=S.m) (ho:out.length=S.m) :
  S.pol (stepM S.P S.m S.mod a bi out)=X 1 * S.pol out + C (Zp.mk' S.R bi) * S.pol a - C (Zp.mk' S.R (out.getD (S.m - 1) 0)) * S.mon.f:=PS.ext fun i=>by
 have hm:=S.hm
 rw [sub_at,add_at,X_mul_at,C_mul_at,C_mul_at,pol_at,pol_at,mon_at]
 by_cases hi:i < S.m
 ·rw [stepM_at hi,mk_mod,← Zp.mk_add,← Zp.mk_add,← Zp.mk_mul,← Zp.mk_mul,← Zp.mk_sub,if_neg (show ¬ i=S.m by omega),if_pos hi]
  have e:Zp.mk' S.R S.P=0:=Zp.mk_p (R:=S.R)
  rw [e,zero_sub,neg_mul]
  have e2:(Zp.mk' S.R (if i=0 then 0 else out.getD (i - 1) 0))=if i < 1 then 0 else S.pol out (i - 1):=by
   by_cases h0:i=0
   ·rw [if_pos h0,if_pos (by omega)];rfl
   ·rw [if_neg h0,if_neg (by omega)];rfl
  rw [e2]
  show _ + -(_ * Zp.mk' S.R (S.low i)) + _=_
  rw [sub_def]
  ac_rfl
 ·have z:∀ l:List Int,l.length=S.m→Zp.mk' S.R (l.getD i 0)=0:=fun l hl=>by
   rw [List.getD_eq_getElem?_getD,List.getElem?_eq_none (by omega)];rfl
  have za:S.pol a i=0:=z _ ha
  rw [z _ (length_stepM _ _ _ _ _ _),za,mul_zero,add_zero,if_neg (show ¬ i < 1 by omega)]
  by_cases he:i=S.m
  ·rw [if_pos he,mul_one,he,sub_self]
  ·rw [if_neg he,if_neg hi,mul_zero,sub_zero,List.getD_eq_getElem?_getD,List.getElem?_eq_none (by omega)];rfl
def top (S:FS) (b:List Int) (n:Nat):PS (Zp S.R):=⟨fun i=>if i < n then Zp.mk' S.R (b.getD (S.m - n + i) 0) else 0⟩
theorem top_succ (S:FS) (b:List Int) {n:Nat} (h:n < S.m):S.top b (n + 1)=X 1 * S.top b n + C (Zp.mk' S.R (b.getD (S.m - 1 - n) 0)):=PS.ext fun i=>by
 rw [add_at,X_mul_at,C_at]
 show (if i < n + 1 then Zp.mk' S.R (b.getD (S.m - (n + 1) + i) 0) else 0)=(if i < 1 then 0 else if i - 1 < n then Zp.mk' S.R (b.getD (S.m - n + (i - 1)) 0) else 0) + _
 by_cases h0:i=0
 ·rw [if_pos (show i < n + 1 by omega),if_pos (show i < 1 by omega),if_pos h0,zero_add,h0,show S.m - (n + 1) + 0=S.m - 1 - n by omega]
 ·rw [if_neg (show ¬ i < 1 by omega),if_neg h0,add_zero]
  by_cases h1:i < n + 1
  ·rw [if_pos h1,if_pos (by omega),show S.m - (n + 1) + i=S.m - n + (i - 1) by omega]
  ·rw [if_neg h1,if_neg (by omega)]
theorem horn_cg (S:FS) {a b:List Int} (ha:a.length=S.m):∀ n,n≤S.m→Rs.Cg S.mon (S.pol (hornM S.P S.m S.mod a b n)) (S.pol a * S.top b n)
 | 0,_=>by
  have e1:S.pol (hornM S.P S.m S.mod a b 0)=0:=PS.ext fun i=>by
   rw [pol_at,hornM]
   by_cases hi:i < S.m
   ·simp [hi,Zp.mk_zero,zero_at]
   ·rw [List.getD_eq_getElem?_getD,List.getElem?_eq_none (by simp;omega)];rfl
  have e2:S.top b 0=0:=PS.ext fun i=>by
   show (if i < 0 then Zp.mk' S.R (b.getD (S.m - 0 + i) 0) else 0)=0
   rw [if_neg (by omega)]
  rw [e1,e2,mul_zero]
  exact Rs.cg_refl _
 | n + 1,h=>by
  have ih:=horn_cg S (b:=b) ha n (by omega)
  rw [hornM,pol_step S _ ha (length_hornM _ _ _ _ _ _),top_succ S b (by omega),mul_add,sub_def]
  have h1:Rs.Cg S.mon (X 1 * S.pol (hornM S.P S.m S.mod a b n)) (S.pol a * (X 1 * S.top b n)):=by
   have:=Rs.cg_mul_left (F:=S.mon) (X 1) (dl_X 1) ih
   have e:S.pol a * (X 1 * S.top b n)=X 1 * (S.pol a * S.top b n):=by ac_rfl
   rw [e]
   exact this
  have h2:=Rs.cg_mul_left (F:=S.mon) (C (Zp.mk' S.R ((hornM S.P S.m S.mod a b n).getD (S.m - 1) 0))) (dl_C _) Rs.cg_self
  rw [mul_zero] at h2
  have h3:=Rs.cg_neg h2
  rw [neg_zero] at h3
  have:=Rs.cg_add (Rs.cg_add h1 (Rs.cg_refl (C (Zp.mk' S.R (b.getD (S.m - 1 - n) 0)) * S.pol a))) h3
  rw [add_zero,mul_comm (C _) (S.pol a)] at this
  rw [mul_comm (C (Zp.mk' S.R (b.getD (S.m - 1 - n) 0))) (S.pol a)]
  exact this
theorem el_mul (S:FS) (x y:Int):S.el (mulS S.P S.m S.mod x y)=S.el x * S.el y:=by
 refine (Rs.mul_eq ?_).symm
 unfold mulS
 rw [el_mk S (digs_hornM S.pos _ _ _ _ _) (length_hornM _ _ _ _ _ _)]
 have h:=horn_cg S (a:=digL S.P x S.m) (b:=digL S.P y S.m) (length_digL _ _ _) S.m (Nat.le_refl _)
 have e:S.top (digL S.P y S.m) S.m=(S.el y).a:=PS.ext fun i=>by
  show (if i < S.m then Zp.mk' S.R ((digL S.P y S.m).getD (S.m - S.m + i) 0) else 0)=Zp.mk' S.R ((digL S.P y S.m).getD i 0)
  by_cases hi:i < S.m
  ·rw [if_pos hi,Nat.sub_self,Nat.zero_add]
  ·rw [if_neg hi,List.getD_eq_getElem?_getD,List.getElem?_eq_none (by rw [length_digL];omega)];rfl
 rw [e] at h
 exact Rs.cg_symm h
theorem els (S:FS):∃ l:List (Rs S.mon),All l∧l.length=(S.P ^ S.m).toNat:=by
 have hq:0≤S.P ^ S.m:=Int.le_of_lt (Int.pow_pos S.pos)
 refine ⟨(List.range (S.P ^ S.m).toNat).map fun i:Nat=>S.el i,⟨?_,fun r=>?_⟩,by simp⟩
 ·rw [List.nodup_iff_pairwise_ne,List.pairwise_map]
  refine List.Pairwise.imp_of_mem (R:=fun x y=>x < y) (fun {x y} hx hy hxy e=>?_) List.pairwise_lt_range
  have h1:=List.mem_range.1 hx
  have h2:=List.mem_range.1 hy
  have:=S.el_inj ⟨by omega,by omega⟩ ⟨by omega,by omega⟩ e
  omega
 ·obtain ⟨x,hx,e⟩:=S.el_surj r
  exact List.mem_map.2 ⟨x.toNat,List.mem_range.2 (by omega),by rw [Int.toNat_of_nonneg hx.1];exact e⟩
end FS
end Cw
namespace Cw
open Rg Fd PS
def itF (f:Int→Int):Nat→Int
 | 0=>1
 | n + 1=>f (itF f n)
theorem powsF_shape (f:Int→Int):∀ n k,∃ j,k≤j∧j≤k + n∧powsF f n ((List.range (k + 1)).map (itF f)) (itF f (k + 1))=(List.range (j + 1)).map (itF f) ∧
  (j=k + n ∨ itF f (j + 1)=0 ∨ itF f (j + 1) ∈ (List.range (j + 1)).map (itF f))
 | 0,k=>⟨k,Nat.le_refl _,Nat.le_refl _,rfl,.inl rfl⟩
 | n + 1,k=>by
  rw [powsF]
  split
  ·rename_i h
   exact ⟨k,Nat.le_refl _,by omega,rfl,.inr h⟩
  ·obtain ⟨j,h1,h2,h3,h4⟩:=powsF_shape f n (k + 1)
   refine ⟨j,by omega,by omega, ?_, ?_⟩
   ·have e:(List.range (k + 1)).map (itF f) ++ [itF f (k + 1)]=(List.range (k + 1 + 1)).map (itF f):=by
     rw [List.range_succ (n:=k + 1),List.map_append];rfl
    rw [e]
    exact h3
   ·rcases h4 with h | h
    ·exact .inl (by omega)
    ·exact .inr h
namespace FS
theorem q_two (S:FS):2≤S.P ^ S.m:=by
 have h:=pow_le (p:=S.P) (by have:=S.pr.1;omega) S.hm
 have:=S.pr.1
 rw [Int.pow_one] at h
 omega
theorem mul_bd (S:FS) (x y:Int):0≤mulS S.P S.m S.mod x y∧mulS S.P S.m S.mod x y < S.P ^ S.m:=mulS_bd S.pos S.m S.mod x y
def it (S:FS) (x:Int) (i:Nat):Int:=itF (fun y=>mulS S.P S.m S.mod y x) i
theorem it_bd (S:FS) (x:Int) (i:Nat):0≤S.it x i∧S.it x i < S.P ^ S.m:=by
 cases i with
 | zero=>have:=S.q_two;exact ⟨by show (0:Int)≤1;omega,by show 1 < S.P ^ S.m;omega⟩
 | succ i=>exact S.mul_bd _ _
theorem el_it (S:FS) (x:Int) (i:Nat):S.el (S.it x i)=pw (S.el x) i:=by
 induction i with
 | zero=>exact S.el_one
 | succ i ih =>
  rw [pw_succ,← ih]
  exact S.el_mul _ _
theorem it_one (S:FS) {x:Int} (h:0≤x∧x < S.P ^ S.m):S.it x 1=x:=S.el_inj (S.it_bd x 1) h (by rw [el_it,pw_one])
theorem el_ne (S:FS) {x:Int} (h:0≤x∧x < S.P ^ S.m):S.el x=0 ↔ x=0:=⟨fun e=>S.el_inj h ⟨by omega,by have:=S.q_two;omega⟩ (by rw [e,S.el_zero]),fun e=>by rw [e,S.el_zero]⟩
theorem powL_it (S:FS) {x:Int} (h:0≤x∧x < S.P ^ S.m):∃ j,j≤(S.P ^ S.m).toNat∧powL S.P S.m S.mod x=(List.range (j + 1)).map (S.it x) ∧
  (j=(S.P ^ S.m).toNat ∨ S.it x (j + 1)=0 ∨ S.it x (j + 1) ∈ (List.range (j + 1)).map (S.it x)):=by
 obtain ⟨j,h1,h2,h3,h4⟩:=powsF_shape (fun y=>mulS S.P S.m S.mod y x) (S.P ^ S.m).toNat 0
 have e:itF (fun y=>mulS S.P S.m S.mod y x) (0 + 1)=x:=S.it_one h
 rw [e] at h3
 refine ⟨j,by omega,h3, ?_⟩
 rw [Nat.zero_add] at h4
 exact h4
theorem gen_all (S:FS) {x:Int} (h:0≤x∧x < S.P ^ S.m) (hg:IsGen S.P S.m S.mod (S.P ^ S.m).toNat x) :
  pw (S.el x) ((S.P ^ S.m).toNat - 1)=1∧∀ r:Rs S.mon,r ≠ 0→∃ i,i < (S.P ^ S.m).toNat - 1∧r=pw (S.el x) i:=by
 have hq:=S.q_two
 obtain ⟨j,j1,j2,_⟩:=S.powL_it h
 obtain ⟨g1,g2⟩:=hg
 have hj:j + 1=(S.P ^ S.m).toNat - 1:=by rw [j2] at g1;simpa using g1
 have hlast:(powL S.P S.m S.mod x).getD ((S.P ^ S.m).toNat - 2) 0=S.it x j:=by
  rw [j2,List.getD_eq_getElem?_getD,List.getElem?_map,List.getElem?_range (by omega),show (S.P ^ S.m).toNat - 2=j by omega]
  rfl
 rw [hlast] at g2
 have e1:S.it x (j + 1)=1:=g2
 refine ⟨?_,fun r hr=>?_⟩
 ·rw [← hj,← el_it,e1,S.el_one]
 ·obtain ⟨z,hz,rfl⟩:=S.el_surj r
  have hz0:z ≠ 0:=fun e=>hr (by rw [e,S.el_zero])
  have hmem:z ∈ powL S.P S.m S.mod x:=by
   refine Classical.byContradiction fun hn=>?_
   have hnd:(z :: powL S.P S.m S.mod x).Nodup:=List.nodup_cons.2 ⟨hn,powL_nodup _ _ _ _⟩
   have hb:=powL_bd (by have:=S.pr.1;omega) S.hm S.mod h.1 h.2
   have hz2:=powL_nz S.P S.m S.mod x
   have:=nodup_le ((S.P ^ S.m).toNat - 1) (z :: powL S.P S.m S.mod x) 1 hnd fun y hy=>by
    rcases List.mem_cons.1 hy with e | e
    ·subst e;omega
    ·have a1:=hb y e
     have a2:=hz2 y e
     omega
   rw [List.length_cons,g1] at this
   omega
  rw [j2] at hmem
  obtain ⟨i,hi,e⟩:=List.mem_map.1 hmem
  exact ⟨i,by have:=List.mem_range.1 hi;omega,by rw [← e,el_it]⟩
theorem gen_irr (S:FS) {x:Int} (h:0≤x∧x < S.P ^ S.m) (hg:IsGen S.P S.m S.mod (S.P ^ S.m).toNat x):Rs.Irr S.mon:=by
 intro g d h1 h2 h3 h4 h5
 obtain ⟨a,b,ha,hb,hab⟩:=Rs.zero_div h1 h2 h3 h4 h5
 obtain ⟨e1,e2⟩:=S.gen_all h hg
 obtain ⟨i,hi,rfl⟩:=e2 a ha
 obtain ⟨j,hj,rfl⟩:=e2 b hb
 rw [← pw_add] at hab
 have:pw (S.el x) (i + j + (((S.P ^ S.m).toNat - 1) * 2 - (i + j)))=0:=by rw [pw_add,hab,zero_mul]
 rw [show i + j + (((S.P ^ S.m).toNat - 1) * 2 - (i + j))=((S.P ^ S.m).toNat - 1) * 2 by omega,pw_mul,e1,one_pw] at this
 exact Rs.one_ne' this
def imon (S:FS) (hi:Rs.Irr S.mon):IMon (Zp S.R):=⟨S.mon,hi⟩
theorem irr_gen (S:FS) (hi:Rs.Irr S.mon):∃ x,1≤x∧x < S.P ^ S.m∧IsGen S.P S.m S.mod (S.P ^ S.m).toNat x:=by
 have hq:=S.q_two
 obtain ⟨l,l1,l2⟩:=S.els
 obtain ⟨g,g0,g1⟩:∃ g:Rs S.mon,g ≠ 0∧Ord g (l.length - 1):=by
  obtain ⟨g,g0,g1⟩:=cyclic (α:=Rs (S.imon hi).F) l1
  exact ⟨g,g0,g1⟩
 obtain ⟨x,hx,hxg⟩:=S.el_surj g
 have hx0:x ≠ 0:=fun e=>g0 (by rw [← hxg,e,S.el_zero])
 rw [l2] at g1
 have hw:∀ i,S.el (S.it x i)=pw g i:=fun i=>by rw [el_it,hxg]
 have hne:∀ i,pw g i ≠ 0:=fun i=>pw_ne (α:=Rs (S.imon hi).F) g0 i
 obtain ⟨j,j1,j2,j3⟩:=S.powL_it hx
 have hnd:=powL_nodup S.P S.m S.mod x
 have hle:(powL S.P S.m S.mod x).length≤(S.P ^ S.m).toNat - 1:=by
  have hb:=powL_bd (by have:=S.pr.1;omega) S.hm S.mod hx.1 hx.2
  have hz2:=powL_nz S.P S.m S.mod x
  exact nodup_le ((S.P ^ S.m).toNat - 1) _ 1 hnd fun y hy=>by
   have a1:=hb y hy
   have a2:=hz2 y hy
   omega
 have hlen:(powL S.P S.m S.mod x).length=j + 1:=by rw [j2];simp
 have hj:j + 1=(S.P ^ S.m).toNat - 1:=by
  rcases j3 with e | e | e
  ·omega
  ·have:=hw (j + 1)
   rw [e,S.el_zero] at this
   exact absurd this.symm (hne _)
  ·obtain ⟨i,hir,e2⟩:=List.mem_map.1 e
   have hi':=List.mem_range.1 hir
   have e3:pw g i=pw g (j + 1):=by rw [← hw,← hw,e2]
   rcases Nat.lt_or_ge (j + 1) ((S.P ^ S.m).toNat - 1) with h | h
   ·have:=pw_inj (α:=Rs (S.imon hi).F) g0 g1 (i:=i) (j:=j + 1) (by omega) h e3
    omega
   ·omega
 refine ⟨x,by omega,hx.2,by rw [hlen,hj], ?_⟩
 have hlast:(powL S.P S.m S.mod x).getD ((S.P ^ S.m).toNat - 2) 0=S.it x j:=by
  rw [j2,List.getD_eq_getElem?_getD,List.getElem?_map,List.getElem?_range (by omega),show (S.P ^ S.m).toNat - 2=j by omega]
  rfl
 rw [hlast]
 refine S.el_inj (S.mul_bd _ _) ⟨by omega,by omega⟩ ?_
 rw [S.el_mul,hw,hxg,← pw_succ,S.el_one,hj]
 exact g1.2.1
/-! ### Divisors,as the reference finds them. -/
def mo (S:FS) (low:List Int):PS (Zp S.R):=S.pol low + X low.length
theorem mo_dl (S:FS) (low:List Int):dl (S.mo low) (low.length + 1):=dl_add (dl_mono (S.pol_dl (Nat.le_refl _)) (by omega)) (dl_X _)
theorem mo_top (S:FS) (low:List Int):S.mo low low.length=1:=by
 have:=S.pol_dl (l:=low) (Nat.le_refl _) low.length (Nat.le_refl _)
 unfold mo
 rw [add_at,this,zero_add,X_at,if_pos rfl]
theorem pol_row (S:FS) {low r:List Int} {i:Nat} (hi:i < r.length) (hd:low.length≤i) :
  S.pol (divRow S.P low i r)=S.pol r - C (Zp.mk' S.R (r.getD i 0)) * (X (i - low.length) * S.mo low):=PS.ext fun k=>by
 rw [sub_at,C_mul_at,X_mul_at,pol_at]
 by_cases hk:k < r.length
 ·rw [divRow_at hk]
  by_cases e:k=i
  ·rw [if_pos e,e,if_neg (by omega),show i - (i - low.length)=low.length by omega,mo_top,mul_one,pol_at,sub_self];rfl
  ·rw [if_neg e]
   by_cases h1:i - low.length≤k∧k < i
   ·rw [if_pos h1,if_neg (by omega),mk_mod,← Zp.mk_add,← Zp.mk_mul,← Zp.mk_sub]
    have e0:Zp.mk' S.R S.P=0:=Zp.mk_p (R:=S.R)
    rw [e0,zero_sub,neg_mul,← sub_def]
    unfold mo
    rw [add_at,X_at,if_neg (by omega),add_zero]
    rfl
   ·rw [if_neg h1]
    by_cases h2:k < i - low.length
    ·rw [if_pos h2,mul_zero,sub_zero];rfl
    ·rw [if_neg h2,S.mo_dl low _ (by omega),mul_zero,sub_zero];rfl
 ·have z:∀ l:List Int,l.length=r.length→Zp.mk' S.R (l.getD k 0)=0:=fun l hl=>by
   rw [List.getD_eq_getElem?_getD,List.getElem?_eq_none (by omega)];rfl
  have zr:S.pol r k=0:=z _ rfl
  rw [z _ (length_divRow _ _ _ _),zr,zero_sub]
  by_cases h2:k < i - low.length
  ·omega
  ·rw [if_neg h2,S.mo_dl low _ (by omega),mul_zero,neg_zero]
theorem pol_divF (S:FS) {low r:List Int}:∀ n,n≤r.length - low.length→(∃ q k,dl q k∧S.pol r=q * S.mo low + S.pol (divF S.P low r n))∧∀ i,r.length - n≤i→(divF S.P low r n).getD i 0=0
 | 0,_=>⟨⟨0,0,dl_zero _,by rw [zero_mul,zero_add];rfl⟩,fun i hi=>by rw [divF,List.getD_eq_getElem?_getD,List.getElem?_eq_none (by omega)];rfl⟩
 | n + 1,h=>by
  obtain ⟨⟨q,k,hq,e⟩,hz⟩:=pol_divF S (low:=low) (r:=r) n (by omega)
  have hl:=length_divF S.P low r n
  have hrow:=S.pol_row (low:=low) (r:=divF S.P low r n) (i:=r.length - 1 - n) (by omega) (by omega)
  refine ⟨⟨q + C (Zp.mk' S.R ((divF S.P low r n).getD (r.length - 1 - n) 0)) * X (r.length - 1 - n - low.length),k + (r.length - 1 - n - low.length + 1),
   dl_add (dl_mono hq (by omega)) (dl_Cmul _ (dl_mono (dl_X _) (by omega))), ?_⟩,fun i hi=>?_⟩
  ·rw [divF,hrow,e,add_mul]
   generalize S.pol (divF S.P low r n)=y
   generalize C (Zp.mk' S.R ((divF S.P low r n).getD (r.length - 1 - n) 0))=c
   rw [sub_def,mul_assoc c]
   generalize c * (X (r.length - 1 - n - low.length) * S.mo low)=z
   have:q * S.mo low + z + (y + -z)=q * S.mo low + y + (z + -z):=by ac_rfl
   rw [this,add_neg,add_zero]
  ·by_cases hi2:i < r.length
   ·rw [divF,divRow_at (by omega)]
    by_cases e1:i=r.length - 1 - n
    ·rw [if_pos e1]
    ·rw [if_neg e1,if_neg (by omega)]
     exact hz i (by omega)
   ·rw [List.getD_eq_getElem?_getD,List.getElem?_eq_none (by rw [length_divF];omega)];rfl
theorem divP_iff (S:FS) {low mod:List Int} (hd:Digs S.P mod) (hl:low.length≤mod.length):DivP S.P low mod ↔ Dv (S.mo low) (S.mo mod):=by
 have er:S.pol (mod ++ [1])=S.mo mod:=PS.ext fun i=>by
  unfold mo
  rw [add_at,X_at,pol_at,pol_at]
  rcases Nat.lt_trichotomy i mod.length with h | h | h
  ·rw [if_neg (by omega),add_zero];simp [List.getD,List.getElem?_append_left h]
  ·subst h;rw [if_pos rfl];simp [List.getD,Zp.mk_zero,Zp.mk_one,zero_add]
  ·rw [if_neg (by omega),add_zero]
   rw [List.getD_eq_getElem?_getD,List.getD_eq_getElem?_getD,List.getElem?_eq_none (by simp;omega),List.getElem?_eq_none (by omega)]
 have hdr:Digs S.P (mod ++ [1]):=fun x hx=>by
  have:=S.pr.1
  rcases List.mem_append.1 hx with h | h
  ·exact hd x h
  ·rw [List.mem_singleton.1 h];omega
 have hlen:(mod ++ [1]).length=mod.length + 1:=by simp
 obtain ⟨⟨q,k,hq,e⟩,hz⟩:=S.pol_divF (low:=low) (r:=mod ++ [1]) (mod.length + 1 - low.length) (by rw [hlen];exact Nat.le_refl _)
 rw [er] at e
 have hdg:=digs_divF S.pos (low:=low) hdr (mod.length + 1 - low.length)
 unfold DivP
 constructor
 ·intro h
  refine ⟨q,k,hq, ?_⟩
  have:S.pol (divF S.P low (mod ++ [1]) (mod.length + 1 - low.length))=0:=PS.ext fun i=>by
   rw [pol_at]
   have h0:(divF S.P low (mod ++ [1]) (mod.length + 1 - low.length)).getD i 0=0:=by
    by_cases hi:i < (divF S.P low (mod ++ [1]) (mod.length + 1 - low.length)).length
    ·simp only [List.getD_eq_getElem?_getD,List.getElem?_eq_getElem hi,Option.getD_some]
     exact h _ (List.getElem_mem _)
    ·rw [List.getD_eq_getElem?_getD,List.getElem?_eq_none (by omega)];rfl
   rw [h0];rfl
  rw [e,this,add_zero]
 ·rintro ⟨q',k',hq',e'⟩ x hx
  obtain ⟨i,hi,rfl⟩:=List.getElem_of_mem hx
  have hrd:dl (S.pol (divF S.P low (mod ++ [1]) (mod.length + 1 - low.length))) low.length:=fun j hj=>by
   rw [pol_at,hz j (by rw [hlen];omega)];rfl
  have hu:=div_unique (S.mo_dl low) (by rw [mo_top];exact one_ne) hq hq' hrd (dl_zero _) (by rw [← e,add_zero];exact e')
  have:=congrArg (fun p:PS (Zp S.R)=>(p i).v) hu.2
  simp only [pol_at,zero_at] at this
  have hb:=digs_at S.pos hdg i
  rw [mk_dig S hb.1 hb.2] at this
  simp only [List.getD_eq_getElem?_getD,List.getElem?_eq_getElem hi,Option.getD_some] at this
  rw [this]
  exact Zp.zero_v
theorem mon_mo (S:FS) (h1:1 < S.m) (hl:S.mod.length=S.m):S.mon.f=S.mo S.mod:=PS.ext fun i=>by
 unfold mo
 rw [mon_at,add_at,X_at,pol_at,hl]
 by_cases h:i=S.m
 ·rw [if_pos h,if_pos h,List.getD_eq_getElem?_getD,List.getElem?_eq_none (by omega)]
  show 1=Zp.mk' S.R 0 + 1
  rw [Zp.mk_zero,zero_add]
 ·rw [if_neg h,if_neg h,add_zero]
  by_cases h2:i < S.m
  ·rw [if_pos h2];unfold low;rw [if_pos h1]
  ·rw [if_neg h2,List.getD_eq_getElem?_getD,List.getElem?_eq_none (by omega)];rfl
theorem mo_ex (S:FS) {g:PS (Zp S.R)} {d:Nat} (h1:dl g (d + 1)) (h2:g d=1):∃ v:Nat,(v:Int) < S.P ^ d∧g=S.mo (digL S.P v d):=by
 obtain ⟨l,hl⟩:∃ l,l=(List.range d).map fun i=>(g i).v:=⟨_,rfl⟩
 have hd:Digs S.P l:=fun x hx=>by
  rw [hl] at hx
  obtain ⟨i,_,rfl⟩:=List.mem_map.1 hx
  exact ⟨(g i).lo,(g i).hi⟩
 have hlen:l.length=d:=by rw [hl];simp
 have hb:=valL_bd S.pos hd
 rw [hlen] at hb
 obtain ⟨v,hv⟩:=Int.eq_ofNat_of_zero_le hb.1
 refine ⟨v,by rw [← hv];exact hb.2, ?_⟩
 have e:digL S.P v d=l:=by
  have e1:=digL_valL S.pos hd
  rw [hlen,hv] at e1
  exact e1
 rw [e]
 refine PS.ext fun i=>?_
 unfold mo
 rw [add_at,X_at,pol_at,hlen]
 rcases Nat.lt_trichotomy i d with h | h | h
 ·rw [if_neg (by omega),add_zero,hl]
  simp only [List.getD_eq_getElem?_getD,List.getElem?_map,List.getElem?_range h,Option.map_some,Option.getD_some]
  exact (Zp.mk_of _).symm
 ·rw [if_pos h,h,h2,List.getD_eq_getElem?_getD,List.getElem?_eq_none (by omega)]
  show 1=Zp.mk' S.R 0 + 1
  rw [Zp.mk_zero,zero_add]
 ·rw [if_neg (by omega),add_zero,h1 i (by omega),List.getD_eq_getElem?_getD,List.getElem?_eq_none (by omega)];rfl
theorem irr_iff (S:FS) (h1:1 < S.m) (hl:S.mod.length=S.m) (hd:Digs S.P S.mod):IrrP S.P S.mod ↔ Rs.Irr S.mon:=by
 have hf:=S.mon_mo h1 hl
 constructor
 ·intro h
  have key:∀ (g:PS (Zp S.R)) (d:Nat),1≤d→2 * d≤S.m→dl g (d + 1)→g d=1→¬ Dv g S.mon.f:=fun g d d1 d2 g1 g2 g3=>by
   obtain ⟨v,hv,rfl⟩:=S.mo_ex g1 g2
   refine h d d1 (by omega) v hv ((S.divP_iff hd (by rw [length_digL];omega)).2 ?_)
   rw [← hf]
   exact g3
  intro g d d1 d2 g1 g2 g3
  by_cases hdd:2 * d≤S.m
  ·exact key g d d1 hdd g1 g2 g3
  ·have d2':d < S.m:=d2
   obtain ⟨q,n,hq,e⟩:=g3
   have hq0:q ≠ 0:=fun h=>Rs.hne S.mon (by rw [e,h,zero_mul,zero_at])
   obtain ⟨k,_,k1,k2⟩:=deg_ex hq hq0
   have t:=mul_top k1 g1
   rw [← e,g2,mul_one] at t
   have hk:k + d=S.m:=by
    rcases Nat.lt_trichotomy (k + d) S.m with h | h | h
    ·have:=dl_mul' (k:=k + d + 1) k1 g1 (by omega)
     rw [← e] at this
     exact absurd (this S.m (by omega)) (Rs.hne S.mon)
    ·exact h
    ·rw [S.mon.hf (k + d) (by show S.m + 1≤k + d;omega)] at t
     exact absurd t.symm k2
   rw [hk] at t
   have t':q k=1:=by rw [← t];exact S.mon.h1
   exact key q k (by omega) (by omega) k1 t' ⟨g,_,g1,by rw [e,mul_comm]⟩
 ·intro h d d1 d2 v hv hdv
  have:=(S.divP_iff hd (by rw [length_digL];omega)).1 hdv
  rw [← hf] at this
  have hlen:(digL S.P v d).length=d:=length_digL _ _ _
  have m1:=S.mo_dl (digL S.P v d)
  have m2:=S.mo_top (digL S.P v d)
  rw [hlen] at m1 m2
  exact h _ d d1 (by show d < S.m;omega) m1 m2 this
end FS
def fsOf (P M:Int) (mod:List Int) (h:ShapeP P M mod):FS:=⟨P,M.toNat,mod,h.2.1,by have:=ordS_pos h.1;omega⟩
theorem field_irr {P M:Int} {mod:List Int} (h:ShapeP P M mod):FieldP P M mod ↔ Rs.Irr (fsOf P M mod h).mon:=by
 obtain ⟨o1,o2,o3,o4,o5,o6⟩:=ordS_pos h.1
 constructor
 ·rintro ⟨_,x,h1,h2,h3⟩
  rw [o6] at h2 h3
  exact (fsOf P M mod h).gen_irr (x:=x) ⟨by omega,h2⟩ h3
 ·intro hi
  obtain ⟨x,h1,h2,h3⟩:=(fsOf P M mod h).irr_gen hi
  exact ⟨h,x,h1,by rw [o6];exact h2,by rw [o6];exact h3⟩
theorem field_check (P M:Int) (mod:List Int):FieldP P M mod ↔ CheckP P M mod:=by
 constructor
 ·intro hf
  refine ⟨hf.1,fun hM=>?_⟩
  obtain ⟨o1,o2,o3,o4,o5,o6⟩:=ordS_pos hf.1.1
  obtain ⟨s1,s2⟩:=hf.1.2.2.2 hM
  exact ((fsOf P M mod hf.1).irr_iff (by show 1 < M.toNat;omega) (by show mod.length=M.toNat;omega) s2).2 ((field_irr hf.1).1 hf)
 ·rintro ⟨hs,hi⟩
  obtain ⟨o1,o2,o3,o4,o5,o6⟩:=ordS_pos hs.1
  rw [field_irr hs]
  by_cases hM:M=1
  ·intro g d d1 d2
   have:d < M.toNat:=d2
   omega
  ·obtain ⟨s1,s2⟩:=hs.2.2.2 hM
   exact ((fsOf P M mod hs).irr_iff (by show 1 < M.toNat;omega) (by show mod.length=M.toNat;omega) s2).1 (hi hM)
end Cw
namespace Cw
open Rg Fd PS
namespace Tabs
variable {G:GFd}
def fs (h:Tabs G):FS:=fsOf G.P G.M G.mod h.shape
theorem qe (h:Tabs G):G.q=h.fs.P ^ h.fs.m:=h.qb.2.2.2.2.2.2
theorem field (h:Tabs G):FieldP G.P G.M G.mod:=by
 obtain ⟨x,h1,h2,h3,_⟩:=h.gen
 refine ⟨h.shape,x,h1,by rw [← h.hq];exact h2,by rw [← h.hq];exact h3⟩
theorem irr (h:Tabs G):Rs.Irr h.fs.mon:=(field_irr h.shape).1 h.field
def e (h:Tabs G) (x:Int):Rs h.fs.mon:=h.fs.el (inn G.q x)
theorem ib (h:Tabs G) (x:Int):0≤inn G.q x∧inn G.q x < h.fs.P ^ h.fs.m:=by
 rw [← h.qe];exact inn_bd (by have:=h.qb;omega) x
theorem e_inj (h:Tabs G) {x y:Int} (k:h.e x=h.e y):inn G.q x=inn G.q y:=h.fs.el_inj (h.ib x) (h.ib y) k
theorem e_eq (h:Tabs G) {x y:Int} (hx:0≤x∧x < G.q) (hy:0≤y∧y < G.q) (k:h.e x=h.e y):x=y:=by
 have:=h.e_inj k
 rwa [inn_yes hx,inn_yes hy] at this
theorem e_of (h:Tabs G) {x:Int} (hx:0≤x∧x < G.q):h.e x=h.fs.el x:=by unfold e;rw [inn_yes hx]
theorem e_inn (h:Tabs G) (x:Int):h.e (inn G.q x)=h.e x:=by unfold e;rw [inn_inn (by have:=h.qb;omega)]
theorem e_zero (h:Tabs G):h.e 0=0:=by rw [h.e_of ⟨by omega,by have:=h.qb;omega⟩,FS.el_zero]
theorem e_one (h:Tabs G):h.e 1=1:=by rw [h.e_of ⟨by omega,by have:=h.qb;omega⟩,FS.el_one]
theorem e_nz (h:Tabs G) {x:Int}:h.e x=0 ↔ inn G.q x=0:=h.fs.el_ne (h.ib x)
theorem add_bd (h:Tabs G) (x y:Int):0≤addG G x y∧addG G x y < G.q:=by
 rw [h.qe];exact addD_bd h.fs.pos h.fs.m _ _
theorem neg_bd (h:Tabs G) (x:Int):0≤negG G x∧negG G x < G.q:=by
 rw [h.qe];exact negD_bd h.fs.pos h.fs.m _
theorem e_add (h:Tabs G) (x y:Int):h.e (addG G x y)=h.e x + h.e y:=by
 rw [h.e_of (h.add_bd x y)]
 exact h.fs.el_add _ _
theorem e_neg (h:Tabs G) (x:Int):h.e (negG G x)=-h.e x:=by
 rw [h.e_of (h.neg_bd x)]
 exact h.fs.el_neg _
theorem genE (h:Tabs G):∃ g:Rs h.fs.mon,pw g (G.q.toNat - 1)=1∧(∀ i,i < G.exp.length→h.e (G.exp.getD i 0)=pw g i):=by
 obtain ⟨x,h1,h2,h3,h4⟩:=h.gen
 have hq:=h.qe
 have hx:0≤x∧x < h.fs.P ^ h.fs.m:=⟨by omega,by rw [← hq];exact h2⟩
 rw [hq] at h3
 obtain ⟨g1,_⟩:=h.fs.gen_all hx h3
 obtain ⟨j,j1,j2,_⟩:=h.fs.powL_it hx
 have j2':G.exp=(List.range (j + 1)).map (h.fs.it x):=h4.trans j2
 refine ⟨h.fs.el x,by rw [hq];exact g1,fun i hi=>?_⟩
 rw [j2'] at hi
 have hi':i < j + 1:=by simpa using hi
 have e1:G.exp.getD i 0=h.fs.it x i:=by
  rw [j2',List.getD_eq_getElem?_getD,List.getElem?_map,List.getElem?_range hi'];rfl
 rw [e1,h.e_of (by have:=h.fs.it_bd x i;rw [← hq] at this;exact this),FS.el_it]
theorem exp_bd (h:Tabs G) (i:Int):0≤expG G i∧expG G i < G.q∧expG G i ≠ 0:=by
 obtain ⟨q1,q2,_⟩:=h.qb
 have hl:=h.elen
 have m0:=Int.emod_nonneg i (show G.q - 1 ≠ 0 by omega)
 have m1:=Int.emod_lt_of_pos i (show 0 < G.q - 1 by omega)
 have hi:(i % (G.q - 1)).toNat < G.exp.length:=by omega
 unfold expG
 have:=h.ebd (G.exp.getD (i % (G.q - 1)).toNat 0) (by simp only [List.getD,List.getElem?_eq_getElem hi,Option.getD_some];exact List.getElem_mem _)
 omega
theorem mul_bd (h:Tabs G) (x y:Int):0≤mulG G x y∧mulG G x y < G.q:=by
 unfold mulG
 split
 ·have:=h.qb;omega
 ·have:=h.exp_bd (logG G (inn G.q x) + logG G (inn G.q y));omega
theorem e_exp (h:Tabs G):∃ g:Rs h.fs.mon,pw g (G.q.toNat - 1)=1∧(∀ i:Int,0≤i→h.e (expG G i)=pw g i.toNat)∧(∀ x,inn G.q x ≠ 0→0≤logG G (inn G.q x)∧logG G (inn G.q x) < G.q - 1∧h.e x=pw g (logG G (inn G.q x)).toNat):=by
 obtain ⟨g,g1,g2⟩:=h.genE
 obtain ⟨q1,q2,_⟩:=h.qb
 have hl:=h.elen
 refine ⟨g,g1,fun i hi=>?_,fun x hx=>?_⟩
 ·have m0:=Int.emod_nonneg i (show G.q - 1 ≠ 0 by omega)
  have m1:=Int.emod_lt_of_pos i (show 0 < G.q - 1 by omega)
  unfold expG
  rw [g2 _ (by omega),pw_mod g1 i.toNat]
  congr 1
  obtain ⟨n,rfl⟩:=Int.eq_ofNat_of_zero_le hi
  have:G.q - 1=((G.q.toNat - 1:Nat):Int):=by omega
  rw [this,← Int.natCast_emod,Int.toNat_natCast,Int.toNat_natCast]
 ·have hb:=inn_bd (q:=G.q) (by omega) x
  obtain ⟨i,i1,i2,i3⟩:=h.logOf (z:=inn G.q x) (by omega) hb.2
  have e1:logG G (inn G.q x)=i:=i3
  rw [e1]
  refine ⟨by omega,by omega, ?_⟩
  rw [← h.e_inn,← i2,g2 i i1]
  simp
theorem e_mul (h:Tabs G) (x y:Int):h.e (mulG G x y)=h.e x * h.e y:=by
 unfold mulG
 by_cases hz:inn G.q x=0 ∨ inn G.q y=0
 ·rw [if_pos hz,e_zero]
  rcases hz with hz | hz
  ·rw [h.e_nz.2 hz,zero_mul]
  ·rw [h.e_nz.2 hz,mul_zero]
 ·rw [if_neg hz]
  obtain ⟨g,g1,g2,g3⟩:=h.e_exp
  obtain ⟨a0,a1,a2⟩:=g3 x (fun e=>hz (.inl e))
  obtain ⟨b0,b1,b2⟩:=g3 y (fun e=>hz (.inr e))
  rw [g2 _ (by omega),a2,b2,← pw_add]
  congr 1
  omega
theorem mul_mulS (h:Tabs G) (x y:Int):mulG G x y=mulS G.P G.M.toNat G.mod (inn G.q x) (inn G.q y):=by
 have hb:=h.fs.mul_bd (inn G.q x) (inn G.q y)
 rw [← h.qe] at hb
 have hb:0≤mulS G.P G.M.toNat G.mod (inn G.q x) (inn G.q y)∧mulS G.P G.M.toNat G.mod (inn G.q x) (inn G.q y) < G.q:=hb
 refine h.e_eq (h.mul_bd x y) hb ?_
 rw [h.e_mul,h.e_of hb]
 exact (h.fs.el_mul _ _).symm
theorem add_comm (h:Tabs G) (x y:Int):addG G x y=addG G y x:=h.e_eq (h.add_bd _ _) (h.add_bd _ _) (by rw [e_add,e_add,Rg.add_comm])
theorem mul_comm (h:Tabs G) (x y:Int):mulG G x y=mulG G y x:=h.e_eq (h.mul_bd _ _) (h.mul_bd _ _) (by rw [e_mul,e_mul,Rg.mul_comm])
theorem add_assoc (h:Tabs G) (x y z:Int):addG G (addG G x y) z=addG G x (addG G y z):=h.e_eq (h.add_bd _ _) (h.add_bd _ _) (by rw [e_add,e_add,e_add,e_add,Rg.add_assoc])
theorem mul_assoc (h:Tabs G) (x y z:Int):mulG G (mulG G x y) z=mulG G x (mulG G y z):=h.e_eq (h.mul_bd _ _) (h.mul_bd _ _) (by rw [e_mul,e_mul,e_mul,e_mul,Rg.mul_assoc])
theorem mul_add (h:Tabs G) (x y z:Int):mulG G x (addG G y z)=addG G (mulG G x y) (mulG G x z):=h.e_eq (h.mul_bd _ _) (h.add_bd _ _) (by rw [e_mul,e_add,e_add,e_mul,e_mul,Rg.mul_add])
theorem add_zero (h:Tabs G) (x:Int):addG G x 0=inn G.q x:=h.e_eq (h.add_bd _ _) (inn_bd (by have:=h.qb;omega) x) (by rw [e_add,e_zero,Rg.add_zero,e_inn])
theorem mul_one (h:Tabs G) (x:Int):mulG G x 1=inn G.q x:=h.e_eq (h.mul_bd _ _) (inn_bd (by have:=h.qb;omega) x) (by rw [e_mul,e_one,Rg.mul_one,e_inn])
end Tabs
end Cw
namespace Cw
open Rg Fd PS
section finite
variable {α:Type} [Fd α]
end finite
end Cw
namespace Cw
open Rg Fd PS
namespace Zp
variable {R:PrS}
theorem all (R:PrS):∃ l:List (Zp R),All l∧l.length=R.p.toNat:=by
 have h2:=R.two
 refine ⟨(List.range R.p.toNat).map fun i:Nat=>mk' R i,⟨?_,fun a=>?_⟩,by simp⟩
 ·rw [List.nodup_iff_pairwise_ne,List.pairwise_map]
  refine List.Pairwise.imp_of_mem (R:=fun x y=>x < y) (fun {x y} hx hy hxy e=>?_) List.pairwise_lt_range
  have h1:=List.mem_range.1 hx
  have h2:=List.mem_range.1 hy
  have:=mk_eq.1 e
  rw [Int.emod_eq_of_lt (by omega) (by omega),Int.emod_eq_of_lt (by omega) (by omega)] at this
  omega
 ·have h0:=a.lo
  have h1:=a.hi
  exact List.mem_map.2 ⟨a.v.toNat,List.mem_range.2 (by omega),by rw [Int.toNat_of_nonneg h0,mk_of]⟩
end Zp
namespace FS
end FS
namespace Tabs
variable {G:GFd}
end Tabs
end Cw
namespace Cw
open Rg Fd PS
namespace Tabs
variable {G:GFd}
end Tabs
end Cw
namespace Cw
open Rg Fd PS
namespace FS
theorem getD_none {l:List Int} {i:Nat} (h:l.length≤i):l.getD i 0=0:=by rw [List.getD_eq_getElem?_getD,List.getElem?_eq_none h];rfl
theorem pol_set (S:FS) {c:List Int} {i:Nat} (x:Int) (h:i < c.length):S.pol (c.set i (x % S.P))=S.pol c + C (Zp.mk' S.R x - Zp.mk' S.R (c.getD i 0)) * X i:=PS.ext fun k=>by
 rw [add_at,C_mul_at,X_at,pol_at,pol_at]
 by_cases e:k=i
 ·subst e
  rw [if_pos rfl,mul_one,List.getD,List.getElem?_set_self h,Option.getD_some,mk_mod]
  rw [sub_def]
  have:Zp.mk' S.R (c.getD k 0) + (Zp.mk' S.R x + -Zp.mk' S.R (c.getD k 0))=Zp.mk' S.R x + (Zp.mk' S.R (c.getD k 0) + -Zp.mk' S.R (c.getD k 0)):=by ac_rfl
  rw [this,add_neg,add_zero]
 ·rw [if_neg e,mul_zero,add_zero,List.getD,List.getElem?_set_ne (fun h=>e h.symm)];rfl
theorem pol_cvStep (S:FS) (a b:List Int) {i j:Nat} {c:List Int} (h:i + j < c.length):S.pol (cvStep S.P a b i j c)=S.pol c + C (S.pol a i) * X i * (C (S.pol b j) * X j):=by
 unfold cvStep
 rw [pol_set S _ h,← Zp.mk_add,← Zp.mk_mul]
 have e:Zp.mk' S.R (c.getD (i + j) 0) + Zp.mk' S.R (a.getD i 0) * Zp.mk' S.R (b.getD j 0) - Zp.mk' S.R (c.getD (i + j) 0)=S.pol a i * S.pol b j:=by
  rw [add_comm,add_sub_cancel];rfl
 rw [e,C_mul,X_add]
 congr 1
 ac_rfl
theorem pol_cvRow (S:FS) (a b:List Int) {i:Nat} {c:List Int}:∀ n,i + n≤c.length→S.pol (cvRow S.P a b i c n)=S.pol c + C (S.pol a i) * X i * sm n (fun j=>C (S.pol b j) * X j)
 | 0,_=>by rw [cvRow,sm_zero,mul_zero,add_zero]
 | n + 1,h=>by rw [cvRow,pol_cvStep S a b (by rw [length_cvRow];omega),pol_cvRow S a b n (by omega),sm_succ,mul_add,add_assoc]
theorem pol_cvAll (S:FS) {a b:List Int} {c:List Int} (hb:b.length≤S.m):∀ n,n + S.m≤c.length + 1→S.pol (cvAll S.P S.m a b c n)=S.pol c + sm n (fun i=>C (S.pol a i) * X i) * S.pol b
 | 0,_=>by rw [cvAll,sm_zero,zero_mul,add_zero]
 | n + 1,h=>by
  rw [cvAll,pol_cvRow S a b S.m (by rw [length_cvAll];omega),pol_cvAll S hb n (by omega),← sum_X (S.pol_dl hb),sm_succ,add_mul,add_assoc]
theorem pol_zeros (S:FS) (n:Nat):S.pol (List.replicate n 0)=0:=PS.ext fun i=>by
 rw [pol_at,zero_at]
 by_cases h:i < n
 ·simp [h,Zp.mk_zero]
 ·rw [getD_none (by simp;omega)];rfl
theorem pol_conv (S:FS) {a b:List Int} (ha:a.length≤S.m) (hb:b.length≤S.m):S.pol (cvAll S.P S.m a b (List.replicate (2 * S.m - 1) 0) S.m)=S.pol a * S.pol b:=by
 have hm:=S.hm
 rw [pol_cvAll S hb S.m (by simp;omega),pol_zeros,zero_add,← sum_X (S.pol_dl ha)]
theorem rdRow_at (p:Int) {m:Nat} (mod:List Int) {i:Nat} (c:List Int) (hmi:m≤i) (hi:i < c.length) {k:Nat} (hk:k < c.length):∀ n,n≤m →
  (rdRow p m mod i c n).getD k 0=if i - m≤k∧k < i - m + n then (c.getD k 0 + (p - c.getD i 0) * mod.getD (k - (i - m)) 0) % p else c.getD k 0
 | 0,_=>by rw [if_neg (by omega)];rfl
 | n + 1,h=>by
  have ih:=rdRow_at p mod c hmi hi hk n (by omega)
  have ii:(rdRow p m mod i c n).getD i 0=c.getD i 0:=by
   rw [rdRow_at p mod c hmi hi hi n (by omega),if_neg (by omega)]
  rw [rdRow,rdStep]
  by_cases e:i - m + n=k
  ·rw [if_neg (by omega)] at ih
   rw [if_pos (by omega),List.getD,e,List.getElem?_set_self (by rw [length_rdRow];exact hk),Option.getD_some,ii,ih,show k - (i - m)=n by omega]
  ·rw [List.getD,List.getElem?_set_ne e]
   by_cases h2:i - m≤k∧k < i - m + n
   ·rw [if_pos h2] at ih;rw [if_pos (by omega)];exact ih
   ·rw [if_neg h2] at ih;rw [if_neg (by omega)];exact ih
theorem take_at (c:List Int) (n i:Nat):(c.take n).getD i 0=if i < n then c.getD i 0 else 0:=by
 by_cases h:i < n
 ·rw [if_pos h,List.getD,List.getElem?_take_of_lt h];rfl
 ·rw [if_neg h,getD_none (by simp;omega)]
theorem pol_rdRow (S:FS) {i:Nat} {c:List Int} (h1:1 < S.m) (hmi:S.m≤i) (hi:i < c.length) :
  S.pol ((rdRow S.P S.m S.mod i c S.m).take i)=S.pol (c.take (i + 1)) - C (S.pol c i) * (X (i - S.m) * S.mon.f):=PS.ext fun k=>by
 rw [sub_at,C_mul_at,X_mul_at,pol_at,pol_at,take_at,take_at,mon_at]
 rcases Nat.lt_trichotomy k i with h | h | h
 ·rw [if_pos h,if_pos (by omega),rdRow_at S.P S.mod c hmi hi (by omega) S.m (Nat.le_refl _)]
  by_cases h2:k < i - S.m
  ·rw [if_neg (by omega),if_pos h2,mul_zero,sub_zero]
  ·rw [if_pos (by omega),if_neg h2,if_neg (by omega),if_pos (by omega),mk_mod,← Zp.mk_add,← Zp.mk_mul,← Zp.mk_sub]
   have e0:Zp.mk' S.R S.P=0:=Zp.mk_p (R:=S.R)
   rw [e0,zero_sub,neg_mul,← sub_def]
   unfold low
   rw [if_pos h1]
   rfl
 ·subst h
  rw [if_neg (by omega),if_pos (by omega),if_neg (by omega),if_pos (by omega),mul_one,pol_at,sub_self];rfl
 ·rw [if_neg (by omega),if_neg (by omega),if_neg (by omega),if_neg (by omega),if_neg (by omega),mul_zero,sub_zero]
theorem cg_rdAll (S:FS) {c:List Int} (hc:c.length=2 * S.m - 1):∀ n,n≤S.m - 1→Rs.Cg S.mon (S.pol ((rdAll S.P S.m S.mod c n).take (2 * S.m - 1 - n))) (S.pol c)
 | 0,_=>by
  rw [rdAll,List.take_of_length_le (by omega)]
  exact Rs.cg_refl _
 | n + 1,h=>by
  have ih:=cg_rdAll S hc n (by omega)
  rw [rdAll,show 2 * S.m - 1 - (n + 1)=2 * S.m - 2 - n by omega,pol_rdRow S (by omega) (by omega) (by rw [length_rdAll];omega),show 2 * S.m - 2 - n + 1=2 * S.m - 1 - n by omega]
  refine Rs.cg_trans ?_ ih
  have h2:=Rs.cg_mul_left (F:=S.mon) (C (S.pol (rdAll S.P S.m S.mod c n) (2 * S.m - 2 - n)) * X (2 * S.m - 2 - n - S.m)) (dl_Cmul _ (dl_X _)) Rs.cg_self
  rw [mul_zero,mul_assoc] at h2
  have h3:=Rs.cg_add (Rs.cg_refl (S.pol ((rdAll S.P S.m S.mod c n).take (2 * S.m - 1 - n)))) (Rs.cg_neg h2)
  rw [neg_zero,add_zero,← sub_def] at h3
  exact h3
theorem el_rMul (S:FS) (x y:Int):S.el (valL S.P (rMulL S.P S.m S.mod (digL S.P x S.m) (digL S.P y S.m)))=S.el x * S.el y:=by
 have hm:=S.hm
 refine (Rs.mul_eq (Rs.cg_symm ?_)).symm
 rw [el_mk S (rMulL_digs S.pos _ _ _ _) (rMulL_len _ _ _ _ _ hm)]
 have h:=cg_rdAll S (c:=cvAll S.P S.m (digL S.P x S.m) (digL S.P y S.m) (List.replicate (2 * S.m - 1) 0) S.m) (by rw [length_cvAll,List.length_replicate]) (S.m - 1) (Nat.le_refl _)
 rw [show 2 * S.m - 1 - (S.m - 1)=S.m by omega,pol_conv S (by rw [length_digL];exact Nat.le_refl _) (by rw [length_digL];exact Nat.le_refl _)] at h
 exact h
theorem rMul_mulS (S:FS) (x y:Int):valL S.P (rMulL S.P S.m S.mod (digL S.P x S.m) (digL S.P y S.m))=mulS S.P S.m S.mod x y:=by
 have hb:=valL_bd S.pos (rMulL_digs S.pos S.m S.mod (digL S.P x S.m) (digL S.P y S.m))
 rw [rMulL_len _ _ _ _ _ S.hm] at hb
 exact S.el_inj hb (S.mul_bd x y) (by rw [el_rMul,el_mul])
end FS
theorem valL_adL {P:Int} (hP:0 < P) (m:Nat) (x y:Int):valL P (adL P (digL P x m) (digL P y m) m)=addD P m x y:=by
 have hd:Digs P (adL P (digL P x m) (digL P y m) m):=digs_adL hP _ (digs_digL hP m) m
 have hl:(adL P (digL P x m) (digL P y m) m).length=m:=by rw [length_adL,length_digL]
 obtain ⟨b0,b1⟩:=addD_bd hP m x y
 have e:adL P (digL P x m) (digL P y m) m=digL P (addD P m x y) m:=List.ext_getElem (by rw [hl,length_digL]) fun i h1 h2=>by
  have hi:i < m:=by omega
  have k1:=adL_at P (digL P x m) (digL P y m) m i (by rw [length_digL];exact hi)
  rw [if_pos hi,digL_at hi,digL_at hi,← dgt_addD hP m x y i hi] at k1
  simp only [List.getD,List.getElem?_eq_getElem h1,Option.getD_some] at k1
  rw [k1]
  simp [digL]
 rw [e,valL_digL hP m _ b0 b1]
theorem valL_ngL {P:Int} (hP:0 < P) (m:Nat) (x:Int):valL P (ngL P (digL P x m) m)=negD P m x:=by
 have hl:(ngL P (digL P x m) m).length=m:=by rw [length_ngL,length_digL]
 obtain ⟨b0,b1⟩:=negD_bd hP m x
 have e:ngL P (digL P x m) m=digL P (negD P m x) m:=List.ext_getElem (by rw [hl,length_digL]) fun i h1 h2=>by
  have hi:i < m:=by omega
  have k1:=ngL_at P (digL P x m) m i (by rw [length_digL];exact hi)
  have k2:(P - dgt P x i) % P=-dgt P x i % P:=by rw [show P - dgt P x i=-dgt P x i + P * 1 by omega,Int.add_mul_emod_self_left]
  rw [if_pos hi,digL_at hi,k2,← dgt_negD hP m x i hi] at k1
  simp only [List.getD,List.getElem?_eq_getElem h1,Option.getD_some] at k1
  rw [k1]
  simp [digL]
 rw [e,valL_digL hP m _ b0 b1]
end Cw
namespace Cw
open Rg Fd PS
namespace Tabs
variable {G:GFd}
end Tabs
namespace Tabs
variable {G:GFd}
end Tabs
end Cw
namespace Cw
open Rg Fd PS
namespace Tabs
variable {G:GFd}
end Tabs
end Cw
namespace Cw
open Rg Fd PS
noncomputable instance fdR {G:GFd} (h:Tabs G):Fd (Rs h.fs.mon):=inferInstanceAs (Fd (Rs (h.fs.imon h.irr).F))
namespace Tabs
variable {G:GFd}
end Tabs
end Cw
namespace Cw
open Rg Fd PS
namespace Tabs
variable {G:GFd}
end Tabs
end Cw
namespace Cw
open Rg Fd PS
namespace Tabs
variable {G:GFd}
end Tabs
theorem field2:FieldP 2 1 []:=(field_check 2 1 []).2 ⟨⟨by decide,⟨by omega,fun d h1 h2=>by omega⟩,fun _=>rfl,fun h=>absurd rfl h⟩,fun h=>absurd rfl h⟩
end Cw
namespace Cw
open Rg Fd PS
namespace Tabs
variable {G:GFd}
end Tabs
end Cw
