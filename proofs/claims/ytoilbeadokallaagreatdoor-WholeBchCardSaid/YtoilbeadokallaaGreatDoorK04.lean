/- Lemmas on the way to the row. Conditions: each lemma's own, stated with it. -/
import Derived.Test.YtoilbeadokallaaGreatDoorK01
namespace Cw
class Rg (α:Type) extends Zero α,One α,Add α,Mul α,Neg α,Sub α where
 add_assoc:∀ a b c:α,a+b+c=a+(b+c)
 add_comm:∀ a b:α,a+b=b+a
 add_zero:∀ a:α,a+0=a
 add_neg:∀ a:α,a+ -a=0
 sub_def:∀ a b:α,a-b=a+ -b
 mul_assoc:∀ a b c:α,a*b*c=a*(b*c)
 mul_comm:∀ a b:α,a*b=b*a
 mul_one:∀ a:α,a*1=a
 mul_add:∀ a b c:α,a*(b+c)=a*b+a*c
namespace Rg
variable {α:Type} [Rg α]
instance:Std.Associative (α:=α) (· + ·):=⟨add_assoc⟩
instance:Std.Commutative (α:=α) (· + ·):=⟨add_comm⟩
instance:Std.Associative (α:=α) (· * ·):=⟨mul_assoc⟩
instance:Std.Commutative (α:=α) (· * ·):=⟨mul_comm⟩
theorem zero_add (a:α):0+a=a:=by rw[add_comm,add_zero]
theorem neg_add (a:α):-a+a=0:=by rw[add_comm,add_neg]
theorem one_mul (a:α):1*a=a:=by rw[mul_comm,mul_one]
theorem add_mul (a b c:α):(a+b)*c=a*c+b*c:=by rw[mul_comm,mul_add,mul_comm c a,mul_comm c b]
theorem add_left_cancel {a b c:α} (h:a+b=a+c):b=c:=by
 have:=congrArg (fun x=>-a+x) h;simpa[<-add_assoc,neg_add,zero_add] using this
theorem kJ {a b:α} (h:a+b=0):b=-a:=add_left_cancel (a:=a) (by rw[h,add_neg])
theorem neg_neg (a:α):- -a=a:=(kJ (neg_add a)).symm
theorem neg_zero:-(0:α)=0:=(kJ (add_zero 0)).symm
theorem mul_zero (a:α):a*0=0:=add_left_cancel (a:=a*0) (by rw[<-mul_add,add_zero,add_zero])
theorem zero_mul (a:α):0*a=0:=by rw[mul_comm,mul_zero]
theorem mul_neg (a b:α):a* -b=-(a*b):=kJ (by rw[<-mul_add,add_neg,mul_zero])
theorem neg_mul (a b:α):-a*b=-(a*b):=by rw[mul_comm,mul_neg,mul_comm]
theorem iL (a b:α):-(a+b)=-a+ -b:=(kJ (by
 have:a+b+(-a+ -b)=(a+ -a)+(b+ -b):=by ac_rfl
 rw[this,add_neg,add_neg,add_zero])).symm
theorem sub_self (a:α):a-a=0:=by rw[sub_def,add_neg]
theorem sub_zero (a:α):a-0=a:=by rw[sub_def,neg_zero,add_zero]
theorem zero_sub (a:α):0-a=-a:=by rw[sub_def,zero_add]
theorem sub_add_cancel (a b:α):a-b+b=a:=by rw[sub_def,add_assoc,neg_add,add_zero]
theorem add_sub_cancel (a b:α):a+b-b=a:=by rw[sub_def,add_assoc,add_neg,add_zero]
theorem sub_eq_zero {a b:α} (h:a-b=0):a=b:=by
 have:=congrArg (· +b) h;simpa[sub_add_cancel,zero_add] using this
theorem sub_eq {a b c:α} (h:a=c+b):a-b=c:=by rw[h,add_sub_cancel]
theorem mul_sub (a b c:α):a*(b-c)=a*b-a*c:=by rw[sub_def,mul_add,mul_neg,<-sub_def]
theorem sub_mul (a b c:α):(a-b)*c=a*c-b*c:=by rw[sub_def,add_mul,neg_mul,<-sub_def]
theorem neg_sub (a b:α):-(a-b)=b-a:=by rw[sub_def,iL,neg_neg,add_comm,<-sub_def]
def pw (a:α):Nat->α
 |0=>1
 |n+1=>pw a n*a
theorem lN (a:α):pw a 0=1:=rfl
theorem fH (a:α) (n:Nat):pw a (n+1)=pw a n*a:=rfl
theorem BL (a:α):pw a 1=a:=by rw[fH,lN,one_mul]
theorem kK (a:α) (m n:Nat):pw a (m+n)=pw a m*pw a n:=by
 induction n with
 |zero=>simp[lN,mul_one]
 |succ n ih=>rw[<-rV,fH,ih,fH,mul_assoc]
theorem gK (a:α) (m n:Nat):pw a (m*n)=pw (pw a m) n:=by
 induction n with
 |zero=>simp[lN]
 |succ n ih=>rw[Nat.mul_succ,kK,ih,fH]
theorem nT (n:Nat):pw (1:α) n=1:=by
 induction n with
 |zero=>rfl
 |succ n ih=>rw[fH,ih,mul_one]
theorem QD (a b:α) (n:Nat):pw (a*b) n=pw a n*pw b n:=by
 induction n with
 |zero=>simp[lN,mul_one]
 |succ n ih=>rw[fH,ih,fH,fH];ac_rfl
theorem aaW {n:Nat} (h:n≠0):pw (0:α) n=0:=by
 cases n with
 |zero=>exact absurd rfl h
 |succ n=>rw[fH,mul_zero]
def sm:Nat->(Nat->α)->α
 |0,_=>0
 |n+1,f=>sm n f+f n
theorem iF (f:Nat->α):sm 0 f=0:=rfl
theorem aY (n:Nat) (f:Nat->α):sm (n+1) f=sm n f+f n:=rfl
theorem aX {n:Nat} {f g:Nat->α} (h:∀ i,i<n->f i=g i):sm n f=sm n g:=by
 induction n with
 |zero=>rfl
 |succ n ih=>rw[aY,aY,ih (fun i hi=>h i (by omega)),h n (by omega)]
theorem bH {n:Nat} {f:Nat->α} (h:∀ i,i<n->f i=0):sm n f=0:=by
 induction n with
 |zero=>rfl
 |succ n ih=>rw[aY,ih (fun i hi=>h i (by omega)),h n (by omega),add_zero]
theorem Ah (n:Nat) (f g:Nat->α):sm n (fun i=>f i+g i)=sm n f+sm n g:=by
 induction n with
 |zero=>simp[iF,add_zero]
 |succ n ih=>rw[aY,aY,aY,ih];ac_rfl
theorem ZB (n:Nat) (f:Nat->α):sm n (fun i=>-f i)=-sm n f:=by
 induction n with
 |zero=>simp[iF,neg_zero]
 |succ n ih=>rw[aY,aY,ih,iL]
theorem MJ (n:Nat) (f g:Nat->α):sm n (fun i=>f i-g i)=sm n f-sm n g:=by
 rw[sub_def,<-ZB,<-Ah];exact aX fun i _=>sub_def _ _
theorem jr (a:α) (n:Nat) (f:Nat->α):a*sm n f=sm n (fun i=>a*f i):=by
 induction n with
 |zero=>simp[iF,mul_zero]
 |succ n ih=>rw[aY,mul_add,ih,aY]
theorem Ig (a:α) (n:Nat) (f:Nat->α):sm n f*a=sm n (fun i=>f i*a):=by
 rw[mul_comm,jr];exact aX fun i _=>mul_comm _ _
theorem Fg (n:Nat) (f:Nat->α):sm (n+1) f=f 0+sm n (fun i=>f (i+1)):=by
 induction n with
 |zero=>simp[aY,iF,add_zero,zero_add]
 |succ n ih=>rw[aY,ih,aY,add_assoc]
theorem Fh (m n:Nat) (f:Nat->α):sm (m+n) f=sm m f+sm n (fun i=>f (m+i)):=by
 induction n with
 |zero=>simp[iF,add_zero]
 |succ n ih=>rw[<-rV,aY,ih,aY,add_assoc]
theorem adZ (n:Nat) (f:Nat->α):sm n f=sm n (fun i=>f (n-1-i)):=by
 induction n with
 |zero=>rfl
 |succ n ih=>
  rw[aY,Fg,ih,add_comm];congr 1;exact aX fun i _=>by congr 1;omega
theorem QE (m n:Nat) (f:Nat->Nat->α):sm m (fun i=>sm n (f i))=sm n (fun j=>sm m (fun i=>f i j)):=by
 induction m with
 |zero=>simp only[iF];exact(bH fun _ _=>rfl).symm
 |succ m ih=>simp only[aY,Ah,ih]
theorem kL {n k:Nat} (hk:k<n) {f:Nat->α} (h:∀ i,i<n->i≠k->f i=0):sm n f=f k:=by
 induction n with
 |zero=>omega
 |succ n ih=>
  rw[aY];by_cases e:k=n
  ·subst e;rw[bH (fun i hi=>h i (by omega) (by omega)),zero_add]
  ·rw[ih (by omega) (fun i hi hk=>h i (by omega) hk),h n (by omega) (by omega),add_zero]
theorem MK {m n:Nat} (hm:m<=n) {f:Nat->α} (h:∀ i,m<=i->i<n->f i=0):sm n f=sm m f:=by
 obtain⟨k,rfl⟩:=wU hm;rw[Fh,bH (n:=k) (fun i hi=>h _ (by omega) (by omega)),add_zero]
theorem ad1 (n:Nat) (f:Nat->Nat->α):sm (n+1) (fun k=>sm (k+1) (fun i=>f i (k-i)))=sm (n+1) (fun i=>sm (n-i+1) (f i)):=by
 induction n with
 |zero=>simp[aY,iF]
 |succ n ih=>
  rw[aY,ih];have e1:sm (n+1+1) (fun i=>sm (n+1-i+1) (f i))=sm (n+1) (fun i=>sm (n-i+1) (f i)+f i (n+1-i))+sm (0+1) (f (n+1)):=by
   rw[aY];congr 1
   ·exact aX fun i hi=>by rw[show n+1-i+1=(n-i+1)+1 by omega,aY,show n-i+1=n+1-i by omega]
   ·rw[show n+1- (n+1)+1=0+1 by omega]
  rw[e1,Ah,aY (n+1)];simp only[aY,iF,uH,zero_add]
  ac_rfl
end Rg
class Fd (α:Type) extends Rg α where
 inv:α->α
 jI:∀ a:α,a≠0->a*inv a=1
 dO:(1:α)≠0
namespace Fd
open Rg
variable {α:Type} [Fd α]
theorem inv_mul {a:α} (h:a≠0):inv a*a=1:=by rw[mul_comm,jI a h]
theorem mul_left_cancel {a b c:α} (h:a≠0) (e:a*b=a*c):b=c:=by
 have:=congrArg (fun x=>inv a*x) e;simpa[<-mul_assoc,inv_mul h,one_mul] using this
theorem mul_right_cancel {a b c:α} (h:a≠0) (e:b*a=c*a):b=c:=by
 rw[mul_comm b,mul_comm c] at e;exact mul_left_cancel h e
theorem jU {a b:α} (ha:a≠0) (hb:b≠0):a*b≠0:=fun h=>hb (mul_left_cancel ha (by rw[h,mul_zero]))
theorem mul_eq_zero {a b:α} (h:a*b=0):a=0∨b=0:=by
 by_cases ha:a=0
 ·exact .inl ha
 ·by_cases hb:b=0
  ·exact .inr hb
  ·exact absurd h (jU ha hb)
theorem QF {a:α} (h:a≠0):inv a≠0:=fun e=>dO (by rw[<-jI a h,e,mul_zero])
theorem Fj {a:α} (h:a≠0) (n:Nat):pw a n≠0:=by
 induction n with
 |zero=>exact dO
 |succ n ih=>rw[fH];exact jU ih h
theorem oM {a b:α} (h:a*b=1):b=inv a:=by
 have ha:a≠0:=fun e=>dO (by rw[<-h,e,zero_mul]);exact mul_left_cancel ha (by rw[h,jI a ha])
end Fd
end Cw
namespace Cw
open Rg
structure PS (α:Type) where
 co:Nat->α
namespace PS
instance {α:Type}:CoeFun (PS α) (fun _=>Nat->α):=⟨PS.co⟩
theorem ext {α:Type} {a b:PS α} (h:∀ i,a i=b i):a=b:=by cases a;cases b;exact congrArg PS.mk (funext h)
section ring
variable {α:Type} [Rg α]
def C (c:α):PS α:=⟨fun i=>if i=0 then c else 0⟩
def X (n:Nat):PS α:=⟨fun i=>if i=n then 1 else 0⟩
instance:Zero (PS α):=⟨⟨fun _=>0⟩⟩
instance:One (PS α):=⟨C 1⟩
instance:Add (PS α):=⟨fun a b=>⟨fun i=>a i+b i⟩⟩
instance:Neg (PS α):=⟨fun a=>⟨fun i=>-a i⟩⟩
instance:Sub (PS α):=⟨fun a b=>⟨fun i=>a i-b i⟩⟩
instance:Mul (PS α):=⟨fun a b=>⟨fun n=>sm (n+1) (fun i=>a i*b (n-i))⟩⟩
theorem jh (i:Nat):(0:PS α) i=0:=rfl
theorem BM (i:Nat):(1:PS α) i=if i=0 then 1 else 0:=rfl
theorem jJ (a b:PS α) (i:Nat):(a+b) i=a i+b i:=rfl
theorem ML (a:PS α) (i:Nat):(-a) i=-a i:=rfl
theorem Ai (a b:PS α) (i:Nat):(a-b) i=a i-b i:=rfl
theorem kM (a b:PS α) (n:Nat):(a*b) n=sm (n+1) (fun i=>a i*b (n-i)):=rfl
theorem Hr (c:α) (i:Nat):(C c:PS α) i=if i=0 then c else 0:=rfl
theorem DZ (n i:Nat):(X n:PS α) i=if i=n then 1 else 0:=rfl
theorem dJ (c:α) (a:PS α) (n:Nat):(C c*a:PS α) n=c*a n:=by
 rw[kM,kL (k:=0) (by omega) (fun i _ h=>by rw[Hr,zx h,zero_mul]),Hr,zu rfl,Nat.sub_zero]
theorem iG (k:Nat) (a:PS α) (n:Nat):(X k*a:PS α) n=if n<k then 0 else a (n-k):=by
 rw[kM]
 split
 ·exact bH fun i hi=>by rw[DZ,zx (by omega),zero_mul]
 ·rw[kL (k:=k) (by omega) (fun i _ h=>by rw[DZ,zx h,zero_mul]),DZ,zu rfl,one_mul]
theorem Ih (a b:PS α):a*b=b*a:=ext fun n=>by
 rw[kM,kM,adZ];exact aX fun i hi=>by rw[mul_comm,show n+1-1-i=n-i by omega,show n- (n-i)=i by omega]
theorem Ot (a b c:PS α):a*b*c=a*(b*c):=ext fun n=>by
 rw[kM,kM];have e1:sm (n+1) (fun k=>(a*b) k*c (n-k))=sm (n+1) (fun k=>sm (k+1) (fun i=>(fun i j=>a i*b j*c (n-i-j)) i (k-i))):=
  aX fun k hk=>by
   rw[kM,Ig];exact aX fun i hi=>by simp only[];rw[show n-i- (k-i)=n-k by omega]
 rw[e1,ad1 n (fun i j=>a i*b j*c (n-i-j))];exact aX fun i hi=>by
  rw[kM,jr];exact aX fun j hj=>by rw[mul_assoc]
instance:Rg (PS α) where
 add_assoc a b c:=ext fun i=>add_assoc _ _ _
 add_comm a b:=ext fun i=>add_comm _ _
 add_zero a:=ext fun i=>add_zero _
 add_neg a:=ext fun i=>add_neg _
 sub_def a b:=ext fun i=>sub_def _ _
 mul_assoc:=Ot
 mul_comm:=Ih
 mul_one a:=by
  rw[Ih];exact ext fun i=>by
   show(C 1*a:PS α) i=a i;rw[dJ,one_mul]
 mul_add a b c:=ext fun n=>by
  rw[jJ,kM,kM,kM,<-Ah];exact aX fun i _=>mul_add _ _ _
theorem sm_at (n:Nat) (f:Nat->PS α) (i:Nat):(sm n f) i=sm n (fun j=>f j i):=by
 induction n with
 |zero=>rfl
 |succ n ih=>rw[aY,jJ,ih,aY]
theorem ad2:(C 0:PS α)=0:=ext fun i=>by rw[Hr,jh];split<;>rfl
theorem ahh:(C 1:PS α)=1:=rfl
theorem ahi (a b:α):(C (a+b):PS α)=C a+C b:=ext fun i=>by rw[jJ,Hr,Hr,Hr];split<;>simp[add_zero]
theorem Ou (a b:α):(C (a*b):PS α)=C a*C b:=ext fun i=>by rw[dJ,Hr,Hr];split<;>simp[mul_zero]
theorem ad3 (a:α):(C (-a):PS α)=-C a:=ext fun i=>by rw[ML,Hr,Hr];split<;>simp[neg_zero]
theorem aaX (m n:Nat):(X (m+n):PS α)=X m*X n:=ext fun i=>by
 rw[iG,DZ,DZ];by_cases h:i<m
 ·rw[zu h,zx (by omega)]
 ·rw[zx h];by_cases h2:i=m+n
  ·rw[zu h2,zu (by omega)]
  ·rw[zx h2,zx (by omega)]
def dl (a:PS α) (n:Nat):Prop:=∀ i,n<=i->a i=0
theorem bM {a:PS α} {m n:Nat} (h:dl a m) (hm:m<=n):dl a n:=fun i hi=>h i (by omega)
theorem jZ (n:Nat):dl (0:PS α) n:=fun _ _=>rfl
theorem kN {a:PS α} (h:dl a 0):a=0:=ext fun i=>h i (by omega)
theorem qN {a b:PS α} {n:Nat} (ha:dl a n) (hb:dl b n):dl (a+b) n:=fun i hi=>by rw[jJ,ha i hi,hb i hi,add_zero]
theorem Et {a:PS α} {n:Nat} (ha:dl a n):dl (-a) n:=fun i hi=>by rw[ML,ha i hi,neg_zero]
theorem nC {a b:PS α} {n:Nat} (ha:dl a n) (hb:dl b n):dl (a-b) n:=by rw[sub_def];exact qN ha (Et hb)
theorem QG (c:α):dl (C c) 1:=fun i hi=>by rw[Hr,zx (by omega)]
theorem QH:dl (1:PS α) 1:=QG 1
theorem Ov (n:Nat):dl (X n:PS α) (n+1):=fun i hi=>by rw[DZ,zx (by omega)]
theorem BN {a b:PS α} {m n:Nat} (ha:dl a m) (hb:dl b n):dl (a*b) (m+n-1):=fun i hi=>by
 rw[kM];refine bH fun j hj=>?_;by_cases h:m<=j
 ·rw[ha j h,zero_mul]
 ·by_cases h2:n<=i-j
  ·rw[hb _ h2,mul_zero]
  ·omega
theorem BO {a b:PS α} {m n k:Nat} (ha:dl a m) (hb:dl b n) (hk:m+n<=k+1):dl (a*b) k:=bM (BN ha hb) (by omega)
theorem qj {a:PS α} {n:Nat} (c:α) (ha:dl a n):dl (C c*a) n:=fun i hi=>by rw[dJ,ha i hi,mul_zero]
theorem JZ {a:PS α} {n:Nat} (k:Nat) (ha:dl a n):dl (X k*a) (k+n):=fun i hi=>by
 rw[iG,zx (by omega),ha _ (by omega)]
theorem ahj {n k:Nat} {f:Nat->PS α} (h:∀ i,i<n->dl (f i) k):dl (sm n f) k:=by
 induction n with
 |zero=>exact jZ k
 |succ n ih=>rw[aY];exact qN (ih fun i hi=>h i (by omega)) (h n (by omega))
theorem yj {a b:PS α} {m n:Nat} (ha:dl a (m+1)) (hb:dl b (n+1)):(a*b) (m+n)=a m*b n:=by
 rw[kM,kL (k:=m) (by omega) (fun i hi h=>?_),show m+n-m=n by omega];by_cases h2:m+1<=i
 ·rw[ha i h2,zero_mul]
 ·rw[hb _ (by omega),mul_zero]
theorem Fp {a:PS α} {n:Nat} (h:dl a (n+1)) (h0:a n=0):dl a n:=fun i hi=>by
 by_cases e:i=n
 ·rw[e,h0]
 ·exact h i (by omega)
theorem Ox {a:PS α} {n:Nat} (h:dl a n):a=sm n (fun i=>C (a i)*X i):=ext fun k=>by
 rw[sm_at];by_cases hk:k<n
 ·rw[kL hk (fun i _ hi=>by rw[dJ,DZ,zx (by omega),mul_zero]),dJ,DZ,zu rfl,mul_one]
 ·rw[h k (by omega),bH fun i hi=>by rw[dJ,DZ,zx (by omega),mul_zero]]
def ev (n:Nat) (a:PS α) (x:α):α:=sm n (fun i=>a i*pw x i)
theorem WQ {m n:Nat} {a:PS α} (x:α) (hm:dl a m) (hn:dl a n):ev m a x=ev n a x:=by
 have key:∀ {m n},m<=n->dl a m->ev n a x=ev m a x:=fun h hm=>MK h fun i hi _=>by rw[hm i hi,zero_mul]
 rcases Nat.le_total m n with h|h
 ·exact(key h hm).symm
 ·exact key h hn
theorem pV (n:Nat) (a b:PS α) (x:α):ev n (a+b) x=ev n a x+ev n b x:=by
 unfold ev;rw[<-Ah];exact aX fun i _=>by rw[jJ,add_mul]
theorem QI (n:Nat) (a:PS α) (x:α):ev n (-a) x=-ev n a x:=by
 unfold ev;rw[<-ZB];exact aX fun i _=>by rw[ML,neg_mul]
theorem BP (n:Nat) (a b:PS α) (x:α):ev n (a-b) x=ev n a x-ev n b x:=by
 rw[sub_def,pV,QI,<-sub_def]
theorem BQ (n:Nat) (x:α):ev n (0:PS α) x=0:=bH fun i _=>by rw[jh,zero_mul]
theorem aaY (n:Nat) (c:α) (a:PS α) (x:α):ev n (C c*a) x=c*ev n a x:=by
 unfold ev;rw[jr];exact aX fun i _=>by rw[dJ,mul_assoc]
theorem ad4 {n:Nat} (hn:0<n) (c x:α):ev n (C c) x=c:=by
 unfold ev;rw[kL hn (fun i _ h=>by rw[Hr,zx h,zero_mul]),Hr,zu rfl,lN,mul_one]
theorem MN {n:Nat} (hn:0<n) (x:α):ev n (1:PS α) x=1:=ad4 hn 1 x
theorem aaZ (k n:Nat) (a:PS α) (x:α):ev (k+n) (X k*a) x=pw x k*ev n a x:=by
 unfold ev;rw[Fh,bH (n:=k) (fun i hi=>by rw[iG,zu hi,zero_mul]),zero_add,jr];exact aX fun i _=>by rw[iG,zx (by omega),show k+i-k=i by omega,kK];ac_rfl
theorem agA {k n:Nat} (hk:k<n) (x:α):ev n (X k:PS α) x=pw x k:=by
 unfold ev;rw[kL hk (fun i _ h=>by rw[DZ,zx h,zero_mul]),DZ,zu rfl,one_mul]
theorem ad5 (n m:Nat) (f:Nat->PS α) (x:α):ev n (sm m f) x=sm m (fun j=>ev n (f j) x):=by
 induction m with
 |zero=>exact BQ n x
 |succ m ih=>rw[aY,pV,ih,aY]
theorem pW {m n k:Nat} {a b:PS α} (ha:dl a m) (hb:dl b n) (hk:m+n<=k+1) (x:α):ev k (a*b) x=ev m a x*ev n b x:=by
 have e:ev (m+n) (a*b) x=ev m a x*ev n b x:=by
  have ea:a*b=sm m (fun i=>C (a i)*(X i*b)):=by
   conv=>lhs;rw[Ox ha]
   rw[Ig];exact aX fun i _=>mul_assoc _ _ _
  rw[ea,ad5];unfold ev;rw[Ig];refine aX fun i hi=>?_;have h1:=aaY (m+n) (a i) (X i*b) x;have h2:=aaZ i n b x;have h3:ev (m+n) (X i*b) x=ev (i+n) (X i*b) x:=WQ x (bM (JZ i hb) (by omega)) (JZ i hb);rw[show(sm (m+n) fun j=>(C (a i)*(X i*b):PS α) j*pw x j)=ev (m+n) (C (a i)*(X i*b)) x from rfl,h1,h3,h2];show _=a i*pw x i*ev n b x
  ac_rfl
 rw[<-e];exact WQ x (BO ha hb hk) (BO ha hb (by omega))
def Dv (a b:PS α):Prop:=∃ q n,dl q n/\b=q*a
theorem aa0 (a:PS α):Dv a 0:=⟨0,0,jZ 0,(zero_mul a).symm⟩
theorem aa1 (a:PS α):Dv a a:=⟨1,1,QH,(one_mul a).symm⟩
theorem ad6 {a b:PS α} (c:PS α) {n:Nat} (hc:dl c n) (h:Dv a b):Dv a (c*b):=by
 obtain⟨q,m,hq,rfl⟩:=h;exact⟨c*q,_,BN hc hq,(mul_assoc _ _ _).symm⟩
theorem ZC {a b c:PS α} (h:Dv a b) (k:Dv a c):Dv a (b+c):=by
 obtain⟨q,m,hq,rfl⟩:=h;obtain⟨r,n,hr,rfl⟩:=k;exact⟨q+r,m+n,qN (bM hq (by omega)) (bM hr (by omega)),(add_mul _ _ _).symm⟩
theorem ZE {a b:PS α} (h:Dv a b):Dv a (-b):=by
 obtain⟨q,m,hq,rfl⟩:=h;exact⟨-q,m,Et hq,(neg_mul _ _).symm⟩
end ring
section field
open Fd
variable {α:Type} [Fd α]
theorem Eu {b:PS α} {d:Nat} (hb:dl b (d+1)) (h0:b d≠0):∀ (n:Nat) (a:PS α),dl a n->∃ q r,a=q*b+r/\dl r d/\dl q (n-d):=by
 intro n;induction n with
 |zero=>exact fun a ha=>⟨0,a,by rw[zero_mul,zero_add],bM ha (by omega),jZ _⟩
 |succ n ih=>
  intro a ha;by_cases hn:n+1<=d
  ·exact⟨0,a,by rw[zero_mul,zero_add],bM ha hn,jZ _⟩
  ·have hd:d<=n:=by omega
   have hda:dl (a-C (a n*inv (b d))*(X (n-d)*b)) n:=by
    refine Fp (nC ha (qj _ (bM (JZ (n-d) hb) (by omega)))) ?_;rw[Ai,dJ,iG,zx (by omega),show n- (n-d)=d by omega,mul_assoc,inv_mul h0,mul_one,sub_self]
   obtain⟨q,r,he,hr,hq⟩:=ih _ hda;refine⟨q+C (a n*inv (b d))*X (n-d),r, ?_,hr,qN (bM hq (by omega)) (qj _ (bM (Ov _) (by omega)))⟩;generalize C (a n*inv (b d))=c at*;have:a=(a-c*(X (n-d)*b))+c*(X (n-d)*b):=(sub_add_cancel _ _).symm;rw[this,he,add_mul]
   ac_rfl
theorem QJ {b q:PS α} {d n:Nat} (hb:dl b (d+1)) (h0:b d≠0) (hq:dl q n) (h:dl (q*b) d):q=0:=by
 induction n with
 |zero=>exact kN hq
 |succ n ih=>
  refine ih (Fp hq ?_);have:=yj hq hb;rw[h (n+d) (by omega)] at this;rcases mul_eq_zero this.symm with e|e
  ·exact e
  ·exact absurd e h0
theorem yA {b q r q' r':PS α} {d n n':Nat} (hb:dl b (d+1)) (h0:b d≠0) (hq:dl q n) (hq':dl q' n') (hr:dl r d) (hr':dl r' d)
  (h:q*b+r=q'*b+r'):q=q'/\r=r':=by
 have e:(q-q')*b=r'-r:=by
  have h1:q*b+r-q'*b-r=r'-r:=by rw[h];rw[show q'*b+r'=r'+q'*b by ac_rfl,add_sub_cancel]
  rw[<-h1,sub_mul];simp only[sub_def];have:q*b+r+ -(q'*b)+ -r=(q*b+ -(q'*b))+(r+ -r):=by ac_rfl
  rw[this,add_neg,add_zero]
 have hz:q-q'=0:=QJ hb h0 (n:=n+n') (nC (bM hq (by omega)) (bM hq' (by omega))) (by rw[e];exact nC hr' hr);have hqq:=sub_eq_zero hz;subst hqq;exact⟨rfl,add_left_cancel h⟩
theorem MO {a:PS α} {n:Nat} (h:dl a n) (h0:a≠0):∃ d,d<n/\dl a (d+1)/\a d≠0:=by
 induction n with
 |zero=>exact absurd (kN h) h0
 |succ n ih=>
  by_cases e:a n=0
  ·obtain⟨d,hd,h1,h2⟩:=ih (Fp h e);exact⟨d,by omega,h1,h2⟩
  ·exact⟨n,by omega,h,e⟩
theorem J3 {a:PS α} {n:Nat} {x:α} (ha:dl a (n+1)) (h:ev (n+1) a x=0):∃ q,a=q*(X 1-C x)/\dl q n:=by
 have hb:dl (X 1-C x:PS α) (1+1):=nC (Ov 1) (bM (QG x) (by omega));have h1:(X 1-C x:PS α) 1=1:=by rw[Ai,DZ,Hr,zu rfl,zx (by omega),sub_zero]
 obtain⟨q,r,he,hr,hq⟩:=Eu hb (by rw[h1];exact dO) _ a ha;refine⟨q, ?_,bM hq (by omega)⟩;have hr0:r 0=0:=by
  have e1:=pV (n+2) (q*(X 1-C x)) r x;rw[<-he,pW (m:=n) (n:=2) (k:=n+2) (bM hq (by omega)) hb (by omega),BP,agA (by omega),ad4 (by omega),BL,sub_self,mul_zero,zero_add,
   WQ x (bM ha (by omega)) ha,h] at e1
  rw[e1];unfold ev;rw[kL (k:=0) (by omega) (fun i _ hi=>by rw[hr i (by omega),zero_mul]),lN,mul_one]
 have:r=0:=kN (Fp hr hr0);rw[this,add_zero] at he;exact he
theorem Fq {n:Nat}:∀ {a:PS α} {l:List α},dl a n->a≠0->l.Nodup->(∀ x∈l,ev n a x=0)->l.length<n:=by
 induction n with
 |zero=>exact fun ha h0=>absurd (kN ha) h0
 |succ n ih=>
  intro a l ha h0 hl hr;cases l with
  |nil=>simp
  |cons x l=>
   obtain⟨q,he,hq⟩:=J3 ha (hr x (by simp));have hq0:q≠0:=fun e=>h0 (by rw[he,e,zero_mul]);have hl':=vS.1 hl;refine Nat.succ_lt_succ (ih hq hq0 hl'.2 fun y hy=>?_);have h1:=hr y (by simp[hy]);rw[he,pW hq (n:=2) (nC (Ov 1) (bM (QG x) (by omega))) (by omega),BP,agA (by omega),ad4 (by omega),BL] at h1;rcases mul_eq_zero h1 with e|e
   ·exact e
   ·exact absurd (sub_eq_zero e▸hy) hl'.1
end field
end PS
end Cw
namespace Cw
open Rg Fd PS
structure Pl (α:Type) [Fd α] where
 a:PS α
 h:∃ n,dl a n
namespace Pl
variable {α:Type} [Fd α]
theorem ext {x y:Pl α} (h:x.a=y.a):x=y:=by cases x;cases y;cases h;rfl
theorem two {p q:PS α} (hp:∃ n,dl p n) (hq:∃ n,dl q n):∃ n,dl p n/\dl q n:=by
 obtain⟨m,hm⟩:=hp;obtain⟨n,hn⟩:=hq;exact⟨m+n,bM hm (by omega),bM hn (by omega)⟩
instance:Zero (Pl α):=⟨⟨0,0,jZ 0⟩⟩
instance:One (Pl α):=⟨⟨1,1,QH⟩⟩
instance:Add (Pl α):=⟨fun x y=>⟨x.a+y.a,let ⟨n,h1,h2⟩:=two x.h y.h;⟨n,qN h1 h2⟩⟩⟩
instance:Sub (Pl α):=⟨fun x y=>⟨x.a-y.a,let ⟨n,h1,h2⟩:=two x.h y.h;⟨n,nC h1 h2⟩⟩⟩
instance:Neg (Pl α):=⟨fun x=>⟨-x.a,let ⟨n,h1⟩:=x.h;⟨n,Et h1⟩⟩⟩
instance:Mul (Pl α):=⟨fun x y=>⟨x.a*y.a,let ⟨_,h1,h2⟩:=two x.h y.h;⟨_,BN h1 h2⟩⟩⟩
theorem QK:(1:Pl α).a=1:=rfl
theorem ad7 (x y:Pl α):(x*y).a=x.a*y.a:=rfl
instance:Rg (Pl α) where
 add_assoc _ _ _:=ext (Rg.add_assoc _ _ _)
 add_comm _ _:=ext (Rg.add_comm _ _)
 add_zero _:=ext (Rg.add_zero _)
 add_neg _:=ext (Rg.add_neg _)
 sub_def _ _:=ext (Rg.sub_def _ _)
 mul_assoc _ _ _:=ext (Rg.mul_assoc _ _ _)
 mul_comm _ _:=ext (Rg.mul_comm _ _)
 mul_one _:=ext (Rg.mul_one _)
 mul_add _ _ _:=ext (Rg.mul_add _ _ _)
def c (x:α):Pl α:=⟨C x,1,QG x⟩
def x (n:Nat):Pl α:=⟨X n,n+1,Ov n⟩
theorem ad8:(c 0:Pl α)=0:=ext ad2
theorem aa2:(c 1:Pl α)=1:=rfl
theorem ahk (y:α):(c (-y):Pl α)=-c y:=ext (ad3 _)
theorem ad9 (y z:α):(c (y*z):Pl α)=c y*c z:=ext (Ou _ _)
theorem MP (y:α) (p:Pl α) (i:Nat):(c y*p).a i=y*p.a i:=dJ _ _ _
theorem WR (n:Nat) (p:Pl α) (i:Nat):(x n*p).a i=if i<n then 0 else p.a (i-n):=iG _ _ _
theorem adt (n i:Nat):(x n:Pl α).a i=if i=n then 1 else 0:=rfl
theorem agB (y:α) (i:Nat):(c y:Pl α).a i=if i=0 then y else 0:=rfl
theorem WS (p:Pl α):∃ n,dl p.a n/\(n=0∨p.a (n-1)≠0):=by
 obtain⟨n,hn⟩:=p.h;by_cases h:p.a=0
 ·exact⟨0,by rw[h];exact jZ 0,.inl rfl⟩
 ·obtain⟨d,_,h1,h2⟩:=MO hn h;exact⟨d+1,h1,.inr h2⟩
noncomputable def ln (p:Pl α):Nat:=(WS p).choose
theorem J4 (p:Pl α):dl p.a p.ln:=(WS p).choose_spec.1
theorem D5 {p:Pl α} {n:Nat}:p.ln<=n↔dl p.a n:=by
 constructor
 ·exact fun h=>bM p.J4 h
 ·intro h;rcases (WS p).choose_spec.2 with e|e
  ·have:p.ln=0:=e;omega
  ·rcases wR n p.ln with g|g
   ·exact absurd (h _ (by omega)) (show p.a (p.ln-1)≠0 from e)
   ·exact g
theorem yB:(0:Pl α).ln=0:=qw.1 (D5.2 (jZ 0))
theorem kP {p:Pl α}:p.ln=0↔p=0:=⟨fun h=>ext (kN (D5.1 (by omega))),fun h=>by rw[h,yB]⟩
theorem Ii {p:Pl α} (h:p≠0):0<p.ln:=Nat.pos_of_ne_zero fun e=>h (kP.1 e)
theorem ZF {p:Pl α} (h:p≠0):p.a (p.ln-1)≠0:=by
 rcases (WS p).choose_spec.2 with e|e
 ·exact absurd (kP.1 e) h
 ·exact e
theorem WT {p:Pl α} {d:Nat} (h:dl p.a (d+1)) (h0:p.a d≠0):p.ln=d+1:=by
 have h1:=D5.2 h;rcases wR d p.ln with g|g
 ·omega
 ·exact absurd (p.J4 d g) h0
theorem Fv {p:Pl α} {i:Nat} (h:p.a i≠0):p≠0:=fun e=>h (by rw[e];rfl)
theorem deg {p:Pl α} (h:p≠0):∃ d,p.ln=d+1/\dl p.a (d+1)/\p.a d≠0:=by
 obtain⟨d,hd⟩:∃ d,p.ln=d+1:=⟨p.ln-1,by have:=Ii h;omega⟩
 have h1:=ZF h;have h2:=p.J4;rw[hd] at h1 h2;exact⟨d,hd,h2,h1⟩
theorem Ij {p q:Pl α} {n:Nat} (hp:p.ln<=n) (hq:q.ln<=n):(p-q).ln<=n:=D5.2 (nC (D5.1 hp) (D5.1 hq))
theorem BR {p q:Pl α} (hp:p≠0) (hq:q≠0):(p*q).ln+1=p.ln+q.ln:=by
 obtain⟨d,e1,h1,h2⟩:=deg hp;obtain⟨e,e2,h3,h4⟩:=deg hq;have:(p*q).ln=d+e+1:=WT (BO h1 h3 (by omega)) (by rw[ad7,yj h1 h3];exact Fd.jU h2 h4);omega
theorem jU {p q:Pl α} (hp:p≠0) (hq:q≠0):p*q≠0:=fun e=>by
 have h:=BR hp hq;have h1:=Ii hp;have h2:=Ii hq;rw[e,yB] at h;omega
theorem mul_eq_zero {p q:Pl α} (h:p*q=0):p=0∨q=0:=by
 by_cases hp:p=0
 ·exact .inl hp
 ·by_cases hq:q=0
  ·exact .inr hq
  ·exact absurd h (jU hp hq)
theorem mul_left_cancel {p q r:Pl α} (hp:p≠0) (h:p*q=p*r):q=r:=by
 have:p*(q-r)=0:=by rw[mul_sub,h,sub_self]
 rcases mul_eq_zero this with e|e
 ·exact absurd e hp
 ·exact sub_eq_zero e
theorem mul_right_cancel {p q r:Pl α} (hp:p≠0) (h:q*p=r*p):q=r:=mul_left_cancel hp (by rw[mul_comm p,mul_comm p];exact h)
theorem dO:(1:Pl α)≠0:=Fv (i:=0) (by rw[QK,BM,zu rfl];exact Fd.dO)
theorem akL {y:α} (h:y≠0):(c y:Pl α)≠0:=Fv (i:=0) (by rw[agB,zu rfl];exact h)
theorem ajc {y:α} (h:y≠0):(c y:Pl α).ln=1:=WT (d:=0) (QG y) (by rw[agB,zu rfl];exact h)
theorem ZG:(1:Pl α).ln=1:=ajc Fd.dO
theorem akM (n:Nat):(x n:Pl α).ln=n+1:=WT (Ov n) (by rw[adt,zu rfl];exact Fd.dO)
theorem QL {p:Pl α} (h:p.ln<=1):p=c (p.a 0):=ext (PS.ext fun i=>by
 rw[agB];cases i with
 |zero=>rw[zu rfl]
 |succ i=>rw[zx (by omega)];exact D5.1 h _ (by omega))
theorem aa3 {y:α} (h:y≠0) (p:Pl α):(c y*p).ln=p.ln:=by
 by_cases hp:p=0
 ·rw[hp,mul_zero]
 ·have:=BR (akL h) hp;rw[ajc h] at this;omega
theorem Eu (a:Pl α) {b:Pl α} (hb:b≠0):∃ q r:Pl α,a=q*b+r/\r.ln<b.ln:=by
 obtain⟨d,e,h1,h2⟩:=deg hb;obtain⟨q,r,he,hr,hq⟩:=PS.Eu h1 h2 _ a.a a.J4;refine⟨⟨q,_,hq⟩,⟨r,_,hr⟩,ext he, ?_⟩;rw[e];exact Nat.lt_succ_of_le (D5.2 hr)
theorem yA {b q r q' r':Pl α} (h:q*b+r=q'*b+r') (hr:r.ln<b.ln) (hr':r'.ln<b.ln):q=q'/\r=r':=by
 have hb:b≠0:=fun e=>by rw[e,yB] at hr;omega
 have e:(q-q')*b=r'-r:=by
  have h1:q*b+r-q'*b-r=r'-r:=by rw[h,show q'*b+r'=r'+q'*b by ac_rfl,add_sub_cancel]
  rw[<-h1,sub_mul];simp only[sub_def];have:q*b+r+ -(q'*b)+ -r=(q*b+ -(q'*b))+(r+ -r):=by ac_rfl
  rw[this,add_neg,add_zero]
 have hz:q-q'=0:=by
  by_cases hq:q-q'=0
  ·exact hq
  ·have h1:=BR hq hb;have h2:=Ii hq;have h3:((q-q')*b).ln<=b.ln-1:=by rw[e];exact Ij (by omega) (by omega)
   omega
 have hqq:=sub_eq_zero hz;subst hqq;exact⟨rfl,add_left_cancel h⟩
theorem WU (a b:Pl α):∃ qr:Pl α×Pl α,a=qr.1*b+qr.2/\(b≠0->qr.2.ln<b.ln)/\(b=0->qr.1=0):=by
 by_cases hb:b=0
 ·exact⟨(0,a),by rw[zero_mul,zero_add],fun h=>absurd hb h,fun _=>rfl⟩
 ·obtain⟨q,r,h1,h2⟩:=Eu a hb;exact⟨(q,r),h1,fun _=>h2,fun h=>absurd h hb⟩
noncomputable def quo (a b:Pl α):Pl α:=(WU a b).choose.1
noncomputable def rem (a b:Pl α):Pl α:=(WU a b).choose.2
theorem div_eq (a b:Pl α):a=quo a b*b+rem a b:=(WU a b).choose_spec.1
theorem MQ (a:Pl α) {b:Pl α} (h:b≠0):(rem a b).ln<b.ln:=(WU a b).choose_spec.2.1 h
theorem aea {a b q r:Pl α} (h:a=q*b+r) (hr:r.ln<b.ln):quo a b=q/\rem a b=r:=by
 have hb:b≠0:=fun e=>by rw[e,yB] at hr;omega
 exact yA ((div_eq a b).symm.trans h) (MQ a hb) hr
def Dvd (p q:Pl α):Prop:=∃ k:Pl α,q=k*p
theorem dvd_refl (p:Pl α):Dvd p p:=⟨1,(one_mul p).symm⟩
theorem dvd_zero (p:Pl α):Dvd p 0:=⟨0,(zero_mul p).symm⟩
theorem dvd_mul {p q:Pl α} (r:Pl α) (h:Dvd p q):Dvd p (r*q):=by
 obtain⟨x,rfl⟩:=h;exact⟨r*x,(mul_assoc _ _ _).symm⟩
theorem dvd_add {p q r:Pl α} (h:Dvd p q) (k:Dvd p r):Dvd p (q+r):=by
 obtain⟨x,rfl⟩:=h;obtain⟨y,rfl⟩:=k;exact⟨x+y,(add_mul _ _ _).symm⟩
theorem dvd_neg {p q:Pl α} (h:Dvd p q):Dvd p (-q):=by obtain⟨x,rfl⟩:=h;exact⟨-x,(neg_mul _ _).symm⟩
theorem dvd_sub {p q r:Pl α} (h:Dvd p q) (k:Dvd p r):Dvd p (q-r):=by rw[sub_def];exact dvd_add h (dvd_neg k)
theorem QM {p q:Pl α} (h:Dvd p q) (hq:q≠0):p.ln<=q.ln:=by
 obtain⟨k,rfl⟩:=h;have hk:k≠0:=fun e=>hq (by rw[e,zero_mul]);have hp:p≠0:=fun e=>hq (by rw[e,mul_zero]);have:=BR hk hp;have:=Ii hk;omega
theorem zero_dvd {q:Pl α} (h:Dvd 0 q):q=0:=by obtain⟨k,rfl⟩:=h;exact mul_zero k
theorem QN {p a b:Pl α} (ha:Dvd p a) (hb:Dvd p b):Dvd p (rem a b):=by
 have h:rem a b=a-quo a b*b:=(sub_eq (by rw[add_comm];exact div_eq a b)).symm;rw[h];exact dvd_sub ha (dvd_mul _ hb)
theorem Ew {p a b:Pl α} (hr:Dvd p (rem a b)) (hb:Dvd p b):Dvd p a:=by
 rw[div_eq a b];exact dvd_add (dvd_mul _ hb) hr
theorem ahl {y:α} (h:y≠0) {p q:Pl α}:Dvd (c y*p) q↔Dvd p q:=by
 constructor
 ·rintro⟨k,rfl⟩;exact⟨k*c y,by rw[mul_assoc]⟩
 ·rintro⟨k,rfl⟩;exact⟨k*c (inv y),by
   have:k*c (inv y)*(c y*p)=k*(c (inv y)*c y)*p:=by ac_rfl
   rw[this,<-ad9,Fd.inv_mul h,aa2,mul_one]⟩
noncomputable def lc (p:Pl α):α:=p.a (p.ln-1)
noncomputable def mon (p:Pl α):Pl α:=c (inv p.lc)*p
theorem Oy {p:Pl α} (h:p≠0):p.lc≠0:=ZF h
theorem qO:mon (0:Pl α)=0:=mul_zero _
theorem aeb (p:Pl α):(mon p).ln=p.ln:=by
 by_cases h:p=0
 ·rw[h,qO]
 ·exact aa3 (QF (Oy h)) p
theorem aec {p:Pl α} (h:p≠0):(mon p).lc=1:=by
 unfold lc;rw[aeb];show(c (inv p.lc)*p).a _=1;rw[MP];exact inv_mul (Oy h)
theorem inv_one:inv (1:α)=1:=(oM (mul_one 1)).symm
theorem aed {p:Pl α} (h:p.lc=1):mon p=p:=by unfold mon;rw[h,inv_one,aa2,one_mul]
theorem aa4 (p:Pl α):mon (mon p)=mon p:=by
 by_cases h:p=0
 ·rw[h,qO,qO]
 ·exact aed (aec h)
theorem aa5 {p q:Pl α}:Dvd (mon p) q↔Dvd p q:=by
 by_cases h:p=0
 ·rw[h,qO]
 ·exact ahl (QF (Oy h))
theorem aa6 {p q:Pl α} (h:Dvd p q):Dvd p (mon q):=dvd_mul _ h
theorem aee {p q:Pl α} (hp:p≠0) (hq:q≠0):(p*q).lc=p.lc*q.lc:=by
 obtain⟨d,e1,h1,h2⟩:=deg hp;obtain⟨e,e2,h3,h4⟩:=deg hq;have:=BR hp hq;unfold lc;rw[show(p*q).ln-1=d+e by omega,e1,e2,ad7,yj h1 h3];rfl
theorem dvd_antisymm {p q:Pl α} (h:Dvd p q) (k:Dvd q p):mon p=mon q:=by
 by_cases hp:p=0
 ·subst hp;rw[zero_dvd h]
 have hq:q≠0:=fun e=>hp (by rw[e] at k;exact zero_dvd k);have h1:=QM h hq;have h2:=QM k hp;obtain⟨y,rfl⟩:=h;have hy:y≠0:=fun e=>hq (by rw[e,zero_mul]);have h3:=BR hy hp;have h4:=QL (p:=y) (by omega);have hy0:y.a 0≠0:=fun e=>hy (by rw[h4,e,ad8]);have h5:(y*p).lc=y.a 0*p.lc:=by
  rw[aee hy hp];unfold lc;rw[show y.ln-1=0 by omega]
 unfold mon;rw[h5,<-mul_assoc,congrArg (c (inv (y.a 0*p.lc))* · *p) h4];show _=c (inv (y.a 0*p.lc))*c (y.a 0)*p;rw[<-ad9];congr 2;refine Fd.mul_left_cancel (Oy hp) ?_;rw[jI _ (Oy hp)];have:p.lc*(inv (y.a 0*p.lc)*y.a 0)=(y.a 0*p.lc)*inv (y.a 0*p.lc):=by ac_rfl
 rw[this,jI _ (Fd.jU hy0 (Oy hp))]
structure D6 (a b d:Pl α):Prop where
 m:mon d=d
 l:Dvd d a
 r:Dvd d b
 g:∀ p,Dvd p a->Dvd p b->Dvd p d
theorem Oz {a b d d':Pl α} (h:D6 a b d) (k:D6 a b d'):d=d':=by
 rw[<-h.m,<-k.m];exact dvd_antisymm (k.g _ h.l h.r) (h.g _ k.l k.r)
theorem FB (a:Pl α):D6 a 0 (mon a):=⟨aa4 a,aa5.2 (dvd_refl a),dvd_zero _,fun _ h _=>aa6 h⟩
theorem WV {a b d:Pl α} (h:D6 b (rem a b) d):D6 a b d:=⟨h.m,Ew h.r h.l,h.l,fun p ha hb=>h.g p hb (QN ha hb)⟩
theorem WW {a b d:Pl α} (h:D6 a b d):D6 b (rem a b) d:=⟨h.m,h.r,QN h.l h.r,fun p hb hr=>h.g p (Ew hr hb) hb⟩
theorem QO:∀ (n:Nat) (a b:Pl α),b.ln<=n->∃ d,D6 a b d
 |0,a,b,h=>by
  rw[kP.1 (qw.1 h)];exact⟨_,FB a⟩
 |n+1,a,b,h=>by
  by_cases hb:b=0
  ·rw[hb];exact⟨_,FB a⟩
  ·have:=MQ a hb;obtain⟨d,hd⟩:=QO n b (rem a b) (by omega);exact⟨d,WV hd⟩
noncomputable def gcd (a b:Pl α):Pl α:=(QO _ a b (zy _)).choose
theorem QS (a b:Pl α):D6 a b (gcd a b):=(QO _ a b (zy _)).choose_spec
theorem ZH {a b d:Pl α} (h:D6 a b d):gcd a b=d:=Oz (QS a b) h
theorem gcd_zero (a:Pl α):gcd a 0=mon a:=ZH (FB a)
theorem QT (a b:Pl α):gcd b (rem a b)=gcd a b:=ZH (WW (QS a b))
theorem ZI:∀ (n:Nat) (a b:Pl α),b.ln<=n->∃ u v,gcd a b=u*a+v*b
 |0,a,b,h=>by
  rw[kP.1 (qw.1 h),gcd_zero];exact⟨c (inv a.lc),0,by rw[zero_mul,add_zero];rfl⟩
 |n+1,a,b,h=>by
  by_cases hb:b=0
  ·rw[hb,gcd_zero];exact⟨c (inv a.lc),0,by rw[zero_mul,add_zero];rfl⟩
  ·have:=MQ a hb;obtain⟨u,v,e⟩:=ZI n b (rem a b) (by omega);refine⟨v,u-v*quo a b, ?_⟩;have h1:rem a b=a-quo a b*b:=(sub_eq (by rw[add_comm];exact div_eq a b)).symm;rw[<-QT,e,h1,sub_mul,mul_sub,<-mul_assoc];simp only[sub_def];generalize u*b=x1;generalize v*a=x2;generalize v*quo a b*b=x3
   ac_rfl
theorem bez (a b:Pl α):∃ u v,gcd a b=u*a+v*b:=ZI _ a b (zy _)
noncomputable def ev (p:Pl α) (y:α):α:=PS.ev p.ln p.a y
theorem ql {p:Pl α} {n:Nat} (h:dl p.a n) (y:α):PS.ev n p.a y=ev p y:=PS.WQ y h p.J4
theorem pV (p q:Pl α) (y:α):ev (p+q) y=ev p y+ev q y:=by
 obtain⟨n,h1,h2⟩:=two p.h q.h;rw[<-ql (n:=n) (qN h1 h2),<-ql h1,<-ql h2];exact PS.pV _ _ _ _
theorem BP (p q:Pl α) (y:α):ev (p-q) y=ev p y-ev q y:=by
 obtain⟨n,h1,h2⟩:=two p.h q.h;rw[<-ql (n:=n) (nC h1 h2),<-ql h1,<-ql h2];exact PS.BP _ _ _ _
theorem QI (p:Pl α) (y:α):ev (-p) y=-ev p y:=by
 obtain⟨n,h1⟩:=p.h;rw[<-ql (n:=n) (Et h1),<-ql h1];exact PS.QI _ _ _
theorem pW (p q:Pl α) (y:α):ev (p*q) y=ev p y*ev q y:=by
 obtain⟨n,h1,h2⟩:=two p.h q.h;rw[<-ql (n:=n+n) (bM (BN h1 h2) (by omega)),<-ql h1,<-ql h2];exact PS.pW h1 h2 (by omega) _
theorem BQ (y:α):ev (0:Pl α) y=0:=PS.BQ _ _
theorem ahm (z y:α):ev (c z) y=z:=by rw[<-ql (n:=1) (QG z)];exact PS.ad4 (by omega) _ _
theorem MN (y:α):ev (1:Pl α) y=1:=ahm 1 y
theorem agC (n:Nat) (y:α):ev (x n) y=pw y n:=by rw[<-ql (Ov n)];exact PS.agA (by omega) _
theorem ad5 (n:Nat) (f:Nat->Pl α) (y:α):ev (sm n f) y=sm n (fun i=>ev (f i) y):=by
 induction n with
 |zero=>exact BQ y
 |succ n ih=>rw[aY,pV,ih];rfl
def lin (y:α):Pl α:=x 1-c y
theorem aef (y:α):dl (lin y).a (1+1):=nC (Ov 1) (bM (QG y) (by omega))
theorem aa7 (y:α):(lin y).a 1=1:=by
 show(X 1-C y:PS α) 1=1;rw[Ai,DZ,Hr,zu rfl,zx (by omega),sub_zero]
theorem ZJ (y:α):(lin y).ln=2:=WT (aef y) (by rw[aa7];exact Fd.dO)
theorem aeg (y:α):lin y≠0:=fun e=>by have:=ZJ y;rw[e,yB] at this;omega
theorem aeh (y z:α):ev (lin y) z=z-y:=by unfold lin;rw[BP,agC,ahm,BL]
theorem Fq {p:Pl α} {l:List α} (h:p≠0) (hl:l.Nodup) (hr:∀ y∈l,ev p y=0):l.length<p.ln:=PS.Fq p.J4 (fun e=>h (ext e)) hl hr
end Pl
end Cw
namespace Cw
open Rg Fd PS
namespace Pl
variable {α:Type} [Fd α]
noncomputable def prf (f:Nat->α):Nat->Pl α
 |0=>1
 |k+1=>prf f k*lin (f k)
theorem QU (f:Nat->α):∀ k,(prf f k).ln=k+1
 |0=>ZG
 |k+1=>by
  have h:=QU f k;have h0:prf f k≠0:=fun e=>by rw[e,yB] at h;omega
  have:=BR h0 (aeg (f k));rw[ZJ] at this;show(prf f k*lin (f k)).ln=_;omega
theorem QV (f:Nat->α) (y:α):∀ k,ev (prf f k) y=0↔ ∃ i,i<k/\f i=y
 |0=>by
  show ev 1 y=0↔_;rw[MN];exact⟨fun h=>absurd h Fd.dO,fun⟨i,hi,_⟩=>absurd hi (by omega)⟩
 |k+1=>by
  show ev (prf f k*lin (f k)) y=0↔_;rw[pW,aeh];constructor
  ·intro h;rcases Fd.mul_eq_zero h with e|e
   ·obtain⟨i,hi,he⟩:=(QV f y k).1 e;exact⟨i,by omega,he⟩
   ·exact⟨k,by omega,(sub_eq_zero e).symm⟩
  ·rintro⟨i,hi,he⟩;by_cases e:i=k
   ·subst e;rw[he,sub_self,mul_zero]
   ·rw[(QV f y k).2 ⟨i,by omega,he⟩,zero_mul]
end Pl
end Cw
namespace Cw
open Rg Fd PS
namespace Pl
variable {α:Type} [Fd α]
end Pl
end Cw
namespace Cw
open Rg Fd PS
namespace Rk
variable {α:Type} [Fd α]
def put {β:Type} (x:Nat->β) (c:Nat) (t:β):Nat->β:=fun k=>if k<c then x k else t
theorem ZK {β:Type} {x:Nat->β} {c:Nat} {t:β} {k:Nat} (h:k<c):put x c t k=x k:=zu h
theorem ZL {β:Type} {x:Nat->β} {c:Nat} {t:β} {k:Nat} (h:¬ k<c):put x c t k=t:=zx h
theorem MR (a x:Nat->α) (c:Nat) (t:α):sm (c+1) (fun k=>a k*put x c t k)=sm c (fun k=>a k*x k)+a c*t:=by
 rw[aY,ZL (by omega)];congr 1;exact aX fun k hk=>by rw[ZK hk]
def Sol (A:Nat->Nat->α) (n c:Nat) (x:Nat->α):Prop:=∀ i,i<n->sm c (fun k=>A i k*x k)=0
def Piv (A:Nat->Nat->α) (n c:Nat):Prop:=∀ x,Sol A n (c+1) x->x c=0
open Classical in
noncomputable def rk (A:Nat->Nat->α) (n:Nat):Nat->Nat
 |0=>0
 |c+1=>rk A n c+if Piv A n c then 1 else 0
theorem MS {A:Nat->Nat->α} {n c:Nat} (h:Piv A n c):rk A n (c+1)=rk A n c+1:=by rw[rk,zu h]
theorem aa8 {A:Nat->Nat->α} {n c:Nat} (h:¬ Piv A n c):rk A n (c+1)=rk A n c:=by rw[rk,zx h];rfl
theorem aei (A:Nat->Nat->α) (n:Nat):∀ c,rk A n c<=c
 |0=>zy _
 |c+1=>by
  have:=aei A n c;by_cases g:Piv A n c
  ·rw[MS g];omega
  ·rw[aa8 g];omega
theorem QW {A:Nat->Nat->α} {n c:Nat}:rk A n c=c↔ ∀ x,Sol A n c x->∀ k,k<c->x k=0:=by
 induction c with
 |zero=>exact⟨fun _ _ _ k hk=>by omega,fun _=>rfl⟩
 |succ c ih=>
  have hle:=aei A n c;constructor
  ·intro h x hx;have g:Piv A n c:=yu fun g=>by rw[aa8 g] at h;omega
   rw[MS g] at h;have hc:=g x hx;have hx':Sol A n c x:=fun i hi=>by
    have:=hx i hi;rw[aY,hc,mul_zero,add_zero] at this;exact this
   intro k hk;by_cases e:k=c
   ·rw[e,hc]
   ·exact ih.1 (by omega) x hx' k (by omega)
  ·intro h;have g:Piv A n c:=fun x hx=>h x hx c (by omega);rw[MS g,ih.2 fun x hx k hk=>?_];have:=h (put x c 0) (fun i hi=>by
    rw[MR,mul_zero,add_zero];exact hx i hi) k (by omega)
   rwa [ZK hk] at this
structure GS (A:Nat->Nat->α) (n cols c r:Nat) (B:Nat->Nat->α):Prop where
 eqv:∀ m x,m<=cols->(Sol B n m x↔Sol A n m x)
 low:∀ i k,r<=i->i<n->k<c->B i k=0
 sur:∀ y:Nat->α,∃ x:Nat->α,∀ i,i<r->sm c (fun k=>B i k*x k)=y i
 cnt:r=rk A n c
 rn:r<=n
theorem WX (A:Nat->Nat->α) (n cols:Nat):GS A n cols 0 0 A:=⟨fun _ _ _=>Iff.rfl,fun _ _ _ _ h=>by omega,fun _=>⟨fun _=>0,fun _ h=>by omega⟩,rfl,by omega⟩
theorem aa9 {A B:Nat->Nat->α} {n cols c r:Nat} (h:GS A n cols c r B) (hc:c<cols) (hz:∀ i,r<=i->i<n->B i c=0):GS A n cols (c+1) r B:=by
 refine⟨h.eqv,fun i k h1 h2 h3=>?_,fun y=>?_, ?_,h.rn⟩
 ·by_cases e:k=c
  ·rw[e];exact hz i h1 h2
  ·exact h.low i k h1 h2 (by omega)
 ·obtain⟨x,hx⟩:=h.sur y;refine⟨put x c 0,fun i hi=>?_⟩;rw[MR,mul_zero,add_zero];exact hx i hi
 ·rw[aa8,<-h.cnt];intro g;obtain⟨x,hx⟩:=h.sur (fun i=>-B i c);have hs:Sol B n (c+1) (put x c 1):=fun i hi=>by
   rw[MR,mul_one];by_cases hir:i<r
   ·rw[hx i hir,neg_add]
   ·rw[hz i (by omega) hi,add_zero];exact bH fun k hk=>by rw[h.low i k (by omega) hi hk,zero_mul]
  have:=g _ ((h.eqv (c+1) _ (by omega)).1 hs);rw[ZL (by omega)] at this;exact Fd.dO this
def swp (B:Nat->Nat->α) (r p:Nat):Nat->Nat->α:=fun i=>if i=r then B p else if i=p then B r else B i
def elm (B:Nat->Nat->α) (c r:Nat):Nat->Nat->α:=fun i k=>if i<=r then B i k else B i k-B i c*inv (B r c)*B r k
theorem abb {B:Nat->Nat->α} {n r p m:Nat} {x:Nat->α} (hr:r<n) (hp:p<n):Sol (swp B r p) n m x↔Sol B n m x:=by
 have f:∀ (B:Nat->Nat->α),Sol B n m x->Sol (swp B r p) n m x:=fun B g i hi=>by
  unfold swp;by_cases e:i=r
  ·rw[zu e];exact g p hp
  ·rw[zx e];by_cases e2:i=p
   ·rw[zu e2];exact g r hr
   ·rw[zx e2];exact g i hi
 refine⟨fun g=>?_,f B⟩;have:=f _ g;have e:swp (swp B r p) r p=B:=funext fun i=>by
  unfold swp;by_cases e:i=r
  ·subst e;rw[zu rfl];by_cases e2:p=i
   ·rw[zu e2,e2]
   ·rw[zx e2,zu rfl]
  ·rw[zx e];by_cases e2:i=p
   ·subst e2;rw[zu rfl,zu rfl]
   ·rw[zx e2,zx e,zx e2]
 rwa [e] at this
theorem ZM {B:Nat->Nat->α} {c r m i:Nat} {x:Nat->α} (h:¬ i<=r):sm m (fun k=>elm B c r i k*x k)=sm m (fun k=>B i k*x k)-B i c*inv (B r c)*sm m (fun k=>B r k*x k):=by
 unfold elm;rw[jr,<-MJ];refine aX fun k _=>?_;rw[zx h,sub_mul,mul_assoc (B i c*inv (B r c))]
theorem abd {B:Nat->Nat->α} {n c r m:Nat} {x:Nat->α} (hr:r<n):Sol (elm B c r) n m x↔Sol B n m x:=by
 have e0:∀ i,i<=r->sm m (fun k=>elm B c r i k*x k)=sm m (fun k=>B i k*x k):=fun i hi=>aX fun k _=>by unfold elm;rw[zu hi]
 constructor
 ·intro g i hi;have hrz:=g r hr;rw[e0 r (zy _)] at hrz;by_cases e:i<=r
  ·rw[<-e0 i e];exact g i hi
  ·have:=g i hi;rw[ZM e,hrz,mul_zero,sub_zero] at this;exact this
 ·intro g i hi;by_cases e:i<=r
  ·rw[e0 i e];exact g i hi
  ·rw[ZM e,g i hi,g r hr,mul_zero,sub_zero]
theorem WY {A B:Nat->Nat->α} {n cols c r p:Nat} (h:GS A n cols c r B) (hc:c<cols) (h1:r<=p) (h2:p<n) (hp:B p c≠0):GS A n cols (c+1) (r+1) (elm (swp B r p) c r):=by
 have hrr:(swp B r p) r=B p:=by unfold swp;rw[zu rfl]
 have hlow:∀ i k,r<=i->i<n->k<c->swp B r p i k=0:=fun i k g1 g2 g3=>by
  unfold swp;by_cases e:i=r
  ·rw[zu e];exact h.low p k h1 h2 g3
  ·rw[zx e];by_cases e2:i=p
   ·rw[zu e2];exact h.low r k (zy _) (by omega) g3
   ·rw[zx e2];exact h.low i k g1 g2 g3
 have htop:∀ i,i<r->elm (swp B r p) c r i=B i:=fun i hi=>funext fun k=>by
  unfold elm swp;rw[zu (by omega),zx (by omega),zx (by omega)]
 have hrow:elm (swp B r p) c r r=B p:=funext fun k=>by
  unfold elm;rw[zu (zy _),hrr]
 have heqv:∀ m x,m<=cols->(Sol (elm (swp B r p) c r) n m x↔Sol A n m x):=fun m x hm=>(abd (by omega)).trans ((abb (by omega) h2).trans (h.eqv m x hm));refine⟨heqv,fun i k g1 g2 g3=>?_,fun y=>?_, ?_,by omega⟩
 ·unfold elm;rw[zx (by omega)];by_cases e:k=c
  ·subst e;rw[mul_assoc,hrr,inv_mul hp,mul_one,sub_self]
  ·rw[hlow i k (by omega) g2 (by omega),hlow r k (zy _) (by omega) (by omega),mul_zero,sub_zero]
 ·obtain⟨x,hx⟩:=h.sur (fun i=>y i-B i c*(y r*inv (B p c)));refine⟨put x c (y r*inv (B p c)),fun i hi=>?_⟩;rw[MR];by_cases e:i=r
  ·subst e;rw[hrow,bH (fun k hk=>by rw[h.low p k h1 h2 hk,zero_mul]),zero_add];rw[show B p c*(y i*inv (B p c))=y i*(B p c*inv (B p c)) by ac_rfl,jI _ hp,mul_one]
  ·rw[htop i (by omega),hx i (by omega),sub_add_cancel]
 ·rw[MS,<-h.cnt];intro x hx;have:=(heqv (c+1) x (by omega)).2 hx r (by omega);rw[hrow,aY,bH (fun k hk=>by rw[h.low p k h1 h2 hk,zero_mul]),zero_add] at this;rcases Fd.mul_eq_zero this with e|e
  ·exact absurd e hp
  ·exact e
theorem aej (A:Nat->Nat->α) (n cols:Nat):∀ c,c<=cols->∃ r B,GS A n cols c r B
 |0,_=>⟨_,_,WX A n cols⟩
 |c+1,hc=>by
  obtain⟨r,B,h⟩:=aej A n cols c (by omega);by_cases g:∃ p,r<=p/\p<n/\B p c≠0
  ·obtain⟨p,h1,h2,hp⟩:=g;exact⟨_,_,WY h hc h1 h2 hp⟩
  ·exact⟨_,_,aa9 h hc fun i h1 h2=>yu fun e=>g ⟨i,h1,h2,e⟩⟩
theorem QX (A:Nat->Nat->α) (n c:Nat):rk A n c<=n:=by
 obtain⟨r,B,h⟩:=aej A n c c (zy _);rw[<-h.cnt];exact h.rn
end Rk
end Cw
namespace Cw
open Rg Fd PS
namespace Pl
variable {α:Type} [Fd α]
def cnt (s:Nat->Bool):Nat->Nat
 |0=>0
 |k+1=>cnt s k+if s k then 1 else 0
end Pl
end Cw
namespace Cw
open Rg Fd PS
namespace Dm
variable {α:Type} [Fd α]
def cmb (R:Nat->Nat->α) (m:Nat) (y:Nat->α):Nat->α:=fun k=>sm m (fun i=>y i*R i k)
structure Bas (R:Nat->Nat->α) (m n:Nat) (V:(Nat->α)->Prop):Prop where
 mem:∀ y,V (cmb R m y)
 gen:∀ v,V v->∃ y,∀ k,k<n->v k=cmb R m y k
 ind:∀ y,(∀ k,k<n->cmb R m y k=0)->∀ i,i<m->y i=0
structure Spc (n:Nat) (V:(Nat->α)->Prop):Prop where
 ext:∀ v w,(∀ k,k<n->v k=w k)->V v->V w
 zero:V (fun _=>0)
 add:∀ v w,V v->V w->V (fun k=>v k+w k)
 smul:∀ a v,V v->V (fun k=>a*v k)
theorem FC (R:Nat->Nat->α) {m j:Nat} (hj:j<m) (k:Nat):cmb R m (fun i=>if i=j then 1 else 0) k=R j k:=by
 unfold cmb;rw[kL hj (fun i _ h=>by show(if i=j then(1:α) else 0)*R i k=0;rw[zx h,zero_mul])];show(if j=j then(1:α) else 0)*R j k=R j k;rw[zu rfl,one_mul]
theorem ZN {R R':Nat->Nat->α} {m m' n:Nat} {V:(Nat->α)->Prop} (_hV:Spc n V) (h:Bas R m n V) (k:Bas R' m' n V):m'<=m:=by
 refine vI fun hlt=>?_;have hY:∀ j,∃ y:Nat->α,j<m'->∀ c,c<n->R' j c=cmb R m y c:=fun j=>by
  by_cases hj:j<m'
  ·obtain⟨y,hy⟩:=h.gen _ (k.mem (fun i=>if i=j then 1 else 0));exact⟨y,fun _ c hc=>by rw[<-hy c hc,FC R' hj]⟩
  ·exact⟨fun _=>0,fun h=>absurd h hj⟩
 let Y:Nat->Nat->α:=fun j=>(hY j).choose
 have hYs:∀ j,j<m'->∀ c,c<n->R' j c=cmb R m (Y j) c:=fun j=>(hY j).choose_spec;have h1:=Rk.QX (fun i j=>Y j i) m m';have h2:¬ ∀ x,Rk.Sol (fun i j=>Y j i) m m' x->∀ c,c<m'->x c=0:=fun e=>by
  have:=Rk.QW.2 e;omega
 obtain⟨x,hx⟩:=Classical.not_forall.1 h2;obtain⟨hs,hx2⟩:=Classical.not_imp.1 hx;refine hx2 (k.ind x fun c hc=>?_);have e1:cmb R' m' x c=sm m' (fun j=>sm m (fun i=>x j*(Y j i*R i c))):=by
  unfold cmb;exact aX fun j hj=>by rw[hYs j hj c hc];unfold cmb;rw[jr]
 rw[e1,QE];refine bH fun i hi=>?_;have e2:=hs i hi;have e3:sm m' (fun j=>x j*(Y j i*R i c))=sm m' (fun j=>Y j i*x j)*R i c:=by
  rw[Ig];exact aX fun j _=>by ac_rfl
 rw[e3,e2,zero_mul]
theorem aek {R R':Nat->Nat->α} {m m' n:Nat} {V:(Nat->α)->Prop} (hV:Spc n V) (h:Bas R m n V) (k:Bas R' m' n V):m=m':=Nat.le_antisymm (ZN hV k h) (ZN hV h k)
end Dm
end Cw
namespace Cw
open Rg Fd PS
namespace Dm
section plain
variable {α:Type}
end plain
variable {α:Type} [Fd α]
section
variable {n:Nat} {V:(Nat->α)->Prop}
theorem Spc.cmb (h:Spc n V) {R:Nat->Nat->α} (y:Nat->α):∀ m,(∀ i,i<m->V (R i))->V (cmb R m y)
 |0,_=>h.zero
 |m+1,hR=>by
  refine h.ext _ _ (fun k _=>?_) (h.add _ _ (Spc.cmb h y m fun i hi=>hR i (by omega)) (h.smul (y m) _ (hR m (by omega))));show Dm.cmb R m y k+y m*R m k=Dm.cmb R (m+1) y k;unfold Dm.cmb;rw[aY]
end
end Dm
end Cw
namespace Cw
open Rg Fd PS
namespace Dm
variable {α:Type} [Fd α]
theorem QY {R R':Nat->Nat->α} {m m' n:Nat} {V W:(Nat->α)->Prop} (h:Bas R m n W) (k:Bas R' m' n V) (hs:∀ v,V v->W v):m'<=m:=by
 refine vI fun hlt=>?_;have hY:∀ j,∃ y:Nat->α,j<m'->∀ c,c<n->R' j c=cmb R m y c:=fun j=>by
  by_cases hj:j<m'
  ·obtain⟨y,hy⟩:=h.gen _ (hs _ (k.mem (fun i=>if i=j then 1 else 0)));exact⟨y,fun _ c hc=>by rw[<-hy c hc,FC R' hj]⟩
  ·exact⟨fun _=>0,fun h=>absurd h hj⟩
 let Y:Nat->Nat->α:=fun j=>(hY j).choose
 have hYs:∀ j,j<m'->∀ c,c<n->R' j c=cmb R m (Y j) c:=fun j=>(hY j).choose_spec;have h1:=Rk.QX (fun i j=>Y j i) m m';have h2:¬ ∀ x,Rk.Sol (fun i j=>Y j i) m m' x->∀ c,c<m'->x c=0:=fun e=>by
  have:=Rk.QW.2 e;omega
 obtain⟨x,hx⟩:=Classical.not_forall.1 h2;obtain⟨hsx,hx2⟩:=Classical.not_imp.1 hx;refine hx2 (k.ind x fun c hc=>?_);have e1:cmb R' m' x c=sm m' (fun j=>sm m (fun i=>x j*(Y j i*R i c))):=by
  unfold cmb;exact aX fun j hj=>by rw[hYs j hj c hc];unfold cmb;rw[jr]
 rw[e1,QE];refine bH fun i hi=>?_;have e2:=hsx i hi;have e3:sm m' (fun j=>x j*(Y j i*R i c))=sm m' (fun j=>Y j i*x j)*R i c:=by
  rw[Ig];exact aX fun j _=>by ac_rfl
 rw[e3,e2,zero_mul]
end Dm
end Cw
