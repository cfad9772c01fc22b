/- Lemmas on the way to the row, merged: walks of functions and plain algebra. Conditions: each lemma's own, stated with it. -/
namespace Cw
class Rg (α:Type) extends Zero α,One α,Add α,Mul α,Neg α,Sub α where
 add_assoc:∀ a b c:α,a + b + c=a + (b + c)
 add_comm:∀ a b:α,a + b=b + a
 add_zero:∀ a:α,a + 0=a
 add_neg:∀ a:α,a + -a=0
 sub_def:∀ a b:α,a - b=a + -b
 mul_assoc:∀ a b c:α,a * b * c=a * (b * c)
 mul_comm:∀ a b:α,a * b=b * a
 mul_one:∀ a:α,a * 1=a
 mul_add:∀ a b c:α,a * (b + c)=a * b + a * c
namespace Rg
variable {α:Type} [Rg α]
instance:Std.Associative (α:=α) (· + ·):=⟨add_assoc⟩
instance:Std.Commutative (α:=α) (· + ·):=⟨add_comm⟩
instance:Std.Associative (α:=α) (· * ·):=⟨mul_assoc⟩
instance:Std.Commutative (α:=α) (· * ·):=⟨mul_comm⟩
theorem zero_add (a:α):0 + a=a:=by rw [add_comm,add_zero]
theorem neg_add (a:α):-a + a=0:=by rw [add_comm,add_neg]
theorem one_mul (a:α):1 * a=a:=by rw [mul_comm,mul_one]
theorem add_mul (a b c:α):(a + b) * c=a * c + b * c:=by rw [mul_comm,mul_add,mul_comm c a,mul_comm c b]
theorem add_left_cancel {a b c:α} (h:a + b=a + c):b=c:=by
 have:=congrArg (fun x=>-a + x) h
 simpa [← add_assoc,neg_add,zero_add] using this
theorem neg_unique {a b:α} (h:a + b=0):b=-a:=add_left_cancel (a:=a) (by rw [h,add_neg])
theorem neg_neg (a:α):- -a=a:=(neg_unique (neg_add a)).symm
theorem neg_zero:-(0:α)=0:=(neg_unique (add_zero 0)).symm
theorem mul_zero (a:α):a * 0=0:=add_left_cancel (a:=a * 0) (by rw [← mul_add,add_zero,add_zero])
theorem zero_mul (a:α):0 * a=0:=by rw [mul_comm,mul_zero]
theorem mul_neg (a b:α):a * -b=-(a * b):=neg_unique (by rw [← mul_add,add_neg,mul_zero])
theorem neg_mul (a b:α):-a * b=-(a * b):=by rw [mul_comm,mul_neg,mul_comm]
theorem neg_add_rev (a b:α):-(a + b)=-a + -b:=(neg_unique (by
 have:a + b + (-a + -b)=(a + -a) + (b + -b):=by ac_rfl
 rw [this,add_neg,add_neg,add_zero])).symm
theorem sub_self (a:α):a - a=0:=by rw [sub_def,add_neg]
theorem sub_zero (a:α):a - 0=a:=by rw [sub_def,neg_zero,add_zero]
theorem zero_sub (a:α):0 - a=-a:=by rw [sub_def,zero_add]
theorem sub_add_cancel (a b:α):a - b + b=a:=by rw [sub_def,add_assoc,neg_add,add_zero]
theorem add_sub_cancel (a b:α):a + b - b=a:=by rw [sub_def,add_assoc,add_neg,add_zero]
theorem sub_eq_zero {a b:α} (h:a - b=0):a=b:=by
 have:=congrArg (· + b) h
 simpa [sub_add_cancel,zero_add] using this
theorem sub_eq {a b c:α} (h:a=c + b):a - b=c:=by rw [h,add_sub_cancel]
theorem mul_sub (a b c:α):a * (b - c)=a * b - a * c:=by rw [sub_def,mul_add,mul_neg,← sub_def]
theorem sub_mul (a b c:α):(a - b) * c=a * c - b * c:=by rw [sub_def,add_mul,neg_mul,← sub_def]
theorem neg_sub (a b:α):-(a - b)=b - a:=by rw [sub_def,neg_add_rev,neg_neg,add_comm,← sub_def]
def pw (a:α):Nat→α
 | 0=>1
 | n + 1=>pw a n * a
theorem pw_zero (a:α):pw a 0=1:=rfl
theorem pw_succ (a:α) (n:Nat):pw a (n + 1)=pw a n * a:=rfl
theorem pw_one (a:α):pw a 1=a:=by rw [pw_succ,pw_zero,one_mul]
theorem pw_add (a:α) (m n:Nat):pw a (m + n)=pw a m * pw a n:=by
 induction n with
 | zero=>simp [pw_zero,mul_one]
 | succ n ih=>rw [← Nat.add_assoc,pw_succ,ih,pw_succ,mul_assoc]
theorem pw_mul (a:α) (m n:Nat):pw a (m * n)=pw (pw a m) n:=by
 induction n with
 | zero=>simp [pw_zero]
 | succ n ih=>rw [Nat.mul_succ,pw_add,ih,pw_succ]
theorem one_pw (n:Nat):pw (1:α) n=1:=by
 induction n with
 | zero=>rfl
 | succ n ih=>rw [pw_succ,ih,mul_one]
theorem mul_pw (a b:α) (n:Nat):pw (a * b) n=pw a n * pw b n:=by
 induction n with
 | zero=>simp [pw_zero,mul_one]
 | succ n ih=>rw [pw_succ,ih,pw_succ,pw_succ];ac_rfl
def sm:Nat→(Nat→α)→α
 | 0,_=>0
 | n + 1,f=>sm n f + f n
theorem sm_zero (f:Nat→α):sm 0 f=0:=rfl
theorem sm_succ (n:Nat) (f:Nat→α):sm (n + 1) f=sm n f + f n:=rfl
theorem sm_congr {n:Nat} {f g:Nat→α} (h:∀ i,i < n→f i=g i):sm n f=sm n g:=by
 induction n with
 | zero=>rfl
 | succ n ih=>rw [sm_succ,sm_succ,ih (fun i hi=>h i (by omega)),h n (by omega)]
theorem sm_eq_zero {n:Nat} {f:Nat→α} (h:∀ i,i < n→f i=0):sm n f=0:=by
 induction n with
 | zero=>rfl
 | succ n ih=>rw [sm_succ,ih (fun i hi=>h i (by omega)),h n (by omega),add_zero]
theorem sm_add (n:Nat) (f g:Nat→α):sm n (fun i=>f i + g i)=sm n f + sm n g:=by
 induction n with
 | zero=>simp [sm_zero,add_zero]
 | succ n ih=>rw [sm_succ,sm_succ,sm_succ,ih];ac_rfl
theorem sm_neg (n:Nat) (f:Nat→α):sm n (fun i=>-f i)=-sm n f:=by
 induction n with
 | zero=>simp [sm_zero,neg_zero]
 | succ n ih=>rw [sm_succ,sm_succ,ih,neg_add_rev]
theorem sm_sub (n:Nat) (f g:Nat→α):sm n (fun i=>f i - g i)=sm n f - sm n g:=by
 rw [sub_def,← sm_neg,← sm_add];exact sm_congr fun i _=>sub_def _ _
theorem mul_sm (a:α) (n:Nat) (f:Nat→α):a * sm n f=sm n (fun i=>a * f i):=by
 induction n with
 | zero=>simp [sm_zero,mul_zero]
 | succ n ih=>rw [sm_succ,mul_add,ih,sm_succ]
theorem sm_mul (a:α) (n:Nat) (f:Nat→α):sm n f * a=sm n (fun i=>f i * a):=by
 rw [mul_comm,mul_sm];exact sm_congr fun i _=>mul_comm _ _
theorem sm_first (n:Nat) (f:Nat→α):sm (n + 1) f=f 0 + sm n (fun i=>f (i + 1)):=by
 induction n with
 | zero=>simp [sm_succ,sm_zero,add_zero,zero_add]
 | succ n ih=>rw [sm_succ,ih,sm_succ,add_assoc]
theorem sm_split (m n:Nat) (f:Nat→α):sm (m + n) f=sm m f + sm n (fun i=>f (m + i)):=by
 induction n with
 | zero=>simp [sm_zero,add_zero]
 | succ n ih=>rw [← Nat.add_assoc,sm_succ,ih,sm_succ,add_assoc]
theorem sm_rev (n:Nat) (f:Nat→α):sm n f=sm n (fun i=>f (n - 1 - i)):=by
 induction n with
 | zero=>rfl
 | succ n ih =>
  rw [sm_succ,sm_first,ih,add_comm]
  congr 1
  exact sm_congr fun i _=>by congr 1;omega
theorem sm_comm (m n:Nat) (f:Nat→Nat→α):sm m (fun i=>sm n (f i))=sm n (fun j=>sm m (fun i=>f i j)):=by
 induction m with
 | zero=>simp only [sm_zero];exact (sm_eq_zero fun _ _=>rfl).symm
 | succ m ih=>simp only [sm_succ,sm_add,ih]
theorem sm_one {n k:Nat} (hk:k < n) {f:Nat→α} (h:∀ i,i < n→i ≠ k→f i=0):sm n f=f k:=by
 induction n with
 | zero=>omega
 | succ n ih =>
  rw [sm_succ]
  by_cases e:k=n
  ·subst e;rw [sm_eq_zero (fun i hi=>h i (by omega) (by omega)),zero_add]
  ·rw [ih (by omega) (fun i hi hk=>h i (by omega) hk),h n (by omega) (by omega),add_zero]
theorem sm_short {m n:Nat} (hm:m≤n) {f:Nat→α} (h:∀ i,m≤i→i < n→f i=0):sm n f=sm m f:=by
 obtain ⟨k,rfl⟩:=Nat.exists_eq_add_of_le hm
 rw [sm_split,sm_eq_zero (n:=k) (fun i hi=>h _ (by omega) (by omega)),add_zero]
theorem sm_tri (n:Nat) (f:Nat→Nat→α):sm (n + 1) (fun k=>sm (k + 1) (fun i=>f i (k - i)))=sm (n + 1) (fun i=>sm (n - i + 1) (f i)):=by
 induction n with
 | zero=>simp [sm_succ,sm_zero]
 | succ n ih =>
  rw [sm_succ,ih]
  have e1:sm (n + 1 + 1) (fun i=>sm (n + 1 - i + 1) (f i))=sm (n + 1) (fun i=>sm (n - i + 1) (f i) + f i (n + 1 - i)) + sm (0 + 1) (f (n + 1)):=by
   rw [sm_succ]
   congr 1
   ·exact sm_congr fun i hi=>by rw [show n + 1 - i + 1=(n - i + 1) + 1 by omega,sm_succ,show n - i + 1=n + 1 - i by omega]
   ·rw [show n + 1 - (n + 1) + 1=0 + 1 by omega]
  rw [e1,sm_add,sm_succ (n + 1)]
  simp only [sm_succ,sm_zero,Nat.sub_self,zero_add]
  ac_rfl
end Rg
class Fd (α:Type) extends Rg α where
 inv:α→α
 mul_inv:∀ a:α,a ≠ 0→a * inv a=1
 one_ne:(1:α) ≠ 0
namespace Fd
open Rg
variable {α:Type} [Fd α]
theorem inv_mul {a:α} (h:a ≠ 0):inv a * a=1:=by rw [mul_comm,mul_inv a h]
theorem mul_left_cancel {a b c:α} (h:a ≠ 0) (e:a * b=a * c):b=c:=by
 have:=congrArg (fun x=>inv a * x) e
 simpa [← mul_assoc,inv_mul h,one_mul] using this
theorem mul_right_cancel {a b c:α} (h:a ≠ 0) (e:b * a=c * a):b=c:=by
 rw [mul_comm b,mul_comm c] at e;exact mul_left_cancel h e
theorem mul_ne {a b:α} (ha:a ≠ 0) (hb:b ≠ 0):a * b ≠ 0:=fun h=>hb (mul_left_cancel ha (by rw [h,mul_zero]))
theorem mul_eq_zero {a b:α} (h:a * b=0):a=0 ∨ b=0:=by
 by_cases ha:a=0
 ·exact .inl ha
 ·by_cases hb:b=0
  ·exact .inr hb
  ·exact absurd h (mul_ne ha hb)
theorem inv_ne {a:α} (h:a ≠ 0):inv a ≠ 0:=fun e=>one_ne (by rw [← mul_inv a h,e,mul_zero])
theorem pw_ne {a:α} (h:a ≠ 0) (n:Nat):pw a n ≠ 0:=by
 induction n with
 | zero=>exact one_ne
 | succ n ih=>rw [pw_succ];exact mul_ne ih h
theorem inv_unique {a b:α} (h:a * b=1):b=inv a:=by
 have ha:a ≠ 0:=fun e=>one_ne (by rw [← h,e,zero_mul])
 exact mul_left_cancel ha (by rw [h,mul_inv a ha])
end Fd
end Cw
namespace Cw
open Rg
structure PS (α:Type) where
 co:Nat→α
namespace PS
instance {α:Type}:CoeFun (PS α) (fun _=>Nat→α):=⟨PS.co⟩
theorem ext {α:Type} {a b:PS α} (h:∀ i,a i=b i):a=b:=by cases a;cases b;exact congrArg PS.mk (funext h)
section ring
variable {α:Type} [Rg α]
def C (c:α):PS α:=⟨fun i=>if i=0 then c else 0⟩
def X (n:Nat):PS α:=⟨fun i=>if i=n then 1 else 0⟩
instance:Zero (PS α):=⟨⟨fun _=>0⟩⟩
instance:One (PS α):=⟨C 1⟩
instance:Add (PS α):=⟨fun a b=>⟨fun i=>a i + b i⟩⟩
instance:Neg (PS α):=⟨fun a=>⟨fun i=>-a i⟩⟩
instance:Sub (PS α):=⟨fun a b=>⟨fun i=>a i - b i⟩⟩
instance:Mul (PS α):=⟨fun a b=>⟨fun n=>sm (n + 1) (fun i=>a i * b (n - i))⟩⟩
theorem zero_at (i:Nat):(0:PS α) i=0:=rfl
theorem one_at (i:Nat):(1:PS α) i=if i=0 then 1 else 0:=rfl
theorem add_at (a b:PS α) (i:Nat):(a + b) i=a i + b i:=rfl
theorem neg_at (a:PS α) (i:Nat):(-a) i=-a i:=rfl
theorem sub_at (a b:PS α) (i:Nat):(a - b) i=a i - b i:=rfl
theorem mul_at (a b:PS α) (n:Nat):(a * b) n=sm (n + 1) (fun i=>a i * b (n - i)):=rfl
theorem C_at (c:α) (i:Nat):(C c:PS α) i=if i=0 then c else 0:=rfl
theorem X_at (n i:Nat):(X n:PS α) i=if i=n then 1 else 0:=rfl
theorem C_mul_at (c:α) (a:PS α) (n:Nat):(C c * a:PS α) n=c * a n:=by
 rw [mul_at,sm_one (k:=0) (by omega) (fun i _ h=>by rw [C_at,if_neg h,zero_mul]),C_at,if_pos rfl,Nat.sub_zero]
theorem X_mul_at (k:Nat) (a:PS α) (n:Nat):(X k * a:PS α) n=if n < k then 0 else a (n - k):=by
 rw [mul_at]
 split
 ·exact sm_eq_zero fun i hi=>by rw [X_at,if_neg (by omega),zero_mul]
 ·rw [sm_one (k:=k) (by omega) (fun i _ h=>by rw [X_at,if_neg h,zero_mul]),X_at,if_pos rfl,one_mul]
theorem mul_comm' (a b:PS α):a * b=b * a:=ext fun n=>by
 rw [mul_at,mul_at,sm_rev]
 exact sm_congr fun i hi=>by rw [mul_comm,show n + 1 - 1 - i=n - i by omega,show n - (n - i)=i by omega]
theorem mul_assoc' (a b c:PS α):a * b * c=a * (b * c):=ext fun n=>by
 rw [mul_at,mul_at]
 have e1:sm (n + 1) (fun k=>(a * b) k * c (n - k))=sm (n + 1) (fun k=>sm (k + 1) (fun i=>(fun i j=>a i * b j * c (n - i - j)) i (k - i))) :=
  sm_congr fun k hk=>by
   rw [mul_at,sm_mul]
   exact sm_congr fun i hi=>by simp only [];rw [show n - i - (k - i)=n - k by omega]
 rw [e1,sm_tri n (fun i j=>a i * b j * c (n - i - j))]
 exact sm_congr fun i hi=>by
  rw [mul_at,mul_sm]
  exact sm_congr fun j hj=>by rw [mul_assoc]
instance:Rg (PS α) where
 add_assoc a b c:=ext fun i=>add_assoc _ _ _
 add_comm a b:=ext fun i=>add_comm _ _
 add_zero a:=ext fun i=>add_zero _
 add_neg a:=ext fun i=>add_neg _
 sub_def a b:=ext fun i=>sub_def _ _
 mul_assoc:=mul_assoc'
 mul_comm:=mul_comm'
 mul_one a:=by
  rw [mul_comm']
  exact ext fun i=>by
   show (C 1 * a:PS α) i=a i
   rw [C_mul_at,one_mul]
 mul_add a b c:=ext fun n=>by
  rw [add_at,mul_at,mul_at,mul_at,← sm_add]
  exact sm_congr fun i _=>mul_add _ _ _
theorem sm_at (n:Nat) (f:Nat→PS α) (i:Nat):(sm n f) i=sm n (fun j=>f j i):=by
 induction n with
 | zero=>rfl
 | succ n ih=>rw [sm_succ,add_at,ih,sm_succ]
theorem C_zero:(C 0:PS α)=0:=ext fun i=>by rw [C_at,zero_at];split <;> rfl
theorem C_one:(C 1:PS α)=1:=rfl
theorem C_mul (a b:α):(C (a * b):PS α)=C a * C b:=ext fun i=>by rw [C_mul_at,C_at,C_at];split <;> simp [mul_zero]
theorem X_add (m n:Nat):(X (m + n):PS α)=X m * X n:=ext fun i=>by
 rw [X_mul_at,X_at,X_at]
 by_cases h:i < m
 ·rw [if_pos h,if_neg (by omega)]
 ·rw [if_neg h]
  by_cases h2:i=m + n
  ·rw [if_pos h2,if_pos (by omega)]
  ·rw [if_neg h2,if_neg (by omega)]
def dl (a:PS α) (n:Nat):Prop:=∀ i,n≤i→a i=0
theorem dl_mono {a:PS α} {m n:Nat} (h:dl a m) (hm:m≤n):dl a n:=fun i hi=>h i (by omega)
theorem dl_zero (n:Nat):dl (0:PS α) n:=fun _ _=>rfl
theorem dl_eq_zero {a:PS α} (h:dl a 0):a=0:=ext fun i=>h i (by omega)
theorem dl_add {a b:PS α} {n:Nat} (ha:dl a n) (hb:dl b n):dl (a + b) n:=fun i hi=>by rw [add_at,ha i hi,hb i hi,add_zero]
theorem dl_neg {a:PS α} {n:Nat} (ha:dl a n):dl (-a) n:=fun i hi=>by rw [neg_at,ha i hi,neg_zero]
theorem dl_sub {a b:PS α} {n:Nat} (ha:dl a n) (hb:dl b n):dl (a - b) n:=by rw [sub_def];exact dl_add ha (dl_neg hb)
theorem dl_C (c:α):dl (C c) 1:=fun i hi=>by rw [C_at,if_neg (by omega)]
theorem dl_one:dl (1:PS α) 1:=dl_C 1
theorem dl_X (n:Nat):dl (X n:PS α) (n + 1):=fun i hi=>by rw [X_at,if_neg (by omega)]
theorem dl_mul {a b:PS α} {m n:Nat} (ha:dl a m) (hb:dl b n):dl (a * b) (m + n - 1):=fun i hi=>by
 rw [mul_at]
 refine sm_eq_zero fun j hj=>?_
 by_cases h:m≤j
 ·rw [ha j h,zero_mul]
 ·by_cases h2:n≤i - j
  ·rw [hb _ h2,mul_zero]
  ·omega
theorem dl_mul' {a b:PS α} {m n k:Nat} (ha:dl a m) (hb:dl b n) (hk:m + n≤k + 1):dl (a * b) k:=dl_mono (dl_mul ha hb) (by omega)
theorem dl_Cmul {a:PS α} {n:Nat} (c:α) (ha:dl a n):dl (C c * a) n:=fun i hi=>by rw [C_mul_at,ha i hi,mul_zero]
theorem dl_Xmul {a:PS α} {n:Nat} (k:Nat) (ha:dl a n):dl (X k * a) (k + n):=fun i hi=>by
 rw [X_mul_at,if_neg (by omega),ha _ (by omega)]
theorem mul_top {a b:PS α} {m n:Nat} (ha:dl a (m + 1)) (hb:dl b (n + 1)):(a * b) (m + n)=a m * b n:=by
 rw [mul_at,sm_one (k:=m) (by omega) (fun i hi h=>?_),show m + n - m=n by omega]
 by_cases h2:m + 1≤i
 ·rw [ha i h2,zero_mul]
 ·rw [hb _ (by omega),mul_zero]
theorem dl_pred {a:PS α} {n:Nat} (h:dl a (n + 1)) (h0:a n=0):dl a n:=fun i hi=>by
 by_cases e:i=n
 ·rw [e,h0]
 ·exact h i (by omega)
theorem sum_X {a:PS α} {n:Nat} (h:dl a n):a=sm n (fun i=>C (a i) * X i):=ext fun k=>by
 rw [sm_at]
 by_cases hk:k < n
 ·rw [sm_one hk (fun i _ hi=>by rw [C_mul_at,X_at,if_neg (by omega),mul_zero]),C_mul_at,X_at,if_pos rfl,mul_one]
 ·rw [h k (by omega),sm_eq_zero fun i hi=>by rw [C_mul_at,X_at,if_neg (by omega),mul_zero]]
def ev (n:Nat) (a:PS α) (x:α):α:=sm n (fun i=>a i * pw x i)
theorem ev_eq {m n:Nat} {a:PS α} (x:α) (hm:dl a m) (hn:dl a n):ev m a x=ev n a x:=by
 have key:∀ {m n},m≤n→dl a m→ev n a x=ev m a x:=fun h hm=>sm_short h fun i hi _=>by rw [hm i hi,zero_mul]
 rcases Nat.le_total m n with h | h
 ·exact (key h hm).symm
 ·exact key h hn
theorem ev_add (n:Nat) (a b:PS α) (x:α):ev n (a + b) x=ev n a x + ev n b x:=by
 unfold ev;rw [← sm_add];exact sm_congr fun i _=>by rw [add_at,add_mul]
theorem ev_neg (n:Nat) (a:PS α) (x:α):ev n (-a) x=-ev n a x:=by
 unfold ev;rw [← sm_neg];exact sm_congr fun i _=>by rw [neg_at,neg_mul]
theorem ev_sub (n:Nat) (a b:PS α) (x:α):ev n (a - b) x=ev n a x - ev n b x:=by
 rw [sub_def,ev_add,ev_neg,← sub_def]
theorem ev_zero (n:Nat) (x:α):ev n (0:PS α) x=0:=sm_eq_zero fun i _=>by rw [zero_at,zero_mul]
theorem ev_Cmul (n:Nat) (c:α) (a:PS α) (x:α):ev n (C c * a) x=c * ev n a x:=by
 unfold ev;rw [mul_sm];exact sm_congr fun i _=>by rw [C_mul_at,mul_assoc]
theorem ev_C {n:Nat} (hn:0 < n) (c x:α):ev n (C c) x=c:=by
 unfold ev;rw [sm_one hn (fun i _ h=>by rw [C_at,if_neg h,zero_mul]),C_at,if_pos rfl,pw_zero,mul_one]
theorem ev_Xmul (k n:Nat) (a:PS α) (x:α):ev (k + n) (X k * a) x=pw x k * ev n a x:=by
 unfold ev
 rw [sm_split,sm_eq_zero (n:=k) (fun i hi=>by rw [X_mul_at,if_pos hi,zero_mul]),zero_add,mul_sm]
 exact sm_congr fun i _=>by rw [X_mul_at,if_neg (by omega),show k + i - k=i by omega,pw_add];ac_rfl
theorem ev_X {k n:Nat} (hk:k < n) (x:α):ev n (X k:PS α) x=pw x k:=by
 unfold ev;rw [sm_one hk (fun i _ h=>by rw [X_at,if_neg h,zero_mul]),X_at,if_pos rfl,one_mul]
theorem ev_sm (n m:Nat) (f:Nat→PS α) (x:α):ev n (sm m f) x=sm m (fun j=>ev n (f j) x):=by
 induction m with
 | zero=>exact ev_zero n x
 | succ m ih=>rw [sm_succ,ev_add,ih,sm_succ]
theorem ev_mul {m n k:Nat} {a b:PS α} (ha:dl a m) (hb:dl b n) (hk:m + n≤k + 1) (x:α):ev k (a * b) x=ev m a x * ev n b x:=by
 have e:ev (m + n) (a * b) x=ev m a x * ev n b x:=by
  have ea:a * b=sm m (fun i=>C (a i) * (X i * b)):=by
   conv=>lhs;rw [sum_X ha]
   rw [sm_mul];exact sm_congr fun i _=>mul_assoc _ _ _
  rw [ea,ev_sm]
  unfold ev
  rw [sm_mul]
  refine sm_congr fun i hi=>?_
  have h1:=ev_Cmul (m + n) (a i) (X i * b) x
  have h2:=ev_Xmul i n b x
  have h3:ev (m + n) (X i * b) x=ev (i + n) (X i * b) x:=ev_eq x (dl_mono (dl_Xmul i hb) (by omega)) (dl_Xmul i hb)
  rw [show (sm (m + n) fun j=>(C (a i) * (X i * b):PS α) j * pw x j)=ev (m + n) (C (a i) * (X i * b)) x from rfl,h1,h3,h2]
  show _=a i * pw x i * ev n b x
  ac_rfl
 rw [← e]
 exact ev_eq x (dl_mul' ha hb hk) (dl_mul' ha hb (by omega))
def Dv (a b:PS α):Prop:=∃ q n,dl q n∧b=q * a
theorem Dv_zero (a:PS α):Dv a 0:=⟨0,0,dl_zero 0,(zero_mul a).symm⟩
theorem Dv_refl (a:PS α):Dv a a:=⟨1,1,dl_one,(one_mul a).symm⟩
theorem Dv_mul {a b:PS α} (c:PS α) {n:Nat} (hc:dl c n) (h:Dv a b):Dv a (c * b):=by
 obtain ⟨q,m,hq,rfl⟩:=h;exact ⟨c * q,_,dl_mul hc hq,(mul_assoc _ _ _).symm⟩
theorem Dv_add {a b c:PS α} (h:Dv a b) (k:Dv a c):Dv a (b + c):=by
 obtain ⟨q,m,hq,rfl⟩:=h;obtain ⟨r,n,hr,rfl⟩:=k
 exact ⟨q + r,m + n,dl_add (dl_mono hq (by omega)) (dl_mono hr (by omega)),(add_mul _ _ _).symm⟩
theorem Dv_neg {a b:PS α} (h:Dv a b):Dv a (-b):=by
 obtain ⟨q,m,hq,rfl⟩:=h;exact ⟨-q,m,dl_neg hq,(neg_mul _ _).symm⟩
end ring
section field
open Fd
variable {α:Type} [Fd α]
theorem div_ex {b:PS α} {d:Nat} (hb:dl b (d + 1)) (h0:b d ≠ 0):∀ (n:Nat) (a:PS α),dl a n→∃ q r,a=q * b + r∧dl r d∧dl q (n - d):=by
 intro n
 induction n with
 | zero=>exact fun a ha=>⟨0,a,by rw [zero_mul,zero_add],dl_mono ha (by omega),dl_zero _⟩
 | succ n ih =>
  intro a ha
  by_cases hn:n + 1≤d
  ·exact ⟨0,a,by rw [zero_mul,zero_add],dl_mono ha hn,dl_zero _⟩
  ·have hd:d≤n:=by omega
   have hda:dl (a - C (a n * inv (b d)) * (X (n - d) * b)) n:=by
    refine dl_pred (dl_sub ha (dl_Cmul _ (dl_mono (dl_Xmul (n - d) hb) (by omega)))) ?_
    rw [sub_at,C_mul_at,X_mul_at,if_neg (by omega),show n - (n - d)=d by omega,mul_assoc,inv_mul h0,mul_one,sub_self]
   obtain ⟨q,r,he,hr,hq⟩:=ih _ hda
   refine ⟨q + C (a n * inv (b d)) * X (n - d),r, ?_,hr,dl_add (dl_mono hq (by omega)) (dl_Cmul _ (dl_mono (dl_X _) (by omega)))⟩
   generalize C (a n * inv (b d))=c at *
   have:a=(a - c * (X (n - d) * b)) + c * (X (n - d) * b):=(sub_add_cancel _ _).symm
   rw [this,he,add_mul]
   ac_rfl
theorem mul_low {b q:PS α} {d n:Nat} (hb:dl b (d + 1)) (h0:b d ≠ 0) (hq:dl q n) (h:dl (q * b) d):q=0:=by
 induction n with
 | zero=>exact dl_eq_zero hq
 | succ n ih =>
  refine ih (dl_pred hq ?_)
  have:=mul_top hq hb
  rw [h (n + d) (by omega)] at this
  rcases mul_eq_zero this.symm with e | e
  ·exact e
  ·exact absurd e h0
theorem div_unique {b q r q' r':PS α} {d n n':Nat} (hb:dl b (d + 1)) (h0:b d ≠ 0) (hq:dl q n) (hq':dl q' n') (hr:dl r d) (hr':dl r' d)
  (h:q * b + r=q' * b + r'):q=q'∧r=r':=by
 have e:(q - q') * b=r' - r:=by
  have h1:q * b + r - q' * b - r=r' - r:=by rw [h];rw [show q' * b + r'=r' + q' * b by ac_rfl,add_sub_cancel]
  rw [← h1,sub_mul]
  simp only [sub_def]
  have:q * b + r + -(q' * b) + -r=(q * b + -(q' * b)) + (r + -r):=by ac_rfl
  rw [this,add_neg,add_zero]
 have hz:q - q'=0:=mul_low hb h0 (n:=n + n') (dl_sub (dl_mono hq (by omega)) (dl_mono hq' (by omega))) (by rw [e];exact dl_sub hr' hr)
 have hqq:=sub_eq_zero hz
 subst hqq
 exact ⟨rfl,add_left_cancel h⟩
theorem deg_ex {a:PS α} {n:Nat} (h:dl a n) (h0:a ≠ 0):∃ d,d < n∧dl a (d + 1)∧a d ≠ 0:=by
 induction n with
 | zero=>exact absurd (dl_eq_zero h) h0
 | succ n ih =>
  by_cases e:a n=0
  ·obtain ⟨d,hd,h1,h2⟩:=ih (dl_pred h e)
   exact ⟨d,by omega,h1,h2⟩
  ·exact ⟨n,by omega,h,e⟩
theorem root_factor {a:PS α} {n:Nat} {x:α} (ha:dl a (n + 1)) (h:ev (n + 1) a x=0):∃ q,a=q * (X 1 - C x)∧dl q n:=by
 have hb:dl (X 1 - C x:PS α) (1 + 1):=dl_sub (dl_X 1) (dl_mono (dl_C x) (by omega))
 have h1:(X 1 - C x:PS α) 1=1:=by rw [sub_at,X_at,C_at,if_pos rfl,if_neg (by omega),sub_zero]
 obtain ⟨q,r,he,hr,hq⟩:=div_ex hb (by rw [h1];exact one_ne) _ a ha
 refine ⟨q, ?_,dl_mono hq (by omega)⟩
 have hr0:r 0=0:=by
  have e1:=ev_add (n + 2) (q * (X 1 - C x)) r x
  rw [← he,ev_mul (m:=n) (n:=2) (k:=n + 2) (dl_mono hq (by omega)) hb (by omega),ev_sub,ev_X (by omega),ev_C (by omega),pw_one,sub_self,mul_zero,zero_add,
   ev_eq x (dl_mono ha (by omega)) ha,h] at e1
  rw [e1]
  unfold ev
  rw [sm_one (k:=0) (by omega) (fun i _ hi=>by rw [hr i (by omega),zero_mul]),pw_zero,mul_one]
 have:r=0:=dl_eq_zero (dl_pred hr hr0)
 rw [this,add_zero] at he
 exact he
theorem roots_le {n:Nat}:∀ {a:PS α} {l:List α},dl a n→a ≠ 0→l.Nodup→(∀ x ∈ l,ev n a x=0)→l.length < n:=by
 induction n with
 | zero=>exact fun ha h0=>absurd (dl_eq_zero ha) h0
 | succ n ih =>
  intro a l ha h0 hl hr
  cases l with
  | nil=>simp
  | cons x l =>
   obtain ⟨q,he,hq⟩:=root_factor ha (hr x (by simp))
   have hq0:q ≠ 0:=fun e=>h0 (by rw [he,e,zero_mul])
   have hl':=List.nodup_cons.1 hl
   refine Nat.succ_lt_succ (ih hq hq0 hl'.2 fun y hy=>?_)
   have h1:=hr y (by simp [hy])
   rw [he,ev_mul hq (n:=2) (dl_sub (dl_X 1) (dl_mono (dl_C x) (by omega))) (by omega),ev_sub,ev_X (by omega),ev_C (by omega),pw_one] at h1
   rcases mul_eq_zero h1 with e | e
   ·exact e
   ·exact absurd (sub_eq_zero e ▸ hy) hl'.1
end field
end PS
end Cw
namespace Cw
open Rg Fd PS
structure Pl (α:Type) [Fd α] where
 a:PS α
 h:∃ n,dl a n
namespace Pl
variable {α:Type} [Fd α]
theorem ext {x y:Pl α} (h:x.a=y.a):x=y:=by cases x;cases y;cases h;rfl
theorem two {p q:PS α} (hp:∃ n,dl p n) (hq:∃ n,dl q n):∃ n,dl p n∧dl q n:=by
 obtain ⟨m,hm⟩:=hp;obtain ⟨n,hn⟩:=hq
 exact ⟨m + n,dl_mono hm (by omega),dl_mono hn (by omega)⟩
instance:Zero (Pl α):=⟨⟨0,0,dl_zero 0⟩⟩
instance:One (Pl α):=⟨⟨1,1,dl_one⟩⟩
instance:Add (Pl α):=⟨fun x y=>⟨x.a + y.a,let ⟨n,h1,h2⟩:=two x.h y.h;⟨n,dl_add h1 h2⟩⟩⟩
instance:Sub (Pl α):=⟨fun x y=>⟨x.a - y.a,let ⟨n,h1,h2⟩:=two x.h y.h;⟨n,dl_sub h1 h2⟩⟩⟩
instance:Neg (Pl α):=⟨fun x=>⟨-x.a,let ⟨n,h1⟩:=x.h;⟨n,dl_neg h1⟩⟩⟩
instance:Mul (Pl α):=⟨fun x y=>⟨x.a * y.a,let ⟨_,h1,h2⟩:=two x.h y.h;⟨_,dl_mul h1 h2⟩⟩⟩
theorem one_a:(1:Pl α).a=1:=rfl
theorem mul_a (x y:Pl α):(x * y).a=x.a * y.a:=rfl
instance:Rg (Pl α) where
 add_assoc _ _ _:=ext (Rg.add_assoc _ _ _)
 add_comm _ _:=ext (Rg.add_comm _ _)
 add_zero _:=ext (Rg.add_zero _)
 add_neg _:=ext (Rg.add_neg _)
 sub_def _ _:=ext (Rg.sub_def _ _)
 mul_assoc _ _ _:=ext (Rg.mul_assoc _ _ _)
 mul_comm _ _:=ext (Rg.mul_comm _ _)
 mul_one _:=ext (Rg.mul_one _)
 mul_add _ _ _:=ext (Rg.mul_add _ _ _)
def c (x:α):Pl α:=⟨C x,1,dl_C x⟩
def x (n:Nat):Pl α:=⟨X n,n + 1,dl_X n⟩
theorem c_zero:(c 0:Pl α)=0:=ext C_zero
theorem c_one:(c 1:Pl α)=1:=rfl
theorem c_mul (y z:α):(c (y * z):Pl α)=c y * c z:=ext (C_mul _ _)
theorem c_mul_at (y:α) (p:Pl α) (i:Nat):(c y * p).a i=y * p.a i:=C_mul_at _ _ _
theorem x_at (n i:Nat):(x n:Pl α).a i=if i=n then 1 else 0:=rfl
theorem c_at (y:α) (i:Nat):(c y:Pl α).a i=if i=0 then y else 0:=rfl
theorem ln_ex (p:Pl α):∃ n,dl p.a n∧(n=0 ∨ p.a (n - 1) ≠ 0):=by
 obtain ⟨n,hn⟩:=p.h
 by_cases h:p.a=0
 ·exact ⟨0,by rw [h];exact dl_zero 0,.inl rfl⟩
 ·obtain ⟨d,_,h1,h2⟩:=deg_ex hn h
  exact ⟨d + 1,h1,.inr h2⟩
noncomputable def ln (p:Pl α):Nat:=(ln_ex p).choose
theorem ln_dl (p:Pl α):dl p.a p.ln:=(ln_ex p).choose_spec.1
theorem ln_le {p:Pl α} {n:Nat}:p.ln≤n ↔ dl p.a n:=by
 constructor
 ·exact fun h=>dl_mono p.ln_dl h
 ·intro h
  rcases (ln_ex p).choose_spec.2 with e | e
  ·have:p.ln=0:=e
   omega
  ·rcases Nat.lt_or_ge n p.ln with g | g
   ·exact absurd (h _ (by omega)) (show p.a (p.ln - 1) ≠ 0 from e)
   ·exact g
theorem ln_zero:(0:Pl α).ln=0:=Nat.le_zero.1 (ln_le.2 (dl_zero 0))
theorem ln_eq_zero {p:Pl α}:p.ln=0 ↔ p=0:=⟨fun h=>ext (dl_eq_zero (ln_le.1 (by omega))),fun h=>by rw [h,ln_zero]⟩
theorem ln_pos {p:Pl α} (h:p ≠ 0):0 < p.ln:=Nat.pos_of_ne_zero fun e=>h (ln_eq_zero.1 e)
theorem ln_top {p:Pl α} (h:p ≠ 0):p.a (p.ln - 1) ≠ 0:=by
 rcases (ln_ex p).choose_spec.2 with e | e
 ·exact absurd (ln_eq_zero.1 e) h
 ·exact e
theorem ln_eq {p:Pl α} {d:Nat} (h:dl p.a (d + 1)) (h0:p.a d ≠ 0):p.ln=d + 1:=by
 have h1:=ln_le.2 h
 rcases Nat.lt_or_ge d p.ln with g | g
 ·omega
 ·exact absurd (p.ln_dl d g) h0
theorem ne_of_at {p:Pl α} {i:Nat} (h:p.a i ≠ 0):p ≠ 0:=fun e=>h (by rw [e];rfl)
theorem deg {p:Pl α} (h:p ≠ 0):∃ d,p.ln=d + 1∧dl p.a (d + 1)∧p.a d ≠ 0:=by
 obtain ⟨d,hd⟩:∃ d,p.ln=d + 1:=⟨p.ln - 1,by have:=ln_pos h;omega⟩
 have h1:=ln_top h
 have h2:=p.ln_dl
 rw [hd] at h1 h2
 exact ⟨d,hd,h2,h1⟩
theorem ln_sub_le {p q:Pl α} {n:Nat} (hp:p.ln≤n) (hq:q.ln≤n):(p - q).ln≤n:=ln_le.2 (dl_sub (ln_le.1 hp) (ln_le.1 hq))
theorem ln_mul {p q:Pl α} (hp:p ≠ 0) (hq:q ≠ 0):(p * q).ln + 1=p.ln + q.ln:=by
 obtain ⟨d,e1,h1,h2⟩:=deg hp
 obtain ⟨e,e2,h3,h4⟩:=deg hq
 have:(p * q).ln=d + e + 1:=ln_eq (dl_mul' h1 h3 (by omega)) (by rw [mul_a,mul_top h1 h3];exact Fd.mul_ne h2 h4)
 omega
theorem ln_mul_le (p q:Pl α):(p * q).ln≤p.ln + q.ln - 1:=ln_le.2 (dl_mul p.ln_dl q.ln_dl)
theorem mul_ne {p q:Pl α} (hp:p ≠ 0) (hq:q ≠ 0):p * q ≠ 0:=fun e=>by
 have h:=ln_mul hp hq
 have h1:=ln_pos hp
 have h2:=ln_pos hq
 rw [e,ln_zero] at h
 omega
theorem mul_eq_zero {p q:Pl α} (h:p * q=0):p=0 ∨ q=0:=by
 by_cases hp:p=0
 ·exact .inl hp
 ·by_cases hq:q=0
  ·exact .inr hq
  ·exact absurd h (mul_ne hp hq)
theorem mul_left_cancel {p q r:Pl α} (hp:p ≠ 0) (h:p * q=p * r):q=r:=by
 have:p * (q - r)=0:=by rw [mul_sub,h,sub_self]
 rcases mul_eq_zero this with e | e
 ·exact absurd e hp
 ·exact sub_eq_zero e
theorem mul_right_cancel {p q r:Pl α} (hp:p ≠ 0) (h:q * p=r * p):q=r:=mul_left_cancel hp (by rw [mul_comm p,mul_comm p];exact h)
theorem one_ne:(1:Pl α) ≠ 0:=ne_of_at (i:=0) (by rw [one_a,one_at,if_pos rfl];exact Fd.one_ne)
theorem c_ne {y:α} (h:y ≠ 0):(c y:Pl α) ≠ 0:=ne_of_at (i:=0) (by rw [c_at,if_pos rfl];exact h)
theorem ln_c {y:α} (h:y ≠ 0):(c y:Pl α).ln=1:=ln_eq (d:=0) (dl_C y) (by rw [c_at,if_pos rfl];exact h)
theorem ln_one:(1:Pl α).ln=1:=ln_c Fd.one_ne
theorem ln_x (n:Nat):(x n:Pl α).ln=n + 1:=ln_eq (dl_X n) (by rw [x_at,if_pos rfl];exact Fd.one_ne)
theorem of_ln_one {p:Pl α} (h:p.ln≤1):p=c (p.a 0):=ext (PS.ext fun i=>by
 rw [c_at]
 cases i with
 | zero=>rw [if_pos rfl]
 | succ i=>rw [if_neg (by omega)];exact ln_le.1 h _ (by omega))
theorem ln_cmul {y:α} (h:y ≠ 0) (p:Pl α):(c y * p).ln=p.ln:=by
 by_cases hp:p=0
 ·rw [hp,mul_zero]
 ·have:=ln_mul (c_ne h) hp
  rw [ln_c h] at this
  omega
theorem ln_cmul_le (y:α) (p:Pl α):(c y * p).ln≤p.ln:=ln_le.2 (dl_Cmul y p.ln_dl)
theorem div_ex (a:Pl α) {b:Pl α} (hb:b ≠ 0):∃ q r:Pl α,a=q * b + r∧r.ln < b.ln:=by
 obtain ⟨d,e,h1,h2⟩:=deg hb
 obtain ⟨q,r,he,hr,hq⟩:=PS.div_ex h1 h2 _ a.a a.ln_dl
 refine ⟨⟨q,_,hq⟩,⟨r,_,hr⟩,ext he, ?_⟩
 rw [e]
 exact Nat.lt_succ_of_le (ln_le.2 hr)
theorem div_unique {b q r q' r':Pl α} (h:q * b + r=q' * b + r') (hr:r.ln < b.ln) (hr':r'.ln < b.ln):q=q'∧r=r':=by
 have hb:b ≠ 0:=fun e=>by rw [e,ln_zero] at hr;omega
 have e:(q - q') * b=r' - r:=by
  have h1:q * b + r - q' * b - r=r' - r:=by rw [h,show q' * b + r'=r' + q' * b by ac_rfl,add_sub_cancel]
  rw [← h1,sub_mul]
  simp only [sub_def]
  have:q * b + r + -(q' * b) + -r=(q * b + -(q' * b)) + (r + -r):=by ac_rfl
  rw [this,add_neg,add_zero]
 have hz:q - q'=0:=by
  by_cases hq:q - q'=0
  ·exact hq
  ·have h1:=ln_mul hq hb
   have h2:=ln_pos hq
   have h3:((q - q') * b).ln≤b.ln - 1:=by rw [e];exact ln_sub_le (by omega) (by omega)
   omega
 have hqq:=sub_eq_zero hz
 subst hqq
 exact ⟨rfl,add_left_cancel h⟩
theorem qr_ex (a b:Pl α):∃ qr:Pl α × Pl α,a=qr.1 * b + qr.2∧(b ≠ 0→qr.2.ln < b.ln)∧(b=0→qr.1=0):=by
 by_cases hb:b=0
 ·exact ⟨(0,a),by rw [zero_mul,zero_add],fun h=>absurd hb h,fun _=>rfl⟩
 ·obtain ⟨q,r,h1,h2⟩:=div_ex a hb
  exact ⟨(q,r),h1,fun _=>h2,fun h=>absurd h hb⟩
noncomputable def quo (a b:Pl α):Pl α:=(qr_ex a b).choose.1
noncomputable def rem (a b:Pl α):Pl α:=(qr_ex a b).choose.2
theorem div_eq (a b:Pl α):a=quo a b * b + rem a b:=(qr_ex a b).choose_spec.1
theorem rem_lt (a:Pl α) {b:Pl α} (h:b ≠ 0):(rem a b).ln < b.ln:=(qr_ex a b).choose_spec.2.1 h
def Dvd (p q:Pl α):Prop:=∃ k:Pl α,q=k * p
theorem dvd_refl (p:Pl α):Dvd p p:=⟨1,(one_mul p).symm⟩
theorem dvd_zero (p:Pl α):Dvd p 0:=⟨0,(zero_mul p).symm⟩
theorem dvd_trans {p q r:Pl α} (h:Dvd p q) (k:Dvd q r):Dvd p r:=by
 obtain ⟨x,rfl⟩:=h;obtain ⟨y,rfl⟩:=k;exact ⟨y * x,(mul_assoc _ _ _).symm⟩
theorem dvd_mul {p q:Pl α} (r:Pl α) (h:Dvd p q):Dvd p (r * q):=by
 obtain ⟨x,rfl⟩:=h;exact ⟨r * x,(mul_assoc _ _ _).symm⟩
theorem dvd_add {p q r:Pl α} (h:Dvd p q) (k:Dvd p r):Dvd p (q + r):=by
 obtain ⟨x,rfl⟩:=h;obtain ⟨y,rfl⟩:=k;exact ⟨x + y,(add_mul _ _ _).symm⟩
theorem dvd_neg {p q:Pl α} (h:Dvd p q):Dvd p (-q):=by obtain ⟨x,rfl⟩:=h;exact ⟨-x,(neg_mul _ _).symm⟩
theorem dvd_sub {p q r:Pl α} (h:Dvd p q) (k:Dvd p r):Dvd p (q - r):=by rw [sub_def];exact dvd_add h (dvd_neg k)
theorem dvd_ln {p q:Pl α} (h:Dvd p q) (hq:q ≠ 0):p.ln≤q.ln:=by
 obtain ⟨k,rfl⟩:=h
 have hk:k ≠ 0:=fun e=>hq (by rw [e,zero_mul])
 have hp:p ≠ 0:=fun e=>hq (by rw [e,mul_zero])
 have:=ln_mul hk hp
 have:=ln_pos hk
 omega
theorem zero_dvd {q:Pl α} (h:Dvd 0 q):q=0:=by obtain ⟨k,rfl⟩:=h;exact mul_zero k
theorem rem_dvd {p a b:Pl α} (ha:Dvd p a) (hb:Dvd p b):Dvd p (rem a b):=by
 have h:rem a b=a - quo a b * b:=(sub_eq (by rw [add_comm];exact div_eq a b)).symm
 rw [h]
 exact dvd_sub ha (dvd_mul _ hb)
theorem dvd_of_rem {p a b:Pl α} (hr:Dvd p (rem a b)) (hb:Dvd p b):Dvd p a:=by
 rw [div_eq a b]
 exact dvd_add (dvd_mul _ hb) hr
theorem c_dvd {y:α} (h:y ≠ 0) {p q:Pl α}:Dvd (c y * p) q ↔ Dvd p q:=by
 constructor
 ·rintro ⟨k,rfl⟩
  exact ⟨k * c y,by rw [mul_assoc]⟩
 ·rintro ⟨k,rfl⟩
  exact ⟨k * c (inv y),by
   have:k * c (inv y) * (c y * p)=k * (c (inv y) * c y) * p:=by ac_rfl
   rw [this,← c_mul,Fd.inv_mul h,c_one,mul_one]⟩
/-! ### The leading coefficient;monic polynomials -/
noncomputable def lc (p:Pl α):α:=p.a (p.ln - 1)
noncomputable def mon (p:Pl α):Pl α:=c (inv p.lc) * p
theorem lc_ne {p:Pl α} (h:p ≠ 0):p.lc ≠ 0:=ln_top h
theorem mon_zero:mon (0:Pl α)=0:=mul_zero _
theorem ln_mon (p:Pl α):(mon p).ln=p.ln:=by
 by_cases h:p=0
 ·rw [h,mon_zero]
 ·exact ln_cmul (inv_ne (lc_ne h)) p
theorem lc_mon {p:Pl α} (h:p ≠ 0):(mon p).lc=1:=by
 unfold lc
 rw [ln_mon]
 show (c (inv p.lc) * p).a _=1
 rw [c_mul_at]
 exact inv_mul (lc_ne h)
theorem inv_one:inv (1:α)=1:=(inv_unique (mul_one 1)).symm
theorem mon_of {p:Pl α} (h:p.lc=1):mon p=p:=by unfold mon;rw [h,inv_one,c_one,one_mul]
theorem mon_mon (p:Pl α):mon (mon p)=mon p:=by
 by_cases h:p=0
 ·rw [h,mon_zero,mon_zero]
 ·exact mon_of (lc_mon h)
theorem mon_dvd {p q:Pl α}:Dvd (mon p) q ↔ Dvd p q:=by
 by_cases h:p=0
 ·rw [h,mon_zero]
 ·exact c_dvd (inv_ne (lc_ne h))
theorem dvd_mon {p q:Pl α} (h:Dvd p q):Dvd p (mon q):=dvd_mul _ h
theorem lc_mul {p q:Pl α} (hp:p ≠ 0) (hq:q ≠ 0):(p * q).lc=p.lc * q.lc:=by
 obtain ⟨d,e1,h1,h2⟩:=deg hp
 obtain ⟨e,e2,h3,h4⟩:=deg hq
 have:=ln_mul hp hq
 unfold lc
 rw [show (p * q).ln - 1=d + e by omega,e1,e2,mul_a,mul_top h1 h3]
 rfl
theorem dvd_antisymm {p q:Pl α} (h:Dvd p q) (k:Dvd q p):mon p=mon q:=by
 by_cases hp:p=0
 ·subst hp
  rw [zero_dvd h]
 have hq:q ≠ 0:=fun e=>hp (by rw [e] at k;exact zero_dvd k)
 have h1:=dvd_ln h hq
 have h2:=dvd_ln k hp
 obtain ⟨y,rfl⟩:=h
 have hy:y ≠ 0:=fun e=>hq (by rw [e,zero_mul])
 have h3:=ln_mul hy hp
 have h4:=of_ln_one (p:=y) (by omega)
 have hy0:y.a 0 ≠ 0:=fun e=>hy (by rw [h4,e,c_zero])
 have h5:(y * p).lc=y.a 0 * p.lc:=by
  rw [lc_mul hy hp]
  unfold lc
  rw [show y.ln - 1=0 by omega]
 unfold mon
 rw [h5,← mul_assoc,congrArg (c (inv (y.a 0 * p.lc)) * · * p) h4]
 show _=c (inv (y.a 0 * p.lc)) * c (y.a 0) * p
 rw [← c_mul]
 congr 2
 refine Fd.mul_left_cancel (lc_ne hp) ?_
 rw [mul_inv _ (lc_ne hp)]
 have:p.lc * (inv (y.a 0 * p.lc) * y.a 0)=(y.a 0 * p.lc) * inv (y.a 0 * p.lc):=by ac_rfl
 rw [this,mul_inv _ (Fd.mul_ne hy0 (lc_ne hp))]
/-! ### Greatest common divisors -/
structure IsGcd (a b d:Pl α):Prop where
 m:mon d=d
 l:Dvd d a
 r:Dvd d b
 g:∀ p,Dvd p a→Dvd p b→Dvd p d
theorem gcd_base (a:Pl α):IsGcd a 0 (mon a):=⟨mon_mon a,mon_dvd.2 (dvd_refl a),dvd_zero _,fun _ h _=>dvd_mon h⟩
theorem gcd_step {a b d:Pl α} (h:IsGcd b (rem a b) d):IsGcd a b d:=⟨h.m,dvd_of_rem h.r h.l,h.l,fun p ha hb=>h.g p hb (rem_dvd ha hb)⟩
theorem gcd_ex:∀ (n:Nat) (a b:Pl α),b.ln≤n→∃ d,IsGcd a b d
 | 0,a,b,h=>by
  rw [ln_eq_zero.1 (Nat.le_zero.1 h)]
  exact ⟨_,gcd_base a⟩
 | n + 1,a,b,h=>by
  by_cases hb:b=0
  ·rw [hb];exact ⟨_,gcd_base a⟩
  ·have:=rem_lt a hb
   obtain ⟨d,hd⟩:=gcd_ex n b (rem a b) (by omega)
   exact ⟨d,gcd_step hd⟩
noncomputable def gcd (a b:Pl α):Pl α:=(gcd_ex _ a b (Nat.le_refl _)).choose
noncomputable def ev (p:Pl α) (y:α):α:=PS.ev p.ln p.a y
theorem ev_of {p:Pl α} {n:Nat} (h:dl p.a n) (y:α):PS.ev n p.a y=ev p y:=PS.ev_eq y h p.ln_dl
theorem ev_add (p q:Pl α) (y:α):ev (p + q) y=ev p y + ev q y:=by
 obtain ⟨n,h1,h2⟩:=two p.h q.h
 rw [← ev_of (n:=n) (dl_add h1 h2),← ev_of h1,← ev_of h2]
 exact PS.ev_add _ _ _ _
theorem ev_sub (p q:Pl α) (y:α):ev (p - q) y=ev p y - ev q y:=by
 obtain ⟨n,h1,h2⟩:=two p.h q.h
 rw [← ev_of (n:=n) (dl_sub h1 h2),← ev_of h1,← ev_of h2]
 exact PS.ev_sub _ _ _ _
theorem ev_neg (p:Pl α) (y:α):ev (-p) y=-ev p y:=by
 obtain ⟨n,h1⟩:=p.h
 rw [← ev_of (n:=n) (dl_neg h1),← ev_of h1]
 exact PS.ev_neg _ _ _
theorem ev_mul (p q:Pl α) (y:α):ev (p * q) y=ev p y * ev q y:=by
 obtain ⟨n,h1,h2⟩:=two p.h q.h
 rw [← ev_of (n:=n + n) (dl_mono (dl_mul h1 h2) (by omega)),← ev_of h1,← ev_of h2]
 exact PS.ev_mul h1 h2 (by omega) _
theorem ev_zero (y:α):ev (0:Pl α) y=0:=PS.ev_zero _ _
theorem ev_sm (n:Nat) (f:Nat→Pl α) (y:α):ev (sm n f) y=sm n (fun i=>ev (f i) y):=by
 induction n with
 | zero=>exact ev_zero y
 | succ n ih=>rw [sm_succ,ev_add,ih];rfl
theorem roots_le {p:Pl α} {l:List α} (h:p ≠ 0) (hl:l.Nodup) (hr:∀ y ∈ l,ev p y=0):l.length < p.ln:=PS.roots_le p.ln_dl (fun e=>h (ext e)) hl hr
end Pl
end Cw
namespace Cw
open Rg Fd PS
namespace Pl
variable {α:Type} [Fd α]
/-! ### The derivative -/
def tl (p:Pl α):Pl α:=⟨⟨fun i=>p.a (i + 1)⟩,let ⟨n,h⟩:=p.h;⟨n,fun i hi=>h (i + 1) (by omega)⟩⟩
noncomputable def hor (p q:Pl α) (n:Nat):Nat→Pl α
 | 0=>0
 | k + 1=>hor p q n k * q + c (p.a (n - 1 - k))
def rv (n:Nat) (p:Pl α):Pl α:=⟨⟨fun i=>if i≤n then p.a (n - i) else 0⟩,n + 1,fun i hi=>by show (if i≤n then p.a (n - i) else 0)=0;rw [if_neg (by omega)]⟩
end Pl
end Cw
namespace Cw
open Rg Fd PS
namespace Pl
variable {α:Type} [Fd α]
structure Reg (c:Pl α) (l:Nat) (s:PS α) (n:Nat):Prop where
 one:c.a 0=1
 len:c.ln≤l + 1
 gen:∀ j,l≤j→j < n→(c.a * s) j=0
theorem Reg.mono {c:Pl α} {l n m:Nat} {s:PS α} (h:Reg c l s n) (hm:m≤n):Reg c l s m:=⟨h.one,h.len,fun j h1 h2=>h.gen j h1 (by omega)⟩
theorem Reg.ne {c:Pl α} {l n:Nat} {s:PS α} (h:Reg c l s n):c ≠ 0:=ne_of_at (i:=0) (by rw [h.one];exact Fd.one_ne)
theorem massey {c c':Pl α} {l l' n:Nat} {s:PS α} (h:Reg c l s n) (hd:(c.a * s) n ≠ 0) (k:Reg c' l' s (n + 1)):n + 1≤l + l':=by
 rcases Nat.lt_or_ge n (l + l') with g | g
 ·omega
 ·exfalso
  refine hd ?_
  have e1:(c'.a * (c.a * s)) n=(c.a * s) n:=by
   rw [PS.mul_at,sm_one (k:=0) (by omega) (fun i hi h0=>?_),k.one,one_mul,Nat.sub_zero]
   by_cases hl:i≤l'
   ·rw [h.gen (n - i) (by omega) (by omega),mul_zero]
   ·rw [ln_le.1 k.len i (by omega),zero_mul]
  have e2:(c.a * (c'.a * s)) n=0:=by
   rw [PS.mul_at]
   refine sm_eq_zero fun i hi=>?_
   by_cases hl:i≤l
   ·rw [k.gen (n - i) (by omega) (by omega),mul_zero]
   ·rw [ln_le.1 h.len i (by omega),zero_mul]
  rw [← e1,← e2]
  congr 1
  ac_rfl
structure BM (s:PS α) (c old:Pl α) (b:α) (l since j:Nat):Prop where
 reg:Reg c l s j
 least:∀ c' l',Reg c' l' s j→l≤l'
 hb:b ≠ 0
 s1:1≤since
 s2:l + since≤j + 1
 od:old.ln + l + since≤j + 2
 oz:∀ i,j + 1≤i + l + since→i + since < j→(old.a * s) i=0
 ob:since≤j→(old.a * s) (j - since)=b
 o0:since=j + 1→l=0
theorem bm_start (s:PS α):BM s 1 1 1 0 1 0:=⟨⟨by rw [one_a,one_at,if_pos rfl],by rw [ln_one];omega,fun j _ h=>by omega⟩,fun _ _ _=>by omega,Fd.one_ne,by omega,by omega,by rw [ln_one];omega,fun i _ h=>by omega,fun h=>by omega,fun _=>rfl⟩
theorem bm_zero {s:PS α} {c old:Pl α} {b:α} {l since j:Nat} (h:BM s c old b l since j) (hd:(c.a * s) j=0):BM s c old b l (since + 1) (j + 1) where
 reg:=⟨h.reg.one,h.reg.len,fun i h1 h2=>by
  by_cases e:i=j
  ·rw [e,hd]
  ·exact h.reg.gen i h1 (by omega)⟩
 least:=fun c' l' k=>h.least c' l' (k.mono (by omega))
 hb:=h.hb
 s1:=by omega
 s2:=by have:=h.s2;omega
 od:=by have:=h.od;omega
 oz:=fun i h1 h2=>h.oz i (by omega) (by omega)
 ob:=fun h1=>by rw [show j + 1 - (since + 1)=j - since by omega];exact h.ob (by omega)
 o0:=fun h1=>h.o0 (by omega)
def bmn (c old:Pl α) (q:α) (since:Nat):Pl α:=c - x since * (Pl.c q * old)
theorem bmn_a (c old:Pl α) (q:α) (since:Nat) (s:PS α) (i:Nat):((bmn c old q since).a * s) i=(c.a * s) i - if i < since then 0 else q * (old.a * s) (i - since):=by
 have e:(bmn c old q since).a * s=c.a * s - X since * (C q * (old.a * s)):=by
  show (c.a - X since * (C q * old.a)) * s=_
  rw [sub_mul]
  congr 1
  ac_rfl
 rw [e,sub_at,X_mul_at]
 split
 ·rfl
 ·rw [C_mul_at]
theorem bmn_gen {s:PS α} {c old:Pl α} {b:α} {l since j:Nat} (h:BM s c old b l since j) {m:Nat} (hm1:l≤m) (hm2:j + 1≤m + l):∀ i,m≤i→i < j + 1→((bmn c old ((c.a * s) j * inv b) since).a * s) i=0:=fun i h1 h2=>by
 rw [bmn_a]
 by_cases e:i=j
 ·subst e
  by_cases hs:i < since
  ·have:=h.s2
   have:=h.o0 (by omega)
   omega
  ·rw [if_neg hs,h.ob (by omega),mul_assoc,inv_mul h.hb,mul_one,sub_self]
 ·rw [h.reg.gen i (by omega) (by omega),zero_sub]
  split
  ·rw [neg_zero]
  ·rw [h.oz (i - since) (by omega) (by omega),mul_zero,neg_zero]
theorem bmn_one {s:PS α} {c old:Pl α} {b:α} {l since j:Nat} (h:BM s c old b l since j) (q:α):(bmn c old q since).a 0=1:=by
 show (c.a - X since * (C q * old.a):PS α) 0=1
 have h1:=h.s1
 rw [sub_at,X_mul_at,if_pos (by omega),sub_zero,h.reg.one]
theorem bmn_len {s:PS α} {c old:Pl α} {b:α} {l since j:Nat} (h:BM s c old b l since j) (q:α) {m:Nat} (hm1:l≤m) (hm2:j + 1≤m + l):(bmn c old q since).ln≤m + 1:=by
 refine ln_sub_le (Nat.le_trans h.reg.len (by omega)) (Nat.le_trans (ln_mul_le _ _) ?_)
 have h1:=ln_cmul_le q old
 have h2:=h.od
 rw [ln_x]
 show since + 1 + (Pl.c q * old).ln - 1≤m + 1
 omega
theorem bm_jump {s:PS α} {c old:Pl α} {b:α} {l since j:Nat} (h:BM s c old b l since j) (hd:(c.a * s) j ≠ 0) (hl:2 * l≤j) :
  BM s (bmn c old ((c.a * s) j * inv b) since) c ((c.a * s) j) (j + 1 - l) 1 (j + 1) where
 reg:=⟨bmn_one h _,bmn_len h _ (by omega) (by omega),bmn_gen h (by omega) (by omega)⟩
 least:=fun c' l' k=>by have:=massey h.reg hd k;omega
 hb:=hd
 s1:=by omega
 s2:=by omega
 od:=by have:=h.reg.len;omega
 oz:=fun i h1 h2=>h.reg.gen i (by omega) (by omega)
 ob:=fun _=>by rw [Nat.add_sub_cancel]
 o0:=fun h1=>by omega
theorem bm_stay {s:PS α} {c old:Pl α} {b:α} {l since j:Nat} (h:BM s c old b l since j) (hl:j < 2 * l) :
  BM s (bmn c old ((c.a * s) j * inv b) since) old b l (since + 1) (j + 1) where
 reg:=⟨bmn_one h _,bmn_len h _ (by omega) (by omega),bmn_gen h (by omega) (by omega)⟩
 least:=fun c' l' k=>h.least c' l' (k.mono (by omega))
 hb:=h.hb
 s1:=by omega
 s2:=by have:=h.s2;omega
 od:=by have:=h.od;omega
 oz:=fun i h1 h2=>h.oz i (by omega) (by omega)
 ob:=fun h1=>by rw [show j + 1 - (since + 1)=j - since by omega];exact h.ob (by omega)
 o0:=fun h1=>by have:=h.s2;omega
structure IsCx (s:PS α) (n l:Nat):Prop where
 ex:∃ c,Reg c l s n
 least:∀ c' l',Reg c' l' s n→l≤l'
theorem BM.cx {s:PS α} {c old:Pl α} {b:α} {l since j:Nat} (h:BM s c old b l since j):IsCx s j l:=⟨⟨c,h.reg⟩,h.least⟩
theorem Reg.up {c:Pl α} {l n m:Nat} {s:PS α} (h:Reg c l s n) (hm:l≤m):Reg c m s n:=⟨h.one,by have:=h.len;omega,fun j h1 h2=>h.gen j (by omega) h2⟩
theorem cx_ex (s:PS α):∀ n,∃ l c old b since,BM s c old b l since n
 | 0=>⟨_,_,_,_,_,bm_start s⟩
 | n + 1=>by
  obtain ⟨l,c,old,b,since,h⟩:=cx_ex s n
  by_cases hd:(c.a * s) n=0
  ·exact ⟨_,_,_,_,_,bm_zero h hd⟩
  ·rcases Nat.lt_or_ge n (2 * l) with g | g
   ·exact ⟨_,_,_,_,_,bm_stay h g⟩
   ·exact ⟨_,_,_,_,_,bm_jump h hd g⟩
noncomputable def cx (s:PS α) (n:Nat):Nat:=(cx_ex s n).choose
def cut (s:PS α) (n:Nat):Pl α:=⟨⟨fun i=>if i < n then s i else 0⟩,n,fun i hi=>by show (if i < n then s i else 0)=0;rw [if_neg (by omega)]⟩
end Pl
end Cw
namespace Cw
open Rg Fd PS
namespace Rk
variable {α:Type} [Fd α]
def put {β:Type} (x:Nat→β) (c:Nat) (t:β):Nat→β:=fun k=>if k < c then x k else t
theorem put_lt {β:Type} {x:Nat→β} {c:Nat} {t:β} {k:Nat} (h:k < c):put x c t k=x k:=if_pos h
theorem put_ge {β:Type} {x:Nat→β} {c:Nat} {t:β} {k:Nat} (h:¬ k < c):put x c t k=t:=if_neg h
theorem sm_put (a x:Nat→α) (c:Nat) (t:α):sm (c + 1) (fun k=>a k * put x c t k)=sm c (fun k=>a k * x k) + a c * t:=by
 rw [sm_succ,put_ge (by omega)]
 congr 1
 exact sm_congr fun k hk=>by rw [put_lt hk]
def Sol (A:Nat→Nat→α) (n c:Nat) (x:Nat→α):Prop:=∀ i,i < n→sm c (fun k=>A i k * x k)=0
def Piv (A:Nat→Nat→α) (n c:Nat):Prop:=∀ x,Sol A n (c + 1) x→x c=0
open Classical in
noncomputable def rk (A:Nat→Nat→α) (n:Nat):Nat→Nat
 | 0=>0
 | c + 1=>rk A n c + if Piv A n c then 1 else 0
theorem rk_yes {A:Nat→Nat→α} {n c:Nat} (h:Piv A n c):rk A n (c + 1)=rk A n c + 1:=by rw [rk,if_pos h]
theorem rk_no {A:Nat→Nat→α} {n c:Nat} (h:¬ Piv A n c):rk A n (c + 1)=rk A n c:=by rw [rk,if_neg h];rfl
theorem rk_le (A:Nat→Nat→α) (n:Nat):∀ c,rk A n c≤c
 | 0=>Nat.le_refl _
 | c + 1=>by
  have:=rk_le A n c
  by_cases g:Piv A n c
  ·rw [rk_yes g];omega
  ·rw [rk_no g];omega
theorem rk_full {A:Nat→Nat→α} {n c:Nat}:rk A n c=c ↔ ∀ x,Sol A n c x→∀ k,k < c→x k=0:=by
 induction c with
 | zero=>exact ⟨fun _ _ _ k hk=>by omega,fun _=>rfl⟩
 | succ c ih =>
  have hle:=rk_le A n c
  constructor
  ·intro h x hx
   have g:Piv A n c:=Classical.byContradiction fun g=>by rw [rk_no g] at h;omega
   rw [rk_yes g] at h
   have hc:=g x hx
   have hx':Sol A n c x:=fun i hi=>by
    have:=hx i hi
    rw [sm_succ,hc,mul_zero,add_zero] at this
    exact this
   intro k hk
   by_cases e:k=c
   ·rw [e,hc]
   ·exact ih.1 (by omega) x hx' k (by omega)
  ·intro h
   have g:Piv A n c:=fun x hx=>h x hx c (by omega)
   rw [rk_yes g,ih.2 fun x hx k hk=>?_]
   have:=h (put x c 0) (fun i hi=>by
    rw [sm_put,mul_zero,add_zero]
    exact hx i hi) k (by omega)
   rwa [put_lt hk] at this
structure GS (A:Nat→Nat→α) (n cols c r:Nat) (B:Nat→Nat→α):Prop where
 eqv:∀ m x,m≤cols→(Sol B n m x ↔ Sol A n m x)
 low:∀ i k,r≤i→i < n→k < c→B i k=0
 sur:∀ y:Nat→α,∃ x:Nat→α,∀ i,i < r→sm c (fun k=>B i k * x k)=y i
 cnt:r=rk A n c
 rn:r≤n
theorem gs_start (A:Nat→Nat→α) (n cols:Nat):GS A n cols 0 0 A:=⟨fun _ _ _=>Iff.rfl,fun _ _ _ _ h=>by omega,fun _=>⟨fun _=>0,fun _ h=>by omega⟩,rfl,by omega⟩
theorem gs_none {A B:Nat→Nat→α} {n cols c r:Nat} (h:GS A n cols c r B) (hc:c < cols) (hz:∀ i,r≤i→i < n→B i c=0):GS A n cols (c + 1) r B:=by
 refine ⟨h.eqv,fun i k h1 h2 h3=>?_,fun y=>?_, ?_,h.rn⟩
 ·by_cases e:k=c
  ·rw [e];exact hz i h1 h2
  ·exact h.low i k h1 h2 (by omega)
 ·obtain ⟨x,hx⟩:=h.sur y
  refine ⟨put x c 0,fun i hi=>?_⟩
  rw [sm_put,mul_zero,add_zero]
  exact hx i hi
 ·rw [rk_no,← h.cnt]
  intro g
  obtain ⟨x,hx⟩:=h.sur (fun i=>-B i c)
  have hs:Sol B n (c + 1) (put x c 1):=fun i hi=>by
   rw [sm_put,mul_one]
   by_cases hir:i < r
   ·rw [hx i hir,neg_add]
   ·rw [hz i (by omega) hi,add_zero]
    exact sm_eq_zero fun k hk=>by rw [h.low i k (by omega) hi hk,zero_mul]
  have:=g _ ((h.eqv (c + 1) _ (by omega)).1 hs)
  rw [put_ge (by omega)] at this
  exact Fd.one_ne this
def swp (B:Nat→Nat→α) (r p:Nat):Nat→Nat→α:=fun i=>if i=r then B p else if i=p then B r else B i
def elm (B:Nat→Nat→α) (c r:Nat):Nat→Nat→α:=fun i k=>if i≤r then B i k else B i k - B i c * inv (B r c) * B r k
theorem sol_swp {B:Nat→Nat→α} {n r p m:Nat} {x:Nat→α} (hr:r < n) (hp:p < n):Sol (swp B r p) n m x ↔ Sol B n m x:=by
 have f:∀ (B:Nat→Nat→α),Sol B n m x→Sol (swp B r p) n m x:=fun B g i hi=>by
  unfold swp
  by_cases e:i=r
  ·rw [if_pos e];exact g p hp
  ·rw [if_neg e]
   by_cases e2:i=p
   ·rw [if_pos e2];exact g r hr
   ·rw [if_neg e2];exact g i hi
 refine ⟨fun g=>?_,f B⟩
 have:=f _ g
 have e:swp (swp B r p) r p=B:=funext fun i=>by
  unfold swp
  by_cases e:i=r
  ·subst e
   rw [if_pos rfl]
   by_cases e2:p=i
   ·rw [if_pos e2,e2]
   ·rw [if_neg e2,if_pos rfl]
  ·rw [if_neg e]
   by_cases e2:i=p
   ·subst e2;rw [if_pos rfl,if_pos rfl]
   ·rw [if_neg e2,if_neg e,if_neg e2]
 rwa [e] at this
theorem elm_sm {B:Nat→Nat→α} {c r m i:Nat} {x:Nat→α} (h:¬ i≤r):sm m (fun k=>elm B c r i k * x k)=sm m (fun k=>B i k * x k) - B i c * inv (B r c) * sm m (fun k=>B r k * x k):=by
 unfold elm
 rw [mul_sm,← sm_sub]
 refine sm_congr fun k _=>?_
 rw [if_neg h,sub_mul,mul_assoc (B i c * inv (B r c))]
theorem sol_elm {B:Nat→Nat→α} {n c r m:Nat} {x:Nat→α} (hr:r < n):Sol (elm B c r) n m x ↔ Sol B n m x:=by
 have e0:∀ i,i≤r→sm m (fun k=>elm B c r i k * x k)=sm m (fun k=>B i k * x k):=fun i hi=>sm_congr fun k _=>by unfold elm;rw [if_pos hi]
 constructor
 ·intro g i hi
  have hrz:=g r hr
  rw [e0 r (Nat.le_refl _)] at hrz
  by_cases e:i≤r
  ·rw [← e0 i e];exact g i hi
  ·have:=g i hi
   rw [elm_sm e,hrz,mul_zero,sub_zero] at this
   exact this
 ·intro g i hi
  by_cases e:i≤r
  ·rw [e0 i e];exact g i hi
  ·rw [elm_sm e,g i hi,g r hr,mul_zero,sub_zero]
theorem gs_pivot {A B:Nat→Nat→α} {n cols c r p:Nat} (h:GS A n cols c r B) (hc:c < cols) (h1:r≤p) (h2:p < n) (hp:B p c ≠ 0):GS A n cols (c + 1) (r + 1) (elm (swp B r p) c r):=by
 have hrr:(swp B r p) r=B p:=by unfold swp;rw [if_pos rfl]
 have hlow:∀ i k,r≤i→i < n→k < c→swp B r p i k=0:=fun i k g1 g2 g3=>by
  unfold swp
  by_cases e:i=r
  ·rw [if_pos e];exact h.low p k h1 h2 g3
  ·rw [if_neg e]
   by_cases e2:i=p
   ·rw [if_pos e2];exact h.low r k (Nat.le_refl _) (by omega) g3
   ·rw [if_neg e2];exact h.low i k g1 g2 g3
 have htop:∀ i,i < r→elm (swp B r p) c r i=B i:=fun i hi=>funext fun k=>by
  unfold elm swp
  rw [if_pos (by omega),if_neg (by omega),if_neg (by omega)]
 have hrow:elm (swp B r p) c r r=B p:=funext fun k=>by
  unfold elm
  rw [if_pos (Nat.le_refl _),hrr]
 have heqv:∀ m x,m≤cols→(Sol (elm (swp B r p) c r) n m x ↔ Sol A n m x):=fun m x hm=>(sol_elm (by omega)).trans ((sol_swp (by omega) h2).trans (h.eqv m x hm))
 refine ⟨heqv,fun i k g1 g2 g3=>?_,fun y=>?_, ?_,by omega⟩
 ·unfold elm
  rw [if_neg (by omega)]
  by_cases e:k=c
  ·subst e
   rw [mul_assoc,hrr,inv_mul hp,mul_one,sub_self]
  ·rw [hlow i k (by omega) g2 (by omega),hlow r k (Nat.le_refl _) (by omega) (by omega),mul_zero,sub_zero]
 ·obtain ⟨x,hx⟩:=h.sur (fun i=>y i - B i c * (y r * inv (B p c)))
  refine ⟨put x c (y r * inv (B p c)),fun i hi=>?_⟩
  rw [sm_put]
  by_cases e:i=r
  ·subst e
   rw [hrow,sm_eq_zero (fun k hk=>by rw [h.low p k h1 h2 hk,zero_mul]),zero_add]
   rw [show B p c * (y i * inv (B p c))=y i * (B p c * inv (B p c)) by ac_rfl,mul_inv _ hp,mul_one]
  ·rw [htop i (by omega),hx i (by omega),sub_add_cancel]
 ·rw [rk_yes,← h.cnt]
  intro x hx
  have:=(heqv (c + 1) x (by omega)).2 hx r (by omega)
  rw [hrow,sm_succ,sm_eq_zero (fun k hk=>by rw [h.low p k h1 h2 hk,zero_mul]),zero_add] at this
  rcases Fd.mul_eq_zero this with e | e
  ·exact absurd e hp
  ·exact e
theorem gs_ex (A:Nat→Nat→α) (n cols:Nat):∀ c,c≤cols→∃ r B,GS A n cols c r B
 | 0,_=>⟨_,_,gs_start A n cols⟩
 | c + 1,hc=>by
  obtain ⟨r,B,h⟩:=gs_ex A n cols c (by omega)
  by_cases g:∃ p,r≤p∧p < n∧B p c ≠ 0
  ·obtain ⟨p,h1,h2,hp⟩:=g
   exact ⟨_,_,gs_pivot h hc h1 h2 hp⟩
  ·exact ⟨_,_,gs_none h hc fun i h1 h2=>Classical.byContradiction fun e=>g ⟨i,h1,h2,e⟩⟩
theorem rk_rows (A:Nat→Nat→α) (n c:Nat):rk A n c≤n:=by
 obtain ⟨r,B,h⟩:=gs_ex A n c c (Nat.le_refl _)
 rw [← h.cnt]
 exact h.rn
/-! ### The equations of registers -/
end Rk
end Cw
namespace Cw
open Rg Fd PS
namespace Pl
variable {α:Type} [Fd α]
def cnt (s:Nat→Bool):Nat→Nat
 | 0=>0
 | k + 1=>cnt s k + if s k then 1 else 0
end Pl
end Cw
namespace Cw
open Rg Fd PS
namespace Dm
variable {α:Type} [Fd α]
def cmb (R:Nat→Nat→α) (m:Nat) (y:Nat→α):Nat→α:=fun k=>sm m (fun i=>y i * R i k)
structure Bas (R:Nat→Nat→α) (m n:Nat) (V:(Nat→α)→Prop):Prop where
 mem:∀ y,V (cmb R m y)
 gen:∀ v,V v→∃ y,∀ k,k < n→v k=cmb R m y k
 ind:∀ y,(∀ k,k < n→cmb R m y k=0)→∀ i,i < m→y i=0
structure Spc (n:Nat) (V:(Nat→α)→Prop):Prop where
 ext:∀ v w,(∀ k,k < n→v k=w k)→V v→V w
 zero:V (fun _=>0)
 add:∀ v w,V v→V w→V (fun k=>v k + w k)
 smul:∀ a v,V v→V (fun k=>a * v k)
theorem cmb_unit (R:Nat→Nat→α) {m j:Nat} (hj:j < m) (k:Nat):cmb R m (fun i=>if i=j then 1 else 0) k=R j k:=by
 unfold cmb
 rw [sm_one hj (fun i _ h=>by show (if i=j then (1:α) else 0) * R i k=0;rw [if_neg h,zero_mul])]
 show (if j=j then (1:α) else 0) * R j k=R j k
 rw [if_pos rfl,one_mul]
theorem cmb_snoc (R:Nat→Nat→α) (m:Nat) (v y:Nat→α) (k:Nat):cmb (fun i=>if i=m then v else R i) (m + 1) y k=cmb R m y k + y m * v k:=by
 unfold cmb
 rw [sm_succ]
 have e1:(fun i=>if i=m then v else R i) m=v:=if_pos rfl
 rw [e1]
 congr 1
 exact sm_congr fun i hi=>by
  have e2:(fun i=>if i=m then v else R i) i=R i:=if_neg (by omega)
  rw [e2]
theorem bas_le {R R':Nat→Nat→α} {m m' n:Nat} {V:(Nat→α)→Prop} (_hV:Spc n V) (h:Bas R m n V) (k:Bas R' m' n V):m'≤m:=by
 refine Nat.le_of_not_lt fun hlt=>?_
 have hY:∀ j,∃ y:Nat→α,j < m'→∀ c,c < n→R' j c=cmb R m y c:=fun j=>by
  by_cases hj:j < m'
  ·obtain ⟨y,hy⟩:=h.gen _ (k.mem (fun i=>if i=j then 1 else 0))
   exact ⟨y,fun _ c hc=>by rw [← hy c hc,cmb_unit R' hj]⟩
  ·exact ⟨fun _=>0,fun h=>absurd h hj⟩
 let Y:Nat→Nat→α:=fun j=>(hY j).choose
 have hYs:∀ j,j < m'→∀ c,c < n→R' j c=cmb R m (Y j) c:=fun j=>(hY j).choose_spec
 have h1:=Rk.rk_rows (fun i j=>Y j i) m m'
 have h2:¬ ∀ x,Rk.Sol (fun i j=>Y j i) m m' x→∀ c,c < m'→x c=0:=fun e=>by
  have:=Rk.rk_full.2 e
  omega
 obtain ⟨x,hx⟩:=Classical.not_forall.1 h2
 obtain ⟨hs,hx2⟩:=Classical.not_imp.1 hx
 refine hx2 (k.ind x fun c hc=>?_)
 have e1:cmb R' m' x c=sm m' (fun j=>sm m (fun i=>x j * (Y j i * R i c))):=by
  unfold cmb
  exact sm_congr fun j hj=>by rw [hYs j hj c hc];unfold cmb;rw [mul_sm]
 rw [e1,sm_comm]
 refine sm_eq_zero fun i hi=>?_
 have e2:=hs i hi
 have e3:sm m' (fun j=>x j * (Y j i * R i c))=sm m' (fun j=>Y j i * x j) * R i c:=by
  rw [sm_mul]
  exact sm_congr fun j _=>by ac_rfl
 rw [e3,e2,zero_mul]
theorem bas_eq {R R':Nat→Nat→α} {m m' n:Nat} {V:(Nat→α)→Prop} (hV:Spc n V) (h:Bas R m n V) (k:Bas R' m' n V):m=m':=Nat.le_antisymm (bas_le hV k h) (bas_le hV h k)
theorem bas_ex {n:Nat} {V:(Nat→α)→Prop} (hV:Spc n V):∃ R m,m≤n∧Bas R m n V:=by
 have h:∀ d,d≤n→∃ (R:Nat→Nat→α) (m:Nat),m≤d∧Bas R m n (fun v=>V v∧∀ i,i < n - d→v i=0):=by
  intro d
  induction d with
  | zero =>
   intro _
   refine ⟨fun _ _=>0,0,Nat.le_refl _,fun y=>⟨hV.zero,fun i _=>rfl⟩,fun v hv=>⟨fun _=>0,fun k hk=>?_⟩,fun y _ i hi=>by omega⟩
   exact hv.2 k (by omega)
  | succ d ih =>
   intro hd
   obtain ⟨R,m,hm,hb⟩:=ih (by omega)
   have ej:n - d=n - (d + 1) + 1:=by omega
   obtain ⟨j,hj⟩:∃ j,j=n - (d + 1):=⟨_,rfl⟩
   rw [← hj] at ej ⊢
   rw [ej] at hb
   have hjn:j < n:=by omega
   by_cases hx:∃ v,V v∧(∀ i,i < j→v i=0)∧v j ≠ 0
   ·obtain ⟨v,v1,v2,v3⟩:=hx
    refine ⟨fun i=>if i=m then v else R i,m + 1,by omega,fun y=>?_,fun u hu=>?_,fun y hy=>?_⟩
    ·have e:cmb (fun i=>if i=m then v else R i) (m + 1) y=fun k=>cmb R m y k + y m * v k:=funext fun k=>cmb_snoc R m v y k
     rw [e]
     refine ⟨hV.add _ _ (hb.mem y).1 (hV.smul _ _ v1),fun i hi=>?_⟩
     show cmb R m y i + y m * v i=0
     rw [(hb.mem y).2 i (by omega),v2 i hi,mul_zero,add_zero]
    ·have hu':V (fun k=>u k + -(u j * inv (v j)) * v k)∧∀ i,i < j + 1→u i + -(u j * inv (v j)) * v i=0:=by
      refine ⟨hV.add _ _ hu.1 (hV.smul _ _ v1),fun i hi=>?_⟩
      by_cases e:i=j
      ·subst e
       rw [neg_mul,mul_assoc,Fd.inv_mul v3,mul_one,add_neg]
      ·rw [hu.2 i (by omega),v2 i (by omega),mul_zero,add_zero]
     obtain ⟨y,hy⟩:=hb.gen _ hu'
     refine ⟨fun i=>if i=m then u j * inv (v j) else y i,fun k hk=>?_⟩
     have h1:=hy k hk
     rw [cmb_snoc,if_pos rfl]
     have h2:cmb R m (fun i=>if i=m then u j * inv (v j) else y i) k=cmb R m y k:=by
      unfold cmb
      exact sm_congr fun i hi=>by
       have e2:(fun i=>if i=m then u j * inv (v j) else y i) i=y i:=if_neg (by omega)
       rw [e2]
     rw [h2,← h1,neg_mul,add_assoc,add_comm (-_),add_neg,add_zero]
    ·have hyj:=hy j hjn
     rw [cmb_snoc,(hb.mem y).2 j (by omega),zero_add] at hyj
     have hym:y m=0:=by
      rcases Fd.mul_eq_zero hyj with e | e
      ·exact e
      ·exact absurd e v3
     intro i hi
     by_cases e:i=m
     ·rw [e,hym]
     ·refine hb.ind y (fun k hk=>?_) i (by omega)
      have:=hy k hk
      rwa [cmb_snoc,hym,zero_mul,add_zero] at this
   ·have hz:∀ v,V v→(∀ i,i < j→v i=0)→v j=0:=fun v h1 h2=>Classical.byContradiction fun h3=>hx ⟨v,h1,h2,h3⟩
    refine ⟨R,m,by omega,fun y=>⟨(hb.mem y).1,fun i hi=>(hb.mem y).2 i (by omega)⟩,fun v hv=>hb.gen v ⟨hv.1,fun i hi=>?_⟩,hb.ind⟩
    by_cases e:i=j
    ·rw [e];exact hz v hv.1 hv.2
    ·exact hv.2 i (by omega)
 obtain ⟨R,m,h1,h2⟩:=h n (Nat.le_refl _)
 exact ⟨R,m,h1,fun y=>(h2.mem y).1,fun v hv=>h2.gen v ⟨hv,fun i hi=>by omega⟩,h2.ind⟩
def Dim (n:Nat) (V:(Nat→α)→Prop) (m:Nat):Prop:=Spc n V∧∃ R,Bas R m n V
theorem Dim.eq {n m m':Nat} {V:(Nat→α)→Prop} (h:Dim n V m) (k:Dim n V m'):m=m':=by
 obtain ⟨_,R,h1⟩:=h
 obtain ⟨hV,R',h2⟩:=k
 exact bas_eq hV h1 h2
theorem dim_ex {n:Nat} {V:(Nat→α)→Prop} (hV:Spc n V):∃ m,Dim n V m:=by
 obtain ⟨R,m,_,h⟩:=bas_ex hV
 exact ⟨m,hV,R,h⟩
theorem Dim.congr {n m:Nat} {V W:(Nat→α)→Prop} (h:Dim n V m) (e:∀ v,V v ↔ W v):Dim n W m:=by
 have:V=W:=funext fun v=>propext (e v)
 rw [← this];exact h
end Dm
end Cw
namespace Cw
open Rg Fd PS
namespace Dm
variable {α:Type} [Fd α]
def snoc (v:Nat→α) (n:Nat) (a:α):Nat→α:=fun k=>if k < n then v k else a
omit [Fd α] in
theorem snoc_lt {v:Nat→α} {n k:Nat} {a:α} (h:k < n):snoc v n a k=v k:=if_pos h
omit [Fd α] in
theorem snoc_n {v:Nat→α} {n:Nat} {a:α}:snoc v n a n=a:=if_neg (by omega)
omit [Fd α] in
theorem snoc_self (v:Nat→α) (n:Nat):∀ k,k < n + 1→snoc v n (v n) k=v k:=fun k hk=>by
 by_cases h:k < n
 ·exact snoc_lt h
 ·obtain rfl:k=n:=by omega
  exact snoc_n
def Vs (V:(Nat→α)→Prop) (n:Nat) (v:Nat→α):Prop:=V (snoc v n 0)
def Vp (V:(Nat→α)→Prop) (n:Nat) (v:Nat→α):Prop:=∃ a,V (snoc v n a)
omit [Fd α] in
theorem snoc_ext {v w:Nat→α} {n:Nat} (e:∀ k,k < n→v k=w k) (a:α) (k:Nat):snoc v n a k=snoc w n a k:=by
 unfold snoc
 by_cases h:k < n
 ·rw [if_pos h,if_pos h,e k h]
 ·rw [if_neg h,if_neg h]
section
variable {n:Nat} {V:(Nat→α)→Prop}
theorem snoc_add (v w:Nat→α) (a b:α):∀ k,k < n + 1→snoc v n a k + snoc w n b k=snoc (fun k=>v k + w k) n (a + b) k:=fun k hk=>by
 unfold snoc;split <;> rfl
theorem snoc_smul (c:α) (v:Nat→α) (a:α):∀ k,k < n + 1→c * snoc v n a k=snoc (fun k=>c * v k) n (c * a) k:=fun k hk=>by
 unfold snoc;split <;> rfl
theorem Spc.vs (h:Spc (n + 1) V):Spc n (Vs V n) where
 ext v w e hv:=h.ext _ _ (fun k hk=>snoc_ext e _ k) hv
 zero:=h.ext _ _ (fun k hk=>by unfold snoc;split <;> rfl) h.zero
 add v w hv hw:=h.ext _ _ (fun k hk=>by rw [snoc_add v w 0 0 k hk,add_zero]) (h.add _ _ hv hw)
 smul a v hv:=h.ext _ _ (fun k hk=>by rw [snoc_smul a v 0 k hk,mul_zero]) (h.smul a _ hv)
theorem Spc.vp (h:Spc (n + 1) V):Spc n (Vp V n) where
 ext v w e hv:=by
  obtain ⟨a,ha⟩:=hv
  exact ⟨a,h.ext _ _ (fun k hk=>snoc_ext e _ k) ha⟩
 zero:=⟨0,h.ext _ _ (fun k hk=>by unfold snoc;split <;> rfl) h.zero⟩
 add v w hv hw:=by
  obtain ⟨a,ha⟩:=hv
  obtain ⟨b,hb⟩:=hw
  exact ⟨a + b,h.ext _ _ (fun k hk=>snoc_add v w a b k hk) (h.add _ _ ha hb)⟩
 smul c v hv:=by
  obtain ⟨a,ha⟩:=hv
  exact ⟨c * a,h.ext _ _ (fun k hk=>snoc_smul c v a k hk) (h.smul c _ ha)⟩
theorem Spc.vself (h:Spc (n + 1) V) {v:Nat→α} (hv:V v):V (snoc v n (v n)):=h.ext _ _ (fun k hk=>(snoc_self v n k hk).symm) hv
theorem Spc.cmb (h:Spc n V) {R:Nat→Nat→α} (y:Nat→α):∀ m,(∀ i,i < m→V (R i))→V (cmb R m y)
 | 0,_=>h.zero
 | m + 1,hR=>by
  refine h.ext _ _ (fun k _=>?_) (h.add _ _ (Spc.cmb h y m fun i hi=>hR i (by omega)) (h.smul (y m) _ (hR m (by omega))))
  show Dm.cmb R m y k + y m * R m k=Dm.cmb R (m + 1) y k
  unfold Dm.cmb
  rw [sm_succ]
theorem cmb_snoc_lt (R:Nat→Nat→α) (a:Nat→α) (m:Nat) (y:Nat→α) {k:Nat} (hk:k < n):cmb (fun i=>snoc (R i) n (a i)) m y k=cmb R m y k:=by
 unfold cmb
 exact sm_congr fun i _=>by show y i * snoc (R i) n (a i) k=_;rw [snoc_lt hk]
theorem cmb_snoc_n (R:Nat→Nat→α) (a:Nat→α) (m:Nat) (y:Nat→α):cmb (fun i=>snoc (R i) n (a i)) m y n=sm m (fun i=>y i * a i):=by
 unfold cmb
 exact sm_congr fun i _=>by show y i * snoc (R i) n (a i) n=_;rw [snoc_n]
theorem bas_row {R:Nat→Nat→α} {m:Nat} {W:(Nat→α)→Prop} (hW:Spc n W) (h:Bas R m n W) {i:Nat} (hi:i < m):W (R i):=hW.ext _ _ (fun k _=>cmb_unit R hi k) (h.mem _)
theorem dim_s0 (hV:Spc (n + 1) V) (h0:∀ v,V v→v n=0) {m:Nat} (h:Dim n (Vs V n) m):Dim (n + 1) V m:=by
 obtain ⟨hS,R,hb⟩:=h
 refine ⟨hV,fun i=>snoc (R i) n 0,fun y=>hV.cmb y m fun i hi=>bas_row hS hb hi,fun v hv=>?_,fun y hy=>hb.ind y fun k hk=>?_⟩
 ·obtain ⟨y,hy⟩:=hb.gen v (show V (snoc v n 0) by rw [← h0 v hv];exact hV.vself hv)
  refine ⟨y,fun k hk=>?_⟩
  by_cases e:k < n
  ·rw [cmb_snoc_lt R (fun _=>0) m y e,hy k e]
  ·obtain rfl:k=n:=by omega
   rw [cmb_snoc_n R (fun _=>0) m y,h0 v hv]
   exact (sm_eq_zero fun i _=>mul_zero _).symm
 ·rw [← cmb_snoc_lt R (fun _=>0) m y hk]
  exact hy k (by omega)
theorem dim_s1 (hV:Spc (n + 1) V) {v0:Nat→α} (h1:V v0) (h2:v0 n ≠ 0) {m:Nat} (h:Dim n (Vs V n) m):Dim (n + 1) V (m + 1):=by
 obtain ⟨hS,R,hb⟩:=h
 refine ⟨hV,fun i=>if i=m then v0 else snoc (R i) n 0,fun y=>hV.cmb y (m + 1) fun i hi=>?_,fun v hv=>?_,fun y hy=>?_⟩
 ·by_cases e:i=m
  ·rw [if_pos e];exact h1
  ·rw [if_neg e];exact bas_row hS hb (by omega)
 ·have hu:Vs V n (fun k=>v k + -(v n * inv (v0 n)) * v0 k):=by
   refine hV.ext _ _ (fun k hk=>?_) (hV.add _ _ hv (hV.smul (-(v n * inv (v0 n))) _ h1))
   by_cases e:k < n
   ·rw [snoc_lt e]
   ·obtain rfl:k=n:=by omega
    rw [snoc_n,neg_mul,mul_assoc,Fd.inv_mul h2,mul_one,add_neg]
  obtain ⟨y,hy⟩:=hb.gen _ hu
  refine ⟨fun i=>if i=m then v n * inv (v0 n) else y i,fun k hk=>?_⟩
  rw [cmb_snoc (fun i=>snoc (R i) n 0) m v0 _ k,if_pos rfl]
  have e1:cmb (fun i=>snoc (R i) n 0) m (fun i=>if i=m then v n * inv (v0 n) else y i) k=cmb (fun i=>snoc (R i) n 0) m y k:=by
   unfold cmb
   exact sm_congr fun i hi=>by
    have e2:(fun i=>if i=m then v n * inv (v0 n) else y i) i=y i:=if_neg (by omega)
    rw [e2]
  rw [e1]
  by_cases e:k < n
  ·rw [cmb_snoc_lt R (fun _=>0) m y e,← hy k e,neg_mul,add_assoc,add_comm (-_),add_neg,add_zero]
  ·obtain rfl:k=n:=by omega
   rw [cmb_snoc_n R (fun _=>0) m y,sm_eq_zero (fun i _=>mul_zero _),zero_add,mul_assoc,Fd.inv_mul h2,mul_one]
 ·have hyn:=hy n (by omega)
  rw [cmb_snoc (fun i=>snoc (R i) n 0) m v0 y n,cmb_snoc_n R (fun _=>0) m y,sm_eq_zero (fun i _=>mul_zero _),zero_add] at hyn
  have hym:y m=0:=by
   rcases Fd.mul_eq_zero hyn with e | e
   ·exact e
   ·exact absurd e h2
  intro i hi
  by_cases e:i=m
  ·rw [e,hym]
  ·refine hb.ind y (fun k hk=>?_) i (by omega)
   have:=hy k (by omega)
   rwa [cmb_snoc (fun i=>snoc (R i) n 0) m v0 y k,hym,zero_mul,add_zero,cmb_snoc_lt R (fun _=>0) m y hk] at this
theorem lifts {R:Nat→Nat→α} {m:Nat} (hW:Spc n (Vp V n)) (hb:Bas R m n (Vp V n)):∃ a:Nat→α,∀ i,i < m→V (snoc (R i) n (a i)):=by
 have h:∀ i,∃ a:α,i < m→V (snoc (R i) n a):=fun i=>by
  by_cases hi:i < m
  ·obtain ⟨a,ha⟩:=bas_row hW hb hi
   exact ⟨a,fun _=>ha⟩
  ·exact ⟨0,fun h=>absurd h hi⟩
 exact ⟨fun i=>(h i).choose,fun i hi=>(h i).choose_spec hi⟩
theorem dim_p0 (hV:Spc (n + 1) V) (h0:∀ v,V v→(∀ k,k < n→v k=0)→v n=0) {m:Nat} (h:Dim n (Vp V n) m):Dim (n + 1) V m:=by
 obtain ⟨hP,R,hb⟩:=h
 obtain ⟨a,ha⟩:=lifts hP hb
 refine ⟨hV,fun i=>snoc (R i) n (a i),fun y=>hV.cmb y m ha,fun v hv=>?_,fun y hy=>hb.ind y fun k hk=>?_⟩
 ·obtain ⟨y,hy⟩:=hb.gen v ⟨v n,hV.vself hv⟩
  have hd:=h0 (fun k=>v k + -1 * cmb (fun i=>snoc (R i) n (a i)) m y k) (hV.add _ _ hv (hV.smul (-1) _ (hV.cmb y m ha))) (fun k hk=>by
   rw [cmb_snoc_lt R a m y hk,← hy k hk,neg_mul,one_mul,add_neg])
  refine ⟨y,fun k hk=>?_⟩
  by_cases e:k < n
  ·rw [cmb_snoc_lt R a m y e,hy k e]
  ·obtain rfl:k=n:=by omega
   have hd:v k + -1 * cmb (fun i=>snoc (R i) k (a i)) m y k=0:=hd
   rw [neg_mul,one_mul,← sub_def] at hd
   exact sub_eq_zero hd
 ·rw [← cmb_snoc_lt R a m y hk]
  exact hy k (by omega)
theorem dim_p1 (hV:Spc (n + 1) V) {e0:Nat→α} (h1:V e0) (h2:∀ k,k < n→e0 k=0) (h3:e0 n ≠ 0) {m:Nat} (h:Dim n (Vp V n) m):Dim (n + 1) V (m + 1):=by
 obtain ⟨hP,R,hb⟩:=h
 obtain ⟨a,ha⟩:=lifts hP hb
 refine ⟨hV,fun i=>if i=m then e0 else snoc (R i) n (a i),fun y=>hV.cmb y (m + 1) fun i hi=>?_,fun v hv=>?_,fun y hy=>?_⟩
 ·by_cases e:i=m
  ·rw [if_pos e];exact h1
  ·rw [if_neg e];exact ha i (by omega)
 ·obtain ⟨y,hy⟩:=hb.gen v ⟨v n,hV.vself hv⟩
  refine ⟨fun i=>if i=m then (v n - cmb (fun i=>snoc (R i) n (a i)) m y n) * inv (e0 n) else y i,fun k hk=>?_⟩
  rw [cmb_snoc (fun i=>snoc (R i) n (a i)) m e0 _ k,if_pos rfl]
  have e1:cmb (fun i=>snoc (R i) n (a i)) m (fun i=>if i=m then (v n - cmb (fun i=>snoc (R i) n (a i)) m y n) * inv (e0 n) else y i) k=cmb (fun i=>snoc (R i) n (a i)) m y k:=by
   unfold cmb
   exact sm_congr fun i hi=>by
    exact congrArg (· * snoc (R i) n (a i) k) (if_neg (by omega))
  rw [e1]
  by_cases e:k < n
  ·rw [cmb_snoc_lt R a m y e,← hy k e,h2 k e,mul_zero,add_zero]
  ·obtain rfl:k=n:=by omega
   rw [mul_assoc,Fd.inv_mul h3,mul_one,add_comm,sub_def,add_assoc,add_comm (-_),add_neg,add_zero]
 ·have hyi:∀ i,i < m→y i=0:=hb.ind y (fun k hk=>by
   have:=hy k (by omega)
   rwa [cmb_snoc (fun i=>snoc (R i) n (a i)) m e0 y k,h2 k hk,mul_zero,add_zero,cmb_snoc_lt R a m y hk] at this)
  have hyn:=hy n (by omega)
  rw [cmb_snoc (fun i=>snoc (R i) n (a i)) m e0 y n,cmb_snoc_n R a m y,sm_eq_zero (fun i hi=>by rw [hyi i hi,zero_mul]),zero_add] at hyn
  intro i hi
  by_cases e:i=m
  ·rw [e]
   rcases Fd.mul_eq_zero hyn with g | g
   ·exact g
   ·exact absurd g h3
  ·exact hyi i (by omega)
end
def VT (V:(Nat→α)→Prop) (T:Nat→Bool) (n:Nat) (v:Nat→α):Prop:=V v∧∀ i,i < n→T i=false→v i=0
def WS (V:(Nat→α)→Prop) (T:Nat→Bool) (n:Nat) (w:Nat→α):Prop:=(∀ v,V v→sm n (fun i=>v i * w i)=0)∧∀ i,i < n→T i=true→w i=0
def cF (T:Nat→Bool):Nat→Nat
 | 0=>0
 | n + 1=>cF T n + if T n then 0 else 1
theorem Spc.vt {n:Nat} {V:(Nat→α)→Prop} (h:Spc n V) (T:Nat→Bool):Spc n (VT V T n) where
 ext v w e hv:=⟨h.ext v w e hv.1,fun i hi ht=>by rw [← e i hi];exact hv.2 i hi ht⟩
 zero:=⟨h.zero,fun _ _ _=>rfl⟩
 add v w hv hw:=⟨h.add v w hv.1 hw.1,fun i hi ht=>by show v i + w i=0;rw [hv.2 i hi ht,hw.2 i hi ht,add_zero]⟩
 smul a v hv:=⟨h.smul a v hv.1,fun i hi ht=>by show a * v i=0;rw [hv.2 i hi ht,mul_zero]⟩
theorem spc_ws (V:(Nat→α)→Prop) (T:Nat→Bool) (n:Nat):Spc n (WS V T n) where
 ext v w e hv:=⟨fun u hu=>(sm_congr fun i hi=>by rw [e i hi]).symm.trans (hv.1 u hu),fun i hi ht=>by rw [← e i hi];exact hv.2 i hi ht⟩
 zero:=⟨fun u _=>sm_eq_zero fun i _=>mul_zero _,fun _ _ _=>rfl⟩
 add v w hv hw:=⟨fun u hu=>by
  have:sm n (fun i=>u i * (v i + w i))=sm n (fun i=>u i * v i) + sm n (fun i=>u i * w i):=by
   rw [← sm_add];exact sm_congr fun i _=>mul_add _ _ _
  rw [this,hv.1 u hu,hw.1 u hu,add_zero],fun i hi ht=>by show v i + w i=0;rw [hv.2 i hi ht,hw.2 i hi ht,add_zero]⟩
 smul a v hv:=⟨fun u hu=>by
  have:sm n (fun i=>u i * (a * v i))=a * sm n (fun i=>u i * v i):=by
   rw [mul_sm];exact sm_congr fun i _=>by ac_rfl
  rw [this,hv.1 u hu,mul_zero],fun i hi ht=>by show a * v i=0;rw [hv.2 i hi ht,mul_zero]⟩
theorem dim_nil {V:(Nat→α)→Prop} {m:Nat} (h:Dim 0 V m):m=0:=by
 obtain ⟨_,R,hb⟩:=h
 refine Nat.le_zero.1 (Nat.le_of_not_lt fun hm=>?_)
 exact Fd.one_ne (hb.ind (fun _=>1) (fun k hk=>by omega) 0 (by omega))
theorem wei_dim (T:Nat→Bool):∀ (n:Nat) (V:(Nat→α)→Prop) (k a b:Nat),Dim n V k→Dim n (VT V T n) a→Dim n (WS V T n) b→b + k=cF T n + a
 | 0,V,k,a,b,hk,ha,hb=>by rw [dim_nil hk,dim_nil ha,dim_nil hb];rfl
 | n + 1,V,k,a,b,hk,ha,hb=>by
  have hV:=hk.1
  cases ht:T n with
  | true =>
   obtain ⟨k',hk'⟩:=dim_ex hV.vp
   obtain ⟨a',ha'⟩:=dim_ex (hV.vp.vt T)
   obtain ⟨b',hb'⟩:=dim_ex (spc_ws (Vp V n) T n)
   have ih:=wei_dim T n _ k' a' b' hk' ha' hb'
   have hw0:∀ w,WS V T (n + 1) w→w n=0:=fun w hw=>hw.2 n (by omega) ht
   have eb:b=b':=hb.eq (dim_s0 hb.1 hw0 (hb'.congr fun w=>?_))
   have ea:∀ v,VT (Vp V n) T n v ↔ Vp (VT V T (n + 1)) n v:=fun v=>by
    constructor
    ·rintro ⟨⟨x,hx⟩,h2⟩
     refine ⟨x,hx,fun i hi hti=>?_⟩
     have hin:i < n:=by
      rcases Nat.lt_or_ge i n with g | g
      ·exact g
      ·obtain rfl:i=n:=by omega
       rw [ht] at hti;cases hti
     rw [snoc_lt hin];exact h2 i hin hti
    ·rintro ⟨x,hx,h2⟩
     refine ⟨⟨x,hx⟩,fun i hi hti=>?_⟩
     have:=h2 i (by omega) hti
     rwa [snoc_lt hi] at this
   have ec:cF T (n + 1)=cF T n:=by show cF T n + (if T n then 0 else 1)=_;rw [ht];rfl
   by_cases he:∃ e0,V e0∧(∀ k,k < n→e0 k=0)∧e0 n ≠ 0
   ·obtain ⟨e0,e1,e2,e3⟩:=he
    have h1:=hk.eq (dim_p1 hV e1 e2 e3 hk')
    have h2:=ha.eq (dim_p1 ha.1 (e0:=e0) ⟨e1,fun i hi hti=>by
     rcases Nat.lt_or_ge i n with g | g
     ·exact e2 i g
     ·obtain rfl:i=n:=by omega
      rw [ht] at hti;cases hti⟩ e2 e3 (ha'.congr ea))
    omega
   ·have hz:∀ v,V v→(∀ k,k < n→v k=0)→v n=0:=fun v h1 h2=>Classical.byContradiction fun h3=>he ⟨v,h1,h2,h3⟩
    have h1:=hk.eq (dim_p0 hV hz hk')
    have h2:=ha.eq (dim_p0 ha.1 (fun v hv=>hz v hv.1) (ha'.congr ea))
    omega
   -- the dual words,which are 0 at position n
   constructor
   ·rintro ⟨h1,h2⟩
    refine ⟨fun v hv=>?_,fun i hi hti=>?_⟩
    ·rw [sm_succ,snoc_n,mul_zero,add_zero,← h1 v ⟨v n,hV.vself hv⟩]
     exact sm_congr fun i hi=>by rw [snoc_lt hi]
    ·by_cases g:i < n
     ·rw [snoc_lt g];exact h2 i g hti
     ·obtain rfl:i=n:=by omega
      exact snoc_n
   ·rintro ⟨h1,h2⟩
    refine ⟨fun v hv=>?_,fun i hi hti=>?_⟩
    ·obtain ⟨x,hx⟩:=hv
     have:=h1 _ hx
     rw [sm_succ,snoc_n,snoc_n,mul_zero,add_zero] at this
     rw [← this]
     exact sm_congr fun i hi=>by rw [snoc_lt hi,snoc_lt hi]
    ·have:=h2 i (by omega) hti
     rwa [snoc_lt hi] at this
  | false =>
   obtain ⟨k',hk'⟩:=dim_ex hV.vs
   obtain ⟨a',ha'⟩:=dim_ex (hV.vs.vt T)
   obtain ⟨b',hb'⟩:=dim_ex (spc_ws (Vs V n) T n)
   have ih:=wei_dim T n _ k' a' b' hk' ha' hb'
   have ea:a=a':=ha.eq (dim_s0 ha.1 (fun v hv=>hv.2 n (by omega) ht) (ha'.congr fun v=>by
    constructor
    ·rintro ⟨h1,h2⟩
     refine ⟨h1,fun i hi hti=>?_⟩
     by_cases g:i < n
     ·rw [snoc_lt g];exact h2 i g hti
     ·obtain rfl:i=n:=by omega
      exact snoc_n
    ·rintro ⟨h1,h2⟩
     refine ⟨h1,fun i hi hti=>?_⟩
     have:=h2 i (by omega) hti
     rwa [snoc_lt hi] at this))
   have ec:cF T (n + 1)=cF T n + 1:=by show cF T n + (if T n then 0 else 1)=_;rw [ht];rfl
   by_cases he:∃ v0,V v0∧v0 n ≠ 0
   ·obtain ⟨v0,e1,e2⟩:=he
    have h1:=hk.eq (dim_s1 hV e1 e2 hk')
    have hw0:∀ w,WS V T (n + 1) w→(∀ k,k < n→w k=0)→w n=0:=fun w hw hz=>by
     have:=hw.1 v0 e1
     rw [sm_succ,sm_eq_zero (fun i hi=>by rw [hz i hi,mul_zero]),zero_add] at this
     rcases Fd.mul_eq_zero this with g | g
     ·exact absurd g e2
     ·exact g
    have h2:=hb.eq (dim_p0 hb.1 hw0 (hb'.congr fun w=>by
     constructor
     ·rintro ⟨h1,h2⟩
      refine ⟨-(sm n (fun i=>v0 i * w i) * inv (v0 n)),fun v hv=>?_,fun i hi hti=>?_⟩
      ·have h3:=h1 (fun k=>v k + -(v n * inv (v0 n)) * v0 k) (hV.ext _ _ (fun k hk=>by
        by_cases g:k < n
        ·rw [snoc_lt g]
        ·obtain rfl:k=n:=by omega
         rw [snoc_n,neg_mul,mul_assoc,Fd.inv_mul e2,mul_one,add_neg]) (hV.add _ _ hv (hV.smul (-(v n * inv (v0 n))) _ e1)))
       have h4:sm n (fun i=>(v i + -(v n * inv (v0 n)) * v0 i) * w i)=sm n (fun i=>v i * w i) + -(v n * inv (v0 n)) * sm n (fun i=>v0 i * w i):=by
        rw [mul_sm,← sm_add]
        exact sm_congr fun i _=>by rw [add_mul,mul_assoc]
       rw [h4] at h3
       rw [sm_succ,snoc_n,sm_congr (fun i hi=>by rw [snoc_lt hi])]
       rw [← h3,mul_neg,neg_mul]
       congr 2
       ac_rfl
      ·by_cases g:i < n
       ·rw [snoc_lt g];exact h2 i g hti
       ·obtain rfl:i=n:=by omega
        rw [ht] at hti;cases hti
     ·rintro ⟨x,h1,h2⟩
      refine ⟨fun v hv=>?_,fun i hi hti=>?_⟩
      ·have:=h1 _ hv
       rw [sm_succ,snoc_n,snoc_n,zero_mul,add_zero] at this
       rw [← this]
       exact sm_congr fun i hi=>by rw [snoc_lt hi,snoc_lt hi]
      ·have:=h2 i (by omega) hti
       rwa [snoc_lt hi] at this))
    omega
   ·have hz:∀ v,V v→v n=0:=fun v hv=>Classical.byContradiction fun h=>he ⟨v,hv,h⟩
    have h1:=hk.eq (dim_s0 hV hz hk')
    have h2:=hb.eq (dim_p1 hb.1 (e0:=fun k=>if k=n then 1 else 0) ⟨fun v hv=>by
     rw [sm_succ,sm_eq_zero (fun i hi=>by show v i * (if i=n then (1:α) else 0)=0;rw [if_neg (by omega),mul_zero]),zero_add,hz v hv,zero_mul],fun i hi hti=>by
     by_cases g:i=n
     ·rw [g,ht] at hti;cases hti
     ·exact if_neg g⟩ (fun k hk=>if_neg (by omega)) (by rw [if_pos rfl];exact Fd.one_ne) (hb'.congr fun w=>by
     constructor
     ·rintro ⟨h1,h2⟩
      refine ⟨0,fun v hv=>?_,fun i hi hti=>?_⟩
      ·rw [sm_succ,snoc_n,mul_zero,add_zero,sm_congr (fun i hi=>by rw [snoc_lt hi])]
       exact h1 v (by show V (snoc v n 0);rw [← hz v hv];exact hV.vself hv)
      ·by_cases g:i < n
       ·rw [snoc_lt g];exact h2 i g hti
       ·obtain rfl:i=n:=by omega
        exact snoc_n
     ·rintro ⟨x,h1,h2⟩
      refine ⟨fun v hv=>?_,fun i hi hti=>?_⟩
      ·have:=h1 _ hv
       rw [sm_succ,snoc_n,snoc_n,zero_mul,add_zero] at this
       rw [← this]
       exact sm_congr fun i hi=>by rw [snoc_lt hi,snoc_lt hi]
      ·have:=h2 i (by omega) hti
       rwa [snoc_lt hi] at this))
    omega
end Dm
end Cw
namespace Cw
namespace Dm
def jp (p:Nat→Nat) (x:Nat):Bool:=decide (p (x - 1) < p x)
theorem jp_dual {p q:Nat→Nat} {n k:Nat} (hm:∀ i,i < n→p i≤p (i + 1)∧p (i + 1)≤p i + 1) (hq:∀ i,i≤n→q i + k=i + p (n - i)) {i:Nat} (hi:i < n):jp q (i + 1)=!jp p (n - i):=by
 have h1:=hq i (by omega)
 have h2:=hq (i + 1) (by omega)
 have h3:=hm (n - (i + 1)) (by omega)
 rw [show n - (i + 1) + 1=n - i by omega] at h3
 unfold jp
 rw [show i + 1 - 1=i by omega,show n - i - 1=n - (i + 1) by omega,← decide_not]
 exact decide_eq_decide.2 (by omega)
theorem jumps_dual {p q:Nat→Nat} {n k:Nat} (hm:∀ i,i < n→p i≤p (i + 1)∧p (i + 1)≤p i + 1) (hq:∀ i,i≤n→q i + k=i + p (n - i)) :
  (((List.range n).map (fun i=>n - i)).filter (fun x=>!jp p x)).map (fun x=>n + 1 - x)=((List.range n).map (· + 1)).filter (jp q):=by
 rw [List.filter_map,List.filter_map,List.map_map]
 have e:(List.range n).filter ((fun x=>!jp p x) ∘ fun i=>n - i)=(List.range n).filter (jp q ∘ fun i=>i + 1) :=
  List.filter_congr fun i hi=>(jp_dual hm hq (List.mem_range.1 hi)).symm
 rw [e]
 refine List.map_congr_left fun i hi=>?_
 have:=List.mem_range.1 (List.mem_filter.1 hi).1
 show n + 1 - (n - i)=i + 1
 omega
theorem jumps_len {p:Nat→Nat} (h0:p 0=0):∀ n,(∀ i,i < n→p i≤p (i + 1)∧p (i + 1)≤p i + 1)→(((List.range n).map (· + 1)).filter (jp p)).length=p n
 | 0,_=>h0.symm
 | n + 1,hm=>by
  have ih:=jumps_len h0 n fun i hi=>hm i (by omega)
  have h1:=hm n (by omega)
  rw [List.range_succ,List.map_append,List.filter_append,List.length_append,ih]
  show p n + ([n + 1].filter (jp p)).length=p (n + 1)
  by_cases h:p n < p (n + 1)
  ·have e:jp p (n + 1)=true:=decide_eq_true h
   rw [List.filter_cons_of_pos e]
   show p n + 1=p (n + 1)
   omega
  ·have e:¬ jp p (n + 1)=true:=fun h'=>h (of_decide_eq_true h')
   rw [List.filter_cons_of_neg e]
   show p n + 0=p (n + 1)
   omega
theorem mono {p:Nat→Nat}:∀ n,(∀ i,i < n→p i≤p (i + 1)∧p (i + 1)≤p i + 1)→∀ i,i≤n→p i≤p n
 | 0,_,i,hi=>by
  obtain rfl:i=0:=by omega
  exact Nat.le_refl _
 | n + 1,hm,i,hi=>by
  by_cases e:i=n + 1
  ·rw [e];exact Nat.le_refl _
  ·exact Nat.le_trans (mono n (fun i hi=>hm i (by omega)) i (by omega)) (hm n (by omega)).1
theorem jumps_get {p:Nat→Nat} (h0:p 0=0):∀ n,(∀ i,i < n→p i≤p (i + 1)∧p (i + 1)≤p i + 1)→∀ r,r < p n →
  ∃ j,(((List.range n).map (· + 1)).filter (jp p))[r]?=some j∧1≤j∧j≤n∧p j=r + 1∧∀ i,i < j→p i≤r
 | 0,_,r,hr=>by omega
 | n + 1,hm,r,hr=>by
  have hm':∀ i,i < n→p i≤p (i + 1)∧p (i + 1)≤p i + 1:=fun i hi=>hm i (by omega)
  have hl:=jumps_len h0 n hm'
  have h1:=hm n (by omega)
  rw [List.range_succ,List.map_append,List.filter_append]
  by_cases h:r < p n
  ·obtain ⟨j,g1,g2,g3,g4,g5⟩:=jumps_get h0 n hm' r h
   exact ⟨j,by rw [List.getElem?_append_left (by omega)];exact g1,g2,by omega,g4,g5⟩
  ·have e:jp p (n + 1)=true:=decide_eq_true (by show p n < p (n + 1);omega)
   refine ⟨n + 1, ?_,by omega,Nat.le_refl _,by omega,fun i hi=>Nat.le_trans (mono n hm' i (by omega)) (by omega)⟩
   rw [List.getElem?_append_right (by omega),hl,show r - p n=0 by omega]
   show ([n + 1].filter (jp p))[0]?=some (n + 1)
   rw [List.filter_cons_of_pos e]
   rfl
end Dm
end Cw
namespace Cw
open Rg Fd PS
namespace Dm
variable {α:Type} [Fd α]
theorem bas_le' {R R':Nat→Nat→α} {m m' n:Nat} {V W:(Nat→α)→Prop} (h:Bas R m n W) (k:Bas R' m' n V) (hs:∀ v,V v→W v):m'≤m:=by
 refine Nat.le_of_not_lt fun hlt=>?_
 have hY:∀ j,∃ y:Nat→α,j < m'→∀ c,c < n→R' j c=cmb R m y c:=fun j=>by
  by_cases hj:j < m'
  ·obtain ⟨y,hy⟩:=h.gen _ (hs _ (k.mem (fun i=>if i=j then 1 else 0)))
   exact ⟨y,fun _ c hc=>by rw [← hy c hc,cmb_unit R' hj]⟩
  ·exact ⟨fun _=>0,fun h=>absurd h hj⟩
 let Y:Nat→Nat→α:=fun j=>(hY j).choose
 have hYs:∀ j,j < m'→∀ c,c < n→R' j c=cmb R m (Y j) c:=fun j=>(hY j).choose_spec
 have h1:=Rk.rk_rows (fun i j=>Y j i) m m'
 have h2:¬ ∀ x,Rk.Sol (fun i j=>Y j i) m m' x→∀ c,c < m'→x c=0:=fun e=>by
  have:=Rk.rk_full.2 e
  omega
 obtain ⟨x,hx⟩:=Classical.not_forall.1 h2
 obtain ⟨hsx,hx2⟩:=Classical.not_imp.1 hx
 refine hx2 (k.ind x fun c hc=>?_)
 have e1:cmb R' m' x c=sm m' (fun j=>sm m (fun i=>x j * (Y j i * R i c))):=by
  unfold cmb
  exact sm_congr fun j hj=>by rw [hYs j hj c hc];unfold cmb;rw [mul_sm]
 rw [e1,sm_comm]
 refine sm_eq_zero fun i hi=>?_
 have e2:=hsx i hi
 have e3:sm m' (fun j=>x j * (Y j i * R i c))=sm m' (fun j=>Y j i * x j) * R i c:=by
  rw [sm_mul]
  exact sm_congr fun j _=>by ac_rfl
 rw [e3,e2,zero_mul]
theorem dim_le {n a b:Nat} {V W:(Nat→α)→Prop} (h:Dim n V a) (k:Dim n W b) (hs:∀ v,V v→W v):a≤b:=by
 obtain ⟨_,R,h1⟩:=h
 obtain ⟨_,R',h2⟩:=k
 exact bas_le' h2 h1 hs
def sk (k i:Nat):Nat:=if i < k then i else i + 1
theorem sm_sk {m k:Nat} (hk:k < m + 1) (f:Nat→α):sm (m + 1) f=sm m (fun i=>f (sk k i)) + f k:=by
 induction m with
 | zero =>
  obtain rfl:k=0:=by omega
  rw [sm_succ,sm_zero,sm_zero]
 | succ m ih =>
  by_cases e:k=m + 1
  ·subst e
   rw [sm_succ]
   congr 1
   exact sm_congr fun i hi=>by unfold sk;rw [if_pos hi]
  ·rw [sm_succ,ih (by omega),sm_succ]
   have:sk k m=m + 1:=by unfold sk;rw [if_neg (by omega)]
   rw [this,add_assoc,add_comm (f k),← add_assoc]
def Hy (V:(Nat→α)→Prop) (x:Nat) (v:Nat→α):Prop:=V v∧v x=0
theorem Spc.hy {n x:Nat} {V:(Nat→α)→Prop} (h:Spc n V) (hx:x < n):Spc n (Hy V x) where
 ext v w e hv:=⟨h.ext v w e hv.1,by rw [← e x hx];exact hv.2⟩
 zero:=⟨h.zero,rfl⟩
 add v w hv hw:=⟨h.add v w hv.1 hw.1,by show v x + w x=0;rw [hv.2,hw.2,add_zero]⟩
 smul a v hv:=⟨h.smul a v hv.1,by show a * v x=0;rw [hv.2,mul_zero]⟩
def wo (R:Nat→Nat→α) (k x:Nat):Nat→Nat→α:=fun i c=>R (sk k i) c - R (sk k i) x * inv (R k x) * R k c
theorem cmb_wo (R:Nat→Nat→α) {m k:Nat} (x:Nat) (y:Nat→α) (c:Nat):cmb (wo R k x) m y c=sm m (fun i=>y i * R (sk k i) c) - sm m (fun i=>y i * R (sk k i) x) * inv (R k x) * R k c:=by
 unfold cmb wo
 rw [sm_mul,sm_mul,← sm_sub]
 exact sm_congr fun i _=>by rw [mul_sub];congr 1;ac_rfl
theorem bas_wo {R:Nat→Nat→α} {m n k x:Nat} {V:(Nat→α)→Prop} (hV:Spc n V) (h:Bas R (m + 1) n V) (hk:k < m + 1) (hx:x < n) (h0:R k x ≠ 0):Bas (wo R k x) m n (Hy V x):=by
 have hs:=hV.hy hx
 have hrow:∀ i,i < m + 1→V (R i):=fun i hi=>bas_row hV h hi
 have hsk:∀ i,i < m→sk k i < m + 1∧sk k i ≠ k:=fun i hi=>by unfold sk;split <;> omega
 refine ⟨fun y=>hs.cmb y m fun i hi=>⟨?_, ?_⟩,fun v hv=>?_,fun y hy=>?_⟩
 ·refine hV.ext _ _ (fun c _=>?_) (hV.add _ _ (hrow _ (hsk i hi).1) (hV.smul (-(R (sk k i) x * inv (R k x))) _ (hrow k hk)))
  show R (sk k i) c + -(R (sk k i) x * inv (R k x)) * R k c=wo R k x i c
  unfold wo
  rw [neg_mul,← sub_def]
 ·show R (sk k i) x - R (sk k i) x * inv (R k x) * R k x=0
  rw [mul_assoc,Fd.inv_mul h0,mul_one,sub_self]
 ·obtain ⟨y,hy⟩:=h.gen v hv.1
  refine ⟨fun i=>y (sk k i),fun c hc=>?_⟩
  have e1:=hy x hx
  rw [hv.2] at e1
  unfold cmb at e1
  rw [sm_sk hk] at e1
  have e2:sm m (fun i=>y (sk k i) * R (sk k i) x)=-(y k * R k x):=neg_unique (by rw [add_comm];exact e1.symm)
  rw [cmb_wo,e2,hy c hc]
  unfold cmb
  rw [sm_sk hk]
  have e3:-(y k * R k x) * inv (R k x) * R k c=-(y k * R k c):=by
   rw [neg_mul,neg_mul,mul_assoc (y k),Fd.mul_inv _ h0,mul_one]
  rw [e3,sub_def,neg_neg]
 ·obtain ⟨z,hz⟩:∃ z:α,z=sm m (fun i=>y i * R (sk k i) x) * inv (R k x):=⟨_,rfl⟩
  have hf:∀ c,c < n→cmb R (m + 1) (fun j=>if j=k then -z else y (if j < k then j else j - 1)) c=0:=fun c hc=>by
   unfold cmb
   rw [sm_sk hk]
   show sm m (fun i=>(if sk k i=k then -z else y (if sk k i < k then sk k i else sk k i - 1)) * R (sk k i) c) + (if k=k then -z else y (if k < k then k else k - 1)) * R k c=0
   rw [if_pos (rfl:k=k)]
   have e1:sm m (fun i=>(if sk k i=k then -z else y (if sk k i < k then sk k i else sk k i - 1)) * R (sk k i) c)=sm m (fun i=>y i * R (sk k i) c):=sm_congr fun i hi=>by
    rw [if_neg (hsk i hi).2]
    have:(if sk k i < k then sk k i else sk k i - 1)=i:=by
     unfold sk
     by_cases e:i < k
     ·rw [if_pos e,if_pos e]
     ·rw [if_neg e,if_neg (by omega)];omega
    rw [this]
   rw [e1,neg_mul,← sub_def,hz,← cmb_wo]
   exact hy c hc
  have h1:=h.ind _ hf
  intro i hi
  have h2:=h1 (sk k i) (hsk i hi).1
  rw [if_neg (hsk i hi).2] at h2
  have:(if sk k i < k then sk k i else sk k i - 1)=i:=by
   unfold sk
   by_cases e:i < k
   ·rw [if_pos e,if_pos e]
   ·rw [if_neg e,if_neg (by omega)];omega
  rwa [this] at h2
theorem dim_hy {n a b x:Nat} {V:(Nat→α)→Prop} (hx:x < n) (h:Dim n V b) (k:Dim n (Hy V x) a):a≤b∧b≤a + 1:=by
 refine ⟨dim_le k h fun v hv=>hv.1, ?_⟩
 obtain ⟨hV,R,hb⟩:=h
 by_cases e:∃ j,j < b∧R j x ≠ 0
 ·obtain ⟨j,hj,h0⟩:=e
  obtain ⟨m,rfl⟩:∃ m,b=m + 1:=⟨b - 1,by omega⟩
  have:=k.eq ⟨hV.hy hx,_,bas_wo hV hb hj hx h0⟩
  omega
 ·have hz:∀ v,V v→v x=0:=fun v hv=>by
   obtain ⟨y,hy⟩:=hb.gen v hv
   rw [hy x hx]
   exact sm_eq_zero fun i hi=>by
    have:R i x=0:=Classical.byContradiction fun h=>e ⟨i,hi,h⟩
    rw [this,mul_zero]
  have:=k.eq (Dim.congr ⟨hV,R,hb⟩ fun v=>⟨fun h=>⟨h,hz v h⟩,fun h=>h.1⟩)
  omega
def upd (T:Nat→Bool) (x:Nat) (b:Bool):Nat→Bool:=fun j=>if j=x then b else T j
theorem cF_upd {T:Nat→Bool} {x:Nat}:∀ {n:Nat},x < n→T x=false→cF (upd T x true) n + 1=cF T n
 | 0,h,_=>by omega
 | n + 1,h,e=>by
  show (cF (upd T x true) n + if upd T x true n then 0 else 1) + 1=cF T n + if T n then 0 else 1
  by_cases hx:x=n
  ·subst hx
   have e1:upd T x true x=true:=if_pos rfl
   have e2:cF (upd T x true) x=cF T x:=by
    have:∀ m,m≤x→cF (upd T x true) m=cF T m:=by
     intro m
     induction m with
     | zero=>intro _;rfl
     | succ m ih =>
      intro hm
      show cF (upd T x true) m + _=cF T m + _
      rw [ih (by omega),show upd T x true m=T m from if_neg (by omega)]
    exact this x (Nat.le_refl _)
   rw [e1,e,e2]
   rfl
  ·have e1:upd T x true n=T n:=if_neg (fun h=>hx h.symm)
   have:=cF_upd (T:=T) (x:=x) (n:=n) (by omega) e
   rw [e1]
   omega
theorem upd_upd {T:Nat→Bool} {x:Nat} {b:Bool}:upd (upd T x b) x (T x)=T:=funext fun j=>by
 unfold upd
 by_cases h:j=x
 ·rw [if_pos h,h]
 ·rw [if_neg h,if_neg h]
theorem cF_ex {T:Nat→Bool}:∀ {n:Nat},0 < cF T n→∃ x,x < n∧T x=false
 | 0,h=>by cases h
 | n + 1,h=>by
  cases e:T n with
  | false=>exact ⟨n,by omega,e⟩
  | true =>
   have h':0 < cF T n + if T n then 0 else 1:=h
   rw [e] at h'
   obtain ⟨x,h1,h2⟩:=cF_ex h'
   exact ⟨x,by omega,h2⟩
theorem cF_le (T:Nat→Bool):∀ n,cF T n≤n
 | 0=>Nat.le_refl _
 | n + 1=>by
  have:=cF_le T n
  show cF T n + (if T n then 0 else 1)≤n + 1
  split <;> omega
theorem cF_ex' {T:Nat→Bool}:∀ {n:Nat},cF T n < n→∃ x,x < n∧T x=true
 | 0,h=>by cases h
 | n + 1,h=>by
  cases e:T n with
  | true=>exact ⟨n,by omega,e⟩
  | false =>
   have h':(cF T n + if T n then 0 else 1) < n + 1:=h
   rw [e] at h'
   have h':cF T n + 1 < n + 1:=h'
   obtain ⟨x,h1,h2⟩:=cF_ex' (T:=T) (n:=n) (by omega)
   exact ⟨x,by omega,h2⟩
theorem cF_not (T:Nat→Bool):∀ n,cF (fun i=>!T i) n + cF T n=n
 | 0=>rfl
 | n + 1=>by
  have:=cF_not T n
  show (cF (fun i=>!T i) n + if (!T n) then 0 else 1) + (cF T n + if T n then 0 else 1)=n + 1
  cases T n <;> simp <;> omega
theorem vt_upd {V:(Nat→α)→Prop} {T:Nat→Bool} {n x:Nat} (hx:x < n) (_h:T x=true) (v:Nat→α):VT V (upd T x false) n v ↔ Hy (VT V T n) x v:=by
 constructor
 ·rintro ⟨h1,h2⟩
  refine ⟨⟨h1,fun i hi ht=>h2 i hi ?_⟩,h2 x hx (if_pos rfl)⟩
  unfold upd
  split
  ·rfl
  ·exact ht
 ·rintro ⟨⟨h1,h2⟩,h3⟩
  refine ⟨h1,fun i hi ht=>?_⟩
  unfold upd at ht
  split at ht
  ·rename_i e;rw [e];exact h3
  ·exact h2 i hi ht
def Pr (n:Nat) (V:(Nat→α)→Prop) (i m:Nat):Prop:=(∃ T,cF T n + i=n∧Dim n (VT V T n) m)∧∀ T a,cF T n + i=n→Dim n (VT V T n) a→a≤m
theorem pr_step {n i a b:Nat} {V:(Nat→α)→Prop} (hV:Spc n V) (hi:i < n) (h:Pr n V i a) (k:Pr n V (i + 1) b):a≤b∧b≤a + 1:=by
 obtain ⟨⟨T,t1,t2⟩,h2⟩:=h
 obtain ⟨⟨S,s1,s2⟩,k2⟩:=k
 refine ⟨?_, ?_⟩
 ·obtain ⟨x,x1,x2⟩:=cF_ex (T:=T) (n:=n) (by omega)
  have:=cF_upd x1 x2
  obtain ⟨c,hc⟩:=dim_ex (hV.vt (upd T x true))
  have h3:=k2 _ c (by omega) hc
  have h4:=dim_le t2 hc fun v hv=>⟨hv.1,fun i hi ht=>hv.2 i hi (by
   unfold upd at ht
   split at ht
   ·cases ht
   ·exact ht)⟩
  omega
 ·obtain ⟨x,x1,x2⟩:=cF_ex' (T:=S) (n:=n) (by omega)
  have e1:upd (upd S x false) x true=S:=by
   have:=upd_upd (T:=S) (x:=x) (b:=false)
   rwa [x2] at this
  have e2:=cF_upd (T:=upd S x false) x1 (if_pos rfl)
  rw [e1] at e2
  obtain ⟨c,hc⟩:=dim_ex (hV.vt (upd S x false))
  have h3:=h2 _ c (by omega) hc
  have h4:=(dim_hy x1 s2 (hc.congr (vt_upd x1 x2))).2
  omega
theorem cF_none {T:Nat→Bool}:∀ {n:Nat},cF T n=n→∀ i,i < n→T i=false
 | 0,_,i,hi=>by omega
 | n + 1,h,i,hi=>by
  have h':(cF T n + if T n then 0 else 1)=n + 1:=h
  have:=cF_le T n
  cases e:T n with
  | true=>rw [e] at h';have h':cF T n + 0=n + 1:=h';omega
  | false =>
   rw [e] at h'
   have h':cF T n + 1=n + 1:=h'
   by_cases hn:i=n
   ·rw [hn,e]
   ·exact cF_none (T:=T) (n:=n) (by omega) i (by omega)
theorem pr_zero {n a:Nat} {V:(Nat→α)→Prop} (h:Pr n V 0 a):a=0:=by
 obtain ⟨⟨T,t1,hV,R,hb⟩,_⟩:=h
 have ht:=cF_none (T:=T) (n:=n) (by omega)
 refine Nat.le_zero.1 (Nat.le_of_not_lt fun ha=>?_)
 have:=hb.ind (fun _=>1) (fun k hk=>(hb.mem (fun _=>1)).2 k hk (ht k hk)) 0 ha
 exact Fd.one_ne this
theorem pr_all {n a k:Nat} {V:(Nat→α)→Prop} (hk:Dim n V k) (h:Pr n V n a):a=k:=by
 obtain ⟨⟨T,t1,t2⟩,_⟩:=h
 refine t2.eq (hk.congr fun v=>⟨fun hv=>⟨hv,fun i hi ht=>?_⟩,fun hv=>hv.1⟩)
 obtain ⟨x,hx⟩:∃ x,x=cF T n:=⟨_,rfl⟩
 have hn:cF (fun i=>!T i) n=n:=by have:=cF_not T n;omega
 have:=cF_none hn i hi
 rw [ht] at this
 cases this
def Du (n:Nat) (V:(Nat→α)→Prop) (w:Nat→α):Prop:=∀ v,V v→sm n (fun i=>v i * w i)=0
theorem spc_du (n:Nat) (V:(Nat→α)→Prop):Spc n (Du n V) where
 ext v w e hv:=fun u hu=>(sm_congr fun i hi=>by rw [e i hi]).symm.trans (hv u hu)
 zero:=fun u _=>sm_eq_zero fun i _=>mul_zero _
 add v w hv hw:=fun u hu=>by
  have:sm n (fun i=>u i * (v i + w i))=sm n (fun i=>u i * v i) + sm n (fun i=>u i * w i):=by
   rw [← sm_add];exact sm_congr fun i _=>mul_add _ _ _
  show sm n (fun i=>u i * (v i + w i))=0
  rw [this,hv u hu,hw u hu,add_zero]
 smul a v hv:=fun u hu=>by
  have:sm n (fun i=>u i * (a * v i))=a * sm n (fun i=>u i * v i):=by
   rw [mul_sm];exact sm_congr fun i _=>by ac_rfl
  show sm n (fun i=>u i * (a * v i))=0
  rw [this,hv u hu,mul_zero]
theorem vt_du {n:Nat} {V:(Nat→α)→Prop} {T:Nat→Bool} (w:Nat→α):VT (Du n V) (fun i=>!T i) n w ↔ WS V T n w:=by
 constructor
 ·rintro ⟨h1,h2⟩
  exact ⟨h1,fun i hi ht=>h2 i hi (by show (!T i)=false;rw [ht];rfl)⟩
 ·rintro ⟨h1,h2⟩
  exact ⟨h1,fun i hi ht=>h2 i hi (by cases e:T i with
   | true=>rfl
   | false=>exact absurd (show (!T i)=false from ht) (by rw [e];decide))⟩
theorem pr_dual {n k i a b:Nat} {V:(Nat→α)→Prop} (hk:Dim n V k) (hi:i≤n) (h:Pr n V (n - i) a) (g:Pr n (Du n V) i b):b + k=i + a:=by
 have hV:=hk.1
 obtain ⟨⟨T,t1,t2⟩,h2⟩:=h
 obtain ⟨⟨S,s1,s2⟩,g2⟩:=g
 refine Nat.le_antisymm ?_ ?_
 ·
  obtain ⟨T',hT'⟩:∃ T':Nat→Bool,T'=fun i=>!S i:=⟨_,rfl⟩
  have eS:S=fun i=>!T' i:=by rw [hT'];funext i;simp
  have hc:=cF_not S n
  rw [← hT'] at hc
  obtain ⟨c,hc'⟩:=dim_ex (hV.vt T')
  rw [eS] at s2
  have:=wei_dim T' n V k c b hk hc' (s2.congr vt_du)
  have:=h2 T' c (by omega) hc'
  omega
 ·obtain ⟨c,hc⟩:=dim_ex (spc_ws V T n)
  have:=wei_dim T n V k a c hk t2 hc
  have hn:=cF_not T n
  have:=g2 (fun i=>!T i) c (by omega) (hc.congr fun w=>(vt_du w).symm)
  omega
end Dm
end Cw
