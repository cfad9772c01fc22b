/- What the functions of the field's layer come to, in plain terms: no program in sight. The powers of a residue, in plain terms. A field's tables, in plain terms. Sums and negatives of coefficients, and what the tables of a field hold, in plain terms. Powers, sums and products of lists, in plain terms. What the reference's functions on fields come to, in plain terms. The reference's sums and products of two elements, in plain terms: coefficient by coefficient; the product of the polynomials, reduced from the highest power on. No program in sight. -/
import Derived.Test.YtoilbeadokallaaGreatDoorK01
namespace Cw
def dw (p m:Int):Int:=if 2<=p/\p<=256/\1<=m/\m<=8/\p^m.toNat<=256 then p^m.toNat else 0
def Prm (n:Int):Prop:=2<=n/\∀ d:Int,2<=d->d<n->n%d≠0
def dgt (p x:Int) (i:Nat):Int:=x/p^i%p
def bY (p x:Int) (m:Nat):List Int:=(List.range m).map (dgt p x)
def ng (p:Int):List Int->Int
 | []=>0
 |d::l=>d+p*ng p l
theorem EZ {p m:Int} (h1:2<=p) (h2:p<=256) (h3:1<=m) (h4:m<=8) (h5:p^m.toNat<=256):dw p m=p^m.toNat:=zu ⟨h1,h2,h3,h4,h5⟩
theorem lI {p m:Int} (h:¬ (2<=p/\p<=256/\1<=m/\m<=8/\p^m.toNat<=256)):dw p m=0:=zx h
theorem ni {p:Int} (hp:1<=p) {i j:Nat} (h:i<=j):p^i<=p^j:=by
 obtain⟨k,rfl⟩:=wU h;induction k with
 |zero=>exact rY _
 |succ k ih=>
  have h1:0<p^ (i+k):=uV (by omega);have h2:=ih (by omega);rw[<-rV,xY];have h3:p^ (i+k)*1<=p^ (i+k)*p:=zG hp (by omega);omega
theorem fK {p m:Int} (h:dw p m≠0):2<=p/\p<=256/\1<=m/\m<=8/\p^m.toNat<=256/\dw p m=p^m.toNat:=by
 unfold dw at*
 split at h
 ·rename_i g;exact⟨g.1,g.2.1,g.2.2.1,g.2.2.2.1,g.2.2.2.2,by rw[zu g]⟩
 ·exact absurd rfl h
theorem adT {n:Int} {d:Int} (h2:2<=n) (hd:2<=d) (hn:n<d*d) (h:∀ c:Int,2<=c->c<d->n%c≠0):Prm n:=by
 refine⟨h2,fun c hc hcn hz=>?_⟩;by_cases hcd:c<d
 ·exact h c hc hcd hz
 ·have e:=tX n c;rw[hz,sH] at e;have hk1:1<n/c:=by
   rcases sG 1 (n/c) with g|g
   ·exact g
   ·have:c*(n/c)<=c*1:=zG g (by omega);omega
  have hkd:n/c<d:=by
   rcases sG (n/c) d with g|g
   ·exact g
   ·have h3:d*d<=c*d:=zV (by omega) (by omega);have h4:c*d<=c*(n/c):=zG g (by omega);omega
  refine h (n/c) (by omega) hkd ?_;have:n=(n/c)*c:=by rw[wI];exact e.symm
  rw[this,Int.mul_ediv_cancel _ (by omega),Int.mul_emod_right]
theorem adU {d:Int} (h0:0<=d) (h:d<=17):0<=d*d/\d*d<=289:=by
 have h1:d*d<=17*d:=zV h h0;have h2:=yN h0 h0;omega
theorem adV {d:Int} (h0:0<=d) (h:d*d<=256):d<=16:=by
 rcases sG 16 d with g|g
 ·have h1:17*d<=d*d:=zV (by omega) h0;omega
 ·exact g
theorem fM {l m:List Int} (hl:l.length=m.length) (h:∀ i,i<l.length->l.getD i 0=m.getD i 0):l=m:=by
 refine zM hl (fun i h1 h2=>?_);have:=h i h1;simpa only[List.getD,zq h1,zq h2,zU] using this
theorem aP (p x:Int) (m:Nat):(bY p x m).length=m:=by simp[bY]
theorem BH {p x:Int} {m i:Nat} (h:i<m):(bY p x m).getD i 0=dgt p x i:=by simp[bY,List.getD,h]
theorem oL {p x:Int} (hp:0<p) (i:Nat):0<=dgt p x i:=zK _ (by omega)
theorem MF {p x:Int} (hp:0<p) (i:Nat):dgt p x i<p:=zQ _ hp
theorem lJ (p x:Int):dgt p x 0=x%p:=by simp[dgt]
theorem lK {p x:Int} (hp:0<p) (i:Nat):dgt p x (i+1)=dgt p (x/p) i:=by
 unfold dgt;rw[xY,wI,Int.ediv_ediv_of_nonneg (by omega)]
theorem Ae {p x:Int} (hp:0<p) (i:Nat):x/p^i/p=x/p^ (i+1):=by
 rw[xY,Int.ediv_ediv_of_nonneg (Int.le_of_lt (uV hp))]
def Qo (p:Int) (l:List Int) (k:Nat):Int:=ng p (l.drop k)
theorem MG (p:Int) (l:List Int):Qo p l l.length=0:=by simp[Qo,ng]
theorem Hz (p:Int) (l:List Int):Qo p l 0=ng p l:=rfl
theorem H6 (p:Int) (l:List Int) {k:Nat} (h:k<l.length):Qo p l k=Qo p l (k+1)*p+l.getD k 0:=by
 unfold Qo;rw[yP h,ng];simp only[List.getD,zq h,zU];rw[wI,Int.add_comm]
def fF (p:Int) (l:List Int):Prop:=∀ x∈l,0<=x/\x<p
theorem Qp {p:Int} {l:List Int} (h:fF p l) (k:Nat):fF p (l.drop k):=fun x hx=>h x (List.mem_of_mem_drop hx)
theorem xg {p:Int} (hp:0<p):∀ {l:List Int},fF p l->0<=ng p l/\ng p l<p^l.length
 | [],_=>by simp[ng]
 |d::l,h=>by
  obtain⟨h1,h2⟩:=xg hp (l:=l) (fun x hx=>h x (by simp[hx]));obtain⟨h3,h4⟩:=h d (by simp);have h5:0<=p*ng p l:=yN (by omega) h1;have h6:p*(ng p l+1)<=p*p^l.length:=zG (by omega) (by omega);rw[sS,qy] at h6;rw[yG,xY,wI (p^l.length),ng];omega
theorem Qq {p:Int} (hp:1<=p) {l:List Int} (h:fF p l) (k:Nat):0<=Qo p l k/\Qo p l k<p^l.length:=by
 have h1:=xg (by omega) (Qp h k);have h2:p^ (l.drop k).length<=p^l.length:=ni hp (by simp);exact⟨h1.1,by have:=h1.2;unfold Qo;omega⟩
def stepM (p:Int) (m:Nat) (mod a:List Int) (bi:Int) (out:List Int):List Int:=
 (List.range m).map fun j=>((if j=0 then 0 else out.getD (j-1) 0)+(p-out.getD (m-1) 0)*(if 1<m then mod.getD j 0 else 0)+bi*a.getD j 0)%p
def pI (p:Int) (m:Nat) (mod a b:List Int):Nat->List Int
 |0=>List.replicate m 0
 |n+1=>stepM p m mod a (b.getD (m-1-n) 0) (pI p m mod a b n)
def mulS (p:Int) (m:Nat) (mod:List Int) (x y:Int):Int:=ng p (pI p m mod (bY p x m) (bY p y m) m)
theorem nO (p:Int) (m:Nat) (mod a:List Int) (bi:Int) (out:List Int):(stepM p m mod a bi out).length=m:=by simp[stepM]
theorem jS (p:Int) (m:Nat) (mod a b:List Int) (n:Nat):(pI p m mod a b n).length=m:=by cases n<;>simp[pI,nO]
theorem MH {p:Int} {m:Nat} {mod a:List Int} {bi:Int} {out:List Int} {j:Nat} (h:j<m):
  (stepM p m mod a bi out).getD j 0=((if j=0 then 0 else out.getD (j-1) 0)+(p-out.getD (m-1) 0)*(if 1<m then mod.getD j 0 else 0)+bi*a.getD j 0)%p:=by simp[stepM,List.getD,h]
theorem Ol {p:Int} (hp:0<p) (m:Nat) (mod a:List Int) (bi:Int) (out:List Int):fF p (stepM p m mod a bi out):=fun x hx=>by
 obtain⟨j,_,rfl⟩:=yY.1 hx;exact⟨zK _ (by omega),zQ _ hp⟩
theorem xk {p:Int} (hp:0<p) (m:Nat) (mod a b:List Int):∀ n,fF p (pI p m mod a b n)
 |0=>fun x hx=>by rw[(List.mem_replicate.1 hx).2];omega
 |n+1=>Ol hp _ _ _ _ _
theorem eX {p:Int} {l:List Int} (hp:0<p) (h:fF p l) (i:Nat):0<=l.getD i 0/\l.getD i 0<p:=by
 by_cases hi:i<l.length
 ·simp only[List.getD,zq hi,zU];exact h _ (zF _)
 ·simp only[List.getD,zT (Nat.not_lt.1 hi),Option.getD_none];omega
theorem gJ {p x:Int} (hp:0<p) (m:Nat):fF p (bY p x m):=fun y hy=>by
 obtain⟨j,_,rfl⟩:=yY.1 hy;exact⟨oL hp _,MF hp _⟩
theorem WE {ys:List Int} {m j:Nat} (hl:ys.length=m) (hj:j<m):((ys.take 1++ys.take (m-1)).set 0 0).getD j 0=if j=0 then 0 else ys.getD (j-1) 0:=by
 by_cases h:j=0
 ·subst h;have:0< (ys.take 1++ys.take (m-1)).length:=by simp;omega
  simp only[List.getD,xM this,zU,if_true]
 ·rw[zx h];simp only[List.getD];rw[zS (by omega),vW (by simp;omega),wX (by simp;omega)];congr 2;simp;omega
theorem H7 {ys:List Int} {m:Nat} (hl:ys.length=m) (hm:1<=m):((ys.take 1++ys.take (m-1)).set 0 0).length=m:=by simp;omega
theorem Qr {p t l b c:Int} (hp:2<=p) (hp2:p<=256) (ht:0<=t/\t<p) (hl:0<=l/\l<p) (hb:0<=b/\b<p) (hc:0<=c/\c<p):
  0<=(p-t)*l/\(p-t)*l<=65536/\0<=b*c/\b*c<=65536:=by
 have h1:0<=(p-t)*l:=yN (by omega) hl.1;have h2:(p-t)*l<=256*l:=zV (by omega) hl.1;have h3:0<=b*c:=yN hb.1 hc.1;have h4:b*c<=256*c:=zV (by omega) hc.1;omega
end Cw
namespace Cw
theorem JO {p:Int} (hp:0<p) (m:Nat) (mod:List Int) (x y:Int):0<=mulS p m mod x y/\mulS p m mod x y<p^m:=by
 have h:=xg hp (xk hp m mod (bY p x m) (bY p y m) m);rw[jS] at h;exact h
def kF (f:Int->Int):Nat->List Int->Int->List Int
 |0,acc,_=>acc
 |n+1,acc,y=>if y=0∨y∈acc then acc else kF f n (acc++ [y]) (f y)
def pU (p:Int) (m:Nat) (mod:List Int) (x:Int):List Int:=kF (fun y=>mulS p m mod y x) (p^m).toNat [1] x
theorem Ee {f:Int->Int} {n:Nat} {acc:List Int} {y:Int} (h:y=0∨y∈acc):kF f n acc y=acc:=by
 cases n with
 |zero=>rfl
 |succ n=>rw[kF,zu h]
theorem WG {f:Int->Int} {n:Nat} {acc:List Int} {y:Int} (h0:y≠0) (h1:y ∉ acc) (hn:0<n):kF f n acc y=kF f (n-1) (acc++ [y]) (f y):=by
 cases n with
 |zero=>omega
 |succ n=>rw[kF,zx (by rintro(h|h);exact h0 h;exact h1 h)];rfl
def Seen (q:Nat) (bs:List Bool) (acc:List Int):Prop:=bs.length=q/\(∀ z:Nat,z<q->(bs.getD z false=true↔(z:Int)∈acc))/\acc.length+bs.count false=q
theorem Om {q:Nat} (hq:2<=q):Seen q ((List.replicate q false).set 1 true) [1]:=by
 refine⟨by simp,fun z hz=>?_, ?_⟩
 ·by_cases e:z=1
  ·subst e;simp[List.getD,hz]
  ·simp only[List.getD,zS (show 1≠z by omega)];simp[hz];omega
 ·rw[List.count_set (by simp;omega)];simp;omega
theorem Qs {q:Nat} {bs:List Bool} {acc:List Int} {y:Nat} (h:Seen q bs acc) (hy:y<q) (hn:bs.getD y false=false):Seen q (bs.set y true) (acc++ [(y:Int)]):=by
 obtain⟨h1,h2,h3⟩:=h;refine⟨by simp[h1],fun z hz=>?_, ?_⟩
 ·by_cases e:z=y
  ·subst e;simp[List.getD,h1,hz]
  ·have:=h2 z hz;simp only[List.getD,zS (show y≠z by omega)] at this ⊢;rw[this];simp;omega
 ·rw[List.count_set (by omega)];have hy':bs[y]'(by omega)=false:=by simpa[List.getD,zq (show y<bs.length by omega)] using hn
  have hpos:0<bs.count false:=by
   rw[List.count_pos_iff,<-hy'];exact zF _
  simp[hy'];omega
theorem aaT {q:Nat} {bs:List Bool} {acc:List Int} {y:Nat} (h:Seen q bs acc) (hy:y<q) (hn:bs.getD y false=false):acc.length<q:=by
 obtain⟨h1,h2,h3⟩:=h;have hy':bs[y]'(by omega)=false:=by simpa[List.getD,zq (show y<bs.length by omega)] using hn
 have hpos:0<bs.count false:=by
  rw[List.count_pos_iff,<-hy'];exact zF _
 omega
def kG (p:Int) (m:Nat) (mod:List Int) (q:Nat) (x:Int):Prop:=(pU p m mod x).length=q-1/\mulS p m mod ((pU p m mod x).getD (q-2) 0) x=1
theorem Qu {f:Int->Int} (n:Nat) (acc:List Int) (y:Int):∃ l,kF f n acc y=acc++l:=by
 induction n generalizing acc y with
 |zero=>exact⟨[],by simp[kF]⟩
 |succ n ih=>
  rw[kF]
  split
  ·exact⟨[],by simp⟩
  ·obtain⟨l,hl⟩:=ih (acc++ [y]) (f y);exact⟨y::l,by rw[hl];simp⟩
theorem E5 (p:Int) (m:Nat) (mod:List Int) (x:Int):pU p m mod x≠ []:=by
 unfold pU;obtain⟨l,hl⟩:=Qu (f:=fun y=>mulS p m mod y x) (p^m).toNat [1] x;rw[hl];simp
theorem Qv {f:Int->Int} {R:Int->Prop} (hf:∀ y,R (f y)) (n:Nat) (acc:List Int) (y:Int) (ha:∀ z∈acc,R z) (hy:R y):∀ z∈kF f n acc y,R z:=by
 induction n generalizing acc y with
 |zero=>exact ha
 |succ n ih=>
  rw[kF]
  split
  ·exact ha
  ·refine ih _ _ (fun z hz=>?_) (hf y);rcases yQ.1 hz with h|h
   ·exact ha z h
   ·rw[zH.1 h];exact hy
theorem xA {p:Int} (hp:2<=p) {m:Nat} (hm:1<=m) (mod:List Int) {x:Int} (h0:0<=x) (h1:x<p^m):∀ z∈pU p m mod x,0<=z/\z<p^m:=by
 have h2:p^1<=p^m:=ni (by omega) hm;rw[sQ] at h2;exact Qv (R:=fun z=>0<=z/\z<p^m) (fun y=>JO (by omega) m mod y x) _ _ _ (fun z hz=>by rw[zH.1 hz];omega) ⟨h0,h1⟩
def jq (P M:Int) (mod:List Int):Prop:=dw P M≠0/\Prm P/\(M=1->mod=[])/\(M≠1->(mod.length:Int)=M/\fF P mod)
def fD (P M:Int) (mod:List Int):Prop:=jq P M mod/\∃ x,1<=x/\x<dw P M/\kG P M.toNat mod (dw P M).toNat x
end Cw
namespace Cw
structure GFd where
 P:Int
 M:Int
 q:Int
 mod:List Int
 exp:List Int
 log:List Int
structure aK (G:GFd):Prop where
 shape:jq G.P G.M G.mod
 hq:G.q=dw G.P G.M
 gen:∃ x,1<=x/\x<G.q/\kG G.P G.M.toNat G.mod G.q.toNat x/\G.exp=pU G.P G.M.toNat G.mod x
 llen:G.log.length=G.q.toNat
 log:∀ i,i<G.exp.length->G.log.getD (G.exp.getD i 0).toNat 0=i
theorem JQ {f:Int->Int} (n:Nat) (acc:List Int) (y:Int) (ha:acc.Nodup):(kF f n acc y).Nodup:=by
 induction n generalizing acc y with
 |zero=>exact ha
 |succ n ih=>
  rw[kF]
  split
  ·exact ha
  ·rename_i h
   refine ih _ _ ?_;rw[uq];refine⟨ha,by simp,fun a hm b hb=>?_⟩;rw[zH.1 hb];rintro rfl;exact h (.inr hm)
theorem kH (p:Int) (m:Nat) (mod:List Int) (x:Int):(pU p m mod x).Nodup:=JQ _ _ _ (by simp)
theorem WH {f:Int->Int} (n:Nat) (acc:List Int) (y:Int) (ha:∀ z∈acc,z≠0):∀ z∈kF f n acc y,z≠0:=by
 induction n generalizing acc y with
 |zero=>exact ha
 |succ n ih=>
  rw[kF]
  split
  ·exact ha
  ·rename_i h
   refine ih _ _ (fun z hz=>?_);rcases yQ.1 hz with g|g
   ·exact ha z g
   ·rw[zH.1 g];exact fun e=>h (.inl e)
theorem JR (p:Int) (m:Nat) (mod:List Int) (x:Int):∀ z∈pU p m mod x,z≠0:=WH _ _ _ (by simp)
theorem Ef {l:List Int} (h:l.Nodup) {i j:Nat} (hi:i<l.length) (hj:j<l.length) (e:l.getD i 0=l.getD j 0):i=j:=by
 simp only[List.getD,zq hi,zq hj,zU] at e;exact(tN h).1 e
theorem WJ {ex lg:List Int} {q k:Nat} (hn:ex.Nodup) (hb:∀ z∈ex,0<=z/\z< (q:Int)) (hl:lg.length=q) (hk:k<ex.length) (h:∀ i,i<k->lg.getD (ex.getD i 0).toNat 0=i):
  ∀ i,i<k+1->(lg.set (ex.getD k 0).toNat k).getD (ex.getD i 0).toNat 0=i:=fun i hi=>by
 have hm:∀ j,j<ex.length->0<=ex.getD j 0/\ex.getD j 0< (q:Int):=fun j hj=>hb _ (by
  simp only[List.getD,zq hj,zU];exact zF _)
 have h1:=hm k hk;have h2:=hm i (by omega);by_cases e:i=k
 ·subst e;rw[List.getD,xM (by omega)];rfl
 ·have hne:(ex.getD k 0).toNat≠(ex.getD i 0).toNat:=fun he=>e (Ef hn (by omega) hk (by omega));rw[List.getD,zS hne];exact h i (by omega)
end Cw
namespace Cw
def inn (q x:Int):Int:=if 0<=x/\x<q then x else 0
theorem bI {q x:Int} (h:0<=x/\x<q):inn q x=x:=zu h
theorem Qw {q x:Int} (h:¬ (0<=x/\x<q)):inn q x=0:=zx h
theorem iY {q:Int} (hq:0<q) (x:Int):0<=inn q x/\inn q x<q:=by unfold inn;split<;>omega
theorem aaU {q:Int} (hq:0<q) (x:Int):inn q (inn q x)=inn q x:=bI (iY hq x)
def Af (P:Int):Nat->Int->Int->Int
 |0,_,_=>0
 |k+1,x,y=>(x+y)%P+P*Af P k (x/P) (y/P)
def AZ (P:Int):Nat->Int->Int
 |0,_=>0
 |k+1,x=>-(x%P)%P+P*AZ P k (x/P)
theorem H8 {P:Int}:∀ k,Af P k 0 0=0
 |0=>rfl
 |k+1=>by rw[Af,Int.zero_ediv,H8 k];simp
theorem H9 {P:Int}:∀ k,AZ P k 0=0
 |0=>rfl
 |k+1=>by rw[AZ,Int.zero_ediv,H9 k];simp
def BI (P:Int) (m:Nat) (X Y x y sum place:Int):Prop:=∃ k:Nat,0<=x/\x<P^k/\0<=y/\y<P^k/\0<=sum/\sum<place/\place*x<=X/\place*y<=Y/\sum+place*Af P k x y=Af P m X Y
theorem Ia {P X Y:Int} {m:Nat} (hX:0<=X/\X<P^m) (hY:0<=Y/\Y<P^m):BI P m X Y X Y 0 1:=⟨m,hX.1,hX.2,hY.1,hY.2,by omega,by omega,by omega,by omega,by omega⟩
theorem Qx {P X Y x y sum place:Int} {m:Nat} (h:BI P m X Y x y sum place):0<=x/\0<=y/\0<=sum/\sum<place/\x<=X/\y<=Y:=by
 obtain⟨k,h1,h2,h3,h4,h5,h6,h7,h8,_⟩:=h;have a1:1*x<=place*x:=zV (by omega) h1;have a2:1*y<=place*y:=zV (by omega) h3;exact⟨h1,h3,h5,h6,by omega,by omega⟩
theorem xB {P x:Int} {k:Nat} (hP:0<P) (h:x<P^ (k+1)):x/P<P^k:=by
 rw[xY] at h;exact tV hP h
theorem div_lt_self {P x:Int} (hP:2<=P) (hx:0<x):x/P<x:=by
 refine tV (by omega) ?_;have:x*2<=x*P:=zG hP (by omega);omega
theorem E8 {P place x X:Int} (hP:0<P) (hp:0<=place) (h:place*x<=X):place*P*(x/P)<=X:=by
 have h1:P*(x/P)<=x:=Int.mul_ediv_self_le (by omega);have h2:place*(P*(x/P))<=place*x:=zG h1 hp;rw[sV];omega
theorem Fa {place x X:Int} (hx:0<x) (hp:0<=place) (h:place*x<=X):place<=X:=by
 have h1:place*1<=place*x:=zG (by omega) hp;omega
theorem JU {P X Y x y sum place:Int} {m:Nat} (hP2:2<=P) (hP3:P<=256) (hX:X<=255) (hY:Y<=255) (h:BI P m X Y x y sum place) (hxy:0<x∨0<y):
  place<=255/\0<=(x+y)%P*place/\(x+y)%P*place<=65535/\place*P<=65536/\0<=place*P/\BI P m X Y (x/P) (y/P) (sum+(x+y)%P*place) (place*P):=by
 obtain⟨k,h1,h2,h3,h4,h5,h6,h7,h8,h9⟩:=h;have hpl:place<=255:=by
  rcases hxy with g|g
  ·have:=Fa g (by omega) h7;omega
  ·have:=Fa g (by omega) h8;omega
 have d0:=zK (x+y) (show P≠0 by omega);have d1:=zQ (x+y) (show 0<P by omega);have e0:0<=(x+y)%P*place:=yN d0 (by omega);have e1:(x+y)%P*place<=255*place:=zV (by omega) (by omega);have e2:place*P<=255*P:=zV hpl (by omega);have e3:0<=place*P:=yN (by omega) (by omega);have e4:((x+y)%P+1)*place<=P*place:=zV (by omega) (by omega);rw[Int.add_mul,Int.one_mul,wI P place] at e4;obtain⟨j,rfl⟩:∃ j,k=j+1:=by
  cases k with
  |zero=>rw[rM] at h2 h4;omega
  |succ j=>exact⟨j,rfl⟩
 refine⟨hpl,e0,by omega,by omega,e3,j,xI h1 (by omega),xB (by omega) h2,xI h3 (by omega),xB (by omega) h4,by omega,by omega,E8 (by omega) (by omega) h7,E8 (by omega) (by omega) h8, ?_⟩;rw[<-h9,Af,sS,wI ((x+y)%P) place,sV place P,Int.add_assoc]
theorem Oo {P X Y sum place:Int} {m:Nat} (h:BI P m X Y 0 0 sum place):sum=Af P m X Y:=by
 obtain⟨k,_,_,_,_,_,_,_,_,h9⟩:=h;rw[H8,Int.mul_zero,sH] at h9;exact h9
def Eh (P:Int) (m:Nat) (X x sum place:Int):Prop:=∃ k:Nat,0<=x/\x<P^k/\0<=sum/\sum<place/\place*x<=X/\sum+place*AZ P k x=AZ P m X
theorem Ib {P X:Int} {m:Nat} (hX:0<=X/\X<P^m):Eh P m X X 0 1:=⟨m,hX.1,hX.2,by omega,by omega,by omega,by omega⟩
theorem Qy {P X x sum place:Int} {m:Nat} (h:Eh P m X x sum place):0<=x/\0<=sum/\sum<place/\x<=X:=by
 obtain⟨k,h1,h2,h5,h6,h7,_⟩:=h;have a1:1*x<=place*x:=zV (by omega) h1;exact⟨h1,h5,h6,by omega⟩
theorem JV {P X x sum place:Int} {m:Nat} (hP2:2<=P) (hP3:P<=256) (hX:X<=255) (h:Eh P m X x sum place) (hx:0<x):
  place<=255/\0<=-(x%P)%P*place/\-(x%P)%P*place<=65535/\place*P<=65536/\0<=place*P/\Eh P m X (x/P) (sum+ -(x%P)%P*place) (place*P):=by
 obtain⟨k,h1,h2,h5,h6,h7,h9⟩:=h;have hpl:place<=255:=by have:=Fa hx (by omega) h7;omega
 have d0:=zK (-(x%P)) (show P≠0 by omega);have d1:=zQ (-(x%P)) (show 0<P by omega);have e0:0<=-(x%P)%P*place:=yN d0 (by omega);have e1:-(x%P)%P*place<=255*place:=zV (by omega) (by omega);have e2:place*P<=255*P:=zV hpl (by omega);have e3:0<=place*P:=yN (by omega) (by omega);have e4:(-(x%P)%P+1)*place<=P*place:=zV (by omega) (by omega);rw[Int.add_mul,Int.one_mul,wI P place] at e4;obtain⟨j,rfl⟩:∃ j,k=j+1:=by
  cases k with
  |zero=>rw[rM] at h2;omega
  |succ j=>exact⟨j,rfl⟩
 refine⟨hpl,e0,by omega,by omega,e3,j,xI h1 (by omega),xB (by omega) h2,by omega,by omega,E8 (by omega) (by omega) h7, ?_⟩;rw[<-h9,AZ,sS,wI (-(x%P)%P) place,sV place P,Int.add_assoc]
theorem Oq {P X sum place:Int} {m:Nat} (h:Eh P m X 0 sum place):sum=AZ P m X:=by
 obtain⟨k,_,_,_,_,_,h9⟩:=h;rw[H9,Int.mul_zero,sH] at h9;exact h9
theorem JW {P:Int} (hP:0<P):∀ (k:Nat) (x y:Int),0<=Af P k x y/\Af P k x y<P^k
 |0,_,_=>by simp[Af]
 |k+1,x,y=>by
  obtain⟨h1,h2⟩:=JW hP k (x/P) (y/P);have d0:=zK (x+y) (show P≠0 by omega);have d1:=zQ (x+y) hP;have h3:0<=P*Af P k (x/P) (y/P):=yN (by omega) h1;have h4:P*(Af P k (x/P) (y/P)+1)<=P*P^k:=zG (by omega) (by omega);rw[sS,qy] at h4;rw[Af,xY,wI (P^k)];omega
theorem JX {P:Int} (hP:0<P):∀ (k:Nat) (x:Int),0<=AZ P k x/\AZ P k x<P^k
 |0,_=>by simp[AZ]
 |k+1,x=>by
  obtain⟨h1,h2⟩:=JX hP k (x/P);have d0:=zK (-(x%P)) (show P≠0 by omega);have d1:=zQ (-(x%P)) hP;have h3:0<=P*AZ P k (x/P):=yN (by omega) h1;have h4:P*(AZ P k (x/P)+1)<=P*P^k:=zG (by omega) (by omega);rw[sS,qy] at h4;rw[AZ,xY,wI (P^k)];omega
theorem A8:∀ (n:Nat) (l:List Int) (a:Int),l.Nodup->(∀ x∈l,a<=x/\x<a+n)->l.length<=n
 |0,l,a,_,h=>by
  cases l with
  |nil=>simp
  |cons x l=>have:=h x (by simp);omega
 |n+1,l,a,hn,h=>by
  have h1:=A8 n (l.erase (a+n)) a (hn.erase _) (fun x hx=>by
   have h2:=h x (List.mem_of_mem_erase hx);have h3:x≠a+n:=(List.Nodup.mem_erase_iff hn).1 hx|>.1;omega)
  have h2:=List.length_erase (a:=a+(n:Int)) (l:=l)
  split at h2<;>omega
namespace aK
variable {G:GFd}
theorem qb (h:aK G):2<=G.q/\G.q<=256/\2<=G.P/\G.P<=256/\1<=G.M/\G.M<=8/\G.q=G.P^G.M.toNat:=by
 obtain⟨o1,o2,o3,o4,o5,o6⟩:=fK h.shape.1;have hq:=h.hq;have h2:G.P^1<=G.P^G.M.toNat:=ni (by omega) (by omega);rw[sQ] at h2;omega
theorem ZA (h:aK G):G.exp.length=G.q.toNat-1:=by
 obtain⟨x,_,_,hg,he⟩:=h.gen;rw[he];exact hg.1
theorem ebd (h:aK G):∀ z∈G.exp,1<=z/\z<G.q:=fun z hz=>by
 obtain⟨x,g1,g2,hg,he⟩:=h.gen;obtain⟨q1,q2,q3,q4,q5,q6,q7⟩:=h.qb;rw[he] at hz;have h1:=xA q3 (show 1<=G.M.toNat by omega) G.mod (by omega) (by rw[<-q7];exact g2) z hz;have h2:=JR _ _ _ _ z hz;omega
theorem end' (h:aK G):G.exp.Nodup:=by
 obtain⟨x,_,_,_,he⟩:=h.gen;rw[he];exact kH _ _ _ _
theorem cover (h:aK G) {z:Int} (h1:1<=z) (h2:z<G.q):z∈G.exp:=by
 obtain⟨q1,q2,_⟩:=h.qb;refine yu fun hn=>?_;have:=A8 (G.q.toNat-1) (z::G.exp) 1 (vS.2 ⟨hn,h.end'⟩) (fun x hx=>by
  rcases yO.1 hx with rfl|hx
  ·omega
  ·have:=h.ebd x hx;omega)
 rw[yG,h.ZA] at this;omega
theorem adW (h:aK G) {z:Int} (h1:1<=z) (h2:z<G.q):∃ i:Nat,i<G.exp.length/\G.exp.getD i 0=z/\G.log.getD z.toNat 0=i:=by
 obtain⟨i,hi,rfl⟩:=yR (h.cover h1 h2);have e:G.exp.getD i 0=G.exp[i]:=by simp only[List.getD,zq hi,zU]
 exact⟨i,hi,e,by rw[<-e];exact h.log i hi⟩
theorem Ic (h:aK G) {z:Int} (h1:1<=z) (h2:z<G.q):0<=G.log.getD z.toNat 0/\G.log.getD z.toNat 0<G.q-1:=by
 obtain⟨i,hi,_,h3⟩:=h.adW h1 h2;have:=h.ZA;rw[h3];have:=h.qb;omega
end aK
def gu (G:GFd) (x y:Int):Int:=Af G.P G.M.toNat (inn G.q x) (inn G.q y)
def iE (G:GFd) (x:Int):Int:=AZ G.P G.M.toNat (inn G.q x)
def qK (G:GFd) (x:Int):Int:=G.log.getD x.toNat 0
def JJ (G:GFd) (i:Int):Int:=G.exp.getD (i%(G.q-1)).toNat 0
def bF (G:GFd) (x y:Int):Int:=if inn G.q x=0∨inn G.q y=0 then 0 else JJ G (qK G (inn G.q x)+qK G (inn G.q y))
def fG (G:GFd) (x:Int):Int:=if inn G.q x=0 then 0 else JJ G (G.q-1-qK G (inn G.q x))
end Cw
namespace Cw
def pJ (G:GFd) (x n:Int):Int:=JJ G (qK G (inn G.q x)*(n%(G.q-1)))
def Ei (G:GFd) (a b:List Int):Nat->Int
 |0=>0
 |k+1=>gu G (Ei G a b k) (bF G (a.getD k 0) (b.getD k 0))
theorem aaV {n k:Int} (hk:0<k):-k<n.tmod k/\n.tmod k<k:=by
 refine⟨?_,vV n hk⟩;have h:=vV (-n) hk;rw[rJ] at h;omega
theorem Qz {n k:Int}:(n.tmod k+k)%k=n%k:=by
 have h:=Int.mul_tdiv_add_tmod n k;have h2:n.tmod k=n+k*(-(n.tdiv k)):=by rw[Int.mul_neg];omega
 rw[h2,Int.add_emod_right,wY]
theorem eY {u v:Int} (h0:0<=u) (h1:u<=256) (h2:0<=v) (h3:v<=256):0<=u*v/\u*v<=65536:=by
 have a:=yN h0 h2;have b:u*v<=256*v:=zV h1 h2;omega
end Cw
namespace Cw
def Ag (p:Int) (low:List Int) (i:Nat) (r:List Int):List Int:=
 (List.range r.length).map fun k=>if k=i then 0 else if i-low.length<=k/\k<i then(r.getD k 0+(p-r.getD i 0)*low.getD (k- (i-low.length)) 0)%p else r.getD k 0
def Ba (p:Int) (low r:List Int):Nat->List Int
 |0=>r
 |n+1=>Ag p low (r.length-1-n) (Ba p low r n)
def QA (p:Int) (low mod:List Int):Prop:=∀ x∈Ba p low (mod++ [1]) (mod.length+1-low.length),x=0
def QB (p:Int) (mod:List Int):Prop:=∀ d:Nat,1<=d->2*d<=mod.length->∀ v:Nat,(v:Int)<p^d->¬ QA p (bY p v d) mod
def qL (P M:Int) (mod:List Int):Prop:=jq P M mod/\(M≠1->QB P mod)
theorem lM (p:Int) (low:List Int) (i:Nat) (r:List Int):(Ag p low i r).length=r.length:=by simp[Ag]
theorem qh (p:Int) (low r:List Int) (n:Nat):(Ba p low r n).length=r.length:=by
 induction n with
 |zero=>rfl
 |succ n ih=>rw[Ba,lM,ih]
theorem BJ {p:Int} {low:List Int} {i:Nat} {r:List Int} {k:Nat} (h:k<r.length):
  (Ag p low i r).getD k 0=if k=i then 0 else if i-low.length<=k/\k<i then(r.getD k 0+(p-r.getD i 0)*low.getD (k- (i-low.length)) 0)%p else r.getD k 0:=by
 simp[Ag,List.getD,h]
theorem JY {p:Int} (hp:0<p) {low:List Int} {i:Nat} {r:List Int} (h:fF p r):fF p (Ag p low i r):=fun x hx=>by
 obtain⟨k,_,rfl⟩:=yY.1 hx
 split
 ·omega
 ·split
  ·exact⟨zK _ (by omega),zQ _ hp⟩
  ·exact eX hp h k
theorem Ie {p:Int} (hp:0<p) {low r:List Int} (h:fF p r) (n:Nat):fF p (Ba p low r n):=by
 induction n with
 |zero=>exact h
 |succ n ih=>exact JY hp ih
theorem WL {p Q:Int} (hp:0<p):Q<=256/p↔Q*p<=256:=by
 rw[uI hp]
end Cw
namespace Cw
def Ej (p:Int) (a b:List Int) (i j:Nat) (c:List Int):List Int:=c.set (i+j) ((c.getD (i+j) 0+a.getD i 0*b.getD j 0)%p)
def xC (p:Int) (a b:List Int) (i:Nat) (c:List Int):Nat->List Int
 |0=>c
 |j+1=>Ej p a b i j (xC p a b i c j)
def pK (p:Int) (m:Nat) (a b c:List Int):Nat->List Int
 |0=>c
 |i+1=>xC p a b i (pK p m a b c i) m
def rdStep (p:Int) (m:Nat) (mod:List Int) (i j:Nat) (c:List Int):List Int:=c.set (i-m+j) ((c.getD (i-m+j) 0+(p-c.getD i 0)*mod.getD j 0)%p)
def qM (p:Int) (m:Nat) (mod:List Int) (i:Nat) (c:List Int):Nat->List Int
 |0=>c
 |j+1=>rdStep p m mod i j (qM p m mod i c j)
def pO (p:Int) (m:Nat) (mod c:List Int):Nat->List Int
 |0=>c
 |n+1=>qM p m mod (2*m-2-n) (pO p m mod c n) m
def xE (p:Int) (m:Nat) (mod a b:List Int):List Int:=(pO p m mod (pK p m a b (List.replicate (2*m-1) 0) m) (m-1)).take m
theorem Fb (p:Int) (a b:List Int) (i j:Nat) (c:List Int):(Ej p a b i j c).length=c.length:=by simp[Ej]
theorem nP (p:Int) (a b:List Int) (i:Nat) (c:List Int) (n:Nat):(xC p a b i c n).length=c.length:=by
 induction n with
 |zero=>rfl
 |succ n ih=>rw[xC,Fb,ih]
theorem jT (p:Int) (m:Nat) (a b c:List Int) (n:Nat):(pK p m a b c n).length=c.length:=by
 induction n with
 |zero=>rfl
 |succ n ih=>rw[pK,nP,ih]
theorem Fe (p:Int) (m:Nat) (mod:List Int) (i j:Nat) (c:List Int):(rdStep p m mod i j c).length=c.length:=by simp[rdStep]
theorem nR (p:Int) (m:Nat) (mod:List Int) (i:Nat) (c:List Int) (n:Nat):(qM p m mod i c n).length=c.length:=by
 induction n with
 |zero=>rfl
 |succ n ih=>rw[qM,Fe,ih]
theorem nS (p:Int) (m:Nat) (mod c:List Int) (n:Nat):(pO p m mod c n).length=c.length:=by
 induction n with
 |zero=>rfl
 |succ n ih=>rw[pO,nR,ih]
theorem Bc {p:Int} (hp:0<p) {c:List Int} (h:fF p c) (i:Nat) (x:Int):fF p (c.set i (x%p)):=fun y hy=>by
 rcases List.mem_or_eq_of_mem_set hy with e|e
 ·exact h y e
 ·rw[e];exact⟨zK _ (by omega),zQ _ hp⟩
theorem Em {p:Int} (hp:0<p) (a b:List Int) (i:Nat) {c:List Int} (h:fF p c) (n:Nat):fF p (xC p a b i c n):=by
 induction n with
 |zero=>exact h
 |succ n ih=>exact Bc hp ih _ _
theorem En {p:Int} (hp:0<p) (m:Nat) (a b:List Int) {c:List Int} (h:fF p c) (n:Nat):fF p (pK p m a b c n):=by
 induction n with
 |zero=>exact h
 |succ n ih=>exact Em hp _ _ _ ih _
theorem Eo {p:Int} (hp:0<p) (m:Nat) (mod:List Int) (i:Nat) {c:List Int} (h:fF p c) (n:Nat):fF p (qM p m mod i c n):=by
 induction n with
 |zero=>exact h
 |succ n ih=>exact Bc hp ih _ _
theorem Ep {p:Int} (hp:0<p) (m:Nat) (mod:List Int) {c:List Int} (h:fF p c) (n:Nat):fF p (pO p m mod c n):=by
 induction n with
 |zero=>exact h
 |succ n ih=>exact Eo hp _ _ _ ih _
theorem Es {p:Int} (hp:0<p) (n:Nat):fF p (List.replicate n 0):=fun x hx=>by rw[(List.mem_replicate.1 hx).2];omega
theorem QC {p:Int} {l:List Int} (h:fF p l) (k:Nat):fF p (l.take k):=fun x hx=>h x (uU hx)
theorem ahg {p x y z:Int} (hp2:p<=256) (hx:0<=x/\x<p) (hy:0<=y/\y<p) (hz:0<=z/\z<p):0<=x*y/\x*y<=65536/\0<=z+x*y:=by
 have h1:0<=x*y:=yN hx.1 hy.1;have h2:x*y<=256*y:=zV (by omega) hy.1;omega
theorem BK (p:Int) (m:Nat) (mod a b:List Int) (hm:1<=m):(xE p m mod a b).length=m:=by
 unfold xE;rw[yF,nS,jT,uw];omega
theorem yc {p:Int} (hp:0<p) (m:Nat) (mod a b:List Int):fF p (xE p m mod a b):=QC (Ep hp _ _ (En hp _ _ _ (Es hp _) _) _) _
def adL (p:Int) (a b:List Int):Nat->List Int
 |0=>a
 |i+1=>(adL p a b i).set i (((adL p a b i).getD i 0+b.getD i 0)%p)
def ngL (p:Int) (a:List Int):Nat->List Int
 |0=>a
 |i+1=>(ngL p a i).set i ((p- (ngL p a i).getD i 0)%p)
theorem yg (p:Int) (a b:List Int) (n:Nat):(adL p a b n).length=a.length:=by
 induction n with
 |zero=>rfl
 |succ n ih=>rw[adL,zI,ih]
theorem yh (p:Int) (a:List Int) (n:Nat):(ngL p a n).length=a.length:=by
 induction n with
 |zero=>rfl
 |succ n ih=>rw[ngL,zI,ih]
theorem MI {p:Int} (hp:0<p) {a:List Int} (b:List Int) (h:fF p a) (n:Nat):fF p (adL p a b n):=by
 induction n with
 |zero=>exact h
 |succ n ih=>exact Bc hp ih _ _
theorem WO {p:Int} (hp:0<p) {a:List Int} (h:fF p a) (n:Nat):fF p (ngL p a n):=by
 induction n with
 |zero=>exact h
 |succ n ih=>exact Bc hp ih _ _
theorem adX (p:Int) (a b:List Int) (n k:Nat) (hk:k<a.length):(adL p a b n).getD k 0=if k<n then(a.getD k 0+b.getD k 0)%p else a.getD k 0:=by
 induction n with
 |zero=>rw[zx (by omega)];rfl
 |succ n ih=>
  rw[adL];by_cases e:n=k
  ·subst e;rw[zx (by omega)] at ih;rw[List.getD,xM (by rw[yg];exact hk),zU,ih,zu (by omega)]
  ·rw[List.getD,zS e];by_cases h:k<n
   ·rw[zu h] at ih;rw[zu (by omega)];exact ih
   ·rw[zx h] at ih;rw[zx (by omega)];exact ih
theorem adY (p:Int) (a:List Int) (n k:Nat) (hk:k<a.length):(ngL p a n).getD k 0=if k<n then(p-a.getD k 0)%p else a.getD k 0:=by
 induction n with
 |zero=>rw[zx (by omega)];rfl
 |succ n ih=>
  rw[ngL];by_cases e:n=k
  ·subst e;rw[zx (by omega)] at ih;rw[List.getD,xM (by rw[yh];exact hk),zU,ih,zu (by omega)]
  ·rw[List.getD,zS e];by_cases h:k<n
   ·rw[zu h] at ih;rw[zu (by omega)];exact ih
   ·rw[zx h] at ih;rw[zx (by omega)];exact ih
end Cw
