/- Lemmas on the way to the row. Conditions: each lemma's own, stated with it. -/
import Derived.Test.YtoilbeadokallaaGreatDoorK28
set_option maxHeartbeats 4000000
namespace Go.Proofs.YtoilbeadokallaaGreatDoor
section
open Go.RowKit Cw Cw.Gj
theorem PO (x y:Nat) (hx:x<18446744073709551616) (hy:0<y) (hy2:y<18446744073709551616) (w:World):
  Calls Tryz.prog 175 #[.int .u64 0,.int .u64 x,.int .u64 y] w fun e w'=>e=.returned (.tuple #[.int .u64 ((x/y:Nat):Int),.int .u64 ((x%y:Nat):Int)])/\∃ m,w'=w.drewN m:=by
 have t1:(((y:Nat):Int)==0)=false:=by simp;omega
 have t2:decide (((y:Nat):Int)<=0)=false:=by simp;omega
 have t3:¬ ((y:Nat):Int)=0:=by omega
 have q1:((x:Nat):Int).tdiv ((y:Nat):Int)=((x/y:Nat):Int):=by simp
 have q2:((x:Nat):Int).tmod ((y:Nat):Int)=((x%y:Nat):Int):=by rw[yS (by omega)];simp
 have l1:x/y<=x:=Nat.div_le_self _ _;have l2:x%y<y:=vU _ hy;have q3:IntKind.u64.wrap ((x/y:Nat):Int)=((x/y:Nat):Int):=IntWalk.u64_in _ (by generalize x/y=a at l1;omega);have q4:IntKind.u64.wrap ((x%y:Nat):Int)=((x%y:Nat):Int):=IntWalk.u64_in _ (by generalize x%y=a at l2;omega);obtain⟨d,hd⟩:∃ d,d=((x/y:Nat):Int):=⟨_,rfl⟩
 obtain⟨r,hr⟩:∃ d,d=((x%y:Nat):Int):=⟨_,rfl⟩
 rw[<-hd] at q1 q3 ⊢;rw[<-hr] at q2 q4 ⊢;clear hd hr l1 l2;go_enter Tryz.func175,Tryz.ntmps175;go_upto_region 6 with(fail)
 go_quiet(fail);go_wp2_with(fail)
 refine bodyPost_ret (v:=.tuple #[.int .u64 d,.int .u64 r]) ?_ rfl ⟨rfl,_,rfl⟩;simp[results,Tryz.results175,go_sem]
theorem aaz {m most:Nat} (hm:1<=most):∀ {i o:Nat},chO m most i=some o->o<=most
 |0,o,h=>by simp[chO] at h;omega
 |i+1,o,h=>by
  unfold chO at h;cases q:chO m most i with
  |none=>rw[q] at h;simp at h
  |some p=>
   rw[q] at h;simp only at h
   split at h
   ·cases h
   ·simp at h;omega
theorem Ob {m most i:Nat} (h:chO m most i=none):∀ k,i<=k->chO m most k=none
 |0,hk=>by
  have:i=0:=by omega
  subst this;exact h
 |k+1,hk=>by
  by_cases e:i=k+1
  ·rw[<-e];exact h
  ·unfold chO;rw[Ob h k (by omega)]
def chT:Option Nat->Value
 |none=>.tuple #[.int .i64 0,.int .i64 8]
 |some o=>.tuple #[.int .i64 o,.int .i64 0]
set_option maxRecDepth 100000 in
theorem PV (n k most:Nat) (hn:n<=64) (hk:k<=64) (h1:1<=most) (h2:most<=65536) (w:World):
  Calls Tryz.prog 124 #[.int .i64 n,.int .i64 k,.int .i64 most] w fun e w'=>e=.returned (chT (chR n k most))/\ay w w':=by
 have t1:decide ((n:Int)<0)=false:=by simp
 have t2:decide ((k:Int)<0)=false:=by simp
 have t3:decide ((most:Int)<0)=false:=by simp
 by_cases hnk:n<k
 ·have t4:decide ((n:Int)< (k:Int))=true:=by simp;omega
  have hr:Hid (chR n k most=some 0):=hid (zu hnk);go_enter Tryz.func124,Tryz.ntmps124;go_wp2_with(fail)
  refine bodyPost_ret (v:=.tuple #[.int .i64 0,.int .i64 0]) ?_ rfl ⟨by rw[hr.out];rfl,ay.rfl' _⟩;simp[results,Tryz.results124,go_sem]
 ·have t4:decide ((n:Int)< (k:Int))=false:=by simp;omega
  have t5:(((most:Nat):Int)==0)=false:=by simp;omega
  have hr:Hid (chR n k most=chO (n-min k (n-k)) most (min k (n-k))):=hid (zx hnk);have w1:IntKind.i64.wrap ((n:Int)- (k:Int))=((n-k:Nat):Int):=by rw[IntWalk.i64_in _ (by omega)];omega
  obtain⟨m,hm⟩:∃ m,m=min k (n-k):=⟨_,rfl⟩
  have hmi:min (k:Int) ((n-k:Nat):Int)=(m:Int):=by omega
  have hmn:m<=n:=by omega
  have w2:IntKind.i64.wrap ((n:Int)- (m:Int))=((n-m:Nat):Int):=by rw[IntWalk.i64_in _ (by omega)];omega
  rw[<-hm] at hr;clear hm;go_enter Tryz.func124,Tryz.ntmps124;go_wp2_with(fail)
  go_loopw [9,8] (fun vi vo wr=>∃ (j o:Nat),j<=m/\vi=.int .i64 ((j+1:Nat):Int)/\vo=.int .i64 o/\Hid (chO (n-m) most j=some o)/\ay w wr) (fun vi _ _=>m+1- (intOf vi).toNat)
  case atStart=>exact⟨0,1,by omega,rfl,rfl,hid rfl,ay.rfl' _⟩
  case round=>
   obtain⟨j,o,hj,rfl,rfl,hco,hkr⟩:=hrel;have hob:o<=most:=aaz h1 hco.out;by_cases hlt:j<m
   ·have c1:decide (((j+1:Nat):Int)<=(m:Int))=true:=by simp;omega
    obtain⟨i,hi⟩:∃ i,i=j+1:=⟨_,rfl⟩
    rw[<-hi] at c1 ⊢;have c2:i<=m:=by omega
    obtain⟨y,hy⟩:∃ y,y=n-m+i:=⟨_,rfl⟩
    have hy128:y<=128:=by omega
    have w3:IntKind.i64.wrap (((n-m:Nat):Int)+(i:Int))=(y:Int):=by rw[IntWalk.i64_in _ (by omega)];omega
    have u1:IntKind.u64.wrap (o:Int)=(o:Int):=IntWalk.u64_in _ (by omega);have u2:IntKind.u64.wrap (y:Int)=(y:Int):=IntWalk.u64_in _ (by omega);have u3:IntKind.u64.wrap (i:Int)=(i:Int):=IntWalk.u64_in _ (by omega);have u4:IntKind.u64.wrap (most:Int)=(most:Int):=IntWalk.u64_in _ (by omega);obtain⟨pr,hpr⟩:∃ p,p=o*y:=⟨_,rfl⟩
    have ae8:pr<=65536*128:=by rw[hpr];exact uS (by omega) hy128
    have hdiv:pr/18446744073709551616=0:=Nat.div_eq_of_lt (by omega);have hmod:pr%18446744073709551616=pr:=vX (by omega);have hi0:0<i:=by omega
    have t6:decide ((i:Int)<=0)=false:=by simp;omega
    obtain⟨q,hq⟩:∃ q,q=pr/i:=⟨_,rfl⟩
    have hql:q<=pr:=by rw[hq];exact Nat.div_le_self _ _
    have hst:Hid (chO (n-m) most i=if most<q then none else some q):=hid (by
     rw[hi,chO,hco.out];show(if most<o*(n-m+(j+1)) / (j+1) then none else some (o*(n-m+(j+1)) / (j+1)))=_;rw[hq,hpr,hy,hi])
    have HM:=hid (Tryz.bits_Mul64 o y (by omega) (by omega) wr);rw[<-hpr,hdiv,hmod] at HM;have HD:=hid (PO pr i (by omega) hi0 (by omega) wr);rw[<-hq] at HD;obtain⟨rr,hrr⟩:∃ r,r=pr%i:=⟨_,rfl⟩
    rw[<-hrr] at HD;have HI:=hid hi;have HKR:=hid hkr;clear hy hpr ae8 hdiv hmod hq hrr hi hkr hco;by_cases hmq:most<q
    ·have hno:Hid (chO (n-m) most m=none):=hid (Ob (by rw[hst.out,zu hmq]) _ (by have:=HI.out;omega));go_wp2_with(first|(go_at_call 174;refine HM.out.mono ?_;rintro e w2 ⟨rfl,rfl⟩)|(go_at_call 175;refine HD.out.mono ?_;rintro e w2 ⟨rfl,nd,rfl⟩))
     refine bodyPost_ret (v:=.tuple #[.int .i64 0,.int .i64 8]) ?_ rfl ⟨by rw[hr.out,hno.out];rfl,HKR.out.drewN _⟩;simp[results,Tryz.results124,go_sem]
    ·have u5:IntKind.i64.wrap (q:Int)=(q:Int):=IntWalk.i64_in _ (by omega);have HQ:Hid (chO (n-m) most i=some q):=hid (by rw[hst.out,zx hmq]);go_wp2_with(first|(go_at_call 174;refine HM.out.mono ?_;rintro e w2 ⟨rfl,rfl⟩)|(go_at_call 175;refine HD.out.mono ?_;rintro e w2 ⟨rfl,nd,rfl⟩))
     go_roundw;case rel=>exact⟨i,q,by have:=HI.out;omega,by go_num,rfl,HQ,HKR.out.drewN _⟩
     case measure=>have:=HI.out;simp[intOf];omega
   ·have hjm:j=m:=by omega
    subst hjm;have c2:¬ j+1<=j:=by omega
    have HKR:=hid hkr;clear hkr;go_wp2_with(fail)
    refine bodyPost_ret (v:=.tuple #[.int .i64 o,.int .i64 0]) ?_ rfl ⟨by rw[hr.out,hco.out];rfl,HKR.out⟩;simp[results,Tryz.results124,go_sem]
def aio (r:Option Int) (w:World) (e:Ending) (w':World):Prop:=
 ((∃ x,r=some x/\e=.returned (.tuple #[.int .i64 x,.int .i64 0]))∨(r=none/\∃ k:Int,k≠0/\e=.returned (.tuple #[.int .i64 0,.int .i64 k])))/\w'=w
theorem YU {most:Int} {l:List Int} {i:Nat} (h:i<l.length) (out:Int):prO most (l.drop i) out=if most/l.getD i 0<out then none else prO most (l.drop (i+1)) (out*l.getD i 0):=by
 rw[yP h,prO];have e:l.getD i 0=l[i]:=by simp[List.getD,h]
 rw[e]
theorem acI {most:Int} {l:List Int} {i:Nat} (h:l.length<=i) (out:Int):prO most (l.drop i) out=if most<out then none else some out:=by
 rw[xW h,prO]
theorem acJ (x:Int) (hx:1<=x) (w:World):Calls Tryz.prog 176 #[.int .i64 x] w fun e w'=>e=.returned (.bool false)/\w=w':=by
 have t1:decide (x<0)=false:=by simp;omega
 go_enter Tryz.func176,Tryz.ntmps176;go_wp2_with(fail)
 go_ret;exact⟨rfl,rfl⟩
theorem acK (v:Value) (l:List Int) (w:World) (hv:Sl w v l) (h:∀ j,j<l.length->1<=l.getD j 0):
  Calls Tryz.prog 35 #[v,.func (.func 176) #[] #[]] w fun e w'=>e=.returned (.int .i64 (-1))/\w=w':=by
 obtain⟨a,cap,rfl,hcap,⟨hcm,_⟩,hc⟩:=hv;unfold maxLen at hcm;have H1:=hid h;clear h;go_enter Tryz.func35,Tryz.ntmps35;go_wp2_with(fail)
 go_loop [8] (fun vi=>∃ j:Nat,j<=l.length/\vi=.int .i64 j) (fun vi=>l.length- (intOf vi).toNat)
 case atStart=>exact⟨0,by omega,rfl⟩
 case round=>
  obtain⟨j,hj,rfl⟩:=hrel;by_cases hlt:j<l.length
  ·have hlt':(j:Int)< (l.length:Int):=by omega
   obtain⟨bl,off,rfl,hb,hcell⟩:=hc (by intro e;rw[e] at hlt;simp at hlt);have hck:=hcell j hlt;have h1:=H1.out j hlt;obtain⟨z,hz⟩:∃ z,z=l.getD j 0:=⟨_,rfl⟩
   rw[<-hz] at hck h1;have HZ:=hid h1;clear hcell hz hc h1;go_wp2_with(fail)
   refine(acJ z HZ.out w).mono ?_;rintro e w' ⟨rfl,rfl⟩;go_wp2_with(fail)
   go_round;case rel=>exact⟨j+1,by omega,by go_num⟩
   case measure=>simp[intOf];omega
  ·clear hc;go_wp2_with(fail)
   go_ret;exact⟨rfl,rfl⟩
theorem afD (v:Value) (l:List Int) (w:World) (hv:Sl w v l) (h:∀ j,j<l.length->1<=l.getD j 0):
  Calls Tryz.prog 101 #[v,.func (.func 176) #[] #[]] w fun e w'=>e=.returned (.bool false)/\w=w':=by
 have HI:=hid (acK v l w hv h);clear h hv;go_enter Tryz.func101,Tryz.ntmps101;go_wp2_with(go_at_call 35;refine HI.out.mono ?_;rintro e w' ⟨rfl,rfl⟩)
 go_ret;exact⟨rfl,rfl⟩
theorem LG (most:Int) (v:Value) (l:List Int) (w:World) (hv:Sl w v l) (h:∀ j,j<l.length->1<=l.getD j 0/\l.getD j 0<=65536) (h1:-9223372036854775808<=most) (h2:most<=9223372036854775807) (hl:l.length<=10):
  Calls Tryz.prog 126 #[.int .i64 most,v] w (aio (prR most l) w):=by
 by_cases hm:most<0
 ·have t1:decide (most<0)=true:=by simpa using hm
  have hr:Hid (prR most l=none):=hid (zu hm);clear hm;go_enter Tryz.func126,Tryz.ntmps126;go_wp2_with(fail)
  refine bodyPost_ret (v:=.tuple #[.int .i64 0,.int .i64 6]) ?_ rfl ⟨.inr ⟨hr.out,6,by decide,rfl⟩,rfl⟩;simp[results,Tryz.results126,go_sem]
 ·have t1:decide (most<0)=false:=by simpa using hm
  have hr:Hid (prR most l=prO most l 1):=hid (zx hm);have HNG:=hid (afD v l w hv fun j hj=>(h j hj).1);have HCT:=hid (lV v l 0 w hv (fun q=>by
   obtain⟨j,hj,e⟩:=yR q;have:=(h j hj).1;simp[List.getD,hj,e] at this))
  obtain⟨a,cap,rfl,hcap,⟨hcm,_⟩,hc⟩:=hv;unfold maxLen at hcm;have H:=hid h;have HC:=hid hc;clear h hc;go_enter Tryz.func126,Tryz.ntmps126;go_wp2_with(first|(go_at_call 101;refine HNG.out.mono ?_;rintro e w' ⟨rfl,rfl⟩)|(go_at_call 37;refine HCT.out.mono ?_;rintro e w' ⟨rfl,rfl⟩))
  go_loop [19,6] (fun vi vo=>∃ (j:Nat) (o:Int),j<=l.length/\vi=.int .i64 j/\vo=.int .i64 o/\Hid (prO most (l.drop j) o=prO most l 1)/\1<=o/\(o=1∨o<=most)) (fun vi _=>l.length- (intOf vi).toNat)
  case atStart=>exact⟨0,1,by omega,rfl,rfl,hid rfl,by omega,.inl rfl⟩
  case round=>
   obtain⟨j,o,hj,rfl,rfl,hpo,ho1,ho2⟩:=hrel;by_cases hlt:j<l.length
   ·have hlt':(j:Int)< (l.length:Int):=by omega
    have hj0:(0:Int)<=(j:Int):=by omega
    obtain⟨bl,off,rfl,hb,hcell⟩:=HC.out (by intro e;rw[e] at hlt;simp at hlt);have hck:=hcell j hlt;have hx:=H.out j hlt;have hpd:=YU (most:=most) hlt o;obtain⟨z,hz⟩:∃ z,z=l.getD j 0:=⟨_,rfl⟩
    rw[<-hz] at hck hx hpd;have HPD:=hid hpd;have HX:=hid hx;have hq:most.tdiv z=most/z:=Int.tdiv_eq_ediv_of_nonneg (by omega);have hd0:0<=most/z:=xI (by omega) (by omega);have hd1:most/z<=most:=wJ _ (by omega);have hwd:IntKind.i64.wrap (most/z)=most/z:=IntWalk.i64_in _ (by omega);have t6:(z==0)=false:=by simp;omega
    have t7:¬ z=0:=by omega
    by_cases hb2:most/z<o
    ·have c3:decide (most/z<o)=true:=by simpa using hb2
     have hno:Hid (prO most l 1=none):=hid (by rw[<-hpo.out,HPD.out,zu hb2]);clear hcell hz hpd hx hb2 hm;go_wp2_with(fail)
     refine bodyPost_ret (v:=.tuple #[.int .i64 0,.int .i64 8]) ?_ rfl ⟨.inr ⟨by rw[hr.out,hno.out],8,by decide,rfl⟩,rfl⟩;simp[results,Tryz.results126,go_sem]
    ·have c3:decide (most/z<o)=false:=by simpa using hb2
     have h3:o*z<=most:=(uI (by omega)).1 (by omega);have h4:1*1<=o*z:=Int.mul_le_mul ho1 (by omega) (by omega) (by omega);have hst:Hid (prO most (l.drop (j+1)) (o*z)=prO most l 1):=hid (by rw[<-hpo.out,HPD.out,zx hb2]);have hw1:IntKind.i64.wrap (o*z)=o*z:=IntWalk.i64_in _ (by omega);clear hcell hz hpd hx hb2 hm hpo;go_wp2_with(fail)
     go_round;case rel=>exact⟨j+1,o*z,by omega,by go_num,rfl,hst,by omega,.inr h3⟩
     case measure=>simp[intOf];omega
   ·have hpe:=acI (most:=most) (l:=l) (i:=j) (by omega) o;have HPE:=hid hpe;by_cases hb2:most<o
    ·have c3:decide (most<o)=true:=by simpa using hb2
     have hno:Hid (prO most l 1=none):=hid (by rw[<-hpo.out,HPE.out,zu hb2]);clear hpe hb2 hm;go_wp2_with(fail)
     refine bodyPost_ret (v:=.tuple #[.int .i64 0,.int .i64 8]) ?_ rfl ⟨.inr ⟨by rw[hr.out,hno.out],8,by decide,rfl⟩,rfl⟩;simp[results,Tryz.results126,go_sem]
    ·have c3:decide (most<o)=false:=by simpa using hb2
     have hno:Hid (prO most l 1=some o):=hid (by rw[<-hpo.out,HPE.out,zx hb2]);clear hpe hb2 hm;go_wp2_with(fail)
     refine bodyPost_ret (v:=.tuple #[.int .i64 o,.int .i64 0]) ?_ rfl ⟨.inl ⟨o,by rw[hr.out,hno.out],rfl⟩,rfl⟩;simp[results,Tryz.results126,go_sem]
theorem U3 {m most:Nat}:∀ {i o:Nat},chO m most i=some o->1<=o
 |0,o,h=>by simp[chO] at h;omega
 |i+1,o,h=>by
  unfold chO at h;cases q:chO m most i with
  |none=>rw[q] at h;simp at h
  |some p=>
   rw[q] at h;have hp:=U3 q;simp only at h
   split at h
   ·cases h
   ·have e:p*(m+(i+1)) / (i+1)=o:=by simpa using h
    rw[<-e];refine(Nat.le_div_iff_mul_le (by omega)).2 ?_;exact uS hp (by omega)
theorem acL {n k most o:Nat} (h:chR n k most=some o) (hk:k<=n):1<=o:=by
 unfold chR at h;rw[zx (by omega)] at h;exact U3 h
theorem afE {n k most o:Nat} (h:chR n k most=some o) (hm:1<=most):o<=most:=by
 unfold chR at h
 split at h
 ·simp at h;omega
 ·exact aaz hm h
def Wy (a b:Int):Int:=if a<b then-1 else if b<a then 1 else 0
theorem U4 (x:Int) (w:World):Calls Tryz.prog 350 #[.int .i64 x] w fun e w'=>e=.returned (.bool false)/\w=w':=by
 have t1:(x != x)=false:=by simp
 go_enter Tryz.func350,Tryz.ntmps350;go_wp2_with(fail)
 go_ret;exact⟨rfl,rfl⟩
theorem acM (x y:Int) (w:World):Calls Tryz.prog 294 #[.int .i64 x,.int .i64 y] w fun e w'=>e=.returned (.int .i64 (Wy x y))/\w=w':=by
 by_cases h:x<y
 ·have t1:decide (x<y)=true:=by simpa using h
  have hr:Hid (Wy x y=-1):=hid (zu h);clear h;go_enter Tryz.func294,Tryz.ntmps294;go_wp2_with(go_at_call 350;refine(U4 _ w).mono ?_;rintro e w' ⟨rfl,rfl⟩)
  go_ret;exact⟨aW hr.out.symm,rfl⟩
 ·have t1:decide (x<y)=false:=by simpa using h
  by_cases h2:y<x
  ·have t2:decide (y<x)=true:=by simpa using h2
   have hr:Hid (Wy x y=1):=hid (by unfold Wy;rw[zx h,zu h2]);clear h h2;go_enter Tryz.func294,Tryz.ntmps294;go_wp2_with(go_at_call 350;refine(U4 _ w).mono ?_;rintro e w' ⟨rfl,rfl⟩)
   go_ret;exact⟨aW hr.out.symm,rfl⟩
  ·have t2:decide (y<x)=false:=by simpa using h2
   have hr:Hid (Wy x y=0):=hid (by unfold Wy;rw[zx h,zx h2]);clear h h2;go_enter Tryz.func294,Tryz.ntmps294;go_wp2_with(go_at_call 350;refine(U4 _ w).mono ?_;rintro e w' ⟨rfl,rfl⟩)
   go_ret;exact⟨aW hr.out.symm,rfl⟩
theorem U5 {a b:List Int} {i:Nat} (h:i<a.length) (h2:i<b.length):cmpL (a.drop i) (b.drop i)=if Wy (a.getD i 0) (b.getD i 0)=0 then cmpL (a.drop (i+1)) (b.drop (i+1)) else Wy (a.getD i 0) (b.getD i 0):=by
 rw[yP h,yP h2,cmpL];have e1:a.getD i 0=a[i]:=by simp[List.getD,h]
 have e2:b.getD i 0=b[i]:=by simp[List.getD,h2]
 rw[e1,e2];unfold Wy
 split
 ·simp
 ·split<;>simp
theorem U6 {a b:List Int} {i:Nat} (h:i<a.length) (h2:b.length<=i):cmpL (a.drop i) (b.drop i)=1:=by
 rw[yP h,xW h2];rfl
theorem YV {a b:List Int} {i:Nat} (h:a.length<=i):cmpL (a.drop i) (b.drop i)=if i<b.length then-1 else 0:=by
 rw[xW h];by_cases h2:i<b.length
 ·rw[yP h2,zu h2];rfl
 ·rw[xW (by omega),zx h2];rfl
theorem LH (v1 v2:Value) (a b:List Int) (w:World) (h1:Sl w v1 a) (h2:Sl w v2 b):
  Calls Tryz.prog 180 #[v1,v2] w fun e w'=>e=.returned (.int .i64 (cmpL a b))/\w=w':=by
 obtain⟨a1,c1,rfl,hc1,⟨hm1,_⟩,hl1⟩:=h1;obtain⟨a2,c2,rfl,hc2,⟨hm2,_⟩,hl2⟩:=h2;unfold maxLen at hm1 hm2;have H1:=hid hl1;have H2:=hid hl2;clear hl1 hl2;go_enter Tryz.func180,Tryz.ntmps180;go_wp2_with(fail)
 go_loop [11] (fun vi=>∃ j:Nat,j<=a.length/\j<=b.length/\vi=.int .i64 j/\Hid (cmpL (a.drop j) (b.drop j)=cmpL a b)) (fun vi=>a.length- (intOf vi).toNat)
 case atStart=>exact⟨0,by omega,by omega,rfl,hid rfl⟩
 case round=>
  obtain⟨j,hj,hjb,rfl,hz0⟩:=hrel;by_cases hlt:j<a.length
  ·have hlt':(j:Int)< (a.length:Int):=by omega
   have hj0:(0:Int)<=(j:Int):=by omega
   obtain⟨bl,off,rfl,hb,hcell⟩:=H1.out (by intro e;rw[e] at hlt;simp at hlt);have hck:=hcell j hlt;by_cases hlb:j<b.length
   ·have t1:decide ((b.length:Int)<=(j:Int))=false:=by simp;omega
    have an0:(j:Int)< (b.length:Int):=by omega
    obtain⟨bl2,off2,rfl,hb2,hcell2⟩:=H2.out (by intro e;rw[e] at hlb;simp at hlb);have ahy:=hcell2 j hlb;have hst:=U5 hlt hlb;obtain⟨x,hx⟩:∃ z,z=a.getD j 0:=⟨_,rfl⟩
    obtain⟨y,hy⟩:∃ z,z=b.getD j 0:=⟨_,rfl⟩
    rw[<-hx] at hck hst;rw[<-hy] at ahy hst;have HST:=hid hst;have HCI:=hid (acM x y w);obtain⟨d,hd⟩:∃ d,d=Wy x y:=⟨_,rfl⟩
    rw[<-hd] at HST HCI;clear hcell hcell2 hx hy hst hd;by_cases hd0:d=0
    ·have td:(d != 0)=false:=by simpa using hd0
     have HD:=hid hd0;clear hd0;go_wp2_with(go_at_call 294;refine HCI.out.mono ?_;rintro e w' ⟨rfl,rfl⟩)
     go_round;case rel=>exact⟨j+1,by omega,by omega,by go_num,hid (by rw[<-hz0.out,HST.out,zu HD.out])⟩
     case measure=>simp[intOf];omega
    ·have td:(d != 0)=true:=by simpa using hd0
     have HD:=hid hd0;clear hd0;go_wp2_with(go_at_call 294;refine HCI.out.mono ?_;rintro e w' ⟨rfl,rfl⟩)
     go_ret;exact⟨aW (by rw[<-hz0.out,HST.out,zx HD.out]),rfl⟩
   ·have t1:decide ((b.length:Int)<=(j:Int))=true:=by simp;omega
    have hr:Hid (cmpL a b=1):=hid (by rw[<-hz0.out,U6 hlt (by omega)]);clear hcell;go_wp2_with(fail)
    go_ret;exact⟨aW hr.out.symm,rfl⟩
  ·have hr:=hid (show cmpL a b=if j<b.length then-1 else 0 by rw[<-hz0.out,YV (by omega)]);by_cases hlb:j<b.length
   ·have t1:decide ((a.length:Int)< (b.length:Int))=true:=by simp;omega
    rw[zu hlb] at hr;go_wp2_with(fail)
    go_ret;exact⟨aW hr.out.symm,rfl⟩
   ·have t1:decide ((a.length:Int)< (b.length:Int))=false:=by simp;omega
    rw[zx hlb] at hr;go_wp2_with(fail)
    go_ret;exact⟨aW hr.out.symm,rfl⟩
theorem um {l:List Int} (h:wt l≠0):∃ k:Nat,DW l=k/\k<l.length/\l.getD k 0≠0/\mO l=some k:=by
 cases q:mO l with
 |none=>
  refine absurd ?_ h;unfold wt;rw[wF,tZ];intro x hx;obtain⟨j,hj,e⟩:=yR hx;have:=ug q j hj;simp[List.getD,hj,e] at this;simp[this]
 |some k=>
  obtain⟨h1,h2,_⟩:=mQ q;exact⟨k,by simp[DW,q],h1,h2,rfl⟩
structure SrM (w:World) (bs b:Nat) (c1 c2 c3 c4 c5 c6 bv:Value) (s:List Int×Int):Prop where
 bk:Bk w bs [.pointer (some ⟨b,0,none⟩),c1,c2,c3,c4,c5,c6,bv,.int .i64 s.2]
 fz:Fz w bs
 own:Own w (bs+1) bv s.1
 len:s.1.length<=64
section
variable {w w':World} {bs b:Nat} {c1 c2 c3 c4 c5 c6 bv:Value} {s:List Int×Int}
theorem SrM.kept (h:SrM w bs b c1 c2 c3 c4 c5 c6 bv s) (k:ay w w'):SrM w' bs b c1 c2 c3 c4 c5 c6 bv s:=⟨h.bk.kept k,h.fz.kept k,h.own.kept k,h.len⟩
theorem fE {x:Nat} (h:Fz w x) (y i:Nat) (u:Value):Fz (w.setCell ⟨y,i,none⟩ u) x:=⟨by simpa using h.1,fun j=>by rw[World.frozen?_setCell];exact h.2 j⟩
theorem SrM.count (h:SrM w bs b c1 c2 c3 c4 c5 c6 bv s) (n:Int):SrM (w.setCell ⟨bs,8,none⟩ (.int .i64 n)) bs b c1 c2 c3 c4 c5 c6 bv (s.1,n):=
 ⟨h.bk.set 8 _,fE h.fz _ _ _,h.own.grownBy (aj w bs 8 _) (.inr fun e=>by have:=(aN h.own e).1;omega),h.len⟩
theorem SrM.best (h:SrM w bs b c1 c2 c3 c4 c5 c6 bv s) {v:Value} {l:List Int} (ho:Own w (bs+1) v l) (hl:l.length<=64):SrM (w.setCell ⟨bs,7,none⟩ v) bs b c1 c2 c3 c4 c5 c6 v (l,s.2):=
 ⟨h.bk.set 7 _,fE h.fz _ _ _,ho.grownBy (aj w bs 7 _) (.inr fun e=>by have:=(aN ho e).1;omega),hl⟩
end
def aip (w:World) (bs b:Nat) (c1 c2 c3 c4 c5 c6:Value) (s:List Int×Int) (e:Ending) (w':World):Prop:=
 e=.returned (.tuple #[])/\∃ bv,SrM w' bs b c1 c2 c3 c4 c5 c6 bv s/\w.grownBy w' (some bs)
set_option maxRecDepth 100000 in
theorem YW (b:Nat) (G:GFd) (t:aK G) (bs:Nat) (c1 c2 c3 c4 c5 c6 bv:Value) (s:List Int×Int) (vw:Value) (vl:List Int) (w0 w:World) (hg:dW w0 b G) (hk:ay w0 w) (hbs:w0.heap.size<=bs) (hs:SrM w bs b c1 c2 c3 c4 c5 c6 bv s) (hv:Own w (bs+1) vw vl)
  (hE:∀ j,j<vl.length->0<=vl.getD j 0/\vl.getD j 0<G.q) (h0:0<vl.length) (hlen:vl.length<=64):
  Calls Tryz.prog 127 #[.pointer (some ⟨bs,0,none⟩),vw] w (aip w bs b c1 c2 c3 c4 c5 c6 (mV (opG G) vl s)):=by
 obtain⟨g,cap,rfl,hgb,hgl,hcp,hcm⟩:∃ g cap,vw=.slice (some ⟨g,0,none⟩) vl.length cap/\bs+1<=g/\g<w.heap.size/\vl.length<=cap/\cap<=maxLen:=by
  rcases hv.form with⟨_,e⟩|e
  ·rw[e] at h0;simp at h0
  ·exact e
 unfold maxLen at hcm;obtain⟨ba,bc,hbv,_,_⟩:=hs.own.sl.lenOf;subst hbv;obtain⟨wv,hwv⟩:∃ x,IntKind.i64.wrap (s.2+1)=x:=⟨_,rfl⟩
 obtain⟨W1,hW1⟩:∃ x,x=w.setCell ⟨bs,8,none⟩ (.int .i64 wv):=⟨_,rfl⟩
 have hgr:w.grownBy W1 (some bs):=by rw[hW1];exact aj _ _ _ _
 have s1:SrM W1 bs b c1 c2 c3 c4 c5 c6 (.slice ba s.1.length bc) (s.1,wv):=by rw[hW1];exact hs.count _
 have v1:Own W1 (bs+1) (.slice (some ⟨g,0,none⟩) vl.length cap) vl:=hv.grownBy hgr (.inr fun e=>by have:=(aN hv e).1;omega);have k1:ay w0 W1:=aH hk hgr hbs hk.size;obtain⟨D,hD⟩:∃ x,x=wt s.1:=⟨_,rfl⟩
 obtain⟨N,hN⟩:∃ x,x=wt vl:=⟨_,rfl⟩
 obtain⟨L,hL⟩:∃ x,x=s.1.length:=⟨_,rfl⟩
 obtain⟨L2,hL2⟩:∃ x,x=vl.length:=⟨_,rfl⟩
 have HWB:=hid (jH _ _ W1 s1.own.sl (by have:=s1.len;omega));have HWV:=hid (jH _ _ W1 v1.sl (by omega));have x8:=hs.bk.2 8 _ rfl;have f8:=hs.fz.2 8;have x0:=s1.bk.2 0 _ rfl;have x7:=s1.bk.2 7 _ rfl;have l1:bs<W1.heap.size:=s1.bk.1;have l0:bs<w.heap.size:=hs.bk.1;have hDL:s.1.length=0->D=0:=fun e=>by rw[hD,wF.1 e];rfl
 have alQ:=s1.len;rw[<-hL] at hDL x7 HWB alQ;rw[<-hL2] at HWV h0 hlen hcp;rw[<-hD] at HWB;rw[<-hN] at HWV;have HG:=hid (hg.kept k1);have HS:=hid s1;have HV:=hid v1;have HGR:=hid hgr;have HE:=hid hE;have HD:=hid hD;have HN:=hid hN;have HL:=hid hL;have HL2:=hid hL2;have HK:=hid k1;have HLK:=hid (show mV (opG G) vl s=if N=0∨(0<D/\D<N) then(s.1,wv) else if D=0∨N<D∨cmpL (fC (opG G) vl) s.1<0 then(fC (opG G) vl,wv) else(s.1,wv) by rw[hD,hN,<-hwv];rfl);rw[<-hL2];clear hg hk hs hv hE s1 v1 k1 hgr hD hN hL hL2;go_enter Tryz.func127,Tryz.ntmps127;go_upto_region 1 with(fail)
 rw[<-hW1];clear hW1 x8 f8 hwv;by_cases hl0:L=0
 ·have c0:decide (0<L)=false:=by simp;omega
  have hd0:=hDL hl0;have HDZ:=hid hd0;have hLD:L=D:=by omega
  have HLD:=hid hLD;clear hl0 hd0 hDL hLD;go_upto_region 5 with(go_at_call 30;(with_reducible refine HWV.out.mono ?_);rintro e w' ⟨rfl,hw⟩;subst w')
  rw[HLD.out] at x7 ⊢;clear c0;by_cases hn:N=0
  ·have tn:(((N:Nat):Int)==0)=true:=by simp;omega
   have HO:Hid ((s.1,wv)=mV (opG G) vl s):=hid (by rw[HLK.out,zu (.inl hn)]);clear hn;go_wp2_with(fail)
   go_end0
   exact⟨rfl,_,HO.out▸HS.out,HGR.out⟩
  ·have tn:(((N:Nat):Int)==0)=false:=by simp;omega
   have HN0:=hid hn;by_cases hd:D=0
   ·have td:decide (0<D)=false:=by simp;omega
    have td0:(((D:Nat):Int)==0)=true:=by simp;omega
    have HD0:=hid hd;have HNS:Hid (¬ (N=0∨(0<D/\D<N))):=hid (by omega);clear hd hn;obtain⟨k,hzk,hkl,hne0,hfk⟩:=um (l:=vl) (by rw[<-HN.out];exact HN0.out);have HIF:=hid (N7 (.slice (some ⟨g,0,none⟩) L2 cap) vl W1 (by rw[HL2.out];exact HV.out.sl));rw[hzk] at HIF;have hcv:=HV.out.cell (i:=k) hkl;have hue:=HE.out k hkl;have hkl':(k:Int)< (L2:Int):=by have:=HL2.out;omega
    have hk0:(0:Int)<=(k:Int):=by omega
    obtain⟨y,hy⟩:∃ y,y=vl.getD k 0:=⟨_,rfl⟩
    have HLV:Hid (vl.map (bF G (fG G y))=fC (opG G) vl):=hid (by rw[hy];simp only[fC,hfk];rfl);rw[<-hy] at hcv hne0 hue;have HIN:Hid (inn G.q y≠0):=hid (by rw[bI hue];exact hne0);have hgw:=HG.out;clear hne0 hue hy hzk hkl hfk;go_upto_region 7 with(go_at_call 35;refine HIF.out.mono ?_;rintro e w' ⟨rfl,rfl⟩)
    go_quiet((go_at_call 178;refine Calls.quiet_of (pX b G y _ (hgw.drewN _) t HIN.out)));go_upto_region 8 with(fail)
    obtain⟨wz,hwz⟩:∃ x,x=W1.drewN nq:=⟨_,rfl⟩
    rw[<-hwz];have hkz:ay W1 wz:=by rw[hwz];exact aB _ _
    clear hwz hcv x0 x7 hgw;have x0:=(HS.out.kept hkz).bk.2 0 _ rfl;have lz:bs<wz.heap.size:=(HS.out.kept hkz).bk.1;have hgz:=HG.out.kept hkz;have hsz:=(HV.out.kept hkz).sl;rw[<-HL2.out] at hsz;have HSC:=hid (jL b G (fG G y) _ vl wz hgz t hsz (by rw[<-HL2.out];omega));rw[<-HL2.out] at HSC;have HKZ:=hid hkz;clear hkz hgz hsz;go_upto_region 9 with(go_at_call 179;(with_reducible refine HSC.out.mono ?_);rintro e w4 ⟨rfl,ho4,hk4⟩)
    have qG:=HKZ.out.tr hk4;have s4:=HS.out.kept qG;have o4:Own w4 (bs+1) (.slice (some ⟨wz.heap.size,0,none⟩) L2 L2) (fC (opG G) vl):=by rw[<-HLV.out];exact ho4.mono (by omega)
    have HLL:Hid ((fC (opG G) vl).length<=64):=hid (by unfold fC;rw[yx,<-HL2.out];exact hlen);clear x0;have x7:=s4.bk.2 7 _ rfl;have f7:=s4.fz.2 7;have l4:bs<w4.heap.size:=s4.bk.1;have H4:=hid s4;have O4:=hid o4;have HK4:=hid qG;clear s4 o4 ho4 hk4 qG;go_wp2_with(fail)
    go_end0
    have HO:(fC (opG G) vl,wv)=mV (opG G) vl s:=by rw[HLK.out,zx HNS.out,zu (.inl HD0.out)]
    exact⟨rfl,_,HO▸H4.out.best O4.out HLL.out,aQ (bJ HGR.out HK4.out) _ _⟩
   ·exact absurd HDZ.out hd
 ·have c0:decide (0<L)=true:=by simp;omega
  clear hl0 hDL;go_upto_region 4 with(go_at_call 30;(with_reducible refine HWB.out.mono ?_);rintro e w' ⟨rfl,hw⟩;subst w')
  go_upto_region 5 with(go_at_call 30;(with_reducible refine HWV.out.mono ?_);rintro e w' ⟨rfl,hw⟩;subst w')
  clear c0;by_cases hn:N=0
  ·have tn:(((N:Nat):Int)==0)=true:=by simp;omega
   have HO:Hid ((s.1,wv)=mV (opG G) vl s):=hid (by rw[HLK.out,zu (.inl hn)]);clear hn;go_wp2_with(fail)
   go_end0
   exact⟨rfl,_,HO.out▸HS.out,HGR.out⟩
  ·have tn:(((N:Nat):Int)==0)=false:=by simp;omega
   have HN0:=hid hn;by_cases hd:D=0
   ·have td:decide (0<D)=false:=by simp;omega
    have td0:(((D:Nat):Int)==0)=true:=by simp;omega
    have HD0:=hid hd;have HNS:Hid (¬ (N=0∨(0<D/\D<N))):=hid (by omega);clear hd hn;obtain⟨k,hzk,hkl,hne0,hfk⟩:=um (l:=vl) (by rw[<-HN.out];exact HN0.out);have HIF:=hid (N7 (.slice (some ⟨g,0,none⟩) L2 cap) vl W1 (by rw[HL2.out];exact HV.out.sl));rw[hzk] at HIF;have hcv:=HV.out.cell (i:=k) hkl;have hue:=HE.out k hkl;have hkl':(k:Int)< (L2:Int):=by have:=HL2.out;omega
    have hk0:(0:Int)<=(k:Int):=by omega
    obtain⟨y,hy⟩:∃ y,y=vl.getD k 0:=⟨_,rfl⟩
    have HLV:Hid (vl.map (bF G (fG G y))=fC (opG G) vl):=hid (by rw[hy];simp only[fC,hfk];rfl);rw[<-hy] at hcv hne0 hue;have HIN:Hid (inn G.q y≠0):=hid (by rw[bI hue];exact hne0);have hgw:=HG.out;clear hne0 hue hy hzk hkl hfk;go_upto_region 7 with(go_at_call 35;refine HIF.out.mono ?_;rintro e w' ⟨rfl,rfl⟩)
    go_quiet((go_at_call 178;refine Calls.quiet_of (pX b G y _ (hgw.drewN _) t HIN.out)));go_upto_region 8 with(fail)
    obtain⟨wz,hwz⟩:∃ x,x=W1.drewN nq:=⟨_,rfl⟩
    rw[<-hwz];have hkz:ay W1 wz:=by rw[hwz];exact aB _ _
    clear hwz hcv x0 x7 hgw;have x0:=(HS.out.kept hkz).bk.2 0 _ rfl;have lz:bs<wz.heap.size:=(HS.out.kept hkz).bk.1;have hgz:=HG.out.kept hkz;have hsz:=(HV.out.kept hkz).sl;rw[<-HL2.out] at hsz;have HSC:=hid (jL b G (fG G y) _ vl wz hgz t hsz (by rw[<-HL2.out];omega));rw[<-HL2.out] at HSC;have HKZ:=hid hkz;clear hkz hgz hsz;go_upto_region 9 with(go_at_call 179;(with_reducible refine HSC.out.mono ?_);rintro e w4 ⟨rfl,ho4,hk4⟩)
    have qG:=HKZ.out.tr hk4;have s4:=HS.out.kept qG;have o4:Own w4 (bs+1) (.slice (some ⟨wz.heap.size,0,none⟩) L2 L2) (fC (opG G) vl):=by rw[<-HLV.out];exact ho4.mono (by omega)
    have HLL:Hid ((fC (opG G) vl).length<=64):=hid (by unfold fC;rw[yx,<-HL2.out];exact hlen);clear x0;have x7:=s4.bk.2 7 _ rfl;have f7:=s4.fz.2 7;have l4:bs<w4.heap.size:=s4.bk.1;have H4:=hid s4;have O4:=hid o4;have HK4:=hid qG;clear s4 o4 ho4 hk4 qG;go_wp2_with(fail)
    go_end0
    have HO:(fC (opG G) vl,wv)=mV (opG G) vl s:=by rw[HLK.out,zx HNS.out,zu (.inl HD0.out)]
    exact⟨rfl,_,HO▸H4.out.best O4.out HLL.out,aQ (bJ HGR.out HK4.out) _ _⟩
   ·have td:decide (0<D)=true:=by simp;omega
    have td0:(((D:Nat):Int)==0)=false:=by simp;omega
    have HD0:=hid hd;by_cases hdn:D<N
    ·have tdn:decide (D<N)=true:=by simp;omega
     have HO:Hid ((s.1,wv)=mV (opG G) vl s):=hid (by rw[HLK.out,zu (.inr ⟨by omega,hdn⟩)]);clear hn hd hdn;go_wp2_with(fail)
     go_end0
     exact⟨rfl,_,HO.out▸HS.out,HGR.out⟩
    ·have tdn:decide (D<N)=false:=by simp;omega
     have HNS:Hid (¬ (N=0∨(0<D/\D<N))):=hid (by omega);by_cases hnd:N<D
     ·have tnd:decide (N<D)=true:=by simp;omega
      have HND:=hid hnd;clear hn hd hdn hnd;obtain⟨k,hzk,hkl,hne0,hfk⟩:=um (l:=vl) (by rw[<-HN.out];exact HN0.out);have HIF:=hid (N7 (.slice (some ⟨g,0,none⟩) L2 cap) vl W1 (by rw[HL2.out];exact HV.out.sl));rw[hzk] at HIF;have hcv:=HV.out.cell (i:=k) hkl;have hue:=HE.out k hkl;have hkl':(k:Int)< (L2:Int):=by have:=HL2.out;omega
      have hk0:(0:Int)<=(k:Int):=by omega
      obtain⟨y,hy⟩:∃ y,y=vl.getD k 0:=⟨_,rfl⟩
      have HLV:Hid (vl.map (bF G (fG G y))=fC (opG G) vl):=hid (by rw[hy];simp only[fC,hfk];rfl);rw[<-hy] at hcv hne0 hue;have HIN:Hid (inn G.q y≠0):=hid (by rw[bI hue];exact hne0);have hgw:=HG.out;clear hne0 hue hy hzk hkl hfk;go_upto_region 7 with(go_at_call 35;refine HIF.out.mono ?_;rintro e w' ⟨rfl,rfl⟩)
      go_quiet((go_at_call 178;refine Calls.quiet_of (pX b G y _ (hgw.drewN _) t HIN.out)));go_upto_region 8 with(fail)
      obtain⟨wz,hwz⟩:∃ x,x=W1.drewN nq:=⟨_,rfl⟩
      rw[<-hwz];have hkz:ay W1 wz:=by rw[hwz];exact aB _ _
      clear hwz hcv x0 x7 hgw;have x0:=(HS.out.kept hkz).bk.2 0 _ rfl;have lz:bs<wz.heap.size:=(HS.out.kept hkz).bk.1;have hgz:=HG.out.kept hkz;have hsz:=(HV.out.kept hkz).sl;rw[<-HL2.out] at hsz;have HSC:=hid (jL b G (fG G y) _ vl wz hgz t hsz (by rw[<-HL2.out];omega));rw[<-HL2.out] at HSC;have HKZ:=hid hkz;clear hkz hgz hsz;go_upto_region 9 with(go_at_call 179;(with_reducible refine HSC.out.mono ?_);rintro e w4 ⟨rfl,ho4,hk4⟩)
      have qG:=HKZ.out.tr hk4;have s4:=HS.out.kept qG;have o4:Own w4 (bs+1) (.slice (some ⟨wz.heap.size,0,none⟩) L2 L2) (fC (opG G) vl):=by rw[<-HLV.out];exact ho4.mono (by omega)
      have HLL:Hid ((fC (opG G) vl).length<=64):=hid (by unfold fC;rw[yx,<-HL2.out];exact hlen);clear x0;have x7:=s4.bk.2 7 _ rfl;have f7:=s4.fz.2 7;have l4:bs<w4.heap.size:=s4.bk.1;have H4:=hid s4;have O4:=hid o4;have HK4:=hid qG;clear s4 o4 ho4 hk4 qG;go_wp2_with(fail)
      go_end0
      have HO:(fC (opG G) vl,wv)=mV (opG G) vl s:=by rw[HLK.out,zx HNS.out,zu (.inr (.inl HND.out))]
      exact⟨rfl,_,HO▸H4.out.best O4.out HLL.out,aQ (bJ HGR.out HK4.out) _ _⟩
     ·have tnd:decide (N<D)=false:=by simp;omega
      have HND:=hid hnd;clear hn hd hdn hnd;obtain⟨k,hzk,hkl,hne0,hfk⟩:=um (l:=vl) (by rw[<-HN.out];exact HN0.out);have HIF:=hid (N7 (.slice (some ⟨g,0,none⟩) L2 cap) vl W1 (by rw[HL2.out];exact HV.out.sl));rw[hzk] at HIF;have hcv:=HV.out.cell (i:=k) hkl;have hue:=HE.out k hkl;have hkl':(k:Int)< (L2:Int):=by have:=HL2.out;omega
      have hk0:(0:Int)<=(k:Int):=by omega
      obtain⟨y,hy⟩:∃ y,y=vl.getD k 0:=⟨_,rfl⟩
      have HLV:Hid (vl.map (bF G (fG G y))=fC (opG G) vl):=hid (by rw[hy];simp only[fC,hfk];rfl);rw[<-hy] at hcv hne0 hue;have HIN:Hid (inn G.q y≠0):=hid (by rw[bI hue];exact hne0);have hgw:=HG.out;clear hne0 hue hy hzk hkl hfk;go_upto_region 7 with(go_at_call 35;refine HIF.out.mono ?_;rintro e w' ⟨rfl,rfl⟩)
      go_quiet((go_at_call 178;refine Calls.quiet_of (pX b G y _ (hgw.drewN _) t HIN.out)));go_upto_region 8 with(fail)
      obtain⟨wz,hwz⟩:∃ x,x=W1.drewN nq:=⟨_,rfl⟩
      rw[<-hwz];have hkz:ay W1 wz:=by rw[hwz];exact aB _ _
      clear hwz hcv x0 x7 hgw;have x0:=(HS.out.kept hkz).bk.2 0 _ rfl;have lz:bs<wz.heap.size:=(HS.out.kept hkz).bk.1;have hgz:=HG.out.kept hkz;have hsz:=(HV.out.kept hkz).sl;rw[<-HL2.out] at hsz;have HSC:=hid (jL b G (fG G y) _ vl wz hgz t hsz (by rw[<-HL2.out];omega));rw[<-HL2.out] at HSC;have HKZ:=hid hkz;clear hkz hgz hsz;go_upto_region 9 with(go_at_call 179;(with_reducible refine HSC.out.mono ?_);rintro e w4 ⟨rfl,ho4,hk4⟩)
      have qG:=HKZ.out.tr hk4;have s4:=HS.out.kept qG;have o4:Own w4 (bs+1) (.slice (some ⟨wz.heap.size,0,none⟩) L2 L2) (fC (opG G) vl):=by rw[<-HLV.out];exact ho4.mono (by omega)
      have HLL:Hid ((fC (opG G) vl).length<=64):=hid (by unfold fC;rw[yx,<-HL2.out];exact hlen);clear x0;have x7:=s4.bk.2 7 _ rfl;have f7:=s4.fz.2 7;have l4:bs<w4.heap.size:=s4.bk.1;have HCP:=hid (LH _ _ _ _ w4 o4.sl s4.own.sl);obtain⟨cr,hcr⟩:∃ x,x=cmpL (fC (opG G) vl) s.1:=⟨_,rfl⟩
      simp only[<-hcr] at HCP;have HCR:=hid hcr;have H4:=hid s4;have O4:=hid o4;have HK4:=hid qG;clear hcr s4 o4 ho4 hk4 qG;by_cases hcn:cr<0
      ·have tc:decide (cr<0)=true:=by simpa using hcn
       have HCN:=hid hcn;clear hcn;go_wp2_with(go_at_call 180;refine HCP.out.mono ?_;rintro e w' ⟨rfl,rfl⟩)
       go_end0
       have HO:(fC (opG G) vl,wv)=mV (opG G) vl s:=by rw[HLK.out,zx HNS.out,zu (.inr (.inr (by rw[<-HCR.out];exact HCN.out)))]
       exact⟨rfl,_,HO▸H4.out.best O4.out HLL.out,aQ (bJ HGR.out HK4.out) _ _⟩
      ·have tc:decide (cr<0)=false:=by simpa using hcn
       have HCN:=hid hcn;clear hcn;go_wp2_with(go_at_call 180;refine HCP.out.mono ?_;rintro e w' ⟨rfl,rfl⟩)
       go_end0
       have HO:(s.1,wv)=mV (opG G) vl s:=by rw[HLK.out,zx HNS.out,zx (fun q=>q.elim (fun q=>HD0.out q) (fun q=>q.elim (fun q=>HND.out q) (fun q=>absurd q (by have h1:=HCN.out;have h2:=HCR.out;omega))))]
       exact⟨rfl,_,HO▸H4.out,bJ HGR.out HK4.out⟩
end
end Go.Proofs.YtoilbeadokallaaGreatDoor
