/- Lemmas on the way to the row. Conditions: each lemma's own, stated with it. -/
import Derived.Test.YtoilbeadokallaaGreatDoorK02
import Derived.Test.YtoilbeadokallaaGreatDoorK03
import Derived.Deep.RegionHeld3
import Derived.Laws.CopyOwn
import Derived.StillTailTactics
import Derived.Deep.DeepCutAuto
set_option maxHeartbeats 2000000
namespace Go.Proofs.YtoilbeadokallaaGreatDoor
section
open Go.RowKit Cw
theorem dP (p m:Int) (w:World):
  Calls Tryz.prog 46 #[.int .i64 p,.int .i64 m] w fun e w'=>e=.returned (.int .i64 (dw p m))/\∃ n,w'=w.drewN n:=by
 by_cases h1:p<2
 ·have e:=hid (lI (p:=p) (m:=m) (by omega));go_enter Tryz.func46,Tryz.ntmps46
  go_wp2
  go_ret;exact⟨aW e.out.symm,0,rfl⟩
 by_cases h2:256<p
 ·have e:=hid (lI (p:=p) (m:=m) (by omega));go_enter Tryz.func46,Tryz.ntmps46
  go_wp2
  go_ret;exact⟨aW e.out.symm,0,rfl⟩
 by_cases h3:m<1
 ·have e:=hid (lI (p:=p) (m:=m) (by omega));go_enter Tryz.func46,Tryz.ntmps46
  go_wp2
  go_ret;exact⟨aW e.out.symm,0,rfl⟩
 by_cases h4:8<m
 ·have e:=hid (lI (p:=p) (m:=m) (by omega));go_enter Tryz.func46,Tryz.ntmps46
  go_wp2
  go_ret;exact⟨aW e.out.symm,0,rfl⟩
 go_enter Tryz.func46,Tryz.ntmps46
 go_wp2
 go_loop [5,21] (fun q i=>∃ (k:Nat) (Q:Int),(k:Int)<=m/\i=.int .i64 k/\q=.int .i64 Q/\Hid (Q=p^k)/\1<=Q/\Q<=256) (fun _ i=>(m-intOf i).toNat)
 case atStart=>exact⟨0,1,by omega,rfl,rfl,hid (by simp),by omega,by omega⟩
 case round=>
  obtain⟨k,Q,hk,rfl,rfl,hQ,b1,b2⟩:=hrel;have c1:Q*p<=256*256:=Int.le_trans (zV b2 (by omega)) (zG (by omega) (by omega));have c2:0<=Q*p:=yN (by omega) (by omega);have c3:Q*1<=Q*p:=zG (by omega) (by omega);by_cases hlt:(k:Int)<m
  ·by_cases hbig:256<Q*p
   ·have e:Hid (dw p m=0):=hid (lI fun g=>by
     have h5:=ni (p:=p) (by omega) (show k+1<=m.toNat by omega);rw[xY,<-hQ.out] at h5;omega)
    go_wp2
    go_ret;exact⟨aW e.out.symm,0,rfl⟩
   ·go_wp2
    go_round;case rel=>exact⟨k+1,Q*p,by omega,by go_num,rfl,hid (by rw[xY,<-hQ.out]),by omega,by omega⟩
    case measure=>simp[intOf];omega
  ·have hkm:m.toNat=k:=by omega
   have e:Hid (dw p m=Q):=hid (by rw[EZ (by omega) (by omega) (by omega) (by omega) (by rw[hkm,<-hQ.out];exact b2),hkm,hQ.out]);clear hkm
   go_wp2
   go_ret;exact⟨aW e.out.symm,0,rfl⟩
theorem qm (n:Int) (w:World) (h:Prm n) (h2:n<=256):
  Calls Tryz.prog 88 #[.int .i64 n] w fun e w'=>e=.returned (.bool true)/\∃ m,w'=w.drewN m:=by
 have H:=hid h;have hn:2<=n:=h.1;clear h;go_enter Tryz.func88,Tryz.ntmps88
 go_wp2
 go_loop [3] (fun i=>∃ d:Int,2<=d/\d<=17/\d<=n/\i=.int .i64 d) (fun i=>(17-intOf i).toNat)
 case atStart=>exact⟨2,by omega,by omega,by omega,rfl⟩
 case round=>
  obtain⟨d,h3,h4,h5,rfl⟩:=hrel;have h6:=adU (by omega) h4;obtain⟨h61,h62⟩:=h6;by_cases hle:d*d<=n
  ·have h7:=adV (by omega) (show d*d<=256 by omega);have h8:2*d<=d*d:=zV h3 (by omega);have h9:d<n:=by omega
   have h10:(n%d==0)=false:=by simpa using H.out.2 d h3 h9
   have h11:=zK n (show d≠0 by omega);have h12:=zQ n (show 0<d by omega)
   go_wp2
   go_round;case rel=>exact⟨d+1,by omega,by omega,by omega,rfl⟩
   case measure=>simp[intOf];omega
  ·go_wp2
   go_ret;exact⟨by simp,0,rfl⟩
theorem OG (n:Int) (w:World) (h:¬ Prm n) (h2:n<=256):
  Calls Tryz.prog 88 #[.int .i64 n] w fun e w'=>e=.returned (.bool false)/\∃ m,w'=w.drewN m:=by
 have H:=hid h;clear h;go_enter Tryz.func88,Tryz.ntmps88
 go_wp2
 go_loop [3] (fun i=>∃ d:Int,2<=d/\d<=17/\i=.int .i64 d/\Hid (∀ c:Int,2<=c->c<d->n%c≠0)) (fun i=>(17-intOf i).toNat)
 case atStart=>exact⟨2,by omega,by omega,rfl,hid (fun c h3 h4=>by omega)⟩
 case round=>
  obtain⟨d,h3,h4,rfl,hc⟩:=hrel;have h6:=adU (by omega) h4;obtain⟨h61,h62⟩:=h6;by_cases hle:d*d<=n
  ·have h7:=adV (by omega) (show d*d<=256 by omega);have h8:2*d<=d*d:=zV h3 (by omega);have h11:=zK n (show d≠0 by omega);have h12:=zQ n (show 0<d by omega);by_cases hz:n%d=0
   ·have h10:(n%d==0)=true:=by simpa using hz
    clear hz
    go_wp2
    go_ret;exact⟨rfl,0,rfl⟩
   ·have h10:(n%d==0)=false:=by simpa using hz
    have hc':Hid (∀ c:Int,2<=c->c<d+1->n%c≠0):=hid fun c g1 g2=>by
     by_cases e:c=d
     ·rw[e];exact hz
     ·exact hc.out c g1 (by omega)
    clear hz
    go_wp2
    go_round;case rel=>exact⟨d+1,by omega,by omega,rfl,hc'⟩
    case measure=>simp[intOf];omega
  ·have hn:n<2:=by
    rcases sG n 2 with g|g
    ·exact g
    ·exact absurd (adT g h3 (by omega) hc.out) H.out
   go_wp2
   go_ret;exact⟨by simp;omega,0,rfl⟩
theorem iZ (x p:Int) (m:Nat) (w:World) (hx:0<=x) (hx2:x<=9223372036854775807) (hp:1<=p) (hp2:p<=256) (hm:m<=8):
  Calls Tryz.prog 150 #[.int .i64 x,.int .i64 p,.int .i64 m] w fun e w'=>e=.returned (.slice (some ⟨w.heap.size,0,none⟩) m m)/\Own w' w.heap.size (.slice (some ⟨w.heap.size,0,none⟩) m m) (bY p x m)/\ay w w':=by
 go_enter Tryz.func150,Tryz.ntmps150;go_wp2_with(at_make;refine aJ rfl _ _ rfl m _ _ rfl rfl rfl rfl (by omega) ?_;intro w1 ho hk)
 go_loopw [0,13] (fun vx i wr=>∃ (k:Nat) (y:Int) (ys:List Int),k<=m/\i=.int .i64 k/\vx=.int .i64 y/\0<=y/\y<=x/\Hid (y=x/p^k)/\Hid (ys.length=m)/\Hid (∀ j,j<k->ys.getD j 0=dgt p x j)/\
   Own wr w.heap.size (.slice (some ⟨w.heap.size,0,none⟩) m m) ys/\ay w wr) (fun _ i _=>m- (intOf i).toNat)
 case atStart=>exact⟨0,x,_,by omega,rfl,rfl,hx,rY _,hid (by simp),hid (by simp),hid (fun j hj=>by omega),ho,hk⟩
 case round=>
  obtain⟨k,y,ys,hkm,rfl,rfl,hy,hyx,hyk,hl,hd,hown,hkept⟩:=hrel;clear ho hk;by_cases hlt:k<m
  ·have hcell:=hown.cell (i:=k) (by rw[hl.out];exact hlt);have hfz:=hown.frozen k;have hown':=hown.set k (y%p);have g1:=zK y (show p≠0 by omega);have g2:=zQ y (show 0<p by omega);have g3:=xI hy (show 0<=p by omega);have g4:=wJ p hy;have RZ:=Below.setCell hkept (p:=⟨w.heap.size,k,none⟩) (zy _) (.int .i64 (y%p));clear hown hkept
   go_wp2
   go_roundw;case rel=>exact⟨k+1,y/p,ys.set k (y%p),by omega,by go_num,rfl,g3,by omega,hid (by rw[hyk.out,Ae (by omega)]),hid (by simp[hl.out]),hid (fun j hj=>by
    by_cases e:j=k
    ·subst e;simp[List.getD,hl.out,hlt,dgt,hyk.out]
    ·have:=hd.out j (by omega);simpa[List.getD,zS (show k≠j by omega)] using this),hown',RZ⟩
   case measure=>simp[intOf];omega
  ·have e:Hid (bY p x m=ys):=hid (zM (by rw[aP,hl.out]) (fun j h1 h2=>by
    have:=hd.out j (by rw[hl.out] at h2;omega);simp only[List.getD,zq h2,zU] at this;rw[this];simp[bY]))
   go_wp2
   go_ret;exact⟨rfl,by rw[e.out];exact hown,hkept⟩
theorem Kr (v:Value) (l:List Int) (p:Int) (w:World) (hv:Sl w v l) (hp:1<=p) (hp2:p<=256) (hd:fF p l) (hq:p^l.length<=256) (hl:l.length<=8):
  Calls Tryz.prog 151 #[v,.int .i64 p] w fun e w'=>e=.returned (.int .i64 (ng p l))/\∃ m,w'=w.drewN m:=by
 obtain⟨a,cap,rfl,hcap,_,hc⟩:=hv;go_enter Tryz.func151,Tryz.ntmps151
 go_wp2
 go_loop [5,6] (fun vx i=>∃ (k:Nat) (y:Int),k<=l.length/\i=.int .i64 ((k:Int)-1)/\vx=.int .i64 y/\Hid (y=Qo p l k)/\0<=y/\y<256) (fun _ i=>(intOf i+1).toNat)
 case atStart=>exact⟨l.length,0,zy _,rfl,rfl,hid (MG _ _).symm,by omega,by omega⟩
 case round=>
  obtain⟨k,y,hk,rfl,rfl,hy,y0,y1⟩:=hrel;by_cases hlt:0<k
  ·obtain⟨j,rfl⟩:∃ j,k=j+1:=⟨k-1,by omega⟩
   obtain⟨b,off,rfl,hb,hcell⟩:=hc (by intro e;rw[e] at hk;simp at hk);have hcj:=hcell j (by omega);have hmem:l.getD j 0∈l:=by simp only[List.getD,zq (show j<l.length by omega),zU];exact zF _
   obtain⟨d0,d1⟩:=hd _ hmem;have hst:=hid (H6 p l (k:=j) (by omega));have hbd:=Qq hp hd j;rw[hst.out,<-hy.out] at hbd;obtain⟨b1,b2⟩:=hbd;have b3:0<=y*p:=yN y0 (by omega);have e:((j+1:Nat):Int)-1=(j:Int):=by omega
   rw[e];clear e hcell hmem;generalize l.getD j 0=d at*
   go_wp2
   go_round;case rel=>exact⟨j,y*p+d,by omega,rfl,rfl,hid (by rw[hst.out,<-hy.out]),by omega,by omega⟩
   case measure=>simp[intOf]
  ·obtain rfl:k=0:=by omega
   go_wp2
   go_ret;exact⟨aW (by rw[hy.out,Hz]),0,rfl⟩
theorem IE {w:World} {B g m:Nat} {ys:List Int} (hl:ys.length=m) (h:Own w B (.slice (some ⟨g,0,none⟩) m m) ys):w.heap[g]?=some (.cells (ys.map (Value.int .i64)).toArray 3 (0,0)):=by
 obtain⟨_,h⟩:=h;rcases h with⟨h,_⟩|⟨g',cap',cur,e,_,hg,_,_,hs,ht⟩
 ·cases h
 ·cases e
  rw[hg];congr 2;apply Array.ext';rw[<-ht,wQ (by simp;omega)]
theorem Ap {w:World} {B g m:Nat} {ys:List Int} (hl:ys.length=m) (hm:m<=maxLen) (hB:B<=g) (h:w.heap[g]?=some (.cells (ys.map (Value.int .i64)).toArray 3 (0,0))):Own w B (.slice (some ⟨g,0,none⟩) m m) ys:=by
 subst hl;exact⟨by simp,.inr ⟨g,_,_,rfl,hB,h,zy _,hm,by simp,by rw[uX];exact wQ (by simp)⟩⟩
theorem OH {ops:Array Oper} {o:Oper} {a:Act} {w:World} {K:Act->World->Prop} {Q:Exit->Act->World->Prop} {E:Prop} (hgd:o.guard=none) (d s:Operand)
  (ho:o.op=.call {callee:=.builtin .copy,args:=#[d,s],argTypes:=#[22,22]}) (g m:Nat) (dp sp:Option Addr) (L L' dCap sCap:Nat) (hd:a.eval d=.slice dp L dCap) (hs:a.eval s=.slice sp L' sCap)
  (hL:L=m-1) (hL':L'=m-1) (hdp:1<m->dp=some ⟨g,1,none⟩) (hsp:1<m->sp=some ⟨g,0,none⟩) (ys:List Int) (hl:ys.length=m) (hm:1<=m) (hm2:m<=8) (B:Nat) (w0:World) (hown:Own w B (.slice (some ⟨g,0,none⟩) m m) ys) (hb:Below B w0 w)
  (h:∀ w',Own w' B (.slice (some ⟨g,0,none⟩) m m) (ys.take 1++ys.take (m-1))->Below B w0 w'->K (a.put o.dst (goInt (m-1:Nat))) w'):
  if Region.wanted o (yielded ops a.tmps)=true then Oper.wp Tryz.prog o a w K Q else E:=by
 subst hL hL';have hB:=hown.lt.1;have hcl:((ys.take (m-1)).map (Value.int .i64)).length=m-1:=by simp;omega
 refine step_copy_splice hgd d s 22 22 ho 3 Tryz.underlying22 (by kernel_rfl) dp sp (m-1) dCap (m-1) sCap hd hs g 1 (ys.map (Value.int .i64)) 3 (IE hl hown) ((ys.take (m-1)).map (Value.int .i64))
  (by rw[hcl];exact(Nat.min_self _).symm) (fun hp=>⟨hdp (by omega),_,hsp (by omega),fun j v hj=>?_⟩) (by rw[hcl];simp;omega) (ints_oneCell _ _) B w0 hb hB fun w' hg' hb'=>?_
 ·have hj2:j<m-1:=by have:=(zN.1 hj).1;rw[hcl] at this;exact this
  have:=hown.cell (i:=j) (by omega);rw[Addr.add_lit,xQ,this];simp[wX hj2] at hj;obtain⟨z,hz,rfl⟩:=hj;simp[List.getD,hz]
 ·rw[hcl];refine h w' (Ap (by simp;omega) (by unfold maxLen;omega) hB ?_) hb';rw[hg'.out];congr 2;simp only[splice,hcl,<-List.map_take,<-List.map_drop,<-xq];rw[show ys.drop (1+(m-1))=[] from xW (by omega),List.append_nil]
theorem Si {us vs:List Int} {m k:Nat} {x:Int} (hl:us.length=m) (hk:k<m) (h:∀ j,j<k->us.getD j 0=vs.getD j 0) (hx:vs.getD k 0=x):∀ j,j<k+1->(us.set k x).getD j 0=vs.getD j 0:=fun j hj=>by
 by_cases e:j=k
 ·subst e;simp[List.getD,hl,hk,<-hx]
 ·have:=h j (by omega);simpa[List.getD,zS (show k≠j by omega)] using this
theorem Nk {us zs:List Int} {m k:Nat} {x:Int} (h:∀ j,k<=j->j<m->us.getD j 0=zs.getD j 0):∀ j,k+1<=j->j<m->(us.set k x).getD j 0=zs.getD j 0:=fun j hj hm=>by
 have:=h j (by omega) hm;simpa[List.getD,zS (show k≠j by omega)] using this
theorem nZ (p:Int) (m:Nat) (vm:Value) (mod:List Int) (x y:Int) (w:World) (hvm:Sl w vm mod) (hp:2<=p) (hp2:p<=256) (hm:1<=m) (hm2:m<=8) (hq:p^m<=256)
  (hml:1<m->mod.length=m) (hmd:fF p mod) (hx0:0<=x) (hx1:x<256) (hy0:0<=y) (hy1:y<256):
  Calls Tryz.prog 90 #[.agg #[.int .i64 p,.int .i64 m,vm],.int .i64 x,.int .i64 y] w fun e w'=>e=.returned (.int .i64 (mulS p m mod x y))/\ay w w':=by
 obtain⟨am,cm,rfl,hcm,hcm2,hcell⟩:=hvm;go_enter Tryz.func90,Tryz.ntmps90;go_wp2_with(fail)
 go_region_held3 (fun w'=>w'.cell? ⟨w.heap.size,0,none⟩=some (.int .i64 p)/\w'.cell? ⟨w.heap.size,1,none⟩=some (.int .i64 m)) (first|(simp[go_sem];done)|(simp[*];done))
  (first|(go_at_call 150;with_reducible refine(iZ x p m _ (by omega) (by omega) (by omega) (by omega) (by omega)).mono ?_;rintro e w1 ⟨rfl,hown,hk⟩;have bx:=((aS w p m (.slice am mod.length cm) 24).drew).kept hk;have b0:=bx.h0;have b1:=bx.h1)|(go_at_call 150;with_reducible refine(iZ y p m _ (by omega) (by omega) (by omega) (by omega) (by omega)).mono ?_;rintro e w2 ⟨rfl,hown2,hk2⟩;have bx2:=bx.kept hk2;have c0:=bx2.h0;have c1:=bx2.h1))
 clear b0 b1 c0 c1;have d0:=bx2.h0;have d1:=bx2.h1;go_wp2_with(at_make;refine aJ rfl _ _ rfl m _ _ rfl rfl rfl rfl (by omega) ?_;intro w3 ho hk3;have e0:=(bx2.kept hk3).h0;have e1:=(bx2.kept hk3).h1)
 have hA:Own w2 (w.heap.size+1) (.slice (some ⟨w.heap.size+1,0,none⟩) m m) (bY p x m):=by simpa using hown.kept hk2
 have hk0:ay w w1:=by
  have:=hk;exact(((ah w _).tr (aC _)).tr this)
 have z1:w.heap.size+1<w1.heap.size:=by have:=(show Own w1 (w.heap.size+1) (.slice (some ⟨w.heap.size+1,0,none⟩) m m) (bY p x m) by simpa using hown).lt;omega
 have z2:w1.heap.size<w2.heap.size:=hown2.lt.2;have z3:w2.heap.size<w3.heap.size:=ho.lt.2;have hmc:mod≠ []->∃ b off,am=some ⟨b,off,none⟩/\b<w2.heap.size/\∀ i,i<mod.length->w2.cell? ⟨b,off+i,none⟩=some (.int .i64 (mod.getD i 0)):=fun h=>by
  obtain⟨b,off,e,hb,hc⟩:=hcell h;exact⟨b,off,e,by have:=hk0.size;omega,fun i hi=>((hk0.tr hk2).cell' hb).trans (hc i hi)⟩
 have hkw:=hk0.tr hk2;clear hcell hown hk hk0 d0 d1 e0 e1 bx;obtain⟨xa,hxa⟩:∃ xa,xa=bY p x m:=⟨_,rfl⟩
 obtain⟨xb,hxb⟩:∃ xb,xb=bY p y m:=⟨_,rfl⟩
 rw[<-hxa] at hA;rw[<-hxb] at hown2;have lA:Hid (xa.length=m):=hid (by rw[hxa,aP]);have lB:Hid (xb.length=m):=hid (by rw[hxb,aP]);have dA:fF p xa:=by rw[hxa];exact gJ (by omega) m
 have dB:fF p xb:=by rw[hxb];exact gJ (by omega) m
 have HS:Hid (mulS p m mod x y=ng p (pI p m mod xa xb m)):=hid (by rw[hxa,hxb];rfl);clear hxa hxb
 go_loopw [10] (fun vi wr=>∃ n:Nat,n<=m/\vi=.int .i64 ((m:Int)-1-n)/\Own wr w2.heap.size (.slice (some ⟨w2.heap.size,0,none⟩) m m) (pI p m mod xa xb n)/\Below w2.heap.size w2 wr) (fun vi _=>(intOf vi+1).toNat)
 case atStart=>exact⟨0,by omega,by simp,ho,hk3⟩
 case round=>
  obtain⟨n,hn,rfl,hown,hbel⟩:=hrel;clear ho hk3;obtain⟨ys,hys⟩:∃ ys,ys=pI p m mod xa xb n:=⟨_,rfl⟩
  rw[<-hys] at hown;have dY:fF p ys:=by rw[hys];exact xk (by omega) _ _ _ _ _
  have lY:Hid (ys.length=m):=hid (by rw[hys,jS]);have HY:=hid hys;clear hys;have f0:=(bx2.below hbel bx2.lt).h0;have f1:=(bx2.below hbel bx2.lt).h1;have f2:=(bx2.below hbel bx2.lt).h2;by_cases hlt:n<m
  ·have htop:=hown.cell (i:=m-1) (by rw[lY.out];omega);obtain⟨tp,htp⟩:∃ t,t=ys.getD (m-1) 0:=⟨_,rfl⟩
   rw[<-htp] at htop;have dT:0<=tp/\tp<p:=by rw[htp];exact eX (by omega) dY _
   have HT:=hid htp;clear htp;obtain⟨dT1,dT2⟩:=dT;have i0:(1:Int)<=(m:Int):=by omega
   have i1:(0:Int)<=(m:Int)-1:=by omega
   have i2:(m:Int)-1<=(m:Int):=by omega
   go_wp2_with(fail)
   have hw1:IntKind.i64.wrap ((m:Int)-1)=(m:Int)-1:=IntWalk.i64_in _ (by omega)
   go_region_law(refine OH rfl (.tmp 43) (.tmp 48) rfl w2.heap.size m _ _ _ _ _ _ rfl rfl (by clear hw1;omega) (by clear hw1;omega) (by clear hw1;intro hm1;rw[zx (by omega)]) (fun _=>rfl) ys lY.out hm hm2 w2.heap.size w2 hown.drew hbel.drew ?_;intro w4 ho4 hb4)
   clear hw1;generalize (if m=1 then(some ({block:=w2.heap.size,off:=0}:Addr)) else some {block:=w2.heap.size,off:=1})=adr;have g0:=(bx2.below hb4 bx2.lt).h0;have g1:=(bx2.below hb4 bx2.lt).h1;have g2:=(bx2.below hb4 bx2.lt).h2;have hfz:=ho4.frozen 0;have hc0:=ho4.cell (i:=0) (by have:=lY.out;simp;omega);have ho5:=ho4.set 0 0;have hb5:=Below.setCell hb4 (p:=⟨w2.heap.size,0,none⟩) (zy _) (.int .i64 0);clear hown hbel htop f0 f1 f2;go_wp2_with(fail)
   obtain⟨zs,hzs⟩:∃ zs,zs=(ys.take 1++ys.take (m-1)).set 0 0:=⟨_,rfl⟩
   rw[<-hzs] at ho5;have lZ:Hid (zs.length=m):=hid (by rw[hzs,H7 lY.out hm]);have HZ:Hid (∀ j,j<m->zs.getD j 0=if j=0 then 0 else ys.getD (j-1) 0):=hid fun j hj=>by rw[hzs,WE lY.out hj]
   have dZ:Hid (∀ j,j<m->0<=zs.getD j 0/\zs.getD j 0<p):=hid fun j hj=>by
    rw[HZ.out j hj]
    split
    ·omega
    ·exact eX (by omega) dY _
   clear hzs hfz hc0 ho4 hb4 g0 g1 g2;obtain⟨bi,hbi⟩:∃ b,b=xb.getD (m-1-n) 0:=⟨_,rfl⟩
   have dBi:0<=bi/\bi<p:=by rw[hbi];exact eX (by omega) dB _
   have cB:=hown2.cell (i:=m-1-n) (by rw[lB.out];omega);rw[<-hbi] at cB;have HBI:=hid hbi;clear hbi;have HN:Hid (pI p m mod xa xb (n+1)=stepM p m mod xa bi ys):=hid (by rw[pI,<-HBI.out,<-HY.out]);generalize w4.setCell {block:=w2.heap.size,off:=0} (Value.int IntKind.i64 0)=w5 at*
   go_loopw [54] (fun vk wr=>∃ (k:Nat) (us:List Int),k<=m/\vk=.int .i64 k/\Hid (us.length=m)/\Hid (∀ j,j<k->us.getD j 0=(stepM p m mod xa bi ys).getD j 0)/\Hid (∀ j,k<=j->j<m->us.getD j 0=zs.getD j 0)/\
    Own wr w2.heap.size (.slice (some ⟨w2.heap.size,0,none⟩) m m) us/\Below w2.heap.size w2 wr) (fun vk _=>m- (intOf vk).toNat)
   case atStart=>exact⟨0,zs,by omega,rfl,lZ,hid (fun j hj=>by omega),hid (fun j _ _=>rfl),ho5,hb5⟩
   case round=>
    obtain⟨k,us,hk,rfl,lU,hU1,hU2,hown,hbel⟩:=hrel;clear ho5 hb5;by_cases hkm:k<m
    ·have f0:=(bx2.below hbel bx2.lt).h0;have f1:=(bx2.below hbel bx2.lt).h1;have f2:=(bx2.below hbel bx2.lt).h2;have cA:=(Below.cell hbel (p:=⟨w.heap.size+1,k,none⟩) (by simp;omega)).trans (hA.cell (i:=k) (by rw[lA.out];omega));have cB':=(Below.cell hbel (p:=⟨w1.heap.size,m-1-n,none⟩) z2).trans cB;have cO:=hown.cell (i:=k) (by rw[lU.out];omega);have fO:=hown.frozen k;obtain⟨av,hav⟩:∃ b,b=xa.getD k 0:=⟨_,rfl⟩
     rw[<-hav] at cA;have dAv:0<=av/\av<p:=by rw[hav];exact eX (by omega) dA _
     obtain⟨zv,hzv⟩:∃ b,b=us.getD k 0:=⟨_,rfl⟩
     rw[<-hzv] at cO;have dZv:0<=zv/\zv<p:=by rw[hzv,hU2.out k (zy _) hkm];exact dZ.out k hkm
     have HAV:=hid hav;have HZV:=hid hzv;clear hav hzv;have j1:(0:Int)<=(k:Int):=by omega
     have j2:(k:Int)< (m:Int):=by omega
     have j3:(0:Int)<=(m:Int)-1-n:=by omega
     have j4:(m:Int)-1-n< (m:Int):=by omega
     have key:∀ lo:Int,0<=lo/\lo<p->lo=(if 1<m then mod.getD k 0 else 0)->Hid ((stepM p m mod xa bi ys).getD k 0=(zv+(p-tp)*lo+bi*av)%p):=fun lo _ h=>hid (by
      rw[MH hkm,<-h,<-HT.out,<-HAV.out,HZV.out,hU2.out k (zy _) hkm,HZ.out k hkm])
     by_cases h1m:1<m
     ·obtain⟨bm,om,rfl,hbm,hcm'⟩:=hmc (by intro e;have:=hml h1m;rw[e] at this;simp at this;omega);have cM:=(Below.cell hbel (p:=⟨bm,om+k,none⟩) hbm).trans (hcm' k (by rw[hml h1m];exact hkm));obtain⟨lo,hlo⟩:∃ b,b=mod.getD k 0:=⟨_,rfl⟩
      rw[<-hlo] at cM;have dLo:0<=lo/\lo<p:=by rw[hlo];exact eX (by omega) hmd _
      have HK:=key lo dLo (by rw[zu h1m];exact hlo);clear hlo key hcm';have hlm:(k:Int)< (mod.length:Int):=by rw[hml h1m];exact j2
      obtain⟨s1,s2,s3,s4⟩:=Qr hp hp2 ⟨dT1,dT2⟩ dLo dBi dAv;go_wp2_with(fail)
      have w1':IntKind.i64.wrap (p-tp)=p-tp:=IntWalk.i64_in _ (by omega);have w2':IntKind.i64.wrap ((p-tp)*lo)=(p-tp)*lo:=IntWalk.i64_in _ (by clear w1';omega);have w3':IntKind.i64.wrap (zv+(p-tp)*lo)=zv+(p-tp)*lo:=IntWalk.i64_in _ (by clear w1' w2';omega);have w4':IntKind.i64.wrap (bi*av)=bi*av:=IntWalk.i64_in _ (by clear w1' w2' w3';omega);have w5':IntKind.i64.wrap (zv+(p-tp)*lo+bi*av)=zv+(p-tp)*lo+bi*av:=IntWalk.i64_in _ (by clear w1' w2' w3' w4';omega);go_region;clear w1' w2' w3' w4' w5';have hset:=hown.drew.set k ((zv+(p-tp)*lo+bi*av)%p);have hbs:=Below.setCell hbel.drew (p:=⟨w2.heap.size,k,none⟩) (zy _) (.int .i64 ((zv+(p-tp)*lo+bi*av)%p));clear hown hbel;go_wp2_with(fail)
      go_roundw;case rel=>exact⟨k+1,us.set k ((zv+(p-tp)*lo+bi*av)%p),by omega,by go_num,hid (by simp[lU.out]),hid (Si lU.out hkm hU1.out HK.out),hid (Nk hU2.out),hset,hbs⟩
      case measure=>simp[intOf];omega
     ·obtain rfl:k=0:=by omega
      have HK:=key 0 (by omega) (by rw[zx h1m]);rw[Int.mul_zero,sH] at HK;clear key;obtain⟨s1,s2,s3,s4⟩:=Qr hp hp2 ⟨dT1,dT2⟩ (l:=0) (by omega) dBi dAv;go_wp2_with(fail)
      have w1':IntKind.i64.wrap (p-tp)=p-tp:=IntWalk.i64_in _ (by omega);have w4':IntKind.i64.wrap (bi*av)=bi*av:=IntWalk.i64_in _ (by clear w1';omega);have w5':IntKind.i64.wrap (zv+bi*av)=zv+bi*av:=IntWalk.i64_in _ (by clear w1' w4';omega);go_region;clear w1' w4' w5';have hset:=hown.drew.set 0 ((zv+bi*av)%p);have hbs:=Below.setCell hbel.drew (p:=⟨w2.heap.size,0,none⟩) (zy _) (.int .i64 ((zv+bi*av)%p));clear hown hbel;go_wp2_with(fail)
      go_roundw;case rel=>exact⟨0+1,us.set 0 ((zv+bi*av)%p),by omega,by go_num,hid (by simp[lU.out]),hid (Si lU.out hkm hU1.out HK.out),hid (Nk hU2.out),hset,hbs⟩
      case measure=>simp[intOf];omega
    ·have eU:Hid (us=stepM p m mod xa bi ys):=hid (zM (by rw[nO,lU.out]) (fun j h1 h2=>by
      have:=hU1.out j (by rw[lU.out] at h1;omega);simpa only[List.getD,zq h1,zq h2,zU] using this))
     go_wp2_with(fail)
     go_roundw;case rel=>exact⟨n+1,by omega,iC (by omega),by rw[HN.out,<-eU.out];exact hown,hbel⟩
     case measure=>simp[intOf];omega
  ·have hnm:n=m:=by omega
   have hfin:Hid (ng p ys=mulS p m mod x y):=hid (by rw[HS.out,HY.out,hnm]);clear hnm;go_wp2_with(go_at_call 151;refine(Kr _ ys p _ (Own.sl (by assumption)) (by omega) hp2 dY (by rw[lY.out];exact hq) (by rw[lY.out];exact hm2)).mono ?_;rintro e w6 ⟨rfl,n6,rfl⟩)
   go_ret;exact⟨aW hfin.out,(hkw.tr hbel).drewN n6⟩
def lenOf:Value->Nat
 | .slice _ n _=>n
 |_=>0
theorem Own.lenOf {w:World} {B:Nat} {v:Value} {xs:List Int} (h:Own w B v xs):lenOf v=xs.length:=by
 rcases h.form with⟨rfl,rfl⟩|⟨g,cap,rfl,_⟩<;>rfl
theorem OI (p:Int) (m:Nat) (vm:Value) (mod:List Int) (q x:Int) (w:World) (hvm:Sl w vm mod) (hp:2<=p) (hp2:p<=256) (hm:1<=m) (hm2:m<=8) (hq:p^m=q) (hq2:q<=256)
  (hml:1<m->mod.length=m) (hmd:fF p mod) (hx0:1<=x) (hx1:x<q):
  Calls Tryz.prog 89 #[.agg #[.int .i64 p,.int .i64 m,vm],.int .i64 q,.int .i64 x] w fun e w'=>∃ v,e=.returned v/\Own w' w.heap.size v (pU p m mod x)/\ay w w':=by
 obtain⟨qn,rfl⟩:=zY (show 0<=q by omega);have HQ:=hid hq;clear hq;go_enter Tryz.func89,Tryz.ntmps89;go_wp2_with(at_make;refine iK rfl _ _ rfl qn _ _ rfl rfl rfl rfl (by omega) ?_;intro w1 ho' hk';have ho:lG w1 (w.heap.size+1) (.slice (some ⟨w.heap.size+1+1,0,none⟩) qn qn) (List.replicate qn false):=(by simpa using ho'.mono (B':=w.heap.size+1) (by simp));have fz:=ho.frozen 1;have c1:=ho.cell (i:=1) (by simp;omega))
 have hk:ay ((w.alloc (.cells #[.int .i64 p,.int .i64 m,vm] 24)).alloc (.cells #[.int .i64 1] 3)) w1:=hk';have hb0:Below (w.heap.size+1) (w.alloc (.cells #[.int .i64 p,.int .i64 m,vm] 24)) w1:=((Below.refl _ _).alloc (by simp) _).trans (hk.mono (by simp));have hb1:=Below.setCell hb0 (p:=⟨w.heap.size+1+1,1,none⟩) (by simp) (.bool true);have hbx:=aS w p m vm 24;have gG:Sl (w.alloc (.cells #[.int .i64 p,.int .i64 m,vm] 24)) vm mod:=hvm.kept (ah _ _);have hout1:Own w1 (w.heap.size+1) (.slice (some ⟨w.heap.size+1,0,none⟩) 1 1) [1]:=by
  have h0:=World.ownsRow_lit (size:=1) (e:=3) (base:=w.heap.size+1) (w.alloc (.cells #[.int .i64 p,.int .i64 m,vm] 24)) #[.int .i64 1] 1 (by simp) (by unfold maxLen;omega) rfl;have h1:Own ((w.alloc (.cells #[.int .i64 p,.int .i64 m,vm] 24)).alloc (.cells #[.int .i64 1] 3)) (w.heap.size+1) (.slice (some ⟨w.heap.size+1,0,none⟩) 1 1) [1]:=by unfold Own;simpa using h0
  exact h1.kept hk
 have hout:=hout1.setB ho 1 (.bool true);have abw:=ho.set 1 true;clear ho' ho hk' hk hb0 hout1 fz c1;have hse:=Om (q:=qn) (by omega);have hfin:Hid (kF (fun y=>mulS p m mod y x) qn [1] x=pU p m mod x):=hid (by unfold pU;rw[HQ.out];rfl);obtain⟨bs0,aje⟩:∃ b,b=(List.replicate qn false).set 1 true:=⟨_,rfl⟩
 rw[<-aje] at abw hse;clear aje;obtain⟨f,hf⟩:∃ f:Int->Int,f=(fun y=>mulS p m mod y x):=⟨_,rfl⟩
 rw[<-hf] at hfin;have Hf:Hid (∀ y,mulS p m mod y x=f y):=hid (fun y=>by rw[hf]);clear hf;obtain⟨gl,hgl⟩:∃ g,g=pU p m mod x:=⟨_,rfl⟩
 rw[<-hgl] at hfin;have HG:=hid hgl;clear hgl;generalize w1.setCell {block:=w.heap.size+1+1,off:=1} (Value.bool true)=w2 at*
 go_loopw [7,9] (fun v vy wr=>∃ (acc:List Int) (y:Nat) (bs:List Bool) (n:Nat),vy=.int .i64 y/\y<qn/\Own wr (w.heap.size+1) v acc/\lG wr (w.heap.size+1) (.slice (some ⟨w.heap.size+1+1,0,none⟩) qn qn) bs/\Seen qn bs acc/\
   Hid (kF f n acc y=gl)/\qn<=n+acc.length/\Below (w.heap.size+1) (w.alloc (.cells #[.int .i64 p,.int .i64 m,vm] 24)) wr) (fun v _ _=>qn-lenOf v)
 case atStart=>
  obtain⟨xn,rfl⟩:=zY (show 0<=x by omega);exact⟨[1],xn,bs0,qn,rfl,by omega,hout,abw,hse,hfin,by omega,hb1⟩
 case round=>
  obtain⟨acc,y,bs,n,rfl,hy,hown,Sj,hs,ahv,hqn,hbel⟩:=hrel;clear hout abw hse hfin hb1;have cS:=Sj.cell (i:=y) (by rw[hs.1];exact hy);have fS:=Sj.frozen y;have hbw:=hbx.below hbel (by simp);have anq:=gG.below hbel (by simp);obtain⟨b0,b1,b2,b3⟩:=hbw;have hkw:ay w wr:=(ah w _).tr (hbel.mono (by simp));by_cases hy0:y=0
  ·subst hy0;have e1:Hid (acc=gl):=hid (by rw[<-ahv.out];exact(Ee (.inl rfl)).symm);clear cS fS hbel hbx;go_wp2_with(fail)
   go_ret;exact⟨_,rfl,by rw[<-HG.out,<-e1.out];exact hown.mono (by omega),hkw⟩
  ·have t0:((y:Int) != 0)=true:=by simp;omega
   by_cases hyb:bs.getD y false=true
   ·have e1:Hid (acc=gl):=hid (by rw[<-ahv.out];exact(Ee (.inr ((hs.2.1 y hy).1 hyb))).symm);rw[hyb] at cS;clear fS hbel hbx hyb;go_wp2_with(fail)
    go_ret;exact⟨_,rfl,by rw[<-HG.out,<-e1.out];exact hown.mono (by omega),hkw⟩
   ·have agF:bs.getD y false=false:=by simpa using hyb
    have hnm:Hid ((y:Int) ∉ acc):=hid (fun h=>hyb ((hs.2.1 y hy).2 h));have hs':=Qs hs hy agF;have hsl:=aaT hs hy agF;rw[agF] at cS;clear hyb agF;have hown1:=hown.setB Sj y (.bool true);have ZX:=Sj.set y true;have ahw:=Below.setCell hbel (p:=⟨w.heap.size+1+1,y,none⟩) (by simp) (.bool true);clear hown Sj hbel;have hlen:acc.length+1<=1000000:=by omega
    have hB:w.heap.size+1<=wr.heap.size:=by have:=ZX.lt;simp at this;omega
    have hHf:=Hf;go_wp2_with(first|(at_builtin;(refine bG rfl (.tmp 32) (.tmp 34) rfl (w.heap.size+1) _ acc rfl (hown1.kept (ah _ _)) ⟨wr.heap.size,0,none⟩ y rfl (aU (by simp)) hlen (by simp;omega) ?_);intro v' w3 hown3 aeG;have ajf:=(ZX.kept (ah _ (.cells #[.int .i64 y] 3))).append (hown1.kept (ah _ _)) aeG;have abx:=nM (ahw.alloc (by simp;omega) (.cells #[.int .i64 y] 3)) (by simp;omega) (hown1.kept (ah _ _)) (zy _) aeG;have adv:=hbx.below abx (by simp);have d0:=adv.h0;have d1:=adv.h1;have d2:=adv.h2)|(go_at_call 90;refine(nZ p m vm mod y x _ (gG.below (by assumption) (by simp)) hp hp2 hm hm2 (by rw[HQ.out];exact hq2) hml hmd (by omega) (by omega) (by omega) (by omega)).mono ?_;rintro e w4 ⟨rfl,hk4⟩;rw[hHf.out]))
    have hfb:=JO (p:=p) (by omega) m mod y x;rw[hHf.out,HQ.out] at hfb;obtain⟨yn,hyn⟩:=zY hfb.1;have hb4:=abx.trans (hk4.mono (by have:=abx.size;have:=ajf.lt;omega));have hgo:=ahv.out;rw[WG (by omega) hnm.out (by omega)] at hgo;have ho4:=hown3.kept hk4;have hn4:=ajf.kept hk4;have hl1:=hown1.lenOf;have hl4:=ho4.lenOf;go_roundw;case rel=>exact⟨acc++ [(y:Int)],yn,bs.set y true,n-1,iC hyn,by omega,ho4,hn4,hs',hid (by rw[<-hyn];exact hgo),by simp;omega,hb4⟩
    case measure=>
     simp only[zX,List.length_singleton] at hl4;show qn-lenOf _<qn-lenOf _;rw[hl4,hl1];omega
theorem jB (p:Int) (m:Nat) (vm:Value) (mod:List Int) (q:Nat) (w:World) (hvm:Sl w vm mod) (hp:2<=p) (hp2:p<=256) (hm:1<=m) (hm2:m<=8) (hq:p^m=(q:Int)) (hq2:q<=256)
  (hml:1<m->mod.length=m) (hmd:fF p mod):
  Calls Tryz.prog 45 #[.agg #[.int .i64 p,.int .i64 m,vm],.int .i64 q] w fun e w'=>ay w w'/\
   ((∃ g v,1<=g/\g< (q:Int)/\kG p m mod q g/\e=.returned v/\Own w' w.heap.size v (pU p m mod g))∨
    ((∀ x,1<=x->x< (q:Int)->¬ kG p m mod q x)/\e=.returned (.slice none 0 0))):=by
 have hq3:2<=q:=by
  have h2:p^1<=p^m:=ni (by omega) hm;rw[sQ] at h2;omega
 have HQ:=hid hq;clear hq;have hbx:=aS w p m vm 24;have gG:Sl (w.alloc (.cells #[.int .i64 p,.int .i64 m,vm] 24)) vm mod:=hvm.kept (ah _ _);have hk0:=ah w (.cells #[.int .i64 p,.int .i64 m,vm] 24);go_enter Tryz.func45,Tryz.ntmps45;go_wp2_with(fail)
 obtain⟨w0,hw0⟩:∃ w0,w0=w.alloc (.cells #[.int .i64 p,.int .i64 m,vm] 24):=⟨_,rfl⟩
 rw[<-hw0] at hbx gG hk0 ⊢;clear hw0
 go_loopw [5] (fun vx wr=>∃ x:Int,1<=x/\x<=q/\vx=.int .i64 x/\Hid (∀ y,1<=y->y<x->¬ kG p m mod q y)/\ay w0 wr) (fun vx _=>((q:Int)-intOf vx).toNat)
 case atStart=>exact⟨1,by omega,by omega,rfl,hid (fun y h1 h2=>by omega),ay.rfl' _⟩
 case round=>
  obtain⟨x,hx1,hx2,rfl,hno,hkr⟩:=hrel;have hb:=hbx.kept hkr;have hv:=gG.kept hkr;obtain⟨b0,b1,b2,b3⟩:=hb;by_cases hlt:x<q
  ·go_wp2_with(go_at_call 89;refine(OI p m vm mod q x _ hv hp hp2 hm hm2 HQ.out (by omega) hml hmd hx1 hlt).mono ?_;rintro e w1 ⟨v,rfl,ho,hk1⟩)
   rcases ho.form with⟨_,hnil⟩|⟨g,cap,rfl,hg1,hg2,hg3,hg4⟩
   ·exact absurd hnil (E5 _ _ _ _)
   obtain⟨ls,hls⟩:∃ l,l=pU p m mod x:=⟨_,rfl⟩
   rw[<-hls] at ho hg3 ⊢;have hlb:∀ z∈ls,0<=z/\z< (q:Int):=by rw[hls,<-HQ.out];exact xA hp hm mod (by omega) (by rw[HQ.out];exact hlt)
   have hne:ls≠ []:=by rw[hls];exact E5 _ _ _ _
   have hgen:Hid (kG p m mod q x↔ls.length=q-1/\mulS p m mod (ls.getD (q-2) 0) x=1):=hid (by unfold kG;rw[hls]);have HL:=hid hls;clear hls;have hb1:=(hbx.kept hkr).kept hk1;have hv1:=hv.kept hk1;have e1:=hb1.h0;have e2:=hb1.h1;have e3:=hb1.h2;have hkk:=hkr.tr hk1;clear b0 b1 b2 b3 hk1 hv;have hlen:Hid (ls.length≠0):=hid (fun h=>hne (zO h));clear hne;by_cases hl:ls.length=q-1
   ·have t1:((ls.length:Int)==(q:Int)-1)=true:=by simp;omega
    have anr:2<=(q:Int):=by omega
    have hi0:(0:Int)<=(q:Int)-2:=by omega
    have hi1:(q:Int)-2< (ls.length:Int):=by omega
    have cP:=ho.cell (i:=q-2) (by omega);have hzb:0<=ls.getD (q-2) 0/\ls.getD (q-2) 0< (q:Int):=hlb _ (by simp only[List.getD,zq (show q-2<ls.length by omega),zU];exact zF _);obtain⟨z,hz⟩:∃ z,z=ls.getD (q-2) 0:=⟨_,rfl⟩
    rw[<-hz] at cP hzb hgen;clear hz hlb;have HLq:=hid hl;clear hl;have hgz:Hid (kG p m mod q x↔mulS p m mod z x=1):=hid (hgen.out.trans ⟨fun h=>h.2,fun h=>⟨HLq.out,h⟩⟩);clear hgen;by_cases h1:mulS p m mod z x=1
    ·have hyes:kG p m mod q x:=hgz.out.2 h1;have H1:=hid h1;have HY:=hid hyes;clear h1 hyes;go_wp2_with(fail)
     have hw1:IntKind.i64.wrap ((q:Int)-1)=(q:Int)-1:=IntWalk.i64_in _ (by omega);have hw2:IntKind.i64.wrap ((q:Int)-2)=(q:Int)-2:=IntWalk.i64_in _ (by clear hw1;omega);have OJ:((q:Int)-2).toNat=q-2:=by clear hw1 hw2;omega
     go_region_held3 (fun w'=>w'.cell? ⟨w.heap.size,0,none⟩=some (.int .i64 p)/\w'.cell? ⟨w.heap.size,1,none⟩=some (.int .i64 m)/\w'.cell? ⟨w.heap.size,2,none⟩=some vm/\w'.cell? ⟨g,q-2,none⟩=some (.int .i64 z)) ((simp[go_sem, *];done))
      ((go_at_call 90;(with_reducible refine(nZ p m vm mod z x _ (hv1.kept (aC _)) hp hp2 hm hm2 (by clear hw1 hw2 OJ;rw[HQ.out];omega) hml hmd (by clear hw1 hw2 OJ;omega) (by clear hw1 hw2 OJ;omega) (by clear hw1 hw2 OJ;omega) (by clear hw1 hw2 OJ;omega)).mono ?_);rintro e w2 ⟨rfl,hk2⟩;rw[H1.out];have bx2:=hb1.drew.kept hk2;have a0:=bx2.h0;have a1:=bx2.h1;have a2:=bx2.h2;have a3:=(hk2.cell' (b:=g) (o:=q-2) hg2).trans cP;have ho2:=ho.drew.kept hk2))
     clear hw1 hw2 OJ;go_wp2_with(fail)
     go_ret;exact⟨hk0.tr (hkk.tr ((aC _).tr hk2)),.inl ⟨x,_,hx1,hlt,HY.out,rfl,by rw[<-HL.out];exact ho2.mono (by have:=hk0.size;have:=hkr.size;omega)⟩⟩
    ·have tz:(mulS p m mod z x==1)=false:=by simpa using h1
     obtain⟨u,hu⟩:∃ u,u=mulS p m mod z x:=⟨_,rfl⟩
     rw[<-hu] at tz;have HU:=hid hu.symm;have hN:Hid (¬kG p m mod q x):=hid (fun h=>h1 (hgz.out.1 h));clear h1 hu;go_wp2_with(fail)
     have hw1:IntKind.i64.wrap ((q:Int)-1)=(q:Int)-1:=IntWalk.i64_in _ (by omega);have hw2:IntKind.i64.wrap ((q:Int)-2)=(q:Int)-2:=IntWalk.i64_in _ (by clear hw1;omega);have OJ:((q:Int)-2).toNat=q-2:=by clear hw1 hw2;omega
     go_region_held3 (fun w'=>w'.cell? ⟨w.heap.size,0,none⟩=some (.int .i64 p)/\w'.cell? ⟨w.heap.size,1,none⟩=some (.int .i64 m)/\w'.cell? ⟨w.heap.size,2,none⟩=some vm/\w'.cell? ⟨g,q-2,none⟩=some (.int .i64 z)) ((simp[go_sem, *];done))
      ((go_at_call 90;(with_reducible refine(nZ p m vm mod z x _ (hv1.kept (aC _)) hp hp2 hm hm2 (by clear hw1 hw2 OJ;rw[HQ.out];omega) hml hmd (by clear hw1 hw2 OJ;omega) (by clear hw1 hw2 OJ;omega) (by clear hw1 hw2 OJ;omega) (by clear hw1 hw2 OJ;omega)).mono ?_);rintro e w2 ⟨rfl,hk2⟩;rw[HU.out];have bx2:=hb1.drew.kept hk2;have a0:=bx2.h0;have a1:=bx2.h1;have a2:=bx2.h2;have a3:=(hk2.cell' (b:=g) (o:=q-2) hg2).trans cP))
     clear hw1 hw2 OJ;go_wp2_with(fail)
     go_roundw;case rel=>exact⟨x+1,by omega,by omega,rfl,hid (fun y g1 g2=>by
      by_cases e:y=x
      ·rw[e];exact hN.out
      ·exact hno.out y g1 (by omega)),hkk.tr ((aC _).tr hk2)⟩
     case measure=>simp[intOf];omega
   ·have t1:((ls.length:Int)==(q:Int)-1)=false:=by simp;omega
    have hN:Hid (¬kG p m mod q x):=hid (fun h=>hl (hgen.out.1 h).1);go_wp2_with(fail)
    have hw1:IntKind.i64.wrap ((q:Int)-1)=(q:Int)-1:=IntWalk.i64_in _ (by omega);go_quiet(fail);clear hw1;go_wp2_with(fail)
    go_roundw;case rel=>exact⟨x+1,by omega,by omega,rfl,hid (fun y g1 g2=>by
     by_cases e:y=x
     ·rw[e];exact hN.out
     ·exact hno.out y g1 (by omega)),hkk.drewN _⟩
    case measure=>simp[intOf];omega
  ·have e:x=q:=by omega
   subst e;go_wp2_with(fail)
   go_ret;exact⟨hk0.tr hkr,.inr ⟨hno.out,rfl⟩⟩
theorem kR (P M:Int) (vm:Value) (mod:List Int) (w:World) (hvm:Sl w vm mod) (r:Bool) (hr:r=true↔jq P M mod):
  Calls Tryz.prog 44 #[.agg #[.int .i64 P,.int .i64 M,vm]] w fun e w'=>e=.returned (.bool r)/\ay w w':=by
 have HR:=hid hr;clear hr;have hk0:=ah w (.cells #[.int .i64 P,.int .i64 M,vm] 24);obtain⟨a,cap,rfl,hcap,hcap2,hc⟩:=hvm;by_cases ho:dw P M=0
 ·have hrf:r=false:=by
   cases r
   ·rfl
   ·exact absurd ho (HR.out.1 rfl).1
  subst hrf;have Ho:=hid ho;clear ho;go_enter Tryz.func44,Tryz.ntmps44;go_wp2_with(go_at_call 46;refine(dP P M _).mono ?_;rintro e w1 ⟨rfl,n1,rfl⟩;rw[Ho.out])
  go_ret;exact⟨rfl,hk0.drewN _⟩
 obtain⟨o1,o2,o3,o4,o5,o6⟩:=fK ho;have t0:(dw P M==0)=false:=by simpa using ho
 have HO5:=hid o5;have HO6:=hid o6;clear o5 o6;by_cases hpr:Prm P;case neg=>
  have hrf:r=false:=by
   cases r
   ·rfl
   ·exact absurd (HR.out.1 rfl).2.1 hpr
  subst hrf;have Hpr:=hid hpr;clear hpr;go_enter Tryz.func44,Tryz.ntmps44;go_wp2_with(first|(go_at_call 46;refine(dP P M _).mono ?_;rintro e w1 ⟨rfl,n1,rfl⟩)|(go_at_call 88;refine(OG P _ Hpr.out o2).mono ?_;rintro e w1 ⟨rfl,n2,rfl⟩))
  go_ret;exact⟨rfl,hk0.drewN _⟩
 have Hpr:=hid hpr;clear hpr;by_cases hM1:M=1
 ·subst hM1;have hrm:r=decide (mod.length=0):=by
   rw[Bool.eq_iff_iff,HR.out];simp only[decide_eq_true_eq];exact⟨fun h=>by rw[h.2.2.1 rfl];rfl,fun h=>⟨ho,Hpr.out,fun _=>zO h,fun h=>absurd rfl h⟩⟩
  have HRM:=hid hrm;clear hrm;go_enter Tryz.func44,Tryz.ntmps44;go_wp2_with(first|(go_at_call 46;refine(dP P 1 _).mono ?_;rintro e w1 ⟨rfl,n1,rfl⟩)|(go_at_call 88;refine(qm P _ Hpr.out o2).mono ?_;rintro e w1 ⟨rfl,n2,rfl⟩))
  go_ret;exact⟨EX (by rw[HRM.out,Bool.eq_iff_iff];simp),hk0.drewN _⟩
 have tM:(M==1)=false:=by simpa using hM1
 by_cases hl:(mod.length:Int)=M;case neg=>
  have hrf:r=false:=by
   cases r
   ·rfl
   ·exact absurd ((HR.out.1 rfl).2.2.2 hM1).1 hl
  subst hrf;have tl:((mod.length:Int) != M)=true:=by simpa using hl
  clear hl hM1;go_enter Tryz.func44,Tryz.ntmps44;go_wp2_with(first|(go_at_call 46;refine(dP P M _).mono ?_;rintro e w1 ⟨rfl,n1,rfl⟩)|(go_at_call 88;refine(qm P _ Hpr.out o2).mono ?_;rintro e w1 ⟨rfl,n2,rfl⟩))
  go_ret;exact⟨rfl,hk0.drewN _⟩
 have tl:((mod.length:Int) != M)=false:=by simpa using hl
 have hl8:mod.length<=8:=by omega
 have Hrd:Hid (r=true↔fF P mod):=hid ⟨fun h=>((HR.out.1 h).2.2.2 hM1).2,fun h=>HR.out.2 ⟨ho,Hpr.out,fun h=>absurd h hM1,fun _=>⟨hl,h⟩⟩⟩;clear hl hM1 HR;go_enter Tryz.func44,Tryz.ntmps44;go_wp2_with(first|(go_at_call 46;refine(dP P M _).mono ?_;rintro e w1 ⟨rfl,n1,rfl⟩)|(go_at_call 88;refine(qm P _ Hpr.out o2).mono ?_;rintro e w1 ⟨rfl,n2,rfl⟩))
 go_loop [33] (fun vi=>∃ k:Nat,k<=mod.length/\vi=.int .i64 k/\Hid (∀ i,i<k->0<=mod.getD i 0/\mod.getD i 0<P)) (fun vi=>mod.length- (intOf vi).toNat)
 case atStart=>exact⟨0,by omega,rfl,hid (fun i hi=>by omega)⟩
 case round=>
  obtain⟨k,hk,rfl,hd⟩:=hrel;by_cases hlt:k<mod.length
  ·obtain⟨b,off,rfl,hb,hcell⟩:=hc (by intro e;rw[e] at hlt;simp at hlt);have hck:=hcell k hlt;have hmem:mod.getD k 0∈mod:=by simp only[List.getD,zq hlt,zU];exact zF _
   obtain⟨z,hz⟩:∃ z,z=mod.getD k 0:=⟨_,rfl⟩
   rw[<-hz] at hck hmem;have HZ:=hid hz;clear hz hcell;have hbx:=aS w P M (.slice (some ⟨b,off,none⟩) mod.length cap) 24;have c0:=hbx.h0;have ant:=(hk0.cell' (b:=b) (o:=off+k) hb).trans hck;have hk0':=hk0;clear hk0 hck hbx;by_cases hz0:z<0
   ·have hrf:r=false:=by
     cases r
     ·rfl
     ·have:=(Hrd.out.1 rfl) z hmem;omega
    subst hrf;go_wp2_with(fail)
    go_ret;exact⟨rfl,hk0'.drewN _⟩
   ·by_cases hzP:P<=z
    ·have hrf:r=false:=by
      cases r
      ·rfl
      ·have:=(Hrd.out.1 rfl) z hmem;omega
     subst hrf;go_wp2_with(fail)
     go_ret;exact⟨rfl,hk0'.drewN _⟩
    ·go_wp2_with(fail)
     go_round;case rel=>exact⟨k+1,by omega,by go_num,hid (fun i hi=>by
      by_cases e:i=k
      ·rw[e,<-HZ.out];omega
      ·exact hd.out i (by omega))⟩
     case measure=>simp[intOf];omega
  ·have hrt:r=true:=Hrd.out.2 (fun y hy=>by
    obtain⟨i,hi,rfl⟩:=yR hy;have:=hd.out i (by omega);simpa only[List.getD,zq hi,zU] using this)
   subst hrt;go_wp2_with(fail)
   go_ret;exact⟨rfl,hk0.drewN _⟩
structure dW (w:World) (b:Nat) (G:GFd):Prop where
 lt:b<w.heap.size
 hP:w.cell? ⟨b,0,none⟩=some (.int .i64 G.P)
 hM:w.cell? ⟨b,1,none⟩=some (.int .i64 G.M)
 hmod:∃ vm,w.cell? ⟨b,2,none⟩=some vm/\Sl w vm G.mod
 hq:w.cell? ⟨b,3,none⟩=some (.int .i64 G.q)
 hexp:∃ be ce,w.cell? ⟨b,4,none⟩=some (.slice (some ⟨be,0,none⟩) G.exp.length ce)/\be<w.heap.size/\∀ i,i<G.exp.length->w.cell? ⟨be,i,none⟩=some (.int .i64 (G.exp.getD i 0))
 agG:∃ be ce,w.cell? ⟨b,5,none⟩=some (.slice (some ⟨be,0,none⟩) G.log.length ce)/\be<w.heap.size/\∀ i,i<G.log.length->w.cell? ⟨be,i,none⟩=some (.int .i64 (G.log.getD i 0))
theorem dW.kept {w w':World} {b:Nat} {G:GFd} (h:dW w b G) (k:ay w w'):dW w' b G:=by
 obtain⟨h1,h2,h3,⟨vm,h4,h5⟩,h6,⟨be,ce,h7,h8,h9⟩,⟨bl,cl,h10,h11,h12⟩⟩:=h;exact⟨k.lt h1,(k.cell' h1).trans h2,(k.cell' h1).trans h3,⟨vm,(k.cell' h1).trans h4,h5.kept k⟩,(k.cell' h1).trans h6,⟨be,ce,(k.cell' h1).trans h7,k.lt h8,fun i hi=>(k.cell' h8).trans (h9 i hi)⟩,
  ⟨bl,cl,(k.cell' h1).trans h10,k.lt h11,fun i hi=>(k.cell' h11).trans (h12 i hi)⟩⟩
theorem dW.drewN {w:World} {b:Nat} {G:GFd} (h:dW w b G) (n:Nat):dW (w.drewN n) b G:=h.kept (aB w n)
theorem dW.drew {w:World} {b:Nat} {G:GFd} (h:dW w b G):dW w.drew b G:=h.kept (aC w)
theorem Kt (P M:Int) (vm:Value) (mod:List Int) (w:World) (hvm:Sl w vm mod) (hs:¬ jq P M mod):
  Calls Tryz.prog 47 #[.agg #[.int .i64 P,.int .i64 M,vm]] w fun e w'=>e=.returned (.tuple #[.pointer none,.int .i64 1])/\ay w w':=by
 have hk0:=ah w (.cells #[.int .i64 P,.int .i64 M,vm] 24);have hv1:=hvm.kept hk0;have HF:Hid (false=true↔jq P M mod):=hid (by simp[hs]);clear hs;go_enter Tryz.func47,Tryz.ntmps47;go_wp2_with(go_at_call 44;refine(kR P M vm mod _ hv1 false HF.out).mono ?_;rintro e w1 ⟨rfl,hk1⟩)
 go_ret2;exact⟨rfl,hk0.tr hk1⟩
theorem Ku (P M:Int) (vm:Value) (mod:List Int) (w:World) (hvm:Sl w vm mod) (hs:jq P M mod) (hn:¬ fD P M mod):
  Calls Tryz.prog 47 #[.agg #[.int .i64 P,.int .i64 M,vm]] w fun e w'=>e=.returned (.tuple #[.pointer none,.int .i64 1])/\ay w w':=by
 have hk0:=ah w (.cells #[.int .i64 P,.int .i64 M,vm] 24);have hv1:=hvm.kept hk0;have hbx:=aS w P M vm 24;obtain⟨o1,o2,o3,o4,o5,o6⟩:=fK hs.1;obtain⟨m,rfl⟩:=zY (show 0<=M by omega);have hm:(m:Int).toNat=m:=by omega
 rw[hm] at o5 o6;have h1:1<=P^m:=uV (by omega);obtain⟨q,hq⟩:=zY (show 0<=P^m by omega);have HO:Hid (dw P m=q):=hid (by rw[o6,hq]);have Hq:=hid hq;have hq2:q<=256:=by omega
 have hml:1<m->mod.length=m:=fun h=>by have:=(hs.2.2.2 (by omega)).1;omega
 have hmd:fF P mod:=by
  by_cases e:m=1
  ·have:=hs.2.2.1 (by omega);subst this;intro x hx;cases hx
  ·exact(hs.2.2.2 (by omega)).2
 have HN:Hid (∀ x,1<=x->x< (q:Int)->¬ kG P m mod q x):=hid (fun x g1 g2 g3=>hn ⟨hs,x,g1,by rw[HO.out];exact g2,by rw[HO.out];simpa using g3⟩);have HS:=hid hs;clear hs hn hq h1 o5 o6 hm;go_enter Tryz.func47,Tryz.ntmps47;go_wp2_with(first|(go_at_call 44;refine(kR P m vm mod _ hv1 true ⟨fun _=>HS.out,fun _=>rfl⟩).mono ?_;rintro e w1 ⟨rfl,hk1⟩;have bx1:=hbx.kept hk1;have c0:=bx1.h0;have c1:=bx1.h1;have c2:=bx1.h2)|(go_at_call 46;refine(dP P m _).mono ?_;rintro e w2 ⟨rfl,n2,rfl⟩;rw[HO.out])|(go_at_call 45;refine(jB P m vm mod q _ ((hv1.kept hk1).kept (aB _ _)) o1 o2 (by omega) (by omega) Hq.out hq2 hml hmd).mono ?_;rintro e w3 ⟨hk3,(⟨g,v,g1,g2,g3,_⟩|⟨_,rfl⟩)⟩;(exact absurd g3 (HN.out g g1 g2))))
 go_ret2;exact⟨rfl,(hk0.tr (hk1.drewN _)).tr hk3⟩
end
end Go.Proofs.YtoilbeadokallaaGreatDoor
