/- Lemmas on the way to the row. Conditions: each lemma's own, stated with it. -/
import Derived.Test.YtoilbeadokallaaGreatDoorK03
import Derived.Test.YtoilbeadokallaaGreatDoorK05
import Derived.Test.YtoilbeadokallaaGreatDoorK07
import Derived.Test.YtoilbeadokallaaGreatDoorK08
import Derived.Test.YtoilbeadokallaaGreatDoorK09
import Derived.Deep.RegionHeld3
set_option maxHeartbeats 4000000
namespace Cw
open Rg Fd PS
def qB (q p:Int) (m:Nat) (mod:List Int):Prop:=
 Prm p/\1<=m/\m<=8/\p^m=q/\(m=1->mod=[])/\(m≠1->∃ v:Nat,(v:Int)<q/\mod=bY p v m/\QB p mod/\∀ u:Nat,u<v->¬ QB p (bY p u m))
theorem Tc {q d:Int} (h2:2<=d) (hz:q%d=0) (h:∀ c:Int,2<=c->c<d->q%c≠0):Prm d:=by
 refine⟨h2,fun c c1 c2 e=>h c c1 c2 ?_⟩;obtain⟨x,hx⟩:=Int.dvd_of_emod_eq_zero hz;obtain⟨y,hy⟩:=Int.dvd_of_emod_eq_zero e;rw[hx,hy,sV,Int.mul_emod_right]
theorem ae3 (R:PrS) (x:Int) (n:Nat):Zp.mk' R (x^n)=pw (Zp.mk' R x) n:=by
 induction n with
 |zero=>rw[rM];rfl
 |succ n ih=>rw[xY,<-Zp.kQ,ih,fH]
theorem qC {p p':Int} {m:Nat} (hp:Prm p) (hp':Prm p') (h:p'^m%p=0):p=p':=by
 have hz:Zp.mk' ⟨p,hp⟩ (p'^m)=0:=Zp.mk_eq.2 (by
  show p'^m%p=0%p;rw[h];simp)
 have hp2:=hp.1;have hp2':=hp'.1;have h0:p'%p=0:=by
  refine yu fun hn=>?_;refine Fj (a:=Zp.mk' ⟨p,hp⟩ p') (fun e=>hn ?_) m (by rw[<-ae3];exact hz);have:p'%p=0%p:=Zp.mk_eq.1 e;rw[this];simp
 rcases Int.lt_trichotomy p p' with g|g|g
 ·exact absurd h0 (hp'.2 p hp2 g)
 ·exact g
 ·rw[xw (by omega) g] at h0;omega
theorem Td {p:Int} (hp:2<=p) {i j:Nat} (h:i<j):p^i<p^j:=by
 have h1:=ni (p:=p) (by omega) (show i+1<=j by omega);have h0:0<p^i:=uV (by omega);rw[xY] at h1;have h2:p^i*2<=p^i*p:=zG hp (by omega);omega
theorem Tf {p:Int} (hp:2<=p) {i j:Nat} (h:p^i=p^j):i=j:=by
 rcases xX i j with g|g|g
 ·have:=Td hp g;omega
 ·exact g
 ·have:=Td hp g;omega
theorem Au {p:Int} {m:Nat} (hm:1<=m):p^m%p=0:=by
 obtain⟨k,rfl⟩:∃ k,m=k+1:=⟨m-1,by omega⟩
 rw[xY,Int.mul_emod_left]
theorem Xy {q p p':Int} {m m':Nat} {mod mod':List Int} (h:qB q p m mod) (h':qB q p' m' mod'):p=p'/\m=m':=by
 obtain⟨a1,a2,a3,a4,_⟩:=h;obtain⟨b1,b2,b3,b4,_⟩:=h';have e:p=p':=qC (m:=m') a1 b1 (by rw[b4,<-a4];exact Au a2);subst e;exact⟨rfl,Tf a1.1 (by rw[a4,b4])⟩
theorem OU {q p p':Int} {m m':Nat} {mod mod':List Int} (h:qB q p m mod) (h':qB q p' m' mod'):p=p'/\m=m'/\mod=mod':=by
 obtain⟨rfl,rfl⟩:=Xy h h';refine⟨rfl,rfl, ?_⟩;obtain⟨_,_,_,_,a5,a6⟩:=h;obtain⟨_,_,_,_,b5,b6⟩:=h';by_cases e:m=1
 ·rw[a5 e,b5 e]
 ·obtain⟨v,v1,v2,v3,v4⟩:=a6 e;obtain⟨u,u1,u2,u3,u4⟩:=b6 e;rw[v2] at v3;rw[u2] at u3;have:v=u:=by
   rcases xX v u with g|g|g
   ·exact absurd v3 (u4 v g)
   ·exact g
   ·exact absurd u3 (v4 u g)
  rw[v2,u2,this]
theorem Ti {q d p:Int} {m:Nat} {mod:List Int} (hd:Prm d) (hz:q%d=0) (h:qB q p m mod):d=p:=by
 obtain⟨a1,a2,a3,a4,_⟩:=h;exact qC (m:=m) hd a1 (by rw[a4];exact hz)
theorem Xz {p:Int} {m:Nat} (h2:2<=p) (h1:1<=m) (h8:m<=8) (hq:p^m<=256):dw p m=p^m:=by
 have hp:p^1<=p^m:=ni (by omega) h1;rw[sQ] at hp;have e:(m:Int).toNat=m:=by omega
 rw[EZ h2 (by omega) (by omega) (by omega) (by rw[e];exact hq),e]
theorem XA {q p:Int} {m:Nat} {mod:List Int} (h:qB q p m mod) (hq:q<=256):dw p m=q:=by
 obtain⟨a1,a2,a3,a4,_⟩:=h;rw[Xz a1.1 a2 a3 (by omega),a4]
theorem Tj {p q:Int} {m:Nat} (h:dw p m=q) (hq:q≠0):p^m=q/\2<=p/\p<=256/\1<=m/\m<=8:=by
 obtain⟨o1,o2,o3,o4,o5,o6⟩:=fK (p:=p) (m:=m) (by rw[h];exact hq);have e:(m:Int).toNat=m:=by omega
 rw[e] at o6;exact⟨by rw[<-o6,h],o1,o2,by omega,by omega⟩
theorem XB {q d:Int} {m:Nat} (hd:Prm d) (hz:q%d=0) (hq0:2<=q) (hq:q<=256) (hlo:∀ k:Nat,1<=k->k<m->dw d k<q) (hm:m=8∨q<=dw d m) (hne:dw d m≠q) (p:Int) (m':Nat) (mod:List Int):¬ qB q p m' mod:=fun h=>by
 have e:=Ti hd hz h;subst e;have ho:=XA h hq;obtain⟨a1,a2,a3,a4,_⟩:=h;rcases xX m' m with g|g|g
 ·have:=hlo m' a2 g;omega
 ·subst g;exact hne ho
 ·rcases hm with e8|e8
  ·omega
  ·have h0:dw d m≠0:=by omega
   obtain⟨b1,_⟩:=Tj (q:=dw d m) rfl h0;have:=Td a1.1 g;omega
theorem Tm {p:Int} {m:Nat} (hp:Prm p) (h1:1<m) (hq:dw p m≠0) (v:Nat):jq p m (bY p v m):=by
 refine⟨hq,hp,fun e=>by omega,fun _=>⟨by rw[aP],gJ (by have:=hp.1;omega) m⟩⟩
theorem Tn {p:Int} {m:Nat} (hp:Prm p) (h1:1<m) (hq:dw p m≠0) (v:Nat):fD p m (bY p v m)↔QB p (bY p v m):=by
 rw[jK];exact⟨fun h=>h.2 (by omega),fun h=>⟨Tm hp h1 hq v,fun _=>h⟩⟩
theorem IU {q p:Int} {m:Nat} (hp:Prm p) (hm1:m≠1) (h1:1<=m) (hpm:p^m=q) (hno:∀ u:Nat,(u:Int)<q->¬ QB p (bY p u m)) (p':Int) (m':Nat) (mod:List Int):¬ qB q p' m' mod:=fun h=>by
 have e:p=p':=qC (m:=m') hp h.1 (by rw[h.2.2.2.1,<-hpm];exact Au h1);subst e;have e2:m=m':=Tf hp.1 (by rw[hpm,h.2.2.2.1]);subst e2;obtain⟨v,v1,v2,v3,_⟩:=h.2.2.2.2.2 hm1;rw[v2] at v3;exact hno v v1 v3
end Cw
namespace Go.Proofs.YtoilbeadokallaaGreatDoor
section
open Go.RowKit Cw
def ae4 (q:Int) (yes no:Value) (w:World) (e:Ending) (w':World):Prop:=
 ((∃ (p:Int) (m:Nat) (mod:List Int) (v:Value),qB q p m mod/\e=.returned (.tuple #[.agg #[.int .i64 p,.int .i64 m,v],yes])/\Sl w' v mod)∨
  ((∀ (p:Int) (m:Nat) (mod:List Int),¬qB q p m mod)/\e=.returned (.tuple #[.agg #[.int .i64 0,.int .i64 0,.slice none 0 0],no])))/\ay w w'
theorem abL {W:World} {b:Nat} {v:Value} {l:List Int} {x y z:Value} {B:Nat} (h:Own W B v l) (hb:b<B):Sl (((W.setCell ⟨b,0,none⟩ x).setCell ⟨b,1,none⟩ y).setCell ⟨b,2,none⟩ z) v l:=by
 have hso:∀ (W:World) (i:Nat) (u:Value),Own W B v l->Own (W.setCell ⟨b,i,none⟩ u) B v l:=fun W i u h=>h.setOther ⟨b,i,none⟩ u (fun g n c e=>by
  subst e;have:=h.lt.1;show g≠b;omega)
 exact(hso _ _ _ (hso _ _ _ (hso _ _ _ h))).sl
theorem rC {w W:World} {b:Nat} {x y z:Value} (h:ay w W) (hb:w.heap.size<=b):ay w (((W.setCell ⟨b,0,none⟩ x).setCell ⟨b,1,none⟩ y).setCell ⟨b,2,none⟩ z):=by
 have hks:∀ (W:World) (i:Nat) (u:Value),ay w W->ay w (W.setCell ⟨b,i,none⟩ u):=fun W i u h=>Below.setCell h (p:=⟨b,i,none⟩) hb u;exact hks _ _ _ (hks _ _ _ (hks _ _ _ h))
theorem abM (w:World):Sl w (.slice none 0 0) []:=⟨none,0,rfl,zy _,⟨xZ _,fun _=>rfl⟩,fun h=>absurd rfl h⟩
theorem KN (q:Nat) (w:World) (h2:2<=q) (h256:q<=256):
  Calls Tryz.prog 142 #[.int .i64 q] w (ae4 q (.int .i64 0) (.int .i64 6) w):=by
 obtain⟨w1,hw1⟩:∃ w1,w1=w.alloc (.cells #[.int .i64 0,.int .i64 0,.slice none 0 0] 24):=⟨_,rfl⟩
 have hk1:ay w w1:=by rw[hw1];exact ah _ _
 have hlt1:w.heap.size<w1.heap.size:=by rw[hw1];simp
 have r0:w1.cell? ⟨w.heap.size,0,none⟩=some (.int .i64 0):=by rw[hw1];simp
 have r1:w1.cell? ⟨w.heap.size,1,none⟩=some (.int .i64 0):=by rw[hw1];simp
 have r2:w1.cell? ⟨w.heap.size,2,none⟩=some (.slice none 0 0):=by rw[hw1];simp
 have f0:w1.frozen? ⟨w.heap.size,0,none⟩=false:=by rw[hw1];simp
 have f1:w1.frozen? ⟨w.heap.size,1,none⟩=false:=by rw[hw1];simp
 have f2:w1.frozen? ⟨w.heap.size,2,none⟩=false:=by rw[hw1];simp
 go_enter Tryz.func142,Tryz.ntmps142;go_wp2_with(fail)
 rw[<-hw1];clear hw1
 go_loop [4] (fun vd=>∃ d:Int,2<=d/\d<=q/\vd=.int .i64 d/\Hid (∀ c:Int,2<=c->c<d->(q:Int)%c≠0)) (fun vd=>q- (intOf vd).toNat)
 case atStart=>exact⟨2,by omega,by omega,rfl,hid (fun c h3 h4=>by omega)⟩
 case round=>
  obtain⟨d,d2,dq,rfl,hc⟩:=hrel;have h11:=zK (q:Int) (show d≠0 by omega);have h12:=zQ (q:Int) (show 0<d by omega);by_cases hz:(q:Int)%d=0;case neg=>
   have t0:((q:Int)%d != 0)=true:=by simpa using hz
   have hdq:d<q:=by
    rcases sG d q with g|g
    ·exact g
    ·have:d=q:=by omega
     rw[this] at hz;simp at hz
   have hc':Hid (∀ c:Int,2<=c->c<d+1->(q:Int)%c≠0):=hid (fun c g1 g2=>by
    by_cases e:c=d
    ·rw[e];exact hz
    ·exact hc.out c g1 (by omega))
   clear hz;go_wp2_with(fail)
   go_round;case rel=>exact⟨d+1,by omega,by omega,rfl,hc'⟩
   case measure=>simp[intOf];omega
  have t0:((q:Int)%d != 0)=false:=by simpa using hz
  have HPR:Hid (Prm d):=hid (Tc d2 hz hc.out);have HZ:=hid hz;clear hz hc;go_wp2_with(fail)
  go_loopw [5] (fun vm wr=>∃ k:Nat,1<=k/\k<=8/\vm=.int .i64 k/\Hid (∀ j:Nat,1<=j->j<k->dw d j<q)/\∃ n,wr=w1.drewN n) (fun vm _=>8- (intOf vm).toNat)
  case atStart=>exact⟨1,by omega,by omega,rfl,hid (fun j h3 h4=>by omega),0,rfl⟩
  case round=>
   obtain⟨k,k1,k8,rfl,hlo,n,rfl⟩:=hrel;obtain⟨o,ho⟩:∃ o,o=dw d k:=⟨_,rfl⟩
   have HO:Hid (dw d k=o):=hid ho.symm;clear ho;by_cases hgo:o<q/\k<8
   ·obtain⟨g1,g2⟩:=hgo;have ak1:Hid (∀ j:Nat,1<=j->j<k+1->dw d j<q):=hid (fun j j1 j2=>by
     by_cases e:j=k
     ·rw[e,HO.out];exact g1
     ·exact hlo.out j j1 (by omega))
    have g2':(k:Int)<8:=by omega
    go_wp2_with(go_at_call 46;(with_reducible refine(dP d k _).mono ?_);rintro e w2 ⟨rfl,n2,rfl⟩;rw[HO.out])
    go_roundw;case rel=>exact⟨k+1,by omega,by omega,by go_num,ak1,by exact⟨_,rfl⟩⟩
    case measure=>simp[intOf];omega
   have HEX:Hid (k=8∨(q:Int)<=dw d k):=hid (by rw[HO.out];omega);by_cases hoq:o=q;case neg=>
    have tq:(o != (q:Int))=true:=by simpa using hoq
    have HN:Hid (∀ (p:Int) (m:Nat) (mod:List Int),¬qB q p m mod):=hid (XB HPR.out HZ.out (by omega) (by omega) hlo.out HEX.out (by rw[HO.out];exact hoq));clear hoq;have hkf:=fun n x y z=>rC (b:=w.heap.size) (x:=x) (y:=y) (z:=z) (hk1.drewN n) (zy _);have HKF:=hid hkf;clear hkf;by_cases hlt:o<q
    ·have k88:(8:Int)<=(k:Int):=by omega
     clear hgo;go_wp2_with(go_at_call 46;(with_reducible refine(dP d k _).mono ?_);rintro e w2 ⟨rfl,n2,rfl⟩;rw[HO.out])
     refine bodyPost_ret (v:=.tuple #[.agg #[.int .i64 0,.int .i64 0,.slice none 0 0],.int .i64 6]) ?_ rfl ⟨.inr ⟨HN.out,rfl⟩,HKF.out _ _ _ _⟩;simp[results,Tryz.results142,go_sem,r0,r1,r2]
    ·have hle:(q:Int)<=o:=by omega
     clear hgo hlt;go_wp2_with(go_at_call 46;(with_reducible refine(dP d k _).mono ?_);rintro e w2 ⟨rfl,n2,rfl⟩;rw[HO.out])
     refine bodyPost_ret (v:=.tuple #[.agg #[.int .i64 0,.int .i64 0,.slice none 0 0],.int .i64 6]) ?_ rfl ⟨.inr ⟨HN.out,rfl⟩,HKF.out _ _ _ _⟩;simp[results,Tryz.results142,go_sem,r0,r1,r2]
   subst hoq;have HPM:Hid (d^k=(q:Int)):=hid (Tj HO.out (by omega)).1;have ajr:d<=256:=by omega
   clear hgo HEX hlo;have tq:(((q:Nat):Int) != (q:Int))=false:=by simp
   by_cases hk:k=1
   ·subst hk;have HS:Hid (qB q d 1 []):=hid ⟨HPR.out,by omega,by omega,HPM.out,fun _=>rfl,fun h=>absurd rfl h⟩;have hkf:=fun n x y z=>rC (b:=w.heap.size) (x:=x) (y:=y) (z:=z) (hk1.drewN n) (zy _);have HKF:=hid hkf;clear hkf;go_wp2_with(go_at_call 46;(with_reducible refine(dP d 1 _).mono ?_);rintro e w2 ⟨rfl,n2,rfl⟩;rw[show dw d 1=(q:Int) from HO.out])
    refine bodyPost_ret (v:=.tuple #[.agg #[.int .i64 d,.int .i64 1,.slice none 0 0],.int .i64 0]) ?_ rfl ⟨.inl ⟨d,1,[],_,HS.out,rfl,abM _⟩,HKF.out _ _ _ _⟩;simp[results,Tryz.results142,go_sem,r0,r1,r2]
   have tk:((k:Int)==1)=false:=by simp;omega
   have HK1:=hid hk;clear hk;go_wp2_with(go_at_call 46;(with_reducible refine(dP d k _).mono ?_);rintro e w2 ⟨rfl,n2,rfl⟩;rw[HO.out])
   go_loopw [43] (fun vv wr=>∃ v:Nat,v<=q/\vv=.int .i64 v/\Hid (∀ u:Nat,u<v->¬ QB d (bY d u k))/\ay w1 wr) (fun vv _=>q- (intOf vv).toNat)
   case atStart=>exact⟨0,by omega,rfl,hid (fun u hu=>by omega),aB _ _⟩
   case round=>
    obtain⟨v,hv,rfl,hno,hkw⟩:=hrel;have hb:w.heap.size<wr.heap.size:=zZ hlt1 hkw.size;by_cases hvq:v<q
    ·have hk2:1<k:=by have:=HK1.out;omega
     have HFD:=hid (Tn HPR.out hk2 (by rw[HO.out];omega) v);by_cases hir:QB d (bY d v k)
     ·have HS:Hid (qB q d k (bY d v k)):=hid ⟨HPR.out,k1,k8,HPM.out,fun e=>absurd e HK1.out,fun _=>⟨v,by omega,rfl,hir,hno.out⟩⟩;have HF:Hid (fD d k (bY d v k)):=hid (HFD.out.2 hir);clear hir;go_wp2_with(first|(go_at_call 150;(with_reducible refine(iZ (v:Int) d k _ (by omega) (by omega) (by omega) ajr (by omega)).mono ?_);rintro e w3 ⟨rfl,o3,k3⟩;have hs3:=o3.sl.kept (ah _ (.cells #[.int .i64 d,.int .i64 k,.slice (some ⟨wr.heap.size,0,none⟩) k k] 24));have bx3:=aS w3 d k (.slice (some ⟨wr.heap.size,0,none⟩) k k) 24;have g0:=bx3.h0;have g1:=bx3.h1;have g2:=bx3.h2)|(go_at_call 18;(with_reducible refine(check_any d k _ (bY d v k) _ hs3 0 (.inl ⟨HF.out,rfl⟩)).mono ?_);rintro e w4 ⟨rfl,k4⟩;have kk:=(hkw.tr k3).tr ((ah w3 (.cells #[.int .i64 d,.int .i64 k,.slice (some ⟨wr.heap.size,0,none⟩) k k] 24)).tr k4);have bx4:=bx3.kept k4;have g3:=bx4.h0;have g4:=bx4.h1;have g5:=bx4.h2;have p0:=(ay.cell' kk hlt1).trans r0;have p1:=(ay.cell' kk hlt1).trans r1;have p2:=(ay.cell' kk hlt1).trans r2;have e0:=(ay.frozen' kk hlt1).trans f0;have e1:=(ay.frozen' kk hlt1).trans f1;have e2:=(ay.frozen' kk hlt1).trans f2;have o4:=(o3.kept (ah _ _)).kept k4))
      have hfs:=abL (x:=.int .i64 d) (y:=.int .i64 k) (z:=.slice (some ⟨wr.heap.size,0,none⟩) k k) o4 hb;have hfk:=rC (x:=.int .i64 d) (y:=.int .i64 k) (z:=.slice (some ⟨wr.heap.size,0,none⟩) k k) (hk1.tr kk) (zy w.heap.size);refine bodyPost_ret (v:=.tuple #[.agg #[.int .i64 d,.int .i64 k,.slice (some ⟨wr.heap.size,0,none⟩) k k],.int .i64 0]) ?_ rfl ⟨.inl ⟨d,k,bY d v k,_,HS.out,rfl,hfs⟩,hfk⟩;simp[results,Tryz.results142,go_sem,p0,p1,p2]
     ·have HF:Hid (¬fD d k (bY d v k)):=hid (fun h=>hir (HFD.out.1 h));have hno':Hid (∀ u:Nat,u<v+1->¬ QB d (bY d u k)):=hid (fun u hu=>by
       by_cases e:u=v
       ·rw[e];exact hir
       ·exact hno.out u (by omega))
      clear hir;go_wp2_with(first|(go_at_call 150;(with_reducible refine(iZ (v:Int) d k _ (by omega) (by omega) (by omega) ajr (by omega)).mono ?_);rintro e w3 ⟨rfl,o3,k3⟩;have hs3:=o3.sl.kept (ah _ (.cells #[.int .i64 d,.int .i64 k,.slice (some ⟨wr.heap.size,0,none⟩) k k] 24));have bx3:=aS w3 d k (.slice (some ⟨wr.heap.size,0,none⟩) k k) 24;have g0:=bx3.h0;have g1:=bx3.h1;have g2:=bx3.h2)|(go_at_call 18;(with_reducible refine(check_any d k _ (bY d v k) _ hs3 1 (.inr ⟨HF.out,rfl⟩)).mono ?_);rintro e w4 ⟨rfl,k4⟩;have kk:=(hkw.tr k3).tr ((ah w3 (.cells #[.int .i64 d,.int .i64 k,.slice (some ⟨wr.heap.size,0,none⟩) k k] 24)).tr k4);have bx4:=bx3.kept k4;have g3:=bx4.h0;have g4:=bx4.h1;have g5:=bx4.h2;have p0:=(ay.cell' kk hlt1).trans r0;have p1:=(ay.cell' kk hlt1).trans r1;have p2:=(ay.cell' kk hlt1).trans r2;have e0:=(ay.frozen' kk hlt1).trans f0;have e1:=(ay.frozen' kk hlt1).trans f1;have e2:=(ay.frozen' kk hlt1).trans f2;have o4:=(o3.kept (ah _ _)).kept k4))
      go_roundw;case rel=>exact⟨v+1,by omega,by go_num,hno',kk⟩
      case measure=>simp[intOf];omega
    ·have HN:Hid (∀ (p:Int) (m:Nat) (mod:List Int),¬qB q p m mod):=hid (IU HPR.out HK1.out k1 HPM.out (fun u hu=>hno.out u (by omega)));have p0:=(ay.cell' hkw hlt1).trans r0;have p1:=(ay.cell' hkw hlt1).trans r1;have p2:=(ay.cell' hkw hlt1).trans r2;have e0:=(ay.frozen' hkw hlt1).trans f0;have e1:=(ay.frozen' hkw hlt1).trans f1;have e2:=(ay.frozen' hkw hlt1).trans f2;have hfk:=rC (x:=.int .i64 0) (y:=.int .i64 0) (z:=.slice none 0 0) (hk1.tr hkw) (zy w.heap.size);go_wp2_with(fail)
     refine bodyPost_ret (v:=.tuple #[.agg #[.int .i64 0,.int .i64 0,.slice none 0 0],.int .i64 6]) ?_ rfl ⟨.inr ⟨HN.out,rfl⟩,hfk⟩;simp[results,Tryz.results142,go_sem,p0,p1,p2]
theorem eF (P M:Int) (vm:Value) (w:World):
  Calls Tryz.prog 22 #[.agg #[.int .i64 P,.int .i64 M,vm]] w fun e w'=>e=.returned (.int .i64 (dw P M))/\ay w w':=by
 have hk0:=ah w (.cells #[.int .i64 P,.int .i64 M,vm] 24);by_cases h1:P<2
 ·have e:=hid (lI (p:=P) (m:=M) (by omega));go_enter Tryz.func22,Tryz.ntmps22
  go_wp2
  go_ret;exact⟨aW e.out.symm,hk0⟩
 by_cases h3:M<1
 ·have e:=hid (lI (p:=P) (m:=M) (by omega));go_enter Tryz.func22,Tryz.ntmps22
  go_wp2
  go_ret;exact⟨aW e.out.symm,hk0⟩
 by_cases h4:8<M
 ·have e:=hid (lI (p:=P) (m:=M) (by omega));go_enter Tryz.func22,Tryz.ntmps22
  go_wp2
  go_ret;exact⟨aW e.out.symm,hk0⟩
 go_enter Tryz.func22,Tryz.ntmps22
 go_wp2
 go_loop [3,4] (fun vq vi=>∃ (k:Nat) (Q:Int),(k:Int)<=M/\vi=.int .i64 k/\vq=.int .i64 Q/\Hid (Q=P^k)/\1<=Q/\Q<=256) (fun _ vi=>(M-intOf vi).toNat)
 case atStart=>exact⟨0,1,by omega,rfl,rfl,hid (by simp),by omega,by omega⟩
 case round=>
  obtain⟨k,Q,hk,rfl,rfl,hQ,b1,b2⟩:=hrel;have d0:=xI (show(0:Int)<=256 by omega) (show 0<=P by omega);have d1:256/P<=256:=wJ P (by omega);have hqt:=WL (p:=P) (Q:=Q) (by omega);by_cases hlt:(k:Int)<M
  ·by_cases hbig:256/P<Q
   ·have e:Hid (dw P M=0):=hid (lI fun g=>by
     have h5:=ni (p:=P) (by omega) (show k+1<=M.toNat by omega);rw[xY,<-hQ.out] at h5;have:=hqt.2 (by omega);omega)
    clear hqt
    go_wp2
    go_ret;exact⟨aW e.out.symm,hk0⟩
   ·have c1:Q*P<=256:=hqt.1 (by omega);have c2:0<=Q*P:=yN (by omega) (by omega);have c3:Q*1<=Q*P:=zG (by omega) (by omega);clear hqt
    go_wp2
    go_round;case rel=>exact⟨k+1,Q*P,by omega,by go_num,rfl,hid (by rw[xY,<-hQ.out]),by omega,by omega⟩
    case measure=>simp[intOf];omega
  ·have hkm:M.toNat=k:=by omega
   have hp2:P<=256:=by
    by_cases h0:k=0
    ·omega
    ·have h5:=ni (p:=P) (by omega) (show 1<=k by omega);rw[sQ,<-hQ.out] at h5;omega
   have e:Hid (dw P M=Q):=hid (by rw[EZ (by omega) hp2 (by omega) (by omega) (by rw[hkm,<-hQ.out];exact b2),hkm,hQ.out]);clear hkm hqt
   go_wp2
   go_ret;exact⟨aW e.out.symm,hk0⟩
theorem oz (n:Int) (w:World) (h1:2<=n) (h2:n<=256) (r:Bool) (hr:r=true↔Prm n):
  Calls Tryz.prog 109 #[.int .i64 n] w fun e w'=>e=.returned (.bool r)/\∃ m,w'=w.drewN m:=by
 have H:=hid hr;clear hr;go_enter Tryz.func109,Tryz.ntmps109
 go_wp2
 go_loop [3] (fun i=>∃ d:Int,2<=d/\d<=n/\i=.int .i64 d/\Hid (∀ c:Int,2<=c->c<d->n%c≠0)) (fun i=>(n-intOf i).toNat)
 case atStart=>exact⟨2,by omega,by omega,rfl,hid (fun c h3 h4=>by omega)⟩
 case round=>
  obtain⟨d,h3,h4,rfl,hc⟩:=hrel;by_cases hlt:d<n
  ·have h11:=zK n (show d≠0 by omega);have h12:=zQ n (show 0<d by omega);by_cases hz:n%d=0
   ·have hrf:r=false:=by
     cases r
     ·rfl
     ·exact absurd hz ((H.out.1 rfl).2 d h3 hlt)
    subst hrf;have h10:(n%d==0)=true:=by simpa using hz
    clear hz
    go_wp2
    go_ret;exact⟨rfl,0,rfl⟩
   ·have h10:(n%d==0)=false:=by simpa using hz
    have hc':Hid (∀ c:Int,2<=c->c<d+1->n%c≠0):=hid fun c g1 g2=>by
     by_cases e:c=d
     ·rw[e];exact hz
     ·exact hc.out c g1 (by omega)
    clear hz
    go_wp2
    go_round;case rel=>exact⟨d+1,by omega,by omega,rfl,hc'⟩
    case measure=>simp[intOf];omega
  ·have hrt:r=true:=H.out.2 ⟨h1,fun c g1 g2=>hc.out c g1 (by omega)⟩;subst hrt
   go_wp2
   go_ret;exact⟨rfl,0,rfl⟩
theorem qE (x p:Int) (m:Nat) (w:World) (hx:0<=x) (hx2:x<=9223372036854775807) (hp:1<=p) (hp2:p<=256) (hm:m<=8):
  Calls Tryz.prog 161 #[.int .i64 x,.int .i64 p,.int .i64 m] w fun e w'=>e=.returned (.slice (some ⟨w.heap.size,0,none⟩) m m)/\Own w' w.heap.size (.slice (some ⟨w.heap.size,0,none⟩) m m) (bY p x m)/\ay w w':=by
 go_enter Tryz.func161,Tryz.ntmps161;go_wp2_with(at_make;refine aJ rfl _ _ rfl m _ _ rfl rfl rfl rfl (by omega) ?_;intro w1 ho hk)
 go_loopw [0,8] (fun vx i wr=>∃ (k:Nat) (y:Int) (ys:List Int),k<=m/\i=.int .i64 k/\vx=.int .i64 y/\0<=y/\y<=x/\Hid (y=x/p^k)/\Hid (ys.length=m)/\Hid (∀ j,j<k->ys.getD j 0=dgt p x j)/\
   Own wr w.heap.size (.slice (some ⟨w.heap.size,0,none⟩) m m) ys/\ay w wr) (fun _ i _=>m- (intOf i).toNat)
 case atStart=>exact⟨0,x,_,by omega,rfl,rfl,hx,rY _,hid (by simp),hid (by simp),hid (fun j hj=>by omega),ho,hk⟩
 case round=>
  obtain⟨k,y,ys,hkm,rfl,rfl,hy,hyx,hyk,hl,hd,hown,hkept⟩:=hrel;clear ho hk;by_cases hlt:k<m
  ·have hcell:=hown.cell (i:=k) (by rw[hl.out];exact hlt);have hfz:=hown.frozen k;have hown':=hown.set k (y%p);have g1:=zK y (show p≠0 by omega);have g2:=zQ y (show 0<p by omega);have g3:=xI hy (show 0<=p by omega);have g4:=wJ p hy;have RZ:=Below.setCell hkept (p:=⟨w.heap.size,k,none⟩) (zy _) (.int .i64 (y%p));clear hown hkept
   go_wp2
   go_roundw;case rel=>exact⟨k+1,y/p,ys.set k (y%p),by omega,by go_num,rfl,g3,by omega,hid (by rw[hyk.out,Ae (by omega)]),hid (by simp[hl.out]),hid (fun j hj=>by
    by_cases e:j=k
    ·subst e;simp[List.getD,hl.out,hlt,dgt,hyk.out]
    ·have:=hd.out j (by omega);simpa[List.getD,zS (show k≠j by omega)] using this),hown',RZ⟩
   case measure=>simp[intOf];omega
  ·have e:Hid (bY p x m=ys):=hid (zM (by rw[aP,hl.out]) (fun j h1 h2=>by
    have:=hd.out j (by rw[hl.out] at h2;omega);simp only[List.getD,zq h2,zU] at this;rw[this];simp[bY]))
   go_wp2
   go_ret;exact⟨rfl,by rw[e.out];exact hown,hkept⟩
theorem FY (P M:Int) (vm:Value) (x:Int) (w:World) (r:Bool) (hr:r=true↔0<=x/\x<dw P M):
  Calls Tryz.prog 284 #[.agg #[.int .i64 P,.int .i64 M,vm],.int .i64 x] w fun e w'=>e=.returned (.bool r)/\ay w w':=by
 have hk0:=ah w (.cells #[.int .i64 P,.int .i64 M,vm] 24);have H:=hid hr;clear hr;by_cases h0:0<=x
 ·have hrd:Hid (r=decide (x<dw P M)):=hid (by rw[Bool.eq_iff_iff,H.out];simp[h0]);obtain⟨q,hq⟩:∃ q,q=dw P M:=⟨_,rfl⟩
  rw[<-hq] at hrd;have HQ:=hid hq.symm;clear hq;go_enter Tryz.func284,Tryz.ntmps284;go_wp2_with(go_at_call 22;refine(eF P M vm _).mono ?_;rintro e w1 ⟨rfl,hk1⟩;rw[HQ.out])
  go_ret;exact⟨EX hrd.out.symm,hk0.tr hk1⟩
 ·have hrf:r=false:=by
   cases r
   ·rfl
   ·exact absurd (H.out.1 rfl).1 h0
  subst hrf;go_enter Tryz.func284,Tryz.ntmps284;go_wp2_with(fail)
  go_ret;exact⟨EX (by simp),hk0⟩
theorem abN (P M:Int) (vm:Value) (x:Int) (w:World):
  Calls Tryz.prog 382 #[.agg #[.int .i64 P,.int .i64 M,vm],.int .i64 x] w fun e w'=>e=.returned (.int .i64 (inn (dw P M) x))/\ay w w':=by
 have hk0:=ah w (.cells #[.int .i64 P,.int .i64 M,vm] 24);by_cases h:0<=x/\x<dw P M
 ·rw[bI h];have H:Hid (true=true↔0<=x/\x<dw P M):=hid (by simp[h]);clear h;go_enter Tryz.func382,Tryz.ntmps382;go_wp2_with(go_at_call 284;refine(FY P M vm x _ true H.out).mono ?_;rintro e w1 ⟨rfl,hk1⟩)
  go_ret;exact⟨rfl,hk0.tr hk1⟩
 ·rw[Qw h];have H:Hid (false=true↔0<=x/\x<dw P M):=hid (by simp;omega);clear h;go_enter Tryz.func382,Tryz.ntmps382;go_wp2_with(go_at_call 284;refine(FY P M vm x _ false H.out).mono ?_;rintro e w1 ⟨rfl,hk1⟩)
  go_ret;exact⟨rfl,hk0.tr hk1⟩
theorem jM (P:Int) (m:Nat) (vm:Value) (x:Int) (w:World) (hp:2<=P) (hp2:P<=256) (hm:m<=8) (hq0:0<dw P m) (hq:dw P m<=256):
  Calls Tryz.prog 353 #[.agg #[.int .i64 P,.int .i64 m,vm],.int .i64 x] w fun e w'=>∃ g,e=.returned (.slice (some ⟨g,0,none⟩) m m)/\Own w' w.heap.size (.slice (some ⟨g,0,none⟩) m m) (bY P (inn (dw P m) x) m)/\ay w w':=by
 have hk0:=ah w (.cells #[.int .i64 P,.int .i64 m,vm] 24);have hbx:=aS w P m vm 24;have hX:=iY hq0 x;obtain⟨X,hXe⟩:∃ X,X=inn (dw P m) x:=⟨_,rfl⟩
 rw[<-hXe] at hX ⊢;have HX:=hid hXe.symm;have hX1:=hX.1;have hX2:X<=255:=by omega
 clear hXe hX hq0 hq;go_enter Tryz.func353,Tryz.ntmps353;go_wp2_with(fail)
 go_region_held3 (fun w'=>w'.cell? ⟨w.heap.size,0,none⟩=some (.int .i64 P)/\w'.cell? ⟨w.heap.size,1,none⟩=some (.int .i64 m)/\w'.cell? ⟨w.heap.size,2,none⟩=some vm) (first|(simp[go_sem];done)|(simp[*];done))
  (first|(go_at_call 382;(with_reducible refine(abN P m vm x _).mono ?_);rintro e w1 ⟨rfl,hk1⟩;rw[HX.out];have bx1:=(hbx.drew).kept hk1;have a0:=bx1.h0;have a1:=bx1.h1;have a2:=bx1.h2)|(go_at_call 161;(with_reducible refine(qE X P m _ hX1 (by omega) (by omega) hp2 hm).mono ?_);rintro e w2 ⟨rfl,ho2,hk2⟩;have bx2:=bx1.kept hk2;have b0:=bx2.h0;have b1:=bx2.h1;have b2:=bx2.h2))
 have aad:ay w w1:=(hk0.tr (aC _)).tr hk1;go_wp2_with(fail)
 go_ret;exact⟨_,rfl,ho2.mono aad.size,aad.tr hk2⟩
theorem zh (P M:Int) (vm:Value) (v:Value) (l:List Int) (w:World) (hv:Sl w v l) (hp:1<=P) (hp2:P<=256) (hd:fF P l) (hq:P^l.length<=256) (hl:l.length<=8):
  Calls Tryz.prog 354 #[.agg #[.int .i64 P,.int .i64 M,vm],v] w fun e w'=>e=.returned (.int .i64 (ng P l))/\ay w w':=by
 have hk0:=ah w (.cells #[.int .i64 P,.int .i64 M,vm] 24);have hbx:=aS w P M vm 24;obtain⟨a,cap,rfl,hcap,_,hc⟩:=hv;go_enter Tryz.func354,Tryz.ntmps354;go_wp2_with(fail)
 obtain⟨w0,hw0⟩:∃ w0,w0=w.alloc (.cells #[.int .i64 P,.int .i64 M,vm] 24):=⟨_,rfl⟩
 rw[<-hw0] at hbx hk0 ⊢;clear hw0
 go_loopw [5,6] (fun vx i wr=>∃ (k:Nat) (y:Int),k<=l.length/\i=.int .i64 ((k:Int)-1)/\vx=.int .i64 y/\Hid (y=Qo P l k)/\0<=y/\y<256/\∃ n,wr=w0.drewN n) (fun _ i _=>(intOf i+1).toNat)
 case atStart=>exact⟨l.length,0,zy _,rfl,rfl,hid (MG _ _).symm,by omega,by omega,0,rfl⟩
 case round=>
  obtain⟨k,y,hk,rfl,rfl,hy,y0,y1,n,hw⟩:=hrel;have hkw:ay w wr:=by rw[hw];exact hk0.drewN n
  have hbw:=hbx.kept (aB w0 n);rw[<-hw] at hbw;have HW:=hid hw;clear hw;by_cases hlt:0<k
  ·obtain⟨j,rfl⟩:∃ j,k=j+1:=⟨k-1,by omega⟩
   obtain⟨b,off,rfl,hb,hcell⟩:=hc (by intro e;rw[e] at hk;simp at hk);have hcj:=(hkw.cell' hb).trans (hcell j (by omega));have hmem:l.getD j 0∈l:=by simp only[List.getD,zq (show j<l.length by omega),zU];exact zF _
   obtain⟨d0,d1⟩:=hd _ hmem;have hst:=hid (H6 P l (k:=j) (by omega));have hbd:=Qq hp hd j;rw[hst.out,<-hy.out] at hbd;obtain⟨b1,b2⟩:=hbd;have b3:0<=y*P:=yN y0 (by omega);have e:((j+1:Nat):Int)-1=(j:Int):=by omega
   rw[e];have c0:=hbw.h0;clear e hcell hmem;generalize l.getD j 0=d at*;have j0:(0:Int)<=(j:Int):=by omega
   have j1:(j:Int)< (l.length:Int):=by omega
   go_wp2_with(fail)
   have w1':IntKind.i64.wrap (y*P)=y*P:=IntWalk.i64_in _ (by omega);have w2':IntKind.i64.wrap (y*P+d)=y*P+d:=IntWalk.i64_in _ (by clear w1';omega);go_quiet(fail);clear w1' w2';go_wp2_with(fail)
   go_roundw;case rel=>exact⟨j,y*P+d,by omega,rfl,rfl,hid (by rw[hst.out,<-hy.out]),by omega,by omega,_,by rw[HW.out,World.drewN_drewN]⟩
   case measure=>simp[intOf]
  ·obtain rfl:k=0:=by omega
   go_wp2_with(fail)
   go_ret;exact⟨aW (by rw[hy.out,Hz]),hkw⟩
theorem aae {p c l z:Int} (hp:2<=p) (hp2:p<=256) (hc:0<=c/\c<p) (hl:0<=l/\l<p) (hz:0<=z/\z<p):0<=(p-c)*l/\(p-c)*l<=65536/\0<=z+(p-c)*l:=by
 have h1:0<=(p-c)*l:=yN (by omega) hl.1;have h2:(p-c)*l<=256*l:=zV (by omega) hl.1;omega
theorem CU (vl vm:Value) (low mod:List Int) (p:Int) (w:World) (hvl:Sl w vl low) (hvm:Sl w vm mod) (hp:2<=p) (hp2:p<=256) (hl0:1<=low.length) (hl1:low.length<=mod.length) (hm8:mod.length<=8)
  (hld:fF p low) (hmd:fF p mod) (r:Bool) (hr:r=true↔QA p low mod):
  Calls Tryz.prog 160 #[vl,vm,.int .i64 p] w fun e w'=>e=.returned (.bool r)/\ay w w':=by
 have HR:=hid hr;clear hr;obtain⟨al,cl,rfl,hcl,_,hlc⟩:=hvl;obtain⟨am,cm,rfl,hcm,hcm2,hmc⟩:=hvm;obtain⟨bl,ol,rfl,hbl,Nz⟩:=hlc (by intro e;rw[e] at hl0;simp at hl0);clear hlc;have hO0:Own (w.alloc (.cells #[] 3)) w.heap.size (.slice (some ⟨w.heap.size,0,none⟩) 0 0) []:=iW (zy _);have hB0:Below w.heap.size w (w.alloc (.cells #[] 3)):=(Below.refl _ _).alloc (zy _) _;have hsrc:∀ ad,am=some ad->∀ j,j<mod.length->(w.alloc (.cells #[] 3)).cell? (ad.add j)=some (.int .i64 (mod.getD j 0)):=fun ad had j hj=>by
  obtain⟨b',off',e,hb',hc'⟩:=hmc (by intro e;rw[e] at hj;simp at hj);rw[had] at e;cases e
  rw[Addr.add_lit];exact(Below.cell hB0 (p:=⟨b',off'+j,none⟩) hb').trans (hc' j hj)
 have ae5:mod≠ []->am≠none:=fun h=>by
  obtain⟨b',off',e,_⟩:=hmc h;rw[e];simp
 have Hs:=hid hsrc;have H0:=hid hcm2.2;have H1:=hid ae5;clear hsrc ae5 hmc;go_enter Tryz.func160,Tryz.ntmps160;go_wp2_with(first
  |(at_builtin;(refine gW rfl (.tmp 15) (.tmp 16) rfl w.heap.size _ rfl hO0 am mod.length cm mod rfl rfl H0.out H1.out Hs.out (by omega) ?_);intro gm cm1 w1 hg1 gm1 gm2 ho1;have hb1:=dI hB0 hg1 hB0.size hO0.lt.1;clear gm1)
  |(at_builtin;(refine bG rfl (.tmp 18) (.tmp 19) rfl w.heap.size _ mod rfl (ho1.kept (ah _ _)) ⟨w1.heap.size,0,none⟩ 1 rfl (aU rfl) (by omega) (by have:=hb1.size;simp;omega) ?_);intro v2 w2 ho2 hg2;have hb2:=nM (hb1.alloc hb1.size (.cells #[.int .i64 1] 3)) (by have:=hb1.size;simp;omega) (ho1.kept (ah _ _)) (zy _) hg2;rcases ho2.form with⟨_,e2⟩|⟨g,cap2,rfl,hg3,hg4,hg5,hg6⟩;(exact absurd e2 (by simp))))
 obtain⟨r0,hr0⟩:∃ l,l=mod++ [1]:=⟨_,rfl⟩
 have hRl:r0.length=mod.length+1:=by rw[hr0];simp
 have d0:fF p r0:=by
  rw[hr0];intro x hx;rcases yQ.1 hx with h|h
  ·exact hmd x h
  ·rw[zH.1 h];omega
 have HRR:Hid (r=true↔ ∀ x∈Ba p low r0 (mod.length+1-low.length),x=0):=hid (by rw[hr0];exact HR.out);rw[<-hr0] at ho2;rw[hRl] at ho2;clear hr0 HR ho1 hO0 hB0 hb1 hg2;have HL1:=hid hl1
 go_loopw [9] (fun vi wr=>∃ n:Nat,n<=mod.length+1-low.length/\vi=.int .i64 ((mod.length:Int)-n)/\Own wr w.heap.size (.slice (some ⟨g,0,none⟩) (mod.length+1) cap2) (Ba p low r0 n)/\ay w wr) (fun vi _=>(intOf vi+1-low.length).toNat)
 case atStart=>exact⟨0,by omega,by simp,ho2,hb2⟩
 case round=>
  obtain⟨n,hn,rfl,hown,hkw⟩:=hrel;clear ho2 hb2;obtain⟨ys,hys⟩:∃ ys,ys=Ba p low r0 n:=⟨_,rfl⟩
  rw[<-hys] at hown;have lY:Hid (ys.length=mod.length+1):=hid (by rw[hys,qh,hRl]);have dY:fF p ys:=by rw[hys];exact Ie (by omega) d0 n
  have HY:=hid hys;clear hys;have hgw:g<wr.heap.size:=hown.lt.2;obtain⟨i,hi⟩:∃ i,mod.length=n+i:=⟨mod.length-n,by omega⟩
  have ei:(mod.length:Int)- (n:Int)=(i:Int):=by omega
  rw[ei];by_cases hlt:low.length<=i
  ·obtain⟨s,hs⟩:∃ s,i=low.length+s:=⟨i-low.length,by omega⟩
   have cI:=hown.cell (i:=i) (by rw[lY.out];omega);obtain⟨c,hc⟩:∃ c,c=ys.getD i 0:=⟨_,rfl⟩
   rw[<-hc] at cI;have dC:0<=c/\c<p:=by rw[hc];exact eX (by omega) dY _
   have HC:=hid hc;clear hc;have HN:Hid (Ba p low r0 (n+1)=Ag p low i ys):=hid (by rw[Ba,<-HY.out,hRl,show mod.length+1-1-n=i by omega]);have i0:(0:Int)<=(i:Int):=by omega
   have i1:(i:Int)< ((mod.length+1:Nat):Int):=by omega
   have i2:(i:Int)< (mod.length:Int)+1:=by omega
   have i3:(low.length:Int)<=(i:Int):=by omega
   have Hi:=hid hi;have Hs:=hid hs;clear hi hs ei;go_wp2_with(fail)
   go_loopw [11] (fun vk wr=>∃ (k:Nat) (us:List Int),k<=low.length/\vk=.int .i64 k/\Hid (us.length=mod.length+1)/\
    Hid (∀ j,j<mod.length+1->us.getD j 0=if s<=j/\j<s+k then(ys.getD j 0+(p-c)*low.getD (j-s) 0)%p else ys.getD j 0)/\
    Own wr w.heap.size (.slice (some ⟨g,0,none⟩) (mod.length+1) cap2) us/\ay w wr) (fun vk _=>low.length- (intOf vk).toNat)
   case atStart=>exact⟨0,ys,by omega,rfl,lY,hid (fun j hj=>by rw[zx (by omega)]),hown,hkw⟩
   case round=>
    obtain⟨k,us,hk,rfl,lU,hU,hown,hkw⟩:=hrel;clear cI;by_cases hkl:k<low.length
    ·have hs':=Hs.out;have hi':=Hi.out;have cU:=hown.cell (i:=s+k) (by rw[lU.out];omega);have fU:=hown.frozen (s+k);have cL:=(hkw.cell' hbl).trans (Nz k hkl);obtain⟨u,hu⟩:∃ c,c=us.getD (s+k) 0:=⟨_,rfl⟩
     obtain⟨l,hl⟩:∃ c,c=low.getD k 0:=⟨_,rfl⟩
     rw[<-hu] at cU;rw[<-hl] at cL;have hUk:Hid (u=ys.getD (s+k) 0):=hid (by rw[hu,hU.out (s+k) (by omega),zx (by omega)]);have dU:0<=u/\u<p:=by rw[hUk.out];exact eX (by omega) dY _
     have dL:0<=l/\l<p:=by rw[hl];exact eX (by omega) hld _
     have HLk:=hid hl;clear hu hl;obtain⟨b1,b2,b3⟩:=aae hp hp2 dC dL dU;have j0:(0:Int)<=(k:Int):=by omega
     have j1:(k:Int)< (low.length:Int):=by omega
     have j2:(0:Int)<=(s:Int)+(k:Int):=by omega
     have j3:(s:Int)+(k:Int)< ((mod.length+1:Nat):Int):=by omega
     have j4:(s:Int)+(k:Int)< (mod.length:Int)+1:=by omega
     have j5:((s:Int)+(k:Int)).toNat=s+k:=by omega
     have e1:Hid ((i:Int)- (low.length:Int)=(s:Int)):=hid (by omega);clear hs' hi';have hset:=hown.drew.set (s+k) ((u+(p-c)*l)%p);have hbs:=Below.setCell hkw.drew (p:=⟨g,s+k,none⟩) hg3 (.int .i64 ((u+(p-c)*l)%p));go_wp2_with(fail)
     have x1:IntKind.i64.wrap ((i:Int)- (low.length:Int))=(s:Int):=by rw[e1.out];exact IntWalk.i64_in _ (by omega)
     have x2:IntKind.i64.wrap ((s:Int)+(k:Int))=(s:Int)+(k:Int):=IntWalk.i64_in _ (by clear x1;omega);have x3:IntKind.i64.wrap (p-c)=p-c:=IntWalk.i64_in _ (by clear x1 x2;omega);have x4:IntKind.i64.wrap ((p-c)*l)=(p-c)*l:=IntWalk.i64_in _ (by clear x1 x2 x3;omega);have x5:IntKind.i64.wrap (u+(p-c)*l)=u+(p-c)*l:=IntWalk.i64_in _ (by clear x1 x2 x3 x4;omega);go_region;clear x1 x2 x3 x4 x5;clear hown hkw;go_wp2_with(fail)
     go_roundw;case rel=>exact⟨k+1,us.set (s+k) ((u+(p-c)*l)%p),by omega,by go_num,hid (by simp[lU.out]),hid (fun j hj=>by
      by_cases ej:j=s+k
      ·subst ej;rw[zu (by omega),show s+k-s=k by omega,<-hUk.out,<-HLk.out];simp[List.getD,lU.out,hj]
      ·have h1:(us.set (s+k) ((u+(p-c)*l)%p)).getD j 0=us.getD j 0:=by simp[List.getD,zS (show s+k≠j by omega)]
       rw[h1,hU.out j hj];by_cases h2:s<=j/\j<s+k
       ·rw[zu h2,zu (by omega)]
       ·rw[zx h2,zx (by omega)]),hset,hbs⟩
     case measure=>simp[intOf];omega
    ·have ek:k=low.length:=by omega
     subst ek;have hs':=Hs.out;have hi':=Hi.out;have fI:=hown.frozen i;have cI:=hown.cell (i:=i) (by rw[lU.out];omega);obtain⟨u,hu⟩:∃ c,c=us.getD i 0:=⟨_,rfl⟩
     rw[<-hu] at cI;clear hu;have hset:=hown.set i 0;have hbs:=Below.setCell hkw (p:=⟨g,i,none⟩) hg3 (.int .i64 0);have e:Hid (us.set i 0=Ba p low r0 (n+1)):=hid (by
      rw[HN.out];refine fM (by rw[zI,lM,lU.out,lY.out]) (fun j hj=>?_);rw[zI,lU.out] at hj;rw[BJ (by rw[lY.out];exact hj),show i-low.length=s by omega,<-HC.out];by_cases ej:j=i
      ·subst ej;rw[zu rfl];simp[List.getD,lU.out,hj]
      ·have h1:(us.set i 0).getD j 0=us.getD j 0:=by simp[List.getD,zS (show i≠j by omega)]
       rw[h1,zx ej,hU.out j hj];by_cases h2:s<=j/\j<i
       ·rw[zu (by omega),zu h2]
       ·rw[zx (by omega),zx h2])
     rw[e.out] at hset;have ak2:(s:Int)+1<=(i:Int)+1:=by omega
     have hstep:(i:Int)-1=(mod.length:Int)- ((n+1:Nat):Int):=by omega
     have Hst:=hid hstep;have hn1:n+1<=mod.length+1-low.length:=by omega
     clear hown hkw hs' hi' hstep;go_wp2_with(fail)
     go_roundw;case rel=>exact⟨n+1,hn1,iC Hst.out,hset,hbs⟩
     case measure=>simp[intOf];omega
  ·have en:n=mod.length+1-low.length:=by omega
   have hlt':(i:Int)< (low.length:Int):=by omega
   have HR:Hid (r=true↔ ∀ x∈ys,x=0):=hid (by rw[HY.out,en];exact HRR.out);clear hlt ei hi en HY;go_wp2_with(fail)
   go_loop [12] (fun vi=>∃ k:Nat,k<=mod.length+1/\vi=.int .i64 k/\Hid (∀ j,j<k->ys.getD j 0=0)) (fun vi=>mod.length+1- (intOf vi).toNat)
   case atStart=>exact⟨0,by omega,rfl,hid (fun j hj=>by omega)⟩
   case round=>
    obtain⟨k,hk,rfl,hd⟩:=hrel;by_cases hkl:k<mod.length+1
    ·have cK:=hown.cell (i:=k) (by rw[lY.out];exact hkl);obtain⟨z,hz⟩:∃ z,z=ys.getD k 0:=⟨_,rfl⟩
     rw[<-hz] at cK;have HZ:=hid hz;clear hz;have hmem:Hid (z∈ys):=hid (by
      rw[HZ.out];simp only[List.getD,zq (show k<ys.length by rw[lY.out];exact hkl),zU];exact zF _)
     have j1:(k:Int)< (mod.length:Int)+1:=by omega
     by_cases h0:z=0
     ·subst h0;go_wp2_with(fail)
      go_round;case rel=>exact⟨k+1,by omega,by go_num,hid (fun j hj=>by
       by_cases e:j=k
       ·rw[e,<-HZ.out]
       ·exact hd.out j (by omega))⟩
      case measure=>simp[intOf];omega
     ·have hrf:r=false:=by
       cases r
       ·rfl
       ·exact absurd (HR.out.1 rfl z hmem.out) h0
      subst hrf;have tz:(z != 0)=true:=by simpa using h0
      clear h0;go_wp2_with(fail)
      go_ret;exact⟨rfl,hkw⟩
    ·have j1:¬ (k:Int)< (mod.length:Int)+1:=by omega
     have hrt:r=true:=HR.out.2 (fun x hx=>by
      obtain⟨j,hj,rfl⟩:=yR hx;have:=hd.out j (by rw[lY.out] at hj;omega);simpa only[List.getD,zq hj,zU] using this)
     subst hrt;go_wp2_with(fail)
     go_ret;exact⟨rfl,hkw⟩
theorem oC (vm:Value) (mod:List Int) (p:Int) (w:World) (hvm:Sl w vm mod) (hp:2<=p) (hp2:p<=256) (hm8:mod.length<=8) (hmd:fF p mod) (hq:p^mod.length<=256) (r:Bool) (hr:r=true↔QB p mod):
  Calls Tryz.prog 110 #[vm,.int .i64 p] w fun e w'=>e=.returned (.bool r)/\ay w w':=by
 have HR:=hid hr;clear hr;have HQ:=hid hq;clear hq;obtain⟨am,cm,rfl,hrest⟩:∃ a cap,vm=.slice a mod.length cap/\Hid (Sl w vm mod):=by
  obtain⟨a,cap,h1,h2⟩:=hvm;exact⟨a,cap,h1,hid ⟨a,cap,h1,h2⟩⟩
 clear hvm;go_enter Tryz.func110,Tryz.ntmps110;go_wp2_with(fail)
 go_loopw [5,6] (fun vc vd wr=>∃ (d:Nat) (c:Int),1<=d/\2*(d-1)<=mod.length/\vd=.int .i64 d/\vc=.int .i64 c/\1<=c/\c<=256/\Hid (c=p^ (d-1))/\
  Hid (∀ d':Nat,1<=d'->d'<d->2*d'<=mod.length->∀ v:Nat,(v:Int)<p^d'->¬ QA p (bY p v d') mod)/\ay w wr) (fun _ vd _=>mod.length+1- (intOf vd).toNat)
 case atStart=>exact⟨1,1,by omega,by omega,rfl,rfl,by omega,by omega,hid (by simp),hid (fun d' h1 h2=>by omega),ay.rfl' w⟩
 case round=>
  obtain⟨d,c,hd1,hd2,rfl,rfl,hc1,hc2,hc,hall,hkw⟩:=hrel;by_cases hlt:2*d<=mod.length
  ·have hpd:p^d<=p^mod.length:=ni (by omega) (by omega);have ajs:1<=p^d:=uV (by omega);have hcp:c*p=p^d:=by rw[hc.out,<-xY];congr 1;omega
   have hq:=HQ.out;obtain⟨q,hqe⟩:∃ q,q=c*p:=⟨_,rfl⟩
   have q1:1<=q:=by rw[hqe,hcp];exact ajs
   have q2:q<=256:=by rw[hqe,hcp];omega
   have HQE:Hid (q=p^d):=hid (by rw[hqe,hcp]);have q1':0<=c*p:=by omega
   have q2':c*p<=256:=by omega
   clear hpd ajs hcp hq;have anB:2*(d:Int)<=(mod.length:Int):=by omega
   go_wp2_with(fail)
   rw[<-hqe];clear hqe q1' q2';obtain⟨qn,rfl⟩:=zY (show 0<=q by omega)
   go_loopw [7] (fun vv wr=>∃ v:Nat,v<=qn/\vv=.int .i64 v/\Hid (∀ v':Nat,v'<v->¬ QA p (bY p v' d) mod)/\ay w wr) (fun vv _=>qn- (intOf vv).toNat)
   case atStart=>exact⟨0,by omega,rfl,hid (fun v' h=>by omega),hkw⟩
   case round=>
    obtain⟨v,hv,rfl,hno,hkw⟩:=hrel;by_cases hvq:v<qn
    ·have hsl:=hrest.out.kept hkw;obtain⟨rr,hrr⟩:∃ rr:Bool,rr=true↔QA p (bY p v d) mod:=by
      by_cases h:QA p (bY p v d) mod
      ·exact⟨true,by simp[h]⟩
      ·exact⟨false,by simp[h]⟩
     have HRR:=hid hrr;have hdl:(bY p v d).length=d:=aP _ _ _;have HDL:=hid hdl;have hdd:fF p (bY p v d):=gJ (by omega) d;clear hrr hdl;cases rr with
     |true=>
      have HT:Hid (QA p (bY p v d) mod):=hid (HRR.out.1 rfl);clear HRR;have hrf:r=false:=by
       cases r
       ·rfl
       ·exact absurd HT.out (HR.out.1 rfl d hd1 hlt v (by rw[<-HQE.out];omega))
      subst hrf;go_wp2_with(first|(go_at_call 161;(with_reducible refine(qE (v:Int) p d _ (by omega) (by omega) (by omega) hp2 (by omega)).mono ?_);rintro e w1 ⟨rfl,ho1,hk1⟩)|(go_at_call 160;(with_reducible refine(CU _ _ (bY p v d) mod p _ ho1.sl (hsl.kept hk1) hp hp2 (by rw[HDL.out];omega) (by rw[HDL.out];omega) hm8 hdd hmd true ⟨fun _=>HT.out,fun _=>rfl⟩).mono ?_);rintro e w2 ⟨rfl,hk2⟩))
      go_ret;exact⟨rfl,(hkw.tr hk1).tr hk2⟩
     |false=>
      have HF:Hid (¬QA p (bY p v d) mod):=hid (fun h=>by have:=HRR.out.2 h;cases this);clear HRR;go_wp2_with(first|(go_at_call 161;(with_reducible refine(qE (v:Int) p d _ (by omega) (by omega) (by omega) hp2 (by omega)).mono ?_);rintro e w1 ⟨rfl,ho1,hk1⟩)|(go_at_call 160;(with_reducible refine(CU _ _ (bY p v d) mod p _ ho1.sl (hsl.kept hk1) hp hp2 (by rw[HDL.out];omega) (by rw[HDL.out];omega) hm8 hdd hmd false ⟨fun h=>(by cases h),fun h=>absurd h HF.out⟩).mono ?_);rintro e w2 ⟨rfl,hk2⟩))
      go_roundw;case rel=>exact⟨v+1,by omega,by go_num,hid (fun v' h hdv=>by
       by_cases e:v'=v
       ·rw[e] at hdv;exact HF.out hdv
       ·exact hno.out v' (by omega) hdv),(hkw.tr hk1).tr hk2⟩
      case measure=>simp[intOf];omega
    ·have ev:v=qn:=by omega
     have hno':Hid (∀ v':Nat,(v':Int)<p^d->¬ QA p (bY p v' d) mod):=hid (fun v' h=>hno.out v' (by rw[<-HQE.out] at h;omega));clear hno;go_wp2_with(fail)
     go_roundw;case rel=>exact⟨d+1,qn,by omega,by omega,by go_num,rfl,by omega,by omega,hid (by rw[HQE.out];rfl),hid (fun d' h1 h2 h3=>by
      by_cases e:d'=d
      ·rw[e];exact hno'.out
      ·exact hall.out d' h1 (by omega) h3),hkw⟩
     case measure=>simp[intOf];omega
  ·have hrt:r=true:=HR.out.2 (fun d' h1 h2 v hv=>hall.out d' h1 (by omega) h2 v hv);subst hrt;go_wp2_with(fail)
   go_ret;exact⟨rfl,hkw⟩
theorem oZ (P M:Int) (vm:Value) (mod:List Int) (w:World) (hvm:Sl w vm mod) (c:Int) (hc:(qL P M mod/\c=0)∨(¬qL P M mod/\c=1)):
  Calls Tryz.prog 54 #[.agg #[.int .i64 P,.int .i64 M,vm]] w fun e w'=>e=.returned (.int .i64 c)/\ay w w':=by
 have HR:=hid hc;clear hc;have no:¬ qL P M mod->c=1:=fun h=>by
  rcases HR.out with h1|h1
  ·exact absurd h1.1 h
  ·exact h1.2
 have yes:qL P M mod->c=0:=fun h=>by
  rcases HR.out with h1|h1
  ·exact h1.2
  ·exact absurd h h1.1
 have NO:=hid no;have YES:=hid yes;clear no yes HR;have hk0:=ah w (.cells #[.int .i64 P,.int .i64 M,vm] 24);have hbx:=aS w P M vm 24;have HS:=hid hvm;obtain⟨a,cap,rfl,hcap,hcap2,hcc⟩:=hvm;by_cases ho:dw P M=0
 ·have hrf:c=1:=NO.out (fun h=>h.1.1 ho);subst hrf;have Ho:=hid ho;clear ho;go_enter Tryz.func54,Tryz.ntmps54;go_wp2_with(go_at_call 22;refine(eF P M _ _).mono ?_;rintro e w1 ⟨rfl,k1⟩;rw[Ho.out])
  go_ret;exact⟨rfl,hk0.tr k1⟩
 obtain⟨o1,o2,o3,o4,o5,o6⟩:=fK ho;have t0:(dw P M==0)=false:=by simpa using ho
 have HO:=hid ho;have HO5:=hid o5;clear o5 o6 ho;obtain⟨q,hq⟩:∃ q,q=dw P M:=⟨_,rfl⟩
 rw[<-hq] at t0;have HQ:=hid hq.symm;clear hq;by_cases hpr:Prm P;case neg=>
  have hrf:c=1:=NO.out (fun h=>hpr h.1.2.1);subst hrf;have Hpr:=hid hpr;clear hpr;go_enter Tryz.func54,Tryz.ntmps54;go_wp2_with(first|(go_at_call 22;refine(eF P M _ _).mono ?_;rintro e w1 ⟨rfl,k1⟩;rw[HQ.out];rw[<-HQ.out] at t0 ⊢;have bx1:=hbx.kept k1;have c0:=bx1.h0;have c1:=bx1.h1)|(go_at_call 109;refine(oz P _ o1 o2 false ⟨fun h=>(by cases h),fun h=>absurd h Hpr.out⟩).mono ?_;rintro e w2 ⟨rfl,n2,rfl⟩))
  go_ret;exact⟨rfl,(hk0.tr k1).drewN _⟩
 have Hpr:=hid hpr;clear hpr;by_cases hM1:M=1
 ·subst hM1;by_cases hl0:mod.length=0
  ·have hrt:c=0:=YES.out ⟨⟨HO.out,Hpr.out,fun _=>zO hl0,fun h=>absurd rfl h⟩,fun h=>absurd rfl h⟩;subst hrt;have tl:((mod.length:Int) != 0)=false:=by simp[hl0]
   clear hl0;go_enter Tryz.func54,Tryz.ntmps54;go_wp2_with(first|(go_at_call 22;refine(eF P 1 _ _).mono ?_;rintro e w1 ⟨rfl,k1⟩;rw[HQ.out];have bx1:=hbx.kept k1;have c0:=bx1.h0;have c1:=bx1.h1;have c2:=bx1.h2)|(go_at_call 109;refine(oz P _ o1 o2 true ⟨fun _=>Hpr.out,fun _=>rfl⟩).mono ?_;rintro e w2 ⟨rfl,n2,rfl⟩))
   go_ret;exact⟨rfl,(hk0.tr k1).drewN _⟩
  ·have hrf:c=1:=NO.out (fun h=>hl0 (by rw[h.1.2.2.1 rfl];rfl));subst hrf;have tl:((mod.length:Int) != 0)=true:=by rw[bne_iff_ne];omega
   clear hl0;go_enter Tryz.func54,Tryz.ntmps54;go_wp2_with(first|(go_at_call 22;refine(eF P 1 _ _).mono ?_;rintro e w1 ⟨rfl,k1⟩;rw[HQ.out];have bx1:=hbx.kept k1;have c0:=bx1.h0;have c1:=bx1.h1;have c2:=bx1.h2)|(go_at_call 109;refine(oz P _ o1 o2 true ⟨fun _=>Hpr.out,fun _=>rfl⟩).mono ?_;rintro e w2 ⟨rfl,n2,rfl⟩))
   go_ret;exact⟨rfl,(hk0.tr k1).drewN _⟩
 have tM:(M==1)=false:=by simpa using hM1
 by_cases hl:(mod.length:Int)=M;case neg=>
  have hrf:c=1:=NO.out (fun h=>hl (h.1.2.2.2 hM1).1);subst hrf;have tl:((mod.length:Int) != M)=true:=by simpa using hl
  clear hl hM1;go_enter Tryz.func54,Tryz.ntmps54;go_wp2_with(first|(go_at_call 22;refine(eF P M _ _).mono ?_;rintro e w1 ⟨rfl,k1⟩;rw[HQ.out];have bx1:=hbx.kept k1;have c0:=bx1.h0;have c1:=bx1.h1;have c2:=bx1.h2)|(go_at_call 109;refine(oz P _ o1 o2 true ⟨fun _=>Hpr.out,fun _=>rfl⟩).mono ?_;rintro e w2 ⟨rfl,n2,rfl⟩))
  go_ret;exact⟨rfl,(hk0.tr k1).drewN _⟩
 have tl:((mod.length:Int) != M)=false:=by simpa using hl
 have hl8:mod.length<=8:=by omega
 have HPQ:Hid (P^mod.length<=256):=hid (by have:=HO5.out;rw[<-hl] at this;simpa using this);have Hl:=hid hl;have HM1:=hid hM1;clear hl hM1;go_enter Tryz.func54,Tryz.ntmps54;go_wp2_with(first|(go_at_call 22;refine(eF P M _ _).mono ?_;rintro e w1 ⟨rfl,k1⟩;rw[HQ.out];have bx1:=hbx.kept k1;have c0:=bx1.h0;have c1:=bx1.h1;have c2:=bx1.h2)|(go_at_call 109;refine(oz P _ o1 o2 true ⟨fun _=>Hpr.out,fun _=>rfl⟩).mono ?_;rintro e w2 ⟨rfl,n2,rfl⟩))
 have hkA:=(hk0.tr k1).drewN n2;have bxA:=bx1.drewN n2;obtain⟨wA,hwA⟩:∃ wA,wA=w1.drewN n2:=⟨_,rfl⟩
 rw[<-hwA] at hkA bxA ⊢;clear hwA c0 c1 c2 bx1 k1 hk0 hbx
 go_loopw [3] (fun vi wr=>∃ k:Nat,k<=mod.length/\vi=.int .i64 k/\Hid (∀ i,i<k->0<=mod.getD i 0/\mod.getD i 0<P)/\∃ n,wr=wA.drewN n) (fun vi _=>mod.length- (intOf vi).toNat)
 case atStart=>exact⟨0,by omega,rfl,hid (fun i hi=>by omega),0,rfl⟩
 case round=>
  obtain⟨k,hk,rfl,hd,n,hw⟩:=hrel;have hkw:ay w wr:=by rw[hw];exact hkA.drewN n
  have bxw:nJ wr w.heap.size P M (.slice a mod.length cap):=by rw[hw];exact bxA.drewN n
  have HW:=hid hw;clear hw;have c0:=bxw.h0;have c1:=bxw.h1;have c2:=bxw.h2;by_cases hlt:k<mod.length
  ·have hkM:(k:Int)<M:=by rw[<-Hl.out];omega
   obtain⟨b,off,rfl,hb,hcell⟩:=hcc (by intro e;rw[e] at hlt;simp at hlt);have hck:=(hkw.cell' (b:=b) (o:=off+k) hb).trans (hcell k hlt);have hmem:mod.getD k 0∈mod:=by simp only[List.getD,zq hlt,zU];exact zF _
   obtain⟨z,hz⟩:∃ z,z=mod.getD k 0:=⟨_,rfl⟩
   rw[<-hz] at hck hmem;have HZ:=hid hz;have ajt:=hid hmem;clear hz hcell hmem hcc;have j0:(0:Int)<=(k:Int):=by omega
   have j1:(k:Int)< (mod.length:Int):=by omega
   by_cases hz0:z<0
   ·have hrf:c=1:=NO.out (fun h=>by
     have:=(h.1.2.2.2 HM1.out).2 z ajt.out;omega)
    subst hrf;go_wp2_with(fail)
    go_quiet(fail);go_wp2_with(fail)
    go_ret;exact⟨rfl,hkw.drewN _⟩
   ·by_cases hzP:P<=z
    ·have hrf:c=1:=NO.out (fun h=>by
      have:=(h.1.2.2.2 HM1.out).2 z ajt.out;omega)
     subst hrf;go_wp2_with(fail)
     go_quiet(fail);go_wp2_with(fail)
     go_ret;exact⟨rfl,hkw.drewN _⟩
    ·go_wp2_with(fail)
     go_quiet(fail);go_wp2_with(fail)
     go_roundw;case rel=>exact⟨k+1,by omega,by go_num,hid (fun i hi=>by
      by_cases e:i=k
      ·rw[e,<-HZ.out];omega
      ·exact hd.out i (by omega)),_,by rw[HW.out,World.drewN_drewN]⟩
     case measure=>simp[intOf];omega
  ·have hkM:¬ (k:Int)<M:=by rw[<-Hl.out];omega
   have hdg:fF P mod:=fun y hy=>by
    obtain⟨i,hi,rfl⟩:=yR hy;have:=hd.out i (by omega);simpa only[List.getD,zq hi,zU] using this
   have hsh:Hid (jq P M mod):=hid ⟨HO.out,Hpr.out,fun h=>absurd h HM1.out,fun _=>⟨Hl.out,hdg⟩⟩;by_cases ady:QB P mod
   ·have hrt:c=0:=YES.out ⟨hsh.out,fun _=>ady⟩;subst hrt;have HI:=hid ady;clear ady;go_wp2_with(go_at_call 110;refine(oC _ mod P _ (HS.out.kept hkw) o1 o2 hl8 hdg HPQ.out true ⟨fun _=>HI.out,fun _=>rfl⟩).mono ?_;rintro e w3 ⟨rfl,k3⟩)
    go_ret;exact⟨rfl,hkw.tr k3⟩
   ·have hrf:c=1:=NO.out (fun h=>ady (h.2 HM1.out));subst hrf;have HI:=hid ady;clear ady;go_wp2_with(go_at_call 110;refine(oC _ mod P _ (HS.out.kept hkw) o1 o2 hl8 hdg HPQ.out false ⟨fun h=>(by cases h),fun h=>absurd h HI.out⟩).mono ?_;rintro e w3 ⟨rfl,k3⟩)
    go_ret;exact⟨rfl,hkw.tr k3⟩
theorem Own.abO {w:World} {B g n cap:Nat} {xs:List Int} (h:Own w B (.slice (some ⟨g,0,none⟩) n cap) xs) {k:Nat} (hk:k<=xs.length):Sl w (.slice (some ⟨g,0,none⟩) k cap) (xs.take k):=by
 rcases h.form with⟨e,_⟩|⟨g',cap',e,_,hg,h2,h3⟩
 ·cases e
 ·cases e
  have hl:(xs.take k).length=k:=by simp;omega
  refine⟨_,cap,by rw[hl],by omega,⟨h3,fun e=>by cases e⟩,fun _=>⟨g,0,rfl,hg,fun i hi=>?_⟩⟩;rw[hl] at hi;rw[xQ,h.cell (i:=i) (by omega)];simp[List.getD,hi]
set_option maxRecDepth 100000 in
theorem XC (P:Int) (m:Nat) (vm:Value) (mod:List Int) (x y:Int) (w:World) (hvm:Sl w vm mod) (hp:2<=P) (hp2:P<=256) (hm1:1<=m) (hm:m<=8) (hq0:0<dw P m) (hq:dw P m<=256) (hqm:P^m<=256)
  (hml:1<m->mod.length=m) (hmd:fF P mod):
  Calls Tryz.prog 351 #[.agg #[.int .i64 P,.int .i64 m,vm],.int .i64 x,.int .i64 y] w fun e w'=>e=.returned (.int .i64 (ng P (xE P m mod (bY P (inn (dw P m) x) m) (bY P (inn (dw P m) y) m))))/\ay w w':=by
 have hk0:=ah w (.cells #[.int .i64 P,.int .i64 m,vm] 24);have hbx:=aS w P m vm 24;obtain⟨N,hN⟩:∃ N,N=2*m-1:=⟨_,rfl⟩
 have hN2:N<=15:=by omega
 have HN:=hid hN;have HQ0:=hid hq0;have HQ:=hid hq;have HQM:=hid hqm;have hNi:2*(m:Int)-1=(N:Int):=by omega
 have HNI:=hid hNi;clear hN hq0 hq hNi hqm;go_enter Tryz.func351,Tryz.ntmps351;go_wp2_with(first|(go_at_call 353;(with_reducible refine(jM P m vm x _ hp hp2 hm HQ0.out HQ.out).mono ?_);rintro e w1 ⟨g1,rfl,ho1,hk1⟩;have bx1:=hbx.kept hk1;have a0:=bx1.h0;have a1:=bx1.h1;have a2:=bx1.h2)|(go_at_call 353;(with_reducible refine(jM P m vm y _ hp hp2 hm HQ0.out HQ.out).mono ?_);rintro e w2 ⟨g2,rfl,ho2,hk2⟩;have bx2:=bx1.kept hk2;have b0:=bx2.h0;have b1:=bx2.h1;have b2:=bx2.h2)|(at_make;refine aJ rfl _ _ rfl N _ _ rfl rfl HNI.out HNI.out (by omega) ?_;intro w3 ho3 hk3))
 clear a0 a1 a2 b0 b1 b2;have abP:=ho1.kept hk2;have ku:=(hk0.tr hk1).tr hk2;have Hu:=hvm.kept ku;have z1:g1<w2.heap.size:=abP.lt.2;have z2:g2<w2.heap.size:=ho2.lt.2;obtain⟨am,cm,rfl,hcm,hcm2,hmc⟩:=Hu;obtain⟨xa,hxa⟩:∃ xa,xa=bY P (inn (dw P m) x) m:=⟨_,rfl⟩
 obtain⟨xb,hxb⟩:∃ xb,xb=bY P (inn (dw P m) y) m:=⟨_,rfl⟩
 have lA:Hid (xa.length=m):=hid (by rw[hxa,aP]);have lB:Hid (xb.length=m):=hid (by rw[hxb,aP]);have dA:fF P xa:=by rw[hxa];exact gJ (by omega) m
 have dB:fF P xb:=by rw[hxb];exact gJ (by omega) m
 rw[<-hxa] at abP;rw[<-hxb] at ho2;have HXA:=hid hxa;have HXB:=hid hxb;clear hxa hxb ho1 hvm;have hcA:∀ i,i<m->w2.cell? ⟨g1,i,none⟩=some (.int .i64 (xa.getD i 0)):=fun i hi=>abP.cell (by rw[lA.out];exact hi);have hcB:∀ i,i<m->w2.cell? ⟨g2,i,none⟩=some (.int .i64 (xb.getD i 0)):=fun i hi=>ho2.cell (by rw[lB.out];exact hi);have HCA:=hid hcA;have HCB:=hid hcB;clear hcA hcB abP ho2;obtain⟨z0,hz0⟩:∃ z,z=List.replicate N (0:Int):=⟨_,rfl⟩
 rw[<-hz0] at ho3;have lZ:Hid (z0.length=N):=hid (by rw[hz0];simp);have dZ:fF P z0:=by rw[hz0];exact Es (by omega) _
 have HZ:=hid hz0;clear hz0
 go_loopw [10] (fun vi wr=>∃ i:Nat,i<=m/\vi=.int .i64 i/\Own wr w2.heap.size (.slice (some ⟨w2.heap.size,0,none⟩) N N) (pK P m xa xb z0 i)/\Below w2.heap.size w2 wr) (fun vi _=>m- (intOf vi).toNat)
 case atStart=>exact⟨0,by omega,rfl,ho3,hk3⟩
 case round=>
  obtain⟨i,hi,rfl,hown,hbel⟩:=hrel;clear ho3 hk3;obtain⟨ys,hys⟩:∃ ys,ys=pK P m xa xb z0 i:=⟨_,rfl⟩
  rw[<-hys] at hown;have lY:Hid (ys.length=N):=hid (by rw[hys,jT,lZ.out]);have dY:fF P ys:=by rw[hys];exact En (by omega) _ _ _ dZ _
  have HY:=hid hys;clear hys;have f0:=(bx2.below hbel bx2.lt).h0;have f1:=(bx2.below hbel bx2.lt).h1;have f2:=(bx2.below hbel bx2.lt).h2;by_cases hlt:i<m
  ·have HS:Hid (pK P m xa xb z0 (i+1)=xC P xa xb i ys m):=hid (by rw[pK,<-HY.out]);clear hi;go_wp2_with(fail)
   clear f0 f1 f2
   go_loopw [11] (fun vj wr=>∃ j:Nat,j<=m/\vj=.int .i64 j/\Own wr w2.heap.size (.slice (some ⟨w2.heap.size,0,none⟩) N N) (xC P xa xb i ys j)/\Below w2.heap.size w2 wr) (fun vj _=>m- (intOf vj).toNat)
   case atStart=>exact⟨0,by omega,rfl,hown,hbel⟩
   case round=>
    obtain⟨j,hj,rfl,hown,hbel⟩:=hrel;obtain⟨us,hus⟩:∃ us,us=xC P xa xb i ys j:=⟨_,rfl⟩
    rw[<-hus] at hown;have lU:Hid (us.length=N):=hid (by rw[hus,nP,lY.out]);have dU:fF P us:=by rw[hus];exact Em (by omega) _ _ _ dY _
    have HU:=hid hus;clear hus;have f0:=(bx2.below hbel bx2.lt).h0;have f1:=(bx2.below hbel bx2.lt).h1;have f2:=(bx2.below hbel bx2.lt).h2;by_cases hjm:j<m
    ·have hnn:=HN.out;have cA:=(Below.cell hbel (p:=⟨g1,i,none⟩) z1).trans (HCA.out i hlt);have cB:=(Below.cell hbel (p:=⟨g2,j,none⟩) z2).trans (HCB.out j hjm);have cU:=hown.cell (i:=i+j) (by rw[lU.out];omega);have fU:=hown.frozen (i+j);obtain⟨av,hav⟩:∃ b,b=xa.getD i 0:=⟨_,rfl⟩
     obtain⟨bv,hbv⟩:∃ b,b=xb.getD j 0:=⟨_,rfl⟩
     obtain⟨uv,huv⟩:∃ b,b=us.getD (i+j) 0:=⟨_,rfl⟩
     rw[<-hav] at cA;rw[<-hbv] at cB;rw[<-huv] at cU;have dAv:0<=av/\av<P:=by rw[hav];exact eX (by omega) dA _
     have dBv:0<=bv/\bv<P:=by rw[hbv];exact eX (by omega) dB _
     have dUv:0<=uv/\uv<P:=by rw[huv];exact eX (by omega) dU _
     obtain⟨s1,s2,s3⟩:=ahg hp2 dAv dBv dUv;have HT:Hid (xC P xa xb i ys (j+1)=us.set (i+j) ((uv+av*bv)%P)):=hid (by rw[xC,<-HU.out,Ej,hav,hbv,huv]);have j0:(0:Int)<=(i:Int)+(j:Int):=by omega
     have j1:(i:Int)+(j:Int)< (N:Int):=by omega
     have j2:((i:Int)+(j:Int)).toNat=i+j:=by omega
     have j3:(i:Int)< (m:Int):=by omega
     have j4:(j:Int)< (m:Int):=by omega
     obtain⟨u1,u2⟩:=dUv;clear hav hbv huv hnn;have hset:=(hown.set (i+j) ((uv+av*bv)%P)).drew;have hbs:=(Below.setCell hbel (p:=⟨w2.heap.size,i+j,none⟩) (zy _) (.int .i64 ((uv+av*bv)%P))).drew;go_wp2_with(fail)
     have w1':IntKind.i64.wrap ((i:Int)+(j:Int))=(i:Int)+(j:Int):=IntWalk.i64_in _ (by omega);have w2':IntKind.i64.wrap (av*bv)=av*bv:=IntWalk.i64_in _ (by clear w1';omega);have w3':IntKind.i64.wrap (uv+av*bv)=uv+av*bv:=IntWalk.i64_in _ (by clear w1' w2';omega);have pz:¬ P=0:=by omega
     have tm:(uv+av*bv).tmod P=(uv+av*bv)%P:=yS s3
     go_still_tail 24,(by kernel_rfl)
     clear w1' w2' w3' pz tm;change wpList _ _ _ _ _ wr.drew;clear hown hbel;go_wp2_with(fail)
     go_roundw;case rel=>exact⟨j+1,by omega,by go_num,by rw[HT.out];exact hset,hbs⟩
     case measure=>simp[intOf];omega
    ·have ej:j=m:=by omega
     have HE:Hid (us=pK P m xa xb z0 (i+1)):=hid (by rw[HS.out,HU.out,ej]);rw[HE.out] at hown;clear ej;go_wp2_with(fail)
     go_roundw;case rel=>exact⟨i+1,by omega,by go_num,hown,hbel⟩
     case measure=>simp[intOf];omega
  ·have ei:i=m:=by omega
   obtain⟨cs,hcs⟩:∃ cs,cs=pK P m xa xb z0 m:=⟨_,rfl⟩
   have HE:Hid (ys=cs):=hid (by rw[HY.out,hcs,ei]);rw[HE.out] at hown lY dY;have HR:Hid (xE P m mod xa xb=(pO P m mod cs (m-1)).take m):=hid (by rw[xE,<-HN.out,<-HZ.out,hcs]);clear hcs ei HY HE;go_wp2_with(fail)
   clear f0 f1 f2
   go_loopw [12] (fun vi wr=>∃ n:Nat,n<=m-1/\vi=.int .i64 (2*(m:Int)-2-n)/\Own wr w2.heap.size (.slice (some ⟨w2.heap.size,0,none⟩) N N) (pO P m mod cs n)/\Below w2.heap.size w2 wr) (fun vi _=>(intOf vi+1-m).toNat)
   case atStart=>exact⟨0,by omega,by simp,hown,hbel⟩
   case round=>
    obtain⟨n,hn,rfl,hown,hbel⟩:=hrel;obtain⟨ts,hts⟩:∃ ts,ts=pO P m mod cs n:=⟨_,rfl⟩
    rw[<-hts] at hown;have lT:Hid (ts.length=N):=hid (by rw[hts,nS,lY.out]);have dT:fF P ts:=by rw[hts];exact Ep (by omega) _ _ dY _
    have HT:=hid hts;clear hts;have f0:=(bx2.below hbel bx2.lt).h0;have f1:=(bx2.below hbel bx2.lt).h1;have f2:=(bx2.below hbel bx2.lt).h2;by_cases hlt:n<m-1
    ·obtain⟨i,hi⟩:∃ i,2*m-2=n+i:=⟨2*m-2-n,by omega⟩
     obtain⟨s,hs⟩:∃ s,i=m+s:=⟨i-m,by omega⟩
     have ei:2*(m:Int)-2- (n:Int)=(i:Int):=by omega
     rw[ei];have i0:(0:Int)<=(i:Int):=by omega
     have i1:(m:Int)<=(i:Int):=by omega
     have i2:(i:Int)< (N:Int):=by have:=HN.out;omega
     have hmm:=hml (by omega);obtain⟨bm,om,rfl,hbm,ae6⟩:=hmc (by intro e;rw[e] at hmm;simp at hmm;omega);have HMM:=hid hmm;have HS:Hid (pO P m mod cs (n+1)=qM P m mod i ts m):=hid (by rw[pO,<-HT.out,show 2*m-2-n=i by omega]);have Hi:=hid hi;have Hs:=hid hs;clear hi hs ei hmm hn;go_wp2_with(fail)
     clear f0 f1 f2
     go_loopw [13] (fun vj wr=>∃ j:Nat,j<=m/\vj=.int .i64 j/\Own wr w2.heap.size (.slice (some ⟨w2.heap.size,0,none⟩) N N) (qM P m mod i ts j)/\Below w2.heap.size w2 wr) (fun vj _=>m- (intOf vj).toNat)
     case atStart=>exact⟨0,by omega,rfl,hown,hbel⟩
     case round=>
      obtain⟨j,hj,rfl,hown,hbel⟩:=hrel;obtain⟨us,hus⟩:∃ us,us=qM P m mod i ts j:=⟨_,rfl⟩
      rw[<-hus] at hown;have lU:Hid (us.length=N):=hid (by rw[hus,nR,lT.out]);have dU:fF P us:=by rw[hus];exact Eo (by omega) _ _ _ dT _
      have HU:=hid hus;clear hus;have f0:=(bx2.below hbel bx2.lt).h0;have f1:=(bx2.below hbel bx2.lt).h1;have f2:=(bx2.below hbel bx2.lt).h2;by_cases hjm:j<m
      ·have hs':=Hs.out;have hmm:=HMM.out;have cM:=(Below.cell hbel (p:=⟨bm,om+j,none⟩) hbm).trans (ae6 j (by omega));have cU:=hown.cell (i:=s+j) (by rw[lU.out];omega);have cI:=hown.cell (i:=i) (by rw[lU.out];omega);have fU:=hown.frozen (s+j);obtain⟨mv,hmv⟩:∃ b,b=mod.getD j 0:=⟨_,rfl⟩
       obtain⟨iv,hiv⟩:∃ b,b=us.getD i 0:=⟨_,rfl⟩
       obtain⟨uv,huv⟩:∃ b,b=us.getD (s+j) 0:=⟨_,rfl⟩
       rw[<-hmv] at cM;rw[<-hiv] at cI;rw[<-huv] at cU;have dMv:0<=mv/\mv<P:=by rw[hmv];exact eX (by omega) hmd _
       have dIv:0<=iv/\iv<P:=by rw[hiv];exact eX (by omega) dU _
       have dUv:0<=uv/\uv<P:=by rw[huv];exact eX (by omega) dU _
       obtain⟨s1,s2,s3⟩:=aae hp hp2 dIv dMv dUv;have HX:Hid (qM P m mod i ts (j+1)=us.set (s+j) ((uv+(P-iv)*mv)%P)):=hid (by rw[qM,<-HU.out,rdStep,show i-m+j=s+j by omega,hmv,hiv,huv]);have j0:(0:Int)<=(s:Int)+(j:Int):=by omega
       have j1:(s:Int)+(j:Int)< (N:Int):=by omega
       have j2:((s:Int)+(j:Int)).toNat=s+j:=by omega
       have j4:(j:Int)< (m:Int):=by omega
       have j5:(j:Int)< (mod.length:Int):=by omega
       have e1:Hid ((i:Int)- (m:Int)=(s:Int)):=hid (by omega);obtain⟨t1,t2⟩:=dIv;obtain⟨u1,u2⟩:=dUv;clear hmv hiv huv hs' hmm dMv;have hset:=(hown.set (s+j) ((uv+(P-iv)*mv)%P)).drew;have hbs:=(Below.setCell hbel (p:=⟨w2.heap.size,s+j,none⟩) (zy _) (.int .i64 ((uv+(P-iv)*mv)%P))).drew;go_wp2_with(fail)
       have x1:IntKind.i64.wrap ((i:Int)- (m:Int))=(s:Int):=by rw[e1.out];exact IntWalk.i64_in _ (by omega)
       have x2:IntKind.i64.wrap ((s:Int)+(j:Int))=(s:Int)+(j:Int):=IntWalk.i64_in _ (by clear x1;omega);have x3:IntKind.i64.wrap (P-iv)=P-iv:=IntWalk.i64_in _ (by clear x1 x2;omega);have x4:IntKind.i64.wrap ((P-iv)*mv)=(P-iv)*mv:=IntWalk.i64_in _ (by clear x1 x2 x3;omega);have x5:IntKind.i64.wrap (uv+(P-iv)*mv)=uv+(P-iv)*mv:=IntWalk.i64_in _ (by clear x1 x2 x3 x4;omega);have pz:¬ P=0:=by clear x1 x2 x3 x4 x5;omega
       have tm:(uv+(P-iv)*mv).tmod P=(uv+(P-iv)*mv)%P:=yS s3
       go_still_tail 34,(by kernel_rfl)
       clear x1 x2 x3 x4 x5 pz tm;change wpList _ _ _ _ _ wr.drew;clear hown hbel;go_wp2_with(fail)
       go_roundw;case rel=>exact⟨j+1,by omega,by go_num,by rw[HX.out];exact hset,hbs⟩
       case measure=>simp[intOf];omega
      ·have ej:j=m:=by omega
       have HEE:Hid (us=pO P m mod cs (n+1)):=hid (by rw[HS.out,HU.out,ej]);rw[HEE.out] at hown;have hst:Hid ((i:Int)-1=2*(m:Int)-2- ((n+1:Nat):Int)):=hid (by have:=Hi.out;omega);clear ej;go_wp2_with(fail)
       go_roundw;case rel=>exact⟨n+1,by omega,iC hst.out,hown,hbel⟩
       case measure=>simp[intOf];omega
    ·have en:n=m-1:=by omega
     have HFF:Hid (ts.take m=xE P m mod xa xb):=hid (by rw[HR.out,HT.out,en]);have hlen:m<=ts.length:=by rw[lT.out];have:=HN.out;omega
     have hsl:=hown.abO hlen;rw[HFF.out] at hsl;have lF:Hid ((xE P m mod xa xb).length=m):=hid (BK _ _ _ _ _ hm1);have dF:fF P (xE P m mod xa xb):=yc (by omega) _ _ _ _;obtain⟨fs,hfs⟩:∃ l,l=xE P m mod xa xb:=⟨_,rfl⟩
     rw[<-hfs] at hsl lF dF;have HFS:Hid (ng P fs=ng P (xE P m mod (bY P (inn (dw P m) x) m) (bY P (inn (dw P m) y) m))):=hid (by rw[hfs,HXA.out,HXB.out]);have hkw:ay w wr:=ku.tr hbel;have en':2*(m:Int)-2- (n:Int)< (m:Int):=by omega
     have mN:(m:Int)<=(N:Int):=by have:=HN.out;omega
     clear hlt en hlen hfs;go_wp2_with(fail)
     go_region_held3 (fun w'=>w'.cell? ⟨w.heap.size,0,none⟩=some (.int .i64 P)/\w'.cell? ⟨w.heap.size,1,none⟩=some (.int .i64 m)/\w'.cell? ⟨w.heap.size,2,none⟩=some (.slice am mod.length cm)) ((simp[*];done))
      ((go_at_call 354;(with_reducible refine(zh P m (.slice am mod.length cm) _ fs _ (hsl.kept (aC _)) (by omega) hp2 dF (by rw[lF.out];exact HQM.out) (by rw[lF.out];exact hm)).mono ?_);rintro e w4 ⟨rfl,hk4⟩;have bx4:=((bx2.below hbel bx2.lt).kept (aC _)).kept hk4;have p0:=bx4.h0;have p1:=bx4.h1;have p2:=bx4.h2))
     go_wp2_with(fail)
     go_ret;exact⟨aW HFS.out,(hkw.tr (aC _)).tr hk4⟩
theorem jw (w:World) (g i:Nat) (u:Value):w.grownBy (w.setCell ⟨g,i,none⟩ u).drew (some g):=by
 have h:=aj w g i u;exact⟨h.os,h.tape,h.output,h.size,h.block⟩
theorem XD (P:Int) (m:Nat) (vm:Value) (x y:Int) (w:World) (hp:2<=P) (hp2:P<=256) (hm1:1<=m) (hm:m<=8) (hq0:0<dw P m) (hq:dw P m<=256) (hqm:P^m<=256):
  Calls Tryz.prog 352 #[.agg #[.int .i64 P,.int .i64 m,vm],.int .i64 x,.int .i64 y] w fun e w'=>e=.returned (.int .i64 (Af P m (inn (dw P m) x) (inn (dw P m) y)))/\ay w w':=by
 have hk0:=ah w (.cells #[.int .i64 P,.int .i64 m,vm] 24);have hbx:=aS w P m vm 24;have HQ0:=hid hq0;have HQ:=hid hq;have HQM:=hid hqm;clear hq0 hq hqm;go_enter Tryz.func352,Tryz.ntmps352;go_wp2_with(first|(go_at_call 353;(with_reducible refine(jM P m vm x _ hp hp2 hm HQ0.out HQ.out).mono ?_);rintro e w1 ⟨g1,rfl,ho1,hk1⟩;have bx1:=hbx.kept hk1;have a0:=bx1.h0;have a1:=bx1.h1;have a2:=bx1.h2)|(go_at_call 353;(with_reducible refine(jM P m vm y _ hp hp2 hm HQ0.out HQ.out).mono ?_);rintro e w2 ⟨g2,rfl,ho2,hk2⟩;have bx2:=bx1.kept hk2))
 clear a0 a1 a2;obtain⟨xa,hxa⟩:∃ xa,xa=bY P (inn (dw P m) x) m:=⟨_,rfl⟩
 obtain⟨xb,hxb⟩:∃ xb,xb=bY P (inn (dw P m) y) m:=⟨_,rfl⟩
 have lA:Hid (xa.length=m):=hid (by rw[hxa,aP]);have lB:Hid (xb.length=m):=hid (by rw[hxb,aP]);have dA:fF P xa:=by rw[hxa];exact gJ (by omega) m
 have dB:fF P xb:=by rw[hxb];exact gJ (by omega) m
 have HF:Hid (ng P (adL P xa xb m)=Af P m (inn (dw P m) x) (inn (dw P m) y)):=hid (by rw[hxa,hxb];exact Xe (by omega) m _ _);rw[<-hxa] at ho1;rw[<-hxb] at ho2;clear hxa hxb;obtain⟨B1,hB1⟩:∃ B,B=(w.alloc (.cells #[.int .i64 P,.int .i64 m,vm] 24)).heap.size:=⟨_,rfl⟩
 rw[<-hB1] at ho1;have hbB:w.heap.size<B1:=by rw[hB1];simp
 have hg1:=ho1.lt;have abP:=ho1.kept hk2;have hg2:=ho2.lt;have ku:ay w w2:=(hk0.tr hk1).tr hk2;have hbel0:Below B1 w2 w2:=Below.refl _ _;have hgg:g2≠g1:=by omega
 have anC:g1<w2.heap.size:=by have:=hk2.size;omega
 clear hB1 ho1;obtain⟨v2,hv2⟩:∃ v,v=w2:=⟨_,rfl⟩
 go_loopw [9] (fun vi wr=>∃ i:Nat,i<=m/\vi=.int .i64 i/\Own wr B1 (.slice (some ⟨g1,0,none⟩) m m) (adL P xa xb i)/\w2.grownBy wr (some g1)) (fun vi _=>m- (intOf vi).toNat)
 case atStart=>exact⟨0,by omega,rfl,abP,World.grownBy.refl _ _⟩
 case round=>
  obtain⟨i,hi,rfl,hown,hgr⟩:=hrel;clear abP;obtain⟨us,hus⟩:∃ us,us=adL P xa xb i:=⟨_,rfl⟩
  rw[<-hus] at hown;have lU:Hid (us.length=m):=hid (by rw[hus,yg,lA.out]);have dU:fF P us:=by rw[hus];exact MI (by omega) _ dA _
  have HU:=hid hus;clear hus;have hbw:Below B1 w2 wr:=dI hbel0 hgr (by omega) hg1.1;have bx:=bx2.below hbw hbB;have f0:=bx.h0;have f1:=bx.h1;have f2:=bx.h2;by_cases hlt:i<m
  ·have cB:wr.cell? ⟨g2,i,none⟩=some (.int .i64 (xb.getD i 0)):=(World.cell?_of_block (a:=⟨g2,i,none⟩) (hgr.block g2 hg2.2 (fun e=>hgg (by cases e;rfl)))).trans (ho2.cell (by rw[lB.out];exact hlt));have cU:=hown.cell (i:=i) (by rw[lU.out];exact hlt);have fU:=hown.frozen i;obtain⟨bv,hbv⟩:∃ b,b=xb.getD i 0:=⟨_,rfl⟩
   obtain⟨uv,huv⟩:∃ b,b=us.getD i 0:=⟨_,rfl⟩
   rw[<-hbv] at cB;rw[<-huv] at cU;have dBv:0<=bv/\bv<P:=by rw[hbv];exact eX (by omega) dB _
   have dUv:0<=uv/\uv<P:=by rw[huv];exact eX (by omega) dU _
   have HT:Hid (adL P xa xb (i+1)=us.set i ((uv+bv)%P)):=hid (by rw[adL,<-HU.out,hbv,huv]);have j3:(i:Int)< (m:Int):=by omega
   obtain⟨b1,b2⟩:=dBv;obtain⟨u1,u2⟩:=dUv;clear hbv huv;have hset:=(hown.set i ((uv+bv)%P)).drew;have adw:=aO hgr (jw wr g1 i (.int .i64 ((uv+bv)%P)));clear hbw bx;go_wp2_with(fail)
   have w3':IntKind.i64.wrap (uv+bv)=uv+bv:=IntWalk.i64_in _ (by omega);go_region;clear w3';clear hown hgr;go_wp2_with(fail)
   go_roundw;case rel=>exact⟨i+1,by omega,by go_num,by rw[HT.out];exact hset,adw⟩
   case measure=>simp[intOf];omega
  ·have ei:i=m:=by omega
   have HFF:Hid (ng P us=Af P m (inn (dw P m) x) (inn (dw P m) y)):=hid (by rw[HU.out,ei,HF.out]);have hkw:ay w wr:=ku.trans (hbw.mono (by omega));clear ei;go_wp2_with(go_at_call 354;(with_reducible refine(zh P m vm _ us _ hown.sl (by omega) hp2 dU (by rw[lU.out];exact HQM.out) (by rw[lU.out];exact hm)).mono ?_);rintro e w3 ⟨rfl,hk3⟩)
   go_ret;exact⟨aW HFF.out,hkw.tr hk3⟩
theorem XE (P:Int) (m:Nat) (vm:Value) (x:Int) (w:World) (hp:2<=P) (hp2:P<=256) (hm1:1<=m) (hm:m<=8) (hq0:0<dw P m) (hq:dw P m<=256) (hqm:P^m<=256):
  Calls Tryz.prog 289 #[.agg #[.int .i64 P,.int .i64 m,vm],.int .i64 x] w fun e w'=>e=.returned (.int .i64 (AZ P m (inn (dw P m) x)))/\ay w w':=by
 have hk0:=ah w (.cells #[.int .i64 P,.int .i64 m,vm] 24);have hbx:=aS w P m vm 24;have HQ0:=hid hq0;have HQ:=hid hq;have HQM:=hid hqm;clear hq0 hq hqm;go_enter Tryz.func289,Tryz.ntmps289;go_wp2_with(go_at_call 353;(with_reducible refine(jM P m vm x _ hp hp2 hm HQ0.out HQ.out).mono ?_);rintro e w2 ⟨g1,rfl,ho1,hk1⟩;have bx2:=hbx.kept hk1)
 obtain⟨xa,hxa⟩:∃ xa,xa=bY P (inn (dw P m) x) m:=⟨_,rfl⟩
 have lA:Hid (xa.length=m):=hid (by rw[hxa,aP]);have dA:fF P xa:=by rw[hxa];exact gJ (by omega) m
 have HF:Hid (ng P (ngL P xa m)=AZ P m (inn (dw P m) x)):=hid (by rw[hxa];exact Xf (by omega) m _);rw[<-hxa] at ho1;clear hxa;obtain⟨B1,hB1⟩:∃ B,B=(w.alloc (.cells #[.int .i64 P,.int .i64 m,vm] 24)).heap.size:=⟨_,rfl⟩
 rw[<-hB1] at ho1;have hbB:w.heap.size<B1:=by rw[hB1];simp
 have hg1:=ho1.lt;have ku:ay w w2:=hk0.tr hk1;have hbel0:Below B1 w2 w2:=Below.refl _ _;clear hB1
 go_loopw [6] (fun vi wr=>∃ i:Nat,i<=m/\vi=.int .i64 i/\Own wr B1 (.slice (some ⟨g1,0,none⟩) m m) (ngL P xa i)/\w2.grownBy wr (some g1)) (fun vi _=>m- (intOf vi).toNat)
 case atStart=>exact⟨0,by omega,rfl,ho1,World.grownBy.refl _ _⟩
 case round=>
  obtain⟨i,hi,rfl,hown,hgr⟩:=hrel;clear ho1;obtain⟨us,hus⟩:∃ us,us=ngL P xa i:=⟨_,rfl⟩
  rw[<-hus] at hown;have lU:Hid (us.length=m):=hid (by rw[hus,yh,lA.out]);have dU:fF P us:=by rw[hus];exact WO (by omega) dA _
  have HU:=hid hus;clear hus;have hbw:Below B1 w2 wr:=dI hbel0 hgr (by omega) hg1.1;have bx:=bx2.below hbw hbB;have f0:=bx.h0;have f1:=bx.h1;have f2:=bx.h2;by_cases hlt:i<m
  ·have cU:=hown.cell (i:=i) (by rw[lU.out];exact hlt);have fU:=hown.frozen i;obtain⟨uv,huv⟩:∃ b,b=us.getD i 0:=⟨_,rfl⟩
   rw[<-huv] at cU;have dUv:0<=uv/\uv<P:=by rw[huv];exact eX (by omega) dU _
   have HT:Hid (ngL P xa (i+1)=us.set i (-uv%P)):=hid (by rw[ngL,<-HU.out,huv,show P-us.getD i 0=-us.getD i 0+P*1 by omega,wY]);have j3:(i:Int)< (m:Int):=by omega
   obtain⟨u1,u2⟩:=dUv;clear huv;have hset:=(hown.set i (-uv%P)).drew;have adw:=aO hgr (jw wr g1 i (.int .i64 (-uv%P)));clear hbw bx;go_wp2_with(fail)
   have w3':IntKind.i64.wrap (P-uv)=P-uv:=IntWalk.i64_in _ (by omega);go_region;clear w3';clear hown hgr;go_wp2_with(fail)
   go_roundw;case rel=>exact⟨i+1,by omega,by go_num,by rw[HT.out];exact hset,adw⟩
   case measure=>simp[intOf];omega
  ·have ei:i=m:=by omega
   have HFF:Hid (ng P us=AZ P m (inn (dw P m) x)):=hid (by rw[HU.out,ei,HF.out]);have hkw:ay w wr:=ku.trans (hbw.mono (by omega));clear ei;go_wp2_with(go_at_call 354;(with_reducible refine(zh P m vm _ us _ hown.sl (by omega) hp2 dU (by rw[lU.out];exact HQM.out) (by rw[lU.out];exact hm)).mono ?_);rintro e w3 ⟨rfl,hk3⟩)
   go_ret;exact⟨aW HFF.out,hkw.tr hk3⟩
def Of (G:GFd) (P M:Int) (mod:List Int):Prop:=G.P=P/\G.M=M/\G.mod=mod
theorem OV (G:GFd) (t:aK G) (P M:Int) (mod:List Int) (vm:Value) (x y:Int) (w:World) (ho:Of G P M mod):
  Calls Tryz.prog 352 #[.agg #[.int .i64 P,.int .i64 M,vm],.int .i64 x,.int .i64 y] w fun e w'=>e=.returned (.int .i64 (gu G x y))/\ay w w':=by
 obtain⟨rfl,rfl,rfl⟩:=ho;obtain⟨q1,q2,q3,q4,q5,q6,q7⟩:=t.qb;have hq:=t.hq;obtain⟨m,hm⟩:=zY (show 0<=G.M by omega);have ht:G.M.toNat=m:=by omega
 rw[ht] at q7;have hqm:dw G.P m=G.q:=by rw[<-hm];exact hq.symm
 have h:=XD G.P m vm x y w q3 q4 (by omega) (by omega) (by omega) (by omega) (by omega);rw[<-hm,<-hq] at h;refine h.mono fun e w' ⟨h1,h2⟩=>⟨?_,h2⟩
 rw[h1];unfold gu;rw[ht]
theorem zi (G:GFd) (t:aK G) (P M:Int) (mod:List Int) (vm:Value) (x:Int) (w:World) (ho:Of G P M mod):
  Calls Tryz.prog 289 #[.agg #[.int .i64 P,.int .i64 M,vm],.int .i64 x] w fun e w'=>e=.returned (.int .i64 (iE G x))/\ay w w':=by
 obtain⟨rfl,rfl,rfl⟩:=ho;obtain⟨q1,q2,q3,q4,q5,q6,q7⟩:=t.qb;have hq:=t.hq;obtain⟨m,hm⟩:=zY (show 0<=G.M by omega);have ht:G.M.toNat=m:=by omega
 rw[ht] at q7;have hqm:dw G.P m=G.q:=by rw[<-hm];exact hq.symm
 have h:=XE G.P m vm x w q3 q4 (by omega) (by omega) (by omega) (by omega) (by omega);rw[<-hm,<-hq] at h;refine h.mono fun e w' ⟨h1,h2⟩=>⟨?_,h2⟩
 rw[h1];unfold iE;rw[ht]
theorem pq (G:GFd) (t:aK G) (P M:Int) (mod:List Int) (vm:Value) (x y:Int) (w:World) (ho:Of G P M mod) (hvm:Sl w vm mod):
  Calls Tryz.prog 351 #[.agg #[.int .i64 P,.int .i64 M,vm],.int .i64 x,.int .i64 y] w fun e w'=>e=.returned (.int .i64 (bF G x y))/\ay w w':=by
 obtain⟨rfl,rfl,rfl⟩:=ho;obtain⟨q1,q2,q3,q4,q5,q6,q7⟩:=t.qb;have hq:=t.hq;obtain⟨m,hm⟩:=zY (show 0<=G.M by omega);have ht:G.M.toNat=m:=by omega
 rw[ht] at q7;have hqm:dw G.P m=G.q:=by rw[<-hm];exact hq.symm
 have hsh:=t.shape;have hml:1<m->G.mod.length=m:=fun h=>by have:=(hsh.2.2.2 (by omega)).1;omega
 have hmd:fF G.P G.mod:=by
  by_cases e:m=1
  ·have:=hsh.2.2.1 (by omega);rw[this];intro x hx;cases hx
  ·exact(hsh.2.2.2 (by omega)).2
 have h:=XC G.P m vm G.mod x y w hvm q3 q4 (by omega) (by omega) (by omega) (by omega) (by omega) hml hmd;rw[<-hm,<-hq] at h;refine h.mono fun e w' ⟨h1,h2⟩=>⟨?_,h2⟩
 have hr:=t.fs.RF (inn G.q x) (inn G.q y);have hm2:t.fs.m=m:=ht;have hP2:t.fs.P=G.P:=rfl;have hmo:t.fs.mod=G.mod:=rfl;rw[hm2,hP2,hmo] at hr;rw[h1,hr,t.FK,ht]
end
section
open Go.RowKit Cw Cw.Gj
theorem abQ {G:GFd} (t:aK G) {x:Int} {k:Nat} (hk:(k:Int)<G.q) (h:bF G x k=1):(k:Int)=fG G x:=(Kz t x k ⟨by omega,hk⟩ (by rw[t.mul_comm];exact h)).symm
theorem abR {G:GFd} (t:aK G) {x:Int} {k:Nat} (hk:G.q<=(k:Int)) (h:∀ y:Nat,1<=y->y<k->bF G x y≠1):fG G x=0:=by
 by_cases hx:inn G.q x=0
 ·unfold fG;rw[zu hx]
 ·exfalso;obtain⟨b1,b2,b3⟩:=Gj.qQ t x hx;obtain⟨y,hy⟩:=zY b1;have hy0:y≠0:=fun e=>by
   rw[e] at hy;rw[hy] at b3;have b3:t.e 0*t.e x=1:=b3;rw[t.bC,Rg.zero_mul] at b3;exact Fd.dO b3.symm
  refine h y (by omega) (by omega) ?_;rw[<-hy];refine t.Iw (t.eY _ _) ⟨by omega,by have:=t.qb;omega⟩ ?_;rw[t.fQ,Rg.mul_comm,b3,t.iH]
set_option maxRecDepth 100000 in
theorem Tq (G:GFd) (t:aK G) (P M:Int) (mod:List Int) (vm:Value) (x:Int) (w:World) (ho:Hid (Of G P M mod)) (hvm:Sl w vm mod):
  Calls Tryz.prog 287 #[.agg #[.int .i64 P,.int .i64 M,vm],.int .i64 x] w fun e w'=>e=.returned (.int .i64 (fG G x))/\ay w w':=by
 have hk0:=ah w (.cells #[.int .i64 P,.int .i64 M,vm] 24);have hbx:=aS w P M vm 24;have smv:=hvm.kept hk0;have HZ1:(w.alloc (.cells #[.int .i64 P,.int .i64 M,vm] 24)).heap.size=w.heap.size+1:=by simp
 have HZ1:=hid HZ1;obtain⟨w1,hw1⟩:∃ w1,w1=w.alloc (.cells #[.int .i64 P,.int .i64 M,vm] 24):=⟨_,rfl⟩
 rw[<-hw1] at hk0 hbx smv HZ1;obtain⟨q1,q2,q3,q4,q5,q6,q7⟩:=t.qb;have HQ:Hid (dw P M=G.q):=hid (by rw[<-ho.out.1,<-ho.out.2.1,<-t.hq]);clear q3 q4 q5 q6 q7;go_enter Tryz.func287,Tryz.ntmps287;go_wp2_with(fail)
 rw[<-hw1];clear hw1
 go_loopw [5] (fun vi wr=>∃ k:Nat,1<=k/\(k:Int)<=G.q/\vi=.int .i64 k/\Hid (∀ y:Nat,1<=y->y<k->bF G x y≠1)/\ay w1 wr) (fun vi _=>(G.q-intOf vi).toNat)
 case atStart=>exact⟨1,by omega,by omega,rfl,hid (fun y h1 h2=>by omega),ay.rfl' _⟩
 case round=>
  obtain⟨k,hk1,hkq,rfl,hno,hkw⟩:=hrel;have hbw:=hbx.kept hkw;have c0:=hbw.h0;have c1:=hbw.h1;have c2:=hbw.h2;have smw:=smv.kept hkw;by_cases hlt:(k:Int)<G.q
  ·obtain⟨m,hm⟩:∃ m,m=bF G x k:=⟨_,rfl⟩
   have HM:Hid (bF G x k=m):=hid hm.symm;by_cases h1:m=1
   ·subst h1;have HI:=hid (abQ t hlt hm.symm);clear hm;go_wp2_with(first|(go_at_call 22;(with_reducible refine(eF P M vm _).mono ?_);rintro e w3 ⟨rfl,k3⟩;rw[HQ.out];have b3:=hbw.kept k3;have d0:=b3.h0;have d1:=b3.h1;have d2:=b3.h2)|(go_at_call 351;(with_reducible refine(pq G t P M mod vm x k _ ho.out (smw.kept k3)).mono ?_);rintro e w4 ⟨rfl,k4⟩;rw[HM.out]))
    go_ret;exact⟨aW HI.out,hk0.tr (hkw.tr (k3.tr k4))⟩
   ·have tm:(m==1)=false:=by simpa using h1
    have hno':Hid (∀ y:Nat,1<=y->y<k+1->bF G x y≠1):=hid (fun y h2 h3=>by
     by_cases e:y=k
     ·subst e;rw[<-hm];exact h1
     ·exact hno.out y h2 (by omega))
    clear hm h1;go_wp2_with(first|(go_at_call 22;(with_reducible refine(eF P M vm _).mono ?_);rintro e w3 ⟨rfl,k3⟩;rw[HQ.out];have b3:=hbw.kept k3;have d0:=b3.h0;have d1:=b3.h1;have d2:=b3.h2)|(go_at_call 351;(with_reducible refine(pq G t P M mod vm x k _ ho.out (smw.kept k3)).mono ?_);rintro e w4 ⟨rfl,k4⟩;rw[HM.out]))
    go_roundw;case rel=>exact⟨k+1,by omega,by omega,by go_num,hno',hkw.tr (k3.tr k4)⟩
    case measure=>simp[intOf];omega
  ·have hge:G.q<=(k:Int):=by omega
   have HI:=hid (abR t hge hno.out);go_wp2_with((go_at_call 22;(with_reducible refine(eF P M vm _).mono ?_);rintro e w3 ⟨rfl,k3⟩;rw[HQ.out];have b3:=hbw.kept k3;have d0:=b3.h0;have d1:=b3.h1;have d2:=b3.h2))
   go_ret;exact⟨aW HI.out.symm,hk0.tr (hkw.tr k3)⟩
theorem Aw (v v':Value) (l l':List Int) (w:World) (hv:Sl w v l) (hv':Sl w v' l') (r:Bool) (hr:r=true↔l=l'):
  Calls Tryz.prog 15 #[v,v'] w fun e w'=>e=.returned (.bool r)/\∃ m,w'=w.drewN m:=by
 obtain⟨a,cap,rfl,hcap,⟨hcm,_⟩,hc⟩:=hv;obtain⟨a',cap',rfl,hcap',⟨hcm',_⟩,hc'⟩:=hv';unfold maxLen at hcm hcm';have HR:=hid hr;clear hr;by_cases hL:l.length=l'.length;case neg=>
  have hrf:r=false:=by
   cases r
   ·rfl
   ·exact absurd (by rw[HR.out.1 rfl]) hL
  subst hrf;have tL:((l.length:Int) != (l'.length:Int))=true:=by simp;omega
  clear hL;go_enter Tryz.func15,Tryz.ntmps15;go_wp2_with(fail)
  go_ret;exact⟨rfl,0,rfl⟩
 have tL:((l.length:Int) != (l'.length:Int))=false:=by simp;omega
 have HL:=hid hL;have hl0:∀ k,k<l.length->l'≠ []:=fun k hk e=>by rw[e] at hL;simp at hL;rw[hL] at hk;simp at hk
 rw[<-hL] at hcap' hc' tL;rw[<-hL];clear hL;go_enter Tryz.func15,Tryz.ntmps15;go_wp2_with(fail)
 go_loopw [5] (fun vi wr=>∃ k:Nat,k<=l.length/\vi=.int .i64 k/\Hid (∀ i,i<k->l.getD i 0=l'.getD i 0)/\∃ n,wr=w.drewN n) (fun vi _=>l.length- (intOf vi).toNat)
 case atStart=>exact⟨0,by omega,rfl,hid (fun i hi=>by omega),0,rfl⟩
 case round=>
  obtain⟨k,hkl,rfl,hd,n,rfl⟩:=hrel;by_cases hlt:k<l.length
  ·obtain⟨b,off,rfl,hb,hcell⟩:=hc (by intro e;rw[e] at hlt;simp at hlt);obtain⟨b',off',rfl,hb',hcell'⟩:=hc' (hl0 k hlt);have e0:=hcell k hlt;have e1:=hcell' k hlt;obtain⟨z,hz⟩:∃ z,z=l.getD k 0:=⟨_,rfl⟩
   obtain⟨z',hz'⟩:∃ z,z=l'.getD k 0:=⟨_,rfl⟩
   rw[<-hz] at e0;rw[<-hz'] at e1;have HZ:=hid hz;have HZ':=hid hz';clear hc hc' hl0 hz hz' hcell hcell';by_cases hzz:z=z'
   ·have tz:(z != z')=false:=by simpa using hzz
    have HZZ:=hid hzz;clear hzz;go_wp2_with(fail)
    go_quiet(fail);go_wp2_with(fail)
    go_roundw;case rel=>exact⟨k+1,by omega,by go_num,hid (fun i hi=>by
     by_cases e:i=k
     ·rw[e,<-HZ.out,<-HZ'.out,HZZ.out]
     ·exact hd.out i (by omega)),by exact⟨_,rfl⟩⟩
    case measure=>simp[intOf];omega
   ·have hrf:r=false:=by
     cases r
     ·rfl
     ·exact absurd (by rw[HZ'.out,HZ.out,HR.out.1 rfl]) hzz
    subst hrf;have tz:(z != z')=true:=by simpa using hzz
    clear hzz;go_wp2_with(fail)
    go_quiet(fail);go_wp2_with(fail)
    go_ret;exact⟨rfl,by exact⟨_,World.drewN_drewN _ _ _⟩⟩
  ·have hrt:r=true:=HR.out.2 (fM HL.out (fun i hi=>hd.out i (by omega)));subst hrt;go_wp2_with(fail)
   go_ret;exact⟨rfl,_,rfl⟩
theorem Az (v v':Value) (A A':List (List Int)) (w:World) (hv:Rd w v A) (hv':Rd w v' A') (r:Bool) (hr:r=true↔A=A'):
  Calls Tryz.prog 113 #[v,v'] w fun e w'=>e=.returned (.bool r)/\∃ m,w'=w.drewN m:=by
 obtain⟨a,cap,rfl,hcap,hcm,hb0⟩:=hv.get;obtain⟨a',cap',rfl,hcap',hcm',ae7⟩:=hv'.get;unfold maxLen at hcm hcm';have HR:=hid hr;clear hr;by_cases hL:A.length=A'.length;case neg=>
  have hrf:r=false:=by
   cases r
   ·rfl
   ·exact absurd (by rw[HR.out.1 rfl]) hL
  subst hrf;have tL:((A.length:Int) != (A'.length:Int))=true:=by simp;omega
  clear hL;go_enter Tryz.func113,Tryz.ntmps113;go_wp2_with(fail)
  go_ret;exact⟨rfl,0,rfl⟩
 have tL:((A.length:Int) != (A'.length:Int))=false:=by simp;omega
 have HL:=hid hL;clear hL;go_enter Tryz.func113,Tryz.ntmps113;go_wp2_with(fail)
 go_loopw [5] (fun vi wr=>∃ k:Nat,k<=A.length/\vi=.int .i64 k/\Hid (∀ i,i<k->Gj.row A i=Gj.row A' i)/\∃ n,wr=w.drewN n) (fun vi _=>A.length- (intOf vi).toNat)
 case atStart=>exact⟨0,by omega,rfl,hid (fun i hi=>by omega),0,rfl⟩
 case round=>
  obtain⟨k,hkl,rfl,hd,n,hn⟩:=hrel;have kw:ay w wr:=by rw[hn];exact aB _ _
  have HN:=hid hn;clear hn;by_cases hlt:k<A.length
  ·have hlt':k<A'.length:=by rw[<-HL.out];exact hlt
   obtain⟨bb,off,rfl,hbb⟩:=hb0 (by intro e;rw[e] at hlt;simp at hlt);obtain⟨bb',off',rfl,agL⟩:=ae7 (by intro e;rw[e] at hlt';simp at hlt');obtain⟨u,u1,u2⟩:=(hv.kept kw).cellAt hlt;obtain⟨u',u1',u2'⟩:=(hv'.kept kw).cellAt hlt';have i1:(k:Int)< (A.length:Int):=by omega
   have i2:(k:Int)< (A'.length:Int):=by omega
   by_cases hz:Gj.row A k=Gj.row A' k
   ·have HZ:=hid hz;clear hz hb0 ae7;go_wp2_with(fail)
    go_quiet((go_at_call 15;refine Calls.quiet_of (Aw u u' _ _ _ (u2.kept (aB _ _)) (u2'.kept (aB _ _)) true ⟨fun _=>HZ.out,fun _=>rfl⟩)));go_wp2_with(fail)
    go_roundw;case rel=>exact⟨k+1,by omega,by go_num,hid (fun i hi=>by
     by_cases e:i=k
     ·rw[e];exact HZ.out
     ·exact hd.out i (by omega)),by(rw[HN.out];exact⟨_,World.drewN_drewN _ _ _⟩)⟩
    case measure=>simp[intOf];omega
   ·have hrf:r=false:=by
     cases r
     ·rfl
     ·exact absurd (by rw[HR.out.1 rfl]) hz
    subst hrf;have HZ:=hid hz;clear hz hb0 ae7;go_wp2_with(fail)
    go_quiet((go_at_call 15;refine Calls.quiet_of (Aw u u' _ _ _ (u2.kept (aB _ _)) (u2'.kept (aB _ _)) false ⟨(fun h=>by cases h),fun h=>absurd h HZ.out⟩)));go_wp2_with(fail)
    go_ret;exact⟨rfl,by(rw[HN.out];exact⟨_,World.drewN_drewN _ _ _⟩)⟩
  ·have hrt:r=true:=HR.out.2 (Gj.iI HL.out fun i hi=>hd.out i (by omega));subst hrt;go_wp2_with(fail)
   go_ret;exact⟨rfl,_,HN.out⟩
theorem AA (P M:Int) (vm:Value) (v:Value) (l:List Int) (w:World) (hv:Sl w v l) (r:Int) (hr:((∀ j,j<l.length->0<=l.getD j 0/\l.getD j 0<dw P M)/\r=0)∨(¬ (∀ j,j<l.length->0<=l.getD j 0/\l.getD j 0<dw P M)/\r=2)):
  Calls Tryz.prog 162 #[.agg #[.int .i64 P,.int .i64 M,vm],v] w fun e w'=>e=.returned (.int .i64 r)/\ay w w':=by
 have hk0:=ah w (.cells #[.int .i64 P,.int .i64 M,vm] 24);have hbx:=aS w P M vm 24;have hv0:=hv.kept hk0;obtain⟨w1,hw1⟩:∃ w1,w1=w.alloc (.cells #[.int .i64 P,.int .i64 M,vm] 24):=⟨_,rfl⟩
 rw[<-hw1] at hk0 hbx hv0;obtain⟨a,cap,rfl,hcap,⟨hcm,_⟩,hc⟩:=hv0;unfold maxLen at hcm;have HR:=hid hr;clear hr hv;go_enter Tryz.func162,Tryz.ntmps162;go_wp2_with(fail)
 rw[<-hw1];clear hw1
 go_loopw [5] (fun vi wr=>∃ k:Nat,k<=l.length/\vi=.int .i64 k/\Hid (∀ j,j<k->0<=l.getD j 0/\l.getD j 0<dw P M)/\ay w1 wr) (fun vi _=>l.length- (intOf vi).toNat)
 case atStart=>exact⟨0,by omega,rfl,hid (fun j hj=>by omega),ay.rfl' _⟩
 case round=>
  obtain⟨k,hkl,rfl,hd,hkr⟩:=hrel;have bw:=hbx.kept hkr;have b0:=bw.h0;have b1:=bw.h1;have b2:=bw.h2;by_cases hlt:k<l.length
  ·obtain⟨bl,off,rfl,hb,hcell⟩:=hc (by intro e;rw[e] at hlt;simp at hlt);have ck:=(hkr.cell' hb).trans (hcell k hlt);obtain⟨z,hz⟩:∃ z,z=l.getD k 0:=⟨_,rfl⟩
   rw[<-hz] at ck;have HZ:=hid hz;have hlt':(k:Int)< (l.length:Int):=by omega
   clear hcell hz hc;by_cases hin:0<=z/\z<dw P M
   ·have HI:=hid hin;clear hin;go_wp2_with(fail)
    go_region_held3 (fun w'=>w'.cell? ⟨w.heap.size,0,none⟩=some (.int .i64 P)/\w'.cell? ⟨w.heap.size,1,none⟩=some (.int .i64 M)/\w'.cell? ⟨w.heap.size,2,none⟩=some vm/\w'.cell? ⟨bl,off+k,none⟩=some (.int .i64 z)) ((simp[*];done))
     ((go_at_call 284;(with_reducible refine(FY P M vm z _ true ⟨fun _=>HI.out,fun _=>rfl⟩).mono ?_);rintro e w3 ⟨rfl,hk3⟩;have dN:ay wr w3:=(by exact(aC _).tr hk3);have bw3:=bw.kept dN;have b0:=bw3.h0;have b1:=bw3.h1;have b2:=bw3.h2;have ck3:=(dN.cell' (hkr.lt hb)).trans ck))
    all_goals
     go_wp2_with(fail)
     go_roundw;case rel=>exact⟨k+1,by omega,by go_num,hid (fun j hj=>by
      by_cases e:j=k
      ·rw[e,<-HZ.out];exact HI.out
      ·exact hd.out j (by omega)),by exact hkr.tr dN⟩
     case measure=>simp[intOf];omega
   ·have HI:=hid hin;have hr2:r=2:=by
     rcases HR.out with⟨q,_⟩|⟨_,q⟩
     ·exact absurd (by have:=q k hlt;rw[<-HZ.out] at this;exact this) hin
     ·exact q
    subst hr2;clear hin;go_wp2_with(fail)
    go_region_held3 (fun w'=>w'.cell? ⟨w.heap.size,0,none⟩=some (.int .i64 P)/\w'.cell? ⟨w.heap.size,1,none⟩=some (.int .i64 M)/\w'.cell? ⟨w.heap.size,2,none⟩=some vm/\w'.cell? ⟨bl,off+k,none⟩=some (.int .i64 z)) ((simp[*];done))
     ((go_at_call 284;(with_reducible refine(FY P M vm z _ false ⟨(fun h=>by cases h),fun h=>absurd h HI.out⟩).mono ?_);rintro e w3 ⟨rfl,hk3⟩;have dN:ay wr w3:=(by exact(aC _).tr hk3);have bw3:=bw.kept dN;have b0:=bw3.h0;have b1:=bw3.h1;have b2:=bw3.h2;have ck3:=(dN.cell' (hkr.lt hb)).trans ck))
    all_goals
     go_wp2_with(fail)
     go_ret;exact⟨rfl,by exact hk0.tr (hkr.tr dN)⟩
  ·have hr0:r=0:=by
    rcases HR.out with⟨_,q⟩|⟨q,_⟩
    ·exact q
    ·exact absurd (fun j hj=>hd.out j (by omega)) q
   subst hr0;go_wp2_with(fail)
   go_ret;exact⟨rfl,hk0.tr hkr⟩
end
end Go.Proofs.YtoilbeadokallaaGreatDoor
