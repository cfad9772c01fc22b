/- Lemmas on the way to the row. Conditions: each lemma's own, stated with it. -/
import Derived.Test.YtoilbeadokallaaGreatDoorK08
import Derived.Test.YtoilbeadokallaaGreatDoorK09
import Derived.Test.YtoilbeadokallaaGreatDoorK10
import Derived.RegionTactic
import Derived.ChangeAlike
import Derived.Deep.RegionHeld3
set_option maxHeartbeats 2000000
namespace Go.Proofs.YtoilbeadokallaaGreatDoor
section
open Go.RowKit Cw Cw.Gj
theorem bJ {a b c:World} {g:Nat} (h:a.grownBy b (some g)) (k:ay b c):a.grownBy c (some g):=
 ⟨k.os.trans h.os,k.tape.trans h.tape,k.output.trans h.output,zJ h.size k.size,fun i hi hn=>(k.block i (zZ hi h.size)).trans (h.block i hi hn)⟩
theorem bW {a b:World} {g:Nat} (k:ay a b):a.grownBy b (some g):=⟨k.os,k.tape,k.output,k.size,fun i hi _=>k.block i hi⟩
theorem lW {a b:World} {g:Nat} (h:a.grownBy b (some g)) (n:Nat):a.grownBy (b.drewN n) (some g):=bJ h (aB b n)
theorem SN {a b:World} {g:Nat} (h:a.grownBy b (some g)):a.grownBy b.drew (some g):=bJ h (aC b)
theorem aQ {a b:World} {g:Nat} (h:a.grownBy b (some g)) (i:Nat) (u:Value):a.grownBy (b.setCell ⟨g,i,none⟩ u) (some g):=aO h (aj b g i u)
theorem aZ {a b:World} {g x o:Nat} (h:a.grownBy b (some g)) (hx:x<a.heap.size) (hn:x≠g):b.cell? ⟨x,o,none⟩=a.cell? ⟨x,o,none⟩:=World.cell?_of_block (w:=a) (a:=⟨x,o,none⟩) (h.block x hx (fun e=>hn (by cases e;rfl)))
theorem aH {w0 a b:World} {g B:Nat} (k:Below B w0 a) (h:a.grownBy b (some g)) (hg:B<=g) (hs:B<=a.heap.size):Below B w0 b:=k.grown h hs (fun _ e=>by cases e;exact hg)
theorem lX {o:Cw.Op} {a:Int} {us xs:List Int} {k:Nat} (h:k<xs.length):(iP o a us xs).getD k 0=if us.getD k 0=0 then xs.getD k 0 else o.add (xs.getD k 0) (o.mul a (us.getD k 0)):=qo h
theorem Bh {xs ys:List Int} (hl:xs.length=ys.length) (h:∀ i,i<xs.length->xs.getD i 0=ys.getD i 0):xs=ys:=fM hl h
theorem Xq (b:Nat) (G:GFd) (t:aK G) (bv n cap:Nat) (a:Int) (xs:List Int) (vu:Value) (us:List Int) (w0 w:World) (hg:dW w0 b G) (hk:ay w0 w) (hv:Own w w0.heap.size (.slice (some ⟨bv,0,none⟩) n cap) xs) (hu:Own w w0.heap.size vu us)
  (hne:vu.ownBlock≠some bv) (hl:us.length=xs.length) (hlen:xs.length<=1000):
  Calls Tryz.prog 186 #[.pointer (some ⟨b,0,none⟩),.slice (some ⟨bv,0,none⟩) n cap,.int .i64 a,vu] w fun e w'=>e=.returned (.tuple #[])/\w.grownBy w' (some bv)/\Own w' w0.heap.size (.slice (some ⟨bv,0,none⟩) n cap) (iP (opG G) a us xs):=by
 have hn:n=xs.length:=by
  rcases hv.form with⟨e,_⟩|⟨_,_,e,_⟩
  ·cases e
  ·cases e;rfl
 subst hn;have hbv:=hv.lt;obtain⟨ua,uc,rfl,hcap,hcm⟩:=hu.sl.lenOf;unfold maxLen at hcm;rw[hl] at hcap ⊢;have HL:=hid hl;have HNE:=hid hne;clear hl hne;have hu':Own w w0.heap.size (.slice ua xs.length uc) us:=by rw[<-HL.out];rw[HL.out] at hu ⊢;exact hu
 have akQ:(Value.slice ua xs.length uc).ownBlock≠some bv:=by have:=HNE.out;rw[HL.out] at this;exact this
 have hsz0:=hk.size;clear hu HNE;go_enter Tryz.func186,Tryz.ntmps186;go_wp2_with(fail)
 go_loopw [12,8,9] (fun vi _ _ wr=>∃ (k:Nat) (ys:List Int),k<=xs.length/\vi=.int .i64 k/\Hid (ys.length=xs.length)/\Hid (∀ j,j<xs.length->ys.getD j 0=if j<k then(iP (opG G) a us xs).getD j 0 else xs.getD j 0)/\
   Own wr w0.heap.size (.slice (some ⟨bv,0,none⟩) xs.length cap) ys/\w.grownBy wr (some bv)/\ay w0 wr) (fun vi _ _ _=>xs.length- (intOf vi).toNat)
 case atStart=>exact⟨0,xs,by omega,rfl,hid rfl,hid (fun j hj=>by simp),hv,World.grownBy.refl _ _,hk⟩
 case round=>
  obtain⟨k,ys,hkl,rfl,hyl,hys,hown,hgr,hkr⟩:=hrel;by_cases hlt:k<xs.length
  ·have hur:=hu'.grownBy hgr (.inr akQ);obtain⟨bu,hbu⟩:∃ bu,ua=some ⟨bu,0,none⟩:=by
    rcases hur.form with⟨e,e2⟩|⟨g,cp,e,_⟩
    ·rw[e2] at HL;have:=HL.out;simp at this;omega
    ·injection e with e1 _ _;exact⟨g,e1⟩
   subst hbu;have hcu:=hur.cell (i:=k) (by rw[HL.out];exact hlt);obtain⟨z,hz⟩:∃ z,z=us.getD k 0:=⟨_,rfl⟩
   rw[<-hz] at hcu;have HZ:=hid hz;clear hz;by_cases hz0:z=0
   ·have tz:(z != 0)=false:=by simpa using hz0
    have HZ0:=hid hz0;clear hz0;go_wp2_with(fail)
    go_roundw;case rel=>exact⟨k+1,ys,by omega,by go_num,hyl,hid (fun j hj=>by
     rw[hys.out j hj];by_cases e:j=k
     ·rw[e,zx (by omega),zu (by omega),lX hlt,<-HZ.out,zu HZ0.out]
     ·by_cases e2:j<k
      ·rw[zu e2,zu (by omega)]
      ·rw[zx e2,zx (by omega)]),hown,hgr,hkr⟩
    case measure=>simp[intOf];omega
   ·have tz:(z != 0)=true:=by simpa using hz0
    have HZ0:=hid hz0;clear hz0;have hgw:=hg.kept hkr;have hcy:=hown.cell (i:=k) (by rw[hyl.out];exact hlt);obtain⟨y,hy⟩:∃ z,z=ys.getD k 0:=⟨_,rfl⟩
    rw[<-hy] at hcy;have hfy:=hown.frozen k;have j0:(0:Int)<=(k:Int):=by omega
    have j1:(k:Int)< (xs.length:Int):=by omega
    have j2:((k:Int)).toNat=k:=by omega
    have HUS:Hid (∀ j,j<xs.length->(ys.set k (gu G y (bF G a z))).getD j 0=if j<k+1 then(iP (opG G) a us xs).getD j 0 else xs.getD j 0):=hid (fun j hj=>by
     by_cases e:j=k
     ·rw[e,zu (by omega),lX hlt,<-HZ.out,zx HZ0.out];have e1:(ys.set k (gu G y (bF G a z))).getD k 0=gu G y (bF G a z):=by
       have:k<ys.length:=by rw[hyl.out];exact hlt
       simp[List.getD,this]
      have e2:=hys.out k hlt;rw[zx (by omega)] at e2;rw[e1,hy,e2];rfl
     ·have e1:(ys.set k (gu G y (bF G a z))).getD j 0=ys.getD j 0:=by simp[List.getD,zS (Ne.symm e)]
      rw[e1,hys.out j hj];by_cases e2:j<k
      ·rw[zu e2,zu (by omega)]
      ·rw[zx e2,zx (by omega)])
    clear hy;go_wp2_with(fail)
    go_region_law(first|(go_simp;go_at_call 94;(with_reducible refine(mul_any b G a z _ (by exact hgw.drew) t).mono ?_);rintro e w4 ⟨rfl,n4,rfl⟩)|(go_simp;go_at_call 115;(with_reducible refine(add_any b G y (bF G a z) _ (by exact hgw.drewN _) t).mono ?_);rintro e w5 ⟨rfl,n5,rfl⟩))
    all_goals
     go_wp2_with(fail)
     go_roundw;case rel=>
      refine⟨k+1,ys.set k (gu G y (bF G a z)),by omega,by go_num,hid (by simp[hyl.out]),HUS, ?_, ?_, ?_⟩
      ·exact(hown.drewN _).set _ _
      ·exact aQ (lW hgr _) _ _
      ·exact aH (aH hkr (bW (aB wr _)) hbv.1 hkr.size) (aj _ bv k _) hbv.1 (hkr.drewN _).size
     case measure=>simp[intOf];omega
  ·have HE:Hid (iP (opG G) a us xs=ys):=hid (Bh (by rw[dR,hyl.out]) fun i hi=>by
    rw[dR] at hi;rw[hys.out i hi,zu (by omega)])
   go_wp2_with(fail)
   go_end0
   exact⟨rfl,hgr,by rw[HE.out];exact hown⟩
theorem Mx.shape {w:World} {B:Nat} {v:Value} {A:List (List Int)} {rv:Nat->Value} (h:Mx w B v A rv) {i:Nat} (hi:i<A.length):∃ a n c,rv i=.slice a n c:=by
 obtain⟨a,c,e,_⟩:=(h.row i hi).sl.lenOf;exact⟨a,_,c,e⟩
theorem FW {v:Value} {rv:Nat->Value} {n r p x:Nat} (hr:r<n) (hp:p<n):Has v (fun i=>rv (if i=r then p else if i=p then r else i)) n x->Has v rv n x:=by
 rintro(e|⟨i,hi,e⟩)
 ·exact .inl e
 ·exact .inr ⟨_,FQ hr hp hi,e⟩
theorem swap_any (pk pa k a:Nat) (v:Value) (A:List (List Int)) (rv:Nat->Value) (w:World) (B:Nat) (ck:w.cell? ⟨pk,0,none⟩=some (.int .i64 k)) (ca:w.cell? ⟨pa,0,none⟩=some (.int .i64 a)) (h:Mx w B v A rv) (hk:k<A.length) (ha:a<A.length) (hne:a≠k)
  (hpk:¬ Has v rv A.length pk) (hpa:¬ Has v rv A.length pa):
  Calls Tryz.prog 183 #[v,.pointer (some ⟨pk,0,none⟩),.pointer (some ⟨pa,0,none⟩)] w fun e w'=>e=.returned (.tuple #[])/\∃ g rv',v.ownBlock=some g/\w.grownBy w' (some g)/\Mx w' B v (dS A a k) rv'/\∀ x,Has v rv' A.length x->Has v rv A.length x:=by
 obtain⟨g,cap,rfl,hg1,hg2,hc1,hc2⟩:=h.get (by intro e;rw[e] at hk;simp at hk);unfold maxLen at hc2;obtain⟨a1,n1,c1,e1⟩:=h.shape hk;obtain⟨a2,n2,c2,e2⟩:=h.shape ha;have hgk:pk≠g:=fun e=>hpk (.inl (by rw[e];rfl));have hga:pa≠g:=fun e=>hpa (.inl (by rw[e];rfl));have x1:=h.cell hk;have x2:=h.cell ha;have f1:=h.frozen k;have f2:=h.frozen a;have hm1:=(h.swap ha hk hne).kept (aC _);have hm2:=(h.swap hk ha (Ne.symm hne)).kept (aC _);rw[SB A k a] at hm2;have HS1:Hid (∀ x,Has (.slice (some ⟨g,0,none⟩) A.length cap) (fun i=>rv (if i=a then k else if i=k then a else i)) A.length x->Has (.slice (some ⟨g,0,none⟩) A.length cap) rv A.length x):=hid fun x=>FW ha hk;have HS2:Hid (∀ x,Has (.slice (some ⟨g,0,none⟩) A.length cap) (fun i=>rv (if i=k then a else if i=a then k else i)) A.length x->Has (.slice (some ⟨g,0,none⟩) A.length cap) rv A.length x):=hid fun x=>FW hk ha;rw[e1,e2] at hm1 hm2;rw[e1] at x1;rw[e2] at x2;have hg1':=SN (aQ (aQ (World.grownBy.refl w (some g)) a (.slice a1 n1 c1)) k (.slice a2 n2 c2));have ahD:=SN (aQ (aQ (World.grownBy.refl w (some g)) k (.slice a2 n2 c2)) a (.slice a1 n1 c1));have b1:(k:Int)< (A.length:Int):=by omega
 have b2:(a:Int)< (A.length:Int):=by omega
 have HM1:=hid hm1;have HM2:=hid hm2;clear hm1 hm2 h e1 e2 hpk hpa;have hnk:¬ g=pk:=fun e=>hgk e.symm;have hna:¬ g=pa:=fun e=>hga e.symm;have hak:¬ a=k:=hne;have hka:¬ k=a:=fun e=>hne e.symm;go_enter Tryz.func183,Tryz.ntmps183;go_region;all_goals
  go_end0
  exact⟨rfl,g,_,rfl,hg1',HM1.out,HS1.out⟩
theorem SQ {v u:Value} {rv:Nat->Value} {n i x:Nat}:Has v (fun j=>if j=i then u else rv j) n x->Has v rv n x∨u.ownBlock=some x:=by
 rintro(e|⟨j,hj,e⟩)
 ·exact .inl (.inl e)
 ·have e:(if j=i then u else rv j).ownBlock=some x:=e;by_cases g:j=i
  ·rw[zu g] at e;exact .inr e
  ·rw[zx g] at e;exact .inl (.inr ⟨j,hj,e⟩)
theorem abH (b:Nat) (G:GFd) (t:aK G) (pg pi pa a:Nat) (x:Int) (v:Value) (A:List (List Int)) (rv:Nat->Value) (w0 w:World) (hg:dW w0 b G) (hk0:ay w0 w) (cg:w.cell? ⟨pg,0,none⟩=some (.pointer (some ⟨b,0,none⟩))) (ci:w.cell? ⟨pi,0,none⟩=some (.int .i64 x)) (ca:w.cell? ⟨pa,0,none⟩=some (.int .i64 a))
  (ahE:pg<w.heap.size/\¬ Has v rv A.length pg) (ahF:pi<w.heap.size/\¬ Has v rv A.length pi) (ahG:pa<w.heap.size/\¬ Has v rv A.length pa) (h:Mx w w0.heap.size v A rv) (ha:a<A.length) (hrl:(Gj.row A a).length<=1000):
  Calls Tryz.prog 184 #[v,.pointer (some ⟨pg,0,none⟩),.pointer (some ⟨pi,0,none⟩),.pointer (some ⟨pa,0,none⟩)] w fun e w'=>e=.returned (.tuple #[])/\∃ g rv',v.ownBlock=some g/\w.grownBy w' (some g)/\Mx w' w0.heap.size v (A.set a ((Gj.row A a).map (bF G x))) rv'/\∀ y,Has v rv' A.length y->Has v rv A.length y∨w.heap.size<=y:=by
 obtain⟨g,cap,rfl,hg1,hg2,hc1,hc2⟩:=h.get (by intro e;rw[e] at ha;simp at ha);unfold maxLen at hc2;obtain⟨a1,c1,e1,_⟩:=(h.row a ha).sl.lenOf;have x1:=h.cell ha;have f1:=h.frozen a;have hs:=(h.row a ha).sl;rw[e1] at x1 hs;have E1:=hid e1;clear e1;have b2:(a:Int)< (A.length:Int):=by omega
 have hgw:=hg.kept hk0;have hsz:=hk0.size;have hb:∀ p,¬Has (.slice (some ⟨g,0,none⟩) A.length cap) rv A.length p->¬ g=p:=fun p hp e=>hp (.inl (by rw[<-e];rfl));have hpg:=ahE.1;have hpi:=ahF.1;have hpa:=ahG.1;have n1:=hb pg ahE.2;have n2:=hb pi ahF.2;have n3:=hb pa ahG.2;clear hb ahE ahF ahG;go_enter Tryz.func184,Tryz.ntmps184;refine wp_region_noPanic ?_;refine wp_region_held_drew (S:=fun w'=>w'.cell? ⟨pg,0,none⟩=some (.pointer (some ⟨b,0,none⟩))/\w'.cell? ⟨pi,0,none⟩=some (.int .i64 x)/\w'.cell? ⟨pa,0,none⟩=some (.int .i64 a)) (by kernel_rfl) ?_ (fun hHeld=>?_)
 ·(simp[go_sem, *];done)
 refine tkH 0 ?_;try simp only[bU]
 refine tkH 1 ?_;try simp only[bU]
 refine tkH 2 ?_;try simp only[bU]
 refine tkH 3 ?_;try simp only[bU]
 refine tkH 4 ?_;try simp only[bU]
 refine tkH 5 ?_;try simp only[bU]
 refine tkH 6 ?_;try simp only[bU]
 refine rdH 7 (fun K hK=>?_);go_simp;refine hK.out _ _ ?_ (fun hHeld=>?_)
 ·assumption
 clear hK K;try simp only[bU]
 refine rdH 8 (fun K hK=>?_);go_simp;go_at_call 179;(with_reducible refine(jL b G x _ (Gj.row A a) _ (by exact hgw.drew) t (by exact hs.kept (aC _)) (by omega)).mono ?_);rintro e w3 ⟨rfl,ho3,hk3⟩;have dN:ay w w3:=(by exact(aC _).tr hk3);have ca3:=(dN.cell' hpa).trans ca;have cg3:=(dN.cell' hpg).trans cg;have ci3:=(dN.cell' hpi).trans ci;have hm3:=h.kept dN;have x3:=hm3.cell ha;have f3:=hm3.frozen a;rw[E1.out] at x3;try go_wp2_with(fail)
 refine hK.out _ _ ?_ (fun hHeld=>?_)
 ·(simp[go_sem, *];done)
 clear hK K;try simp only[bU]
 refine tkH 9 ?_;try simp only[bU]
 refine rdH 10 (fun K hK=>?_);go_simp;refine hK.out _ _ ?_ (fun hHeld=>?_)
 ·(simp[go_sem, *];done)
 clear hK K;try simp only[bU]
 refine wpAnyH_done (by kernel_rfl) ?_ _;refine NoPanic.normal ?_;all_goals
  go_end0
  refine⟨rfl,g,fun j=>if j=a then .slice (some ⟨w.heap.size,0,none⟩) (Gj.row A a).length (Gj.row A a).length else rv j,rfl, ?_, ?_, ?_⟩
  ·exact aQ (bW dN) a _
  ·have hp:=hm3.put ha (ho3.mono (by simpa using hsz)) (fun y hy j hj e2=>by
    have h1:=aN ho3 hy;have h2:=aN (h.row j hj) e2;simp at h1;omega)
   exact hp
  ·intro y hy;rcases SQ hy with q|q
   ·exact .inl q
   ·have:=aN ho3 q;simp at this;exact .inr this.1
theorem abI (b:Nat) (G:GFd) (t:aK G) (pg pi px pa i a:Nat) (x:Int) (v:Value) (A:List (List Int)) (rv:Nat->Value) (w0 w:World) (hg:dW w0 b G) (hk0:ay w0 w) (cg:w.cell? ⟨pg,0,none⟩=some (.pointer (some ⟨b,0,none⟩))) (ci:w.cell? ⟨pi,0,none⟩=some (.int .i64 i)) (cx:w.cell? ⟨px,0,none⟩=some (.int .i64 x)) (ca:w.cell? ⟨pa,0,none⟩=some (.int .i64 a))
  (h:Mx w w0.heap.size v A rv) (hpg:pg<w.heap.size/\¬ Has v rv A.length pg) (hpi:pi<w.heap.size/\¬ Has v rv A.length pi) (hpx:px<w.heap.size/\¬ Has v rv A.length px) (hpa:pa<w.heap.size/\¬ Has v rv A.length pa) (hi:i<A.length) (ha:a<A.length) (hne:i≠a) (hr1:Gj.row A i≠ []) (hrl:(Gj.row A i).length<=1000) (hrr:(Gj.row A a).length=(Gj.row A i).length):
  Calls Tryz.prog 185 #[v,.pointer (some ⟨pg,0,none⟩),.pointer (some ⟨pi,0,none⟩),.pointer (some ⟨px,0,none⟩),.pointer (some ⟨pa,0,none⟩)] w fun e w'=>e=.returned (.tuple #[])/\∃ g,(rv i).ownBlock=some g/\w.grownBy w' (some g)/\Mx w' w0.heap.size v (A.set i (iP (opG G) (iE G x) (Gj.row A a) (Gj.row A i))) rv:=by
 obtain⟨g,cap,rfl,hg1,hg2,hc1,hc2⟩:=h.get (by intro e;rw[e] at ha;simp at ha);unfold maxLen at hc2;obtain⟨bi,ci2,e1,hb1,hb2,_⟩:=h.og hi hr1;obtain⟨a2,c2,e2,_⟩:=(h.row a ha).sl.lenOf;have x1:=h.cell hi;have x2:=h.cell ha;have ho1:=h.row i hi;have ho2:=h.row a ha;have hdis:(rv a).ownBlock≠some bi:=h.dis i a hi ha hne bi (by rw[e1];rfl);have hmm:=h;rw[e1] at x1 ho1;rw[e2] at x2 ho2 hdis;have E1:=hid e1;clear e1 e2;have b1:(i:Int)< (A.length:Int):=by omega
 have b2:(a:Int)< (A.length:Int):=by omega
 have hgw:=hg.kept hk0;have HL:=hid hrl;have HR:=hid hrr;have HN:=hid hne;have hb:∀ p,¬Has (.slice (some ⟨g,0,none⟩) A.length cap) rv A.length p->p≠bi:=fun p hp e=>hp (.inr ⟨i,hi,by rw[E1.out,e];rfl⟩);have n1:=hb pg hpg.2;have n2:=hb pi hpi.2;have n3':=hb px hpx.2;have n4:=hb pa hpa.2;have n5:g≠bi:=fun e=>row_ne hmm.out (hmm.row i hi) (g:=bi) (by rw[E1.out];rfl) (by rw[e];rfl);clear hne hrr hrl hr1 hb;go_enter Tryz.func185,Tryz.ntmps185
 go_region_held3 (fun w'=>w'.cell? ⟨pg,0,none⟩=some (.pointer (some ⟨b,0,none⟩))/\w'.cell? ⟨pi,0,none⟩=some (.int .i64 i)/\w'.cell? ⟨px,0,none⟩=some (.int .i64 x)/\w'.cell? ⟨pa,0,none⟩=some (.int .i64 a)/\w'.cell? ⟨g,i,none⟩=some (.slice (some ⟨bi,0,none⟩) (Gj.row A i).length ci2)/\w'.cell? ⟨g,a,none⟩=some (.slice a2 (Gj.row A a).length c2)) ((simp[go_sem, *];done))
  (first|(go_at_call 71;(with_reducible refine(y7 b G x _ (by exact hgw.drew) t).mono ?_);rintro e w3 ⟨rfl,n3,rfl⟩)|(go_at_call 186;(with_reducible refine(Xq b G t bi _ ci2 (iE G x) (Gj.row A i) _ (Gj.row A a) w0 _ hg (by exact hk0.drewN _) (by exact ho1.drewN _) (by exact ho2.drewN _) hdis HR.out HL.out).mono ?_);rintro e w4 ⟨rfl,hgb,ho4⟩;have hq:w.grownBy w4 (some bi):=(by exact aO (bW (aB _ _)) hgb);have y1:=(aZ hq hpg.1 n1).trans cg;have y2:=(aZ hq hpi.1 n2).trans ci;have y3:=(aZ hq hpx.1 n3').trans cx;have y4:=(aZ hq hpa.1 n4).trans ca;have y5:=(aZ hq hg2 n5).trans x1;have y6:=(aZ hq hg2 n5).trans x2))
 all_goals
  go_end0
  refine⟨rfl,bi,by rw[E1.out];rfl, ?_, ?_⟩
  ·exact hq
  ·have hm:=hmm.aeM hi E1.out ho4 hq;exact hm
structure M2 (w:World) (B:Nat) (v1 v2:Value) (A1 A2:List (List Int)) (r1 r2:Nat->Value):Prop where
 m1:Mx w B v1 A1 r1
 m2:Mx w B v2 A2 r2
 ap:∀ x,Has v1 r1 A1.length x->¬ Has v2 r2 A2.length x
def S2 (v1 v2:Value) (r1 r2:Nat->Value) (n1 n2 x:Nat):Prop:=Has v1 r1 n1 x∨Has v2 r2 n2 x
structure Fr (S:Nat->Prop) (w w':World):Prop where
 os:w'.os=w.os
 tape:w'.tape=w.tape
 output:w'.output=w.output
 size:w.heap.size<=w'.heap.size
 block:∀ k,k<w.heap.size->¬ S k->w'.heap[k]?=w.heap[k]?
theorem Fr.tr {S T:Nat->Prop} {a b c:World} (h:Fr S a b) (k:Fr T b c) (hs:∀ x,x<a.heap.size->T x->S x):Fr S a c:=
 ⟨k.os.trans h.os,k.tape.trans h.tape,k.output.trans h.output,zJ h.size k.size,fun i hi hn=>(k.block i (zZ hi h.size) (fun e=>hn (hs i hi e))).trans (h.block i hi hn)⟩
theorem Fr.OT {S:Nat->Prop} {a b:World} {g:Nat} (h:a.grownBy b (some g)) (hg:S g):Fr S a b:=⟨h.os,h.tape,h.output,h.size,fun i hi hn=>h.block i hi (fun e=>hn (by cases e;exact hg))⟩
theorem Fr.mg {a b:World} (S:Nat->Prop) (h:ay a b):Fr S a b:=⟨h.os,h.tape,h.output,h.size,fun i hi _=>h.block i hi⟩
theorem Fr.cell {S:Nat->Prop} {a b:World} (h:Fr S a b) {x o:Nat} (hx:x<a.heap.size) (hn:¬ S x):b.cell? ⟨x,o,none⟩=a.cell? ⟨x,o,none⟩:=World.cell?_of_block (w:=a) (a:=⟨x,o,none⟩) (h.block x hx hn)
theorem Fr.old {S:Nat->Prop} {w0 a b:World} (h:Fr S a b) (k:ay w0 a) (hs:∀ x,S x->w0.heap.size<=x):ay w0 b:=
 ⟨h.os.trans k.os,h.tape.trans k.tape,h.output.trans k.output,zJ k.size h.size,fun i hi=>(h.block i (zZ hi k.size) (fun e=>by have:=hs i e;omega)).trans (k.block i hi)⟩
def St (w:World) (B:Nat) (v:Value) (rv:Nat->Value) (n:Nat) (C:List (List Int)) (w':World):Prop:=
 ∃ g rv',Has v rv n g/\w.grownBy w' (some g)/\Mx w' B v C rv'/\∀ x,Has v rv' n x->Has v rv n x∨w.heap.size<=x
def Xr (w:World) (B:Nat) (v1 v2:Value) (r1 r2:Nat->Value) (n1 n2:Nat) (C1 C2:List (List Int)) (e:Ending) (w':World):Prop:=
 e=.returned (.tuple #[])/\∃ s1 s2,M2 w' B v1 v2 C1 C2 s1 s2/\Fr (S2 v1 v2 r1 r2 n1 n2) w w'/\∀ x,S2 v1 v2 s1 s2 n1 n2 x->S2 v1 v2 r1 r2 n1 n2 x∨w.heap.size<=x
theorem KC {w w':World} {B:Nat} {v1 v2:Value} {A1 C1:List (List Int)} {r1 r2:Nat->Value} (h:M2 w B v1 v2 A1 [] r1 r2) (hl:C1.length=A1.length) (k:St w B v1 r1 A1.length C1 w'):Xr w B v1 v2 r1 r2 A1.length 0 C1 [] (.returned (.tuple #[])) w':=by
 obtain⟨g,rv',k1,k2,k3,k4⟩:=k;have h2:=h.m2.grown k2 (h.ap g k1);refine⟨rfl,rv',r2,⟨k3,h2,fun x hx hy=>?_⟩,Fr.OT k2 (.inl k1),fun x hx=>?_⟩
 ·rw[hl] at hx;rcases k4 x hx with q|q
  ·exact h.ap x q hy
  ·have:=h.m2.has_lt hy;omega
 ·rcases hx with q|q
  ·rcases k4 x q with q|q
   ·exact .inl (.inl q)
   ·exact .inr q
  ·exact .inl (.inr q)
theorem St.in {w w':World} {B:Nat} {v:Value} {rv:Nat->Value} {n:Nat} {C:List (List Int)} (k:St w B v rv n C w') {x:Nat} (hx:x<w.heap.size) (hn:¬ Has v rv n x) (o:Nat):w'.cell? ⟨x,o,none⟩=w.cell? ⟨x,o,none⟩:=by
 obtain⟨g,rv',k1,k2,k3,k4⟩:=k;exact aZ k2 hx (fun e=>hn (by rw[e];exact k1))
theorem St.size {w w':World} {B:Nat} {v:Value} {rv:Nat->Value} {n:Nat} {C:List (List Int)} (k:St w B v rv n C w'):w.heap.size<=w'.heap.size:=by
 obtain⟨g,rv',k1,k2,k3,k4⟩:=k;exact k2.size
theorem KD {w w1 w':World} {B:Nat} {v1 v2:Value} {A1 A2 C1 C2:List (List Int)} {r1 r2:Nat->Value} (h:M2 w B v1 v2 A1 A2 r1 r2) (hl1:C1.length=A1.length) (hl2:C2.length=A2.length) (k:St w B v1 r1 A1.length C1 w1) (j:St w1 B v2 r2 A2.length C2 w'):Xr w B v1 v2 r1 r2 A1.length A2.length C1 C2 (.returned (.tuple #[])) w':=by
 obtain⟨g,s1,k1,k2,k3,k4⟩:=k;obtain⟨g',s2,j1,j2,j3,j4⟩:=j;have hg':=h.m2.has_lt j1;have h3:=k3.grown j2 (fun q=>by
  rw[hl1] at q;rcases k4 g' q with q|q
  ·exact h.ap g' q j1
  ·omega)
 refine⟨rfl,s1,s2,⟨h3,j3,fun x hx hy=>?_⟩,(Fr.OT k2 (.inl k1)).tr (Fr.OT (S:=S2 v1 v2 r1 r2 A1.length A2.length) j2 (.inr j1)) (fun x _ q=>q),fun x hx=>?_⟩
 ·rw[hl1] at hx;rw[hl2] at hy;rcases j4 x hy with q|q
  ·rcases k4 x hx with q2|q2
   ·exact h.ap x q2 q
   ·have:=h.m2.has_lt q;omega
  ·have hxx:=k3.has_lt (g:=x) (by rw[hl1];exact hx);omega
 ·rcases hx with q|q
  ·rcases k4 x q with q|q
   ·exact .inl (.inl q)
   ·exact .inr q
  ·rcases j4 x q with q|q
   ·exact .inl (.inr q)
   ·have:=k2.size;exact .inr (by omega)
theorem KG {w w1:World} {B:Nat} {v1 v2:Value} {A1 A2 C1:List (List Int)} {r1 r2:Nat->Value} (h:M2 w B v1 v2 A1 A2 r1 r2) (k:St w B v1 r1 A1.length C1 w1):Mx w1 B v2 A2 r2:=by
 obtain⟨g,s1,k1,k2,k3,k4⟩:=k;exact h.m2.grown k2 (h.ap g k1)
theorem Mx.lenOf {w:World} {B:Nat} {v:Value} {A:List (List Int)} {rv:Nat->Value} (h:Mx w B v A rv):∃ a c,v=.slice a A.length c:=by
 rcases h.form with⟨e,e2⟩|⟨g,c,e,_⟩
 ·exact⟨none,0,by rw[e,e2];rfl⟩
 ·exact⟨_,c,e⟩
section
variable (b:Nat) (G:GFd) (t:aK G) (p1 p2:Nat) (v1 v2:Value) (A1 A2:List (List Int)) (r1 r2:Nat->Value) (w0 w:World)
theorem SS (pk pa k a:Nat) (v:Value) (A:List (List Int)) (rv:Nat->Value) (w:World) (B:Nat) (ck:w.cell? ⟨pk,0,none⟩=some (.int .i64 k)) (ca:w.cell? ⟨pa,0,none⟩=some (.int .i64 a)) (h:Mx w B v A rv) (hk:k<A.length) (ha:a<A.length) (hne:a≠k)
  (hpk:¬ Has v rv A.length pk) (hpa:¬ Has v rv A.length pa):
  Calls Tryz.prog 183 #[v,.pointer (some ⟨pk,0,none⟩),.pointer (some ⟨pa,0,none⟩)] w fun e w'=>e=.returned (.tuple #[])/\St w B v rv A.length (dS A a k) w':=
 (swap_any pk pa k a v A rv w B ck ca h hk ha hne hpk hpa).mono fun _ _ ⟨he,g,rv',h1,h2,h3,h4⟩=>⟨he,g,rv',.inl h1,h2,h3,fun x hx=>.inl (h4 x hx)⟩
theorem SV (pk pa k a:Nat) (c1:w.cell? ⟨p1,0,none⟩=some v1) (c2:w.cell? ⟨p2,0,none⟩=some v2) (ck:w.cell? ⟨pk,0,none⟩=some (.int .i64 k)) (ca:w.cell? ⟨pa,0,none⟩=some (.int .i64 a)) (B:Nat) (h:M2 w B v1 v2 A1 A2 r1 r2)
  (hn:A2=[]∨A2.length=A1.length) (hk:k<A1.length) (ha:a<A1.length) (hne:a≠k) (q2:p2<w.heap.size/\¬ S2 v1 v2 r1 r2 A1.length A2.length p2) (qpk:pk<w.heap.size/\¬ S2 v1 v2 r1 r2 A1.length A2.length pk) (qpa:pa<w.heap.size/\¬ S2 v1 v2 r1 r2 A1.length A2.length pa):
  Calls Tryz.prog 182 #[.func (.func 183) #[] #[.pointer (some ⟨pk,0,none⟩),.pointer (some ⟨pa,0,none⟩)],.pointer (some ⟨p1,0,none⟩),.pointer (some ⟨p2,0,none⟩)] w (Xr w B v1 v2 r1 r2 A1.length A2.length (dS A1 a k) (dS A2 a k)):=by
 have hS:=SS pk pa k a v1 A1 r1 w B ck ca h.m1 hk ha hne (fun q=>qpk.2 (.inl q)) (fun q=>qpa.2 (.inl q));obtain⟨a2,cc,e2⟩:=h.m2.lenOf;subst e2;have HH:=hid h;rcases hn with e|e
 ·subst e;have H1:Hid ((dS ([]:List (List Int)) a k)=[]):=hid rfl;go_enter Tryz.func182,Tryz.ntmps182;go_wp2_with(fail)
  refine hS.mono ?_;rintro e w1 ⟨rfl,hs1⟩;have c2':=(St.in hs1 q2.1 (fun q=>q2.2 (.inl q)) 0).trans c2;have HS1:=hid hs1;clear hs1 hS;go_wp2_with(fail)
  go_end0
  rw[H1.out];exact KC HH.out (aT _ _ _) HS1.out
 ·have hpos:(0:Int)< (A2.length:Int):=by omega
  have hk2:k<A2.length:=by omega
  have ha2:a<A2.length:=by omega
  have HE:=hid e;clear e;go_enter Tryz.func182,Tryz.ntmps182;go_wp2_with(fail)
  refine hS.mono ?_;rintro e w1 ⟨rfl,hs1⟩;have c2':=(St.in hs1 q2.1 (fun q=>q2.2 (.inl q)) 0).trans c2;have ck':=(St.in hs1 qpk.1 (fun q=>qpk.2 (.inl q)) 0).trans ck;have spk:pk<w1.heap.size:=zZ qpk.1 hs1.size;have ca':=(St.in hs1 qpa.1 (fun q=>qpa.2 (.inl q)) 0).trans ca;have spa:pa<w1.heap.size:=zZ qpa.1 hs1.size;have hm:=KG HH.out hs1;have HS1:=hid hs1;clear hs1 hS;go_wp2_with(fail)
  refine(SS pk pa k a _ A2 r2 w1 B ck' ca' hm hk2 ha2 hne (fun q=>qpk.2 (.inr q)) (fun q=>qpa.2 (.inr q))).mono ?_;rintro e w2 ⟨rfl,hs2⟩;have HS2:=hid hs2;clear hs2;go_wp2_with(fail)
  go_end0
  exact KD HH.out (aT _ _ _) (aT _ _ _) HS1.out HS2.out
theorem Z7 {w0 w w':World} {v:Value} {rv:Nat->Value} {A C:List (List Int)} (h:Mx w w0.heap.size v A rv) (hk:ay w0 w) (k:St w w0.heap.size v rv A.length C w'):ay w0 w':=by
 obtain⟨g,rv',k1,k2,k3,k4⟩:=k;exact aH hk k2 (h.has_lt k1).1 hk.size
theorem Z8 (t:aK G) (pg pi pa a:Nat) (x:Int) (v:Value) (A:List (List Int)) (rv:Nat->Value) (w:World) (hg:dW w0 b G) (hk0:ay w0 w) (cg:w.cell? ⟨pg,0,none⟩=some (.pointer (some ⟨b,0,none⟩))) (ci:w.cell? ⟨pi,0,none⟩=some (.int .i64 x)) (ca:w.cell? ⟨pa,0,none⟩=some (.int .i64 a))
  (hpg:pg<w.heap.size/\¬ Has v rv A.length pg) (hpi:pi<w.heap.size/\¬ Has v rv A.length pi) (hpa:pa<w.heap.size/\¬ Has v rv A.length pa) (h:Mx w w0.heap.size v A rv) (ha:a<A.length) (hrl:(Gj.row A a).length<=1000):
  Calls Tryz.prog 184 #[v,.pointer (some ⟨pg,0,none⟩),.pointer (some ⟨pi,0,none⟩),.pointer (some ⟨pa,0,none⟩)] w fun e w'=>e=.returned (.tuple #[])/\St w w0.heap.size v rv A.length (A.set a ((Gj.row A a).map (bF G x))) w':=
 (abH b G t pg pi pa a x v A rv w0 w hg hk0 cg ci ca hpg hpi hpa h ha hrl).mono fun _ _ ⟨he,g,rv',h1,h2,h3,h4⟩=>⟨he,g,rv',.inl h1,h2,h3,h4⟩
theorem Xt (t:aK G) (pg pi pa a:Nat) (x:Int) (hg:dW w0 b G) (hk0:ay w0 w) (c1:w.cell? ⟨p1,0,none⟩=some v1) (c2:w.cell? ⟨p2,0,none⟩=some v2) (cg:w.cell? ⟨pg,0,none⟩=some (.pointer (some ⟨b,0,none⟩))) (ci:w.cell? ⟨pi,0,none⟩=some (.int .i64 x)) (ca:w.cell? ⟨pa,0,none⟩=some (.int .i64 a)) (h:M2 w w0.heap.size v1 v2 A1 A2 r1 r2)
  (hn:A2=[]∨A2.length=A1.length) (ha:a<A1.length) (hr1:(Gj.row A1 a).length<=1000) (hr2:(Gj.row A2 a).length<=1000) (q2:p2<w.heap.size/\¬ S2 v1 v2 r1 r2 A1.length A2.length p2) (qpg:pg<w.heap.size/\¬ S2 v1 v2 r1 r2 A1.length A2.length pg) (qpi:pi<w.heap.size/\¬ S2 v1 v2 r1 r2 A1.length A2.length pi) (qpa:pa<w.heap.size/\¬ S2 v1 v2 r1 r2 A1.length A2.length pa):
  Calls Tryz.prog 182 #[.func (.func 184) #[] #[.pointer (some ⟨pg,0,none⟩),.pointer (some ⟨pi,0,none⟩),.pointer (some ⟨pa,0,none⟩)],.pointer (some ⟨p1,0,none⟩),.pointer (some ⟨p2,0,none⟩)] w (Xr w w0.heap.size v1 v2 r1 r2 A1.length A2.length (A1.set a ((Gj.row A1 a).map (bF G x))) (A2.set a ((Gj.row A2 a).map (bF G x)))):=by
 have hS:=Z8 b G w0 t pg pi pa a x v1 A1 r1 w hg hk0 cg ci ca ⟨qpg.1,fun q=>qpg.2 (.inl q)⟩ ⟨qpi.1,fun q=>qpi.2 (.inl q)⟩ ⟨qpa.1,fun q=>qpa.2 (.inl q)⟩ h.m1 ha hr1;obtain⟨a2,cc,e2⟩:=h.m2.lenOf;subst e2;have HH:=hid h;rcases hn with e|e
 ·subst e;have H1:Hid ((([]:List (List Int)).set a ((Gj.row ([]:List (List Int)) a).map (bF G x)))=[]):=hid rfl;go_enter Tryz.func182,Tryz.ntmps182;go_wp2_with(fail)
  refine hS.mono ?_;rintro e w1 ⟨rfl,hs1⟩;have c2':=(St.in hs1 q2.1 (fun q=>q2.2 (.inl q)) 0).trans c2;have HS1:=hid hs1;clear hs1 hS;go_wp2_with(fail)
  go_end0
  rw[H1.out];exact KC HH.out (zI) HS1.out
 ·have hpos:(0:Int)< (A2.length:Int):=by omega
  have ha2:a<A2.length:=by omega
  have HE:=hid e;clear e;go_enter Tryz.func182,Tryz.ntmps182;go_wp2_with(fail)
  refine hS.mono ?_;rintro e w1 ⟨rfl,hs1⟩;have c2':=(St.in hs1 q2.1 (fun q=>q2.2 (.inl q)) 0).trans c2;have cg':=(St.in hs1 qpg.1 (fun q=>qpg.2 (.inl q)) 0).trans cg;have spg:pg<w1.heap.size:=zZ qpg.1 hs1.size;have ci':=(St.in hs1 qpi.1 (fun q=>qpi.2 (.inl q)) 0).trans ci;have spi:pi<w1.heap.size:=zZ qpi.1 hs1.size;have ca':=(St.in hs1 qpa.1 (fun q=>qpa.2 (.inl q)) 0).trans ca;have spa:pa<w1.heap.size:=zZ qpa.1 hs1.size;have hm:=KG HH.out hs1;have hk1:=Z7 HH.out.m1 hk0 hs1;have HS1:=hid hs1;clear hs1 hS;go_wp2_with(fail)
  refine(Z8 b G w0 t pg pi pa a x _ A2 r2 w1 hg hk1 cg' ci' ca' ⟨spg,fun q=>qpg.2 (.inr q)⟩ ⟨spi,fun q=>qpi.2 (.inr q)⟩ ⟨spa,fun q=>qpa.2 (.inr q)⟩ hm ha2 hr2).mono ?_;rintro e w2 ⟨rfl,hs2⟩;have HS2:=hid hs2;clear hs2;go_wp2_with(fail)
  go_end0
  exact KD HH.out (zI) (zI) HS1.out HS2.out
theorem Z9 (t:aK G) (pg pi px pa i a:Nat) (x:Int) (v:Value) (A:List (List Int)) (rv:Nat->Value) (w:World) (hg:dW w0 b G) (hk0:ay w0 w) (cg:w.cell? ⟨pg,0,none⟩=some (.pointer (some ⟨b,0,none⟩))) (ci:w.cell? ⟨pi,0,none⟩=some (.int .i64 i)) (cx:w.cell? ⟨px,0,none⟩=some (.int .i64 x)) (ca:w.cell? ⟨pa,0,none⟩=some (.int .i64 a))
  (h:Mx w w0.heap.size v A rv) (hpg:pg<w.heap.size/\¬ Has v rv A.length pg) (hpi:pi<w.heap.size/\¬ Has v rv A.length pi) (hpx:px<w.heap.size/\¬ Has v rv A.length px) (hpa:pa<w.heap.size/\¬ Has v rv A.length pa) (hi:i<A.length) (ha:a<A.length) (hne:i≠a) (hr1:Gj.row A i≠ []) (hrl:(Gj.row A i).length<=1000) (hrr:(Gj.row A a).length=(Gj.row A i).length):
  Calls Tryz.prog 185 #[v,.pointer (some ⟨pg,0,none⟩),.pointer (some ⟨pi,0,none⟩),.pointer (some ⟨px,0,none⟩),.pointer (some ⟨pa,0,none⟩)] w fun e w'=>e=.returned (.tuple #[])/\St w w0.heap.size v rv A.length (A.set i (iP (opG G) (iE G x) (Gj.row A a) (Gj.row A i))) w':=
 (abI b G t pg pi px pa i a x v A rv w0 w hg hk0 cg ci cx ca h hpg hpi hpx hpa hi ha hne hr1 hrl hrr).mono fun _ _ ⟨he,g,h1,h2,h3⟩=>⟨he,g,rv,.inr ⟨i,hi,h1⟩,h2,h3,fun _ hx=>.inl hx⟩
theorem Xu (t:aK G) (pg pi px pa i a:Nat) (x:Int) (hg:dW w0 b G) (hk0:ay w0 w) (c1:w.cell? ⟨p1,0,none⟩=some v1) (c2:w.cell? ⟨p2,0,none⟩=some v2) (cg:w.cell? ⟨pg,0,none⟩=some (.pointer (some ⟨b,0,none⟩))) (ci:w.cell? ⟨pi,0,none⟩=some (.int .i64 i)) (cx:w.cell? ⟨px,0,none⟩=some (.int .i64 x)) (ca:w.cell? ⟨pa,0,none⟩=some (.int .i64 a)) (h:M2 w w0.heap.size v1 v2 A1 A2 r1 r2)
  (hn:A2=[]∨A2.length=A1.length) (hi:i<A1.length) (ha:a<A1.length) (hne:i≠a) (hr1:Gj.row A1 i≠ []/\(Gj.row A1 i).length<=1000/\(Gj.row A1 a).length=(Gj.row A1 i).length) (hr2:A2≠ []->Gj.row A2 i≠ []/\(Gj.row A2 i).length<=1000/\(Gj.row A2 a).length=(Gj.row A2 i).length) (q2:p2<w.heap.size/\¬ S2 v1 v2 r1 r2 A1.length A2.length p2) (qpg:pg<w.heap.size/\¬ S2 v1 v2 r1 r2 A1.length A2.length pg) (qpi:pi<w.heap.size/\¬ S2 v1 v2 r1 r2 A1.length A2.length pi) (qpx:px<w.heap.size/\¬ S2 v1 v2 r1 r2 A1.length A2.length px) (qpa:pa<w.heap.size/\¬ S2 v1 v2 r1 r2 A1.length A2.length pa):
  Calls Tryz.prog 182 #[.func (.func 185) #[] #[.pointer (some ⟨pg,0,none⟩),.pointer (some ⟨pi,0,none⟩),.pointer (some ⟨px,0,none⟩),.pointer (some ⟨pa,0,none⟩)],.pointer (some ⟨p1,0,none⟩),.pointer (some ⟨p2,0,none⟩)] w (Xr w w0.heap.size v1 v2 r1 r2 A1.length A2.length (A1.set i (iP (opG G) (iE G x) (Gj.row A1 a) (Gj.row A1 i))) (A2.set i (iP (opG G) (iE G x) (Gj.row A2 a) (Gj.row A2 i)))):=by
 have hS:=Z9 b G w0 t pg pi px pa i a x v1 A1 r1 w hg hk0 cg ci cx ca h.m1 ⟨qpg.1,fun q=>qpg.2 (.inl q)⟩ ⟨qpi.1,fun q=>qpi.2 (.inl q)⟩ ⟨qpx.1,fun q=>qpx.2 (.inl q)⟩ ⟨qpa.1,fun q=>qpa.2 (.inl q)⟩ hi ha hne hr1.1 hr1.2.1 hr1.2.2;obtain⟨a2,cc,e2⟩:=h.m2.lenOf;subst e2;have HH:=hid h;have HR2:=hid hr2;have HN:=hid hne;clear hr1 hr2 hne;rcases hn with e|e
 ·subst e;have H1:Hid ((([]:List (List Int)).set i (iP (opG G) (iE G x) (Gj.row ([]:List (List Int)) a) (Gj.row ([]:List (List Int)) i)))=[]):=hid rfl;go_enter Tryz.func182,Tryz.ntmps182;go_wp2_with(fail)
  refine hS.mono ?_;rintro e w1 ⟨rfl,hs1⟩;have c2':=(St.in hs1 q2.1 (fun q=>q2.2 (.inl q)) 0).trans c2;have HS1:=hid hs1;clear hs1 hS;go_wp2_with(fail)
  go_end0
  rw[H1.out];exact KC HH.out (zI) HS1.out
 ·have hpos:(0:Int)< (A2.length:Int):=by omega
  have hi2:i<A2.length:=by omega
  have ha2:a<A2.length:=by omega
  have hz2:A2≠ []:=by intro e;rw[e] at hi2;simp at hi2
  have HE:=hid e;clear e;go_enter Tryz.func182,Tryz.ntmps182;go_wp2_with(fail)
  refine hS.mono ?_;rintro e w1 ⟨rfl,hs1⟩;have c2':=(St.in hs1 q2.1 (fun q=>q2.2 (.inl q)) 0).trans c2;have cg':=(St.in hs1 qpg.1 (fun q=>qpg.2 (.inl q)) 0).trans cg;have spg:pg<w1.heap.size:=zZ qpg.1 hs1.size;have ci':=(St.in hs1 qpi.1 (fun q=>qpi.2 (.inl q)) 0).trans ci;have spi:pi<w1.heap.size:=zZ qpi.1 hs1.size;have cx':=(St.in hs1 qpx.1 (fun q=>qpx.2 (.inl q)) 0).trans cx;have spx:px<w1.heap.size:=zZ qpx.1 hs1.size;have ca':=(St.in hs1 qpa.1 (fun q=>qpa.2 (.inl q)) 0).trans ca;have spa:pa<w1.heap.size:=zZ qpa.1 hs1.size;have hm:=KG HH.out hs1;have hk1:=Z7 HH.out.m1 hk0 hs1;have HS1:=hid hs1;clear hs1 hS;go_wp2_with(fail)
  refine(Z9 b G w0 t pg pi px pa i a x _ A2 r2 w1 hg hk1 cg' ci' cx' ca' hm ⟨spg,fun q=>qpg.2 (.inr q)⟩ ⟨spi,fun q=>qpi.2 (.inr q)⟩ ⟨spx,fun q=>qpx.2 (.inr q)⟩ ⟨spa,fun q=>qpa.2 (.inr q)⟩ hi2 ha2 HN.out (HR2.out hz2).1 (HR2.out hz2).2.1 (HR2.out hz2).2.2).mono ?_;rintro e w2 ⟨rfl,hs2⟩;have HS2:=hid hs2;clear hs2;go_wp2_with(fail)
  go_end0
  exact KD HH.out (zI) (zI) HS1.out HS2.out
end
end
end Go.Proofs.YtoilbeadokallaaGreatDoor
