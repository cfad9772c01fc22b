/- Lemmas on the way to the row, merged: walks of functions and plain algebra. Conditions: each lemma's own, stated with it. -/
import Derived.Test.YtoilbeadokallaaGreatDoorK12
import Derived.Test.YtoilbeadokallaaGreatDoorK13
import Derived.RegionTactic
import Derived.ChangeAlike
import Derived.Deep.RegionHeld3
namespace Go.Proofs.YtoilbeadokallaaGreatDoor
open Go.RowKit Cw Cw.Gj
theorem gb_kept {a b c:World} {g:Nat} (h:a.grownBy b (some g)) (k:Kept b c):a.grownBy c (some g) :=
 ⟨k.os.trans h.os,k.tape.trans h.tape,k.output.trans h.output,Nat.le_trans h.size k.size,fun i hi hn=>(k.block i (Nat.lt_of_lt_of_le hi h.size)).trans (h.block i hi hn)⟩
theorem gb_of_kept {a b:World} {g:Nat} (k:Kept a b):a.grownBy b (some g):=⟨k.os,k.tape,k.output,k.size,fun i hi _=>k.block i hi⟩
theorem gb_drewN {a b:World} {g:Nat} (h:a.grownBy b (some g)) (n:Nat):a.grownBy (b.drewN n) (some g):=gb_kept h (kept_drewN b n)
theorem gb_drew {a b:World} {g:Nat} (h:a.grownBy b (some g)):a.grownBy b.drew (some g):=gb_kept h (kept_drew b)
theorem gb_set {a b:World} {g:Nat} (h:a.grownBy b (some g)) (i:Nat) (u:Value):a.grownBy (b.setCell ⟨g,i,none⟩ u) (some g):=grownBy_trans h (grownBy_setCell b g i u)
theorem gb_cell {a b:World} {g x o:Nat} (h:a.grownBy b (some g)) (hx:x < a.heap.size) (hn:x ≠ g):b.cell? ⟨x,o,none⟩=a.cell? ⟨x,o,none⟩:=World.cell?_of_block (w:=a) (a:=⟨x,o,none⟩) (h.block x hx (fun e=>hn (by cases e;rfl)))
theorem gb_below {w0 a b:World} {g B:Nat} (k:Below B w0 a) (h:a.grownBy b (some g)) (hg:B≤g) (hs:B≤a.heap.size):Below B w0 b:=k.grown h hs (fun _ e=>by cases e;exact hg)
theorem axpy_get {o:Cw.Op} {a:Int} {us xs:List Int} {k:Nat} (h:k < xs.length):(axpy o a us xs).getD k 0=if us.getD k 0=0 then xs.getD k 0 else o.add (xs.getD k 0) (o.mul a (us.getD k 0)):=axpy_at h
theorem ints_ext {xs ys:List Int} (hl:xs.length=ys.length) (h:∀ i,i < xs.length→xs.getD i 0=ys.getD i 0):xs=ys:=list_eq_of hl h
set_option maxHeartbeats 2000000 in
theorem madd_any (b:Nat) (G:GFd) (t:Tabs G) (bv n cap:Nat) (a:Int) (xs:List Int) (vu:Value) (us:List Int) (w0 w:World) (hg:IsGF w0 b G) (hk:Kept w0 w) (hv:Own w w0.heap.size (.slice (some ⟨bv,0,none⟩) n cap) xs) (hu:Own w w0.heap.size vu us)
  (hne:vu.ownBlock ≠ some bv) (hl:us.length=xs.length) (hlen:xs.length≤1000) :
  Calls Tryz.prog 186 #[.pointer (some ⟨b,0,none⟩),.slice (some ⟨bv,0,none⟩) n cap,.int .i64 a,vu] w fun e w'=>e=.returned (.tuple #[])∧w.grownBy w' (some bv)∧Own w' w0.heap.size (.slice (some ⟨bv,0,none⟩) n cap) (axpy (opG G) a us xs):=by
 have hn:n=xs.length:=by
  rcases hv.form with ⟨e,_⟩ | ⟨_,_,e,_⟩
  ·cases e
  ·cases e;rfl
 subst hn
 have hbv:=hv.lt
 obtain ⟨ua,uc,rfl,hcap,hcm⟩:=hu.sl.lenOf
 unfold maxLen at hcm
 rw [hl] at hcap ⊢
 have HL:=hid hl
 have HNE:=hid hne
 clear hl hne
 have hu':Own w w0.heap.size (.slice ua xs.length uc) us:=by rw [← HL.out];rw [HL.out] at hu ⊢;exact hu
 have HNE':(Value.slice ua xs.length uc).ownBlock ≠ some bv:=by have:=HNE.out;rw [HL.out] at this;exact this
 have hsz0:=hk.size
 clear hu HNE
 go_enter Tryz.func186,Tryz.ntmps186
 go_wp2_with (fail)
 go_loopw [12,8,9] (fun vi _ _ wr=>∃ (k:Nat) (ys:List Int),k≤xs.length∧vi=.int .i64 k∧Hid (ys.length=xs.length)∧Hid (∀ j,j < xs.length→ys.getD j 0=if j < k then (axpy (opG G) a us xs).getD j 0 else xs.getD j 0) ∧
   Own wr w0.heap.size (.slice (some ⟨bv,0,none⟩) xs.length cap) ys∧w.grownBy wr (some bv)∧Kept w0 wr) (fun vi _ _ _=>xs.length - (intOf vi).toNat)
 case atStart=>exact ⟨0,xs,by omega,rfl,hid rfl,hid (fun j hj=>by simp),hv,World.grownBy.refl _ _,hk⟩
 case round =>
  obtain ⟨k,ys,hkl,rfl,hyl,hys,hown,hgr,hkr⟩:=hrel
  by_cases hlt:k < xs.length
  ·have hur:=hu'.grownBy hgr (.inr HNE')
   obtain ⟨bu,hbu⟩:∃ bu,ua=some ⟨bu,0,none⟩:=by
    rcases hur.form with ⟨e,e2⟩ | ⟨g,cp,e,_⟩
    ·rw [e2] at HL;have:=HL.out;simp at this;omega
    ·injection e with e1 _ _;exact ⟨g,e1⟩
   subst hbu
   have hcu:=hur.cell (i:=k) (by rw [HL.out];exact hlt)
   obtain ⟨z,hz⟩:∃ z,z=us.getD k 0:=⟨_,rfl⟩
   rw [← hz] at hcu
   have HZ:=hid hz
   clear hz
   by_cases hz0:z=0
   ·have tz:(z != 0)=false:=by simpa using hz0
    have HZ0:=hid hz0
    clear hz0
    go_wp2_with (fail)
    go_roundw
    case rel=>exact ⟨k + 1,ys,by omega,by go_num,hyl,hid (fun j hj=>by
     rw [hys.out j hj]
     by_cases e:j=k
     ·rw [e,if_neg (by omega),if_pos (by omega),axpy_get hlt,← HZ.out,if_pos HZ0.out]
     ·by_cases e2:j < k
      ·rw [if_pos e2,if_pos (by omega)]
      ·rw [if_neg e2,if_neg (by omega)]),hown,hgr,hkr⟩
    case measure=>simp [intOf];omega
   ·have tz:(z != 0)=true:=by simpa using hz0
    have HZ0:=hid hz0
    clear hz0
    have hgw:=hg.kept hkr
    have hcy:=hown.cell (i:=k) (by rw [hyl.out];exact hlt)
    obtain ⟨y,hy⟩:∃ z,z=ys.getD k 0:=⟨_,rfl⟩
    rw [← hy] at hcy
    have hfy:=hown.frozen k
    have j0:(0:Int)≤(k:Int):=by omega
    have j1:(k:Int) < (xs.length:Int):=by omega
    have j2:((k:Int)).toNat=k:=by omega
    have HUS:Hid (∀ j,j < xs.length→(ys.set k (addG G y (mulG G a z))).getD j 0=if j < k + 1 then (axpy (opG G) a us xs).getD j 0 else xs.getD j 0):=hid (fun j hj=>by
     by_cases e:j=k
     ·rw [e,if_pos (by omega),axpy_get hlt,← HZ.out,if_neg HZ0.out]
      have e1:(ys.set k (addG G y (mulG G a z))).getD k 0=addG G y (mulG G a z):=by
       have:k < ys.length:=by rw [hyl.out];exact hlt
       simp [List.getD,this]
      have e2:=hys.out k hlt
      rw [if_neg (by omega)] at e2
      rw [e1,hy,e2]
      rfl
     ·have e1:(ys.set k (addG G y (mulG G a z))).getD j 0=ys.getD j 0:=by simp [List.getD,List.getElem?_set_ne (Ne.symm e)]
      rw [e1,hys.out j hj]
      by_cases e2:j < k
      ·rw [if_pos e2,if_pos (by omega)]
      ·rw [if_neg e2,if_neg (by omega)])
    clear hy
    go_wp2_with (fail)
    go_region_law (first
     | (go_simp;go_at_call 94;(with_reducible refine (mul_any b G a z _ (by first | exact hgw.drew | exact hgw.drewN _ | exact hgw.drew.drewN _) t).mono ?_);rintro e w4 ⟨rfl,n4,rfl⟩)
     | (go_simp;go_at_call 115;(with_reducible refine (add_any b G y (mulG G a z) _ (by first | exact hgw.drew | exact hgw.drewN _ | exact hgw.drew.drewN _) t).mono ?_);rintro e w5 ⟨rfl,n5,rfl⟩))
    all_goals
     go_wp2_with (fail)
     go_roundw
     case rel =>
      refine ⟨k + 1,ys.set k (addG G y (mulG G a z)),by omega,by go_num,hid (by simp [hyl.out]),HUS, ?_, ?_, ?_⟩
      ·first | exact (hown.drewN _).set _ _ | exact ((hown.drewN _).set _ _).drew | exact (hown.set _ _).drewN _ | exact ((hown.set _ _).drewN _).drew | exact (hown.set _ _).drew
      ·first | exact gb_set (gb_drewN hgr _) _ _ | exact gb_drew (gb_set (gb_drewN hgr _) _ _) | exact gb_drewN (gb_set hgr _ _) _ | exact gb_drew (gb_drewN (gb_set hgr _ _) _) | exact gb_drew (gb_set hgr _ _)
      ·first | exact gb_below (gb_below hkr (gb_of_kept (kept_drewN wr _)) hbv.1 hkr.size) (grownBy_setCell _ bv k _) hbv.1 (hkr.drewN _).size | exact Kept.drewN (gb_below hkr (grownBy_setCell _ bv k _) hbv.1 hkr.size) _ | exact (gb_below hkr (grownBy_setCell _ bv k _) hbv.1 hkr.size).drew
     case measure=>simp [intOf];omega
  ·have HE:Hid (axpy (opG G) a us xs=ys):=hid (ints_ext (by rw [length_axpy,hyl.out]) fun i hi=>by
    rw [length_axpy] at hi
    rw [hys.out i hi,if_pos (by omega)])
   go_wp2_with (fail)
   go_end0
   exact ⟨rfl,hgr,by rw [HE.out];exact hown⟩
end Go.Proofs.YtoilbeadokallaaGreatDoor
namespace Go.Proofs.YtoilbeadokallaaGreatDoor
open Go.RowKit Cw Cw.Gj
theorem Mx.shape {w:World} {B:Nat} {v:Value} {A:List (List Int)} {rv:Nat→Value} (h:Mx w B v A rv) {i:Nat} (hi:i < A.length):∃ a n c,rv i=.slice a n c:=by
 obtain ⟨a,c,e,_⟩:=(h.row i hi).sl.lenOf
 exact ⟨a,_,c,e⟩
theorem has_swap {v:Value} {rv:Nat→Value} {n r p x:Nat} (hr:r < n) (hp:p < n):Has v (fun i=>rv (if i=r then p else if i=p then r else i)) n x→Has v rv n x:=by
 rintro (e | ⟨i,hi,e⟩)
 ·exact .inl e
 ·exact .inr ⟨_,swp_lt' hr hp hi,e⟩
set_option maxHeartbeats 1000000 in
theorem swap_any (pk pa k a:Nat) (v:Value) (A:List (List Int)) (rv:Nat→Value) (w:World) (B:Nat) (ck:w.cell? ⟨pk,0,none⟩=some (.int .i64 k)) (ca:w.cell? ⟨pa,0,none⟩=some (.int .i64 a)) (h:Mx w B v A rv) (hk:k < A.length) (ha:a < A.length) (hne:a ≠ k)
  (hpk:¬ Has v rv A.length pk) (hpa:¬ Has v rv A.length pa) :
  Calls Tryz.prog 183 #[v,.pointer (some ⟨pk,0,none⟩),.pointer (some ⟨pa,0,none⟩)] w fun e w'=>e=.returned (.tuple #[])∧∃ g rv',v.ownBlock=some g∧w.grownBy w' (some g)∧Mx w' B v (swpL A a k) rv'∧∀ x,Has v rv' A.length x→Has v rv A.length x:=by
 obtain ⟨g,cap,rfl,hg1,hg2,hc1,hc2⟩:=h.get (by intro e;rw [e] at hk;simp at hk)
 unfold maxLen at hc2
 obtain ⟨a1,n1,c1,e1⟩:=h.shape hk
 obtain ⟨a2,n2,c2,e2⟩:=h.shape ha
 have hgk:pk ≠ g:=fun e=>hpk (.inl (by rw [e];rfl))
 have hga:pa ≠ g:=fun e=>hpa (.inl (by rw [e];rfl))
 have x1:=h.cell hk
 have x2:=h.cell ha
 have f1:=h.frozen k
 have f2:=h.frozen a
 have hm1:=(h.swap ha hk hne).kept (kept_drew _)
 have hm2:=(h.swap hk ha (Ne.symm hne)).kept (kept_drew _)
 rw [swpL_comm A k a] at hm2
 have HS1:Hid (∀ x,Has (.slice (some ⟨g,0,none⟩) A.length cap) (fun i=>rv (if i=a then k else if i=k then a else i)) A.length x→Has (.slice (some ⟨g,0,none⟩) A.length cap) rv A.length x):=hid fun x=>has_swap ha hk
 have HS2:Hid (∀ x,Has (.slice (some ⟨g,0,none⟩) A.length cap) (fun i=>rv (if i=k then a else if i=a then k else i)) A.length x→Has (.slice (some ⟨g,0,none⟩) A.length cap) rv A.length x):=hid fun x=>has_swap hk ha
 rw [e1,e2] at hm1 hm2
 rw [e1] at x1
 rw [e2] at x2
 have hg1':=gb_drew (gb_set (gb_set (World.grownBy.refl w (some g)) a (.slice a1 n1 c1)) k (.slice a2 n2 c2))
 have hg2':=gb_drew (gb_set (gb_set (World.grownBy.refl w (some g)) k (.slice a2 n2 c2)) a (.slice a1 n1 c1))
 have b1:(k:Int) < (A.length:Int):=by omega
 have b2:(a:Int) < (A.length:Int):=by omega
 have HM1:=hid hm1
 have HM2:=hid hm2
 clear hm1 hm2 h e1 e2 hpk hpa
 have hnk:¬ g=pk:=fun e=>hgk e.symm
 have hna:¬ g=pa:=fun e=>hga e.symm
 have hak:¬ a=k:=hne
 have hka:¬ k=a:=fun e=>hne e.symm
 go_enter Tryz.func183,Tryz.ntmps183
 go_region
 all_goals
  go_end0
  first
   | exact ⟨rfl,g,_,rfl,hg1',HM1.out,HS1.out⟩
   | exact ⟨rfl,g,_,rfl,hg2',HM2.out,HS2.out⟩
theorem has_put {v u:Value} {rv:Nat→Value} {n i x:Nat}:Has v (fun j=>if j=i then u else rv j) n x→Has v rv n x ∨ u.ownBlock=some x:=by
 rintro (e | ⟨j,hj,e⟩)
 ·exact .inl (.inl e)
 ·have e:(if j=i then u else rv j).ownBlock=some x:=e
  by_cases g:j=i
  ·rw [if_pos g] at e;exact .inr e
  ·rw [if_neg g] at e;exact .inl (.inr ⟨j,hj,e⟩)
set_option maxHeartbeats 1000000 in
theorem scl_any (b:Nat) (G:GFd) (t:Tabs G) (pg pi pa a:Nat) (x:Int) (v:Value) (A:List (List Int)) (rv:Nat→Value) (w0 w:World) (hg:IsGF w0 b G) (hk0:Kept w0 w) (cg:w.cell? ⟨pg,0,none⟩=some (.pointer (some ⟨b,0,none⟩))) (ci:w.cell? ⟨pi,0,none⟩=some (.int .i64 x)) (ca:w.cell? ⟨pa,0,none⟩=some (.int .i64 a))
  (hpg':pg < w.heap.size∧¬ Has v rv A.length pg) (hpi':pi < w.heap.size∧¬ Has v rv A.length pi) (hpa':pa < w.heap.size∧¬ Has v rv A.length pa) (h:Mx w w0.heap.size v A rv) (ha:a < A.length) (hrl:(Gj.row A a).length≤1000) :
  Calls Tryz.prog 184 #[v,.pointer (some ⟨pg,0,none⟩),.pointer (some ⟨pi,0,none⟩),.pointer (some ⟨pa,0,none⟩)] w fun e w'=>e=.returned (.tuple #[])∧∃ g rv',v.ownBlock=some g∧w.grownBy w' (some g)∧Mx w' w0.heap.size v (A.set a ((Gj.row A a).map (mulG G x))) rv'∧∀ y,Has v rv' A.length y→Has v rv A.length y ∨ w.heap.size≤y:=by
 obtain ⟨g,cap,rfl,hg1,hg2,hc1,hc2⟩:=h.get (by intro e;rw [e] at ha;simp at ha)
 unfold maxLen at hc2
 obtain ⟨a1,c1,e1,_⟩:=(h.row a ha).sl.lenOf
 have x1:=h.cell ha
 have f1:=h.frozen a
 have hs:=(h.row a ha).sl
 rw [e1] at x1 hs
 have E1:=hid e1
 clear e1
 have b2:(a:Int) < (A.length:Int):=by omega
 have hgw:=hg.kept hk0
 have hsz:=hk0.size
 have hb:∀ p,¬ Has (.slice (some ⟨g,0,none⟩) A.length cap) rv A.length p→¬ g=p:=fun p hp e=>hp (.inl (by rw [← e];rfl))
 have hpg:=hpg'.1
 have hpi:=hpi'.1
 have hpa:=hpa'.1
 have n1:=hb pg hpg'.2
 have n2:=hb pi hpi'.2
 have n3:=hb pa hpa'.2
 clear hb hpg' hpi' hpa'
 go_enter Tryz.func184,Tryz.ntmps184
 refine wp_region_noPanic ?_
 refine wp_region_held_drew (S:=fun w'=>w'.cell? ⟨pg,0,none⟩=some (.pointer (some ⟨b,0,none⟩))∧w'.cell? ⟨pi,0,none⟩=some (.int .i64 x)∧w'.cell? ⟨pa,0,none⟩=some (.int .i64 a)) (by kernel_rfl) ?_ (fun hHeld=>?_)
 ·first | (simp [go_sem, *];done) | (simp [*];done)
 refine wpAnyH_take (i:=0) (oi:=?oz1) (v:=?vz1) ?hiz1 (by kernel_rfl) (by kernel_rfl) (by kernel_rfl) (fun _ _ _ h=>h) (Or.inl ⟨?hwz1, ?hyz1⟩) (by assumption) ?restz1
 case hiz1=>(simp only [List.getElem?_toArray,List.getElem?_cons_zero];rfl)
 case hwz1=>rfl
 case hyz1=>(intro w hSw;(try dsimp only at hSw);go_simp;with_reducible rfl)
 try simp only [Act.put,List.setIfInBounds_toArray,List.set_cons_zero,List.set_cons_succ]
 refine wpAnyH_take (i:=1) (oi:=?oz2) (v:=?vz2) ?hiz2 (by kernel_rfl) (by kernel_rfl) (by kernel_rfl) (fun _ _ _ h=>h) (Or.inl ⟨?hwz2, ?hyz2⟩) (by assumption) ?restz2
 case hiz2=>(simp only [List.getElem?_toArray,List.getElem?_cons_succ,List.getElem?_cons_zero];rfl)
 case hwz2=>rfl
 case hyz2=>(intro w hSw;(try dsimp only at hSw);go_simp;with_reducible rfl)
 try simp only [Act.put,List.setIfInBounds_toArray,List.set_cons_zero,List.set_cons_succ]
 refine wpAnyH_take (i:=2) (oi:=?oz3) (v:=?vz3) ?hiz3 (by kernel_rfl) (by kernel_rfl) (by kernel_rfl) (fun _ _ _ h=>h) (Or.inl ⟨?hwz3, ?hyz3⟩) (by assumption) ?restz3
 case hiz3=>(simp only [List.getElem?_toArray,List.getElem?_cons_succ,List.getElem?_cons_zero];rfl)
 case hwz3=>rfl
 case hyz3=>(intro w hSw;(try dsimp only at hSw);go_simp;with_reducible rfl)
 try simp only [Act.put,List.setIfInBounds_toArray,List.set_cons_zero,List.set_cons_succ]
 refine wpAnyH_take (i:=3) (oi:=?oz4) (v:=?vz4) ?hiz4 (by kernel_rfl) (by kernel_rfl) (by kernel_rfl) (fun _ _ _ h=>h) (Or.inl ⟨?hwz4, ?hyz4⟩) (by assumption) ?restz4
 case hiz4=>(simp only [List.getElem?_toArray,List.getElem?_cons_succ,List.getElem?_cons_zero];rfl)
 case hwz4=>rfl
 case hyz4=>(intro w hSw;(try dsimp only at hSw);go_simp;with_reducible rfl)
 try simp only [Act.put,List.setIfInBounds_toArray,List.set_cons_zero,List.set_cons_succ]
 refine wpAnyH_take (i:=4) (oi:=?oz5) (v:=?vz5) ?hiz5 (by kernel_rfl) (by kernel_rfl) (by kernel_rfl) (fun _ _ _ h=>h) (Or.inl ⟨?hwz5, ?hyz5⟩) (by assumption) ?restz5
 case hiz5=>(simp only [List.getElem?_toArray,List.getElem?_cons_succ,List.getElem?_cons_zero];rfl)
 case hwz5=>rfl
 case hyz5=>(intro w hSw;(try dsimp only at hSw);go_simp;with_reducible rfl)
 try simp only [Act.put,List.setIfInBounds_toArray,List.set_cons_zero,List.set_cons_succ]
 refine wpAnyH_take (i:=5) (oi:=?oz6) (v:=?vz6) ?hiz6 (by kernel_rfl) (by kernel_rfl) (by kernel_rfl) (fun _ _ _ h=>h) (Or.inl ⟨?hwz6, ?hyz6⟩) (by assumption) ?restz6
 case hiz6=>(simp only [List.getElem?_toArray,List.getElem?_cons_succ,List.getElem?_cons_zero];rfl)
 case hwz6=>rfl
 case hyz6=>(intro w hSw;(try dsimp only at hSw);go_simp;with_reducible rfl)
 try simp only [Act.put,List.setIfInBounds_toArray,List.set_cons_zero,List.set_cons_succ]
 refine wpAnyH_take (i:=6) (oi:=?oz7) (v:=?vz7) ?hiz7 (by kernel_rfl) (by kernel_rfl) (by kernel_rfl) (fun _ _ _ h=>h) (Or.inl ⟨?hwz7, ?hyz7⟩) (by assumption) ?restz7
 case hiz7=>(simp only [List.getElem?_toArray,List.getElem?_cons_succ,List.getElem?_cons_zero];rfl)
 case hwz7=>rfl
 case hyz7=>(intro w hSw;(try dsimp only at hSw);go_simp;with_reducible rfl)
 try simp only [Act.put,List.setIfInBounds_toArray,List.set_cons_zero,List.set_cons_succ]
 refine wpAnyH_ready (rs:=[7]) (by kernel_rfl) (by simp) ?_
 refine AllReadyH.cons (o:=?oy8) ?hy8 (fun K hK=>?by8) AllReadyH.nil
 case hy8=>(simp only [List.getElem?_toArray,List.getElem?_cons_succ,List.getElem?_cons_zero];rfl)
 go_simp
 refine hK.out _ _ ?_ (fun hHeld=>?_)
 ·first | assumption | first | (simp [go_sem, *];done) | (simp [*];done)
 clear hK K
 try simp only [Act.put,List.setIfInBounds_toArray,List.set_cons_zero,List.set_cons_succ]
 refine wpAnyH_ready (rs:=[8]) (by kernel_rfl) (by simp) ?_
 refine AllReadyH.cons (o:=?oy9) ?hy9 (fun K hK=>?by9) AllReadyH.nil
 case hy9=>(simp only [List.getElem?_toArray,List.getElem?_cons_succ,List.getElem?_cons_zero];rfl)
 go_simp
 go_at_call 179;(with_reducible refine (scale_any b G x _ (Gj.row A a) _ (by first | exact hgw | exact hgw.drew | exact hgw.drewN _) t (by first | exact hs | exact hs.kept (kept_drew _) | exact hs.kept (kept_drewN _ _)) (by omega)).mono ?_);rintro e w3 ⟨rfl,ho3,hk3⟩;have hk3':Kept w w3:=(by first | exact hk3 | exact (kept_drew _).tr hk3 | exact (kept_drewN _ _).tr hk3);have ca3:=(hk3'.cell' hpa).trans ca;have cg3:=(hk3'.cell' hpg).trans cg;have ci3:=(hk3'.cell' hpi).trans ci;have hm3:=h.kept hk3';have x3:=hm3.cell ha;have f3:=hm3.frozen a;rw [E1.out] at x3
 try go_wp2_with (fail)
 refine hK.out _ _ ?_ (fun hHeld=>?_)
 ·first | assumption | first | (simp [go_sem, *];done) | (simp [*];done)
 clear hK K
 try simp only [Act.put,List.setIfInBounds_toArray,List.set_cons_zero,List.set_cons_succ]
 refine wpAnyH_take (i:=9) (oi:=?oz10) (v:=?vz10) ?hiz10 (by kernel_rfl) (by kernel_rfl) (by kernel_rfl) (fun _ _ _ h=>h) (Or.inl ⟨?hwz10, ?hyz10⟩) (by assumption) ?restz10
 case hiz10=>(simp only [List.getElem?_toArray,List.getElem?_cons_succ,List.getElem?_cons_zero];rfl)
 case hwz10=>rfl
 case hyz10=>(intro w hSw;(try dsimp only at hSw);go_simp;with_reducible rfl)
 try simp only [Act.put,List.setIfInBounds_toArray,List.set_cons_zero,List.set_cons_succ]
 refine wpAnyH_ready (rs:=[10]) (by kernel_rfl) (by simp) ?_
 refine AllReadyH.cons (o:=?oy11) ?hy11 (fun K hK=>?by11) AllReadyH.nil
 case hy11=>(simp only [List.getElem?_toArray,List.getElem?_cons_succ,List.getElem?_cons_zero];rfl)
 go_simp
 refine hK.out _ _ ?_ (fun hHeld=>?_)
 ·first | assumption | first | (simp [go_sem, *];done) | (simp [*];done)
 clear hK K
 try simp only [Act.put,List.setIfInBounds_toArray,List.set_cons_zero,List.set_cons_succ]
 refine wpAnyH_done (by kernel_rfl) ?_ _
 refine NoPanic.normal ?_
 all_goals
  go_end0
  refine ⟨rfl,g,fun j=>if j=a then .slice (some ⟨w.heap.size,0,none⟩) (Gj.row A a).length (Gj.row A a).length else rv j,rfl, ?_, ?_, ?_⟩
  ·first | exact gb_set (gb_of_kept hk3') a _ | exact gb_drew (gb_set (gb_of_kept hk3') a _)
  ·have hp:=hm3.put ha (ho3.mono (by simpa using hsz)) (fun y hy j hj e2=>by
    have h1:=own_blk ho3 hy
    have h2:=own_blk (h.row j hj) e2
    simp at h1
    omega)
   first | exact hp | exact hp.kept (kept_drew _)
  ·intro y hy
   rcases has_put hy with q | q
   ·exact .inl q
   ·have:=own_blk ho3 q
    simp at this
    exact .inr this.1
set_option maxHeartbeats 1000000 in
theorem adr_any (b:Nat) (G:GFd) (t:Tabs G) (pg pi px pa i a:Nat) (x:Int) (v:Value) (A:List (List Int)) (rv:Nat→Value) (w0 w:World) (hg:IsGF w0 b G) (hk0:Kept w0 w) (cg:w.cell? ⟨pg,0,none⟩=some (.pointer (some ⟨b,0,none⟩))) (ci:w.cell? ⟨pi,0,none⟩=some (.int .i64 i)) (cx:w.cell? ⟨px,0,none⟩=some (.int .i64 x)) (ca:w.cell? ⟨pa,0,none⟩=some (.int .i64 a))
  (h:Mx w w0.heap.size v A rv) (hpg:pg < w.heap.size∧¬ Has v rv A.length pg) (hpi:pi < w.heap.size∧¬ Has v rv A.length pi) (hpx:px < w.heap.size∧¬ Has v rv A.length px) (hpa:pa < w.heap.size∧¬ Has v rv A.length pa) (hi:i < A.length) (ha:a < A.length) (hne:i ≠ a) (hr1:Gj.row A i ≠ []) (hrl:(Gj.row A i).length≤1000) (hrr:(Gj.row A a).length=(Gj.row A i).length) :
  Calls Tryz.prog 185 #[v,.pointer (some ⟨pg,0,none⟩),.pointer (some ⟨pi,0,none⟩),.pointer (some ⟨px,0,none⟩),.pointer (some ⟨pa,0,none⟩)] w fun e w'=>e=.returned (.tuple #[])∧∃ g,(rv i).ownBlock=some g∧w.grownBy w' (some g)∧Mx w' w0.heap.size v (A.set i (axpy (opG G) (negG G x) (Gj.row A a) (Gj.row A i))) rv:=by
 obtain ⟨g,cap,rfl,hg1,hg2,hc1,hc2⟩:=h.get (by intro e;rw [e] at ha;simp at ha)
 unfold maxLen at hc2
 obtain ⟨bi,ci2,e1,hb1,hb2,_⟩:=h.rowGet hi hr1
 obtain ⟨a2,c2,e2,_⟩:=(h.row a ha).sl.lenOf
 have x1:=h.cell hi
 have x2:=h.cell ha
 have ho1:=h.row i hi
 have ho2:=h.row a ha
 have hdis:(rv a).ownBlock ≠ some bi:=h.dis i a hi ha hne bi (by rw [e1];rfl)
 have hmm:=h
 rw [e1] at x1 ho1
 rw [e2] at x2 ho2 hdis
 have E1:=hid e1
 clear e1 e2
 have b1:(i:Int) < (A.length:Int):=by omega
 have b2:(a:Int) < (A.length:Int):=by omega
 have hgw:=hg.kept hk0
 have HL:=hid hrl
 have HR:=hid hrr
 have HN:=hid hne
 have hb:∀ p,¬ Has (.slice (some ⟨g,0,none⟩) A.length cap) rv A.length p→p ≠ bi:=fun p hp e=>hp (.inr ⟨i,hi,by rw [E1.out,e];rfl⟩)
 have n1:=hb pg hpg.2
 have n2:=hb pi hpi.2
 have n3':=hb px hpx.2
 have n4:=hb pa hpa.2
 have n5:g ≠ bi:=fun e=>row_ne hmm.out (hmm.row i hi) (g:=bi) (by rw [E1.out];rfl) (by rw [e];rfl)
 clear hne hrr hrl hr1 hb
 go_enter Tryz.func185,Tryz.ntmps185
 go_region_held3 (fun w'=>w'.cell? ⟨pg,0,none⟩=some (.pointer (some ⟨b,0,none⟩))∧w'.cell? ⟨pi,0,none⟩=some (.int .i64 i)∧w'.cell? ⟨px,0,none⟩=some (.int .i64 x)∧w'.cell? ⟨pa,0,none⟩=some (.int .i64 a)∧w'.cell? ⟨g,i,none⟩=some (.slice (some ⟨bi,0,none⟩) (Gj.row A i).length ci2)∧w'.cell? ⟨g,a,none⟩=some (.slice a2 (Gj.row A a).length c2)) (first | (simp [go_sem, *];done) | (simp [*];done))
  (first
   | (go_at_call 71;(with_reducible refine (neg_any b G x _ (by first | exact hgw | exact hgw.drew | exact hgw.drewN _ | exact hgw.drew.drewN _) t).mono ?_);rintro e w3 ⟨rfl,n3,rfl⟩)
   | (go_at_call 186;(with_reducible refine (madd_any b G t bi _ ci2 (negG G x) (Gj.row A i) _ (Gj.row A a) w0 _ hg (by first | exact hk0 | exact hk0.drewN _ | exact hk0.tr (kept_drew _) | exact (hk0.tr (kept_drew _)).drewN _ | exact (hk0.drewN _).tr (kept_drew _)) (by first | exact ho1 | exact ho1.drewN _ | exact ho1.drew | exact ho1.drew.drewN _ | exact (ho1.drewN _).drew) (by first | exact ho2 | exact ho2.drewN _ | exact ho2.drew | exact ho2.drew.drewN _ | exact (ho2.drewN _).drew) hdis HR.out HL.out).mono ?_);rintro e w4 ⟨rfl,hgb,ho4⟩;have hq:w.grownBy w4 (some bi):=(by first | exact hgb | exact grownBy_trans (gb_of_kept (kept_drewN _ _)) hgb | exact grownBy_trans (gb_of_kept (kept_drew _)) hgb | exact grownBy_trans (gb_drewN (gb_of_kept (kept_drew _)) _) hgb | exact grownBy_trans (gb_drew (gb_of_kept (kept_drewN _ _))) hgb);have y1:=(gb_cell hq hpg.1 n1).trans cg;have y2:=(gb_cell hq hpi.1 n2).trans ci;have y3:=(gb_cell hq hpx.1 n3').trans cx;have y4:=(gb_cell hq hpa.1 n4).trans ca;have y5:=(gb_cell hq hg2 n5).trans x1;have y6:=(gb_cell hq hg2 n5).trans x2))
 all_goals
  go_end0
  refine ⟨rfl,bi,by rw [E1.out];rfl, ?_, ?_⟩
  ·first | exact hq | exact gb_drew hq | exact gb_drewN hq _
  ·have hm:=hmm.entRow hi E1.out ho4 hq
   first | exact hm | exact hm.kept (kept_drew _) | exact hm.kept (kept_drewN _ _)
end Go.Proofs.YtoilbeadokallaaGreatDoor
