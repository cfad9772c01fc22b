/- Lemmas on the way to the row, merged: walks of functions and plain algebra. Conditions: each lemma's own, stated with it. -/
import Derived.Test.YtoilbeadokallaaGreatDoorK19
import Derived.Test.YtoilbeadokallaaGreatDoorK22
import Derived.Test.YtoilbeadokallaaGreatDoorK24
import Derived.Laws.EntriesVeiled
import Derived.Defers
import Derived.Recover
namespace Go.Proofs.YtoilbeadokallaaGreatDoor
open Go.RowKit Cw Cw.Gj
open Go.ChangeMaps (setBlock)
def sGf':ByteArray:=⟨#[103,102]⟩
def fams:Nat→List ByteArray:=fun i=>match i with | 0=>familiesKeys | 1=>algebraicKeys | 2=>modifiedKeys | _=>combinedKeys
theorem fams_ok (j:Nat) (hj:j < 4):(fams j).Nodup∧∀ s ∈ fams j,s ≠ sGf'∧∀ i,i < j→s ∉ fams i:=by
 have e:j=0 ∨ j=1 ∨ j=2 ∨ j=3:=by omega
 rcases e with rfl | rfl | rfl | rfl
 ·refine ⟨by simp [fams,familiesKeys],fun s hs=>⟨fun e=>?_,fun i hi=>by omega⟩⟩
  subst e
  simp [fams,familiesKeys,sGf'] at hs
 ·refine ⟨by simp [fams,algebraicKeys],fun s hs=>?_⟩
  simp only [fams,algebraicKeys,List.mem_cons,List.not_mem_nil,or_false] at hs
  refine ⟨fun e=>by subst e;simp [sGf'] at hs,fun i hi=>?_⟩
  have:i=0:=by omega
  subst this
  rcases hs with rfl | rfl | rfl | rfl | rfl | rfl <;> simp [fams,familiesKeys]
 ·refine ⟨by simp [fams,modifiedKeys],fun s hs=>?_⟩
  simp only [fams,modifiedKeys,List.mem_cons,List.not_mem_nil,or_false] at hs
  refine ⟨fun e=>by subst e;simp [sGf'] at hs,fun i hi=>?_⟩
  have:i=0 ∨ i=1:=by omega
  rcases this with rfl | rfl
  ·rcases hs with rfl | rfl | rfl | rfl | rfl | rfl | rfl | rfl | rfl | rfl | rfl | rfl | rfl <;> simp [fams,familiesKeys]
  ·rcases hs with rfl | rfl | rfl | rfl | rfl | rfl | rfl | rfl | rfl | rfl | rfl | rfl | rfl <;> simp [fams,algebraicKeys]
 ·refine ⟨by simp [fams,combinedKeys],fun s hs=>?_⟩
  simp only [fams,combinedKeys,List.mem_cons,List.not_mem_nil,or_false] at hs
  refine ⟨fun e=>by subst e;simp [sGf'] at hs,fun i hi=>?_⟩
  have hs':=hs
  have:i=0 ∨ i=1 ∨ i=2:=by omega
  rcases this with rfl | rfl | rfl
  ·simp only [fams,familiesKeys,List.mem_cons,List.not_mem_nil,or_false]
   intro h
   rcases h with rfl | rfl | rfl | rfl | rfl | rfl | rfl | rfl | rfl | rfl <;> simp at hs
  ·simp only [fams,algebraicKeys,List.mem_cons,List.not_mem_nil,or_false]
   intro h
   rcases h with rfl | rfl | rfl | rfl | rfl | rfl <;> simp at hs
  ·simp only [fams,modifiedKeys,List.mem_cons,List.not_mem_nil,or_false]
   intro h
   rcases h with rfl | rfl | rfl | rfl | rfl | rfl | rfl | rfl | rfl | rfl | rfl | rfl | rfl <;> simp at hs
theorem leftOf_lt {es:Array MapEntry} {seen:Array Nat} {e:MapEntry} (he:e ∈ (leftOf es seen).toList):(leftOf es (seen.push e.born)).size < (leftOf es seen).size:=by
 have h:(leftOf es (seen.push e.born)).toList=(leftOf es seen).toList.filter (fun x=>x.born != e.born):=by
  unfold leftOf
  rw [Array.toList_filter,Array.toList_filter,List.filter_filter]
  refine List.filter_congr fun x _=>?_
  rw [Array.contains_push]
  cases h1:x.born == e.born <;> simp [bne,h1]
 rw [← Array.length_toList,← Array.length_toList,h]
 exact List.length_filter_lt_length_iff_exists.2 ⟨e,he,by simp⟩
theorem mem_left {l:List (ByteArray × Value)} {seen:Array Nat} {e:MapEntry} (he:e ∈ (leftOf (ents l).toArray seen).toList):∃ s v i,l[i]?=some (s,v)∧e=⟨.string s,v,i⟩∧i ∉ seen.toList:=by
 unfold leftOf at he
 rw [Array.toList_filter,List.mem_filter] at he
 obtain ⟨i,s,v,h1,h2⟩:=mem_ents.1 (by simpa using he.1)
 have h3:=he.2
 subst h2
 exact ⟨s,v,i,h1,rfl,by simpa using h3⟩
theorem left_none {l:List (ByteArray × Value)} {seen:Array Nat} (h0:(leftOf (ents l).toArray seen).size=0) {i:Nat} {s:ByteArray} {v:Value} (h:l[i]?=some (s,v)):i ∈ seen.toList:=by
 by_cases hi:i ∈ seen.toList
 ·exact hi
 ·exfalso
  have hm:(⟨.string s,v,i⟩:MapEntry) ∈ (leftOf (ents l).toArray seen).toList:=by
   unfold leftOf
   rw [Array.toList_filter,List.mem_filter]
   exact ⟨by simpa using mem_ents.2 ⟨i,s,v,h,rfl⟩,by simpa using hi⟩
  rw [Array.eq_empty_of_size_eq_zero h0] at hm
  simp at hm
theorem born_lt {l:List (ByteArray × Value)}:∀ x ∈ (ents l).toArray.toList,x.born < l.length:=fun x hx=>by
 obtain ⟨i,s,v,h1,rfl⟩:=mem_ents.1 (by simpa using hx)
 exact (List.getElem?_eq_some_iff.1 h1).1
theorem born_nodup (l:List (ByteArray × Value)):((ents l).toArray.toList.map (·.born)).Nodup:=by
 have:(ents l).map (·.born)=List.range l.length:=by
  unfold ents
  rw [List.map_map,List.range_eq_range',← List.zipIdx_map_snd 0 l]
  rfl
 simpa [this] using List.nodup_range
structure TabS (W:World) (t:Nat) (l0 lj:List (ByteArray × Value)) (seen:Array Nat) (w:World) (l:List (ByteArray × Value)):Prop where
 m:MapIs w t l
 g:W.grownBy w (some t)
 nd:(l.map (·.1)).Nodup
 old:∀ p ∈ l0,p ∈ l
 keys:∀ p ∈ l,p ∈ l0 ∨ ∃ i ∈ seen.toList,∃ v,lj[i]?=some (p.1,v)
 done:∀ i ∈ seen.toList,∀ s u0 u1 u2,lj[i]?=some (s,.agg #[u0,u1,u2])→∃ A c,(s,.slice (some ⟨A,0,none⟩) 1 c) ∈ l∧A ≠ t∧Bk w A [u0,u1,u2]
theorem TabS.fresh {W w:World} {t:Nat} {l0 lj l:List (ByteArray × Value)} {seen:Array Nat} (h:TabS W t l0 lj seen w l) {s:ByteArray} {v:Value} {i:Nat} (hi:lj[i]?=some (s,v)) (hn:i ∉ seen.toList) (hl:(lj.map (·.1)).Nodup) (h0:∀ p ∈ l0,p.1 ≠ s):∀ p ∈ l,p.1 ≠ s:=fun p hp e=>by
 rcases h.keys p hp with q | ⟨j,hj,v',q⟩
 ·exact h0 p q e
 ·have:i=j:=by
   have a1:(lj.map (·.1))[i]?=some s:=by rw [List.getElem?_map,hi];rfl
   have a2:(lj.map (·.1))[j]?=some s:=by rw [List.getElem?_map,q,← e];rfl
   have b1:=(List.getElem?_eq_some_iff.1 a1)
   have b2:=(List.getElem?_eq_some_iff.1 a2)
   obtain ⟨c1,d1⟩:=b1
   obtain ⟨c2,d2⟩:=b2
   exact (List.getElem_inj (xs:=lj.map (·.1)) (h₀:=c1) (h₁:=c2) hl).1 (d1.trans d2.symm)
  exact hn (this ▸ hj)
theorem TabS.add {W w w':World} {t:Nat} {l0 lj l:List (ByteArray × Value)} {seen:Array Nat} (h:TabS W t l0 lj seen w l) {s:ByteArray} {u0 u1 u2:Value} {i A c:Nat} (hi:lj[i]?=some (s,.agg #[u0,u1,u2])) (hf:∀ p ∈ l,p.1 ≠ s) (m:MapIs w' t (l ++ [(s,.slice (some ⟨A,0,none⟩) 1 c)])) (g:W.grownBy w' (some t)) (hk:∀ A u0 u1 u2,A ≠ t→Bk w A [u0,u1,u2]→Bk w' A [u0,u1,u2]) (hA:A ≠ t) (hb:Bk w' A [u0,u1,u2]):TabS W t l0 lj (seen.push i) w' (l ++ [(s,.slice (some ⟨A,0,none⟩) 1 c)]) where
 m:=m
 g:=g
 nd:=by
  rw [List.map_append,List.nodup_append]
  refine ⟨h.nd,by simp,fun a ha b hb=>?_⟩
  obtain ⟨p,hp,rfl⟩:=List.mem_map.1 ha
  have:b=s:=by simpa using hb
  rw [this]
  exact hf p hp
 old:=fun p hp=>List.mem_append_left _ (h.old p hp)
 keys:=fun p hp=>by
  rcases List.mem_append.1 hp with q | q
  ·rcases h.keys p q with r | ⟨j,hj,v,r⟩
   ·exact .inl r
   ·exact .inr ⟨j,by simp at hj ⊢;exact .inl hj,v,r⟩
  ·rw [List.mem_singleton.1 q]
   exact .inr ⟨i,by simp,_,hi⟩
 done:=fun j hj s' v0 v1 v2 he=>by
  have hj':j ∈ seen.toList ∨ j=i:=by simpa using hj
  rcases hj' with q | rfl
  ·obtain ⟨B,d,h1,h2,h3⟩:=h.done j q s' v0 v1 v2 he
   exact ⟨B,d,List.mem_append_left _ h1,h2,hk _ _ _ _ h2 h3⟩
  ·rw [hi] at he
   cases he
   exact ⟨A,c,List.mem_append_right _ (by simp),hA,hb⟩
end Go.Proofs.YtoilbeadokallaaGreatDoor
namespace Go.Proofs.YtoilbeadokallaaGreatDoor
open Go.RowKit Cw Cw.Gj
open Go.ChangeMaps (setBlock)
structure TabO (W:World) (t:Nat) (vg:Value) (l1:List (ByteArray × Value)) (j:Nat) (w:World) (l:List (ByteArray × Value)):Prop where
 m:MapIs w t l
 g:W.grownBy w (some t)
 nd:(l.map (·.1)).Nodup
 gf:(sGf',vg) ∈ l
 keys:∀ p ∈ l,p.1=sGf' ∨ ∃ i,i < j∧p.1 ∈ fams i
 ham:1≤j→∃ A c u0 u1 u2,(sHamming,Value.agg #[u0,u1,u2]) ∈ l1∧(sHamming,.slice (some ⟨A,0,none⟩) 1 c) ∈ l∧A ≠ t∧Bk w A [u0,u1,u2]
theorem TabO.old {W w:World} {t:Nat} {vg:Value} {l1 l:List (ByteArray × Value)} {j:Nat} (h:TabO W t vg l1 j w l) (hj:j < 4) {s:ByteArray} (hs:s ∈ fams j):∀ p ∈ l,p.1 ≠ s:=fun p hp e=>by
 obtain ⟨h1,h2⟩:=(fams_ok j hj).2 s hs
 rcases h.keys p hp with q | ⟨i,hi,q⟩
 ·exact h1 (e ▸ q)
 ·exact h2 i hi (e ▸ q)
theorem TabO.next {W w w':World} {t:Nat} {vg:Value} {l1 l l' lj:List (ByteArray × Value)} {j:Nat} {seen:Array Nat} (h:TabO W t vg l1 j w l) (hk:lj.map (·.1)=fams j) (hr:∀ p ∈ lj,RowV p.2) (hl1:j=0→lj=l1) (hs:TabS w t l lj seen w' l') (h0:(leftOf (ents lj).toArray seen).size=0):TabO W t vg l1 (j + 1) w' l' where
 m:=hs.m
 g:=grownBy_trans h.g hs.g
 nd:=hs.nd
 gf:=hs.old _ h.gf
 keys:=fun p hp=>by
  rcases hs.keys p hp with q | ⟨i,hi,v,q⟩
  ·rcases h.keys p q with r | ⟨i,hi,r⟩
   ·exact .inl r
   ·exact .inr ⟨i,by omega,r⟩
  ·exact .inr ⟨j,by omega,by rw [← hk];exact List.mem_map.2 ⟨_,List.mem_of_getElem? q,rfl⟩⟩
 ham:=fun _=>by
  by_cases hj:j=0
  ·have e:=hl1 hj
   subst e
   have hm:sHamming ∈ lj.map (·.1):=by rw [hk,hj];simp [fams,familiesKeys,sHamming]
   obtain ⟨⟨s,v⟩,hp,rfl⟩:=List.mem_map.1 hm
   obtain ⟨s1,f1,a1,c1,f2,a2,c2,e1⟩:=hr _ hp
   have e2:v=.agg #[.string s1,.func f1 a1 c1,.func f2 a2 c2]:=e1
   subst e2
   obtain ⟨i,hi⟩:=List.getElem?_of_mem hp
   obtain ⟨A,c,q1,q2,q3⟩:=hs.done i (left_none h0 hi) _ _ _ _ hi
   exact ⟨A,c,_,_,_,hp,q1,q2,q3⟩
  ·obtain ⟨A,c,u0,u1,u2,q1,q2,q3,q4⟩:=h.ham (by omega)
   exact ⟨A,c,u0,u1,u2,q1,hs.old _ q2,q3,q4.gb hs.g q3⟩
def TabOut (w:World) (e:Ending) (w':World):Prop:=∃ t l,e=.returned (.map (some t))∧MapIs w' t l∧Kept w w'∧w.heap.size≤t∧(l.map (·.1)).Nodup ∧
 (∃ A p1 p2:Nat,(sGf',.slice (some ⟨A,0,none⟩) 2 2) ∈ l∧Bk w' A [.string ⟨#[78]⟩,.func (.func 198) #[] #[.pointer (some ⟨p1,0,none⟩)],.nilFunc,.string ⟨#[78,78,76]⟩,.func (.func 198) #[] #[.pointer (some ⟨p2,0,none⟩)],.nilFunc]∧w'.cell? ⟨p1,0,none⟩=some (.func (.func 141) #[] #[])) ∧
 (∃ A c p q:Nat,(sHamming,.slice (some ⟨A,0,none⟩) 1 c) ∈ l∧Bk w' A [.string ⟨#[70,78]⟩,.func (.func 301) #[] #[.pointer (some ⟨p,0,none⟩)],.func (.func 210) #[] #[]] ∧
  w'.cell? ⟨p,0,none⟩=some (.func (.func 299) #[] #[.pointer (some ⟨q,0,none⟩)])∧w'.cell? ⟨q,0,none⟩=some (.func (.func 209) #[] #[]))
set_option maxRecDepth 100000 in
set_option maxHeartbeats 8000000 in
theorem table_any (w:World):Calls Tryz.prog 86 #[] w (TabOut w):=by
 have hmm:=@run_makeMap Tryz.prog
 go_enter Tryz.func86,Tryz.ntmps86
 go_wp2_with (fail)
 refine (fieldRow_any _ _ _ _ _).mono ?_
 rintro e w1 ⟨p1,rfl,c1,l1,m1,k1⟩
 go_wp2_with (fail)
 refine (fieldRow_any _ _ _ _ _).mono ?_
 rintro e w2 ⟨p2,rfl,c2,l2,m2,k2⟩
 have hk2:Kept w w2:=((kept_alloc _ _).tr k1).tr k2
 obtain ⟨t,ht⟩:∃ t,t=w.heap.size:=⟨_,rfl⟩
 obtain ⟨WA,hWA⟩:∃ x,x=w2.alloc (.cells #[.string ⟨#[78]⟩,.func (.func 198) #[] #[.pointer (some ⟨p1,0,none⟩)],.nilFunc,.string ⟨#[78,78,76]⟩,.func (.func 198) #[] #[.pointer (some ⟨p2,0,none⟩)],.nilFunc] 202):=⟨_,rfl⟩
 have hkA:Kept w2 WA:=by rw [hWA];exact kept_alloc _ _
 have hbA:Bk WA w2.heap.size [.string ⟨#[78]⟩,.func (.func 198) #[] #[.pointer (some ⟨p1,0,none⟩)],.nilFunc,.string ⟨#[78,78,76]⟩,.func (.func 198) #[] #[.pointer (some ⟨p2,0,none⟩)],.nilFunc]:=by rw [hWA];exact bk_new w2 [.string ⟨#[78]⟩,.func (.func 198) #[] #[.pointer (some ⟨p1,0,none⟩)],.nilFunc,.string ⟨#[78,78,76]⟩,.func (.func 198) #[] #[.pointer (some ⟨p2,0,none⟩)],.nilFunc] _ _ rfl
 have hM2:MapIs WA t []:=(((mapIs_new w _ ht).kept k1).kept k2).kept hkA
 obtain ⟨A,hA⟩:∃ A,A=w2.heap.size:=⟨_,rfl⟩
 rw [← hA] at hbA
 have hkA0:Kept w WA:=hk2.tr hkA
 have htlt:t < w1.heap.size:=by rw [ht];exact Nat.lt_of_lt_of_le (by simp) k1.size
 have hAt:A ≠ t:=by have:=k2.size;omega
 have hp1:w1.cell? ⟨p1,0,none⟩=_:=c1
 have hp1t:p1 ≠ t:=by
  have:(w.alloc (.map #[] 0)).heap.size=w.heap.size + 1:=by simp
  omega
 have hcA:WA.cell? ⟨p1,0,none⟩=some (.func (.func 141) #[] #[]):=((k2.tr hkA).cell' m1).trans hp1
 have hpA:p1 < WA.heap.size:=(k2.tr hkA).lt m1
 obtain ⟨w3,x3,i3,j3⟩:=run_ins Tryz.underlying147 Tryz.underlying9 hM2 (s:=⟨#[103,102]⟩) (by simp) (.slice (some ⟨A,0,none⟩) 2 2)
 have hb3:=hbA.gb j3 hAt
 have hc3:=(gb_cell (o:=0) j3 hpA hp1t).trans hcA
 have hp3:p1 < w3.heap.size:=Nat.lt_of_lt_of_le hpA j3.size
 have hk3:Kept w w3:=gb_below hkA0 j3 (by omega) hkA0.size
 have X3:=hid x3
 have HT:=hid ht
 have HA:=hid hA
 have HWA:=hid hWA
 have HB3:=hid hb3
 have HC3:=hid hc3
 clear hp1 hcA c1 hM2 hbA x3 hb3 hc3 c2 j3
 have x3:=X3.out
 rw [hWA,ht,hA] at x3
 clear ht hA hWA
 go_wp2_with (fail)
 clear x3
 refine (families_any w3).mono ?_
 rintro e w4 ⟨b1,L1,rfl,F1,H1⟩
 go_wp2_with (fail)
 refine (algebraic_any w4).mono ?_
 rintro e w5 ⟨b2,L2,rfl,F2, -⟩
 go_wp2_with (fail)
 refine (modified_any w5).mono ?_
 rintro e w6 ⟨b3,L3,rfl,F3, -⟩
 go_wp2_with (fail)
 refine (combined_any w6).mono ?_
 rintro e w7 ⟨b4,L4,rfl,F4, -⟩
 go_wp2_with (fail)
 obtain ⟨z,hz⟩:∃ z,z=w7.heap.size:=⟨_,rfl⟩
 obtain ⟨W8,hW8⟩:∃ x,x=w7.alloc (.cells #[.map (some b1),.map (some b2),.map (some b3),.map (some b4)] 209):=⟨_,rfl⟩
 rw [← hW8,← hz,← HT.out]
 have hk78:Kept w7 W8:=by rw [hW8];exact kept_alloc _ _
 have hbz:Bk W8 z [.map (some b1),.map (some b2),.map (some b3),.map (some b4)]:=by rw [hW8,hz];exact bk_new w7 [.map (some b1),.map (some b2),.map (some b3),.map (some b4)] _ _ rfl
 have k38:Kept w3 W8:=(((F1.k.tr F2.k).tr F3.k).tr F4.k).tr hk78
 have ht3:t < w3.heap.size:=i3.lt
 have hzt:z ≠ t:=by have:=(((F1.k.tr F2.k).tr F3.k).tr F4.k).size;omega
 have hfam:∀ j,j < 4→∃ bj lj,([.map (some b1),.map (some b2),.map (some b3),.map (some b4)]:List Value)[j]?=some (.map (some bj))∧MapIs W8 bj lj∧lj.map (·.1)=fams j∧(∀ p ∈ lj,RowV p.2)∧(j=0→lj=L1)∧bj ≠ t:=fun j hj=>by
  have e:j=0 ∨ j=1 ∨ j=2 ∨ j=3:=by omega
  have s1:=F1.k.size
  have s2:=F2.k.size
  have s3:=F3.k.size
  have n1:=F1.nb
  have n2:=F2.nb
  have n3:=F3.nb
  have n4:=F4.nb
  rcases e with rfl | rfl | rfl | rfl
  ·exact ⟨b1,L1,rfl,(((F1.m.kept F2.k).kept F3.k).kept F4.k).kept hk78,F1.ks,F1.rows,fun _=>rfl,by omega⟩
  ·exact ⟨b2,L2,rfl,((F2.m.kept F3.k).kept F4.k).kept hk78,F2.ks,F2.rows,fun h=>(by omega),by omega⟩
  ·exact ⟨b3,L3,rfl,(F3.m.kept F4.k).kept hk78,F3.ks,F3.rows,fun h=>(by omega),by omega⟩
  ·exact ⟨b4,L4,rfl,F4.m.kept hk78,F4.ks,F4.rows,fun h=>(by omega),by omega⟩
 have hO0:TabO W8 t (.slice (some ⟨A,0,none⟩) 2 2) L1 0 W8 [(sGf',.slice (some ⟨A,0,none⟩) 2 2)]:=⟨i3.kept k38,gb_of_kept (Kept.rfl' _),by simp,by simp,fun p hp=>(by rw [List.mem_singleton.1 hp];exact .inl rfl),fun h=>(by omega)⟩
 have HFAM:=hid hfam
 have HK1:=hid F1.ks
 have HRW:=hid F1.rows
 obtain ⟨v1,hv1,hv1'⟩:=H1
 have HV1:=hid hv1
 have HVR:=hid ((((hv1'.kept F2.k).kept F3.k).kept F4.k).kept hk78)
 have HK38:=hid k38
 have HBZ:=hid hbz
 have HZT:=hid hzt
 have HK08:=hid (hk3.tr k38)
 have hnb:=F1.nb
 clear hfam F1 F2 F3 F4 hv1 hv1' hk78 hbz k38 hW8 hz i3 hkA hkA0 k1 k2 hk2 hk3 hzt l1 l2 m1 m2
 go_loopg [17] 5 (fun gk vi wr=>∃ j l,j≤4∧gk=5 - j∧vi=.int .i64 j∧TabO W8 t (.slice (some ⟨A,0,none⟩) 2 2) L1 j wr l)
 case atStart=>exact ⟨0,_,by omega,rfl,rfl,hO0⟩
 case round =>
  obtain ⟨j,l,hj,rfl,rfl,ho⟩:=hrel
  obtain ⟨wo,hwo⟩:∃ x,x=wr:=⟨_,rfl⟩
  subst hwo
  clear hO0
  by_cases hj4:j < 4
  ·obtain ⟨bj,lj,hcell,hm,hks,hrow,hl1,hne⟩:=HFAM.out j hj4
   have hmr:MapIs wo bj lj:=hm.gbo ho.g (by simpa using hne)
   have cellr:wo.cell? ⟨z,j,none⟩=some (.map (some bj)):=(gb_cell ho.g HBZ.out.1 HZT.out).trans (HBZ.out.2 j _ hcell)
   have hrange:=run_range_map (P:=Tryz.prog) wo 209 _ _ bj _ _ Tryz.underlying209 hmr
   have hjl:(j:Int) < 4:=by omega
   have hjn:j < 4:=hj4
   have HKS:=hid hks
   have HRO:=hid hrow
   have HL1:=hid hl1
   have HNE:=hid hne
   have HM:=hid hmr
   clear hcell hm hks hrow hl1 hne hmr
   go_wp2_with (fail)
   obtain ⟨r,hr⟩:∃ r,r=wo.heap.size:=⟨_,rfl⟩
   obtain ⟨WI,hWI⟩:∃ x,x=wo.alloc (.mapIter (some bj) lj.length #[] lj.length):=⟨_,rfl⟩
   rw [← hWI,← hr]
   have hit0:WI.heap[r]?=some (.mapIter (some bj) lj.length #[] lj.length):=by rw [hWI,hr];exact heap_alloc_new _ _
   have hkI:Kept wo WI:=by rw [hWI];exact kept_alloc _ _
   have hS0:TabS wo t l lj #[] WI l:=⟨ho.m.kept hkI,gb_of_kept hkI,ho.nd,fun p hp=>hp,fun p hp=>.inl hp,fun i hi=>(by simp at hi)⟩
   have HR:=hid hr
   have HO:=hid ho
   clear cellr hrange hWI hkI hr ho hjl
   go_loopg [23] ((leftOf (ents lj).toArray #[]).size + 1) (fun gk _ wi=>∃ seen c0 l',TabS wo t l lj seen wi l'∧wi.heap[r]?=some (.mapIter (some bj) lj.length seen c0)∧lj.length≤c0∧gk=(leftOf (ents lj).toArray seen).size + 1)
   case atStart=>exact ⟨#[],_,l,hS0,hit0,Nat.le_refl _,rfl⟩
   case round =>
    obtain ⟨seen,c0,l',hs,hit,hc0,rfl⟩:=hrel
    clear hS0 hit0
    have hmi:MapIs wr bj lj:=HM.out.gbo hs.g (by simpa using HNE.out)
    have htw:t < wr.heap.size:=hs.m.lt
    have hrt:r ≠ t:=by have:=HO.out.m.lt;have:=HR.out;omega
    rcases run_next_at (P:=Tryz.prog) wr 0 r bj lj.length c0 seen _ _ hit hmi born_lt hc0 with ⟨h0,hrun⟩ | ⟨e,he,wn,hwn,hrun⟩
    ·clear hmi
     go_wp2_with (fail)
     go_roundg (5 - (j + 1))
     case measure=>omega
     case rel=>exact ⟨j + 1,l',by omega,rfl,by go_num,HO.out.next HKS.out HRO.out HL1.out hs h0⟩
    ·obtain ⟨s,v,i,hi,rfl,hns⟩:=mem_left he
     obtain ⟨s1,f1,a1,c1,f2,a2,c2,hv⟩:=HRO.out _ (List.mem_of_getElem? hi)
     have hv':v=.agg #[.string s1,.func f1 a1 c1,.func f2 a2 c2]:=hv
     subst hv'
     obtain ⟨wx,hwx⟩:∃ x,x=setBlock wn r (.mapIter (some bj) lj.length (seen.push i) lj.length):=⟨_,rfl⟩
     rw [← hwx] at hrun
     have hkn:Kept wr wn:=by
      rcases hwn with rfl | rfl
      ·exact Kept.rfl' _
      ·exact kept_drew _
     have hgn:wr.grownBy wx (some r):=by rw [hwx];exact kept_gb hkn (gb_setBlock _ _ _)
     have hrl:r < wn.heap.size:=hkn.lt (Array.getElem?_eq_some_iff.1 hit).1
     have hitx:wx.heap[r]?=some (.mapIter (some bj) lj.length (seen.push i) lj.length):=by rw [hwx];simp [setBlock,hrl]
     have hmx:MapIs wx bj lj:=hmi.gbo hgn (by have:=HM.out.lt;have:=HR.out;simp;omega)
     have hmt:MapIs wx t l':=hs.m.gbo hgn (by simpa using hrt.symm)
     have hent:=run_entry_at (P:=Tryz.prog) wx r bj lj.length seen _ _ ⟨.string s,.agg #[.string s1,.func f1 a1 c1,.func f2 a2 c2],i⟩ hitx hmx (by simpa using mem_ents.2 ⟨i,s,_,hi,rfl⟩) (born_nodup _)
     have hfr:=hs.fresh hi hns (by rw [HKS.out];exact (fams_ok j hjn).1) (fun p hp=>HO.out.old hjn (by rw [← HKS.out];exact List.mem_map.2 ⟨_,List.mem_of_getElem? hi,rfl⟩) p hp)
     obtain ⟨wy,hwy⟩:∃ x,x=wx.alloc (.cells #[.string s1,.func f1 a1 c1,.func f2 a2 c2] 202):=⟨_,rfl⟩
     have hky:Kept wx wy:=by rw [hwy];exact kept_alloc _ _
     have hlook:=run_look_no (P:=Tryz.prog) Tryz.underlying147 Tryz.underlying9 (hmt.kept hky) hfr (z:=.slice none 0 0) (fun _=>rfl)
     rw [hwy] at hlook
     obtain ⟨cp,hcp⟩:∃ c,c=(Question.appendCap 1 0 202).cut (wx.tape wx.drawn (Question.appendCap 1 0 202)):=⟨_,rfl⟩
     obtain ⟨wz,hwz⟩:∃ x,x=wy.alloc (.cells #[.string s1,.func f1 a1 c1,.func f2 a2 c2] 202):=⟨_,rfl⟩
     have hkz:Kept wx wz:=by rw [hwz];exact hky.tr (kept_alloc _ _)
     have hzs:wx.heap.size + 1 + 1=wz.heap.size:=by rw [hwz,hwy];simp
     obtain ⟨WM,hWM⟩:∃ x,x=(wz.alloc (.cells (#[.string s1,.func f1 a1 c1,.func f2 a2 c2] ++ Builtin.zeroCells #[.string ⟨#[]⟩,.nilFunc,.nilFunc] (cp - 1)) 202)).drew:=⟨_,rfl⟩
     have hkM:Kept wx WM:=by rw [hWM];exact (hkz.tr (kept_alloc _ _)).tr (kept_drew _)
     have hbM:Bk WM (wx.heap.size + 1 + 1) [.string s1,.func f1 a1 c1,.func f2 a2 c2]:=by
      rw [hWM]
      refine Bk.kept ?_ (kept_drew _)
      refine ⟨by simp;omega,fun k u hu=>?_⟩
      rw [World.cell?_alloc_at _ _ _ _ hzs]
      have hk3:k < 3:=(List.getElem?_eq_some_iff.1 hu).1
      rw [Array.getElem?_append_left (by simpa using hk3)]
      simpa using hu
     obtain ⟨wm,xm,im,jm⟩:=run_ins (P:=Tryz.prog) Tryz.underlying147 Tryz.underlying9 (hmt.kept hkM) hfr (.slice (some ⟨wx.heap.size + 1 + 1,0,none⟩) 1 cp)
     have hrx:r < wx.heap.size:=(Array.getElem?_eq_some_iff.1 hitx).1
     have htx:t < wx.heap.size:=hmt.lt
     have hitm:wm.heap[r]?=some (.mapIter (some bj) lj.length (seen.push i) lj.length):=by
      rw [jm.block r (hkM.lt hrx) (by simpa using hrt),hkM.block r hrx];exact hitx
     have hgm:wo.grownBy wm (some t):=by
      have e1:wo.grownBy wx (some t):=hs.g.andThen hgn (fun k e=>by cases e;exact .inl (Nat.le_of_eq HR.out.symm))
      exact grownBy_trans e1 (kept_gb hkM jm)
     have hkk:∀ A u0 u1 u2,A ≠ t→Bk wr A [u0,u1,u2]→Bk wm A [u0,u1,u2]:=fun A u0 u1 u2 h1 h2=>by
      have hne:A ≠ r:=fun e=>by
       subst e
       have:=h2.2 0 _ rfl
       simp [World.cell?,hit] at this
      exact ((h2.gb hgn hne).kept hkM).gb jm h1
     have hlt:(leftOf (ents lj).toArray (seen.push i)).size < (leftOf (ents lj).toArray seen).size:=leftOf_lt he
     have hadd:=hs.add hi hfr im hgm hkk (by omega) ((hbM.gb jm (by omega)))
     have HADD:=hid hadd
     have HITM:=hid hitm
     have HCP:=hid hcp
     clear hadd hitm hkk hgm hbM hkM hkz hrx htx hzs im jm
     rw [hWM,hwz,hwy,hcp] at xm
     clear hWM hwz hcp
     clear hi hmt hgn hitx hfr he hs hwx hkn hmi hmx hit hwn hns hky hwy hv
     go_wp2_with (fail)
     go_roundg ((leftOf (ents lj).toArray (seen.push i)).size + 1)
     case measure=>omega
     case rel=>exact ⟨seen.push i,lj.length,_,HADD.out,HITM.out,Nat.le_refl _,rfl⟩
  ·have hj':j=4:=by omega
   subst hj'
   go_wp2_with (fail)
   go_ret
   obtain ⟨A',c,u0,u1,u2,q1,q2,q3,q4⟩:=ho.ham (by omega)
   have hu:v1=.agg #[u0,u1,u2]:=by
    have hn:(L1.map (·.1)).Nodup:=by rw [HK1.out];exact (fams_ok 0 (by omega)).1
    obtain ⟨i,hi⟩:=List.getElem?_of_mem HV1.out
    obtain ⟨i',hi'⟩:=List.getElem?_of_mem q1
    have a1:(L1.map (·.1))[i]?=some sHamming:=by rw [List.getElem?_map,hi];rfl
    have a2:(L1.map (·.1))[i']?=some sHamming:=by rw [List.getElem?_map,hi'];rfl
    obtain ⟨c1,d1⟩:=List.getElem?_eq_some_iff.1 a1
    obtain ⟨c2,d2⟩:=List.getElem?_eq_some_iff.1 a2
    have e:i=i':=(List.getElem_inj (xs:=L1.map (·.1)) (h₀:=c1) (h₁:=c2) hn).1 (d1.trans d2.symm)
    subst e
    rw [hi] at hi'
    cases hi'
    rfl
   obtain ⟨p,q,e1,e2,e3,e4,e5,e6,e7,e8,e9⟩:=HVR.out
   rw [hu] at e1
   cases e1
   have hgf:=HB3.out
   have hc3:=HC3.out
   have k38:=HK38.out
   have hA:=HA.out
   have hAw:A ≠ t:=hAt
   refine ⟨t,l,rfl,ho.m,gb_below HK08.out ho.g (Nat.le_of_eq HT.out.symm) HK08.out.size,Nat.le_of_eq HT.out.symm,ho.nd,⟨A,p1,p2,ho.gf,(hgf.kept k38).gb ho.g hAw, ?_⟩,⟨A',c,p,q,q2,q4, ?_, ?_⟩⟩
   ·rw [gb_cell ho.g (k38.lt hp3) hp1t,k38.cell' hp3];exact hc3
   ·rw [gb_cell ho.g e4 (by omega)];exact e2
   ·rw [gb_cell ho.g e5 (by omega)];exact e3
end Go.Proofs.YtoilbeadokallaaGreatDoor
namespace Go.Proofs.YtoilbeadokallaaGreatDoor
open Go.RowKit Cw Cw.Gj
def NormQ (w:World) (e:Exit) (a:Act) (w':World):Prop:=e=.normal∧a.defers=[]∧w'=w
set_option maxHeartbeats 1000000 in
theorem guard_idle (a b:Value) (w:World) :
  CallsD Tryz.prog 38 #[a,b] .returning w fun e u' w'=>e=.returned (.tuple #[])∧u'=.returning∧w'=w:=by
 refine callsD_of_wpS Tryz.func38 rfl fun c₀ cs hu=>?_
 apply wpS_seq
 apply wpS_region
 simp [wpOpsS,go_sem,recoverD,hu,Tryz.ntmps38,Exit.thenS]
 refine wpS_of_wp ?_
 refine wp_mono (Q:=NormQ w) ?_ ?_
 ·obtain ⟨T,hT⟩:∃ T:Array Value,T=#[a,b] ++ (Array.replicate 19 undef).setIfInBounds 5 Value.nilIface:=⟨_,rfl⟩
  have h7:T.getD 7 undef=.nilIface:=by rw [hT];simp [Array.getD]
  have hz:T.size=21:=by rw [hT];simp
  rw [← hT]
  clear hT
  refine wp_block ?_
  refine wp_seq ?_
  refine wp_region ?_
  simp [wpOps,go_sem,Act.eval,h7]
  refine Or.inl (wp_cond_true ?_ ?_)
  ·simp [Act.eval,hz]
  refine wp_region ?_
  simp [wpOps,go_sem,Act.eval]
  exact Or.inl ⟨rfl,rfl,rfl⟩
 ·rintro e a' w' ⟨rfl,h2,rfl⟩
  exact ⟨h2,.returning,by rw [← hu],_,results_none rfl _ _ _,rfl,rfl,rfl⟩
def txt:ByteArray:=⟨#[104,97,109,109,105,110,103,40,103,102,40,50,41,44,32,51,41]⟩
def sHam:ByteArray:=⟨#[104,97,109,109,105,110,103]⟩
def sGf:ByteArray:=⟨#[103,102]⟩
def s2:ByteArray:=⟨#[50]⟩
def s3:ByteArray:=⟨#[51]⟩
def sL:ByteArray:=⟨#[40]⟩
def sR:ByteArray:=⟨#[41]⟩
def sC:ByteArray:=⟨#[44]⟩
def toks:List Tok:=[⟨1,sHam,0,0⟩,⟨3,sL,0,7⟩,⟨1,sGf,0,8⟩,⟨3,sL,0,10⟩,⟨2,s2,2,11⟩,⟨3,sR,0,12⟩,⟨3,sC,0,13⟩,⟨2,s3,3,15⟩,⟨3,sR,0,16⟩]
def posL:List Nat:=[0,7,8,10,11,12,13,14,15,16,17]
def cntL:List Nat:=[0,1,2,3,4,5,6,7,7,8,9]
def posF (r:Nat):Nat:=posL.getD r 0
def tokF (r:Nat):List Tok:=toks.take (cntL.getD r 0)
set_option maxRecDepth 100000 in
theorem txt_steps:∀ r,r < 10→Stp txt (posF r) (tokF r) (posF (r + 1)) (tokF (r + 1))
 | 0,_=>Stp.name (s:=txt) 0 7 [] (by decide) (by decide) (by decide) (by decide) (by decide) (by decide) (by decide) (by decide)
 | 1,_=>Stp.sign (s:=txt) 7 _ (by decide) (by decide) (by decide) (by decide) (by decide) (by decide)
 | 2,_=>Stp.name (s:=txt) 8 10 _ (by decide) (by decide) (by decide) (by decide) (by decide) (by decide) (by decide) (by decide)
 | 3,_=>Stp.sign (s:=txt) 10 _ (by decide) (by decide) (by decide) (by decide) (by decide) (by decide)
 | 4,_=>Stp.num (s:=txt) 11 _ 2 ⟨by decide,by decide,by decide,by decide,by decide,by decide,by decide,by decide,by decide,by decide⟩ (by decide)
 | 5,_=>Stp.sign (s:=txt) 12 _ (by decide) (by decide) (by decide) (by decide) (by decide) (by decide)
 | 6,_=>Stp.sign (s:=txt) 13 _ (by decide) (by decide) (by decide) (by decide) (by decide) (by decide)
 | 7,_=>Stp.blank (s:=txt) 14 _ (by decide) (by decide)
 | 8,_=>Stp.num (s:=txt) 15 _ 3 ⟨by decide,by decide,by decide,by decide,by decide,by decide,by decide,by decide,by decide,by decide⟩ (by decide)
 | 9,_=>Stp.sign (s:=txt) 16 _ (by decide) (by decide) (by decide) (by decide) (by decide) (by decide)
 | r + 10,h=>absurd h (by omega)
theorem scan_txt (w:World):Calls Tryz.prog 39 #[.string txt] w (ScanOut w toks) :=
 scan_any txt 10 posF tokF w (by decide) rfl rfl rfl txt_steps (by decide) (by decide) (by decide)
def G1:Nat→List Value→World→Prop:=fun _ E _=>E=NumC 2
def G2:Nat→List Value→World→Prop:=fun j E w=>if j=0 then CallG G1 sGf 1 E w else E=NumC 3
theorem ExOut.imp {G G':List Value→World→Prop} {w:World} {p g c:Nat} {L:List Tok} {i m:Nat} (h:∀ E w,G E w→G' E w) {e:Ending} {w':World} (k:ExOut G w p g c L i m e w'):ExOut G' w p g c L i m e w':=by
 obtain ⟨u0,u1,u2,u3,u4,e1,e2,⟨S,e3,e4⟩,e5,e6⟩:=k
 exact ⟨u0,u1,u2,u3,u4,e1,e2,⟨S,e3,fun w' q1 q2=>h _ _ (e4 w' q1 q2)⟩,e5,e6⟩
theorem ex_gf (w:World) (p g c:Nat) (h:PsS w p g c toks 2 1):Calls Tryz.prog 40 #[.pointer (some ⟨p,0,none⟩),.int .i64 ((2:Nat):Int)] w (ExOut (CallG G1 sGf 1) w p g c toks 6 3):=by
 have:=expr_call G1 w p g c toks 2 1 2 0 sGf sL sR sC 8 0 10 0 12 1 (fun j=>4 + j) (fun j=>2 + j) rfl rfl rfl h rfl rfl (by decide) (by omega) (by omega) (by omega) (by omega) rfl rfl rfl ⟨_,rfl,by decide⟩ (fun j h1 h2=>by omega)
  (fun j hj w' hw=>by
   obtain rfl:j=0:=by omega
   exact expr_num w' p g c toks 4 2 3 2 s2 11 hw rfl (by decide) (by omega) (by omega))
 exact this
theorem ex_ham (w:World) (p g c:Nat) (h:PsS w p g c toks 0 0):Calls Tryz.prog 40 #[.pointer (some ⟨p,0,none⟩),.int .i64 ((1:Nat):Int)] w (ExOut (CallG G2 sHam 2) w p g c toks 9 4):=by
 have:=expr_call G2 w p g c toks 0 0 1 0 sHam sL sR sC 0 0 7 0 16 2 (fun j=>if j=0 then 2 else if j=1 then 6 else 8) (fun j=>if j=0 then 1 else if j=1 then 3 else 4) rfl rfl rfl h rfl rfl (by decide) (by omega) (by omega) (by omega) (by omega) rfl rfl rfl ⟨_,rfl,by decide⟩
  (fun j h1 h2=>by
   obtain rfl:j=1:=by omega
   exact ⟨0,13,rfl⟩)
  (fun j hj w' hw=>by
   match j,hj with
   | 0,_=>exact (ex_gf w' p g c hw).mono fun _ _ k=>k.imp fun _ _ q=>q
   | 1,_=>exact (expr_num w' p g c toks 7 3 2 3 s3 15 hw rfl (by decide) (by omega) (by omega)).mono fun _ _ k=>k.imp fun _ _ q=>q)
 exact this
end Go.Proofs.YtoilbeadokallaaGreatDoor
namespace Go.Proofs.YtoilbeadokallaaGreatDoor
open Go.RowKit Cw Cw.Gj
theorem load_err {w:World} {b:Nat} {x:Int} (h:w.cell? ⟨b,0,none⟩=some (.int .i64 x)):(loadVar 30 ⟨b,0,none⟩).run Tryz.prog w=.ok (.int .i64 x) w:=by simp [go_sem,h]
theorem load_int {w:World} {b:Nat} {x:Int} (h:w.cell? ⟨b,0,none⟩=some (.int .i64 x)):(loadVar 3 ⟨b,0,none⟩).run Tryz.prog w=.ok (.int .i64 x) w:=by simp [go_sem,h]
theorem Frs.go {G:List Value→World→Prop} {B B':Nat} {E:List Value} {w w':World} (h:Frs G B E w) (hB:B'≤B) (hs:w.heap.size≤w'.heap.size) (hb:∀ b,B≤b→b < w.heap.size→w'.heap[b]?=w.heap[b]?):Frs G B' E w':=by
 obtain ⟨S,h1,h2⟩:=h
 refine ⟨S,fun b q=>?_,fun w2 q1 q2=>h2 w2 (by omega) fun b q=>?_⟩
 ·have:=h1 b q;omega
 ·have:=h1 b q
  rw [q2 b q,hb b this.1 this.2]
theorem ps_new {w:World} {B g c:Nat} {L:List Tok} (x:Value) (h:OwnT w B (.slice (some ⟨g,0,none⟩) L.length c) L) (hg:g < w.heap.size):PsS (w.alloc (.cells #[.slice (some ⟨g,0,none⟩) L.length c,.int .i64 0,x,.int .i64 0] 86)) w.heap.size g c L 0 0:=by
 have hb:=bk_new w [.slice (some ⟨g,0,none⟩) L.length c,.int .i64 0,x,.int .i64 0] 86 _ rfl
 have hf:=fz_new w #[.slice (some ⟨g,0,none⟩) L.length c,.int .i64 0,x,.int .i64 0] 86 _ rfl
 have hk:=kept_alloc w (.cells #[.slice (some ⟨g,0,none⟩) L.length c,.int .i64 0,x,.int .i64 0] 86)
 exact ⟨hb.1,hk.lt hg,by omega,hb.2 0 _ rfl,hb.2 1 _ rfl,hb.2 3 _ rfl,hf.2 1,hf.2 3,fun k t hk' j hj=>(h.kept hk).cell hk' hj⟩
def ParseOut (w:World) (e:Ending) (w':World):Prop :=
 ∃ u0 u1 u2 u3 u4:Value,e=.returned (.tuple #[.agg #[u0,u1,u2,u3,u4],.int .i64 0,.int .i64 0])∧Frs (CallG G2 sHam 2) w.heap.size [u0,u1,u2,u3,u4] w'∧Kept w w'
set_option maxRecDepth 100000 in
set_option maxHeartbeats 4000000 in
theorem parse_txt (w:World):Calls Tryz.prog 16 #[.string txt] w (ParseOut w):=by
 obtain ⟨W1,hW1⟩:∃ x,x=((w.alloc (.cells #[.int .i64 0,.string ⟨#[]⟩,.int .i64 0,.slice none 0 0,.slice none 0 0] 50)).alloc (.cells #[.int .i64 0] 30)).alloc (.cells #[.int .i64 0] 3):=⟨_,rfl⟩
 have hk1:Kept w W1:=by rw [hW1];exact ((kept_alloc _ _).tr (kept_alloc _ _)).tr (kept_alloc _ _)
 have hz1:W1.heap.size=w.heap.size + 1 + 1 + 1:=by rw [hW1];simp
 have hb0:Bk W1 w.heap.size [.int .i64 0,.string ⟨#[]⟩,.int .i64 0,.slice none 0 0,.slice none 0 0]:=by rw [hW1];exact ((bk_new w _ _ _ rfl).kept (kept_alloc _ _)).kept (kept_alloc _ _)
 have hb1:Bk W1 (w.heap.size + 1) [.int .i64 0]:=by rw [hW1];exact (bk_new (w.alloc (.cells #[.int .i64 0,.string ⟨#[]⟩,.int .i64 0,.slice none 0 0,.slice none 0 0] 50)) [.int .i64 0] _ _ (by simp)).kept (kept_alloc _ _)
 have hb2:Bk W1 (w.heap.size + 1 + 1) [.int .i64 0]:=by rw [hW1];exact bk_new _ [.int .i64 0] _ _ (by simp)
 have hf0:Fz W1 w.heap.size:=by rw [hW1];exact ((fz_new w _ _ _ rfl).kept (kept_alloc _ _)).kept (kept_alloc _ _)
 have hf1:Fz W1 (w.heap.size + 1):=by rw [hW1];exact (fz_new _ _ _ _ (by simp)).kept (kept_alloc _ _)
 have hf2:Fz W1 (w.heap.size + 1 + 1):=by rw [hW1];exact fz_new _ _ _ _ (by simp)
 have HZ:=hid hz1
 have HT:Hid (txt.size=17):=hid rfl
 obtain ⟨tx,htx⟩:∃ x,x=txt:=⟨_,rfl⟩
 have HSC:Hid (∀ W,Calls Tryz.prog 39 #[.string tx] W (ScanOut W toks)):=hid (fun W=>by rw [htx];exact scan_txt W)
 have hl:tx.size=17:=by rw [htx];rfl
 rw [← htx]
 clear hz1 htx
 go_enter_defers Tryz.func16,Tryz.ntmps16
 have HEX:Hid (∀ W p g c,PsS W p g c toks 0 0→Calls Tryz.prog 40 #[.pointer (some ⟨p,0,none⟩),.int .i64 1] W (ExOut (CallG G2 sHam 2) W p g c toks 9 4)):=hid (fun W p g c h=>ex_ham W p g c h)
 go_wp2_with (fail)
 rw [← hW1]
 clear hW1
 refine (HSC.out _).mono ?_
 rintro e w2 ⟨v,rfl,ho2,hk2⟩
 rcases ho2.form with ⟨_,e⟩ | ⟨g,c,rfl,hg1,hg2,_⟩
 ·cases e
 have hps:=ps_new (.int .i64 17) ho2 hg2
 rw [show toks.length=9 from rfl] at hps ⊢
 have HPS:=hid hps
 clear hps ho2
 go_wp2_with (fail)
 refine (HEX.out _ _ _ _ HPS.out).mono ?_
 rintro e w4 ⟨u0,u1,u2,u3,u4,rfl,h1c,hfr4,hp4,hg4⟩
 obtain ⟨b,cap,_,hE,_⟩:CallG G2 sHam 2 [u0,u1,u2,u3,u4] w4:=by
  obtain ⟨S,_,h2⟩:=hfr4
  exact h2 w4 (Nat.le_refl _) fun _ _=>rfl
 obtain ⟨rfl,rfl,rfl,rfl,rfl⟩:u0=.int .i64 3∧u1=.string sHam∧u2=.int .i64 0∧u3=.slice none 0 0∧u4=.slice (some ⟨b,0,none⟩) 2 cap:=by simpa [CallC] using hE
 have HFR:=hid hfr4
 clear hE hfr4 h1c
 have hk4:Kept w2 w4:=gb_below (kept_alloc w2 _) hg4 (Nat.le_refl _) (by simp)
 have hk14:=hk2.tr hk4
 have hk04:=hk1.tr hk14
 have hb04:=hb0.kept hk14
 have hb14:=hb1.kept hk14
 have hb24:=hb2.kept hk14
 have hf04:=hf0.kept hk14
 have hf14:=hf1.kept hk14
 have hf24:=hf2.kept hk14
 have r0:=hb04.2 0 _ rfl
 have r1:=hb04.2 1 _ rfl
 have r2:=hb04.2 2 _ rfl
 have r3:=hb04.2 3 _ rfl
 have r4:=hb04.2 4 _ rfl
 have r5:=hb14.2 0 _ rfl
 have r6:=hb24.2 0 _ rfl
 have e0:=hf04.2 0
 have e1:=hf04.2 1
 have e2:=hf04.2 2
 have e3:=hf04.2 3
 have e4:=hf04.2 4
 have e5:=hf14.2 0
 have e6:=hf24.2 0
 have q0:=hp4.h0
 have q1:=hp4.h1
 rw [show toks.length=9 from rfl] at q0
 have l0:=hb04.1
 have l1:=hb14.1
 have l2:=hb24.1
 have l3:=hp4.lt
 have HB:=hid (And.intro hb04 (And.intro hb14 hb24))
 clear hb0 hb1 hb2 hf0 hf1 hf2 hb04 hb14 hb24 hf04 hf14 hf24
 go_wp2_with (fail)
 go_quiet (fail)
 go_wp2_with (fail)
 refine leaves_cons (f:=38) (args:=#[.pointer (some ⟨w.heap.size + 1,0,none⟩),.pointer (some ⟨w.heap.size + 1 + 1,0,none⟩)]) (by simp) (by simp [go_sem]) ?_
 refine (guard_idle _ _ _).mono ?_
 rintro e u' w'' ⟨rfl,rfl,rfl⟩
 obtain ⟨b0,b1,b2⟩:=HB.out
 have n01:w.heap.size + 1 ≠ w.heap.size:=by omega
 have n02:w.heap.size + 1 + 1 ≠ w.heap.size:=by omega
 have n10:w.heap.size ≠ w.heap.size + 1:=by omega
 have n12:w.heap.size + 1 + 1 ≠ w.heap.size + 1:=by omega
 have n20:w.heap.size ≠ w.heap.size + 1 + 1:=by omega
 have n21:w.heap.size + 1 ≠ w.heap.size + 1 + 1:=by omega
 have kx:=kept_alloc w4 (.cells #[.int .i64 3,.string sHam,.int .i64 0,.slice none 0 0,.slice (some ⟨b,0,none⟩) 2 cap] 50)
 have q0:=load_expr (((((((((b0.kept kx).drewN nq).set 0 (.int .i64 3)).set 1 (.string sHam)).set 2 (.int .i64 0)).set 3 (.slice none 0 0)).set 4 (.slice (some ⟨b,0,none⟩) 2 cap)).oth (k:=0) n01 (.int .i64 0)).oth (k:=0) n02 (.int .i64 0))
 have q1:=(((((((((b1.kept kx).drewN nq).oth (k:=0) n10 (.int .i64 3)).oth (k:=1) n10 (.string sHam)).oth (k:=2) n10 (.int .i64 0)).oth (k:=3) n10 (.slice none 0 0)).oth (k:=4) n10 (.slice (some ⟨b,0,none⟩) 2 cap)).set 0 (.int .i64 0)).oth (k:=0) n12 (.int .i64 0)).2 0 _ rfl
 have q2:=(((((((((b2.kept kx).drewN nq).oth (k:=0) n20 (.int .i64 3)).oth (k:=1) n20 (.string sHam)).oth (k:=2) n20 (.int .i64 0)).oth (k:=3) n20 (.slice none 0 0)).oth (k:=4) n20 (.slice (some ⟨b,0,none⟩) 2 cap)).oth (k:=0) n21 (.int .i64 0)).set 0 (.int .i64 0)).2 0 _ rfl
 refine ⟨_,results_cell3 rfl rfl rfl rfl q0 (load_err q1) (load_int q2),_,_,_,_,_,rfl, ?_, ?_⟩
 ·refine HFR.out.go (by simp;have:=(hk1.tr hk2).size;omega) (by simp [World.setCell]) fun x hx hlt=>?_
  have hx':w.heap.size + 3≤x:=by have:=HZ.out;have:=hk2.size;simp at hx;omega
  have y0:x ≠ w.heap.size:=by omega
  have y1:x ≠ w.heap.size + 1:=by omega
  have y2:x ≠ w.heap.size + 1 + 1:=by omega
  rw [Below.heap_setCell _ _ _ _ y2,Below.heap_setCell _ _ _ _ y1,Below.heap_setCell _ _ _ _ y0,Below.heap_setCell _ _ _ _ y0,Below.heap_setCell _ _ _ _ y0,Below.heap_setCell _ _ _ _ y0,Below.heap_setCell _ _ _ _ y0]
  exact (kx.drewN nq).block x hlt
 ·exact set_below _ (set_below _ (set_below _ (set_below _ (set_below _ (set_below _ (set_below _ ((hk04.tr kx).drewN nq) (by omega)) (by omega)) (by omega)) (by omega)) (by omega)) (by omega)) (by omega)
end Go.Proofs.YtoilbeadokallaaGreatDoor
namespace Go.Proofs.YtoilbeadokallaaGreatDoor
open Go.RowKit Cw Cw.Gj
def TabG (t:Nat) (w:World):Prop:=∃ l,MapIs w t l∧(l.map (·.1)).Nodup ∧
 (∃ A p1 p2:Nat,(sGf',.slice (some ⟨A,0,none⟩) 2 2) ∈ l∧Bk w A [.string ⟨#[78]⟩,.func (.func 198) #[] #[.pointer (some ⟨p1,0,none⟩)],.nilFunc,.string ⟨#[78,78,76]⟩,.func (.func 198) #[] #[.pointer (some ⟨p2,0,none⟩)],.nilFunc]∧w.cell? ⟨p1,0,none⟩=some (.func (.func 141) #[] #[])∧p1 < w.heap.size) ∧
 (∃ A c p q:Nat,(sHamming,.slice (some ⟨A,0,none⟩) 1 c) ∈ l∧Bk w A [.string ⟨#[70,78]⟩,.func (.func 301) #[] #[.pointer (some ⟨p,0,none⟩)],.func (.func 210) #[] #[]] ∧
  w.cell? ⟨p,0,none⟩=some (.func (.func 299) #[] #[.pointer (some ⟨q,0,none⟩)])∧w.cell? ⟨q,0,none⟩=some (.func (.func 209) #[] #[])∧p < w.heap.size∧q < w.heap.size)
theorem TabG.kept {t:Nat} {w w':World} (h:TabG t w) (k:Kept w w'):TabG t w':=by
 obtain ⟨l,h1,h2,⟨A,p1,p2,h3,h4,h5,h6⟩,⟨A',c,p,q,g1,g2,g3,g4,g5,g6⟩⟩:=h
 exact ⟨l,h1.kept k,h2,⟨A,p1,p2,h3,h4.kept k,(k.cell' h6).trans h5,k.lt h6⟩,⟨A',c,p,q,g1,g2.kept k,(k.cell' g5).trans g3,(k.cell' g6).trans g4,k.lt g5,k.lt g6⟩⟩
theorem cell_lt {w:World} {b o:Nat} {v:Value} (h:w.cell? ⟨b,o,none⟩=some v):b < w.heap.size:=by
 rcases Nat.lt_or_ge b w.heap.size with q | q
 ·exact q
 ·simp [World.cell?,Array.getElem?_eq_none q] at h
theorem TabOut.g {w w':World} {e:Ending} (h:TabOut w e w'):∃ t,e=.returned (.map (some t))∧TabG t w'∧Kept w w':=by
 obtain ⟨t,l,rfl,h1,h2,_,h3,⟨A,p1,p2,q1,q2,q3⟩,⟨A',c,p,q,g1,g2,g3,g4⟩⟩:=h
 exact ⟨t,rfl,⟨l,h1,h3,⟨A,p1,p2,q1,q2,q3,cell_lt q3⟩,⟨A',c,p,q,g1,g2,g3,g4,cell_lt g3,cell_lt g4⟩⟩,h2⟩
theorem nodup_val {l:List (ByteArray × Value)} (hn:(l.map (·.1)).Nodup) {s:ByteArray} {v v':Value} (h:(s,v) ∈ l) (h':(s,v') ∈ l):v'=v:=by
 obtain ⟨i,hi⟩:=List.getElem?_of_mem h
 obtain ⟨j,hj⟩:=List.getElem?_of_mem h'
 have a1:(l.map (·.1))[i]?=some s:=by rw [List.getElem?_map,hi];rfl
 have a2:(l.map (·.1))[j]?=some s:=by rw [List.getElem?_map,hj];rfl
 obtain ⟨c1,d1⟩:=List.getElem?_eq_some_iff.1 a1
 obtain ⟨c2,d2⟩:=List.getElem?_eq_some_iff.1 a2
 have e:i=j:=(List.getElem_inj (xs:=l.map (·.1)) (h₀:=c1) (h₁:=c2) hn).1 (d1.trans d2.symm)
 subst e
 rw [hi] at hj
 cases hj
 rfl
theorem eql_nil_rows (w:World) (a:Option Addr) (n c:Nat):(binOp .eql 208 (.slice a n c) (.slice none 0 0)).run Tryz.prog w=.ok (.bool a.isNone) w:=Lib.run_eql_slice_nil w _ _ a n c 0 0 Tryz.underlying208
theorem eql_low (w:World) (f:Fn) (ca lb:Array Value):(binOp .eql 200 (.func f ca lb) .nilFunc).run Tryz.prog w=.ok (.bool false) w:=by
 have h:∀ d:Nat,(Op.equalIn (d + 1) 200 (.func f ca lb) .nilFunc).run Tryz.prog w=.ok false w:=fun d=>by
  simp [Op.equalIn,run_underlying Tryz.underlying200]
 simp only [binOp]
 simp [Op.equal,Op.maxDepth,h 9999]
theorem eql_nil_low (w:World):(binOp .eql 200 .nilFunc .nilFunc).run Tryz.prog w=.ok (.bool true) w:=by
 have h:∀ d:Nat,(Op.equalIn (d + 1) 200 .nilFunc .nilFunc).run Tryz.prog w=.ok true w:=fun d=>by
  simp [Op.equalIn,run_underlying Tryz.underlying200]
 simp only [binOp]
 simp [Op.equal,Op.maxDepth,h 9999]
set_option maxRecDepth 100000 in
set_option maxHeartbeats 4000000 in
theorem row_any (t:Nat) (s:ByteArray) (K m cap capA A g:Nat) (b:Bool) (a0:ByteArray) (fn:Fn) (fa fc:Array Value) (low:Value) (rest:List Value) (w:World)
  (hl:∀ w',Kept w w'→(Instr.lookup 147 (.map (some t)) (.string s) false).run Tryz.prog w'=.ok (.slice (some ⟨A,0,none⟩) m cap) w')
  (hb:Bk w A (.string a0 :: .func fn fa fc :: low :: rest)) (hm:1≤m) (hm2:m≤2) (hlow:low=.nilFunc∧b=true ∨ ∃ f a c,low=.func f a c∧b=false) (hK:a0.size=K) :
  Calls Tryz.prog 148 #[.agg #[.map (some t)],.agg #[.int .i64 3,.string s,.int .i64 0,.slice none 0 0,.slice (some ⟨g,0,none⟩) K capA],.bool b] w
   (fun e w'=>e=.returned (.tuple #[.agg #[.string a0,.func fn fa fc,low],.int .i64 0])∧Kept w w'):=by
 obtain ⟨W1,hW1⟩:∃ x,x=((w.alloc (.cells #[.map (some t)] 150)).alloc (.cells #[.int .i64 3,.string s,.int .i64 0,.slice none 0 0,.slice (some ⟨g,0,none⟩) K capA] 50)).alloc (.cells #[.string ⟨#[]⟩,.nilFunc,.nilFunc] 202):=⟨_,rfl⟩
 have hk1:Kept w W1:=by rw [hW1];exact ((kept_alloc _ _).tr (kept_alloc _ _)).tr (kept_alloc _ _)
 have hbk:Bk W1 w.heap.size [.map (some t)]:=by rw [hW1];exact ((bk_new w [.map (some t)] _ _ rfl).kept (kept_alloc _ _)).kept (kept_alloc _ _)
 have hbx:Bk W1 (w.heap.size + 1) [.int .i64 3,.string s,.int .i64 0,.slice none 0 0,.slice (some ⟨g,0,none⟩) K capA]:=by rw [hW1];exact (bk_new (w.alloc (.cells #[.map (some t)] 150)) [.int .i64 3,.string s,.int .i64 0,.slice none 0 0,.slice (some ⟨g,0,none⟩) K capA] _ _ (by simp)).kept (kept_alloc _ _)
 have hbr:Bk W1 (w.heap.size + 1 + 1) [.string ⟨#[]⟩,.nilFunc,.nilFunc]:=by rw [hW1];exact bk_new _ [.string ⟨#[]⟩,.nilFunc,.nilFunc] _ _ (by simp)
 have hfr:Fz W1 (w.heap.size + 1 + 1):=by rw [hW1];exact fz_new _ _ _ _ (by simp)
 have hz1:W1.heap.size=w.heap.size + 1 + 1 + 1:=by rw [hW1];simp
 have hnr:=eql_nil_rows
 have hnf:=eql_nil_low
 have hnl:=eql_low
 have hlook:=hl W1 hk1
 have hb1:=hb.kept hk1
 have x0:=hbk.2 0 _ rfl
 have y0:=hbx.2 0 _ rfl
 have y1:=hbx.2 1 _ rfl
 have y4:=hbx.2 4 _ rfl
 have r0:=hb1.2 0 _ rfl
 have r1:=hb1.2 1 _ rfl
 have r2:=hb1.2 2 _ rfl
 have z0:=hbr.2 0 _ rfl
 have z1:=hbr.2 1 _ rfl
 have z2:=hbr.2 2 _ rfl
 have e0:=hfr.2 0
 have e1:=hfr.2 1
 have e2:=hfr.2 2
 have hsz:w.heap.size + 1 + 1 < W1.heap.size:=by omega
 have hne1:¬ w.heap.size + 1=W1.heap.size:=by omega
 have hlt1:w.heap.size + 1 < W1.heap.size:=by omega
 have hm':(0:Int) < (m:Int):=by omega
 have hK':(a0.size:Int)=(K:Int):=by omega
 have HK:=hid hk1
 have HBR:=hid hbr
 clear hz1 hl hb hb1 hbk hbx hbr hfr hk1
 rcases hlow with ⟨rfl,rfl⟩ | ⟨f,a,c,rfl,rfl⟩
 all_goals
  go_enter Tryz.func148,Tryz.ntmps148
  go_upto_region 1 with (fail)
  rw [← hW1]
  clear hW1
  go_wp2_with (fail)
  go_loop [46] (fun vi=>vi=.int .i64 0) (fun _=>0)
  case atStart=>rfl
  case round =>
   subst hrel
   go_wp2_with (fail)
   have hk:=HK.out
   refine bodyPost_ret (results_cell_tmp rfl rfl (load_call ((((HBR.out.set 0 _).set 1 _).set 2 _).kept (kept_alloc _ _)))) rfl ⟨rfl, ?_⟩
   exact (set_below _ (set_below _ (set_below _ hk (by omega)) (by omega)) (by omega)).tr (kept_alloc _ _)
end Go.Proofs.YtoilbeadokallaaGreatDoor
namespace Go.Proofs.YtoilbeadokallaaGreatDoor
open Go.RowKit Cw Cw.Gj
def NumV (n:Int):List Value:=[.int .i64 0,.int .i64 0,.slice none 0 0,.int .i64 0,.int .i64 0,.slice none 0 0,.int .i64 0,.slice none 0 0,.int .i64 n,.slice none 0 0]
def FldV (p m:Int) (v:Value):List Value:=[.int .i64 p,.int .i64 m,v,.int .i64 0,.int .i64 0,.slice none 0 0,.int .i64 0,.slice none 0 0,.int .i64 0,.slice none 0 0]
def CodV (p m:Int) (v:Value) (n:Int) (r:Value):List Value:=[.int .i64 0,.int .i64 0,.slice none 0 0,.int .i64 p,.int .i64 m,v,.int .i64 n,r,.int .i64 0,.slice none 0 0]
set_option maxRecDepth 100000 in
set_option maxHeartbeats 4000000 in
theorem arg_num (t:Nat) (n:Int) (w:World) :
  Calls Tryz.prog 149 #[.agg #[.map (some t)],.agg (NumC n).toArray,.int .u8 78] w fun e w'=>e=.returned (.tuple #[.agg (NumV n).toArray,.int .i64 0])∧Kept w w':=by
 show Calls Tryz.prog 149 #[.agg #[.map (some t)],.agg #[.int .i64 1,.string ⟨#[]⟩,.int .i64 n,.slice none 0 0,.slice none 0 0],.int .u8 78] w _
 go_enter Tryz.func149,Tryz.ntmps149
 go_wp2_with (fail)
 exact bodyPost_ret (results_cell_tmp rfl rfl (load_cvalue (bk_new _ (NumV n) _ _ (by simp)))) rfl ⟨rfl,((kept_alloc _ _).tr (kept_alloc _ _)).tr (kept_alloc _ _)⟩
theorem Bk.set10 {w:World} {b:Nat} {u0 u1 u2 u3 u4 u5 u6 u7 u8 u9:Value} (h:Bk w b [u0,u1,u2,u3,u4,u5,u6,u7,u8,u9]) (v0 v1 v2 v3 v4 v5 v6 v7 v8 v9:Value):Bk ((((((((((w.setCell ⟨b,0,none⟩ v0).setCell ⟨b,1,none⟩ v1).setCell ⟨b,2,none⟩ v2).setCell ⟨b,3,none⟩ v3).setCell ⟨b,4,none⟩ v4).setCell ⟨b,5,none⟩ v5).setCell ⟨b,6,none⟩ v6).setCell ⟨b,7,none⟩ v7).setCell ⟨b,8,none⟩ v8).setCell ⟨b,9,none⟩ v9) b [v0,v1,v2,v3,v4,v5,v6,v7,v8,v9]:=((((((((((h.set 0 v0).set 1 v1).set 2 v2).set 3 v3).set 4 v4).set 5 v5).set 6 v6).set 7 v7).set 8 v8).set 9 v9)
theorem gb_set10 (w:World) (b:Nat) (v0 v1 v2 v3 v4 v5 v6 v7 v8 v9:Value):w.grownBy ((((((((((w.setCell ⟨b,0,none⟩ v0).setCell ⟨b,1,none⟩ v1).setCell ⟨b,2,none⟩ v2).setCell ⟨b,3,none⟩ v3).setCell ⟨b,4,none⟩ v4).setCell ⟨b,5,none⟩ v5).setCell ⟨b,6,none⟩ v6).setCell ⟨b,7,none⟩ v7).setCell ⟨b,8,none⟩ v8).setCell ⟨b,9,none⟩ v9) (some b):=(gb_set (gb_set (gb_set (gb_set (gb_set (gb_set (gb_set (gb_set (gb_set (grownBy_setCell w b 0 v0) 1 v1) 2 v2) 3 v3) 4 v4) 5 v5) 6 v6) 7 v7) 8 v8) 9 v9)
theorem sl_nil {w w':World} {a:Option Addr} {c:Nat} (h:Sl w (.slice a 0 c) []):Sl w' (.slice a 0 c) []:=by
 obtain ⟨a',c',e,h1,h2,h3⟩:=h
 exact ⟨a',c',e,h1,h2,fun h=>absurd rfl h⟩
def FldOut (w:World) (e:Ending) (w':World):Prop:=∃ a c,e=.returned (.tuple #[.agg (FldV 2 1 (.slice a 0 c)).toArray,.int .i64 0])∧Sl w' (.slice a 0 c) []∧Kept w w'
set_option maxRecDepth 100000 in
set_option maxHeartbeats 4000000 in
theorem arg_fld (t:Nat) (s:ByteArray) (g K cap:Nat) (w:World)
  (hM:∀ W,Kept w W→Calls Tryz.prog 87 #[.agg #[.map (some t)],.agg #[.int .i64 3,.string s,.int .i64 0,.slice none 0 0,.slice (some ⟨g,0,none⟩) K cap],.bool true] W (FldOut W)) :
  Calls Tryz.prog 149 #[.agg #[.map (some t)],.agg #[.int .i64 3,.string s,.int .i64 0,.slice none 0 0,.slice (some ⟨g,0,none⟩) K cap],.int .u8 70] w (FldOut w):=by
 obtain ⟨W0,hW0⟩:∃ x,x=(w.alloc (.cells #[.map (some t)] 150)).alloc (.cells #[.int .i64 3,.string s,.int .i64 0,.slice none 0 0,.slice (some ⟨g,0,none⟩) K cap] 50):=⟨_,rfl⟩
 obtain ⟨W1,hW1⟩:∃ x,x=W0.alloc (.cells (NumV 0).toArray 91):=⟨_,rfl⟩
 have hk1:Kept w W1:=by rw [hW1,hW0];exact ((kept_alloc _ _).tr (kept_alloc _ _)).tr (kept_alloc _ _)
 have hk01:Kept W0 W1:=by rw [hW1];exact kept_alloc _ _
 have hbk:Bk W1 w.heap.size [.map (some t)]:=by
  refine Bk.kept ?_ hk01
  rw [hW0]
  exact (bk_new w [.map (some t)] _ _ rfl).kept (kept_alloc _ _)
 have hbx:Bk W1 (w.heap.size + 1) [.int .i64 3,.string s,.int .i64 0,.slice none 0 0,.slice (some ⟨g,0,none⟩) K cap]:=by
  refine Bk.kept ?_ hk01
  rw [hW0]
  exact bk_new _ [.int .i64 3,.string s,.int .i64 0,.slice none 0 0,.slice (some ⟨g,0,none⟩) K cap] _ _ (by simp)
 have hz0:w.heap.size + 1 + 1=W0.heap.size:=by rw [hW0];simp
 have hbr:Bk W1 (w.heap.size + 1 + 1) (NumV 0):=by rw [hW1];exact bk_new _ (NumV 0) _ _ hz0
 have hfr:Fz W1 (w.heap.size + 1 + 1):=by rw [hW1,hz0];exact fz_new _ _ _ _ rfl
 have hz1:W1.heap.size=w.heap.size + 1 + 1 + 1:=by rw [hW1];simp [← hz0]
 have x0:=hbk.2 0 _ rfl
 have y0:=hbx.2 0 _ rfl
 have y1:=hbx.2 1 _ rfl
 have y2:=hbx.2 2 _ rfl
 have y3:=hbx.2 3 _ rfl
 have y4:=hbx.2 4 _ rfl
 have HM:=hid hM
 have HBR:=hid hbr
 have HFR:=hid hfr
 have HK:=hid hk1
 have HZ:=hid hz1
 clear hM hbr hfr hk01 hbk hbx hz0 hk1 hz1
 go_enter Tryz.func149,Tryz.ntmps149
 go_upto_region 1 with (fail)
 unfold NumV at hW1
 rw [← hW0]
 rw [← hW1]
 clear hW1 hW0
 go_wp2_with (fail)
 refine (HM.out _ HK.out).mono ?_
 rintro e w2 ⟨a,c,rfl,hs,hk2⟩
 have hb2:=HBR.out.kept hk2
 have hf2:=HFR.out.kept hk2
 unfold FldV
 unfold NumV at hb2
 have z0:=hb2.2 0 _ rfl
 have z1:=hb2.2 1 _ rfl
 have z2:=hb2.2 2 _ rfl
 have z3:=hb2.2 3 _ rfl
 have z4:=hb2.2 4 _ rfl
 have z5:=hb2.2 5 _ rfl
 have z6:=hb2.2 6 _ rfl
 have z7:=hb2.2 7 _ rfl
 have z8:=hb2.2 8 _ rfl
 have z9:=hb2.2 9 _ rfl
 have f0:=hf2.2 0
 have f1:=hf2.2 1
 have f2:=hf2.2 2
 have f3:=hf2.2 3
 have f4:=hf2.2 4
 have f5:=hf2.2 5
 have f6:=hf2.2 6
 have f7:=hf2.2 7
 have f8:=hf2.2 8
 have f9:=hf2.2 9
 have HS:=hid hs
 have HK2:=hid hk2
 have HB2:=hid hb2
 clear hs hk2 hb2 hf2
 go_wp2_with (fail)
 have hk2:=HK.out.tr HK2.out
 refine bodyPost_ret (results_cell_tmp rfl rfl (load_cvalue (HB2.out.set10 _ _ _ _ _ _ _ _ _ _))) rfl ⟨a,c,rfl,sl_nil HS.out,gb_below hk2 (gb_set10 _ _ _ _ _ _ _ _ _ _ _ _) (by omega) hk2.size⟩
end Go.Proofs.YtoilbeadokallaaGreatDoor
namespace Go.Proofs.YtoilbeadokallaaGreatDoor
open Go.RowKit Cw Cw.Gj
theorem Tryz.infoVal:(Tryz.prog.info? 91).map (fun i=>(i.zero,i.size,i.bytes))=some (some (.agg (NumV 0).toArray),10,144):=by kernel_rfl
theorem cells_val:(Value.agg (NumV 0).toArray).cells=(NumV 0).toArray:=by simp [NumV,Value.cells]
theorem made_1:madeCells (NumV 0).toArray (Int.toNat 1 * 10)=(NumV 0).toArray:=by
 refine Array.toList_inj.1 ?_
 simp [madeCells,NumV,Array.toList_range,List.range,List.range.loop]
theorem made_2:madeCells (NumV 0).toArray (Int.toNat 2 * 10)=(NumV 0 ++ NumV 0).toArray:=by
 refine Array.toList_inj.1 ?_
 simp [madeCells,NumV,Array.toList_range,List.range,List.range.loop]
theorem make_vals1 (w:World):(Instr.makeSlice 204 (.int .i64 1) (.int .i64 1)).run Tryz.prog w=.ok (.slice (some ⟨w.heap.size,0,none⟩) 1 1) (w.alloc (.cells (NumV 0).toArray 91)):=by
 obtain ⟨i0,hi,hz0,hz1,hz2⟩:=info_parts Tryz.infoVal
 have h:=run_make (P:=Tryz.prog) w 204 91 i0 _ Tryz.underlying204 hi hz0 .i64 .i64 1 1 (by omega) (by omega) (by rw [hz2];decide) (by omega)
 rw [hz1,cells_val,made_1] at h
 exact h
theorem make_vals2 (w:World):(Instr.makeSlice 204 (.int .i64 2) (.int .i64 2)).run Tryz.prog w=.ok (.slice (some ⟨w.heap.size,0,none⟩) 2 2) (w.alloc (.cells (NumV 0 ++ NumV 0).toArray 91)):=by
 obtain ⟨i0,hi,hz0,hz1,hz2⟩:=info_parts Tryz.infoVal
 have h:=run_make (P:=Tryz.prog) w 204 91 i0 _ Tryz.underlying204 hi hz0 .i64 .i64 2 2 (by omega) (by omega) (by rw [hz2];decide) (by omega)
 rw [hz1,cells_val,made_2] at h
 exact h
structure MgR (w:World) (gr gv:Nat) (R V:List Value) (wr:World):Prop where
 k:Kept w wr
 r:Bk wr gr R
 v:Bk wr gv V
 b:Bk wr (w.heap.size + 1 + 1) (NumV 0)
 f:Fz wr (w.heap.size + 1 + 1)
theorem MgR.set {w W:World} {gr gv:Nat} {R:List Value} {u0 u1 u2 u3 u4 u5 u6 u7 u8 u9:Value} (k:Kept w W) (r:Bk W gr R) (h:Bk W gv [u0,u1,u2,u3,u4,u5,u6,u7,u8,u9]) (b:Bk W (w.heap.size + 1 + 1) (NumV 0)) (f:Fz W (w.heap.size + 1 + 1)) (h1:gr ≠ gv) (h2:w.heap.size + 1 + 1 ≠ gv) (h3:w.heap.size≤gv) (v0 v1 v2 v3 v4 v5 v6 v7 v8 v9:Value):MgR w gr gv R [v0,v1,v2,v3,v4,v5,v6,v7,v8,v9] ((((((((((W.setCell ⟨gv,0,none⟩ v0).setCell ⟨gv,1,none⟩ v1).setCell ⟨gv,2,none⟩ v2).setCell ⟨gv,3,none⟩ v3).setCell ⟨gv,4,none⟩ v4).setCell ⟨gv,5,none⟩ v5).setCell ⟨gv,6,none⟩ v6).setCell ⟨gv,7,none⟩ v7).setCell ⟨gv,8,none⟩ v8).setCell ⟨gv,9,none⟩ v9) :=
 have hg:=gb_set10 W gv v0 v1 v2 v3 v4 v5 v6 v7 v8 v9
 ⟨gb_below k hg h3 k.size,r.gb hg h1,h.set10 v0 v1 v2 v3 v4 v5 v6 v7 v8 v9,b.gb hg h2,f.gb hg h2⟩
set_option maxRecDepth 100000 in
set_option maxHeartbeats 8000000 in
theorem mean_gf (t g cap p:Nat) (w:World) (hE:Bk w g (NumC 2))
  (hR:∀ W,Kept w W→Calls Tryz.prog 148 #[.agg #[.map (some t)],.agg #[.int .i64 3,.string sGf,.int .i64 0,.slice none 0 0,.slice (some ⟨g,0,none⟩) 1 cap],.bool true] W
   (fun e w'=>e=.returned (.tuple #[.agg #[.string ⟨#[78]⟩,.func (.func 198) #[] #[.pointer (some ⟨p,0,none⟩)],.nilFunc],.int .i64 0])∧Kept W w'))
  (hF:∀ W v,Kept w W→Bk W v (NumV 2)→Calls Tryz.prog 198 #[.slice (some ⟨v,0,none⟩) 1 1,.pointer (some ⟨p,0,none⟩)] W (FldOut W)) :
  Calls Tryz.prog 87 #[.agg #[.map (some t)],.agg #[.int .i64 3,.string sGf,.int .i64 0,.slice none 0 0,.slice (some ⟨g,0,none⟩) 1 cap],.bool true] w (FldOut w):=by
 obtain ⟨sg,hsg⟩:∃ s,s=sGf:=⟨_,rfl⟩
 rw [← hsg] at hR ⊢
 clear hsg
 obtain ⟨W1,hW1⟩:∃ x,x=((w.alloc (.cells #[.map (some t)] 150)).alloc (.cells #[.int .i64 3,.string sg,.int .i64 0,.slice none 0 0,.slice (some ⟨g,0,none⟩) 1 cap] 50)).alloc (.cells #[.int .i64 0,.int .i64 0,.slice none 0 0,.int .i64 0,.int .i64 0,.slice none 0 0,.int .i64 0,.slice none 0 0,.int .i64 0,.slice none 0 0] 91):=⟨_,rfl⟩
 have hk1:Kept w W1:=by rw [hW1];exact ((kept_alloc _ _).tr (kept_alloc _ _)).tr (kept_alloc _ _)
 have hbk:Bk W1 w.heap.size [.map (some t)]:=by rw [hW1];exact ((bk_new w [.map (some t)] _ _ rfl).kept (kept_alloc _ _)).kept (kept_alloc _ _)
 have hbx:Bk W1 (w.heap.size + 1) [.int .i64 3,.string sg,.int .i64 0,.slice none 0 0,.slice (some ⟨g,0,none⟩) 1 cap]:=by rw [hW1];exact (bk_new (w.alloc (.cells #[.map (some t)] 150)) [.int .i64 3,.string sg,.int .i64 0,.slice none 0 0,.slice (some ⟨g,0,none⟩) 1 cap] _ _ (by simp)).kept (kept_alloc _ _)
 have hbr:Bk W1 (w.heap.size + 1 + 1) (NumV 0):=by rw [hW1];exact bk_new _ (NumV 0) _ _ (by simp)
 have hfr:Fz W1 (w.heap.size + 1 + 1):=by rw [hW1];exact fz_new _ _ _ _ (by simp)
 have hz1:W1.heap.size=w.heap.size + 1 + 1 + 1:=by rw [hW1];simp
 have x0:=hbk.2 0 _ rfl
 have y0:=hbx.2 0 _ rfl
 have y1:=hbx.2 1 _ rfl
 have y2:=hbx.2 2 _ rfl
 have y3:=hbx.2 3 _ rfl
 have y4:=hbx.2 4 _ rfl
 have HR:=hid hR
 have HF:=hid hF
 have HE:=hid hE
 have HBK:=hid hbk
 have HBX:=hid hbx
 have HBR:=hid hbr
 have HFR:=hid hfr
 have HK:=hid hk1
 have HZ:=hid hz1
 clear hR hF hE hbk hbx hbr hfr hk1 hz1
 go_enter Tryz.func87,Tryz.ntmps87
 go_upto_region 1 with (fail)
 rw [← hW1]
 clear hW1
 go_wp2_with (fail)
 refine (HR.out _ HK.out).mono ?_
 rintro e w2 ⟨rfl,hk2⟩
 have hbk2:=HBK.out.kept hk2
 have hbx2:=HBX.out.kept hk2
 have hk02:=HK.out.tr hk2
 have he2:=HE.out.kept hk02
 clear x0 y0 y1 y2 y3 y4
 have x0:=hbk2.2 0 _ rfl
 have y0:=hbx2.2 0 _ rfl
 have y1:=hbx2.2 1 _ rfl
 have y2:=hbx2.2 2 _ rfl
 have y3:=hbx2.2 3 _ rfl
 have y4:=hbx2.2 4 _ rfl
 have HBK2:=hid hbk2
 have HBX2:=hid hbx2
 have HE2:=hid he2
 have HK02:=hid hk02
 have HK2:=hid hk2
 clear hbk2 hbx2 he2 hk02 hk2
 have hl2:w.heap.size + 1 < w2.heap.size:=by have:=HK2.out.size;have:=HZ.out;omega
 have hn2:¬ w.heap.size + 1=w2.heap.size:=by omega
 have hmk:=make_vals1
 go_upto_region 5 with (fail)
 obtain ⟨W4,hW4⟩:∃ x,x=(w2.alloc (.cells #[.string ⟨#[78]⟩,.func (.func 198) #[] #[.pointer (some ⟨p,0,none⟩)],.nilFunc] 202)).alloc (.cells (NumV 0).toArray 91):=⟨_,rfl⟩
 have hk24:Kept w2 W4:=by rw [hW4];exact (kept_alloc _ _).tr (kept_alloc _ _)
 have hr4:Bk W4 w2.heap.size [.string ⟨#[78]⟩,.func (.func 198) #[] #[.pointer (some ⟨p,0,none⟩)],.nilFunc]:=by rw [hW4];exact (bk_new w2 [.string ⟨#[78]⟩,.func (.func 198) #[] #[.pointer (some ⟨p,0,none⟩)],.nilFunc] _ _ rfl).kept (kept_alloc _ _)
 obtain ⟨gv,hgv⟩:∃ x,x=w2.heap.size + 1:=⟨_,rfl⟩
 obtain ⟨gr,hgr⟩:∃ x,x=w2.heap.size:=⟨_,rfl⟩
 have hv4:Bk W4 gv (NumV 0):=by rw [hW4];exact bk_new _ (NumV 0) _ _ (by rw [hgv];simp)
 have hvf4:Fz W4 gv:=by rw [hW4];exact fz_new _ _ _ _ (by rw [hgv];simp)
 rw [← hW4,← hgv,← hgr]
 rw [← hgr] at hr4
 have hgw:w.heap.size + 1 < gr:=by omega
 have HGG:Hid (gv=gr + 1):=hid (by omega)
 have HX4:=hid (HBX2.out.kept hk24)
 have HK4:=hid (HBK2.out.kept hk24)
 have HE4:=hid (HE2.out.kept hk24)
 have HKA:=hid (HK02.out.tr hk24)
 have y4:=HX4.out.2 4 _ rfl
 have HKB:=hid (HK2.out.tr hk24)
 clear x0 y0 y1 y2 y3 hW4 hgr hgv hk24 hn2 hl2 hmk
 go_wp2_with (fail)
 go_loopg [31] 2 (fun gk vi wr=>(gk=2∧vi=.int .i64 0∧wr=W4) ∨ (gk=1∧vi=.int .i64 1∧MgR w gr gv [.string ⟨#[78]⟩,.func (.func 198) #[] #[.pointer (some ⟨p,0,none⟩)],.nilFunc] (NumV 2) wr))
 case atStart=>exact .inl ⟨rfl,rfl,rfl⟩
 case round =>
  rcases hrel with ⟨rfl,rfl,rfl⟩ | ⟨rfl,rfl,hm⟩
  ·have c0:=HE4.out.2 0 _ rfl
   have c1:=HE4.out.2 1 _ rfl
   have c2:=HE4.out.2 2 _ rfl
   have c3:=HE4.out.2 3 _ rfl
   have c4:=HE4.out.2 4 _ rfl
   go_upto_region 8 with (fail)
   obtain ⟨W5,hW5⟩:∃ x,x=wr.alloc (.cells #[.int .i64 1,.string ⟨#[]⟩,.int .i64 2,.slice none 0 0,.slice none 0 0] 50):=⟨_,rfl⟩
   have hk45:Kept wr W5:=by rw [hW5];exact kept_alloc _ _
   obtain ⟨gy,hgy⟩:∃ x,x=wr.heap.size:=⟨_,rfl⟩
   have hy5:Bk W5 gy (NumC 2):=by rw [hW5];exact bk_new _ (NumC 2) _ _ hgy
   rw [← hW5,← hgy]
   clear hW5 hgy c0 c1 c2 c3 c4 y4
   have hv5:=hv4.kept hk45
   have hf5:=hvf4.kept hk45
   have hr5:=hr4.kept hk45
   have c0:=hy5.2 0 _ rfl
   have c1:=hy5.2 1 _ rfl
   have c2:=hy5.2 2 _ rfl
   have c3:=hy5.2 3 _ rfl
   have c4:=hy5.2 4 _ rfl
   have x0:=(HK4.out.kept hk45).2 0 _ rfl
   have r0:=hr5.2 0 _ rfl
   have HARG:=hid (fun W=>arg_num t 2 W)
   unfold NumC NumV at HARG
   go_region_law (first
    | (go_simp;go_at_call 149;refine (HARG.out _).mono ?_;rintro e w6 ⟨rfl,hk6⟩;have hk56:Kept W5 w6:=(by first | exact hk6 | exact (kept_drew _).tr hk6 | exact (kept_drewN _ _).tr hk6);have hv6:=hv5.kept hk56;have hf6:=hf5.kept hk56;unfold NumV at hv6;have z0:=hv6.2 0 _ rfl;have f0:=hf6.2 0;have z1:=hv6.2 1 _ rfl;have f1:=hf6.2 1;have z2:=hv6.2 2 _ rfl;have f2:=hf6.2 2;have z3:=hv6.2 3 _ rfl;have f3:=hf6.2 3;have z4:=hv6.2 4 _ rfl;have f4:=hf6.2 4;have z5:=hv6.2 5 _ rfl;have f5:=hf6.2 5;have z6:=hv6.2 6 _ rfl;have f6:=hf6.2 6;have z7:=hv6.2 7 _ rfl;have f7:=hf6.2 7;have z8:=hv6.2 8 _ rfl;have f8:=hf6.2 8;have z9:=hv6.2 9 _ rfl;have f9:=hf6.2 9)
    | fail)
   all_goals
    have hk0:=(HKA.out.tr hk45).tr hk56
    have hk1:=(HKB.out.tr hk45).tr hk56
    have hm7:=MgR.set hk0 (hr5.kept hk56) hv6 (HBR.out.kept hk1) (HFR.out.kept hk1) (by have:=HGG.out;omega) (by have:=HGG.out;omega) (by have:=HGG.out;omega) (.int .i64 0) (.int .i64 0) (.slice none 0 0) (.int .i64 0) (.int .i64 0) (.slice none 0 0) (.int .i64 0) (.slice none 0 0) (.int .i64 2) (.slice none 0 0)
    have HM7:=hid hm7
    clear hm7
    go_wp2_with (fail)
    go_roundg 1
    case measure=>omega
    case rel=>exact .inr ⟨rfl,rfl,HM7.out⟩
  ·have r1:=hm.r.2 1 _ rfl
   have HM:=hid hm
   clear hm
   go_wp2_with (fail)
   refine (HF.out _ gv HM.out.k HM.out.v).mono ?_
   rintro e w8 ⟨a,c,rfl,hs,hk8⟩
   have hb8:=HM.out.b.kept hk8
   have hf8:=HM.out.f.kept hk8
   unfold FldV
   unfold NumV at hb8
   have z0:=hb8.2 0 _ rfl
   have f0:=hf8.2 0
   have z1:=hb8.2 1 _ rfl
   have f1:=hf8.2 1
   have z2:=hb8.2 2 _ rfl
   have f2:=hf8.2 2
   have z3:=hb8.2 3 _ rfl
   have f3:=hf8.2 3
   have z4:=hb8.2 4 _ rfl
   have f4:=hf8.2 4
   have z5:=hb8.2 5 _ rfl
   have f5:=hf8.2 5
   have z6:=hb8.2 6 _ rfl
   have f6:=hf8.2 6
   have z7:=hb8.2 7 _ rfl
   have f7:=hf8.2 7
   have z8:=hb8.2 8 _ rfl
   have f8:=hf8.2 8
   have z9:=hb8.2 9 _ rfl
   have f9:=hf8.2 9
   have HS:=hid hs
   have HK8:=hid (HM.out.k.tr hk8)
   have HB8:=hid hb8
   clear hs hk8 hb8 hf8
   go_wp2_with (fail)
   have hk8:=HK8.out
   exact bodyPost_ret (results_cell_tmp rfl rfl (load_cvalue (HB8.out.set10 _ _ _ _ _ _ _ _ _ _))) rfl ⟨a,c,rfl,sl_nil HS.out,gb_below hk8 (gb_set10 _ _ _ _ _ _ _ _ _ _ _ _) (by omega) hk8.size⟩
end Go.Proofs.YtoilbeadokallaaGreatDoor
namespace Go.Proofs.YtoilbeadokallaaGreatDoor
open Go.RowKit Cw Cw.Gj
def Std2 (w:World) (e:Ending) (w':World):Prop:=∃ a c,e=.returned (.tuple #[.agg #[.int .i64 2,.int .i64 1,.slice a 0 c],.int .i64 0])∧Sl w' (.slice a 0 c) []∧Kept w w'
theorem stdIs2:StdIs 2 2 1 []:=⟨⟨by decide,fun c h1 h2=>by omega⟩,by decide,by decide,by decide,fun _=>rfl,fun h=>absurd rfl h⟩
theorem std2 (w:World):Calls Tryz.prog 142 #[.int .i64 2] w (Std2 w):=by
 refine (standard_in 2 w (by omega) (by omega)).mono ?_
 rintro e w' ⟨⟨p,m,mod,v,h1,rfl,h2⟩ | ⟨h1,_⟩,hk⟩
 ·obtain ⟨rfl,rfl,rfl⟩:=std_unique h1 stdIs2
  obtain ⟨a,c,rfl,h3⟩:=h2
  exact ⟨a,c,rfl,⟨a,c,rfl,h3⟩,hk⟩
 ·exact absurd stdIs2 (h1 2 1 [])
set_option maxRecDepth 100000 in
set_option maxHeartbeats 1000000 in
theorem table1_any (v:Nat) (w:World) (hb:Bk w v (NumV 2)):Calls Tryz.prog 141 #[.slice (some ⟨v,0,none⟩) 1 1] w (Std2 w):=by
 obtain ⟨W1,hW1⟩:∃ x,x=w.alloc (.cells #[.int .i64 0,.int .i64 0,.slice none 0 0] 24):=⟨_,rfl⟩
 have hk1:Kept w W1:=by rw [hW1];exact kept_alloc _ _
 have br:Bk W1 w.heap.size [.int .i64 0,.int .i64 0,.slice none 0 0]:=by rw [hW1];exact bk_new w [.int .i64 0,.int .i64 0,.slice none 0 0] _ _ rfl
 have fr:Fz W1 w.heap.size:=by rw [hW1];exact fz_new _ _ _ _ rfl
 have c8:=(hb.kept hk1).2 8 _ rfl
 go_enter Tryz.func141,Tryz.ntmps141
 go_upto_region 1 with (fail)
 rw [← hW1]
 clear hW1
 go_wp2_with (fail)
 refine (std2 W1).mono ?_
 rintro e w2 ⟨a,c,rfl,hs,hk2⟩
 have hb2:=br.kept hk2
 have hf2:=fr.kept hk2
 have z0:=hb2.2 0 _ rfl
 have z1:=hb2.2 1 _ rfl
 have z2:=hb2.2 2 _ rfl
 have f0:=hf2.2 0
 have f1:=hf2.2 1
 have f2:=hf2.2 2
 have HB:=hid hb2
 have HS:=hid hs
 have HK:=hid (hk1.tr hk2)
 clear hb2 hf2 hs hk2 br fr
 go_wp2_with (fail)
 refine bodyPost_ret (results_cell_tmp rfl rfl (load_field (((HB.out.set 0 _).set 1 _).set 2 _))) rfl ⟨a,c,rfl,sl_nil HS.out, ?_⟩
 exact gb_below HK.out (gb_set (gb_set (grownBy_setCell _ _ _ _) _ _) _ _) (Nat.le_refl _) HK.out.size
set_option maxRecDepth 100000 in
set_option maxHeartbeats 1000000 in
theorem fieldRow1_any (v p:Nat) (w:World) (hb:Bk w v (NumV 2)) (hp:w.cell? ⟨p,0,none⟩=some (.func (.func 141) #[] #[])):Calls Tryz.prog 198 #[.slice (some ⟨v,0,none⟩) 1 1,.pointer (some ⟨p,0,none⟩)] w (FldOut w):=by
 obtain ⟨W1,hW1⟩:∃ x,x=w.alloc (.cells #[.int .i64 0,.int .i64 0,.slice none 0 0,.int .i64 0,.int .i64 0,.slice none 0 0,.int .i64 0,.slice none 0 0,.int .i64 0,.slice none 0 0] 91):=⟨_,rfl⟩
 have hk1:Kept w W1:=by rw [hW1];exact kept_alloc _ _
 have br:Bk W1 w.heap.size (NumV 0):=by rw [hW1];exact bk_new w (NumV 0) _ _ rfl
 have fr:Fz W1 w.heap.size:=by rw [hW1];exact fz_new _ _ _ _ rfl
 have hs1:w.heap.size < W1.heap.size:=by rw [hW1];simp
 have cp:=(hk1.cell' (cell_lt hp)).trans hp
 have HBV:=hid (hb.kept hk1)
 clear hp hb
 go_enter Tryz.func198,Tryz.ntmps198
 go_upto_region 1 with (fail)
 rw [← hW1]
 clear hW1
 go_wp2_with (fail)
 refine (table1_any v W1 HBV.out).mono ?_
 rintro e w2 ⟨a,c,rfl,hs,hk2⟩
 have hs2:w.heap.size < w2.heap.size:=Nat.lt_of_lt_of_le hs1 hk2.size
 have hn2:¬ w.heap.size=w2.heap.size:=by omega
 have hb2:=br.kept hk2
 have hf2:=fr.kept hk2
 unfold NumV at hb2
 have z0:=hb2.2 0 _ rfl
 have f0:=hf2.2 0
 have z1:=hb2.2 1 _ rfl
 have f1:=hf2.2 1
 have z2:=hb2.2 2 _ rfl
 have f2:=hf2.2 2
 have z3:=hb2.2 3 _ rfl
 have f3:=hf2.2 3
 have z4:=hb2.2 4 _ rfl
 have f4:=hf2.2 4
 have z5:=hb2.2 5 _ rfl
 have f5:=hf2.2 5
 have z6:=hb2.2 6 _ rfl
 have f6:=hf2.2 6
 have z7:=hb2.2 7 _ rfl
 have f7:=hf2.2 7
 have z8:=hb2.2 8 _ rfl
 have f8:=hf2.2 8
 have z9:=hb2.2 9 _ rfl
 have f9:=hf2.2 9
 have HB:=hid hb2
 have HS:=hid hs
 have HK:=hid (hk1.tr hk2)
 clear hb2 hf2 hs hk2 br fr
 go_wp2_with (fail)
 refine bodyPost_ret (results_cell_tmp rfl rfl (load_cvalue ?_)) rfl ⟨a,c,rfl,sl_nil HS.out, ?_⟩
 ·exact (HB.out.set10 _ _ _ _ _ _ _ _ _ _).kept (kept_alloc _ _)
 ·exact Kept.tr (gb_below HK.out (gb_set10 _ _ _ _ _ _ _ _ _ _ _ _) (Nat.le_refl _) HK.out.size) (kept_alloc _ _)
end Go.Proofs.YtoilbeadokallaaGreatDoor
