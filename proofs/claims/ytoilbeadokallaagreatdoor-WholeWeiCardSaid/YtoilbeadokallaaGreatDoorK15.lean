/- The walk of eliminate's each, at each of the three closures. Conditions: the field lies in memory with its tables; the rows are the call's own. -/
import Derived.Test.YtoilbeadokallaaGreatDoorK14
namespace Go.Proofs.YtoilbeadokallaaGreatDoor
open Go.RowKit Cw Cw.Gj
structure M2 (w:World) (B:Nat) (v1 v2:Value) (A1 A2:List (List Int)) (r1 r2:Nat→Value):Prop where
 m1:Mx w B v1 A1 r1
 m2:Mx w B v2 A2 r2
 ap:∀ x,Has v1 r1 A1.length x→¬ Has v2 r2 A2.length x
def S2 (v1 v2:Value) (r1 r2:Nat→Value) (n1 n2 x:Nat):Prop:=Has v1 r1 n1 x ∨ Has v2 r2 n2 x
structure Fr (S:Nat→Prop) (w w':World):Prop where
 os:w'.os=w.os
 tape:w'.tape=w.tape
 output:w'.output=w.output
 size:w.heap.size≤w'.heap.size
 block:∀ k,k < w.heap.size→¬ S k→w'.heap[k]?=w.heap[k]?
theorem Fr.tr {S T:Nat→Prop} {a b c:World} (h:Fr S a b) (k:Fr T b c) (hs:∀ x,x < a.heap.size→T x→S x):Fr S a c :=
 ⟨k.os.trans h.os,k.tape.trans h.tape,k.output.trans h.output,Nat.le_trans h.size k.size,fun i hi hn=>(k.block i (Nat.lt_of_lt_of_le hi h.size) (fun e=>hn (hs i hi e))).trans (h.block i hi hn)⟩
theorem Fr.of_gb {S:Nat→Prop} {a b:World} {g:Nat} (h:a.grownBy b (some g)) (hg:S g):Fr S a b:=⟨h.os,h.tape,h.output,h.size,fun i hi hn=>h.block i hi (fun e=>hn (by cases e;exact hg))⟩
theorem Fr.of_kept {a b:World} (S:Nat→Prop) (h:Kept a b):Fr S a b:=⟨h.os,h.tape,h.output,h.size,fun i hi _=>h.block i hi⟩
theorem Fr.cell {S:Nat→Prop} {a b:World} (h:Fr S a b) {x o:Nat} (hx:x < a.heap.size) (hn:¬ S x):b.cell? ⟨x,o,none⟩=a.cell? ⟨x,o,none⟩:=World.cell?_of_block (w:=a) (a:=⟨x,o,none⟩) (h.block x hx hn)
theorem Fr.old {S:Nat→Prop} {w0 a b:World} (h:Fr S a b) (k:Kept w0 a) (hs:∀ x,S x→w0.heap.size≤x):Kept w0 b :=
 ⟨h.os.trans k.os,h.tape.trans k.tape,h.output.trans k.output,Nat.le_trans k.size h.size,fun i hi=>(h.block i (Nat.lt_of_lt_of_le hi k.size) (fun e=>by have:=hs i e;omega)).trans (k.block i hi)⟩
def St (w:World) (B:Nat) (v:Value) (rv:Nat→Value) (n:Nat) (C:List (List Int)) (w':World):Prop :=
 ∃ g rv',Has v rv n g∧w.grownBy w' (some g)∧Mx w' B v C rv'∧∀ x,Has v rv' n x→Has v rv n x ∨ w.heap.size≤x
def Out2 (w:World) (B:Nat) (v1 v2:Value) (r1 r2:Nat→Value) (n1 n2:Nat) (C1 C2:List (List Int)) (e:Ending) (w':World):Prop :=
 e=.returned (.tuple #[])∧∃ s1 s2,M2 w' B v1 v2 C1 C2 s1 s2∧Fr (S2 v1 v2 r1 r2 n1 n2) w w'∧∀ x,S2 v1 v2 s1 s2 n1 n2 x→S2 v1 v2 r1 r2 n1 n2 x ∨ w.heap.size≤x
theorem out_one {w w':World} {B:Nat} {v1 v2:Value} {A1 C1:List (List Int)} {r1 r2:Nat→Value} (h:M2 w B v1 v2 A1 [] r1 r2) (hl:C1.length=A1.length) (k:St w B v1 r1 A1.length C1 w'):Out2 w B v1 v2 r1 r2 A1.length 0 C1 [] (.returned (.tuple #[])) w':=by
 obtain ⟨g,rv',k1,k2,k3,k4⟩:=k
 have h2:=h.m2.grown k2 (h.ap g k1)
 refine ⟨rfl,rv',r2,⟨k3,h2,fun x hx hy=>?_⟩,Fr.of_gb k2 (.inl k1),fun x hx=>?_⟩
 ·rw [hl] at hx
  rcases k4 x hx with q | q
  ·exact h.ap x q hy
  ·have:=h.m2.has_lt hy;omega
 ·rcases hx with q | q
  ·rcases k4 x q with q | q
   ·exact .inl (.inl q)
   ·exact .inr q
  ·exact .inl (.inr q)
theorem St.in {w w':World} {B:Nat} {v:Value} {rv:Nat→Value} {n:Nat} {C:List (List Int)} (k:St w B v rv n C w') {x:Nat} (hx:x < w.heap.size) (hn:¬ Has v rv n x) (o:Nat):w'.cell? ⟨x,o,none⟩=w.cell? ⟨x,o,none⟩:=by
 obtain ⟨g,rv',k1,k2,k3,k4⟩:=k
 exact gb_cell k2 hx (fun e=>hn (by rw [e];exact k1))
theorem St.size {w w':World} {B:Nat} {v:Value} {rv:Nat→Value} {n:Nat} {C:List (List Int)} (k:St w B v rv n C w'):w.heap.size≤w'.heap.size:=by
 obtain ⟨g,rv',k1,k2,k3,k4⟩:=k
 exact k2.size
theorem out_two {w w1 w':World} {B:Nat} {v1 v2:Value} {A1 A2 C1 C2:List (List Int)} {r1 r2:Nat→Value} (h:M2 w B v1 v2 A1 A2 r1 r2) (hl1:C1.length=A1.length) (hl2:C2.length=A2.length) (k:St w B v1 r1 A1.length C1 w1) (j:St w1 B v2 r2 A2.length C2 w'):Out2 w B v1 v2 r1 r2 A1.length A2.length C1 C2 (.returned (.tuple #[])) w':=by
 obtain ⟨g,s1,k1,k2,k3,k4⟩:=k
 obtain ⟨g',s2,j1,j2,j3,j4⟩:=j
 have hg':=h.m2.has_lt j1
 have h3:=k3.grown j2 (fun q=>by
  rw [hl1] at q
  rcases k4 g' q with q | q
  ·exact h.ap g' q j1
  ·omega)
 refine ⟨rfl,s1,s2,⟨h3,j3,fun x hx hy=>?_⟩,(Fr.of_gb k2 (.inl k1)).tr (Fr.of_gb (S:=S2 v1 v2 r1 r2 A1.length A2.length) j2 (.inr j1)) (fun x _ q=>q),fun x hx=>?_⟩
 ·rw [hl1] at hx
  rw [hl2] at hy
  rcases j4 x hy with q | q
  ·rcases k4 x hx with q2 | q2
   ·exact h.ap x q2 q
   ·have:=h.m2.has_lt q;omega
  ·have hxx:=k3.has_lt (g:=x) (by rw [hl1];exact hx)
   omega
 ·rcases hx with q | q
  ·rcases k4 x q with q | q
   ·exact .inl (.inl q)
   ·exact .inr q
  ·rcases j4 x q with q | q
   ·exact .inl (.inr q)
   ·have:=k2.size;exact .inr (by omega)
theorem m2_next {w w1:World} {B:Nat} {v1 v2:Value} {A1 A2 C1:List (List Int)} {r1 r2:Nat→Value} (h:M2 w B v1 v2 A1 A2 r1 r2) (k:St w B v1 r1 A1.length C1 w1):Mx w1 B v2 A2 r2:=by
 obtain ⟨g,s1,k1,k2,k3,k4⟩:=k
 exact h.m2.grown k2 (h.ap g k1)
theorem Mx.lenOf {w:World} {B:Nat} {v:Value} {A:List (List Int)} {rv:Nat→Value} (h:Mx w B v A rv):∃ a c,v=.slice a A.length c:=by
 rcases h.form with ⟨e,e2⟩ | ⟨g,c,e,_⟩
 ·exact ⟨none,0,by rw [e,e2];rfl⟩
 ·exact ⟨_,c,e⟩
section
variable (b:Nat) (G:GFd) (t:Tabs G) (p1 p2:Nat) (v1 v2:Value) (A1 A2:List (List Int)) (r1 r2:Nat→Value) (w0 w:World)
theorem swap_st (pk pa k a:Nat) (v:Value) (A:List (List Int)) (rv:Nat→Value) (w:World) (B:Nat) (ck:w.cell? ⟨pk,0,none⟩=some (.int .i64 k)) (ca:w.cell? ⟨pa,0,none⟩=some (.int .i64 a)) (h:Mx w B v A rv) (hk:k < A.length) (ha:a < A.length) (hne:a ≠ k)
  (hpk:¬ Has v rv A.length pk) (hpa:¬ Has v rv A.length pa) :
  Calls Tryz.prog 183 #[v,.pointer (some ⟨pk,0,none⟩),.pointer (some ⟨pa,0,none⟩)] w fun e w'=>e=.returned (.tuple #[])∧St w B v rv A.length (swpL A a k) w' :=
 (swap_any pk pa k a v A rv w B ck ca h hk ha hne hpk hpa).mono fun _ _ ⟨he,g,rv',h1,h2,h3,h4⟩=>⟨he,g,rv',.inl h1,h2,h3,fun x hx=>.inl (h4 x hx)⟩
set_option maxHeartbeats 1000000 in
theorem each_swap (pk pa k a:Nat) (c1:w.cell? ⟨p1,0,none⟩=some v1) (c2:w.cell? ⟨p2,0,none⟩=some v2) (ck:w.cell? ⟨pk,0,none⟩=some (.int .i64 k)) (ca:w.cell? ⟨pa,0,none⟩=some (.int .i64 a)) (B:Nat) (h:M2 w B v1 v2 A1 A2 r1 r2)
  (hn:A2=[] ∨ A2.length=A1.length) (hk:k < A1.length) (ha:a < A1.length) (hne:a ≠ k) (q2:p2 < w.heap.size∧¬ S2 v1 v2 r1 r2 A1.length A2.length p2) (qpk:pk < w.heap.size∧¬ S2 v1 v2 r1 r2 A1.length A2.length pk) (qpa:pa < w.heap.size∧¬ S2 v1 v2 r1 r2 A1.length A2.length pa) :
  Calls Tryz.prog 182 #[.func (.func 183) #[] #[.pointer (some ⟨pk,0,none⟩),.pointer (some ⟨pa,0,none⟩)],.pointer (some ⟨p1,0,none⟩),.pointer (some ⟨p2,0,none⟩)] w (Out2 w B v1 v2 r1 r2 A1.length A2.length (swpL A1 a k) (swpL A2 a k)):=by
 have hS:=swap_st pk pa k a v1 A1 r1 w B ck ca h.m1 hk ha hne (fun q=>qpk.2 (.inl q)) (fun q=>qpa.2 (.inl q))
 obtain ⟨a2,cc,e2⟩:=h.m2.lenOf
 subst e2
 have HH:=hid h
 rcases hn with e | e
 ·subst e
  have H1:Hid ((swpL ([]:List (List Int)) a k)=[]):=hid rfl
  go_enter Tryz.func182,Tryz.ntmps182
  go_wp2_with (fail)
  refine hS.mono ?_
  rintro e w1 ⟨rfl,hs1⟩
  have c2':=(St.in hs1 q2.1 (fun q=>q2.2 (.inl q)) 0).trans c2
  have HS1:=hid hs1
  clear hs1 hS
  go_wp2_with (fail)
  go_end0
  rw [H1.out]
  exact out_one HH.out (length_swpL _ _ _) HS1.out
 ·have hpos:(0:Int) < (A2.length:Int):=by omega
  have hk2:k < A2.length:=by omega
  have ha2:a < A2.length:=by omega
  have HE:=hid e
  clear e
  go_enter Tryz.func182,Tryz.ntmps182
  go_wp2_with (fail)
  refine hS.mono ?_
  rintro e w1 ⟨rfl,hs1⟩
  have c2':=(St.in hs1 q2.1 (fun q=>q2.2 (.inl q)) 0).trans c2
  have ck':=(St.in hs1 qpk.1 (fun q=>qpk.2 (.inl q)) 0).trans ck
  have spk:pk < w1.heap.size:=Nat.lt_of_lt_of_le qpk.1 hs1.size
  have ca':=(St.in hs1 qpa.1 (fun q=>qpa.2 (.inl q)) 0).trans ca
  have spa:pa < w1.heap.size:=Nat.lt_of_lt_of_le qpa.1 hs1.size
  have hm:=m2_next HH.out hs1
  have HS1:=hid hs1
  clear hs1 hS
  go_wp2_with (fail)
  refine (swap_st pk pa k a _ A2 r2 w1 B ck' ca' hm hk2 ha2 hne (fun q=>qpk.2 (.inr q)) (fun q=>qpa.2 (.inr q))).mono ?_
  rintro e w2 ⟨rfl,hs2⟩
  have HS2:=hid hs2
  clear hs2
  go_wp2_with (fail)
  go_end0
  exact out_two HH.out (length_swpL _ _ _) (length_swpL _ _ _) HS1.out HS2.out
theorem st_old {w0 w w':World} {v:Value} {rv:Nat→Value} {A C:List (List Int)} (h:Mx w w0.heap.size v A rv) (hk:Kept w0 w) (k:St w w0.heap.size v rv A.length C w'):Kept w0 w':=by
 obtain ⟨g,rv',k1,k2,k3,k4⟩:=k
 exact gb_below hk k2 (h.has_lt k1).1 hk.size
include t in
theorem scl_st (pg pi pa a:Nat) (x:Int) (v:Value) (A:List (List Int)) (rv:Nat→Value) (w:World) (hg:IsGF w0 b G) (hk0:Kept w0 w) (cg:w.cell? ⟨pg,0,none⟩=some (.pointer (some ⟨b,0,none⟩))) (ci:w.cell? ⟨pi,0,none⟩=some (.int .i64 x)) (ca:w.cell? ⟨pa,0,none⟩=some (.int .i64 a))
  (hpg:pg < w.heap.size∧¬ Has v rv A.length pg) (hpi:pi < w.heap.size∧¬ Has v rv A.length pi) (hpa:pa < w.heap.size∧¬ Has v rv A.length pa) (h:Mx w w0.heap.size v A rv) (ha:a < A.length) (hrl:(Gj.row A a).length≤1000) :
  Calls Tryz.prog 184 #[v,.pointer (some ⟨pg,0,none⟩),.pointer (some ⟨pi,0,none⟩),.pointer (some ⟨pa,0,none⟩)] w fun e w'=>e=.returned (.tuple #[])∧St w w0.heap.size v rv A.length (A.set a ((Gj.row A a).map (mulG G x))) w' :=
 (scl_any b G t pg pi pa a x v A rv w0 w hg hk0 cg ci ca hpg hpi hpa h ha hrl).mono fun _ _ ⟨he,g,rv',h1,h2,h3,h4⟩=>⟨he,g,rv',.inl h1,h2,h3,h4⟩
include t in
set_option maxHeartbeats 1000000 in
theorem each_scl (pg pi pa a:Nat) (x:Int) (hg:IsGF w0 b G) (hk0:Kept w0 w) (c1:w.cell? ⟨p1,0,none⟩=some v1) (c2:w.cell? ⟨p2,0,none⟩=some v2) (cg:w.cell? ⟨pg,0,none⟩=some (.pointer (some ⟨b,0,none⟩))) (ci:w.cell? ⟨pi,0,none⟩=some (.int .i64 x)) (ca:w.cell? ⟨pa,0,none⟩=some (.int .i64 a)) (h:M2 w w0.heap.size v1 v2 A1 A2 r1 r2)
  (hn:A2=[] ∨ A2.length=A1.length) (ha:a < A1.length) (hr1:(Gj.row A1 a).length≤1000) (hr2:(Gj.row A2 a).length≤1000) (q2:p2 < w.heap.size∧¬ S2 v1 v2 r1 r2 A1.length A2.length p2) (qpg:pg < w.heap.size∧¬ S2 v1 v2 r1 r2 A1.length A2.length pg) (qpi:pi < w.heap.size∧¬ S2 v1 v2 r1 r2 A1.length A2.length pi) (qpa:pa < w.heap.size∧¬ S2 v1 v2 r1 r2 A1.length A2.length pa) :
  Calls Tryz.prog 182 #[.func (.func 184) #[] #[.pointer (some ⟨pg,0,none⟩),.pointer (some ⟨pi,0,none⟩),.pointer (some ⟨pa,0,none⟩)],.pointer (some ⟨p1,0,none⟩),.pointer (some ⟨p2,0,none⟩)] w (Out2 w w0.heap.size v1 v2 r1 r2 A1.length A2.length (A1.set a ((Gj.row A1 a).map (mulG G x))) (A2.set a ((Gj.row A2 a).map (mulG G x)))):=by
 have hS:=scl_st b G t w0 pg pi pa a x v1 A1 r1 w hg hk0 cg ci ca ⟨qpg.1,fun q=>qpg.2 (.inl q)⟩ ⟨qpi.1,fun q=>qpi.2 (.inl q)⟩ ⟨qpa.1,fun q=>qpa.2 (.inl q)⟩ h.m1 ha hr1
 obtain ⟨a2,cc,e2⟩:=h.m2.lenOf
 subst e2
 have HH:=hid h
 rcases hn with e | e
 ·subst e
  have H1:Hid ((([]:List (List Int)).set a ((Gj.row ([]:List (List Int)) a).map (mulG G x)))=[]):=hid rfl
  go_enter Tryz.func182,Tryz.ntmps182
  go_wp2_with (fail)
  refine hS.mono ?_
  rintro e w1 ⟨rfl,hs1⟩
  have c2':=(St.in hs1 q2.1 (fun q=>q2.2 (.inl q)) 0).trans c2
  have HS1:=hid hs1
  clear hs1 hS
  go_wp2_with (fail)
  go_end0
  rw [H1.out]
  exact out_one HH.out (List.length_set) HS1.out
 ·have hpos:(0:Int) < (A2.length:Int):=by omega
  have ha2:a < A2.length:=by omega
  have HE:=hid e
  clear e
  go_enter Tryz.func182,Tryz.ntmps182
  go_wp2_with (fail)
  refine hS.mono ?_
  rintro e w1 ⟨rfl,hs1⟩
  have c2':=(St.in hs1 q2.1 (fun q=>q2.2 (.inl q)) 0).trans c2
  have cg':=(St.in hs1 qpg.1 (fun q=>qpg.2 (.inl q)) 0).trans cg
  have spg:pg < w1.heap.size:=Nat.lt_of_lt_of_le qpg.1 hs1.size
  have ci':=(St.in hs1 qpi.1 (fun q=>qpi.2 (.inl q)) 0).trans ci
  have spi:pi < w1.heap.size:=Nat.lt_of_lt_of_le qpi.1 hs1.size
  have ca':=(St.in hs1 qpa.1 (fun q=>qpa.2 (.inl q)) 0).trans ca
  have spa:pa < w1.heap.size:=Nat.lt_of_lt_of_le qpa.1 hs1.size
  have hm:=m2_next HH.out hs1
  have hk1:=st_old HH.out.m1 hk0 hs1
  have HS1:=hid hs1
  clear hs1 hS
  go_wp2_with (fail)
  refine (scl_st b G t w0 pg pi pa a x _ A2 r2 w1 hg hk1 cg' ci' ca' ⟨spg,fun q=>qpg.2 (.inr q)⟩ ⟨spi,fun q=>qpi.2 (.inr q)⟩ ⟨spa,fun q=>qpa.2 (.inr q)⟩ hm ha2 hr2).mono ?_
  rintro e w2 ⟨rfl,hs2⟩
  have HS2:=hid hs2
  clear hs2
  go_wp2_with (fail)
  go_end0
  exact out_two HH.out (List.length_set) (List.length_set) HS1.out HS2.out
include t in
theorem adr_st (pg pi px pa i a:Nat) (x:Int) (v:Value) (A:List (List Int)) (rv:Nat→Value) (w:World) (hg:IsGF w0 b G) (hk0:Kept w0 w) (cg:w.cell? ⟨pg,0,none⟩=some (.pointer (some ⟨b,0,none⟩))) (ci:w.cell? ⟨pi,0,none⟩=some (.int .i64 i)) (cx:w.cell? ⟨px,0,none⟩=some (.int .i64 x)) (ca:w.cell? ⟨pa,0,none⟩=some (.int .i64 a))
  (h:Mx w w0.heap.size v A rv) (hpg:pg < w.heap.size∧¬ Has v rv A.length pg) (hpi:pi < w.heap.size∧¬ Has v rv A.length pi) (hpx:px < w.heap.size∧¬ Has v rv A.length px) (hpa:pa < w.heap.size∧¬ Has v rv A.length pa) (hi:i < A.length) (ha:a < A.length) (hne:i ≠ a) (hr1:Gj.row A i ≠ []) (hrl:(Gj.row A i).length≤1000) (hrr:(Gj.row A a).length=(Gj.row A i).length) :
  Calls Tryz.prog 185 #[v,.pointer (some ⟨pg,0,none⟩),.pointer (some ⟨pi,0,none⟩),.pointer (some ⟨px,0,none⟩),.pointer (some ⟨pa,0,none⟩)] w fun e w'=>e=.returned (.tuple #[])∧St w w0.heap.size v rv A.length (A.set i (axpy (opG G) (negG G x) (Gj.row A a) (Gj.row A i))) w' :=
 (adr_any b G t pg pi px pa i a x v A rv w0 w hg hk0 cg ci cx ca h hpg hpi hpx hpa hi ha hne hr1 hrl hrr).mono fun _ _ ⟨he,g,h1,h2,h3⟩=>⟨he,g,rv,.inr ⟨i,hi,h1⟩,h2,h3,fun _ hx=>.inl hx⟩
include t in
set_option maxHeartbeats 1000000 in
theorem each_adr (pg pi px pa i a:Nat) (x:Int) (hg:IsGF w0 b G) (hk0:Kept w0 w) (c1:w.cell? ⟨p1,0,none⟩=some v1) (c2:w.cell? ⟨p2,0,none⟩=some v2) (cg:w.cell? ⟨pg,0,none⟩=some (.pointer (some ⟨b,0,none⟩))) (ci:w.cell? ⟨pi,0,none⟩=some (.int .i64 i)) (cx:w.cell? ⟨px,0,none⟩=some (.int .i64 x)) (ca:w.cell? ⟨pa,0,none⟩=some (.int .i64 a)) (h:M2 w w0.heap.size v1 v2 A1 A2 r1 r2)
  (hn:A2=[] ∨ A2.length=A1.length) (hi:i < A1.length) (ha:a < A1.length) (hne:i ≠ a) (hr1:Gj.row A1 i ≠ []∧(Gj.row A1 i).length≤1000∧(Gj.row A1 a).length=(Gj.row A1 i).length) (hr2:A2 ≠ []→Gj.row A2 i ≠ []∧(Gj.row A2 i).length≤1000∧(Gj.row A2 a).length=(Gj.row A2 i).length) (q2:p2 < w.heap.size∧¬ S2 v1 v2 r1 r2 A1.length A2.length p2) (qpg:pg < w.heap.size∧¬ S2 v1 v2 r1 r2 A1.length A2.length pg) (qpi:pi < w.heap.size∧¬ S2 v1 v2 r1 r2 A1.length A2.length pi) (qpx:px < w.heap.size∧¬ S2 v1 v2 r1 r2 A1.length A2.length px) (qpa:pa < w.heap.size∧¬ S2 v1 v2 r1 r2 A1.length A2.length pa) :
  Calls Tryz.prog 182 #[.func (.func 185) #[] #[.pointer (some ⟨pg,0,none⟩),.pointer (some ⟨pi,0,none⟩),.pointer (some ⟨px,0,none⟩),.pointer (some ⟨pa,0,none⟩)],.pointer (some ⟨p1,0,none⟩),.pointer (some ⟨p2,0,none⟩)] w (Out2 w w0.heap.size v1 v2 r1 r2 A1.length A2.length (A1.set i (axpy (opG G) (negG G x) (Gj.row A1 a) (Gj.row A1 i))) (A2.set i (axpy (opG G) (negG G x) (Gj.row A2 a) (Gj.row A2 i)))):=by
 have hS:=adr_st b G t w0 pg pi px pa i a x v1 A1 r1 w hg hk0 cg ci cx ca h.m1 ⟨qpg.1,fun q=>qpg.2 (.inl q)⟩ ⟨qpi.1,fun q=>qpi.2 (.inl q)⟩ ⟨qpx.1,fun q=>qpx.2 (.inl q)⟩ ⟨qpa.1,fun q=>qpa.2 (.inl q)⟩ hi ha hne hr1.1 hr1.2.1 hr1.2.2
 obtain ⟨a2,cc,e2⟩:=h.m2.lenOf
 subst e2
 have HH:=hid h
 have HR2:=hid hr2
 have HN:=hid hne
 clear hr1 hr2 hne
 rcases hn with e | e
 ·subst e
  have H1:Hid ((([]:List (List Int)).set i (axpy (opG G) (negG G x) (Gj.row ([]:List (List Int)) a) (Gj.row ([]:List (List Int)) i)))=[]):=hid rfl
  go_enter Tryz.func182,Tryz.ntmps182
  go_wp2_with (fail)
  refine hS.mono ?_
  rintro e w1 ⟨rfl,hs1⟩
  have c2':=(St.in hs1 q2.1 (fun q=>q2.2 (.inl q)) 0).trans c2
  have HS1:=hid hs1
  clear hs1 hS
  go_wp2_with (fail)
  go_end0
  rw [H1.out]
  exact out_one HH.out (List.length_set) HS1.out
 ·have hpos:(0:Int) < (A2.length:Int):=by omega
  have hi2:i < A2.length:=by omega
  have ha2:a < A2.length:=by omega
  have hz2:A2 ≠ []:=by intro e;rw [e] at hi2;simp at hi2
  have HE:=hid e
  clear e
  go_enter Tryz.func182,Tryz.ntmps182
  go_wp2_with (fail)
  refine hS.mono ?_
  rintro e w1 ⟨rfl,hs1⟩
  have c2':=(St.in hs1 q2.1 (fun q=>q2.2 (.inl q)) 0).trans c2
  have cg':=(St.in hs1 qpg.1 (fun q=>qpg.2 (.inl q)) 0).trans cg
  have spg:pg < w1.heap.size:=Nat.lt_of_lt_of_le qpg.1 hs1.size
  have ci':=(St.in hs1 qpi.1 (fun q=>qpi.2 (.inl q)) 0).trans ci
  have spi:pi < w1.heap.size:=Nat.lt_of_lt_of_le qpi.1 hs1.size
  have cx':=(St.in hs1 qpx.1 (fun q=>qpx.2 (.inl q)) 0).trans cx
  have spx:px < w1.heap.size:=Nat.lt_of_lt_of_le qpx.1 hs1.size
  have ca':=(St.in hs1 qpa.1 (fun q=>qpa.2 (.inl q)) 0).trans ca
  have spa:pa < w1.heap.size:=Nat.lt_of_lt_of_le qpa.1 hs1.size
  have hm:=m2_next HH.out hs1
  have hk1:=st_old HH.out.m1 hk0 hs1
  have HS1:=hid hs1
  clear hs1 hS
  go_wp2_with (fail)
  refine (adr_st b G t w0 pg pi px pa i a x _ A2 r2 w1 hg hk1 cg' ci' cx' ca' hm ⟨spg,fun q=>qpg.2 (.inr q)⟩ ⟨spi,fun q=>qpi.2 (.inr q)⟩ ⟨spx,fun q=>qpx.2 (.inr q)⟩ ⟨spa,fun q=>qpa.2 (.inr q)⟩ hi2 ha2 HN.out (HR2.out hz2).1 (HR2.out hz2).2.1 (HR2.out hz2).2.2).mono ?_
  rintro e w2 ⟨rfl,hs2⟩
  have HS2:=hid hs2
  clear hs2
  go_wp2_with (fail)
  go_end0
  exact out_two HH.out (List.length_set) (List.length_set) HS1.out HS2.out
end
end Go.Proofs.YtoilbeadokallaaGreatDoor
