/- Lemmas on the way to the row, merged: walks of functions and plain algebra. Conditions: each lemma's own, stated with it. -/
import Derived.Test.YtoilbeadokallaaGreatDoorK01
import Derived.Test.YtoilbeadokallaaGreatDoorK03
import Derived.Test.YtoilbeadokallaaGreatDoorK04
namespace Cw
structure Op where
 add:Int→Int→Int
 mul:Int→Int→Int
 neg:Int→Int
 inv:Int→Int
def opG (G:GFd):Op:=⟨addG G,mulG G,negG G,invG G⟩
namespace Gj
def row (A:List (List Int)) (i:Nat):List Int:=A.getD i []
def en (A:List (List Int)) (i k:Nat):Int:=(row A i).getD k 0
def axpy (o:Op) (a:Int) (u v:List Int):List Int:=(List.range v.length).map fun k=>if u.getD k 0=0 then v.getD k 0 else o.add (v.getD k 0) (o.mul a (u.getD k 0))
def sclD (o:Op) (a:Int) (u:List Int):List Int:=if a=1 then u else u.map (o.mul a)
def swpL (A:List (List Int)) (r p:Nat):List (List Int):=(List.range A.length).map fun i=>row A (if i=r then p else if i=p then r else i)
def clrL (o:Op) (A:List (List Int)) (r c:Nat) (u:List Int):List (List Int) :=
 (List.range A.length).map fun i=>if i=r then u else if en A i c=0 then row A i else axpy o (o.neg (en A i c)) u (row A i)
def pivL (o:Op) (A:List (List Int)) (r p c:Nat):List (List Int):=clrL o (swpL A r p) r c (sclD o (o.inv (en (swpL A r p) r c)) (row (swpL A r p) r))
def nz (c:Nat) (l:List Int):Bool:=l.getD c 0 != 0
def fnd (A:List (List Int)) (c r:Nat):Nat:=r + (A.drop r).findIdx (nz c)
def gj (o:Op):Nat→Nat→List (List Int)→List Nat→List (List Int) × List Nat
 | 0,_,A,P=>(A,P)
 | m + 1,c,A,P=>if fnd A c P.length < A.length then gj o m (c + 1) (pivL o A P.length (fnd A c P.length) c) (P ++ [c]) else gj o m (c + 1) A P
def canL (o:Op) (A:List (List Int)) (cols:Nat):List (List Int):=((gj o cols 0 A []).1).take (gj o cols 0 A []).2.length
def pvL (o:Op) (A:List (List Int)) (cols:Nat):List Nat:=(gj o cols 0 A []).2
theorem getD_map {β:Type} (f:Nat→β) (n i:Nat) (d:β):((List.range n).map f).getD i d=if i < n then f i else d:=by
 by_cases h:i < n
 ·rw [if_pos h];simp [List.getD,h]
 ·rw [if_neg h];simp [List.getD,h]
theorem row_map {f:Nat→List Int} {n i:Nat} (h:i < n):row ((List.range n).map f) i=f i:=by unfold row;rw [getD_map,if_pos h]
theorem row_out {A:List (List Int)} {i:Nat} (h:A.length≤i):row A i=[]:=by unfold row;simp [List.getD,h]
theorem en_out {A:List (List Int)} {i k:Nat} (h:A.length≤i):en A i k=0:=by unfold en;rw [row_out h];simp
theorem length_axpy (o:Op) (a:Int) (u v:List Int):(axpy o a u v).length=v.length:=by simp [axpy]
theorem axpy_at {o:Op} {a:Int} {u v:List Int} {k:Nat} (h:k < v.length):(axpy o a u v).getD k 0=if u.getD k 0=0 then v.getD k 0 else o.add (v.getD k 0) (o.mul a (u.getD k 0)):=by
 unfold axpy;rw [getD_map,if_pos h]
theorem length_sclD (o:Op) (a:Int) (u:List Int):(sclD o a u).length=u.length:=by unfold sclD;split <;> simp
theorem sclD_at {o:Op} {a:Int} {u:List Int} {k:Nat} (h:k < u.length):(sclD o a u).getD k 0=if a=1 then u.getD k 0 else o.mul a (u.getD k 0):=by
 unfold sclD
 split
 ·rfl
 ·simp [List.getD,h]
theorem length_swpL (A:List (List Int)) (r p:Nat):(swpL A r p).length=A.length:=by simp [swpL]
theorem row_swpL {A:List (List Int)} {r p i:Nat} (h:i < A.length):row (swpL A r p) i=row A (if i=r then p else if i=p then r else i):=row_map h
theorem length_clrL (o:Op) (A:List (List Int)) (r c:Nat) (u:List Int):(clrL o A r c u).length=A.length:=by simp [clrL]
theorem row_clrL {o:Op} {A:List (List Int)} {r c:Nat} {u:List Int} {i:Nat} (h:i < A.length):row (clrL o A r c u) i=if i=r then u else if en A i c=0 then row A i else axpy o (o.neg (en A i c)) u (row A i):=row_map h
theorem length_pivL (o:Op) (A:List (List Int)) (r p c:Nat):(pivL o A r p c).length=A.length:=by rw [pivL,length_clrL,length_swpL]
theorem fnd_ge (A:List (List Int)) (c r:Nat):r≤fnd A c r:=Nat.le_add_right _ _
theorem row_drop (A:List (List Int)) (r i:Nat):row (A.drop r) i=row A (r + i):=by unfold row;simp [List.getD]
theorem nz_get {A:List (List Int)} {c r j:Nat} (h:j < (A.drop r).length):nz c (A.drop r)[j]=(en A (r + j) c != 0):=by
 have e:row (A.drop r) j=(A.drop r)[j]:=by unfold row;rw [List.getD,List.getElem?_eq_getElem h];rfl
 rw [← e,row_drop]
 rfl
theorem fnd_low {A:List (List Int)} {c r i:Nat} (h1:r≤i) (h2:i < fnd A c r):en A i c=0:=by
 obtain ⟨j,rfl⟩:=Nat.exists_eq_add_of_le h1
 by_cases hl:r + j < A.length
 ·have h3:j < (A.drop r).findIdx (nz c):=by unfold fnd at h2;omega
  have h4:=List.not_of_lt_findIdx h3
  rw [nz_get] at h4
  simpa using h4
 ·exact en_out (by omega)
theorem fnd_yes {A:List (List Int)} {c r:Nat} (h:fnd A c r < A.length):en A (fnd A c r) c ≠ 0:=by
 have h3:(A.drop r).findIdx (nz c) < (A.drop r).length:=by
  unfold fnd at h
  rw [List.length_drop]
  omega
 have h4:=List.findIdx_getElem (w:=h3)
 rw [nz_get] at h4
 unfold fnd
 simpa using h4
theorem fnd_eq {A:List (List Int)} {c r k:Nat} (h1:r≤k) (hk:k≤A.length) (h2:∀ i,r≤i→i < k→en A i c=0) (h3:k < A.length→en A k c ≠ 0) (_hr:r≤A.length):(fnd A c r < A.length ↔ k < A.length)∧(k < A.length→fnd A c r=k):=by
 have hge:=fnd_ge A c r
 by_cases hl:k < A.length
 ·have e:fnd A c r=k:=by
   rcases Nat.lt_trichotomy (fnd A c r) k with g | g | g
   ·exact absurd (h2 _ hge g) (fnd_yes (by omega))
   ·exact g
   ·exact absurd (fnd_low h1 g) (h3 hl)
  exact ⟨by rw [e],fun _=>e⟩
 ·refine ⟨⟨fun h=>absurd (h2 _ hge (by omega)) (fnd_yes h),fun h=>absurd h hl⟩,fun h=>absurd h hl⟩
structure RI (q:Int) (A:List (List Int)) (cols c:Nat) (P:List Nat):Prop where
 wf:∀ i,i < A.length→(row A i).length=cols
 bd:∀ i k,i < A.length→k < cols→0≤en A i k∧en A i k < q
 lt:P.length≤A.length
 pc:∀ i,i < P.length→P.getD i 0 < c
 inc:∀ i j,i < j→j < P.length→P.getD i 0 < P.getD j 0
 one:∀ i,i < P.length→en A i (P.getD i 0)=1
 zer:∀ i j,i < P.length→j < A.length→j ≠ i→en A j (P.getD i 0)=0
 low:∀ i k,i < P.length→k < P.getD i 0→en A i k=0
 out:∀ i k,P.length≤i→i < A.length→k < c→en A i k=0
structure WF (q:Int) (A:List (List Int)) (cols:Nat):Prop where
 wf:∀ i,i < A.length→(row A i).length=cols
 bd:∀ i k,i < A.length→k < cols→0≤en A i k∧en A i k < q
theorem RI.w {q:Int} {A:List (List Int)} {cols c:Nat} {P:List Nat} (h:RI q A cols c P):WF q A cols:=⟨h.wf,h.bd⟩
theorem ri_start {q:Int} {A:List (List Int)} {cols:Nat} (h:WF q A cols):RI q A cols 0 [] :=
 ⟨h.wf,h.bd,Nat.zero_le _,fun _ h=>absurd h (Nat.not_lt_zero _),fun _ _ _ h=>absurd h (Nat.not_lt_zero _),fun _ h=>absurd h (Nat.not_lt_zero _),fun _ _ h=>absurd h (Nat.not_lt_zero _),fun _ _ h=>absurd h (Nat.not_lt_zero _),fun _ _ _ _ h=>absurd h (Nat.not_lt_zero _)⟩
theorem RI.none {q:Int} {A:List (List Int)} {cols c:Nat} {P:List Nat} (h:RI q A cols c P) (hn:¬ fnd A c P.length < A.length):RI q A cols (c + 1) P :=
 ⟨h.wf,h.bd,h.lt,fun i hi=>Nat.lt_succ_of_lt (h.pc i hi),h.inc,h.one,h.zer,h.low,fun i k h1 h2 h3=>by
  by_cases e:k=c
  ·rw [e];exact fnd_low h1 (by omega)
  ·exact h.out i k h1 h2 (by omega)⟩
theorem getD_snoc {P:List Nat} {c i:Nat}:(P ++ [c]).getD i 0=if i < P.length then P.getD i 0 else if i=P.length then c else 0:=by
 by_cases h:i < P.length
 ·rw [if_pos h,List.getD,List.getD,List.getElem?_append_left h]
 ·rw [if_neg h]
  by_cases e:i=P.length
  ·rw [if_pos e,e];simp [List.getD]
  ·rw [if_neg e]
   have:(P ++ [c]).length≤i:=by simp;omega
   simp [List.getD,List.getElem?_eq_none this]
section
variable {G:GFd} (t:Tabs G)
theorem inv_bd (x:Int) (hx:inn G.q x ≠ 0):0≤invG G x∧invG G x < G.q∧t.e (invG G x) * t.e x=1:=by
 unfold invG
 rw [if_neg hx]
 have h1:=t.exp_bd (G.q - 1 - logG G (inn G.q x))
 obtain ⟨g,g1,g2,g3⟩:=t.e_exp
 obtain ⟨l1,l2,l3⟩:=g3 x hx
 refine ⟨h1.1,h1.2.1, ?_⟩
 rw [g2 _ (by omega),l3,← Rg.pw_add,show (G.q - 1 - logG G (inn G.q x)).toNat + (logG G (inn G.q x)).toNat=G.q.toNat - 1 by omega,g1]
theorem e_ne {x:Int} (h:0≤x∧x < G.q) (h0:x ≠ 0):t.e x ≠ 0:=fun e=>h0 (by have:=t.e_nz.1 e;rwa [inn_yes h] at this)
theorem e_is0 {x:Int} (h:0≤x∧x < G.q) (e:t.e x=0):x=0:=by have:=t.e_nz.1 e;rwa [inn_yes h] at this
theorem q2 (t:Tabs G):2≤G.q:=by have:=t.qb;omega
theorem e_is1 {x:Int} (h:0≤x∧x < G.q) (e:t.e x=1):x=1:=t.e_eq h ⟨by omega,by have:=q2 t;omega⟩ (e.trans t.e_one.symm)
structure PS' (A B:List (List Int)) (cols r p c:Nat):Prop where
 len:B.length=A.length
 wf:WF G.q B cols
 top:∀ k,k < cols→t.e (en B r k)=Fd.inv (t.e (en A p c)) * t.e (en A p k)
 oth:∀ i k,i < A.length→i ≠ r→k < cols→t.e (en B i k)=t.e (en (swpL A r p) i k) - t.e (en (swpL A r p) i c) * t.e (en B r k)
 keep:∀ i k,i < A.length→i ≠ r→k < cols→en A p k=0→en B i k=en (swpL A r p) i k
theorem en_swpL {A:List (List Int)} {r p i k:Nat} (h:i < A.length):en (swpL A r p) i k=en A (if i=r then p else if i=p then r else i) k:=by unfold en;rw [row_swpL h]
theorem swp_lt {A:List (List Int)} {r p i:Nat} (hr:r < A.length) (hp:p < A.length) (h:i < A.length):(if i=r then p else if i=p then r else i) < A.length:=by
 split
 ·exact hp
 ·split
  ·exact hr
  ·exact h
theorem pivL_ps {A:List (List Int)} {cols r p c:Nat} (h:WF G.q A cols) (hr:r < A.length) (hp:p < A.length) (hc:c < cols) (h0:en A p c ≠ 0):PS' t A (pivL (opG G) A r p c) cols r p c:=by
 have hS:∀ i,i < A.length→(row (swpL A r p) i).length=cols:=fun i hi=>by rw [row_swpL hi];exact h.wf _ (swp_lt hr hp hi)
 have hSb:∀ i k,i < A.length→k < cols→0≤en (swpL A r p) i k∧en (swpL A r p) i k < G.q:=fun i k hi hk=>by rw [en_swpL hi];exact h.bd _ _ (swp_lt hr hp hi) hk
 have er:∀ k,en (swpL A r p) r k=en A p k:=fun k=>by rw [en_swpL hr,if_pos rfl]
 have hpb:=h.bd p c hp hc
 have hin:inn G.q (en A p c) ≠ 0:=by rw [inn_yes hpb];exact h0
 have hi:=inv_bd t _ hin
 obtain ⟨u,hu⟩:∃ u,u=sclD (opG G) ((opG G).inv (en (swpL A r p) r c)) (row (swpL A r p) r):=⟨_,rfl⟩
 have hul:u.length=cols:=by rw [hu,length_sclD,hS r hr]
 have hue:∀ k,k < cols→(0≤u.getD k 0∧u.getD k 0 < G.q)∧t.e (u.getD k 0)=Fd.inv (t.e (en A p c)) * t.e (en A p k)∧(en A p k=0→u.getD k 0=0):=fun k hk=>by
  have e1:u.getD k 0=if invG G (en A p c)=1 then en A p k else mulG G (invG G (en A p c)) (en A p k):=by
   rw [hu,sclD_at (by rw [hS r hr];exact hk),er c]
   show (if invG G (en A p c)=1 then en (swpL A r p) r k else mulG G (invG G (en A p c)) (en (swpL A r p) r k))=_
   rw [er k]
  have e2:Fd.inv (t.e (en A p c))=t.e (invG G (en A p c)):=(Fd.inv_unique (by rw [Rg.mul_comm];exact hi.2.2)).symm
  by_cases h1:invG G (en A p c)=1
  ·rw [if_pos h1] at e1
   rw [e1,e2,h1,t.e_one,Rg.one_mul]
   exact ⟨h.bd p k hp hk,rfl,fun z=>z⟩
  ·rw [if_neg h1] at e1
   refine ⟨by rw [e1];exact t.mul_bd _ _,by rw [e1,e2,t.e_mul],fun z=>?_⟩
   rw [e1,z]
   refine e_is0 t (t.mul_bd _ _) ?_
   rw [t.e_mul,t.e_zero,Rg.mul_zero]
 have hrow:∀ i,i < A.length→row (pivL (opG G) A r p c) i=if i=r then u else if en (swpL A r p) i c=0 then row (swpL A r p) i else axpy (opG G) ((opG G).neg (en (swpL A r p) i c)) u (row (swpL A r p) i):=fun i hi=>by
  rw [hu];exact row_clrL (by rw [length_swpL];exact hi)
 have hB:∀ i k,i < A.length→i ≠ r→k < cols→en (pivL (opG G) A r p c) i k=if en (swpL A r p) i c=0 then en (swpL A r p) i k else if u.getD k 0=0 then en (swpL A r p) i k else addG G (en (swpL A r p) i k) (mulG G (negG G (en (swpL A r p) i c)) (u.getD k 0)):=fun i k hi hir hk=>by
  unfold en
  rw [hrow i hi,if_neg hir]
  by_cases e:en (swpL A r p) i c=0
  ·rw [if_pos e]
   have e':=e
   unfold en at e'
   rw [if_pos e']
  ·rw [if_neg e,axpy_at (by rw [hS i hi];exact hk)]
   have e':=e
   unfold en at e'
   rw [if_neg e']
   rfl
 have hBr:∀ k,en (pivL (opG G) A r p c) r k=u.getD k 0:=fun k=>by unfold en;rw [hrow r hr,if_pos rfl]
 refine ⟨length_pivL _ _ _ _ _,⟨fun i hi=>?_,fun i k hi hk=>?_⟩,fun k hk=>?_,fun i k hi hir hk=>?_,fun i k hi hir hk z=>?_⟩
 ·rw [length_pivL] at hi
  rw [hrow i hi]
  split
  ·exact hul
  ·split
   ·exact hS i hi
   ·rw [length_axpy];exact hS i hi
 ·rw [length_pivL] at hi
  by_cases hir:i=r
  ·rw [hir,hBr];exact (hue k hk).1
  ·rw [hB i k hi hir hk]
   split
   ·exact hSb i k hi hk
   ·split
    ·exact hSb i k hi hk
    ·exact t.add_bd _ _
 ·rw [hBr];exact (hue k hk).2.1
 ·rw [hBr,hB i k hi hir hk]
  by_cases z:en (swpL A r p) i c=0
  ·rw [if_pos z,z,t.e_zero,Rg.zero_mul,Rg.sub_zero]
  ·rw [if_neg z]
   by_cases z2:u.getD k 0=0
   ·rw [if_pos z2,z2,t.e_zero,Rg.mul_zero,Rg.sub_zero]
   ·rw [if_neg z2,t.e_add,t.e_mul,t.e_neg,Rg.neg_mul,← Rg.sub_def]
 ·rw [hB i k hi hir hk,if_pos ((hue k hk).2.2 z)]
  split <;> rfl
include t in
theorem RI.step {A:List (List Int)} {cols c:Nat} {P:List Nat} (h:RI G.q A cols c P) (hc:c < cols) (hf:fnd A c P.length < A.length) :
  RI G.q (pivL (opG G) A P.length (fnd A c P.length) c) cols (c + 1) (P ++ [c]):=by
 obtain ⟨p,hp⟩:∃ p,p=fnd A c P.length:=⟨_,rfl⟩
 have hge:P.length≤p:=by rw [hp];exact fnd_ge _ _ _
 have h0:en A p c ≠ 0:=by rw [hp];exact fnd_yes hf
 have hmid:∀ i,P.length≤i→i < p→en A i c=0:=fun i h1 h2=>by rw [hp] at h2;exact fnd_low h1 h2
 rw [← hp] at hf ⊢
 have hr:P.length < A.length:=by omega
 have ps:=pivL_ps t h.w hr hf hc h0
 obtain ⟨B,hB⟩:∃ B,B=pivL (opG G) A P.length p c:=⟨_,rfl⟩
 rw [← hB] at ps ⊢
 have hlow:∀ k,k < c→en A p k=0:=fun k hk=>h.out p k hge hf hk
 have eS:∀ i k,i < A.length→k < c→en (swpL A P.length p) i k=en A i k:=fun i k hi hk=>by
  rw [en_swpL hi]
  split
  ·rename_i e;rw [e,h.out _ k (Nat.le_refl _) hr hk];exact hlow k hk
  ·split
   ·rename_i e1 e;rw [e,h.out _ k (Nat.le_refl _) hr hk,hlow k hk]
   ·rfl
 have old:∀ i k,i < A.length→i ≠ P.length→k < c→en B i k=en A i k:=fun i k hi hir hk=>by
  rw [ps.keep i k hi hir (by omega) (hlow k hk),eS i k hi hk]
 have newr:∀ k,k < c→en B P.length k=0:=fun k hk=>by
  refine e_is0 t (ps.wf.bd _ _ (by rw [ps.len];exact hr) (by omega)) ?_
  rw [ps.top k (by omega),hlow k hk,t.e_zero,Rg.mul_zero]
 have one1:en B P.length c=1:=by
  refine e_is1 t (ps.wf.bd _ _ (by rw [ps.len];exact hr) hc) ?_
  rw [ps.top c hc,Fd.inv_mul (e_ne t (h.bd _ _ hf hc) h0)]
 have colc:∀ i,i < A.length→i ≠ P.length→en B i c=0:=fun i hi hir=>by
  refine e_is0 t (ps.wf.bd _ _ (by rw [ps.len];exact hi) hc) ?_
  rw [ps.oth i c hi hir hc,one1,t.e_one,Rg.mul_one,Rg.sub_self]
 refine ⟨ps.wf.wf,ps.wf.bd,by rw [ps.len];simp;omega,fun i hi=>?_,fun i j hij hj=>?_,fun i hi=>?_,fun i j hi hj hne=>?_,fun i k hi hk=>?_,fun i k h1 h2 hk=>?_⟩
 ·rw [getD_snoc]
  split
  ·have:=h.pc i (by assumption);omega
  ·split <;> omega
 ·have hj':j < P.length + 1:=by simpa using hj
  rw [getD_snoc,getD_snoc,if_pos (by omega)]
  by_cases e:j < P.length
  ·rw [if_pos e];exact h.inc i j hij e
  ·rw [if_neg e,if_pos (by omega)];exact h.pc i (by omega)
 ·have hi':i < P.length + 1:=by simpa using hi
  rw [getD_snoc]
  by_cases e:i < P.length
  ·rw [if_pos e,old i _ (by omega) (by omega) (h.pc i e)];exact h.one i e
  ·rw [if_neg e,if_pos (by omega),show i=P.length by omega];exact one1
 ·have hi':i < P.length + 1:=by simpa using hi
  rw [ps.len] at hj
  rw [getD_snoc]
  by_cases e:i < P.length
  ·rw [if_pos e]
   by_cases ej:j=P.length
   ·rw [ej];exact newr _ (h.pc i e)
   ·rw [old j _ hj ej (h.pc i e)];exact h.zer i j e hj hne
  ·rw [if_neg e,if_pos (by omega)];exact colc j hj (by omega)
 ·have hi':i < P.length + 1:=by simpa using hi
  rw [getD_snoc] at hk
  by_cases e:i < P.length
  ·rw [if_pos e] at hk
   rw [old i k (by omega) (by omega) (by have:=h.pc i e;omega)]
   exact h.low i k e hk
  ·rw [if_neg e,if_pos (by omega)] at hk
   rw [show i=P.length by omega];exact newr k hk
 ·have h1':P.length + 1≤i:=by simpa using h1
  rw [ps.len] at h2
  by_cases e:k=c
  ·rw [e];exact colc i h2 (by omega)
  ·rw [old i k h2 (by omega) (by omega)];exact h.out i k (by omega) h2 (by omega)
def Sp (A:List (List Int)) (cols:Nat) (v:Nat→Rs t.fs.mon):Prop:=∃ y,∀ k,k < cols→v k=Dm.cmb (fun i k=>t.e (en A i k)) A.length y k
end
end Gj
end Cw
namespace Go.Proofs.YtoilbeadokallaaGreatDoor
open Go.RowKit Cw Cw.Gj
theorem Tryz.infoSl:(Tryz.prog.info? 22).map (fun i=>(i.zero,i.size,i.bytes))=some (some (.slice none 0 0),1,24):=by kernel_rfl
def Rd (w:World) (v:Value) (A:List (List Int)):Prop :=
 ∃ (a:Option Addr) (cap:Nat),v=.slice a A.length cap∧A.length≤cap∧(cap≤maxLen∧(a=none→cap=0)) ∧
  (A ≠ []→∃ b off,a=some ⟨b,off,none⟩∧b < w.heap.size∧∀ i,i < A.length→∃ u,w.cell? ⟨b,off + i,none⟩=some u∧Sl w u (row A i))
theorem Rd.kept {w w':World} {v:Value} {A:List (List Int)} (h:Rd w v A) (k:Kept w w'):Rd w' v A:=by
 obtain ⟨a,cap,h1,h2,h3,h4⟩:=h
 refine ⟨a,cap,h1,h2,h3,fun hx=>?_⟩
 obtain ⟨b,off,e,hb,hc⟩:=h4 hx
 exact ⟨b,off,e,k.lt hb,fun i hi=>by
  obtain ⟨u,u1,u2⟩:=hc i hi
  exact ⟨u,(k.cell' hb).trans u1,u2.kept k⟩⟩
theorem rd_nil (w:World):Rd w (.slice none 0 0) []:=⟨none,0,rfl,Nat.le_refl _,⟨Nat.zero_le _,fun _=>rfl⟩,fun h=>absurd rfl h⟩
structure Mx (w:World) (B:Nat) (v:Value) (A:List (List Int)) (rv:Nat→Value):Prop where
 out:w.ownsRow B 22 1 v A.length ((List.range A.length).map rv)
 row:∀ i,i < A.length→Own w B (rv i) (row A i)
 dis:∀ i k,i < A.length→k < A.length→i ≠ k→∀ g,(rv i).ownBlock=some g→(rv k).ownBlock ≠ some g
def Has (v:Value) (rv:Nat→Value) (n g:Nat):Prop:=v.ownBlock=some g ∨ ∃ i,i < n∧(rv i).ownBlock=some g
theorem own_blk {w:World} {B g:Nat} {v:Value} {xs:List Int} (h:Own w B v xs) (e:v.ownBlock=some g):B≤g∧g < w.heap.size:=World.ownsRow.lt h g e
theorem row_ne {w:World} {B B' m g:Nat} {v x:Value} {rs:List Value} {xs:List Int} (h:w.ownsRow B 22 1 v m rs) (k:Own w B' x xs) (hx:x.ownBlock=some g):v.ownBlock ≠ some g:=fun e=>by
 obtain ⟨_,h | ⟨g1,_,c1,rfl,_,hg,_⟩⟩:=h
 ·rw [h.1] at e;cases e
 ·obtain ⟨_,k | ⟨g2,_,c2,rfl,_,hg',_⟩⟩:=k
  ·rw [k.1] at hx;cases hx
  ·have e1:g1=g:=by simpa [Value.ownBlock] using e
   have e2:g2=g:=by simpa [Value.ownBlock] using hx
   rw [e1] at hg
   rw [e2,hg] at hg'
   simp at hg'
theorem Own.grownBy {w w':World} {B:Nat} {v:Value} {xs:List Int} {x:Option Nat} (h:Own w B v xs) (hg:w.grownBy w' x) (hx:v.ownBlock=none ∨ v.ownBlock ≠ x):Own w' B v xs:=World.ownsRow.kept h hg hx
theorem mx_nil (w:World) (B:Nat):Mx w B (.slice none 0 0) [] (fun _=>.slice none 0 0):=⟨⟨rfl,.inl ⟨rfl,rfl⟩⟩,fun _ h=>absurd h (Nat.not_lt_zero _),fun _ _ h=>absurd h (Nat.not_lt_zero _)⟩
section
variable {w w':World} {B:Nat} {v:Value} {A:List (List Int)} {rv:Nat→Value}
theorem Mx.has_lt (h:Mx w B v A rv) {g:Nat} (hg:Has v rv A.length g):B≤g∧g < w.heap.size:=by
 rcases hg with e | ⟨i,hi,e⟩
 ·exact World.ownsRow.lt h.out g e
 ·exact own_blk (h.row i hi) e
theorem Mx.grown (h:Mx w B v A rv) {x:Nat} (hg:w.grownBy w' (some x)) (hx:¬ Has v rv A.length x):Mx w' B v A rv :=
 ⟨World.ownsRow.kept h.out hg (.inr fun e=>hx (.inl e)),fun i hi=>(h.row i hi).grownBy hg (.inr fun e=>hx (.inr ⟨i,hi,e⟩)),h.dis⟩
theorem Mx.kept (h:Mx w B v A rv) (k:Kept w w'):Mx w' B v A rv:=by
 have hg:w.grownBy w' (some w.heap.size):=⟨k.os,k.tape,k.output,k.size,fun i hi _=>k.block i hi⟩
 exact h.grown hg fun e=>by have:=h.has_lt e;omega
theorem Mx.mono (h:Mx w B v A rv) {B':Nat} (hB:B'≤B):Mx w B' v A rv:=by
 refine ⟨?_,fun i hi=>(h.row i hi).mono hB,h.dis⟩
 obtain ⟨h1,h2⟩:=h.out
 rcases h2 with h2 | ⟨g,cap,cur,e,hb,r⟩
 ·exact ⟨h1,.inl h2⟩
 ·exact ⟨h1,.inr ⟨g,cap,cur,e,Nat.le_trans hB hb,r⟩⟩
theorem Mx.form (h:Mx w B v A rv):(v=.slice none 0 0∧A=[]) ∨ ∃ g cap,v=.slice (some ⟨g,0,none⟩) A.length cap∧B≤g∧g < w.heap.size∧A.length≤cap∧cap≤maxLen:=by
 obtain ⟨h1,h2⟩:=h.out
 rcases h2 with ⟨e,h0⟩ | ⟨g,cap,cur,e,hb,hg,h3,h4,_⟩
 ·exact .inl ⟨e,List.eq_nil_of_length_eq_zero h0⟩
 ·exact .inr ⟨g,cap,e,hb,(Array.getElem?_eq_some_iff.1 hg).1,h3,h4⟩
theorem Mx.cell {g n cap:Nat} (h:Mx w B (.slice (some ⟨g,0,none⟩) n cap) A rv) {i:Nat} (hi:i < A.length):w.cell? ⟨g,i,none⟩=some (rv i):=by
 have hn:n=A.length:=by
  rcases h.form with ⟨e,_⟩ | ⟨_,_,e,_⟩
  ·cases e
  ·cases e;rfl
 subst hn
 have:=World.ownsRow.cellAt h.out i (by omega)
 rw [this]
 simp [hi]
theorem Mx.frozen {g n cap:Nat} (h:Mx w B (.slice (some ⟨g,0,none⟩) n cap) A rv) (i:Nat):w.frozen? ⟨g,i,none⟩=false:=by
 have hn:n=A.length:=by
  rcases h.form with ⟨e,_⟩ | ⟨_,_,e,_⟩
  ·cases e
  ·cases e;rfl
 subst hn
 exact World.ownsRow.frozenAt h.out i
theorem Mx.get (h:Mx w B v A rv) (hA:A ≠ []):∃ g cap,v=.slice (some ⟨g,0,none⟩) A.length cap∧B≤g∧g < w.heap.size∧A.length≤cap∧cap≤maxLen:=by
 rcases h.form with ⟨_,e⟩ | e
 ·exact absurd e hA
 ·exact e
theorem Mx.rowGet (h:Mx w B v A rv) {i:Nat} (hi:i < A.length) (hr:Gj.row A i ≠ []):∃ b cp,rv i=.slice (some ⟨b,0,none⟩) (Gj.row A i).length cp∧B≤b∧b < w.heap.size∧(Gj.row A i).length≤cp∧cp≤maxLen:=by
 rcases (h.row i hi).form with ⟨_,e⟩ | e
 ·exact absurd e hr
 ·exact e
theorem Mx.rd (h:Mx w B v A rv):Rd w v A:=by
 rcases h.form with ⟨rfl,rfl⟩ | ⟨g,cap,rfl,_,hg,h3,h4⟩
 ·exact rd_nil w
 ·exact ⟨_,cap,rfl,h3,⟨h4,fun e=>by cases e⟩,fun _=>⟨g,0,rfl,hg,fun i hi=>⟨rv i,by rw [Nat.zero_add];exact h.cell hi,(h.row i hi).sl⟩⟩⟩
theorem row_set {i j:Nat} {l:List Int} (hi:i < A.length):Gj.row (A.set i l) j=if j=i then l else Gj.row A j:=by
 unfold Gj.row
 by_cases e:j=i
 ·subst e;rw [if_pos rfl];simp [List.getD,hi]
 ·rw [if_neg e];simp [List.getD,List.getElem?_set_ne (Ne.symm e)]
theorem Mx.ent (h:Mx w B v A rv) {i b n cp:Nat} (hi:i < A.length) (hr:rv i=.slice (some ⟨b,0,none⟩) n cp) (k:Nat) (x:Int) :
  Mx (w.setCell ⟨b,k,none⟩ (.int .i64 x)) B v (A.set i ((Gj.row A i).set k x)) rv:=by
 have hrb:(rv i).ownBlock=some b:=by rw [hr];rfl
 have hg:=grownBy_setCell w b k (.int .i64 x)
 have hro:=h.row i hi
 refine ⟨?_,fun j hj=>?_,fun j m hj hm=>h.dis j m (by simpa using hj) (by simpa using hm)⟩
 ·rw [List.length_set]
  exact World.ownsRow.kept h.out hg (.inr (row_ne h.out hro hrb))
 ·have hj':j < A.length:=by simpa using hj
  rw [row_set hi]
  by_cases e:j=i
  ·rw [if_pos e,e]
   rw [hr] at hro ⊢
   exact hro.set k x
  ·rw [if_neg e]
   exact (h.row j hj').grownBy hg (.inr fun e2=>h.dis j i hj' hi e b e2 hrb)
theorem Mx.entRow (h:Mx w B v A rv) {i b n cp:Nat} {l:List Int} (hi:i < A.length) (hr:rv i=.slice (some ⟨b,0,none⟩) n cp) (ho:Own w' B (.slice (some ⟨b,0,none⟩) n cp) l) (hg:w.grownBy w' (some b)) :
  Mx w' B v (A.set i l) rv:=by
 have hrb:(rv i).ownBlock=some b:=by rw [hr];rfl
 have hro:=h.row i hi
 refine ⟨?_,fun j hj=>?_,fun j m hj hm=>h.dis j m (by simpa using hj) (by simpa using hm)⟩
 ·rw [List.length_set]
  exact World.ownsRow.kept h.out hg (.inr (row_ne h.out hro hrb))
 ·have hj':j < A.length:=by simpa using hj
  rw [row_set hi]
  by_cases e:j=i
  ·rw [if_pos e,e,hr];exact ho
  ·rw [if_neg e]
   exact (h.row j hj').grownBy hg (.inr fun e2=>h.dis j i hj' hi e b e2 hrb)
theorem Mx.put {g n cap:Nat} (h:Mx w B (.slice (some ⟨g,0,none⟩) n cap) A rv) {i:Nat} (hi:i < A.length) {u:Value} {l:List Int} (hu:Own w B u l) (hd:∀ x,u.ownBlock=some x→∀ j,j < A.length→(rv j).ownBlock ≠ some x) :
  Mx (w.setCell ⟨g,i,none⟩ u) B (.slice (some ⟨g,0,none⟩) n cap) (A.set i l) (fun j=>if j=i then u else rv j):=by
 have hn:n=A.length:=by
  rcases h.form with ⟨e,_⟩ | ⟨_,_,e,_⟩
  ·cases e
  ·cases e;rfl
 subst hn
 have hg:=grownBy_setCell w g i u
 have hne:∀ x xs,Own w B x xs→x.ownBlock=none ∨ x.ownBlock ≠ some g:=fun x xs ho=>by
  cases e:x.ownBlock with
  | none=>exact .inl rfl
  | some y=>exact .inr fun e2=>row_ne h.out ho (by rw [e];exact e2) rfl
 refine ⟨?_,fun j hj=>?_,fun j m hj hm hjm x h1 h2=>?_⟩
 ·rw [List.length_set]
  have:=(World.ownsRow.stored h.out i u).1
  have e:((List.range A.length).map rv).set i u=(List.range A.length).map (fun j=>if j=i then u else rv j):=by
   refine List.ext_getElem (by simp) fun j h1 h2=>?_
   rw [List.getElem_set]
   simp
   by_cases e:i=j
   ·rw [if_pos e,if_pos e.symm]
   ·rw [if_neg e,if_neg (fun g=>e g.symm)]
  rw [e] at this
  exact this
 ·have hj':j < A.length:=by simpa using hj
  rw [row_set hi]
  by_cases e:j=i
  ·rw [if_pos e,if_pos e];exact hu.grownBy hg (hne _ _ hu)
  ·rw [if_neg e,if_neg e];exact (h.row j hj').grownBy hg (hne _ _ (h.row j hj'))
 ·have hj':j < A.length:=by simpa using hj
  have hm':m < A.length:=by simpa using hm
  by_cases e:j=i
  ·rw [if_pos e] at h1
   rw [if_neg (by omega)] at h2
   exact hd x h1 m hm' h2
  ·rw [if_neg e] at h1
   by_cases e2:m=i
   ·rw [if_pos e2] at h2;exact hd x h2 j hj' h1
   ·rw [if_neg e2] at h2;exact h.dis j m hj' hm' hjm x h1 h2
theorem swp_lt' {n r p i:Nat} (hr:r < n) (hp:p < n) (h:i < n):(if i=r then p else if i=p then r else i) < n:=by
 split
 ·exact hp
 ·split
  ·exact hr
  ·exact h
theorem Mx.swap {g n cap:Nat} (h:Mx w B (.slice (some ⟨g,0,none⟩) n cap) A rv) {r p:Nat} (hr:r < A.length) (hp:p < A.length) (hne:r ≠ p) :
  Mx ((w.setCell ⟨g,r,none⟩ (rv p)).setCell ⟨g,p,none⟩ (rv r)) B (.slice (some ⟨g,0,none⟩) n cap) (swpL A r p) (fun i=>rv (if i=r then p else if i=p then r else i)):=by
 have hn:n=A.length:=by
  rcases h.form with ⟨e,_⟩ | ⟨_,_,e,_⟩
  ·cases e
  ·cases e;rfl
 subst hn
 have hg:w.grownBy ((w.setCell ⟨g,r,none⟩ (rv p)).setCell ⟨g,p,none⟩ (rv r)) (some g):=grownBy_trans (grownBy_setCell w g r (rv p)) (grownBy_setCell _ g p (rv r))
 have hnx:∀ x xs,Own w B x xs→x.ownBlock=none ∨ x.ownBlock ≠ some g:=fun x xs ho=>by
  cases e:x.ownBlock with
  | none=>exact .inl rfl
  | some y=>exact .inr fun e2=>row_ne h.out ho (by rw [e];exact e2) rfl
 refine ⟨?_,fun i hi=>?_,fun i k hi hk hik x h1 h2=>?_⟩
 ·rw [length_swpL]
  have h1:=(World.ownsRow.stored h.out r (rv p)).1
  have h2:=(World.ownsRow.stored h1 p (rv r)).1
  have e:(((List.range A.length).map rv).set r (rv p)).set p (rv r)=(List.range A.length).map (fun i=>rv (if i=r then p else if i=p then r else i)):=by
   refine List.ext_getElem (by simp) fun j h1 h2=>?_
   rw [List.getElem_set,List.getElem_set]
   simp
   by_cases e1:p=j
   ·rw [if_pos e1,if_neg (by omega),if_pos e1.symm]
   ·rw [if_neg e1]
    by_cases e2:r=j
    ·rw [if_pos e2,if_pos e2.symm]
    ·rw [if_neg e2,if_neg (fun g=>e2 g.symm),if_neg (fun g=>e1 g.symm)]
  rw [e] at h2
  exact h2
 ·rw [length_swpL] at hi
  rw [row_swpL hi]
  have:=h.row _ (swp_lt' hr hp hi)
  exact this.grownBy hg (hnx _ _ this)
 ·rw [length_swpL] at hi hk
  refine h.dis _ _ (swp_lt' hr hp hi) (swp_lt' hr hp hk) ?_ x h1 h2
  split <;> split <;> (try split) <;> (try split) <;> omega
theorem swpL_comm (A:List (List Int)) (r p:Nat):swpL A r p=swpL A p r:=by
 unfold swpL
 refine List.map_congr_left fun i _=>?_
 congr 1
 split <;> split <;> omega
theorem Mx.congr {rv':Nat→Value} (h:Mx w B v A rv) (e:∀ i,i < A.length→rv i=rv' i):Mx w B v A rv':=by
 refine ⟨?_,fun i hi=>by rw [← e i hi];exact h.row i hi,fun i k hi hk=>by rw [← e i hi,← e k hk];exact h.dis i k hi hk⟩
 have:(List.range A.length).map rv'=(List.range A.length).map rv:=List.map_congr_left fun i hi=>(e i (List.mem_range.1 hi)).symm
 rw [this];exact h.out
theorem Mx.add {v' u:Value} {l:List Int} (h:Mx w B v A rv) (hu:Own w B u l) (hd:∀ x,u.ownBlock=some x→∀ j,j < A.length→(rv j).ownBlock ≠ some x)
  (o':w'.ownsRow B 22 1 v' (A.length + 1) ((List.range A.length).map rv ++ [u])) (hg:w.grownBy w' v.ownBlock):Mx w' B v' (A ++ [l]) (fun i=>if i=A.length then u else rv i):=by
 have hx:∀ x xs,Own w B x xs→x.ownBlock=none ∨ x.ownBlock ≠ v.ownBlock:=fun x xs ho=>by
  cases e:x.ownBlock with
  | none=>exact .inl rfl
  | some y=>exact .inr fun e2=>row_ne h.out ho e e2.symm
 have hrow:∀ i,Gj.row (A ++ [l]) i=if i < A.length then Gj.row A i else if i=A.length then l else []:=fun i=>by
  unfold Gj.row
  by_cases e:i < A.length
  ·rw [if_pos e,List.getD,List.getD,List.getElem?_append_left e]
  ·rw [if_neg e]
   by_cases e2:i=A.length
   ·rw [if_pos e2,e2];simp [List.getD]
   ·rw [if_neg e2]
    have:(A ++ [l]).length≤i:=by simp;omega
    simp [List.getD,List.getElem?_eq_none this]
 refine ⟨?_,fun i hi=>?_,fun i k hi hk hik x h1 h2=>?_⟩
 ·rw [List.length_append]
  have e:(List.range (A.length + [l].length)).map (fun i=>if i=A.length then u else rv i)=(List.range A.length).map rv ++ [u]:=by
   show (List.range (A.length + 1)).map _=_
   rw [List.range_succ,List.map_append]
   congr 1
   ·refine List.map_congr_left fun i hi=>?_
    rw [if_neg (by have:=List.mem_range.1 hi;omega)]
   ·simp
  rw [e];exact o'
 ·have hi':i < A.length + 1:=by simpa using hi
  rw [hrow]
  by_cases e:i < A.length
  ·rw [if_pos e,if_neg (by omega)];exact (h.row i e).grownBy hg (hx _ _ (h.row i e))
  ·rw [if_neg e,if_pos (by omega),if_pos (by omega)];exact hu.grownBy hg (hx _ _ hu)
 ·have hi':i < A.length + 1:=by simpa using hi
  have hk':k < A.length + 1:=by simpa using hk
  by_cases e:i=A.length
  ·rw [if_pos e] at h1
   rw [if_neg (by omega)] at h2
   exact hd x h1 k (by omega) h2
  ·rw [if_neg e] at h1
   by_cases e2:k=A.length
   ·rw [if_pos e2] at h2;exact hd x h2 i (by omega) h1
   ·rw [if_neg e2] at h2;exact h.dis i k (by omega) (by omega) hik x h1 h2
end
theorem wpList_append_row {w:World} {ops:Array Oper} {rest:List Oper} {o:Oper} {a:Act} {Q:Exit→Act→World→Prop} (hgd:o.guard=none) (s x:Operand)
  (ho:o.op=.call { callee:=.builtin .append,args:=#[s,x],argTypes:=#[27,27] }) (B:Nat) (v:Value) (m:Nat) (rs:List Value) (hs:a.eval s=v) (hown:w.ownsRow B 22 1 v m rs)
  (ad:Addr) (y:Value) (hx:a.eval x=.slice (some ad) 1 1) (hc:w.cell? ad=some y) (hy:y.oneCell'=true) (hlen:m + 1≤1000000) (hB:B≤w.heap.size)
  (h:∀ v' w',w'.ownsRow B 22 1 v' (m + 1) (rs ++ [y])→w.grownBy w' v.ownBlock→wpList Tryz.prog ops Q rest (a.put o.dst v') w'):wpList Tryz.prog ops Q (o :: rest) a w:=by
 obtain ⟨i0,hi,hz0,hz1,hz2⟩:=info_parts Tryz.infoSl
 refine wpList_append_own _ hgd s x 27 ho B 22 i0 (.slice none 0 0) 1 24 Tryz.underlying27 hi hz0 hz1 hz2 rfl (by decide) v m rs hs hown ad 1 1 [y] hx rfl (fun j u hu=>?_) (fun u hu=>?_) (by unfold maxLen;omega) (by omega) hB
  fun v' w' h1 h2 _=>h v' w' h1 h2
 ·match j with
  | 0 =>
   have e:u=y:=by simpa using hu.symm
   rw [e]
   have:ad.add 0=ad:=by cases ad;simp [Addr.add]
   rw [this];exact hc
  | j + 1=>simp at hu
 ·rw [List.mem_singleton.1 hu];exact hy
theorem wpList_make_rows {w:World} {ops:Array Oper} {rest:List Oper} {o:Oper} {a:Act} {Q:Exit→Act→World→Prop}
  (hg:o.guard=none) (l c:Operand) (hop:o.op=Op.makeSlice 27 l c) (n:Nat) (L C:Int) (hl:a.eval l=.int .i64 L) (hc:a.eval c=.int .i64 C) (hL:L=(n:Int)) (hC:C=(n:Int)) (hn:n≤1000000)
  (hK:∀ w',Mx w' w.heap.size (.slice (some ⟨w.heap.size,0,none⟩) n n) (List.replicate n []) (fun _=>.slice none 0 0)→Kept w w'→wpList Tryz.prog ops Q rest (a.put o.dst (.slice (some ⟨w.heap.size,0,none⟩) n n)) w') :
  wpList Tryz.prog ops Q (o :: rest) a w:=by
 obtain ⟨i0,hi,hz0,hz1,hz2⟩:=info_parts Tryz.infoSl
 refine wpList_make_full w hg l c 27 hop w.heap.size 22 i0 (.slice none 0 0) 1 Tryz.underlying27 hi hz0 hz1 .i64 .i64 L C n hl hc hL hC (by rw [hz2];omega) (by unfold maxLen;omega) (Nat.le_refl _)
  fun w' h1 h2=>hK w' ?_ (kept_grown h2)
 have e:(madeCells (Value.slice none 0 0).cells (n * 1)).toList=(List.range (List.replicate n ([]:List Int)).length).map (fun _=>Value.slice none 0 0):=by
  rw [Nat.mul_one,show (Value.slice none 0 0).cells=#[.slice none 0 0] from rfl,toList_madeCells_one,List.length_replicate]
  refine List.ext_getElem (by simp) fun i h1 h2=>?_
  simp
 rw [e] at h1
 have hr:∀ i,Gj.row (List.replicate n ([]:List Int)) i=[]:=fun i=>by
  unfold Gj.row
  by_cases g:i < n
  ·simp [List.getD,g]
  ·simp [List.getD,g]
 refine ⟨by simpa using h1,fun i hi=>?_,fun i k _ _ _ g e=>by cases e⟩
 rw [hr]
 exact own_nil _ _
end Go.Proofs.YtoilbeadokallaaGreatDoor
namespace Cw
namespace Gj
open Rg Fd PS Dm
section
variable {G:GFd} (t:Tabs G)
def fe (A:List (List Int)):Nat→Nat→Rs t.fs.mon:=fun i k=>t.e (en A i k)
theorem cmb_add {α:Type} [Fd α] (R:Nat→Nat→α) (m:Nat) (y z:Nat→α) (k:Nat):cmb R m (fun i=>y i + z i) k=cmb R m y k + cmb R m z k:=by
 unfold cmb
 rw [← sm_add]
 exact sm_congr fun i _=>add_mul _ _ _
theorem cmb_smul {α:Type} [Fd α] (R:Nat→Nat→α) (m:Nat) (a:α) (y:Nat→α) (k:Nat):cmb R m (fun i=>a * y i) k=a * cmb R m y k:=by
 unfold cmb
 rw [mul_sm]
 exact sm_congr fun i _=>mul_assoc _ _ _
theorem spc_sp (A:List (List Int)) (cols:Nat):Spc cols (Sp t A cols) where
 ext v w e hv:=by
  obtain ⟨y,hy⟩:=hv
  exact ⟨y,fun k hk=>by rw [← e k hk,hy k hk]⟩
 zero:=⟨fun _=>0,fun k _=>(sm_eq_zero fun i _=>zero_mul _).symm⟩
 add v w hv hw:=by
  obtain ⟨y,hy⟩:=hv
  obtain ⟨z,hz⟩:=hw
  exact ⟨fun i=>y i + z i,fun k hk=>by show v k + w k=_;rw [cmb_add,hy k hk,hz k hk]⟩
 smul a v hv:=by
  obtain ⟨y,hy⟩:=hv
  exact ⟨fun i=>a * y i,fun k hk=>by show a * v k=_;rw [cmb_smul,hy k hk]⟩
theorem sp_row {A:List (List Int)} (cols:Nat) {i:Nat} (h:i < A.length):Sp t A cols (fe t A i):=⟨fun j=>if j=i then 1 else 0,fun k _=>(cmb_unit (fe t A) h k).symm⟩
theorem sp_sub {A B:List (List Int)} {cols:Nat} (h:∀ i,i < A.length→Sp t B cols (fe t A i)) (v:Nat→Rs t.fs.mon) (hv:Sp t A cols v):Sp t B cols v:=by
 obtain ⟨y,hy⟩:=hv
 exact (spc_sp t B cols).ext _ _ (fun k hk=>(hy k hk).symm) ((spc_sp t B cols).cmb y A.length h)
theorem ps_sp {A B:List (List Int)} {cols r p c:Nat} (h:PS' t A B cols r p c) (hw:WF G.q A cols) (hr:r < A.length) (hp:p < A.length) (hc:c < cols) (h0:en A p c ≠ 0) (v:Nat→Rs t.fs.mon):Sp t A cols v ↔ Sp t B cols v:=by
 have hn0:t.e (en A p c) ≠ 0:=e_ne t (hw.bd p c hp hc) h0
 have hrB:r < B.length:=by rw [h.len];exact hr
 have sA:=spc_sp t A cols
 have sB:=spc_sp t B cols
 have hBr:Sp t A cols (fe t B r):=sA.ext _ _ (fun k hk=>(h.top k hk).symm) (sA.smul (Fd.inv (t.e (en A p c))) _ (sp_row t cols hp))
 have hAp:Sp t B cols (fe t A p):=sB.ext _ _ (fun k hk=>by
  show t.e (en A p c) * t.e (en B r k)=t.e (en A p k)
  rw [h.top k hk,← mul_assoc,Fd.mul_inv _ hn0,one_mul]) (sB.smul (t.e (en A p c)) _ (sp_row t cols hrB))
 constructor
 ·refine sp_sub t (fun j hj=>?_) v
  by_cases e1:j=p
  ·rw [e1];exact hAp
  ·obtain ⟨i,hi⟩:∃ i,i=if j=r then p else if j=p then r else j:=⟨_,rfl⟩
   have hil:i < A.length:=by rw [hi];exact swp_lt hr hp hj
   have hir:i ≠ r:=by
    rw [hi,if_neg e1]
    split
    ·intro e;omega
    ·assumption
   have hsi:(if i=r then p else if i=p then r else i)=j:=by
    rw [if_neg hir,hi,if_neg e1]
    by_cases e2:j=r
    ·rw [if_pos e2,if_pos rfl,e2]
    ·rw [if_neg e2,if_neg e1]
   refine sB.ext _ _ (fun k hk=>?_) (sB.add _ _ (sp_row t cols (i:=i) (by rw [h.len];exact hil)) (sB.smul (t.e (en (swpL A r p) i c)) _ (sp_row t cols hrB)))
   show t.e (en B i k) + t.e (en (swpL A r p) i c) * t.e (en B r k)=t.e (en A j k)
   rw [h.oth i k hil hir hk,sub_add_cancel,en_swpL hil,hsi]
 ·refine sp_sub t (fun i hi=>?_) v
  rw [h.len] at hi
  by_cases hir:i=r
  ·rw [hir];exact hBr
  ·refine sA.ext _ _ (fun k hk=>?_) (sA.add _ _ (sp_row t cols (swp_lt hr hp hi)) (sA.smul (-(t.e (en (swpL A r p) i c))) _ hBr))
   show t.e (en A (if i=r then p else if i=p then r else i) k) + -(t.e (en (swpL A r p) i c)) * t.e (en B r k)=t.e (en B i k)
   rw [h.oth i k hi hir hk,neg_mul,← sub_def,en_swpL (k:=c) hi,en_swpL (k:=k) hi]
theorem gj_all:∀ (m c:Nat) {A:List (List Int)} {P:List Nat} {cols:Nat},c + m=cols→RI G.q A cols c P →
  RI G.q (gj (opG G) m c A P).1 cols cols (gj (opG G) m c A P).2∧(gj (opG G) m c A P).1.length=A.length∧∀ v,Sp t A cols v ↔ Sp t (gj (opG G) m c A P).1 cols v
 | 0,c,A,P,cols,hc,h=>by
  obtain rfl:c=cols:=by omega
  exact ⟨h,rfl,fun v=>Iff.rfl⟩
 | m + 1,c,A,P,cols,hc,h=>by
  rw [gj]
  by_cases hf:fnd A c P.length < A.length
  ·rw [if_pos hf]
   have hge:=fnd_ge A c P.length
   have ps:=pivL_ps t (r:=P.length) h.w (by omega) hf (by omega) (fnd_yes hf)
   obtain ⟨h1,h2,h3⟩:=gj_all m (c + 1) (by omega) (h.step t (by omega) hf)
   exact ⟨h1,by rw [h2,ps.len],fun v=>(ps_sp t ps h.w (by omega) hf (by omega) (fnd_yes hf) v).trans (h3 v)⟩
  ·rw [if_neg hf]
   exact gj_all m (c + 1) (by omega) (h.none hf)
theorem row_take {A:List (List Int)} {r i:Nat} (h:i < r):row (A.take r) i=row A i:=by unfold row;simp [List.getD,h]
theorem en_take {A:List (List Int)} {r i k:Nat} (h:i < r):en (A.take r) i k=en A i k:=by unfold en;rw [row_take h]
structure Rf (q:Int) (A:List (List Int)) (cols:Nat) (P:List Nat):Prop where
 ri:RI q A cols cols P
 len:A.length=P.length
theorem can_rf {A:List (List Int)} {cols:Nat} (h:WF G.q A cols):Rf G.q (canL (opG G) A cols) cols (pvL (opG G) A cols)∧(canL (opG G) A cols).length≤A.length∧∀ v,Sp t A cols v ↔ Sp t (canL (opG G) A cols) cols v:=by
 obtain ⟨h1,h2,h3⟩:=gj_all t cols 0 (by omega) (ri_start h)
 unfold canL pvL
 generalize gj (opG G) cols 0 A []=X at h1 h2 h3 ⊢
 obtain ⟨B,P⟩:=X
 show Rf G.q (B.take P.length) cols P∧(B.take P.length).length≤A.length∧∀ v,Sp t A cols v ↔ Sp t (B.take P.length) cols v
 have h1:RI G.q B cols cols P:=h1
 have h2:B.length=A.length:=h2
 have h3:∀ v,Sp t A cols v ↔ Sp t B cols v:=h3
 have hl:(B.take P.length).length=P.length:=by have:=h1.lt;simp;omega
 have hlt:=h1.lt
 refine ⟨⟨⟨fun i hi=>?_,fun i k hi hk=>?_,by omega,h1.pc,h1.inc,fun i hi=>?_,fun i j hi hj hne=>?_,fun i k hi hk=>?_,fun i k hi hk=>by omega⟩,hl⟩,by omega,fun v=>(h3 v).trans ?_⟩
 ·rw [row_take (by omega)];exact h1.wf i (by omega)
 ·rw [en_take (by omega)];exact h1.bd i k (by omega) hk
 ·rw [en_take hi];exact h1.one i hi
 ·rw [en_take (by omega)];exact h1.zer i j hi (by omega) hne
 ·rw [en_take hi];exact h1.low i k hi hk
 ·have hs:∀ y k,k < cols→cmb (fe t B) B.length y k=cmb (fe t (B.take P.length)) (B.take P.length).length y k:=fun y k hk=>by
   unfold cmb
   rw [hl,sm_short hlt fun i a b=>by
    show y i * t.e (en B i k)=0
    rw [h1.out i k a b hk,t.e_zero,mul_zero]]
   exact sm_congr fun i hi=>by
    show y i * t.e (en B i k)=y i * t.e (en (B.take P.length) i k)
    rw [en_take hi]
  constructor
  ·rintro ⟨y,hy⟩;exact ⟨y,fun k hk=>(hy k hk).trans (hs y k hk)⟩
  ·rintro ⟨y,hy⟩;exact ⟨y,fun k hk=>(hy k hk).trans (hs y k hk).symm⟩
theorem rf_bas {A:List (List Int)} {cols:Nat} {P:List Nat} (h:Rf G.q A cols P):Bas (fe t A) A.length cols (Sp t A cols):=by
 refine ⟨fun y=>⟨y,fun k _=>rfl⟩,fun v hv=>hv,fun y hy i hi=>?_⟩
 have hi':i < P.length:=by rw [← h.len];exact hi
 have:=hy _ (h.ri.pc i hi')
 unfold cmb at this
 rw [sm_one hi fun j hj hne=>by
  show y j * t.e (en A j (P.getD i 0))=0
  rw [h.ri.zer i j hi' hj hne,t.e_zero,mul_zero]] at this
 have e:y i * t.e (en A i (P.getD i 0))=0:=this
 rwa [h.ri.one i hi',t.e_one,mul_one] at e
include t in
theorem inv_one:invG G 1=1:=by
 have q:=q2 t
 have h1:inn G.q 1 ≠ 0:=by rw [inn_yes ⟨by omega,by omega⟩];omega
 obtain ⟨a,b,c⟩:=inv_bd t 1 h1
 exact e_is1 t ⟨a,b⟩ (by rw [t.e_one,mul_one] at c;exact c)
theorem list_ext {A B:List (List Int)} (hl:A.length=B.length) (h:∀ i,i < A.length→row A i=row B i):A=B:=by
 refine List.ext_getElem hl fun i h1 h2=>?_
 have:=h i h1
 unfold row at this
 simpa [List.getD,h1,h2] using this
include t in
theorem rf_piv {A:List (List Int)} {cols:Nat} {P:List Nat} (h:Rf G.q A cols P) {r:Nat} (hr:r < P.length):pivL (opG G) A r r (P.getD r 0)=A:=by
 have hrA:r < A.length:=by rw [h.len];exact hr
 have eS:swpL A r r=A:=list_ext (length_swpL _ _ _) fun i hi=>by
  rw [length_swpL] at hi
  rw [row_swpL hi]
  by_cases e:i=r
  ·rw [if_pos e,e]
  ·rw [if_neg e,if_neg e]
 unfold pivL
 rw [eS,h.ri.one r hr]
 have e1:sclD (opG G) ((opG G).inv 1) (row A r)=row A r:=by unfold sclD;exact if_pos (inv_one t)
 rw [e1]
 refine list_ext (length_clrL _ _ _ _ _) fun i hi=>?_
 rw [length_clrL] at hi
 rw [row_clrL hi]
 by_cases e:i=r
 ·rw [if_pos e,e]
 ·rw [if_neg e,if_pos (h.ri.zer r i hr hi e)]
include t in
theorem rf_gj {A:List (List Int)} {cols:Nat} {P:List Nat} (h:Rf G.q A cols P):∀ (m c r:Nat),c + m=cols→r≤P.length→(∀ i,i < r→P.getD i 0 < c)→(∀ i,r≤i→i < P.length→c≤P.getD i 0)→gj (opG G) m c A (P.take r)=(A,P)
 | 0,c,r,hc,hr,h1,h2=>by
  have:r=P.length:=by
   rcases Nat.lt_or_ge r P.length with g | g
   ·have:=h2 r (Nat.le_refl _) g
    have:=h.ri.pc r g
    omega
   ·omega
  rw [gj,this,List.take_length]
 | m + 1,c,r,hc,hr,h1,h2=>by
  have hl:(P.take r).length=r:=by simp;omega
  rw [gj,hl]
  by_cases e:r < P.length∧P.getD r 0=c
  ·obtain ⟨hr',e⟩:=e
   have hrA:r < A.length:=by rw [h.len];exact hr'
   have e1:en A r c ≠ 0:=by rw [← e,h.ri.one r hr'];decide
   have e2:fnd A c r=r:=(fnd_eq (Nat.le_refl r) (by omega) (fun i a b=>by omega) (fun _=>e1) (by omega)).2 hrA
   rw [e2,if_pos hrA]
   have e3:pivL (opG G) A r r c=A:=by rw [← e];exact rf_piv t h hr'
   rw [e3]
   have e4:P.take r ++ [c]=P.take (r + 1):=by
    rw [List.take_add_one,← e]
    simp [List.getD,hr']
   rw [e4]
   refine rf_gj h m (c + 1) (r + 1) (by omega) (by omega) (fun i hi=>?_) (fun i a b=>?_)
   ·by_cases g:i=r
    ·rw [g];omega
    ·have:=h1 i (by omega);omega
   ·have:=h.ri.inc r i (by omega) b
    omega
  ·have hz:∀ i,r≤i→i < P.length→c < P.getD i 0:=fun i a b=>by
    have h3:=h2 i a b
    rcases Nat.lt_or_ge c (P.getD i 0) with g | g
    ·exact g
    ·exfalso
     by_cases g2:i=r
     ·subst g2;exact e ⟨b,by omega⟩
     ·have:=h.ri.inc r i (by omega) b
      have:=h2 r (Nat.le_refl _) (by omega)
      omega
   have e2:=(fnd_eq (A:=A) (c:=c) (r:=r) (k:=A.length) (by rw [h.len];exact hr) (Nat.le_refl _) (fun i a b=>h.ri.low i c (by rw [← h.len];exact b) (hz i a (by rw [← h.len];exact b))) (fun g=>absurd g (Nat.lt_irrefl _)) (by rw [h.len];exact hr)).1
   rw [if_neg (fun g=>absurd (e2.1 g) (Nat.lt_irrefl _))]
   exact rf_gj h m (c + 1) r (by omega) hr (fun i hi=>Nat.lt_succ_of_lt (h1 i hi)) (fun i a b=>hz i a b)
include t in
theorem rf_can {A:List (List Int)} {cols:Nat} {P:List Nat} (h:Rf G.q A cols P):canL (opG G) A cols=A∧pvL (opG G) A cols=P:=by
 have:=rf_gj t h cols 0 0 (by omega) (Nat.zero_le _) (fun i hi=>by omega) (fun i _ _=>Nat.zero_le _)
 unfold canL pvL
 have e:gj (opG G) cols 0 A []=(A,P):=this
 rw [e]
 refine ⟨?_,rfl⟩
 show A.take P.length=A
 rw [← h.len,List.take_length]
end
end Gj
end Cw
namespace Cw
namespace Gj
def cl2 (o:Op) (A A2:List (List Int)) (r c j:Nat):List Int:=if j=r then row A2 r else if en A j c=0 then row A2 j else axpy o (o.neg (en A j c)) (row A2 r) (row A2 j)
def st2 (o:Op) (A A2:List (List Int)) (r c i:Nat):List (List Int):=(List.range A2.length).map fun j=>if j < i then cl2 o A A2 r c j else row A2 j
def scR (o:Op) (A A2:List (List Int)) (r c:Nat):List (List Int):=A2.set r (sclD o (o.inv (en A r c)) (row A2 r))
def pv2 (o:Op) (A A2:List (List Int)) (r p c:Nat):List (List Int):=st2 o (scR o (swpL A r p) (swpL A r p) r c) (scR o (swpL A r p) (swpL A2 r p) r c) r c A2.length
def gjP (o:Op):Nat→Nat→List (List Int)→List (List Int)→List Nat→List (List Int) × List (List Int) × List Nat
 | 0,_,A,A2,P=>(A,A2,P)
 | m + 1,c,A,A2,P=>if fnd A c P.length < A.length then gjP o m (c + 1) (pv2 o A A P.length (fnd A c P.length) c) (pv2 o A A2 P.length (fnd A c P.length) c) (P ++ [c]) else gjP o m (c + 1) A A2 P
theorem length_st2 (o:Op) (A A2:List (List Int)) (r c i:Nat):(st2 o A A2 r c i).length=A2.length:=by simp [st2]
theorem length_scR (o:Op) (A A2:List (List Int)) (r c:Nat):(scR o A A2 r c).length=A2.length:=by simp [scR]
theorem length_pv2 (o:Op) (A A2:List (List Int)) (r p c:Nat):(pv2 o A A2 r p c).length=A2.length:=by rw [pv2,length_st2,length_scR,length_swpL]
theorem row_st2 {o:Op} {A A2:List (List Int)} {r c i j:Nat} (h:j < A2.length):row (st2 o A A2 r c i) j=if j < i then cl2 o A A2 r c j else row A2 j:=row_map h
theorem row_set' {A:List (List Int)} {i j:Nat} {l:List Int} (hi:i < A.length):row (A.set i l) j=if j=i then l else row A j:=by
 unfold row
 by_cases e:j=i
 ·subst e;rw [if_pos rfl];simp [List.getD,hi]
 ·rw [if_neg e];simp [List.getD,List.getElem?_set_ne (Ne.symm e)]
theorem st2_zero (o:Op) (A A2:List (List Int)) (r c:Nat):st2 o A A2 r c 0=A2:=list_ext (length_st2 _ _ _ _ _ _) fun i hi=>by
 rw [length_st2] at hi
 rw [row_st2 hi,if_neg (by omega)]
theorem st2_skip {o:Op} {A A2:List (List Int)} {r c i:Nat} (h:i=r ∨ en A i c=0):st2 o A A2 r c (i + 1)=st2 o A A2 r c i:=list_ext (by rw [length_st2,length_st2]) fun j hj=>by
 rw [length_st2] at hj
 rw [row_st2 hj,row_st2 hj]
 by_cases e:j=i
 ·rw [e,if_pos (by omega),if_neg (by omega)]
  unfold cl2
  rcases h with h | h
  ·rw [if_pos h,h]
  ·by_cases g:i=r
   ·rw [if_pos g,g]
   ·rw [if_neg g,if_pos h]
 ·by_cases g:j < i
  ·rw [if_pos g,if_pos (by omega)]
  ·rw [if_neg g,if_neg (by omega)]
theorem row_st2_r {o:Op} {A A2:List (List Int)} {r c i:Nat} (h:r < A2.length):row (st2 o A A2 r c i) r=row A2 r:=by
 rw [row_st2 h]
 split
 ·unfold cl2;rw [if_pos rfl]
 ·rfl
theorem st2_clear {o:Op} {A A2:List (List Int)} {r c i:Nat} (hr:r < A2.length) (hi:i < A2.length) (h1:i ≠ r) (h2:en A i c ≠ 0) :
  (st2 o A A2 r c i).set i (axpy o (o.neg (en A i c)) (row (st2 o A A2 r c i) r) (row (st2 o A A2 r c i) i))=st2 o A A2 r c (i + 1):=list_ext (by rw [List.length_set,length_st2,length_st2]) fun j hj=>by
 rw [List.length_set,length_st2] at hj
 rw [row_set' (by rw [length_st2];exact hi),row_st2_r hr,row_st2 (i:=i + 1) hj]
 by_cases e:j=i
 ·have e2:row (st2 o A A2 r c i) i=row A2 i:=by rw [row_st2 hi,if_neg (by omega)]
  rw [if_pos e,e,if_pos (by omega),e2]
  unfold cl2
  rw [if_neg h1,if_neg h2]
 ·rw [if_neg e,row_st2 hj]
  by_cases g:j < i
  ·rw [if_pos g,if_pos (by omega)]
  ·rw [if_neg g,if_neg (by omega)]
theorem scR_one {o:Op} {A A2:List (List Int)} {r c:Nat} (h:o.inv (en A r c)=1):scR o A A2 r c=A2:=by
 unfold scR sclD
 rw [if_pos h]
 refine list_ext (List.length_set ..) fun j hj=>?_
 rw [List.length_set] at hj
 by_cases e:r < A2.length
 ·rw [row_set' e]
  by_cases g:j=r
  ·rw [if_pos g,g]
  ·rw [if_neg g]
 ·rw [List.set_eq_of_length_le (by omega)]
theorem scR_ne {o:Op} {A A2:List (List Int)} {r c:Nat} (h:o.inv (en A r c) ≠ 1):scR o A A2 r c=A2.set r ((row A2 r).map (o.mul (o.inv (en A r c)))):=by
 unfold scR sclD
 rw [if_neg h]
theorem swpL_self (A:List (List Int)) (r:Nat):swpL A r r=A:=list_ext (length_swpL _ _ _) fun i hi=>by
 rw [length_swpL] at hi
 rw [row_swpL hi]
 by_cases e:i=r
 ·rw [if_pos e,e]
 ·rw [if_neg e,if_neg e]
theorem pv2_piv {o:Op} {A:List (List Int)} {r p c:Nat} (hr:r < A.length):pv2 o A A r p c=pivL o A r p c:=by
 refine list_ext (by rw [length_pv2,length_pivL]) fun j hj=>?_
 rw [length_pv2] at hj
 have hS:(swpL A r p).length=A.length:=length_swpL _ _ _
 have hj2:j < (scR o (swpL A r p) (swpL A r p) r c).length:=by rw [length_scR,hS];exact hj
 have hrS:r < (swpL A r p).length:=by rw [hS];exact hr
 unfold pv2 pivL
 rw [row_st2 hj2,if_pos (show j < A.length from hj),row_clrL (by rw [hS];exact hj)]
 unfold cl2 scR
 by_cases e:j=r
 ·rw [if_pos e,if_pos e,row_set' hrS,if_pos rfl]
 ·have e1:en ((swpL A r p).set r (sclD o (o.inv (en (swpL A r p) r c)) (row (swpL A r p) r))) j c=en (swpL A r p) j c:=by unfold en;rw [row_set' hrS,if_neg e]
  rw [if_neg e,if_neg e,e1,row_set' hrS,if_neg e,row_set' hrS,if_pos rfl]
theorem gjP_gj (o:Op):∀ (m c:Nat) (A A2:List (List Int)) (P:List Nat),(gjP o m c A A2 P).1=(gj o m c A P).1∧(gjP o m c A A2 P).2.2=(gj o m c A P).2
 | 0,_,_,_,_=>⟨rfl,rfl⟩
 | m + 1,c,A,A2,P=>by
  rw [gjP,gj]
  have:=fnd_ge A c P.length
  by_cases h:fnd A c P.length < A.length
  ·rw [if_pos h,if_pos h,pv2_piv (by omega)]
   exact gjP_gj o m (c + 1) _ _ _
  ·rw [if_neg h,if_neg h]
   exact gjP_gj o m (c + 1) _ _ _
theorem gjP_full (o:Op):∀ (m c:Nat) {A A2:List (List Int)} {P:List Nat},A.length≤P.length→gjP o m c A A2 P=(A,A2,P)
 | 0,_,_,_,_,_=>rfl
 | m + 1,c,A,A2,P,h=>by
  have:=fnd_ge A c P.length
  rw [gjP,if_neg (by omega)]
  exact gjP_full o m (c + 1) h
theorem wf_swp {q:Int} {A:List (List Int)} {cols r p:Nat} (h:WF q A cols) (hr:r < A.length) (hp:p < A.length):WF q (swpL A r p) cols :=
 ⟨fun i hi=>by rw [length_swpL] at hi;rw [row_swpL hi];exact h.wf _ (swp_lt hr hp hi),fun i k hi hk=>by rw [length_swpL] at hi;rw [en_swpL hi];exact h.bd _ _ (swp_lt hr hp hi) hk⟩
def Ln (A:List (List Int)) (cols:Nat):Prop:=∀ i,i < A.length→(row A i).length=cols
theorem ln_swp {A:List (List Int)} {cols r p:Nat} (h:Ln A cols) (hr:A ≠ []→r < A.length) (hp:A ≠ []→p < A.length):Ln (swpL A r p) cols:=fun i hi=>by
 rw [length_swpL] at hi
 have hA:A ≠ []:=by intro e;rw [e] at hi;simp at hi
 rw [row_swpL hi];exact h _ (swp_lt (hr hA) (hp hA) hi)
theorem ln_scR {o:Op} {A A2:List (List Int)} {cols r c:Nat} (h:Ln A2 cols):Ln (scR o A A2 r c) cols:=fun i hi=>by
 rw [length_scR] at hi
 unfold scR
 by_cases e:r < A2.length
 ·rw [row_set' e]
  split
  ·rw [length_sclD];exact h r e
  ·exact h i hi
 ·rw [List.set_eq_of_length_le (by omega)];exact h i hi
theorem ln_st2 {o:Op} {A A2:List (List Int)} {cols r c k:Nat} (h:Ln A2 cols) (hr:A2 ≠ []→r < A2.length):Ln (st2 o A A2 r c k) cols:=fun i hi=>by
 rw [length_st2] at hi
 have hA:A2 ≠ []:=by intro e;rw [e] at hi;simp at hi
 rw [row_st2 hi]
 split
 ·unfold cl2
  split
  ·exact h r (hr hA)
  ·split
   ·exact h i hi
   ·rw [length_axpy];exact h i hi
 ·exact h i hi
end Gj
end Cw
namespace Go.Proofs.YtoilbeadokallaaGreatDoor
open Go.RowKit
theorem Own.len' {w:World} {B g n cap:Nat} {xs:List Int} (h:Own w B (.slice (some ⟨g,0,none⟩) n cap) xs):n=xs.length:=by
 rcases h.form with ⟨e,_⟩ | ⟨_,_,e,_⟩
 ·cases e
 ·cases e;rfl
theorem wpList_append_in' {w:World} {ops:Array Oper} {rest:List Oper} {o:Oper} {a:Act} {Q:Exit→Act→World→Prop} (hgd:o.guard=none) (s x:Operand)
  (ho:o.op=.call { callee:=.builtin .append,args:=#[s,x],argTypes:=#[22,22] }) (B g n cap:Nat) (xs:List Int) (hs:a.eval s=.slice (some ⟨g,0,none⟩) n cap) (hown:Own w B (.slice (some ⟨g,0,none⟩) n cap) xs)
  (ad:Addr) (y:Int) (hx:a.eval x=.slice (some ad) 1 1) (hc:w.cell? ad=some (.int .i64 y)) (hlen:n + 1≤1000000) (hB:B≤w.heap.size)
  (h:∀ g' cap' w',Own w' B (.slice (some ⟨g',0,none⟩) (n + 1) cap') (xs ++ [y])→w.grownBy w' (some g)→(g'=g ∨ w.heap.size≤g')→wpList Tryz.prog ops Q rest (a.put o.dst (.slice (some ⟨g',0,none⟩) (n + 1) cap')) w') :
  wpList Tryz.prog ops Q (o :: rest) a w:=by
 obtain ⟨i0,hi,hz0,hz1,hz2⟩:=info_parts Tryz.infoInt
 have hn:=hown.len'
 have hcell:∀ j u,([.int .i64 y]:List Value)[j]?=some u→w.cell? (ad.add j)=some u:=fun j u hu=>by
  match j with
  | 0 =>
   have e:u=.int .i64 y:=by simpa using hu.symm
   rw [e]
   have:ad.add 0=ad:=by cases ad;simp [Addr.add]
   rw [this];exact hc
  | j + 1=>simp at hu
 by_cases hroom:n + 1≤cap
 ·obtain ⟨w',hrun,h1,h2⟩:=run_append_fits (P:=Tryz.prog) w B 22 o.type 3 i0 1 Tryz.underlying22 hi hz1 g n cap (xs.map (Value.int .i64)) (by rw [hn] at hown ⊢;exact hown) ad 1 1 [.int .i64 y] rfl hcell (by simp [Value.oneCell']) hroom
  refine wpList_plain hgd fun K hK=>?_
  unfold Oper.wp
  simp [execOp,ho,resolve,invoke,builtin,hs,hx,hrun,Result.andThen]
  refine hK _ _ (h g cap w' ?_ h2 (.inl rfl))
  unfold Own
  rw [List.length_append,← hn]
  simpa using h1
 ·obtain ⟨v',w',hrun,h1,h2⟩:=run_append_arg_grows (P:=Tryz.prog) w 22 o.type 3 i0 (.int .i64 0) 1 8 Tryz.underlying22 hi hz0 hz1 hz2 rfl (by decide) ⟨g,0,none⟩ n cap (xs.map (Value.int .i64)) (by simp [hn]) (fun j u hu=>by
   have hj:j < xs.length:=by have:=(List.getElem?_eq_some_iff.1 hu).1;simpa using this
   rw [Addr.add_lit,Nat.zero_add,hown.cell hj]
   simp [List.getElem?_eq_getElem hj] at hu
   simp [List.getD,List.getElem?_eq_getElem hj,hu]) ad 1 1 [.int .i64 y] rfl hcell (by omega) (by unfold maxLen;omega) (by omega)
  have hO:Own w' w.heap.size v' (xs ++ [y]):=by unfold Own;rw [List.length_append,← hn];simpa using h1
  rcases hO.form with ⟨_,e⟩ | ⟨gm,cm,rfl,h3,h4,_⟩
  ·simp at e
  ·refine wpList_plain hgd fun K hK=>?_
   unfold Oper.wp
   simp [execOp,ho,resolve,invoke,builtin,hs,hx,hrun,Result.andThen]
   rw [show xs.length + 1=n + 1 by rw [hn]]
   have e:(xs ++ [y]).length=n + 1:=by rw [List.length_append,← hn];rfl
   rw [e] at hO
   exact hK _ _ (h gm cm w' (hO.mono hB) (grownBy_some h2) (.inr h3))
theorem wpList_append_at {w:World} {ops:Array Oper} {rest:List Oper} {o:Oper} {a:Act} {Q:Exit→Act→World→Prop} (hgd:o.guard=none) (s x:Operand)
  (ho:o.op=.call { callee:=.builtin .append,args:=#[s,x],argTypes:=#[22,22] }) (B:Nat) (v:Value) (xs:List Int) (hs:a.eval s=v) (hown:Own w B v xs)
  (ad:Addr) (y:Int) (hx:a.eval x=.slice (some ad) 1 1) (hc:w.cell? ad=some (.int .i64 y)) (hlen:xs.length + 1≤1000000) (hB:B≤w.heap.size)
  (h:∀ g' cap' w',Own w' B (.slice (some ⟨g',0,none⟩) (xs.length + 1) cap') (xs ++ [y])→w.grownBy w' v.ownBlock→(v.ownBlock=some g' ∨ w.heap.size≤g')→wpList Tryz.prog ops Q rest (a.put o.dst (.slice (some ⟨g',0,none⟩) (xs.length + 1) cap')) w') :
  wpList Tryz.prog ops Q (o :: rest) a w:=by
 rcases hown.form with ⟨rfl,rfl⟩ | ⟨g,cap,rfl,_⟩
 ·refine wpList_append_one hgd s x ho w.heap.size _ [] hs (own_nil _ _) ad y hx hc hlen (Nat.le_refl _) fun v' w' h1 h2=>?_
  rcases h1.form with ⟨_,e⟩ | ⟨g',cap',rfl,h3,_⟩
  ·simp at e
  ·exact h g' cap' w' (h1.mono hB) h2 (.inr h3)
 ·exact wpList_append_in' hgd s x ho B g xs.length cap xs hs hown ad y hx hc hlen hB fun g' cap' w' h1 h2 h3=>h g' cap' w' h1 h2 (h3.elim (fun e=>.inl (by rw [e];rfl)) .inr)
end Go.Proofs.YtoilbeadokallaaGreatDoor
namespace Cw
namespace Gj
open Rg Fd PS Dm
def kvS (o:Op) (A:List (List Int)) (P:List Nat) (cols c:Nat):Nat→List Int
 | 0=>(List.replicate cols 0).set c 1
 | i + 1=>(kvS o A P cols c i).set (P.getD i 0) (o.neg (en A i c))
def kv (o:Op) (A:List (List Int)) (P:List Nat) (cols c:Nat):List Int:=kvS o A P cols c P.length
def fre (P:List Nat) (cols:Nat):List Nat:=(List.range cols).filter fun c=>decide (c ∉ P)
def kerL (o:Op) (A:List (List Int)) (P:List Nat) (cols:Nat):List (List Int):=(fre P cols).map (kv o A P cols)
theorem length_kvS (o:Op) (A:List (List Int)) (P:List Nat) (cols c:Nat):∀ i,(kvS o A P cols c i).length=cols
 | 0=>by simp [kvS]
 | i + 1=>by rw [kvS,List.length_set,length_kvS]
theorem getD_set {l:List Int} {i k:Nat} {x:Int} (h:i < l.length):(l.set i x).getD k 0=if k=i then x else l.getD k 0:=by
 by_cases e:k=i
 ·subst e;rw [if_pos rfl];simp [List.getD,h]
 ·rw [if_neg e];simp [List.getD,List.getElem?_set_ne (Ne.symm e)]
theorem getD_repl {n k:Nat}:(List.replicate n (0:Int)).getD k 0=0:=by
 by_cases h:k < n
 ·simp [List.getD,h]
 ·simp [List.getD,h]
theorem mem_getD {P:List Nat} {i:Nat} (h:i < P.length):P.getD i 0 ∈ P:=by
 simp only [List.getD,List.getElem?_eq_getElem h,Option.getD_some]
 exact List.getElem_mem _
section
variable {G:GFd} (t:Tabs G) {A:List (List Int)} {cols:Nat} {P:List Nat}
theorem kvS_at (o:Op) (h:∀ i,i < P.length→P.getD i 0 < cols) {c:Nat} (hc:c < cols) (hn:c ∉ P) (hinc:∀ i j,i < j→j < P.length→P.getD i 0 < P.getD j 0):∀ m,m≤P.length →
  (kvS o A P cols c m).getD c 0=1∧(∀ i,i < m→(kvS o A P cols c m).getD (P.getD i 0) 0=o.neg (en A i c))∧∀ k,k ≠ c→(∀ i,i < m→k ≠ P.getD i 0)→(kvS o A P cols c m).getD k 0=0
 | 0,_=>by
  refine ⟨?_,fun i hi=>by omega,fun k hk _=>?_⟩
  ·rw [kvS,getD_set (by simpa using hc),if_pos rfl]
  ·rw [kvS,getD_set (by simpa using hc),if_neg hk,getD_repl]
 | m + 1,hm=>by
  obtain ⟨h1,h2,h3⟩:=kvS_at o h hc hn hinc m (by omega)
  have hp:P.getD m 0 < (kvS o A P cols c m).length:=by rw [length_kvS];exact h m (by omega)
  refine ⟨?_,fun i hi=>?_,fun k hk hk2=>?_⟩
  ·rw [kvS,getD_set hp,if_neg (fun e=>hn (by rw [e];exact mem_getD (by omega)))];exact h1
  ·rw [kvS,getD_set hp]
   by_cases e:i=m
   ·rw [e,if_pos rfl]
   ·rw [if_neg (by have:=hinc i m (by omega) (by omega);omega)];exact h2 i (by omega)
  ·rw [kvS,getD_set hp,if_neg (hk2 m (by omega))];exact h3 k hk fun i hi=>hk2 i (by omega)
theorem kv_at (o:Op) (q:Int) (h:Rf q A cols P) {c:Nat} (hc:c < cols) (hn:c ∉ P) :
  (kv o A P cols c).getD c 0=1∧(∀ i,i < P.length→(kv o A P cols c).getD (P.getD i 0) 0=o.neg (en A i c))∧∀ k,k ≠ c→k ∉ P→(kv o A P cols c).getD k 0=0:=by
 obtain ⟨h1,h2,h3⟩:=kvS_at (A:=A) o h.ri.pc hc hn h.ri.inc P.length (Nat.le_refl _)
 exact ⟨h1,h2,fun k hk hk2=>h3 k hk fun i hi e=>hk2 (by rw [e];exact mem_getD hi)⟩
theorem mem_fre {c:Nat}:c ∈ fre P cols ↔ c < cols∧c ∉ P:=by unfold fre;simp
theorem fre_at {j:Nat} (h:j < (fre P cols).length):(fre P cols).getD j 0 < cols∧(fre P cols).getD j 0 ∉ P:=mem_fre.1 (mem_getD h)
theorem fre_ne {i j:Nat} (hi:i < (fre P cols).length) (hj:j < (fre P cols).length) (hne:i ≠ j):(fre P cols).getD i 0 ≠ (fre P cols).getD j 0:=by
 have hd:(fre P cols).Nodup:=List.Pairwise.filter _ List.nodup_range
 have h:=List.pairwise_iff_getElem.1 hd
 have e:∀ i (h:i < (fre P cols).length),(fre P cols).getD i 0=(fre P cols)[i]:=fun i h=>by simp [List.getD,h]
 rw [e i hi,e j hj]
 rcases Nat.lt_or_gt_of_ne hne with g | g
 ·exact h i j hi hj g
 ·exact fun x=>h j i hj hi g x.symm
theorem length_kerL (o:Op):(kerL o A P cols).length=(fre P cols).length:=by simp [kerL]
theorem row_kerL (o:Op) {j:Nat} (h:j < (fre P cols).length):row (kerL o A P cols) j=kv o A P cols ((fre P cols).getD j 0):=by
 unfold row kerL
 simp [List.getD,h]
include t in
theorem kerL_wf (h:Rf G.q A cols P):WF G.q (kerL (opG G) A P cols) cols:=by
 have q:=q2 t
 refine ⟨fun j hj=>?_,fun j k hj hk=>?_⟩
 ·rw [length_kerL] at hj
  rw [row_kerL _ hj];exact length_kvS _ _ _ _ _ _
 ·rw [length_kerL] at hj
  obtain ⟨f1,f2⟩:=fre_at hj
  obtain ⟨h1,h2,h3⟩:=kv_at (opG G) G.q h f1 f2
  unfold en
  rw [row_kerL _ hj]
  by_cases e:k=(fre P cols).getD j 0
  ·rw [e,h1];omega
  ·by_cases e2:k ∈ P
   ·obtain ⟨i,hi,e3⟩:=List.mem_iff_getElem.1 e2
    have e4:k=P.getD i 0:=by simp [List.getD,hi,e3]
    rw [e4,h2 i hi]
    exact t.neg_bd _
   ·rw [h3 k e e2];omega
theorem sm_two {α:Type} [Fd α] {n a b:Nat} (ha:a < n) (hb:b < n) (hab:a ≠ b) {f:Nat→α} (h:∀ i,i < n→i ≠ a→i ≠ b→f i=0):sm n f=f a + f b:=by
 have e:sm n f=sm n (fun i=>(if i=a then f a else 0) + (if i=b then f b else 0)):=sm_congr fun i hi=>by
  by_cases h1:i=a
  ·rw [h1,if_pos rfl,if_neg hab,add_zero]
  ·by_cases h2:i=b
   ·rw [h2,if_neg (fun g=>hab g.symm),if_pos rfl,zero_add]
   ·rw [if_neg h1,if_neg h2,add_zero,h i hi h1 h2]
 rw [e,sm_add,sm_one ha (fun i _ h=>if_neg h),sm_one hb (fun i _ h=>if_neg h)]
 show (if a=a then f a else 0) + (if b=b then f b else 0)=_
 rw [if_pos rfl,if_pos rfl]
theorem sm_filter {α:Type} [Fd α] (b:Nat→Bool) (f:Nat→α):∀ n,sm n (fun k=>if b k=true then f k else 0)=sm ((List.range n).filter b).length (fun j=>f (((List.range n).filter b).getD j 0))
 | 0=>rfl
 | n + 1=>by
  rw [sm_succ,sm_filter b f n,List.range_succ,List.filter_append]
  cases e:b n with
  | true =>
   have e1:[n].filter b=[n]:=by simp [e]
   rw [e1,if_pos rfl,List.length_append]
   show _=sm (_ + 1) _
   rw [sm_succ]
   congr 1
   ·exact sm_congr fun j hj=>by
     congr 1
     rw [List.getD,List.getD,List.getElem?_append_left hj]
   ·congr 1
    simp [List.getD]
  | false =>
   have e1:[n].filter b=[]:=by simp [e]
   rw [e1,List.append_nil]
   show _ + (if false=true then f n else 0)=_
   rw [if_neg (by simp),add_zero]
theorem mem_piv {k:Nat} (h:k ∈ P):∃ i,i < P.length∧k=P.getD i 0:=by
 obtain ⟨i,hi,e3⟩:=List.mem_iff_getElem.1 h
 exact ⟨i,hi,by simp [List.getD,hi,e3]⟩
theorem ker_sp (h:Rf G.q A cols P) (v:Nat→Rs t.fs.mon):Sp t (kerL (opG G) A P cols) cols v ↔ Du cols (Sp t A cols) v:=by
 have hK:∀ j,j < (fre P cols).length→∀ k,en (kerL (opG G) A P cols) j k=(kv (opG G) A P cols ((fre P cols).getD j 0)).getD k 0:=fun j hj k=>by unfold en;rw [row_kerL _ hj]
 have hAP:∀ i l,i < P.length→l < P.length→l ≠ i→en A i (P.getD l 0)=0:=fun i l hi hl hne=>h.ri.zer l i hl (by rw [h.len];exact hi) (Ne.symm hne)
 constructor
 ·refine fun hv=>?_
  have key:∀ j,j < (kerL (opG G) A P cols).length→Du cols (Sp t A cols) (fe t (kerL (opG G) A P cols) j):=fun j hj=>by
   rw [length_kerL] at hj
   obtain ⟨f1,f2⟩:=fre_at hj
   obtain ⟨h1,h2,h3⟩:=kv_at (opG G) G.q h f1 f2
   rintro u ⟨y,hy⟩
   have e1:sm cols (fun k=>u k * fe t (kerL (opG G) A P cols) j k)=sm A.length (fun i=>y i * sm cols (fun k=>t.e (en A i k) * fe t (kerL (opG G) A P cols) j k)):=by
    have:∀ k,k < cols→u k * fe t (kerL (opG G) A P cols) j k=sm A.length (fun i=>y i * (t.e (en A i k) * fe t (kerL (opG G) A P cols) j k)):=fun k hk=>by
     rw [hy k hk]
     unfold cmb
     rw [sm_mul]
     exact sm_congr fun i _=>mul_assoc _ _ _
    rw [sm_congr this,sm_comm]
    exact sm_congr fun i _=>(mul_sm _ _ _).symm
   rw [e1]
   refine sm_eq_zero fun i hi=>?_
   have hi':i < P.length:=by rw [← h.len];exact hi
   have e2:sm cols (fun k=>t.e (en A i k) * fe t (kerL (opG G) A P cols) j k)=0:=by
    have hpc:=h.ri.pc i hi'
    have hne:(fre P cols).getD j 0 ≠ P.getD i 0:=fun e=>f2 (by rw [e];exact mem_getD hi')
    rw [sm_two f1 hpc hne fun k hk k1 k2=>?_]
    ·show t.e (en A i ((fre P cols).getD j 0)) * t.e (en (kerL (opG G) A P cols) j ((fre P cols).getD j 0)) + t.e (en A i (P.getD i 0)) * t.e (en (kerL (opG G) A P cols) j (P.getD i 0))=0
     rw [hK j hj,hK j hj,h1,h2 i hi',h.ri.one i hi',t.e_one,mul_one,one_mul]
     show t.e (en A i ((fre P cols).getD j 0)) + t.e (negG G (en A i ((fre P cols).getD j 0)))=0
     rw [t.e_neg,add_neg]
    ·show t.e (en A i k) * t.e (en (kerL (opG G) A P cols) j k)=0
     by_cases hm:k ∈ P
     ·obtain ⟨l,hl,rfl⟩:=mem_piv hm
      rw [hAP i l hi' hl (fun e=>k2 (by rw [e])),t.e_zero,zero_mul]
     ·rw [hK j hj,h3 k k1 hm,t.e_zero,mul_zero]
   rw [e2,mul_zero]
  obtain ⟨y,hy⟩:=hv
  exact (spc_du cols _).ext _ _ (fun k hk=>(hy k hk).symm) ((spc_du cols _).cmb y _ key)
 ·intro hv
  refine ⟨fun j=>v ((fre P cols).getD j 0),fun k hk=>?_⟩
  unfold cmb
  rw [length_kerL]
  by_cases hm:k ∈ P
  ·obtain ⟨i,hi,rfl⟩:=mem_piv hm
   have hiA:i < A.length:=by rw [h.len];exact hi
   have h0:=hv _ (sp_row t cols hiA)
   have e1:∀ k,k < cols→fe t A i k * v k=(if k=P.getD i 0 then v (P.getD i 0) else 0) + (if decide (k ∉ P)=true then t.e (en A i k) * v k else 0):=fun k hk=>by
    show t.e (en A i k) * v k=_
    by_cases g:k ∈ P
    ·obtain ⟨l,hl,rfl⟩:=mem_piv g
     rw [if_neg (show ¬ decide (P.getD l 0 ∉ P)=true by simpa using g),add_zero]
     by_cases g2:l=i
     ·rw [g2,if_pos rfl,h.ri.one i hi,t.e_one,one_mul]
     ·rw [hAP i l hi hl g2,t.e_zero,zero_mul,if_neg]
      intro e
      rcases Nat.lt_or_gt_of_ne g2 with g3 | g3
      ·have:=h.ri.inc l i g3 hi;omega
      ·have:=h.ri.inc i l g3 hl;omega
    ·rw [if_neg (fun e=>g (by rw [e];exact mem_getD hi)),zero_add,if_pos (by simpa using g)]
   rw [sm_congr e1,sm_add,sm_one (h.ri.pc i hi) (fun k _ g=>if_neg g),if_pos rfl,sm_filter] at h0
   have e2:v (P.getD i 0)=-sm (fre P cols).length (fun j=>t.e (en A i ((fre P cols).getD j 0)) * v ((fre P cols).getD j 0)):=by
    rw [← neg_neg (v (P.getD i 0))]
    exact congrArg _ (neg_unique h0).symm
   rw [e2,← sm_neg]
   refine sm_congr fun j hj=>?_
   obtain ⟨f1,f2⟩:=fre_at hj
   show -(t.e (en A i ((fre P cols).getD j 0)) * v ((fre P cols).getD j 0))=v ((fre P cols).getD j 0) * t.e (en (kerL (opG G) A P cols) j (P.getD i 0))
   rw [hK j hj,(kv_at (opG G) G.q h f1 f2).2.1 i hi]
   show _=v ((fre P cols).getD j 0) * t.e (negG G (en A i ((fre P cols).getD j 0)))
   rw [t.e_neg,mul_neg,mul_comm]
  ·obtain ⟨j,hj,e⟩:=List.mem_iff_getElem.1 (mem_fre.2 ⟨hk,hm⟩)
   have e':k=(fre P cols).getD j 0:=by simp [List.getD,hj,e]
   rw [sm_one hj fun l hl hne=>?_]
   ·obtain ⟨f1,f2⟩:=fre_at hj
    show v k=v ((fre P cols).getD j 0) * t.e (en (kerL (opG G) A P cols) j k)
    rw [hK j hj,← e',(kv_at (opG G) G.q h hk hm).1,t.e_one,mul_one]
   ·obtain ⟨f1,f2⟩:=fre_at hl
    show v ((fre P cols).getD l 0) * t.e (en (kerL (opG G) A P cols) l k)=0
    rw [hK l hl,(kv_at (opG G) G.q h f1 f2).2.2 k (by rw [e'];exact fre_ne hj hl (Ne.symm hne)) hm,t.e_zero,mul_zero]
end
end Gj
end Cw
namespace Cw
namespace Gj
open Rg Fd PS Dm
def subm (o:Op) (a:Int) (u v:List Int):List Int:=(List.range v.length).map fun j=>o.add (v.getD j 0) (o.neg (o.mul a (u.getD j 0)))
def wrow (o:Op) (A:List (List Int)) (k x l:Nat):List Int:=if en A l x=0 then row A l else subm o (o.mul (en A l x) (o.inv (en A k x))) (row A k) (row A l)
def wthL (o:Op) (A:List (List Int)) (x:Nat):List (List Int):=if fnd A x 0 < A.length then (List.range (A.length - 1)).map (fun i=>wrow o A (fnd A x 0) x (sk (fnd A x 0) i)) else A
def fw (o:Op) (T:Nat→Bool):Nat→Nat→List (List Int)→List (List Int)
 | 0,_,A=>A
 | m + 1,x,A=>fw o T m (x + 1) (if T x then A else wthL o A x)
theorem fw_nil (o:Op) (T:Nat→Bool):∀ m x,fw o T m x []=[]
 | 0,_=>rfl
 | m + 1,x=>by
  rw [fw]
  have:(if T x then [] else wthL o [] x)=[]:=by
   split
   ·rfl
   ·unfold wthL;simp
  rw [this,fw_nil o T m]
section
variable {G:GFd} (t:Tabs G)
theorem wth_bas {A:List (List Int)} {cols x:Nat} {V:(Nat→Rs t.fs.mon)→Prop} (hw:WF G.q A cols) (hx:x < cols) (hV:Spc cols V) (hb:Bas (fe t A) A.length cols V) :
  WF G.q (wthL (opG G) A x) cols∧Bas (fe t (wthL (opG G) A x)) (wthL (opG G) A x).length cols (Hy V x):=by
 unfold wthL
 by_cases hf:fnd A x 0 < A.length
 ·rw [if_pos hf]
  obtain ⟨k,hk⟩:∃ k,k=fnd A x 0:=⟨_,rfl⟩
  have h0:en A k x ≠ 0:=by rw [hk];exact fnd_yes hf
  rw [← hk] at hf ⊢
  obtain ⟨m,hm⟩:∃ m,A.length=m + 1:=⟨A.length - 1,by omega⟩
  have hm':A.length - 1=m:=by omega
  rw [hm']
  have hsk:∀ i,i < m→sk k i < A.length:=fun i hi=>by unfold sk;split <;> omega
  have hkb:=hw.bd k x hf hx
  have hin:inn G.q (en A k x) ≠ 0:=by rw [inn_yes hkb];exact h0
  have hi:=inv_bd t _ hin
  have he0:=e_ne t hkb h0
  have hinv:t.e (invG G (en A k x))=Fd.inv (t.e (en A k x)):=Fd.inv_unique (by rw [mul_comm];exact hi.2.2)
  have hlen:∀ l,l < A.length→(wrow (opG G) A k x l).length=cols:=fun l hl=>by
   unfold wrow
   split
   ·exact hw.wf l hl
   ·simp [subm,hw.wf l hl]
  have hent:∀ l c,l < A.length→c < cols→(0≤(wrow (opG G) A k x l).getD c 0∧(wrow (opG G) A k x l).getD c 0 < G.q)∧t.e ((wrow (opG G) A k x l).getD c 0)=t.e (en A l c) - t.e (en A l x) * Fd.inv (t.e (en A k x)) * t.e (en A k c):=fun l c hl hc=>by
   unfold wrow
   by_cases e:en A l x=0
   ·rw [if_pos e,e,t.e_zero,zero_mul,zero_mul,sub_zero]
    exact ⟨hw.bd l c hl hc,rfl⟩
   ·rw [if_neg e]
    have e1:(subm (opG G) ((opG G).mul (en A l x) ((opG G).inv (en A k x))) (row A k) (row A l)).getD c 0=addG G (en A l c) (negG G (mulG G (mulG G (en A l x) (invG G (en A k x))) (en A k c))):=by
     unfold subm
     rw [getD_map,if_pos (by rw [hw.wf l hl];exact hc)]
     rfl
    rw [e1]
    refine ⟨t.add_bd _ _, ?_⟩
    rw [t.e_add,t.e_neg,t.e_mul,t.e_mul,hinv,← sub_def]
  have hrow:∀ i,i < m→row ((List.range m).map (fun i=>wrow (opG G) A k x (sk k i))) i=wrow (opG G) A k x (sk k i):=fun i hi=>row_map hi
  refine ⟨⟨fun i hi'=>?_,fun i c hi' hc=>?_⟩, ?_⟩
  ·have hi'':i < m:=by simpa using hi'
   rw [hrow i hi''];exact hlen _ (hsk i hi'')
  ·have hi'':i < m:=by simpa using hi'
   unfold en
   rw [hrow i hi''];exact (hent _ c (hsk i hi'') hc).1
  ·rw [show ((List.range m).map (fun i=>wrow (opG G) A k x (sk k i))).length=m by simp]
   rw [hm] at hb hf
   have hbw:=bas_wo hV hb hf hx (show fe t A k x ≠ 0 from he0)
   have ee:∀ i c,i < m→c < cols→fe t ((List.range m).map (fun i=>wrow (opG G) A k x (sk k i))) i c=wo (fe t A) k x i c:=fun i c hi' hc=>by
    show t.e (en ((List.range m).map (fun i=>wrow (opG G) A k x (sk k i))) i c)=_
    unfold en
    rw [hrow i hi']
    exact (hent _ c (hsk i hi') hc).2
   have ec:∀ y c,c < cols→cmb (fe t ((List.range m).map (fun i=>wrow (opG G) A k x (sk k i)))) m y c=cmb (wo (fe t A) k x) m y c:=fun y c hc=>sm_congr fun i hi'=>by
    show y i * _=y i * _
    rw [ee i c hi' hc]
   exact ⟨fun y=>(hV.hy hx).ext _ _ (fun c hc=>(ec y c hc).symm) (hbw.mem y),fun v hv=>by
    obtain ⟨y,hy⟩:=hbw.gen v hv
    exact ⟨y,fun c hc=>(hy c hc).trans (ec y c hc).symm⟩,fun y hy=>hbw.ind y fun c hc=>(ec y c hc).symm.trans (hy c hc)⟩
 ·rw [if_neg hf]
  refine ⟨hw, ?_⟩
  have hz:∀ v,V v→v x=0:=fun v hv=>by
   obtain ⟨y,hy⟩:=hb.gen v hv
   rw [hy x hx]
   refine sm_eq_zero fun i hi=>?_
   show y i * t.e (en A i x)=0
   have:en A i x=0:=by
    by_cases g:i < fnd A x 0
    ·exact fnd_low (Nat.zero_le _) g
    ·exact en_out (by omega)
   rw [this,t.e_zero,mul_zero]
  exact ⟨fun y=>⟨hb.mem y,hz _ (hb.mem y)⟩,fun v hv=>hb.gen v hv.1,hb.ind⟩
def Vf {β:Type} [Fd β] (V:(Nat→β)→Prop) (T:Nat→Bool) (m x:Nat) (v:Nat→β):Prop:=V v∧∀ i,x≤i→i < x + m→T i=false→v i=0
theorem fw_bas (T:Nat→Bool) {cols:Nat}:∀ (m x:Nat) {A:List (List Int)} {V:(Nat→Rs t.fs.mon)→Prop},x + m≤cols→WF G.q A cols→Spc cols V→Bas (fe t A) A.length cols V →
  Bas (fe t (fw (opG G) T m x A)) (fw (opG G) T m x A).length cols (Vf V T m x)
 | 0,x,A,V,_,_,hV,hb=>by
  rw [fw]
  exact ⟨fun y=>⟨hb.mem y,fun i a b=>by omega⟩,fun v hv=>hb.gen v hv.1,hb.ind⟩
 | m + 1,x,A,V,hx,hw,hV,hb=>by
  rw [fw]
  cases e:T x with
  | true =>
   have h:=fw_bas T m (x + 1) (by omega) hw hV hb
   have e2:Vf V T m (x + 1)=Vf V T (m + 1) x:=funext fun v=>propext ⟨fun g=>⟨g.1,fun i a b c=>by
    by_cases g2:i=x
    ·rw [g2,e] at c;cases c
    ·exact g.2 i (by omega) (by omega) c⟩,fun g=>⟨g.1,fun i a b c=>g.2 i (by omega) (by omega) c⟩⟩
   rw [← e2]
   exact h
  | false =>
   obtain ⟨w1,w2⟩:=wth_bas t hw (by omega:x < cols) hV hb
   have h:=fw_bas T m (x + 1) (by omega) w1 (hV.hy (by omega)) w2
   have e2:Vf (Hy V x) T m (x + 1)=Vf V T (m + 1) x:=funext fun v=>propext ⟨fun g=>⟨g.1.1,fun i a b c=>by
    by_cases g2:i=x
    ·rw [g2];exact g.1.2
    ·exact g.2 i (by omega) (by omega) c⟩,fun g=>⟨⟨g.1,g.2 x (by omega) (by omega) e⟩,fun i a b c=>g.2 i (by omega) (by omega) c⟩⟩
   rw [← e2]
   exact h
def dmn (o:Op) (A:List (List Int)) (cols:Nat) (T:Nat→Bool):Nat:=(fw o T cols 0 A).length
theorem dmn_dim {A:List (List Int)} {cols:Nat} {P:List Nat} (h:Rf G.q A cols P) (T:Nat→Bool):Dim cols (VT (Sp t A cols) T cols) (dmn (opG G) A cols T):=by
 have hV:=spc_sp t A cols
 have hb:=fw_bas t T cols 0 (by omega) h.ri.w hV (rf_bas t h)
 have e:Vf (Sp t A cols) T cols 0=VT (Sp t A cols) T cols:=funext fun v=>propext ⟨fun g=>⟨g.1,fun i hi c=>g.2 i (Nat.zero_le _) (by omega) c⟩,fun g=>⟨g.1,fun i _ hi c=>g.2 i (by omega) c⟩⟩
 rw [e] at hb
 exact ⟨hV.vt T,_,hb⟩
end
/-! Sets as masks. -/
def mk (T:Nat→Bool):Nat→Nat
 | 0=>0
 | n + 1=>mk T n + if T n then 2 ^ n else 0
theorem mk_lt (T:Nat→Bool):∀ n,mk T n < 2 ^ n
 | 0=>Nat.one_pos
 | n + 1=>by
  have:=mk_lt T n
  rw [mk,Nat.pow_succ]
  split <;> omega
theorem mk_bit (T:Nat→Bool):∀ n i,i < n→(mk T n).testBit i=T i
 | 0,i,h=>by omega
 | n + 1,i,h=>by
  have h1:=mk_lt T n
  rw [mk]
  by_cases e:i=n
  ·subst e
   cases g:T i with
   | true =>
    rw [if_pos rfl,Nat.add_comm,Nat.testBit_two_pow_add_eq,Nat.testBit_lt_two_pow h1];rfl
   | false =>
    rw [if_neg (by simp),Nat.add_zero,Nat.testBit_lt_two_pow h1]
  ·have hi:i < n:=by omega
   cases g:T n with
   | true =>
    rw [if_pos rfl,Nat.add_comm,Nat.testBit_two_pow_add_gt hi]
    exact mk_bit T n i hi
   | false =>
    rw [if_neg (by simp),Nat.add_zero]
    exact mk_bit T n i hi
def pc (n M:Nat):Nat:=((List.range n).filter M.testBit).length
theorem pc_cF (M:Nat):∀ n,pc n M + cF M.testBit n=n
 | 0=>rfl
 | n + 1=>by
  have:=pc_cF M n
  unfold pc at this ⊢
  rw [List.range_succ,List.filter_append,List.length_append]
  show _ + ([n].filter M.testBit).length + (cF M.testBit n + if M.testBit n then 0 else 1)=n + 1
  cases e:M.testBit n with
  | true =>
   have:([n].filter M.testBit).length=1:=by simp [e]
   rw [this,if_pos rfl];omega
  | false =>
   have:([n].filter M.testBit).length=0:=by simp [e]
   rw [this,if_neg (by simp)];omega
theorem cF_congr {T S:Nat→Bool}:∀ {n:Nat},(∀ i,i < n→T i=S i)→cF T n=cF S n
 | 0,_=>rfl
 | n + 1,h=>by
  show cF T n + _=cF S n + _
  rw [cF_congr (T:=T) (S:=S) (n:=n) fun i hi=>h i (by omega),h n (by omega)]
def pf (n:Nat) (D:Nat→Nat):Nat→Nat→Nat
 | 0,_=>0
 | m + 1,i=>if i=pc n m then max (pf n D m i) (D m) else pf n D m i
theorem pf_ge {n:Nat} {D:Nat→Nat} {M:Nat}:∀ {m:Nat},M < m→D M≤pf n D m (pc n M)
 | 0,h=>by omega
 | m + 1,h=>by
  rw [pf]
  by_cases e:M=m
  ·subst e;simp;omega
  ·have:=pf_ge (n:=n) (D:=D) (M:=M) (m:=m) (by omega)
   split <;> omega
theorem pf_at {n:Nat} {D:Nat→Nat} {i:Nat}:∀ {m:Nat},0 < pf n D m i→∃ M,M < m∧pc n M=i∧D M=pf n D m i
 | 0,h=>by simp [pf] at h
 | m + 1,h=>by
  rw [pf] at h ⊢
  by_cases e:i=pc n m
  ·rw [if_pos e] at h ⊢
   by_cases g:pf n D m i≤D m
   ·exact ⟨m,by omega,e.symm,by rw [Nat.max_eq_right g]⟩
   ·rw [Nat.max_eq_left (by omega)]
    obtain ⟨M,a,b,c⟩:=pf_at (n:=n) (D:=D) (i:=i) (m:=m) (by omega)
    exact ⟨M,by omega,b,c⟩
  ·rw [if_neg e] at h ⊢
   obtain ⟨M,a,b,c⟩:=pf_at (n:=n) (D:=D) (i:=i) (m:=m) h
   exact ⟨M,by omega,b,c⟩
section
variable {G:GFd} (t:Tabs G)
theorem pf_pr {A:List (List Int)} {cols:Nat} {P:List Nat} (h:Rf G.q A cols P) {i:Nat} (hi:i≤cols):Pr cols (Sp t A cols) i (pf cols (fun M=>dmn (opG G) A cols M.testBit) (2 ^ cols) i):=by
 have hmask:∀ T:Nat→Bool,cF T cols + i=cols→∃ M,M < 2 ^ cols∧pc cols M=i∧∀ v,VT (Sp t A cols) T cols v ↔ VT (Sp t A cols) M.testBit cols v:=fun T hT=>by
  refine ⟨mk T cols,mk_lt T cols, ?_,fun v=>⟨fun g=>⟨g.1,fun j hj c=>g.2 j hj (by rw [← mk_bit T cols j hj];exact c)⟩,fun g=>⟨g.1,fun j hj c=>g.2 j hj (by rw [mk_bit T cols j hj];exact c)⟩⟩⟩
  have h1:=pc_cF (mk T cols) cols
  rw [cF_congr (T:=(mk T cols).testBit) (S:=T) (n:=cols) fun j hj=>mk_bit T cols j hj] at h1
  omega
 have hle:∀ T a,cF T cols + i=cols→Dim cols (VT (Sp t A cols) T cols) a→a≤pf cols (fun M=>dmn (opG G) A cols M.testBit) (2 ^ cols) i:=fun T a hT ha=>by
  obtain ⟨M,m1,m2,m3⟩:=hmask T hT
  have:=(ha.congr m3).eq (dmn_dim t h M.testBit)
  rw [this,← m2]
  exact pf_ge (D:=fun M=>dmn (opG G) A cols M.testBit) m1
 refine ⟨?_,hle⟩
 rcases Nat.eq_zero_or_pos (pf cols (fun M=>dmn (opG G) A cols M.testBit) (2 ^ cols) i) with e | e
 ·obtain ⟨a,ha⟩:=dim_ex ((spc_sp t A cols).vt (fun j=>decide (j < i)))
  have hc:∀ n,cF (fun j=>decide (j < i)) n + min n i=n:=by
   intro n
   induction n with
   | zero=>rfl
   | succ n ih =>
    show (cF (fun j=>decide (j < i)) n + if decide (n < i)=true then 0 else 1) + min (n + 1) i=n + 1
    by_cases g:n < i
    ·rw [if_pos (by simpa using g)];omega
    ·rw [if_neg (by simpa using g)];omega
  have hci:cF (fun j=>decide (j < i)) cols + i=cols:=by have:=hc cols;omega
  refine ⟨_,hci, ?_⟩
  have:=hle _ a hci ha
  rw [show pf cols (fun M=>dmn (opG G) A cols M.testBit) (2 ^ cols) i=a by omega]
  exact ha
 ·obtain ⟨M,m1,m2,m3⟩:=pf_at e
  exact ⟨M.testBit,by have:=pc_cF M cols;omega,by rw [← m3];exact dmn_dim t h M.testBit⟩
def prf' (o:Op) (A:List (List Int)) (cols:Nat):Nat→Nat:=pf cols (fun M=>dmn o A cols M.testBit) (2 ^ cols)
include t in
theorem prf_step {A:List (List Int)} {cols:Nat} {P:List Nat} (h:Rf G.q A cols P):prf' (opG G) A cols 0=0∧prf' (opG G) A cols cols=A.length∧∀ i,i < cols→prf' (opG G) A cols i≤prf' (opG G) A cols (i + 1)∧prf' (opG G) A cols (i + 1)≤prf' (opG G) A cols i + 1 :=
 ⟨pr_zero (pf_pr t h (Nat.zero_le _)),pr_all ⟨spc_sp t A cols,_,rf_bas t h⟩ (pf_pr t h (Nat.le_refl _)),fun _ hi=>pr_step (spc_sp t A cols) hi (pf_pr t h (by omega)) (pf_pr t h (by omega))⟩
def duaL (o:Op) (A:List (List Int)) (P:List Nat) (cols:Nat):List (List Int):=canL o (kerL o A P cols) cols
theorem dua_rf {A:List (List Int)} {cols:Nat} {P:List Nat} (h:Rf G.q A cols P):Rf G.q (duaL (opG G) A P cols) cols (pvL (opG G) (kerL (opG G) A P cols) cols)∧∀ v,Sp t (duaL (opG G) A P cols) cols v ↔ Du cols (Sp t A cols) v:=by
 obtain ⟨h1,_,h2⟩:=can_rf t (kerL_wf t h)
 exact ⟨h1,fun v=>(h2 v).symm.trans (ker_sp t h v)⟩
include t in
theorem prf_dual {A:List (List Int)} {cols:Nat} {P:List Nat} (h:Rf G.q A cols P):∀ i,i≤cols→prf' (opG G) (duaL (opG G) A P cols) cols i + A.length=i + prf' (opG G) A cols (cols - i):=fun i hi=>by
 obtain ⟨h1,h2⟩:=dua_rf t h
 have e:Sp t (duaL (opG G) A P cols) cols=Du cols (Sp t A cols):=funext fun v=>propext (h2 v)
 have g:=pf_pr t h1 hi
 rw [e] at g
 exact pr_dual ⟨spc_sp t A cols,_,rf_bas t h⟩ hi (pf_pr t h (by omega)) g
end
def wgt (p:Nat→Nat) (n K:Nat):List Nat:=(List.range K).map fun r=>((List.range (n + 1)).map p).findIdx (fun d=>decide (r + 1≤d))
def jps (p:Nat→Nat) (n:Nat):List Nat:=((List.range n).map (· + 1)).filter (jp p)
theorem wgt_jps {p:Nat→Nat} {n:Nat} (h0:p 0=0) (hm:∀ i,i < n→p i≤p (i + 1)∧p (i + 1)≤p i + 1):wgt p n (p n)=jps p n:=by
 have hl:=jumps_len h0 n hm
 refine List.ext_getElem? fun r=>?_
 by_cases hr:r < p n
 ·obtain ⟨j,j1,j2,j3,j4,j5⟩:=jumps_get h0 n hm r hr
  unfold jps
  rw [j1]
  unfold wgt
  rw [List.getElem?_map,List.getElem?_range hr]
  show some _=some j
  congr 1
  have hjl:j < ((List.range (n + 1)).map p).length:=by simp;omega
  refine (List.findIdx_eq hjl).2 ⟨?_,fun i hi=>?_⟩
  ·simp [j4]
  ·have:=j5 i hi
   simp
   omega
 ·rw [List.getElem?_eq_none (by simp [wgt];omega),List.getElem?_eq_none (by unfold jps;omega)]
def dlt (l:List Nat) (n:Nat):List Nat:=(((List.range n).map (fun i=>n - i)).filter (fun x=>decide (x ∉ l))).map (fun x=>n + 1 - x)
theorem mem_jps {p:Nat→Nat} {n x:Nat}:x ∈ jps p n ↔ 1≤x∧x≤n∧jp p x=true:=by
 unfold jps
 rw [List.mem_filter,List.mem_map]
 constructor
 ·rintro ⟨⟨i,hi,rfl⟩,h⟩
  have:=List.mem_range.1 hi
  exact ⟨by omega,by omega,h⟩
 ·rintro ⟨h1,h2,h3⟩
  exact ⟨⟨x - 1,List.mem_range.2 (by omega),by omega⟩,h3⟩
theorem dlt_jps {p q:Nat→Nat} {n k:Nat} (hm:∀ i,i < n→p i≤p (i + 1)∧p (i + 1)≤p i + 1) (hq:∀ i,i≤n→q i + k=i + p (n - i)):dlt (jps p n) n=jps q n:=by
 unfold dlt
 rw [show jps q n=((List.range n).map (· + 1)).filter (jp q) from rfl,← jumps_dual hm hq]
 congr 1
 refine List.filter_congr fun x hx=>?_
 obtain ⟨i,hi,rfl⟩:=List.mem_map.1 hx
 have:=List.mem_range.1 hi
 rw [Bool.eq_iff_iff]
 simp [mem_jps]
 omega
theorem jps_inc {p:Nat→Nat} {n:Nat}:∀ {i j:Nat},i < j→j < (jps p n).length→(jps p n).getD i 0 < (jps p n).getD j 0:=fun {i j} hij hj=>by
 have h:List.Pairwise (· < ·) (jps p n):=by
  unfold jps
  refine List.Pairwise.filter _ ?_
  rw [List.pairwise_map]
  exact List.Pairwise.imp (fun h=>by omega) (List.pairwise_lt_range (n:=n))
 have:=List.pairwise_iff_getElem.1 h i j (by omega) hj hij
 simpa [List.getD,hj,show i < (jps p n).length by omega] using this
theorem wei {G:GFd} (t:Tabs G) {A:List (List Int)} {cols:Nat} {P:List Nat} (h:Rf G.q A cols P) :
  dlt (wgt (prf' (opG G) A cols) cols A.length) cols=wgt (prf' (opG G) (duaL (opG G) A P cols) cols) cols (duaL (opG G) A P cols).length:=by
 obtain ⟨a1,a2,a3⟩:=prf_step t h
 obtain ⟨b1,b2,b3⟩:=prf_step t (dua_rf t h).1
 have e1:=wgt_jps a1 a3
 have e2:=wgt_jps b1 b3
 rw [a2] at e1
 rw [b2] at e2
 rw [e1,e2,dlt_jps a3 (prf_dual t h)]
end Gj
end Cw
namespace Cw
namespace Gj
open Rg Fd
theorem inv_val {G:GFd} (t:Tabs G) (x a:Int) (ha:0≤a∧a < G.q) (h:mulG G a x=1):invG G x=a:=by
 have hx:inn G.q x ≠ 0:=fun e=>by
  have:mulG G a x=0:=if_pos (.inr e)
  rw [this] at h
  cases h
 obtain ⟨h1,h2,h3⟩:=inv_bd t x hx
 refine t.e_eq ⟨h1,h2⟩ ha ?_
 have h4:t.e a * t.e x=1:=by rw [← t.e_mul,h,t.e_one]
 have hx0:t.e x ≠ 0:=fun e=>by rw [e,mul_zero] at h4;exact Fd.one_ne h4.symm
 exact Fd.mul_right_cancel hx0 (h3.trans h4.symm)
theorem opG_eq {G H:GFd} (t:Tabs G) (s:Tabs H) (h1:G.P=H.P) (h2:G.M=H.M) (h3:G.mod=H.mod):opG G=opG H:=by
 have hq:G.q=H.q:=by rw [t.hq,s.hq,h1,h2]
 have hm:∀ x y,mulG G x y=mulG H x y:=fun x y=>by rw [t.mul_mulS,s.mul_mulS,h1,h2,h3,hq]
 unfold opG
 have e1:addG G=addG H:=funext fun x=>funext fun y=>by unfold addG;rw [h1,h2,hq]
 have e2:mulG G=mulG H:=funext fun x=>funext fun y=>hm x y
 have e3:negG G=negG H:=funext fun x=>by unfold negG;rw [h1,h2,hq]
 have e4:invG G=invG H:=funext fun x=>by
  by_cases hx:inn G.q x=0
  ·unfold invG;rw [if_pos hx,if_pos (by rw [← hq];exact hx)]
  ·have hx':inn H.q x ≠ 0:=by rw [← hq];exact hx
   obtain ⟨b1,b2,b3⟩:=inv_bd s x hx'
   refine inv_val t x _ (by rw [hq];exact ⟨b1,b2⟩) ?_
   rw [hm]
   refine s.e_eq (s.mul_bd _ _) ⟨by omega,by have:=q2 s;omega⟩ ?_
   rw [s.e_mul,b3,s.e_one]
 rw [e1,e2,e3,e4]
def op2:Op:=⟨fun x y=>(inn 2 x + inn 2 y) % 2,fun x y=>inn 2 x * inn 2 y,fun x=>inn 2 x,fun x=>inn 2 x⟩
theorem op_two {G:GFd} (t:Tabs G) (h1:G.P=2) (h2:G.M=1):opG G=op2:=by
 have hq:G.q=2:=by
  have:=t.qb
  obtain ⟨_,_,_,_,_,_,h⟩:=this
  rw [h,h1,h2];rfl
 have hin:∀ x:Int,inn 2 x=0 ∨ inn 2 x=1:=fun x=>by
  have:=inn_bd (q:=2) (by decide) x
  omega
 have e0:∀ x,t.e x=t.e (inn 2 x):=fun x=>by rw [← hq,t.e_inn]
 have hadd:∀ x y,addG G x y=(inn 2 x + inn 2 y) % 2:=fun x y=>by
  unfold addG
  rw [hq,h1,h2]
  rcases hin x with hx | hx <;> rcases hin y with hy | hy <;> rw [hx,hy] <;> decide
 have hneg:∀ x,negG G x=inn 2 x:=fun x=>by
  unfold negG
  rw [hq,h1,h2]
  rcases hin x with hx | hx <;> rw [hx] <;> decide
 have hmul:∀ x y,mulG G x y=inn 2 x * inn 2 y:=fun x y=>by
  refine t.e_eq (t.mul_bd _ _) (by rw [hq];rcases hin x with hx | hx <;> rcases hin y with hy | hy <;> rw [hx,hy] <;> decide) ?_
  rw [t.e_mul,e0 x,e0 y]
  rcases hin x with hx | hx <;> rcases hin y with hy | hy <;> rw [hx,hy]
  ·show t.e 0 * t.e 0=t.e 0;rw [t.e_zero,mul_zero]
  ·show t.e 0 * t.e 1=t.e 0;rw [t.e_zero,zero_mul]
  ·show t.e 1 * t.e 0=t.e 0;rw [t.e_zero,mul_zero]
  ·show t.e 1 * t.e 1=t.e 1;rw [t.e_one,mul_one]
 have hinv:∀ x,invG G x=inn 2 x:=fun x=>by
  rcases hin x with hx | hx
  ·unfold invG;rw [hq,hx];rfl
  ·rw [hx]
   refine inv_val t x 1 (by rw [hq];decide) ?_
   rw [hmul,hx];decide
 unfold opG op2
 rw [show addG G=_ from funext fun x=>funext (hadd x),show mulG G=_ from funext fun x=>funext (hmul x),show negG G=_ from funext hneg,show invG G=_ from funext hinv]
end Gj
end Cw
