/- Lemmas on the way to the row. Conditions: each lemma's own, stated with it. -/
import Derived.Test.YtoilbeadokallaaGreatDoorK02
import Derived.Test.YtoilbeadokallaaGreatDoorK04
import Derived.Test.YtoilbeadokallaaGreatDoorK05
import Derived.Test.YtoilbeadokallaaGreatDoorK06
import Derived.Deep.RegionHeld3
import Derived.Lib.QuietBelow
import Derived.BigQuiet
set_option maxHeartbeats 1000000
namespace Cw
structure Op where
 add:Int->Int->Int
 mul:Int->Int->Int
 neg:Int->Int
 inv:Int->Int
def opG (G:GFd):Op:=⟨gu G,bF G,iE G,fG G⟩
namespace Gj
def row (A:List (List Int)) (i:Nat):List Int:=A.getD i []
def en (A:List (List Int)) (i k:Nat):Int:=(row A i).getD k 0
def iP (o:Op) (a:Int) (u v:List Int):List Int:=(List.range v.length).map fun k=>if u.getD k 0=0 then v.getD k 0 else o.add (v.getD k 0) (o.mul a (u.getD k 0))
def OL (o:Op) (a:Int) (u:List Int):List Int:=if a=1 then u else u.map (o.mul a)
def dS (A:List (List Int)) (r p:Nat):List (List Int):=(List.range A.length).map fun i=>row A (if i=r then p else if i=p then r else i)
def agI (o:Op) (A:List (List Int)) (r c:Nat) (u:List Int):List (List Int):=
 (List.range A.length).map fun i=>if i=r then u else if en A i c=0 then row A i else iP o (o.neg (en A i c)) u (row A i)
def II (o:Op) (A:List (List Int)) (r p c:Nat):List (List Int):=agI o (dS A r p) r c (OL o (o.inv (en (dS A r p) r c)) (row (dS A r p) r))
def nz (c:Nat) (l:List Int):Bool:=l.getD c 0 != 0
def fnd (A:List (List Int)) (c r:Nat):Nat:=r+(A.drop r).findIdx (nz c)
def gj (o:Op):Nat->Nat->List (List Int)->List Nat->List (List Int) ×List Nat
 |0,_,A,P=>(A,P)
 |m+1,c,A,P=>if fnd A c P.length<A.length then gj o m (c+1) (II o A P.length (fnd A c P.length) c) (P++ [c]) else gj o m (c+1) A P
def oQ (o:Op) (A:List (List Int)) (cols:Nat):List (List Int):=((gj o cols 0 A []).1).take (gj o cols 0 A []).2.length
def pvL (o:Op) (A:List (List Int)) (cols:Nat):List Nat:=(gj o cols 0 A []).2
theorem getD_map {β:Type} (f:Nat->β) (n i:Nat) (d:β):((List.range n).map f).getD i d=if i<n then f i else d:=by
 by_cases h:i<n
 ·rw[zu h];simp[List.getD,h]
 ·rw[zx h];simp[List.getD,h]
theorem Cj {f:Nat->List Int} {n i:Nat} (h:i<n):row ((List.range n).map f) i=f i:=by unfold row;rw[getD_map,zu h]
theorem Kv {A:List (List Int)} {i:Nat} (h:A.length<=i):row A i=[]:=by unfold row;simp[List.getD,h]
theorem aeK {A:List (List Int)} {i k:Nat} (h:A.length<=i):en A i k=0:=by unfold en;rw[Kv h];simp
theorem dR (o:Op) (a:Int) (u v:List Int):(iP o a u v).length=v.length:=by simp[iP]
theorem qo {o:Op} {a:Int} {u v:List Int} {k:Nat} (h:k<v.length):(iP o a u v).getD k 0=if u.getD k 0=0 then v.getD k 0 else o.add (v.getD k 0) (o.mul a (u.getD k 0)):=by
 unfold iP;rw[getD_map,zu h]
theorem qp (o:Op) (a:Int) (u:List Int):(OL o a u).length=u.length:=by unfold OL;split<;>simp
theorem Sv {o:Op} {a:Int} {u:List Int} {k:Nat} (h:k<u.length):(OL o a u).getD k 0=if a=1 then u.getD k 0 else o.mul a (u.getD k 0):=by
 unfold OL
 split
 ·rfl
 ·simp[List.getD,h]
theorem aT (A:List (List Int)) (r p:Nat):(dS A r p).length=A.length:=by simp[dS]
theorem jX {A:List (List Int)} {r p i:Nat} (h:i<A.length):row (dS A r p) i=row A (if i=r then p else if i=p then r else i):=Cj h
theorem qA (o:Op) (A:List (List Int)) (r c:Nat) (u:List Int):(agI o A r c u).length=A.length:=by simp[agI]
theorem FP {o:Op} {A:List (List Int)} {r c:Nat} {u:List Int} {i:Nat} (h:i<A.length):row (agI o A r c u) i=if i=r then u else if en A i c=0 then row A i else iP o (o.neg (en A i c)) u (row A i):=Cj h
theorem lS (o:Op) (A:List (List Int)) (r p c:Nat):(II o A r p c).length=A.length:=by rw[II,qA,aT]
theorem EF (A:List (List Int)) (c r:Nat):r<=fnd A c r:=Nat.le_add_right _ _
theorem row_drop (A:List (List Int)) (r i:Nat):row (A.drop r) i=row A (r+i):=by unfold row;simp[List.getD]
theorem ZY {A:List (List Int)} {c r j:Nat} (h:j< (A.drop r).length):nz c (A.drop r)[j]=(en A (r+j) c != 0):=by
 have e:row (A.drop r) j=(A.drop r)[j]:=by unfold row;rw[List.getD,zq h];rfl
 rw[<-e,row_drop];rfl
theorem Kw {A:List (List Int)} {c r i:Nat} (h1:r<=i) (h2:i<fnd A c r):en A i c=0:=by
 obtain⟨j,rfl⟩:=wU h1;by_cases hl:r+j<A.length
 ·have h3:j< (A.drop r).findIdx (nz c):=by unfold fnd at h2;omega
  have h4:=List.not_of_lt_findIdx h3;rw[ZY] at h4;simpa using h4
 ·exact aeK (by omega)
theorem y8 {A:List (List Int)} {c r:Nat} (h:fnd A c r<A.length):en A (fnd A c r) c≠0:=by
 have h3:(A.drop r).findIdx (nz c)< (A.drop r).length:=by
  unfold fnd at h;rw[List.length_drop];omega
 have h4:=List.findIdx_getElem (w:=h3);rw[ZY] at h4;unfold fnd;simpa using h4
theorem Nq {A:List (List Int)} {c r k:Nat} (h1:r<=k) (hk:k<=A.length) (h2:∀ i,r<=i->i<k->en A i c=0) (h3:k<A.length->en A k c≠0) (_hr:r<=A.length):(fnd A c r<A.length↔k<A.length)/\(k<A.length->fnd A c r=k):=by
 have hge:=EF A c r;by_cases hl:k<A.length
 ·have e:fnd A c r=k:=by
   rcases xX (fnd A c r) k with g|g|g
   ·exact absurd (h2 _ hge g) (y8 (by omega))
   ·exact g
   ·exact absurd (Kw h1 g) (h3 hl)
  exact⟨by rw[e],fun _=>e⟩
 ·refine⟨⟨fun h=>absurd (h2 _ hge (by omega)) (y8 h),fun h=>absurd h hl⟩,fun h=>absurd h hl⟩
structure RI (q:Int) (A:List (List Int)) (cols c:Nat) (P:List Nat):Prop where
 wf:∀ i,i<A.length->(row A i).length=cols
 bd:∀ i k,i<A.length->k<cols->0<=en A i k/\en A i k<q
 lt:P.length<=A.length
 pc:∀ i,i<P.length->P.getD i 0<c
 inc:∀ i j,i<j->j<P.length->P.getD i 0<P.getD j 0
 one:∀ i,i<P.length->en A i (P.getD i 0)=1
 zer:∀ i j,i<P.length->j<A.length->j≠i->en A j (P.getD i 0)=0
 low:∀ i k,i<P.length->k<P.getD i 0->en A i k=0
 out:∀ i k,P.length<=i->i<A.length->k<c->en A i k=0
structure WF (q:Int) (A:List (List Int)) (cols:Nat):Prop where
 wf:∀ i,i<A.length->(row A i).length=cols
 bd:∀ i k,i<A.length->k<cols->0<=en A i k/\en A i k<q
theorem RI.w {q:Int} {A:List (List Int)} {cols c:Nat} {P:List Nat} (h:RI q A cols c P):WF q A cols:=⟨h.wf,h.bd⟩
theorem jC {q:Int} {A:List (List Int)} {cols:Nat} (h:WF q A cols):RI q A cols 0 []:=
 ⟨h.wf,h.bd,xZ _,fun _ h=>absurd h (yw _),fun _ _ _ h=>absurd h (yw _),fun _ h=>absurd h (yw _),fun _ _ h=>absurd h (yw _),fun _ _ h=>absurd h (yw _),fun _ _ _ _ h=>absurd h (yw _)⟩
theorem RI.none {q:Int} {A:List (List Int)} {cols c:Nat} {P:List Nat} (h:RI q A cols c P) (hn:¬ fnd A c P.length<A.length):RI q A cols (c+1) P:=
 ⟨h.wf,h.bd,h.lt,fun i hi=>Nat.lt_succ_of_lt (h.pc i hi),h.inc,h.one,h.zer,h.low,fun i k h1 h2 h3=>by
  by_cases e:k=c
  ·rw[e];exact Kw h1 (by omega)
  ·exact h.out i k h1 h2 (by omega)⟩
theorem kT {P:List Nat} {c i:Nat}:(P++ [c]).getD i 0=if i<P.length then P.getD i 0 else if i=P.length then c else 0:=by
 by_cases h:i<P.length
 ·rw[zu h,List.getD,List.getD,yU h]
 ·rw[zx h];by_cases e:i=P.length
  ·rw[zu e,e];simp[List.getD]
  ·rw[zx e];have:(P++ [c]).length<=i:=by simp;omega
   simp[List.getD,zT this]
section
variable {G:GFd} (t:aK G)
theorem qQ (x:Int) (hx:inn G.q x≠0):0<=fG G x/\fG G x<G.q/\t.e (fG G x)*t.e x=1:=by
 unfold fG;rw[zx hx];have h1:=t.Iy (G.q-1-qK G (inn G.q x));obtain⟨g,g1,g2,g3⟩:=t.OC;obtain⟨l1,l2,l3⟩:=g3 x hx;refine⟨h1.1,h1.2.1, ?_⟩;rw[g2 _ (by omega),l3,<-Rg.kK,show(G.q-1-qK G (inn G.q x)).toNat+(qK G (inn G.q x)).toNat=G.q.toNat-1 by omega,g1]
theorem abt {x:Int} (h:0<=x/\x<G.q) (h0:x≠0):t.e x≠0:=fun e=>h0 (by have:=t.Wp.1 e;rwa [bI h] at this)
theorem OM {x:Int} (h:0<=x/\x<G.q) (e:t.e x=0):x=0:=by have:=t.Wp.1 e;rwa [bI h] at this
theorem q2 (t:aK G):2<=G.q:=by have:=t.qb;omega
theorem Sz {x:Int} (h:0<=x/\x<G.q) (e:t.e x=1):x=1:=t.Iw h ⟨by omega,by have:=q2 t;omega⟩ (e.trans t.iH.symm)
structure PS' (A B:List (List Int)) (cols r p c:Nat):Prop where
 len:B.length=A.length
 wf:WF G.q B cols
 top:∀ k,k<cols->t.e (en B r k)=Fd.inv (t.e (en A p c))*t.e (en A p k)
 oth:∀ i k,i<A.length->i≠r->k<cols->t.e (en B i k)=t.e (en (dS A r p) i k)-t.e (en (dS A r p) i c)*t.e (en B r k)
 keep:∀ i k,i<A.length->i≠r->k<cols->en A p k=0->en B i k=en (dS A r p) i k
theorem ji {A:List (List Int)} {r p i k:Nat} (h:i<A.length):en (dS A r p) i k=en A (if i=r then p else if i=p then r else i) k:=by unfold en;rw[jX h]
theorem Aq {A:List (List Int)} {r p i:Nat} (hr:r<A.length) (hp:p<A.length) (h:i<A.length):(if i=r then p else if i=p then r else i)<A.length:=by
 split
 ·exact hp
 ·split
  ·exact hr
  ·exact h
theorem SA {A:List (List Int)} {cols r p c:Nat} (h:WF G.q A cols) (hr:r<A.length) (hp:p<A.length) (hc:c<cols) (h0:en A p c≠0):PS' t A (II (opG G) A r p c) cols r p c:=by
 have hS:∀ i,i<A.length->(row (dS A r p) i).length=cols:=fun i hi=>by rw[jX hi];exact h.wf _ (Aq hr hp hi)
 have hSb:∀ i k,i<A.length->k<cols->0<=en (dS A r p) i k/\en (dS A r p) i k<G.q:=fun i k hi hk=>by rw[ji hi];exact h.bd _ _ (Aq hr hp hi) hk
 have er:∀ k,en (dS A r p) r k=en A p k:=fun k=>by rw[ji hr,zu rfl]
 have hpb:=h.bd p c hp hc;have hin:inn G.q (en A p c)≠0:=by rw[bI hpb];exact h0
 have hi:=qQ t _ hin;obtain⟨u,hu⟩:∃ u,u=OL (opG G) ((opG G).inv (en (dS A r p) r c)) (row (dS A r p) r):=⟨_,rfl⟩
 have hul:u.length=cols:=by rw[hu,qp,hS r hr]
 have hue:∀ k,k<cols->(0<=u.getD k 0/\u.getD k 0<G.q)/\t.e (u.getD k 0)=Fd.inv (t.e (en A p c))*t.e (en A p k)/\(en A p k=0->u.getD k 0=0):=fun k hk=>by
  have e1:u.getD k 0=if fG G (en A p c)=1 then en A p k else bF G (fG G (en A p c)) (en A p k):=by
   rw[hu,Sv (by rw[hS r hr];exact hk),er c];show(if fG G (en A p c)=1 then en (dS A r p) r k else bF G (fG G (en A p c)) (en (dS A r p) r k))=_;rw[er k]
  have e2:Fd.inv (t.e (en A p c))=t.e (fG G (en A p c)):=(Fd.oM (by rw[Rg.mul_comm];exact hi.2.2)).symm;by_cases h1:fG G (en A p c)=1
  ·rw[zu h1] at e1;rw[e1,e2,h1,t.iH,Rg.one_mul];exact⟨h.bd p k hp hk,rfl,fun z=>z⟩
  ·rw[zx h1] at e1;refine⟨by rw[e1];exact t.eY _ _,by rw[e1,e2,t.fQ],fun z=>?_⟩;rw[e1,z];refine OM t (t.eY _ _) ?_;rw[t.fQ,t.bC,Rg.mul_zero]
 have hrow:∀ i,i<A.length->row (II (opG G) A r p c) i=if i=r then u else if en (dS A r p) i c=0 then row (dS A r p) i else iP (opG G) ((opG G).neg (en (dS A r p) i c)) u (row (dS A r p) i):=fun i hi=>by
  rw[hu];exact FP (by rw[aT];exact hi)
 have hB:∀ i k,i<A.length->i≠r->k<cols->en (II (opG G) A r p c) i k=if en (dS A r p) i c=0 then en (dS A r p) i k else if u.getD k 0=0 then en (dS A r p) i k else gu G (en (dS A r p) i k) (bF G (iE G (en (dS A r p) i c)) (u.getD k 0)):=fun i k hi hir hk=>by
  unfold en;rw[hrow i hi,zx hir];by_cases e:en (dS A r p) i c=0
  ·rw[zu e];have e':=e;unfold en at e';rw[zu e']
  ·rw[zx e,qo (by rw[hS i hi];exact hk)];have e':=e;unfold en at e';rw[zx e'];rfl
 have hBr:∀ k,en (II (opG G) A r p c) r k=u.getD k 0:=fun k=>by unfold en;rw[hrow r hr,zu rfl]
 refine⟨lS _ _ _ _ _,⟨fun i hi=>?_,fun i k hi hk=>?_⟩,fun k hk=>?_,fun i k hi hir hk=>?_,fun i k hi hir hk z=>?_⟩
 ·rw[lS] at hi;rw[hrow i hi]
  split
  ·exact hul
  ·split
   ·exact hS i hi
   ·rw[dR];exact hS i hi
 ·rw[lS] at hi;by_cases hir:i=r
  ·rw[hir,hBr];exact(hue k hk).1
  ·rw[hB i k hi hir hk]
   split
   ·exact hSb i k hi hk
   ·split
    ·exact hSb i k hi hk
    ·exact t.jv _ _
 ·rw[hBr];exact(hue k hk).2.1
 ·rw[hBr,hB i k hi hir hk];by_cases z:en (dS A r p) i c=0
  ·rw[zu z,z,t.bC,Rg.zero_mul,Rg.sub_zero]
  ·rw[zx z];by_cases z2:u.getD k 0=0
   ·rw[zu z2,z2,t.bC,Rg.mul_zero,Rg.sub_zero]
   ·rw[zx z2,t.nX,t.fQ,t.OB,Rg.neg_mul,<-Rg.sub_def]
 ·rw[hB i k hi hir hk,zu ((hue k hk).2.2 z)]
  split<;>rfl
theorem RI.step (t:aK G) {A:List (List Int)} {cols c:Nat} {P:List Nat} (h:RI G.q A cols c P) (hc:c<cols) (hf:fnd A c P.length<A.length):
  RI G.q (II (opG G) A P.length (fnd A c P.length) c) cols (c+1) (P++ [c]):=by
 obtain⟨p,hp⟩:∃ p,p=fnd A c P.length:=⟨_,rfl⟩
 have hge:P.length<=p:=by rw[hp];exact EF _ _ _
 have h0:en A p c≠0:=by rw[hp];exact y8 hf
 have hmid:∀ i,P.length<=i->i<p->en A i c=0:=fun i h1 h2=>by rw[hp] at h2;exact Kw h1 h2
 rw[<-hp] at hf ⊢;have hr:P.length<A.length:=by omega
 have ps:=SA t h.w hr hf hc h0;obtain⟨B,hB⟩:∃ B,B=II (opG G) A P.length p c:=⟨_,rfl⟩
 rw[<-hB] at ps ⊢;have hlow:∀ k,k<c->en A p k=0:=fun k hk=>h.out p k hge hf hk;have eS:∀ i k,i<A.length->k<c->en (dS A P.length p) i k=en A i k:=fun i k hi hk=>by
  rw[ji hi]
  split
  ·rename_i e;rw[e,h.out _ k (zy _) hr hk];exact hlow k hk
  ·split
   ·rename_i e1 e;rw[e,h.out _ k (zy _) hr hk,hlow k hk]
   ·rfl
 have old:∀ i k,i<A.length->i≠P.length->k<c->en B i k=en A i k:=fun i k hi hir hk=>by
  rw[ps.keep i k hi hir (by omega) (hlow k hk),eS i k hi hk]
 have ajg:∀ k,k<c->en B P.length k=0:=fun k hk=>by
  refine OM t (ps.wf.bd _ _ (by rw[ps.len];exact hr) (by omega)) ?_;rw[ps.top k (by omega),hlow k hk,t.bC,Rg.mul_zero]
 have one1:en B P.length c=1:=by
  refine Sz t (ps.wf.bd _ _ (by rw[ps.len];exact hr) hc) ?_;rw[ps.top c hc,Fd.inv_mul (abt t (h.bd _ _ hf hc) h0)]
 have ajh:∀ i,i<A.length->i≠P.length->en B i c=0:=fun i hi hir=>by
  refine OM t (ps.wf.bd _ _ (by rw[ps.len];exact hi) hc) ?_;rw[ps.oth i c hi hir hc,one1,t.iH,Rg.mul_one,Rg.sub_self]
 refine⟨ps.wf.wf,ps.wf.bd,by rw[ps.len];simp;omega,fun i hi=>?_,fun i j hij hj=>?_,fun i hi=>?_,fun i j hi hj hne=>?_,fun i k hi hk=>?_,fun i k h1 h2 hk=>?_⟩
 ·rw[kT]
  split
  ·have:=h.pc i (by assumption);omega
  ·split<;>omega
 ·have hj':j<P.length+1:=by simpa using hj
  rw[kT,kT,zu (by omega)];by_cases e:j<P.length
  ·rw[zu e];exact h.inc i j hij e
  ·rw[zx e,zu (by omega)];exact h.pc i (by omega)
 ·have hi':i<P.length+1:=by simpa using hi
  rw[kT];by_cases e:i<P.length
  ·rw[zu e,old i _ (by omega) (by omega) (h.pc i e)];exact h.one i e
  ·rw[zx e,zu (by omega),show i=P.length by omega];exact one1
 ·have hi':i<P.length+1:=by simpa using hi
  rw[ps.len] at hj;rw[kT];by_cases e:i<P.length
  ·rw[zu e];by_cases ej:j=P.length
   ·rw[ej];exact ajg _ (h.pc i e)
   ·rw[old j _ hj ej (h.pc i e)];exact h.zer i j e hj hne
  ·rw[zx e,zu (by omega)];exact ajh j hj (by omega)
 ·have hi':i<P.length+1:=by simpa using hi
  rw[kT] at hk;by_cases e:i<P.length
  ·rw[zu e] at hk;rw[old i k (by omega) (by omega) (by have:=h.pc i e;omega)];exact h.low i k e hk
  ·rw[zx e,zu (by omega)] at hk;rw[show i=P.length by omega];exact ajg k hk
 ·have h1':P.length+1<=i:=by simpa using h1
  rw[ps.len] at h2;by_cases e:k=c
  ·rw[e];exact ajh i h2 (by omega)
  ·rw[old i k h2 (by omega) (by omega)];exact h.out i k (by omega) h2 (by omega)
def Sp (A:List (List Int)) (cols:Nat) (v:Nat->Rs t.fs.mon):Prop:=∃ y,∀ k,k<cols->v k=Dm.cmb (fun i k=>t.e (en A i k)) A.length y k
end
end Gj
end Cw
namespace Go.Proofs.YtoilbeadokallaaGreatDoor
section
open Go.RowKit Cw Cw.Gj
theorem Tryz.infoSl:(Tryz.prog.info? 22).map (fun i=>(i.zero,i.size,i.bytes))=some (some (.slice none 0 0),1,24):=by kernel_rfl
def Rd (w:World) (v:Value) (A:List (List Int)):Prop:=
 ∃ (a:Option Addr) (cap:Nat),v=.slice a A.length cap/\A.length<=cap/\(cap<=maxLen/\(a=none->cap=0))/\
  (A≠ []->∃ b off,a=some ⟨b,off,none⟩/\b<w.heap.size/\∀ i,i<A.length->∃ u,w.cell? ⟨b,off+i,none⟩=some u/\Sl w u (row A i))
theorem Rd.kept {w w':World} {v:Value} {A:List (List Int)} (h:Rd w v A) (k:ay w w'):Rd w' v A:=by
 obtain⟨a,cap,h1,h2,h3,h4⟩:=h;refine⟨a,cap,h1,h2,h3,fun hx=>?_⟩;obtain⟨b,off,e,hb,hc⟩:=h4 hx;exact⟨b,off,e,k.lt hb,fun i hi=>by
  obtain⟨u,u1,u2⟩:=hc i hi;exact⟨u,(k.cell' hb).trans u1,u2.kept k⟩⟩
theorem aeL (w:World):Rd w (.slice none 0 0) []:=⟨none,0,rfl,zy _,⟨xZ _,fun _=>rfl⟩,fun h=>absurd rfl h⟩
structure Mx (w:World) (B:Nat) (v:Value) (A:List (List Int)) (rv:Nat->Value):Prop where
 out:w.ownsRow B 22 1 v A.length ((List.range A.length).map rv)
 row:∀ i,i<A.length->Own w B (rv i) (row A i)
 dis:∀ i k,i<A.length->k<A.length->i≠k->∀ g,(rv i).ownBlock=some g->(rv k).ownBlock≠some g
def Has (v:Value) (rv:Nat->Value) (n g:Nat):Prop:=v.ownBlock=some g∨ ∃ i,i<n/\(rv i).ownBlock=some g
theorem aN {w:World} {B g:Nat} {v:Value} {xs:List Int} (h:Own w B v xs) (e:v.ownBlock=some g):B<=g/\g<w.heap.size:=World.ownsRow.lt h g e
theorem row_ne {w:World} {B B' m g:Nat} {v x:Value} {rs:List Value} {xs:List Int} (h:w.ownsRow B 22 1 v m rs) (k:Own w B' x xs) (hx:x.ownBlock=some g):v.ownBlock≠some g:=fun e=>by
 obtain⟨_,h|⟨g1,_,c1,rfl,_,hg,_⟩⟩:=h
 ·rw[h.1] at e;cases e
 ·obtain⟨_,k|⟨g2,_,c2,rfl,_,hg',_⟩⟩:=k
  ·rw[k.1] at hx;cases hx
  ·have e1:g1=g:=by simpa[Value.ownBlock] using e
   have e2:g2=g:=by simpa[Value.ownBlock] using hx
   rw[e1] at hg;rw[e2,hg] at hg';simp at hg'
theorem Own.grownBy {w w':World} {B:Nat} {v:Value} {xs:List Int} {x:Option Nat} (h:Own w B v xs) (hg:w.grownBy w' x) (hx:v.ownBlock=none∨v.ownBlock≠x):Own w' B v xs:=World.ownsRow.kept h hg hx
theorem qR (w:World) (B:Nat):Mx w B (.slice none 0 0) [] (fun _=>.slice none 0 0):=⟨⟨rfl,.inl ⟨rfl,rfl⟩⟩,fun _ h=>absurd h (yw _),fun _ _ h=>absurd h (yw _)⟩
section
variable {w w':World} {B:Nat} {v:Value} {A:List (List Int)} {rv:Nat->Value}
theorem Mx.has_lt (h:Mx w B v A rv) {g:Nat} (hg:Has v rv A.length g):B<=g/\g<w.heap.size:=by
 rcases hg with e|⟨i,hi,e⟩
 ·exact World.ownsRow.lt h.out g e
 ·exact aN (h.row i hi) e
theorem Mx.grown (h:Mx w B v A rv) {x:Nat} (hg:w.grownBy w' (some x)) (hx:¬ Has v rv A.length x):Mx w' B v A rv:=
 ⟨World.ownsRow.kept h.out hg (.inr fun e=>hx (.inl e)),fun i hi=>(h.row i hi).grownBy hg (.inr fun e=>hx (.inr ⟨i,hi,e⟩)),h.dis⟩
theorem Mx.kept (h:Mx w B v A rv) (k:ay w w'):Mx w' B v A rv:=by
 have hg:w.grownBy w' (some w.heap.size):=⟨k.os,k.tape,k.output,k.size,fun i hi _=>k.block i hi⟩
 exact h.grown hg fun e=>by have:=h.has_lt e;omega
theorem Mx.mono (h:Mx w B v A rv) {B':Nat} (hB:B'<=B):Mx w B' v A rv:=by
 refine⟨?_,fun i hi=>(h.row i hi).mono hB,h.dis⟩;obtain⟨h1,h2⟩:=h.out;rcases h2 with h2|⟨g,cap,cur,e,hb,r⟩
 ·exact⟨h1,.inl h2⟩
 ·exact⟨h1,.inr ⟨g,cap,cur,e,zJ hB hb,r⟩⟩
theorem Mx.form (h:Mx w B v A rv):(v=.slice none 0 0/\A=[])∨ ∃ g cap,v=.slice (some ⟨g,0,none⟩) A.length cap/\B<=g/\g<w.heap.size/\A.length<=cap/\cap<=maxLen:=by
 obtain⟨h1,h2⟩:=h.out;rcases h2 with⟨e,h0⟩|⟨g,cap,cur,e,hb,hg,h3,h4,_⟩
 ·exact .inl ⟨e,zO h0⟩
 ·exact .inr ⟨g,cap,e,hb,(zL.1 hg).1,h3,h4⟩
theorem Mx.cell {g n cap:Nat} (h:Mx w B (.slice (some ⟨g,0,none⟩) n cap) A rv) {i:Nat} (hi:i<A.length):w.cell? ⟨g,i,none⟩=some (rv i):=by
 have hn:n=A.length:=by
  rcases h.form with⟨e,_⟩|⟨_,_,e,_⟩
  ·cases e
  ·cases e;rfl
 subst hn;have:=World.ownsRow.cellAt h.out i (by omega);rw[this];simp[hi]
theorem Mx.frozen {g n cap:Nat} (h:Mx w B (.slice (some ⟨g,0,none⟩) n cap) A rv) (i:Nat):w.frozen? ⟨g,i,none⟩=false:=by
 have hn:n=A.length:=by
  rcases h.form with⟨e,_⟩|⟨_,_,e,_⟩
  ·cases e
  ·cases e;rfl
 subst hn;exact World.ownsRow.frozenAt h.out i
theorem Mx.get (h:Mx w B v A rv) (hA:A≠ []):∃ g cap,v=.slice (some ⟨g,0,none⟩) A.length cap/\B<=g/\g<w.heap.size/\A.length<=cap/\cap<=maxLen:=by
 rcases h.form with⟨_,e⟩|e
 ·exact absurd e hA
 ·exact e
theorem Mx.og (h:Mx w B v A rv) {i:Nat} (hi:i<A.length) (hr:Gj.row A i≠ []):∃ b cp,rv i=.slice (some ⟨b,0,none⟩) (Gj.row A i).length cp/\B<=b/\b<w.heap.size/\(Gj.row A i).length<=cp/\cp<=maxLen:=by
 rcases (h.row i hi).form with⟨_,e⟩|e
 ·exact absurd e hr
 ·exact e
theorem Mx.rd (h:Mx w B v A rv):Rd w v A:=by
 rcases h.form with⟨rfl,rfl⟩|⟨g,cap,rfl,_,hg,h3,h4⟩
 ·exact aeL w
 ·exact⟨_,cap,rfl,h3,⟨h4,fun e=>by cases e⟩,fun _=>⟨g,0,rfl,hg,fun i hi=>⟨rv i,by rw[xQ];exact h.cell hi,(h.row i hi).sl⟩⟩⟩
theorem oh {i j:Nat} {l:List Int} (hi:i<A.length):Gj.row (A.set i l) j=if j=i then l else Gj.row A j:=by
 unfold Gj.row;by_cases e:j=i
 ·subst e;rw[zu rfl];simp[List.getD,hi]
 ·rw[zx e];simp[List.getD,zS (Ne.symm e)]
theorem Mx.ent (h:Mx w B v A rv) {i b n cp:Nat} (hi:i<A.length) (hr:rv i=.slice (some ⟨b,0,none⟩) n cp) (k:Nat) (x:Int):
  Mx (w.setCell ⟨b,k,none⟩ (.int .i64 x)) B v (A.set i ((Gj.row A i).set k x)) rv:=by
 have hrb:(rv i).ownBlock=some b:=by rw[hr];rfl
 have hg:=aj w b k (.int .i64 x);have hro:=h.row i hi;refine⟨?_,fun j hj=>?_,fun j m hj hm=>h.dis j m (by simpa using hj) (by simpa using hm)⟩
 ·rw[zI];exact World.ownsRow.kept h.out hg (.inr (row_ne h.out hro hrb))
 ·have hj':j<A.length:=by simpa using hj
  rw[oh hi];by_cases e:j=i
  ·rw[zu e,e];rw[hr] at hro ⊢;exact hro.set k x
  ·rw[zx e];exact(h.row j hj').grownBy hg (.inr fun e2=>h.dis j i hj' hi e b e2 hrb)
theorem Mx.aeM (h:Mx w B v A rv) {i b n cp:Nat} {l:List Int} (hi:i<A.length) (hr:rv i=.slice (some ⟨b,0,none⟩) n cp) (ho:Own w' B (.slice (some ⟨b,0,none⟩) n cp) l) (hg:w.grownBy w' (some b)):
  Mx w' B v (A.set i l) rv:=by
 have hrb:(rv i).ownBlock=some b:=by rw[hr];rfl
 have hro:=h.row i hi;refine⟨?_,fun j hj=>?_,fun j m hj hm=>h.dis j m (by simpa using hj) (by simpa using hm)⟩
 ·rw[zI];exact World.ownsRow.kept h.out hg (.inr (row_ne h.out hro hrb))
 ·have hj':j<A.length:=by simpa using hj
  rw[oh hi];by_cases e:j=i
  ·rw[zu e,e,hr];exact ho
  ·rw[zx e];exact(h.row j hj').grownBy hg (.inr fun e2=>h.dis j i hj' hi e b e2 hrb)
theorem Mx.put {g n cap:Nat} (h:Mx w B (.slice (some ⟨g,0,none⟩) n cap) A rv) {i:Nat} (hi:i<A.length) {u:Value} {l:List Int} (hu:Own w B u l) (hd:∀ x,u.ownBlock=some x->∀ j,j<A.length->(rv j).ownBlock≠some x):
  Mx (w.setCell ⟨g,i,none⟩ u) B (.slice (some ⟨g,0,none⟩) n cap) (A.set i l) (fun j=>if j=i then u else rv j):=by
 have hn:n=A.length:=by
  rcases h.form with⟨e,_⟩|⟨_,_,e,_⟩
  ·cases e
  ·cases e;rfl
 subst hn;have hg:=aj w g i u;have hne:∀ x xs,Own w B x xs->x.ownBlock=none∨x.ownBlock≠some g:=fun x xs ho=>by
  cases e:x.ownBlock with
  |none=>exact .inl rfl
  |some y=>exact .inr fun e2=>row_ne h.out ho (by rw[e];exact e2) rfl
 refine⟨?_,fun j hj=>?_,fun j m hj hm hjm x h1 h2=>?_⟩
 ·rw[zI];have:=(World.ownsRow.stored h.out i u).1;have e:((List.range A.length).map rv).set i u=(List.range A.length).map (fun j=>if j=i then u else rv j):=by
   refine zM (by simp) fun j h1 h2=>?_;rw[xO];simp;by_cases e:i=j
   ·rw[zu e,zu e.symm]
   ·rw[zx e,zx (fun g=>e g.symm)]
  rw[e] at this;exact this
 ·have hj':j<A.length:=by simpa using hj
  rw[oh hi];by_cases e:j=i
  ·rw[zu e,zu e];exact hu.grownBy hg (hne _ _ hu)
  ·rw[zx e,zx e];exact(h.row j hj').grownBy hg (hne _ _ (h.row j hj'))
 ·have hj':j<A.length:=by simpa using hj
  have hm':m<A.length:=by simpa using hm
  by_cases e:j=i
  ·rw[zu e] at h1;rw[zx (by omega)] at h2;exact hd x h1 m hm' h2
  ·rw[zx e] at h1;by_cases e2:m=i
   ·rw[zu e2] at h2;exact hd x h2 j hj' h1
   ·rw[zx e2] at h2;exact h.dis j m hj' hm' hjm x h1 h2
theorem FQ {n r p i:Nat} (hr:r<n) (hp:p<n) (h:i<n):(if i=r then p else if i=p then r else i)<n:=by
 split
 ·exact hp
 ·split
  ·exact hr
  ·exact h
theorem Mx.swap {g n cap:Nat} (h:Mx w B (.slice (some ⟨g,0,none⟩) n cap) A rv) {r p:Nat} (hr:r<A.length) (hp:p<A.length) (hne:r≠p):
  Mx ((w.setCell ⟨g,r,none⟩ (rv p)).setCell ⟨g,p,none⟩ (rv r)) B (.slice (some ⟨g,0,none⟩) n cap) (dS A r p) (fun i=>rv (if i=r then p else if i=p then r else i)):=by
 have hn:n=A.length:=by
  rcases h.form with⟨e,_⟩|⟨_,_,e,_⟩
  ·cases e
  ·cases e;rfl
 subst hn;have hg:w.grownBy ((w.setCell ⟨g,r,none⟩ (rv p)).setCell ⟨g,p,none⟩ (rv r)) (some g):=aO (aj w g r (rv p)) (aj _ g p (rv r));have hnx:∀ x xs,Own w B x xs->x.ownBlock=none∨x.ownBlock≠some g:=fun x xs ho=>by
  cases e:x.ownBlock with
  |none=>exact .inl rfl
  |some y=>exact .inr fun e2=>row_ne h.out ho (by rw[e];exact e2) rfl
 refine⟨?_,fun i hi=>?_,fun i k hi hk hik x h1 h2=>?_⟩
 ·rw[aT];have h1:=(World.ownsRow.stored h.out r (rv p)).1;have h2:=(World.ownsRow.stored h1 p (rv r)).1;have e:(((List.range A.length).map rv).set r (rv p)).set p (rv r)=(List.range A.length).map (fun i=>rv (if i=r then p else if i=p then r else i)):=by
   refine zM (by simp) fun j h1 h2=>?_;rw[xO,xO];simp;by_cases e1:p=j
   ·rw[zu e1,zx (by omega),zu e1.symm]
   ·rw[zx e1];by_cases e2:r=j
    ·rw[zu e2,zu e2.symm]
    ·rw[zx e2,zx (fun g=>e2 g.symm),zx (fun g=>e1 g.symm)]
  rw[e] at h2;exact h2
 ·rw[aT] at hi;rw[jX hi];have:=h.row _ (FQ hr hp hi);exact this.grownBy hg (hnx _ _ this)
 ·rw[aT] at hi hk;refine h.dis _ _ (FQ hr hp hi) (FQ hr hp hk) ?_ x h1 h2
  split<;>split<;> (try split)<;> (try split)<;>omega
theorem SB (A:List (List Int)) (r p:Nat):dS A r p=dS A p r:=by
 unfold dS;refine wO fun i _=>?_;congr 1
 split<;>split<;>omega
theorem Mx.add {v' u:Value} {l:List Int} (h:Mx w B v A rv) (hu:Own w B u l) (hd:∀ x,u.ownBlock=some x->∀ j,j<A.length->(rv j).ownBlock≠some x)
  (o':w'.ownsRow B 22 1 v' (A.length+1) ((List.range A.length).map rv++ [u])) (hg:w.grownBy w' v.ownBlock):Mx w' B v' (A++ [l]) (fun i=>if i=A.length then u else rv i):=by
 have hx:∀ x xs,Own w B x xs->x.ownBlock=none∨x.ownBlock≠v.ownBlock:=fun x xs ho=>by
  cases e:x.ownBlock with
  |none=>exact .inl rfl
  |some y=>exact .inr fun e2=>row_ne h.out ho e e2.symm
 have hrow:∀ i,Gj.row (A++ [l]) i=if i<A.length then Gj.row A i else if i=A.length then l else[]:=fun i=>by
  unfold Gj.row;by_cases e:i<A.length
  ·rw[zu e,List.getD,List.getD,yU e]
  ·rw[zx e];by_cases e2:i=A.length
   ·rw[zu e2,e2];simp[List.getD]
   ·rw[zx e2];have:(A++ [l]).length<=i:=by simp;omega
    simp[List.getD,zT this]
 refine⟨?_,fun i hi=>?_,fun i k hi hk hik x h1 h2=>?_⟩
 ·rw[zX];have e:(List.range (A.length+ [l].length)).map (fun i=>if i=A.length then u else rv i)=(List.range A.length).map rv++ [u]:=by
   show(List.range (A.length+1)).map _=_;rw[xu,xq];congr 1
   ·refine wO fun i hi=>?_;rw[zx (by have:=yT.1 hi;omega)]
   ·simp
  rw[e];exact o'
 ·have hi':i<A.length+1:=by simpa using hi
  rw[hrow];by_cases e:i<A.length
  ·rw[zu e,zx (by omega)];exact(h.row i e).grownBy hg (hx _ _ (h.row i e))
  ·rw[zx e,zu (by omega),zu (by omega)];exact hu.grownBy hg (hx _ _ hu)
 ·have hi':i<A.length+1:=by simpa using hi
  have hk':k<A.length+1:=by simpa using hk
  by_cases e:i=A.length
  ·rw[zu e] at h1;rw[zx (by omega)] at h2;exact hd x h1 k (by omega) h2
  ·rw[zx e] at h1;by_cases e2:k=A.length
   ·rw[zu e2] at h2;exact hd x h2 i (by omega) h1
   ·rw[zx e2] at h2;exact h.dis i k (by omega) (by omega) hik x h1 h2
end
theorem dD {w:World} {ops:Array Oper} {rest:List Oper} {o:Oper} {a:Act} {Q:Exit->Act->World->Prop} (hgd:o.guard=none) (s x:Operand)
  (ho:o.op=.call {callee:=.builtin .append,args:=#[s,x],argTypes:=#[27,27]}) (B:Nat) (v:Value) (m:Nat) (rs:List Value) (hs:a.eval s=v) (hown:w.ownsRow B 22 1 v m rs)
  (ad:Addr) (y:Value) (hx:a.eval x=.slice (some ad) 1 1) (hc:w.cell? ad=some y) (hy:y.oneCell'=true) (hlen:m+1<=1000000) (hB:B<=w.heap.size)
  (h:∀ v' w',w'.ownsRow B 22 1 v' (m+1) (rs++ [y])->w.grownBy w' v.ownBlock->wpList Tryz.prog ops Q rest (a.put o.dst v') w'):wpList Tryz.prog ops Q (o::rest) a w:=by
 obtain⟨i0,hi,hz0,hz1,hz2⟩:=info_parts Tryz.infoSl;refine wpList_append_own _ hgd s x 27 ho B 22 i0 (.slice none 0 0) 1 24 Tryz.underlying27 hi hz0 hz1 hz2 rfl (by decide) v m rs hs hown ad 1 1 [y] hx rfl (fun j u hu=>?_) (fun u hu=>?_) (by unfold maxLen;omega) (by omega) hB
  fun v' w' h1 h2 _=>h v' w' h1 h2
 ·match j with
  |0=>
   have e:u=y:=by simpa using hu.symm
   rw[e];have:ad.add 0=ad:=by cases ad;simp[Addr.add]
   rw[this];exact hc
  |j+1=>simp at hu
 ·rw[zH.1 hu];exact hy
theorem jl {w:World} {ops:Array Oper} {rest:List Oper} {o:Oper} {a:Act} {Q:Exit->Act->World->Prop}
  (hg:o.guard=none) (l c:Operand) (hop:o.op=Op.makeSlice 27 l c) (n:Nat) (L C:Int) (hl:a.eval l=.int .i64 L) (hc:a.eval c=.int .i64 C) (hL:L=(n:Int)) (hC:C=(n:Int)) (hn:n<=1000000)
  (hK:∀ w',Mx w' w.heap.size (.slice (some ⟨w.heap.size,0,none⟩) n n) (List.replicate n []) (fun _=>.slice none 0 0)->ay w w'->wpList Tryz.prog ops Q rest (a.put o.dst (.slice (some ⟨w.heap.size,0,none⟩) n n)) w'):
  wpList Tryz.prog ops Q (o::rest) a w:=by
 obtain⟨i0,hi,hz0,hz1,hz2⟩:=info_parts Tryz.infoSl;refine wpList_make_full w hg l c 27 hop w.heap.size 22 i0 (.slice none 0 0) 1 Tryz.underlying27 hi hz0 hz1 .i64 .i64 L C n hl hc hL hC (by rw[hz2];omega) (by unfold maxLen;omega) (zy _)
  fun w' h1 h2=>hK w' ?_ (oK h2)
 have e:(madeCells (Value.slice none 0 0).cells (n*1)).toList=(List.range (List.replicate n ([]:List Int)).length).map (fun _=>Value.slice none 0 0):=by
  rw[uX,show(Value.slice none 0 0).cells=#[.slice none 0 0] from rfl,toList_madeCells_one,uw];refine zM (by simp) fun i h1 h2=>?_;simp
 rw[e] at h1;have hr:∀ i,Gj.row (List.replicate n ([]:List Int)) i=[]:=fun i=>by
  unfold Gj.row;by_cases g:i<n
  ·simp[List.getD,g]
  ·simp[List.getD,g]
 refine⟨by simpa using h1,fun i hi=>?_,fun i k _ _ _ g e=>by cases e⟩;rw[hr];exact bZ _ _
end
theorem bU:(∀ (a:Act) (d:Tmp) (v:Value),a.put (some d) v={a with tmps:=a.tmps.setIfInBounds d v})/\(∀ (a:Act) (v:Value),a.put none v=a)/\(∀ {α:Type} (l:List α) (i:Nat) (a:α),l.toArray.setIfInBounds i a=(l.set i a).toArray)/\(∀ {α:Type} (x:α) (xs:List α) (a:α),(x::xs).set 0 a=a::xs)/\(∀ {α:Type} (x:α) (xs:List α) (i:Nat) (a:α),(x::xs).set (i+1) a=x::xs.set i a):=
 ⟨fun _ _ _=>rfl,fun _ _=>rfl,fun _ _ _=>by simp,fun _ _ _=>rfl,fun _ _ _ _=>rfl⟩
section
variable {P:Program} {ops:Array Oper} {Q:Exit->Act->World->Prop} {md:Region.Mode} {S:World->Prop}
theorem tkH (i:Nat) {oi:Oper} {v:Value} {fuel:Nat} {listed:Array Bool} {a:Act} {w:World}
  (h:wpAnyH P md ops Q S fuel (listed.setIfInBounds i true) (a.put oi.dst v) w)
  (hi:ops[i]?=some oi:=by(simp only[yX,yt,yZ];rfl))
  (hw:Region.wanted oi (yielded ops a.tmps)=true:=by rfl)
  (hy:∀ w,S w->(execOp a.eval oi).run P w=.ok (.value v) w:=by(intro w hSw;(try dsimp only at hSw);go_simp;with_reducible rfl))
  (h1:Region.noSelect ops=true:=by kernel_rfl) (h2:Region.free md ops listed i=true:=by kernel_rfl) (h3:(Region.ready md ops listed).contains i=true:=by kernel_rfl)
  (hQ:∀ c a w,Q (.panic c) (a.put oi.dst v) w->Q (.panic c) a w:=by exact fun _ _ _ h=>h)
  (hS:S w:=by assumption):wpAnyH P md ops Q S (fuel+1) listed a w:=
 wpAnyH_take hi h1 h2 h3 hQ (.inl ⟨hw,hy⟩) hS h
theorem rdH (i:Nat) {o:Oper} {fuel:Nat} {listed:Array Bool} {a:Act} {w:World}
  (h:∀ K':Act->World->Prop,Shut (∀ a w,S w->(S w->wpAnyH P md ops Q S fuel (listed.setIfInBounds i true) a w)->K' a w)->if Region.wanted o (yielded ops a.tmps)=true then Oper.wp P o a w K' Q else K' (a.put o.dst undef) w)
  (hi:ops[i]?=some o:=by(simp only[yX,yt,yZ];rfl))
  (hr:Region.ready md ops listed=[i]:=by kernel_rfl):wpAnyH P md ops Q S (fuel+1) listed a w:=
 wpAnyH_ready hr (by simp) (AllReadyH.cons hi h AllReadyH.nil)
end
end Go.Proofs.YtoilbeadokallaaGreatDoor
namespace Cw
namespace Gj
open Rg Fd PS Dm
section
variable {G:GFd} (t:aK G)
def fe (A:List (List Int)):Nat->Nat->Rs t.fs.mon:=fun i k=>t.e (en A i k)
theorem abC {α:Type} [Fd α] (R:Nat->Nat->α) (m:Nat) (y z:Nat->α) (k:Nat):cmb R m (fun i=>y i+z i) k=cmb R m y k+cmb R m z k:=by
 unfold cmb;rw[<-Ah];exact aX fun i _=>add_mul _ _ _
theorem Xm {α:Type} [Fd α] (R:Nat->Nat->α) (m:Nat) (a:α) (y:Nat->α) (k:Nat):cmb R m (fun i=>a*y i) k=a*cmb R m y k:=by
 unfold cmb;rw[jr];exact aX fun i _=>mul_assoc _ _ _
theorem jd (A:List (List Int)) (cols:Nat):Spc cols (Sp t A cols) where
 ext v w e hv:=by
  obtain⟨y,hy⟩:=hv;exact⟨y,fun k hk=>by rw[<-e k hk,hy k hk]⟩
 zero:=⟨fun _=>0,fun k _=>(bH fun i _=>zero_mul _).symm⟩
 add v w hv hw:=by
  obtain⟨y,hy⟩:=hv;obtain⟨z,hz⟩:=hw;exact⟨fun i=>y i+z i,fun k hk=>by show v k+w k=_;rw[abC,hy k hk,hz k hk]⟩
 smul a v hv:=by
  obtain⟨y,hy⟩:=hv;exact⟨fun i=>a*y i,fun k hk=>by show a*v k=_;rw[Xm,hy k hk]⟩
theorem Cm {A:List (List Int)} (cols:Nat) {i:Nat} (h:i<A.length):Sp t A cols (fe t A i):=⟨fun j=>if j=i then 1 else 0,fun k _=>(FC (fe t A) h k).symm⟩
theorem SC {A B:List (List Int)} {cols:Nat} (h:∀ i,i<A.length->Sp t B cols (fe t A i)) (v:Nat->Rs t.fs.mon) (hv:Sp t A cols v):Sp t B cols v:=by
 obtain⟨y,hy⟩:=hv;exact(jd t B cols).ext _ _ (fun k hk=>(hy k hk).symm) ((jd t B cols).cmb y A.length h)
theorem ahz {A B:List (List Int)} {cols r p c:Nat} (h:PS' t A B cols r p c) (hw:WF G.q A cols) (hr:r<A.length) (hp:p<A.length) (hc:c<cols) (h0:en A p c≠0) (v:Nat->Rs t.fs.mon):Sp t A cols v↔Sp t B cols v:=by
 have hn0:t.e (en A p c)≠0:=abt t (hw.bd p c hp hc) h0;have hrB:r<B.length:=by rw[h.len];exact hr
 have sA:=jd t A cols;have sB:=jd t B cols;have hBr:Sp t A cols (fe t B r):=sA.ext _ _ (fun k hk=>(h.top k hk).symm) (sA.smul (Fd.inv (t.e (en A p c))) _ (Cm t cols hp));have hAp:Sp t B cols (fe t A p):=sB.ext _ _ (fun k hk=>by
  show t.e (en A p c)*t.e (en B r k)=t.e (en A p k);rw[h.top k hk,<-mul_assoc,Fd.jI _ hn0,one_mul]) (sB.smul (t.e (en A p c)) _ (Cm t cols hrB))
 constructor
 ·refine SC t (fun j hj=>?_) v;by_cases e1:j=p
  ·rw[e1];exact hAp
  ·obtain⟨i,hi⟩:∃ i,i=if j=r then p else if j=p then r else j:=⟨_,rfl⟩
   have hil:i<A.length:=by rw[hi];exact Aq hr hp hj
   have hir:i≠r:=by
    rw[hi,zx e1]
    split
    ·intro e;omega
    ·assumption
   have hsi:(if i=r then p else if i=p then r else i)=j:=by
    rw[zx hir,hi,zx e1];by_cases e2:j=r
    ·rw[zu e2,zu rfl,e2]
    ·rw[zx e2,zx e1]
   refine sB.ext _ _ (fun k hk=>?_) (sB.add _ _ (Cm t cols (i:=i) (by rw[h.len];exact hil)) (sB.smul (t.e (en (dS A r p) i c)) _ (Cm t cols hrB)));show t.e (en B i k)+t.e (en (dS A r p) i c)*t.e (en B r k)=t.e (en A j k);rw[h.oth i k hil hir hk,sub_add_cancel,ji hil,hsi]
 ·refine SC t (fun i hi=>?_) v;rw[h.len] at hi;by_cases hir:i=r
  ·rw[hir];exact hBr
  ·refine sA.ext _ _ (fun k hk=>?_) (sA.add _ _ (Cm t cols (Aq hr hp hi)) (sA.smul (-(t.e (en (dS A r p) i c))) _ hBr));show t.e (en A (if i=r then p else if i=p then r else i) k)+ -(t.e (en (dS A r p) i c))*t.e (en B r k)=t.e (en B i k);rw[h.oth i k hi hir hk,neg_mul,<-sub_def,ji (k:=c) hi,ji (k:=k) hi]
theorem Ar:∀ (m c:Nat) {A:List (List Int)} {P:List Nat} {cols:Nat},c+m=cols->RI G.q A cols c P->
  RI G.q (gj (opG G) m c A P).1 cols cols (gj (opG G) m c A P).2/\(gj (opG G) m c A P).1.length=A.length/\∀ v,Sp t A cols v↔Sp t (gj (opG G) m c A P).1 cols v
 |0,c,A,P,cols,hc,h=>by
  obtain rfl:c=cols:=by omega
  exact⟨h,rfl,fun v=>Iff.rfl⟩
 |m+1,c,A,P,cols,hc,h=>by
  rw[gj];by_cases hf:fnd A c P.length<A.length
  ·rw[zu hf];have hge:=EF A c P.length;have ps:=SA t (r:=P.length) h.w (by omega) hf (by omega) (y8 hf);obtain⟨h1,h2,h3⟩:=Ar m (c+1) (by omega) (h.step t (by omega) hf);exact⟨h1,by rw[h2,ps.len],fun v=>(ahz t ps h.w (by omega) hf (by omega) (y8 hf) v).trans (h3 v)⟩
  ·rw[zx hf];exact Ar m (c+1) (by omega) (h.none hf)
theorem Bd {A:List (List Int)} {r i:Nat} (h:i<r):row (A.take r) i=row A i:=by unfold row;simp[List.getD,h]
theorem CB {A:List (List Int)} {r i k:Nat} (h:i<r):en (A.take r) i k=en A i k:=by unfold en;rw[Bd h]
structure Rf (q:Int) (A:List (List Int)) (cols:Nat) (P:List Nat):Prop where
 ri:RI q A cols cols P
 len:A.length=P.length
theorem Nr {A:List (List Int)} {cols:Nat} (h:WF G.q A cols):Rf G.q (oQ (opG G) A cols) cols (pvL (opG G) A cols)/\(oQ (opG G) A cols).length<=A.length/\∀ v,Sp t A cols v↔Sp t (oQ (opG G) A cols) cols v:=by
 obtain⟨h1,h2,h3⟩:=Ar t cols 0 (by omega) (jC h);unfold oQ pvL;generalize gj (opG G) cols 0 A []=X at h1 h2 h3 ⊢;obtain⟨B,P⟩:=X;show Rf G.q (B.take P.length) cols P/\(B.take P.length).length<=A.length/\∀ v,Sp t A cols v↔Sp t (B.take P.length) cols v;have h1:RI G.q B cols cols P:=h1;have h2:B.length=A.length:=h2;have h3:∀ v,Sp t A cols v↔Sp t B cols v:=h3;have hl:(B.take P.length).length=P.length:=by have:=h1.lt;simp;omega
 have hlt:=h1.lt;refine⟨⟨⟨fun i hi=>?_,fun i k hi hk=>?_,by omega,h1.pc,h1.inc,fun i hi=>?_,fun i j hi hj hne=>?_,fun i k hi hk=>?_,fun i k hi hk=>by omega⟩,hl⟩,by omega,fun v=>(h3 v).trans ?_⟩
 ·rw[Bd (by omega)];exact h1.wf i (by omega)
 ·rw[CB (by omega)];exact h1.bd i k (by omega) hk
 ·rw[CB hi];exact h1.one i hi
 ·rw[CB (by omega)];exact h1.zer i j hi (by omega) hne
 ·rw[CB hi];exact h1.low i k hi hk
 ·have hs:∀ y k,k<cols->cmb (fe t B) B.length y k=cmb (fe t (B.take P.length)) (B.take P.length).length y k:=fun y k hk=>by
   unfold cmb;rw[hl,MK hlt fun i a b=>by
    show y i*t.e (en B i k)=0;rw[h1.out i k a b hk,t.bC,mul_zero]]
   exact aX fun i hi=>by
    show y i*t.e (en B i k)=y i*t.e (en (B.take P.length) i k);rw[CB hi]
  constructor
  ·rintro⟨y,hy⟩;exact⟨y,fun k hk=>(hy k hk).trans (hs y k hk)⟩
  ·rintro⟨y,hy⟩;exact⟨y,fun k hk=>(hy k hk).trans (hs y k hk).symm⟩
theorem Z4 {A:List (List Int)} {cols:Nat} {P:List Nat} (h:Rf G.q A cols P):Bas (fe t A) A.length cols (Sp t A cols):=by
 refine⟨fun y=>⟨y,fun k _=>rfl⟩,fun v hv=>hv,fun y hy i hi=>?_⟩;have hi':i<P.length:=by rw[<-h.len];exact hi
 have:=hy _ (h.ri.pc i hi');unfold cmb at this;rw[kL hi fun j hj hne=>by
  show y j*t.e (en A j (P.getD i 0))=0;rw[h.ri.zer i j hi' hj hne,t.bC,mul_zero]] at this
 have e:y i*t.e (en A i (P.getD i 0))=0:=this
 rwa [h.ri.one i hi',t.iH,mul_one] at e
theorem inv_one (t:aK G):fG G 1=1:=by
 have q:=q2 t;have h1:inn G.q 1≠0:=by rw[bI ⟨by omega,by omega⟩];omega
 obtain⟨a,b,c⟩:=qQ t 1 h1;exact Sz t ⟨a,b⟩ (by rw[t.iH,mul_one] at c;exact c)
theorem iI {A B:List (List Int)} (hl:A.length=B.length) (h:∀ i,i<A.length->row A i=row B i):A=B:=by
 refine zM hl fun i h1 h2=>?_;have:=h i h1;unfold row at this;simpa[List.getD,h1,h2] using this
theorem aeN (t:aK G) {A:List (List Int)} {cols:Nat} {P:List Nat} (h:Rf G.q A cols P) {r:Nat} (hr:r<P.length):II (opG G) A r r (P.getD r 0)=A:=by
 have hrA:r<A.length:=by rw[h.len];exact hr
 have eS:dS A r r=A:=iI (aT _ _ _) fun i hi=>by
  rw[aT] at hi;rw[jX hi];by_cases e:i=r
  ·rw[zu e,e]
  ·rw[zx e,zx e]
 unfold II;rw[eS,h.ri.one r hr];have e1:OL (opG G) ((opG G).inv 1) (row A r)=row A r:=by unfold OL;exact zu (inv_one t)
 rw[e1];refine iI (qA _ _ _ _ _) fun i hi=>?_;rw[qA] at hi;rw[FP hi];by_cases e:i=r
 ·rw[zu e,e]
 ·rw[zx e,zu (h.ri.zer r i hr hi e)]
theorem abD (t:aK G) {A:List (List Int)} {cols:Nat} {P:List Nat} (h:Rf G.q A cols P):∀ (m c r:Nat),c+m=cols->r<=P.length->(∀ i,i<r->P.getD i 0<c)->(∀ i,r<=i->i<P.length->c<=P.getD i 0)->gj (opG G) m c A (P.take r)=(A,P)
 |0,c,r,hc,hr,h1,h2=>by
  have:r=P.length:=by
   rcases wR r P.length with g|g
   ·have:=h2 r (zy _) g;have:=h.ri.pc r g;omega
   ·omega
  rw[gj,this,wu]
 |m+1,c,r,hc,hr,h1,h2=>by
  have hl:(P.take r).length=r:=by simp;omega
  rw[gj,hl];by_cases e:r<P.length/\P.getD r 0=c
  ·obtain⟨hr',e⟩:=e;have hrA:r<A.length:=by rw[h.len];exact hr'
   have e1:en A r c≠0:=by rw[<-e,h.ri.one r hr'];decide
   have e2:fnd A c r=r:=(Nq (zy r) (by omega) (fun i a b=>by omega) (fun _=>e1) (by omega)).2 hrA;rw[e2,zu hrA];have e3:II (opG G) A r r c=A:=by rw[<-e];exact aeN t h hr'
   rw[e3];have e4:P.take r++ [c]=P.take (r+1):=by
    rw[List.take_add_one,<-e];simp[List.getD,hr']
   rw[e4];refine abD t h m (c+1) (r+1) (by omega) (by omega) (fun i hi=>?_) (fun i a b=>?_)
   ·by_cases g:i=r
    ·rw[g];omega
    ·have:=h1 i (by omega);omega
   ·have:=h.ri.inc r i (by omega) b;omega
  ·have hz:∀ i,r<=i->i<P.length->c<P.getD i 0:=fun i a b=>by
    have h3:=h2 i a b;rcases wR c (P.getD i 0) with g|g
    ·exact g
    ·exfalso;by_cases g2:i=r
     ·subst g2;exact e ⟨b,by omega⟩
     ·have:=h.ri.inc r i (by omega) b;have:=h2 r (zy _) (by omega);omega
   have e2:=(Nq (A:=A) (c:=c) (r:=r) (k:=A.length) (by rw[h.len];exact hr) (zy _) (fun i a b=>h.ri.low i c (by rw[<-h.len];exact b) (hz i a (by rw[<-h.len];exact b))) (fun g=>absurd g (Nat.lt_irrefl _)) (by rw[h.len];exact hr)).1;rw[zx (fun g=>absurd (e2.1 g) (Nat.lt_irrefl _))];exact abD t h m (c+1) r (by omega) hr (fun i hi=>Nat.lt_succ_of_lt (h1 i hi)) (fun i a b=>hz i a b)
theorem SE (t:aK G) {A:List (List Int)} {cols:Nat} {P:List Nat} (h:Rf G.q A cols P):oQ (opG G) A cols=A/\pvL (opG G) A cols=P:=by
 have:=abD t h cols 0 0 (by omega) (xZ _) (fun i hi=>by omega) (fun i _ _=>xZ _);unfold oQ pvL;have e:gj (opG G) cols 0 A []=(A,P):=this;rw[e];refine⟨?_,rfl⟩;show A.take P.length=A;rw[<-h.len,wu]
end
end Gj
end Cw
namespace Cw
namespace Gj
def cl2 (o:Op) (A A2:List (List Int)) (r c j:Nat):List Int:=if j=r then row A2 r else if en A j c=0 then row A2 j else iP o (o.neg (en A j c)) (row A2 r) (row A2 j)
def st2 (o:Op) (A A2:List (List Int)) (r c i:Nat):List (List Int):=(List.range A2.length).map fun j=>if j<i then cl2 o A A2 r c j else row A2 j
def scR (o:Op) (A A2:List (List Int)) (r c:Nat):List (List Int):=A2.set r (OL o (o.inv (en A r c)) (row A2 r))
def pv2 (o:Op) (A A2:List (List Int)) (r p c:Nat):List (List Int):=st2 o (scR o (dS A r p) (dS A r p) r c) (scR o (dS A r p) (dS A2 r p) r c) r c A2.length
def gjP (o:Op):Nat->Nat->List (List Int)->List (List Int)->List Nat->List (List Int) ×List (List Int) ×List Nat
 |0,_,A,A2,P=>(A,A2,P)
 |m+1,c,A,A2,P=>if fnd A c P.length<A.length then gjP o m (c+1) (pv2 o A A P.length (fnd A c P.length) c) (pv2 o A A2 P.length (fnd A c P.length) c) (P++ [c]) else gjP o m (c+1) A A2 P
theorem bK (o:Op) (A A2:List (List Int)) (r c i:Nat):(st2 o A A2 r c i).length=A2.length:=by simp[st2]
theorem fB (o:Op) (A A2:List (List Int)) (r c:Nat):(scR o A A2 r c).length=A2.length:=by simp[scR]
theorem dX (o:Op) (A A2:List (List Int)) (r p c:Nat):(pv2 o A A2 r p c).length=A2.length:=by rw[pv2,bK,fB,aT]
theorem jo {o:Op} {A A2:List (List Int)} {r c i j:Nat} (h:j<A2.length):row (st2 o A A2 r c i) j=if j<i then cl2 o A A2 r c j else row A2 j:=Cj h
theorem iU {A:List (List Int)} {i j:Nat} {l:List Int} (hi:i<A.length):row (A.set i l) j=if j=i then l else row A j:=by
 unfold row;by_cases e:j=i
 ·subst e;rw[zu rfl];simp[List.getD,hi]
 ·rw[zx e];simp[List.getD,zS (Ne.symm e)]
theorem FT (o:Op) (A A2:List (List Int)) (r c:Nat):st2 o A A2 r c 0=A2:=iI (bK _ _ _ _ _ _) fun i hi=>by
 rw[bK] at hi;rw[jo hi,zx (by omega)]
theorem oU {o:Op} {A A2:List (List Int)} {r c i:Nat} (h:i=r∨en A i c=0):st2 o A A2 r c (i+1)=st2 o A A2 r c i:=iI (by rw[bK,bK]) fun j hj=>by
 rw[bK] at hj;rw[jo hj,jo hj];by_cases e:j=i
 ·rw[e,zu (by omega),zx (by omega)];unfold cl2;rcases h with h|h
  ·rw[zu h,h]
  ·by_cases g:i=r
   ·rw[zu g,g]
   ·rw[zx g,zu h]
 ·by_cases g:j<i
  ·rw[zu g,zu (by omega)]
  ·rw[zx g,zx (by omega)]
theorem SG {o:Op} {A A2:List (List Int)} {r c i:Nat} (h:r<A2.length):row (st2 o A A2 r c i) r=row A2 r:=by
 rw[jo h]
 split
 ·unfold cl2;rw[zu rfl]
 ·rfl
theorem CG {o:Op} {A A2:List (List Int)} {r c i:Nat} (hr:r<A2.length) (hi:i<A2.length) (h1:i≠r) (h2:en A i c≠0):
  (st2 o A A2 r c i).set i (iP o (o.neg (en A i c)) (row (st2 o A A2 r c i) r) (row (st2 o A A2 r c i) i))=st2 o A A2 r c (i+1):=iI (by rw[zI,bK,bK]) fun j hj=>by
 rw[zI,bK] at hj;rw[iU (by rw[bK];exact hi),SG hr,jo (i:=i+1) hj];by_cases e:j=i
 ·have e2:row (st2 o A A2 r c i) i=row A2 i:=by rw[jo hi,zx (by omega)]
  rw[zu e,e,zu (by omega),e2];unfold cl2;rw[zx h1,zx h2]
 ·rw[zx e,jo hj];by_cases g:j<i
  ·rw[zu g,zu (by omega)]
  ·rw[zx g,zx (by omega)]
theorem Ky {o:Op} {A A2:List (List Int)} {r c:Nat} (h:o.inv (en A r c)=1):scR o A A2 r c=A2:=by
 unfold scR OL;rw[zu h];refine iI (zI ..) fun j hj=>?_;rw[zI] at hj;by_cases e:r<A2.length
 ·rw[iU e];by_cases g:j=r
  ·rw[zu g,g]
  ·rw[zx g]
 ·rw[List.set_eq_of_length_le (by omega)]
theorem SH {o:Op} {A A2:List (List Int)} {r c:Nat} (h:o.inv (en A r c)≠1):scR o A A2 r c=A2.set r ((row A2 r).map (o.mul (o.inv (en A r c)))):=by
 unfold scR OL;rw[zx h]
theorem CJ (A:List (List Int)) (r:Nat):dS A r r=A:=iI (aT _ _ _) fun i hi=>by
 rw[aT] at hi;rw[jX hi];by_cases e:i=r
 ·rw[zu e,e]
 ·rw[zx e,zx e]
theorem FU {o:Op} {A:List (List Int)} {r p c:Nat} (hr:r<A.length):pv2 o A A r p c=II o A r p c:=by
 refine iI (by rw[dX,lS]) fun j hj=>?_;rw[dX] at hj;have hS:(dS A r p).length=A.length:=aT _ _ _;have hj2:j< (scR o (dS A r p) (dS A r p) r c).length:=by rw[fB,hS];exact hj
 have hrS:r< (dS A r p).length:=by rw[hS];exact hr
 unfold pv2 II;rw[jo hj2,zu (show j<A.length from hj),FP (by rw[hS];exact hj)];unfold cl2 scR;by_cases e:j=r
 ·rw[zu e,zu e,iU hrS,zu rfl]
 ·have e1:en ((dS A r p).set r (OL o (o.inv (en (dS A r p) r c)) (row (dS A r p) r))) j c=en (dS A r p) j c:=by unfold en;rw[iU hrS,zx e]
  rw[zx e,zx e,e1,iU hrS,zx e,iU hrS,zu rfl]
theorem IJ (o:Op):∀ (m c:Nat) (A A2:List (List Int)) (P:List Nat),(gjP o m c A A2 P).1=(gj o m c A P).1/\(gjP o m c A A2 P).2.2=(gj o m c A P).2
 |0,_,_,_,_=>⟨rfl,rfl⟩
 |m+1,c,A,A2,P=>by
  rw[gjP,gj];have:=EF A c P.length;by_cases h:fnd A c P.length<A.length
  ·rw[zu h,zu h,FU (by omega)];exact IJ o m (c+1) _ _ _
  ·rw[zx h,zx h];exact IJ o m (c+1) _ _ _
theorem Bf (o:Op):∀ (m c:Nat) {A A2:List (List Int)} {P:List Nat},A.length<=P.length->gjP o m c A A2 P=(A,A2,P)
 |0,_,_,_,_,_=>rfl
 |m+1,c,A,A2,P,h=>by
  have:=EF A c P.length;rw[gjP,zx (by omega)];exact Bf o m (c+1) h
theorem SI {q:Int} {A:List (List Int)} {cols r p:Nat} (h:WF q A cols) (hr:r<A.length) (hp:p<A.length):WF q (dS A r p) cols:=
 ⟨fun i hi=>by rw[aT] at hi;rw[jX hi];exact h.wf _ (Aq hr hp hi),fun i k hi hk=>by rw[aT] at hi;rw[ji hi];exact h.bd _ _ (Aq hr hp hi) hk⟩
def Ln (A:List (List Int)) (cols:Nat):Prop:=∀ i,i<A.length->(row A i).length=cols
theorem aeO {A:List (List Int)} {cols r p:Nat} (h:Ln A cols) (hr:A≠ []->r<A.length) (hp:A≠ []->p<A.length):Ln (dS A r p) cols:=fun i hi=>by
 rw[aT] at hi;have hA:A≠ []:=by intro e;rw[e] at hi;simp at hi
 rw[jX hi];exact h _ (Aq (hr hA) (hp hA) hi)
theorem SK {o:Op} {A A2:List (List Int)} {cols r c:Nat} (h:Ln A2 cols):Ln (scR o A A2 r c) cols:=fun i hi=>by
 rw[fB] at hi;unfold scR;by_cases e:r<A2.length
 ·rw[iU e]
  split
  ·rw[qp];exact h r e
  ·exact h i hi
 ·rw[List.set_eq_of_length_le (by omega)];exact h i hi
theorem Ns {o:Op} {A A2:List (List Int)} {cols r c k:Nat} (h:Ln A2 cols) (hr:A2≠ []->r<A2.length):Ln (st2 o A A2 r c k) cols:=fun i hi=>by
 rw[bK] at hi;have hA:A2≠ []:=by intro e;rw[e] at hi;simp at hi
 rw[jo hi]
 split
 ·unfold cl2
  split
  ·exact h r (hr hA)
  ·split
   ·exact h i hi
   ·rw[dR];exact h i hi
 ·exact h i hi
end Gj
end Cw
namespace Go.Proofs.YtoilbeadokallaaGreatDoor
section
open Go.RowKit
theorem Own.len' {w:World} {B g n cap:Nat} {xs:List Int} (h:Own w B (.slice (some ⟨g,0,none⟩) n cap) xs):n=xs.length:=by
 rcases h.form with⟨e,_⟩|⟨_,_,e,_⟩
 ·cases e
 ·cases e;rfl
theorem y9 {w:World} {ops:Array Oper} {rest:List Oper} {o:Oper} {a:Act} {Q:Exit->Act->World->Prop} (hgd:o.guard=none) (s x:Operand)
  (ho:o.op=.call {callee:=.builtin .append,args:=#[s,x],argTypes:=#[22,22]}) (B g n cap:Nat) (xs:List Int) (hs:a.eval s=.slice (some ⟨g,0,none⟩) n cap) (hown:Own w B (.slice (some ⟨g,0,none⟩) n cap) xs)
  (ad:Addr) (y:Int) (hx:a.eval x=.slice (some ad) 1 1) (hc:w.cell? ad=some (.int .i64 y)) (hlen:n+1<=1000000) (hB:B<=w.heap.size)
  (h:∀ g' cap' w',Own w' B (.slice (some ⟨g',0,none⟩) (n+1) cap') (xs++ [y])->w.grownBy w' (some g)->(g'=g∨w.heap.size<=g')->wpList Tryz.prog ops Q rest (a.put o.dst (.slice (some ⟨g',0,none⟩) (n+1) cap')) w'):
  wpList Tryz.prog ops Q (o::rest) a w:=by
 obtain⟨i0,hi,hz0,hz1,hz2⟩:=info_parts Tryz.infoInt;have hn:=hown.len';have hcell:∀ j u,([.int .i64 y]:List Value)[j]?=some u->w.cell? (ad.add j)=some u:=fun j u hu=>by
  match j with
  |0=>
   have e:u=.int .i64 y:=by simpa using hu.symm
   rw[e];have:ad.add 0=ad:=by cases ad;simp[Addr.add]
   rw[this];exact hc
  |j+1=>simp at hu
 by_cases hroom:n+1<=cap
 ·obtain⟨w',hrun,h1,h2⟩:=run_append_fits (P:=Tryz.prog) w B 22 o.type 3 i0 1 Tryz.underlying22 hi hz1 g n cap (xs.map (Value.int .i64)) (by rw[hn] at hown ⊢;exact hown) ad 1 1 [.int .i64 y] rfl hcell (by simp[Value.oneCell']) hroom;refine wpList_plain hgd fun K hK=>?_;unfold Oper.wp;simp[execOp,ho,resolve,invoke,builtin,hs,hx,hrun,Result.andThen];refine hK _ _ (h g cap w' ?_ h2 (.inl rfl));unfold Own;rw[zX,<-hn];simpa using h1
 ·obtain⟨v',w',hrun,h1,h2⟩:=run_append_arg_grows (P:=Tryz.prog) w 22 o.type 3 i0 (.int .i64 0) 1 8 Tryz.underlying22 hi hz0 hz1 hz2 rfl (by decide) ⟨g,0,none⟩ n cap (xs.map (Value.int .i64)) (by simp[hn]) (fun j u hu=>by
   have hj:j<xs.length:=by have:=(zN.1 hu).1;simpa using this
   rw[Addr.add_lit,xQ,hown.cell hj];simp[zq hj] at hu;simp[List.getD,zq hj,hu]) ad 1 1 [.int .i64 y] rfl hcell (by omega) (by unfold maxLen;omega) (by omega)
  have hO:Own w' w.heap.size v' (xs++ [y]):=by unfold Own;rw[zX,<-hn];simpa using h1
  rcases hO.form with⟨_,e⟩|⟨gm,cm,rfl,h3,h4,_⟩
  ·simp at e
  ·refine wpList_plain hgd fun K hK=>?_;unfold Oper.wp;simp[execOp,ho,resolve,invoke,builtin,hs,hx,hrun,Result.andThen];rw[show xs.length+1=n+1 by rw[hn]];have e:(xs++ [y]).length=n+1:=by rw[zX,<-hn];rfl
   rw[e] at hO;exact hK _ _ (h gm cm w' (hO.mono hB) (nN h2) (.inr h3))
theorem dn {w:World} {ops:Array Oper} {rest:List Oper} {o:Oper} {a:Act} {Q:Exit->Act->World->Prop} (hgd:o.guard=none) (s x:Operand)
  (ho:o.op=.call {callee:=.builtin .append,args:=#[s,x],argTypes:=#[22,22]}) (B:Nat) (v:Value) (xs:List Int) (hs:a.eval s=v) (hown:Own w B v xs)
  (ad:Addr) (y:Int) (hx:a.eval x=.slice (some ad) 1 1) (hc:w.cell? ad=some (.int .i64 y)) (hlen:xs.length+1<=1000000) (hB:B<=w.heap.size)
  (h:∀ g' cap' w',Own w' B (.slice (some ⟨g',0,none⟩) (xs.length+1) cap') (xs++ [y])->w.grownBy w' v.ownBlock->(v.ownBlock=some g'∨w.heap.size<=g')->wpList Tryz.prog ops Q rest (a.put o.dst (.slice (some ⟨g',0,none⟩) (xs.length+1) cap')) w'):
  wpList Tryz.prog ops Q (o::rest) a w:=by
 rcases hown.form with⟨rfl,rfl⟩|⟨g,cap,rfl,_⟩
 ·refine bG hgd s x ho w.heap.size _ [] hs (bZ _ _) ad y hx hc hlen (zy _) fun v' w' h1 h2=>?_;rcases h1.form with⟨_,e⟩|⟨g',cap',rfl,h3,_⟩
  ·simp at e
  ·exact h g' cap' w' (h1.mono hB) h2 (.inr h3)
 ·exact y9 hgd s x ho B g xs.length cap xs hs hown ad y hx hc hlen hB fun g' cap' w' h1 h2 h3=>h g' cap' w' h1 h2 (h3.elim (fun e=>.inl (by rw[e];rfl)) .inr)
end
end Go.Proofs.YtoilbeadokallaaGreatDoor
namespace Cw
namespace Gj
open Rg Fd PS Dm
def kvS (o:Op) (A:List (List Int)) (P:List Nat) (cols c:Nat):Nat->List Int
 |0=>(List.replicate cols 0).set c 1
 |i+1=>(kvS o A P cols c i).set (P.getD i 0) (o.neg (en A i c))
def kv (o:Op) (A:List (List Int)) (P:List Nat) (cols c:Nat):List Int:=kvS o A P cols c P.length
def fre (P:List Nat) (cols:Nat):List Nat:=(List.range cols).filter fun c=>decide (c ∉ P)
def Xo (o:Op) (A:List (List Int)) (P:List Nat) (cols:Nat):List (List Int):=(fre P cols).map (kv o A P cols)
theorem oV (o:Op) (A:List (List Int)) (P:List Nat) (cols c:Nat):∀ i,(kvS o A P cols c i).length=cols
 |0=>by simp[kvS]
 |i+1=>by rw[kvS,zI,oV]
theorem qU {l:List Int} {i k:Nat} {x:Int} (h:i<l.length):(l.set i x).getD k 0=if k=i then x else l.getD k 0:=by
 by_cases e:k=i
 ·subst e;rw[zu rfl];simp[List.getD,h]
 ·rw[zx e];simp[List.getD,zS (Ne.symm e)]
theorem qV {n k:Nat}:(List.replicate n (0:Int)).getD k 0=0:=by
 by_cases h:k<n
 ·simp[List.getD,h]
 ·simp[List.getD,h]
theorem Bg {P:List Nat} {i:Nat} (h:i<P.length):P.getD i 0∈P:=by
 simp only[List.getD,zq h,zU];exact zF _
section
variable {G:GFd} (t:aK G) {A:List (List Int)} {cols:Nat} {P:List Nat}
theorem Z5 (o:Op) (h:∀ i,i<P.length->P.getD i 0<cols) {c:Nat} (hc:c<cols) (hn:c ∉ P) (hinc:∀ i j,i<j->j<P.length->P.getD i 0<P.getD j 0):∀ m,m<=P.length->
  (kvS o A P cols c m).getD c 0=1/\(∀ i,i<m->(kvS o A P cols c m).getD (P.getD i 0) 0=o.neg (en A i c))/\∀ k,k≠c->(∀ i,i<m->k≠P.getD i 0)->(kvS o A P cols c m).getD k 0=0
 |0,_=>by
  refine⟨?_,fun i hi=>by omega,fun k hk _=>?_⟩
  ·rw[kvS,qU (by simpa using hc),zu rfl]
  ·rw[kvS,qU (by simpa using hc),zx hk,qV]
 |m+1,hm=>by
  obtain⟨h1,h2,h3⟩:=Z5 o h hc hn hinc m (by omega);have hp:P.getD m 0< (kvS o A P cols c m).length:=by rw[oV];exact h m (by omega)
  refine⟨?_,fun i hi=>?_,fun k hk hk2=>?_⟩
  ·rw[kvS,qU hp,zx (fun e=>hn (by rw[e];exact Bg (by omega)))];exact h1
  ·rw[kvS,qU hp];by_cases e:i=m
   ·rw[e,zu rfl]
   ·rw[zx (by have:=hinc i m (by omega) (by omega);omega)];exact h2 i (by omega)
  ·rw[kvS,qU hp,zx (hk2 m (by omega))];exact h3 k hk fun i hi=>hk2 i (by omega)
theorem ahA (o:Op) (q:Int) (h:Rf q A cols P) {c:Nat} (hc:c<cols) (hn:c ∉ P):
  (kv o A P cols c).getD c 0=1/\(∀ i,i<P.length->(kv o A P cols c).getD (P.getD i 0) 0=o.neg (en A i c))/\∀ k,k≠c->k ∉ P->(kv o A P cols c).getD k 0=0:=by
 obtain⟨h1,h2,h3⟩:=Z5 (A:=A) o h.ri.pc hc hn h.ri.inc P.length (zy _);exact⟨h1,h2,fun k hk hk2=>h3 k hk fun i hi e=>hk2 (by rw[e];exact Bg hi)⟩
theorem abE {c:Nat}:c∈fre P cols↔c<cols/\c ∉ P:=by unfold fre;simp
theorem aeP {j:Nat} (h:j< (fre P cols).length):(fre P cols).getD j 0<cols/\(fre P cols).getD j 0 ∉ P:=abE.1 (Bg h)
theorem CO (o:Op):(Xo o A P cols).length=(fre P cols).length:=by simp[Xo]
theorem Nu (o:Op) {j:Nat} (h:j< (fre P cols).length):row (Xo o A P cols) j=kv o A P cols ((fre P cols).getD j 0):=by
 unfold row Xo;simp[List.getD,h]
theorem abG (t:aK G) (h:Rf G.q A cols P):WF G.q (Xo (opG G) A P cols) cols:=by
 have q:=q2 t;refine⟨fun j hj=>?_,fun j k hj hk=>?_⟩
 ·rw[CO] at hj;rw[Nu _ hj];exact oV _ _ _ _ _ _
 ·rw[CO] at hj;obtain⟨f1,f2⟩:=aeP hj;obtain⟨h1,h2,h3⟩:=ahA (opG G) G.q h f1 f2;unfold en;rw[Nu _ hj];by_cases e:k=(fre P cols).getD j 0
  ·rw[e,h1];omega
  ·by_cases e2:k∈P
   ·obtain⟨i,hi,e3⟩:=List.mem_iff_getElem.1 e2;have e4:k=P.getD i 0:=by simp[List.getD,hi,e3]
    rw[e4,h2 i hi];exact t.ZU _
   ·rw[h3 k e e2];omega
end
end Gj
end Cw
namespace Cw
namespace Gj
open Rg Fd PS Dm
section
variable {G:GFd} (t:aK G)
end
def mk (T:Nat->Bool):Nat->Nat
 |0=>0
 |n+1=>mk T n+if T n then 2^n else 0
def pc (n M:Nat):Nat:=((List.range n).filter M.testBit).length
section
variable {G:GFd} (t:aK G)
def OO (o:Op) (A:List (List Int)) (P:List Nat) (cols:Nat):List (List Int):=oQ o (Xo o A P cols) cols
end
end Gj
end Cw
namespace Cw
namespace Gj
open Rg Fd
theorem Kz {G:GFd} (t:aK G) (x a:Int) (ha:0<=a/\a<G.q) (h:bF G a x=1):fG G x=a:=by
 have hx:inn G.q x≠0:=fun e=>by
  have:bF G a x=0:=zu (.inr e);rw[this] at h;cases h
 obtain⟨h1,h2,h3⟩:=qQ t x hx;refine t.Iw ⟨h1,h2⟩ ha ?_;have h4:t.e a*t.e x=1:=by rw[<-t.fQ,h,t.iH]
 have hx0:t.e x≠0:=fun e=>by rw[e,mul_zero] at h4;exact Fd.dO h4.symm
 exact Fd.mul_right_cancel hx0 (h3.trans h4.symm)
theorem EG {G H:GFd} (t:aK G) (s:aK H) (h1:G.P=H.P) (h2:G.M=H.M) (h3:G.mod=H.mod):opG G=opG H:=by
 have hq:G.q=H.q:=by rw[t.hq,s.hq,h1,h2]
 have hm:∀ x y,bF G x y=bF H x y:=fun x y=>by rw[t.FK,s.FK,h1,h2,h3,hq]
 unfold opG;have e1:gu G=gu H:=funext fun x=>funext fun y=>by unfold gu;rw[h1,h2,hq]
 have e2:bF G=bF H:=funext fun x=>funext fun y=>hm x y;have e3:iE G=iE H:=funext fun x=>by unfold iE;rw[h1,h2,hq]
 have e4:fG G=fG H:=funext fun x=>by
  by_cases hx:inn G.q x=0
  ·unfold fG;rw[zu hx,zu (by rw[<-hq];exact hx)]
  ·have hx':inn H.q x≠0:=by rw[<-hq];exact hx
   obtain⟨b1,b2,b3⟩:=qQ s x hx';refine Kz t x _ (by rw[hq];exact⟨b1,b2⟩) ?_;rw[hm];refine s.Iw (s.eY _ _) ⟨by omega,by have:=q2 s;omega⟩ ?_;rw[s.fQ,b3,s.iH]
 rw[e1,e2,e3,e4]
def op2:Op:=⟨fun x y=>(inn 2 x+inn 2 y)%2,fun x y=>inn 2 x*inn 2 y,fun x=>inn 2 x,fun x=>inn 2 x⟩
theorem SL {G:GFd} (t:aK G) (h1:G.P=2) (h2:G.M=1):opG G=op2:=by
 have hq:G.q=2:=by
  have:=t.qb;obtain⟨_,_,_,_,_,_,h⟩:=this;rw[h,h1,h2];rfl
 have hin:∀ x:Int,inn 2 x=0∨inn 2 x=1:=fun x=>by
  have:=iY (q:=2) (by decide) x;omega
 have e0:∀ x,t.e x=t.e (inn 2 x):=fun x=>by rw[<-hq,t.Ry]
 have hadd:∀ x y,gu G x y=(inn 2 x+inn 2 y)%2:=fun x y=>by
  unfold gu;rw[hq,h1,h2];rcases hin x with hx|hx<;>rcases hin y with hy|hy<;>rw[hx,hy]<;>decide
 have hneg:∀ x,iE G x=inn 2 x:=fun x=>by
  unfold iE;rw[hq,h1,h2];rcases hin x with hx|hx<;>rw[hx]<;>decide
 have hmul:∀ x y,bF G x y=inn 2 x*inn 2 y:=fun x y=>by
  refine t.Iw (t.eY _ _) (by rw[hq];rcases hin x with hx|hx<;>rcases hin y with hy|hy<;>rw[hx,hy]<;>decide) ?_;rw[t.fQ,e0 x,e0 y];rcases hin x with hx|hx<;>rcases hin y with hy|hy<;>rw[hx,hy]
  ·show t.e 0*t.e 0=t.e 0;rw[t.bC,mul_zero]
  ·show t.e 0*t.e 1=t.e 0;rw[t.bC,zero_mul]
  ·show t.e 1*t.e 0=t.e 0;rw[t.bC,mul_zero]
  ·show t.e 1*t.e 1=t.e 1;rw[t.iH,mul_one]
 have hinv:∀ x,fG G x=inn 2 x:=fun x=>by
  rcases hin x with hx|hx
  ·unfold fG;rw[hq,hx];rfl
  ·rw[hx];refine Kz t x 1 (by rw[hq];decide) ?_;rw[hmul,hx];decide
 unfold opG op2;rw[show gu G=_ from funext fun x=>funext (hadd x),show bF G=_ from funext fun x=>funext (hmul x),show iE G=_ from funext hneg,show fG G=_ from funext hinv]
end Gj
end Cw
namespace Go.Proofs.YtoilbeadokallaaGreatDoor
section
open Go.RowKit Go.Sort Cw
theorem FV (P M:Int) (vm:Value) (mod:List Int) (w:World) (hvm:Sl w vm mod) (hs:¬ jq P M mod):
  Calls Tryz.prog 18 #[.agg #[.int .i64 P,.int .i64 M,vm]] w fun e w'=>e=.returned (.int .i64 1)/\ay w w':=by
 have hk0:=ah w (.cells #[.int .i64 P,.int .i64 M,vm] 24);have hbx:=aS w P M vm 24;have hv1:=hvm.kept hk0;have HF:Hid (false=true↔jq P M mod):=hid (by simp[hs]);clear hs;obtain⟨w0,hw0⟩:∃ w0,w0=w.alloc (.cells #[.int .i64 P,.int .i64 M,vm] 24):=⟨_,rfl⟩
 rw[<-hw0] at hk0 hbx hv1;have c0:=cell_regrown hbx.h0;have c1:=cell_regrown hbx.h1;have c2:=cell_regrown hbx.h2;have cS:∀ d os,Calls Tryz.prog 44 #[.agg #[.int .i64 P,.int .i64 M,vm]] (grow (redrawn w0 d) os) fun e w''=>e=.returned (.bool false)/\∃ p:Regrown,w''=grow (redrawn w0 p.d) p.os:=fun d os=>Calls.regrown_of (kR P M vm mod _ (hv1.kept (below_regrown w0 d os)) false HF.out);go_enter Tryz.func18,Tryz.ntmps18;go_wp2_with(fail)
 rw[<-hw0];clear hw0 hbx;refine wp_region_quiet_below (by kernel_rfl) (by kernel_rfl) ?_
 repeat (go_big_quiet_step (exact cS _ _))
 refine wpQuiet_nil ?_;intro _ hw';obtain⟨⟨dq,osq⟩,hw''⟩:=hw';subst hw'';go_wp2_with(fail)
 go_ret;exact⟨rfl,hk0.tr (below_regrown w0 dq osq)⟩
theorem KA (P M:Int) (vm:Value) (mod:List Int) (w:World) (hvm:Sl w vm mod) (hs:jq P M mod) (r:Int) (hr:(fD P M mod/\r=0)∨(¬fD P M mod/\r=1)):
  Calls Tryz.prog 18 #[.agg #[.int .i64 P,.int .i64 M,vm]] w fun e w'=>e=.returned (.int .i64 r)/\ay w w':=by
 have hk0:=ah w (.cells #[.int .i64 P,.int .i64 M,vm] 24);have hv1:=hvm.kept hk0;have hbx:=aS w P M vm 24;obtain⟨o1,o2,o3,o4,o5,o6⟩:=fK hs.1;obtain⟨m,rfl⟩:=zY (show 0<=M by omega);have hm:(m:Int).toNat=m:=by omega
 rw[hm] at o5 o6;have h1:1<=P^m:=uV (by omega);obtain⟨q,hq⟩:=zY (show 0<=P^m by omega);have HO:Hid (dw P m=q):=hid (by rw[o6,hq]);have Hq:=hid hq;have hq2:q<=256:=by omega
 have hml:1<m->mod.length=m:=fun h=>by have:=(hs.2.2.2 (by omega)).1;omega
 have hmd:fF P mod:=by
  by_cases e:m=1
  ·have:=hs.2.2.1 (by omega);subst this;intro x hx;cases hx
  ·exact(hs.2.2.2 (by omega)).2
 have HS:=hid hs;have HY:Hid (∀ x,1<=x->x< (q:Int)->kG P m mod q x->r=0):=hid (fun x g1 g2 g3=>by
  rcases hr with⟨_,h⟩|⟨h,_⟩
  ·exact h
  ·exact absurd ⟨hs,x,g1,by rw[HO.out];exact g2,by rw[HO.out];simpa using g3⟩ h)
 have HNN:Hid ((∀ x,1<=x->x< (q:Int)->¬ kG P m mod q x)->r=1):=hid (fun hno=>by
  rcases hr with⟨h,_⟩|⟨_,h⟩
  ·obtain⟨_,x,g1,g2,g3⟩:=h;rw[HO.out] at g2 g3;exact absurd (by simpa using g3) (hno x g1 g2)
  ·exact h)
 clear hs hq h1 o5 o6 hm hr;go_enter Tryz.func18,Tryz.ntmps18;go_wp2_with(fail)
 refine Classical.byCases (p:=∃ x,1<=x/\x< (q:Int)/\kG P m mod q x) (fun hex=>?_) (fun hno=>?_)
 ·obtain⟨x,x1,x2,x3⟩:=hex;have HR:=hid (HY.out x x1 x2 x3);have HX:Hid (∃ x,1<=x/\x< (q:Int)/\kG P m mod q x):=hid ⟨x,x1,x2,x3⟩;clear x1 x2 x3
  go_region_held3 (fun w'=>w'.cell? ⟨w.heap.size,0,none⟩=some (.int .i64 P)/\w'.cell? ⟨w.heap.size,1,none⟩=some (.int .i64 m)/\w'.cell? ⟨w.heap.size,2,none⟩=some vm) (first|(simp[go_sem];done)|(simp[*];done))
   (first
    |(go_at_call 44;(with_reducible refine(kR P m vm mod _ (hv1.kept (aC _)) true ⟨fun _=>HS.out,fun _=>rfl⟩).mono ?_);rintro e w1 ⟨rfl,hk1⟩;have bx1:=(hbx.kept (aC _)).kept hk1;have c0:=bx1.h0;have c1:=bx1.h1;have c2:=bx1.h2)
    |(go_at_call 46;(with_reducible refine(dP P m _).mono ?_);rintro e w2 ⟨rfl,n2,rfl⟩;rw[HO.out])
    |(go_at_call 45;(with_reducible refine(jB P m vm mod q _ (((hv1.kept (aC _)).kept hk1).kept (aB _ _)) o1 o2 (by omega) (by omega) Hq.out hq2 hml hmd).mono ?_);rintro e w3 ⟨hk3,(⟨g,v,g1,g2,g3,rfl,ho⟩|⟨hno,_⟩)⟩;rotate_left;(exact absurd HX.out (fun⟨x,g1,g2,g3⟩=>hno x g1 g2 g3));rcases ho.form with⟨_,hnil⟩|⟨ge,cap,rfl,hg1,hg2,hg3,hg4⟩;(exact absurd hnil (E5 _ _ _ _));have bx3:=(bx1.drewN n2).kept hk3;have d0:=bx3.h0;have d1:=bx3.h1;have d2:=bx3.h2))
  go_wp2_with(fail)
  go_ret;exact⟨aW HR.out.symm,(hk0.tr (aC _)).tr (hk1.tr (ay.tr (aB _ _) hk3))⟩
 ·have HR:=hid (HNN.out (fun x g1 g2 g3=>hno ⟨x,g1,g2,g3⟩));have HX:=hid hno;clear hno
  go_region_held3 (fun w'=>w'.cell? ⟨w.heap.size,0,none⟩=some (.int .i64 P)/\w'.cell? ⟨w.heap.size,1,none⟩=some (.int .i64 m)/\w'.cell? ⟨w.heap.size,2,none⟩=some vm) (first|(simp[go_sem];done)|(simp[*];done))
   (first|(go_at_call 44;(with_reducible refine(kR P m vm mod _ (hv1.kept (aC _)) true ⟨fun _=>HS.out,fun _=>rfl⟩).mono ?_);rintro e w1 ⟨rfl,hk1⟩;have bx1:=(hbx.kept (aC _)).kept hk1;have c0:=bx1.h0;have c1:=bx1.h1;have c2:=bx1.h2)|(go_at_call 46;(with_reducible refine(dP P m _).mono ?_);rintro e w2 ⟨rfl,n2,rfl⟩;rw[HO.out])|(go_at_call 45;(with_reducible refine(jB P m vm mod q _ (((hv1.kept (aC _)).kept hk1).kept (aB _ _)) o1 o2 (by omega) (by omega) Hq.out hq2 hml hmd).mono ?_);rintro e w3 ⟨hk3,(⟨g,v,g1,g2,g3,_⟩|⟨_,rfl⟩)⟩;(exact absurd ⟨g,g1,g2,g3⟩ HX.out);have bx3:=(bx1.drewN n2).kept hk3;have d0:=bx3.h0;have d1:=bx3.h1;have d2:=bx3.h2))
  go_wp2_with(fail)
  go_ret;exact⟨aW HR.out.symm,(hk0.tr (aC _)).tr (hk1.tr (ay.tr (aB _ _) hk3))⟩
theorem check_any (P M:Int) (vm:Value) (mod:List Int) (w:World) (hvm:Sl w vm mod) (r:Int) (hr:(fD P M mod/\r=0)∨(¬fD P M mod/\r=1)):
  Calls Tryz.prog 18 #[.agg #[.int .i64 P,.int .i64 M,vm]] w fun e w'=>e=.returned (.int .i64 r)/\ay w w':=by
 by_cases hs:jq P M mod
 ·exact KA P M vm mod w hvm hs r hr
 ·rcases hr with⟨h,_⟩|⟨_,rfl⟩
  ·exact absurd h.1 hs
  ·exact FV P M vm mod w hvm hs
end
end Go.Proofs.YtoilbeadokallaaGreatDoor
