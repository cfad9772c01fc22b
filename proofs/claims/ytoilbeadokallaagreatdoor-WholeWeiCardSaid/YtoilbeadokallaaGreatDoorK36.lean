/- Lemmas on the way to the row, merged: walks of functions and plain algebra. Conditions: each lemma's own, stated with it. -/
import Derived.Test.YtoilbeadokallaaGreatDoorK15
import Derived.Test.YtoilbeadokallaaGreatDoorK19
import Derived.Test.YtoilbeadokallaaGreatDoorK33
import Derived.Test.YtoilbeadokallaaGreatDoorK35
import Derived.Sort.OwnSorted
namespace Go.Proofs.YtoilbeadokallaaGreatDoor
open Go.RowKit Cw Cw.Gj
def fstZ (v:List Int):Int:=match fstNz v with | none=>-1 | some k=>k
theorem fst_some {v:List Int} {k:Nat} (h:fstNz v=some k):k < v.length∧v.getD k 0 ≠ 0∧∀ j,j < k→v.getD j 0=0:=by
 unfold fstNz at h
 rw [List.find?_range_eq_some] at h
 obtain ⟨h1,h2,h3⟩:=h
 exact ⟨by simpa using h2,by simpa using h1,fun j hj=>by simpa using h3 j hj⟩
theorem fst_none {v:List Int} (h:fstNz v=none):∀ j,j < v.length→v.getD j 0=0:=fun j hj=>by
 unfold fstNz at h
 rw [List.find?_range_eq_none] at h
 simpa using h j hj
set_option maxHeartbeats 800000 in
theorem nz1_ok (x:Int) (w:World):Calls Tryz.prog 291 #[.int .i64 x] w fun e w'=>e=.returned (.bool (x != 0))∧w=w':=by
 go_enter Tryz.func291,Tryz.ntmps291
 go_wp2_with (fail)
 go_ret
 exact ⟨rfl,rfl⟩
set_option maxHeartbeats 800000 in
theorem nz1_if (v:Value) (l:List Int) (w:World) (hv:Sl w v l) :
  Calls Tryz.prog 35 #[v,.func (.func 291) #[] #[]] w fun e w'=>e=.returned (.int .i64 (fstZ l))∧w=w':=by
 obtain ⟨a,cap,rfl,hcap,⟨hcm,_⟩,hc⟩:=hv
 unfold maxLen at hcm
 go_enter Tryz.func35,Tryz.ntmps35
 go_wp2_with (fail)
 go_loop [8] (fun vi=>∃ j:Nat,j≤l.length∧vi=.int .i64 j∧Hid (∀ i,i < j→l.getD i 0=0)) (fun vi=>l.length - (intOf vi).toNat)
 case atStart=>exact ⟨0,by omega,rfl,hid (fun i hi=>absurd hi (Nat.not_lt_zero _))⟩
 case round =>
  obtain ⟨j,hj,rfl,hz0⟩:=hrel
  by_cases hlt:j < l.length
  ·have hlt':(j:Int) < (l.length:Int):=by omega
   obtain ⟨bl,off,rfl,hb,hcell⟩:=hc (by intro e;rw [e] at hlt;simp at hlt)
   have hck:=hcell j hlt
   obtain ⟨z,hz⟩:∃ z,z=l.getD j 0:=⟨_,rfl⟩
   rw [← hz] at hck
   have HZ:=hid hz
   clear hcell hz hc
   by_cases e:z=0
   ·have tz:(z != 0)=false:=by simpa using e
    have HE:=hid e
    clear e
    go_wp2_with (fail)
    refine (nz1_ok z w).mono ?_
    rintro e w' ⟨rfl,rfl⟩
    go_wp2_with (fail)
    go_round
    case rel=>exact ⟨j + 1,by omega,by go_num,hid (fun i hi=>by
     by_cases q:i=j
     ·rw [q,← HZ.out];exact HE.out
     ·exact hz0.out i (by omega))⟩
    case measure=>simp [intOf];omega
   ·have tz:(z != 0)=true:=by simpa using e
    have hf:Hid (fstZ l=j):=hid (by
     unfold fstZ
     cases q:fstNz l with
     | none=>exact absurd (HZ.out.trans (fst_none q j hlt)) e
     | some k =>
      obtain ⟨h1,h2,h3⟩:=fst_some q
      show (k:Int)=j
      rcases Nat.lt_trichotomy k j with r | r | r
      ·exact absurd (hz0.out k r) h2
      ·rw [r]
      ·exact absurd (HZ.out.trans (h3 j r)) e)
    clear e
    go_wp2_with (fail)
    refine (nz1_ok z w).mono ?_
    rintro e w' ⟨rfl,rfl⟩
    go_wp2_with (fail)
    go_ret
    exact ⟨ret_int hf.out.symm,rfl⟩
  ·have hf:Hid (fstZ l=-1):=hid (by
    unfold fstZ
    cases q:fstNz l with
    | none=>rfl
    | some k =>
     obtain ⟨h1,h2,_⟩:=fst_some q
     exact absurd (hz0.out k (by omega)) h2)
   clear hc
   go_wp2_with (fail)
   go_ret
   exact ⟨ret_int hf.out.symm,rfl⟩
set_option maxHeartbeats 800000 in
theorem nz2_ok (x:Int) (w:World):Calls Tryz.prog 177 #[.int .i64 x] w fun e w'=>e=.returned (.bool (x != 0))∧w=w':=by
 go_enter Tryz.func177,Tryz.ntmps177
 go_wp2_with (fail)
 go_ret
 exact ⟨rfl,rfl⟩
set_option maxHeartbeats 800000 in
theorem nz2_if (v:Value) (l:List Int) (w:World) (hv:Sl w v l) :
  Calls Tryz.prog 35 #[v,.func (.func 177) #[] #[]] w fun e w'=>e=.returned (.int .i64 (fstZ l))∧w=w':=by
 obtain ⟨a,cap,rfl,hcap,⟨hcm,_⟩,hc⟩:=hv
 unfold maxLen at hcm
 go_enter Tryz.func35,Tryz.ntmps35
 go_wp2_with (fail)
 go_loop [8] (fun vi=>∃ j:Nat,j≤l.length∧vi=.int .i64 j∧Hid (∀ i,i < j→l.getD i 0=0)) (fun vi=>l.length - (intOf vi).toNat)
 case atStart=>exact ⟨0,by omega,rfl,hid (fun i hi=>absurd hi (Nat.not_lt_zero _))⟩
 case round =>
  obtain ⟨j,hj,rfl,hz0⟩:=hrel
  by_cases hlt:j < l.length
  ·have hlt':(j:Int) < (l.length:Int):=by omega
   obtain ⟨bl,off,rfl,hb,hcell⟩:=hc (by intro e;rw [e] at hlt;simp at hlt)
   have hck:=hcell j hlt
   obtain ⟨z,hz⟩:∃ z,z=l.getD j 0:=⟨_,rfl⟩
   rw [← hz] at hck
   have HZ:=hid hz
   clear hcell hz hc
   by_cases e:z=0
   ·have tz:(z != 0)=false:=by simpa using e
    have HE:=hid e
    clear e
    go_wp2_with (fail)
    refine (nz2_ok z w).mono ?_
    rintro e w' ⟨rfl,rfl⟩
    go_wp2_with (fail)
    go_round
    case rel=>exact ⟨j + 1,by omega,by go_num,hid (fun i hi=>by
     by_cases q:i=j
     ·rw [q,← HZ.out];exact HE.out
     ·exact hz0.out i (by omega))⟩
    case measure=>simp [intOf];omega
   ·have tz:(z != 0)=true:=by simpa using e
    have hf:Hid (fstZ l=j):=hid (by
     unfold fstZ
     cases q:fstNz l with
     | none=>exact absurd (HZ.out.trans (fst_none q j hlt)) e
     | some k =>
      obtain ⟨h1,h2,h3⟩:=fst_some q
      show (k:Int)=j
      rcases Nat.lt_trichotomy k j with r | r | r
      ·exact absurd (hz0.out k r) h2
      ·rw [r]
      ·exact absurd (HZ.out.trans (h3 j r)) e)
    clear e
    go_wp2_with (fail)
    refine (nz2_ok z w).mono ?_
    rintro e w' ⟨rfl,rfl⟩
    go_wp2_with (fail)
    go_ret
    exact ⟨ret_int hf.out.symm,rfl⟩
  ·have hf:Hid (fstZ l=-1):=hid (by
    unfold fstZ
    cases q:fstNz l with
    | none=>rfl
    | some k =>
     obtain ⟨h1,h2,_⟩:=fst_some q
     exact absurd (hz0.out k (by omega)) h2)
   clear hc
   go_wp2_with (fail)
   go_ret
   exact ⟨ret_int hf.out.symm,rfl⟩
end Go.Proofs.YtoilbeadokallaaGreatDoor
namespace Go.Proofs.YtoilbeadokallaaGreatDoor
open Go.RowKit Cw Cw.Gj
def chO (m most:Nat):Nat→Option Nat
 | 0=>some 1
 | i + 1=>match chO m most i with
  | none=>none
  | some o=>if most < o * (m + (i + 1)) / (i + 1) then none else some (o * (m + (i + 1)) / (i + 1))
def prO (most:Int):List Int→Int→Option Int
 | [],out=>if most < out then none else some out
 | x :: l,out=>if most / x < out then none else prO most l (out * x)
def cmpL:List Int→List Int→Int
 | [],[]=>0
 | [],_ :: _=>-1
 | _ :: _,[]=>1
 | a :: s,b :: t=>if a < b then -1 else if b < a then 1 else cmpL s t
def lookV (o:Cw.Op) (w:List Int):List Int:=w.map fun y=>o.mul (o.inv (w.getD ((fstNz w).getD 0) 0)) y
def lookL (o:Cw.Op) (w:List Int) (s:List Int × Int):List Int × Int :=
 if wt w=0 ∨ (0 < wt s.1∧wt s.1 < wt w) then (s.1,IntKind.i64.wrap (s.2 + 1)) else
  if wt s.1=0 ∨ wt w < wt s.1 ∨ cmpL (lookV o w) s.1 < 0 then (lookV o w,IntKind.i64.wrap (s.2 + 1)) else (s.1,IntKind.i64.wrap (s.2 + 1))
def sumA (o:Cw.Op) (r w:List Int) (rec:List Int→List Int × Int→List Int × Int):Nat→Nat→List Int × Int→List Int × Int
 | 0,_,s=>s
 | f + 1,a,s=>sumA o r w rec f (a + 1) (rec (axpy o a r w) s)
def sumI (o:Cw.Op) (q:Nat) (B:List (List Int)) (w:List Int) (alone:Bool) (rec:Nat→List Int→List Int × Int→List Int × Int):Nat→Nat→List Int × Int→List Int × Int
 | 0,_,s=>s
 | f + 1,i,s=>sumI o q B w alone rec f (i + 1) (sumA o (Gj.row B i) w (rec (i + 1)) (if alone then min 1 (q - 1) else q - 1) 1 s)
def sumsL (o:Cw.Op) (q:Nat) (B:List (List Int)):Nat→List Int→Nat→Bool→List Int × Int→List Int × Int
 | 0,w,_,_,s=>lookL o w s
 | n + 1,w,first,alone,s=>sumI o q B w alone (fun i v s=>sumsL o q B n v i false s) (B.length - n - first) first s
def gensL (o:Cw.Op) (q n w:Nat) (Gs:List (List (List Int))) (s:List Int × Int):List Int × Int:=Gs.foldl (fun s B=>sumsL o q B w (List.replicate n 0) 0 true s) s
def prR (most:Int) (l:List Int):Option Int:=if most < 0 then none else prO most l 1
def chR (n k most:Nat):Option Nat:=if n < k then some 0 else chO (n - min k (n - k)) most (min k (n - k))
def MoreP (k q g:Nat) (words:Int) (w:Nat):Prop:=q=2∧∃ n,chR k w 65536=some n∧prR (IntKind.i64.wrap (65536 - words)) [(g:Int),(n:Int),1] ≠ none
inductive RunO (o:Cw.Op) (k q n:Nat) (Gs:List (List (List Int))) (rk:List Int):Nat→List Int × Int→Option (List Int)→Prop
 | big (w:Nat) (s:List Int × Int) (hw:w≤k) (h:¬ MoreP k q Gs.length s.2 w):RunO o k q n Gs rk w s none
 | stop (w:Nat) (s:List Int × Int) (hw:w≤k) (h:(wt (gensL o q n w Gs s).1:Int) < floorL k w rk):RunO o k q n Gs rk w s (some (gensL o q n w Gs s).1)
 | next (w:Nat) (s:List Int × Int) (r:Option (List Int)) (hw:w≤k) (h:¬ (wt (gensL o q n w Gs s).1:Int) < floorL k w rk) (hr:RunO o k q n Gs rk (w + 1) (gensL o q n w Gs s) r):RunO o k q n Gs rk w s r
 | done (w:Nat) (s:List Int × Int) (hw:k < w):RunO o k q n Gs rk w s (some s.1)
def colsL (A:List (List Int)) (S:List Nat):List (List Int):=A.map fun r=>S.map fun j=>r.getD j 0
def unitL (n:Nat):List (List Int):=(List.range n).map fun i=>(List.replicate n 0).set i 1
def vecL (o:Cw.Op) (B:List (List Int)) (cols:Nat) (x:List Int):List Int:=(List.range x.length).foldl (fun v i=>if x.getD i 0=0 then v else axpy o (x.getD i 0) (Gj.row B i) v) (List.replicate cols 0)
def mulL (o:Cw.Op) (X B:List (List Int)) (cols:Nat):List (List Int):=X.map (vecL o B cols)
def invL (o:Cw.Op) (X:List (List Int)):List (List Int) × List Nat:=((gjP o X.length 0 X (unitL X.length) []).2.1,(gjP o X.length 0 X (unitL X.length) []).2.2)
def sysL (o:Cw.Op) (A:List (List Int)) (n:Nat) (S:List Nat):List (List Int):=mulL o (invL o (colsL A S)).1 A n
theorem sys_ham1:sysL op2 ham4 7 [0,1,2,3]=ham4∧(invL op2 (colsL ham4 [0,1,2,3])).2.length=4:=by decide
def ham4b:List (List Int):=[[1,1,1,0,0,0,0],[0,1,1,1,1,0,0],[0,1,0,1,0,1,0],[0,0,1,1,0,0,1]]
theorem sys_ham2:sysL op2 ham4 7 [0,4,5,6]=ham4b∧(invL op2 (colsL ham4 [0,4,5,6])).2.length=4:=by decide
theorem more1:MoreP 4 2 2 0 1:=⟨rfl,4,by decide,by decide⟩
theorem round1:gensL op2 2 7 1 [ham4,ham4b] ([],0)=([0,0,1,0,1,1,0],8):=by decide
theorem more2:MoreP 4 2 2 8 2:=⟨rfl,6,by decide,by decide⟩
theorem round2:gensL op2 2 7 2 [ham4,ham4b] ([0,0,1,0,1,1,0],8)=([0,0,1,0,1,1,0],20):=by decide
theorem run_ham (r:Option (List Int)) (h:RunO op2 4 2 7 [ham4,ham4b] [4,3] 1 ([],0) r):r=some [0,0,1,0,1,1,0]:=by
 cases h with
 | big _ _ _ h=>exact absurd more1 h
 | stop _ _ _ h=>rw [round1] at h;exact absurd h (by decide)
 | next _ _ _ _ _ h =>
  rw [round1] at h
  cases h with
  | big _ _ _ h=>exact absurd more2 h
  | stop=>rw [round2]
  | next _ _ _ _ h=>exact absurd (by rw [round2];decide) h
  | done _ _ h=>exact absurd h (by decide)
 | done _ _ h=>exact absurd h (by decide)
end Go.Proofs.YtoilbeadokallaaGreatDoor
namespace Go.Proofs.YtoilbeadokallaaGreatDoor
open Go.RowKit Go.Sort Cw Cw.Gj
def sortI (l:List Int):List Int:=l.mergeSort fun x y=>decide (x≤y)
theorem sortI_len (l:List Int):(sortI l).length=l.length:=by simp [sortI]
theorem holds_ints {w:World} {g:Nat} {cur:Array Value} {e:TypeId} {l:List Int} (hb:w.heap[g]?=some (.cells cur e (0,0))) (ht:cur.toList.take l.length=l.map (Value.int .i64)):Holds (Value.int .i64) w g 0 l.toArray:=by
 intro j hj
 have hj':j < l.length:=by simpa using hj
 refine ⟨?_,by simp [World.frozen?,hb]⟩
 have h1:(cur.toList.take l.length)[j]?=(l.map (Value.int .i64))[j]?:=by rw [ht]
 rw [List.getElem?_take_of_lt hj'] at h1
 simp only [World.cell?,hb,Nat.zero_add]
 simp only [Option.isSome_none,Bool.false_eq_true,if_false]
 rw [← Array.getElem?_toList,h1]
 simp [hj']
theorem heap_sortI {w:World} {g n:Nat} {os:Array Obj} {cur:Array Value} {e:TypeId} {fr:Nat × Nat} (d:Array Int) (hb:w.heap[g]?=some (.cells cur e fr)) :
  (grow (putRow (Value.int .i64) (Sort.ahead w n) g 0 d) os).heap[g]?=some (.cells (putCells (Value.int .i64) 0 d cur) e fr):=by
 have hg:g < w.heap.size:=(Array.getElem?_eq_some_iff.1 hb).1
 rw [heap_grow_old _ _ (by simpa using hg)]
 simp [putRow,mapBlock,Sort.ahead,Array.getElem?_modify,hb,onCells]
theorem grownBy_sortI {w:World} {g n:Nat} {os:Array Obj} (d:Array Int):w.grownBy (grow (putRow (Value.int .i64) (Sort.ahead w n) g 0 d) os) (some g):=by
 refine ⟨rfl,rfl,rfl,by simp,fun k hk hne=>?_⟩
 rw [heap_grow_old _ _ (by simpa using hk)]
 have:g ≠ k:=fun e=>hne (by rw [e])
 simp [putRow,mapBlock,Sort.ahead,Array.getElem?_modify,this]
theorem take_putI (cur:Array Value) (ts:List Int) (h:ts.length≤cur.size):(putCells (Value.int .i64) 0 ts.toArray cur).toList.take ts.length=ts.map (Value.int .i64):=by
 apply List.ext_getElem?
 intro j
 by_cases hj:j < ts.length
 ·rw [List.getElem?_take_of_lt hj,Array.getElem?_toList]
  simp [putCells,hj,show j < cur.size by omega]
 ·rw [List.getElem?_take_eq_none (by omega),List.getElem?_eq_none (by simp;omega)]
theorem sort_own (v:Value) (l:List Int) (B:Nat) (w:World) (hv:Own w B v l) (hl:l.length≤1000000) :
  Calls Tryz.prog 103 #[v] w fun e w'=>e=.returned (.tuple #[])∧Own w' B v (sortI l)∧((w'=w∧v.ownBlock=none) ∨ ∃ g,v.ownBlock=some g∧w.grownBy w' (some g)):=by
 obtain ⟨h0,h⟩:=hv
 rcases h with ⟨rfl,hn⟩ | ⟨g,cap,cur,rfl,hbase,hb,h1,h2,h3,h4⟩
 ·have e:l=[]:=List.eq_nil_of_length_eq_zero hn
  subst e
  refine (Any.slices_Sort_int_none Tryz.laysSort none 0 w).mono ?_
  rintro e w' ⟨rfl,rfl⟩
  exact ⟨rfl,by unfold sortI;simp;exact own_nil _ _,.inl ⟨rfl,rfl⟩⟩
 ·refine (Any.slices_Sort_int Tryz.laysSort g 0 cap l w (holds_ints hb (by simpa using h4)) (Array.getElem?_eq_some_iff.1 hb).1 (by omega)).mono ?_
  rintro e w' ⟨rfl,n,os,rfl⟩
  refine ⟨rfl, ?_,.inr ⟨g,rfl,grownBy_sortI _⟩⟩
  have hlen:(sortI l).length=l.length:=sortI_len l
  refine ⟨by simp,.inr ⟨g,cap,_,by rw [hlen],hbase,heap_sortI _ hb,by rw [hlen];exact h1,h2,by simp [putCells,h3], ?_⟩⟩
  rw [Nat.mul_one]
  have:=take_putI cur (sortI l) (by rw [hlen];omega)
  simpa [sortI] using this
end Go.Proofs.YtoilbeadokallaaGreatDoor
namespace Go.Proofs.YtoilbeadokallaaGreatDoor
open Go.RowKit Cw Cw.Gj
theorem subL_len (o:Cw.Op) (x:Int) (r v:List Int):(subL o x r v).length=v.length:=by simp [subL]
theorem subL_get {o:Cw.Op} {x:Int} {r v:List Int} {j:Nat} (h:j < v.length):(subL o x r v).getD j 0=o.add (v.getD j 0) (o.neg (o.mul x (r.getD j 0))):=by simp [subL,List.getD,h]
theorem bred_step {o:Cw.Op} {rs:List (List Int)} {ps:List Nat} {i:Nat} (h:i < rs.length) (hl:ps.length=rs.length) (v:List Int) :
  bredL o (rs.drop i) (ps.drop i) v=bredL o (rs.drop (i + 1)) (ps.drop (i + 1)) (if v.getD (ps.getD i 0) 0=0 then v else subL o (v.getD (ps.getD i 0) 0) (Gj.row rs i) v):=by
 have h':i < ps.length:=by omega
 rw [List.drop_eq_getElem_cons h,List.drop_eq_getElem_cons h',bredL]
 have e1:ps.getD i 0=ps[i]:=by simp [List.getD,h']
 have e2:Gj.row rs i=rs[i]:=by simp [Gj.row,List.getD,h]
 rw [e1,e2]
theorem bred_end {o:Cw.Op} {rs:List (List Int)} {ps:List Nat} {i:Nat} (h:rs.length≤i) (v:List Int):bredL o (rs.drop i) (ps.drop i) v=v:=by
 rw [List.drop_eq_nil_of_le h,bredL]
 intro r rs p ps e;cases e
theorem badd_no {o:Cw.Op} {rs:List (List Int)} {ps:List Nat} {v:List Int} (h:fstZ (bredL o rs ps v) < 0):baddL o rs ps v=(rs,ps,false):=by
 unfold fstZ at h
 unfold baddL
 cases q:fstNz (bredL o rs ps v) with
 | none=>simp [q]
 | some k=>rw [q] at h;exact absurd h (by simp)
theorem badd_yes {o:Cw.Op} {rs:List (List Int)} {ps:List Nat} {v:List Int} (h:¬ fstZ (bredL o rs ps v) < 0):∃ k:Nat,fstZ (bredL o rs ps v)=k∧k < (bredL o rs ps v).length∧(bredL o rs ps v).getD k 0 ≠ 0 ∧
  baddL o rs ps v=(rs ++ [(bredL o rs ps v).map fun y=>o.mul (o.inv ((bredL o rs ps v).getD k 0)) y],ps ++ [k],true):=by
 cases q:fstNz (bredL o rs ps v) with
 | none=>exact absurd (by simp [fstZ,q]) h
 | some k =>
  obtain ⟨h1,h2,_⟩:=fst_some q
  exact ⟨k,by simp [fstZ,q],h1,h2,by simp [baddL,q]⟩
def BaS (bb:Nat) (vr:Value) (rv:Nat→Value) (n:Nat) (vp:Value) (x:Nat):Prop:=x=bb ∨ Has vr rv n x ∨ vp.ownBlock=some x
structure BaM (w:World) (B0 bb b:Nat) (rs:List (List Int)) (ps:List Nat) (vr:Value) (rv:Nat→Value) (vp:Value):Prop where
 bk:Bk w bb [.pointer (some ⟨b,0,none⟩),vr,vp]
 fz:Fz w bb
 lo:B0≤bb
 m:Mx w B0 vr rs rv
 p:Own w B0 vp (ints ps)
 n1:¬ Has vr rv rs.length bb
 n2:vp.ownBlock ≠ some bb
 n3:∀ x,Has vr rv rs.length x→vp.ownBlock ≠ some x
theorem BaM.kept {w w':World} {B0 bb b:Nat} {rs:List (List Int)} {ps:List Nat} {vr:Value} {rv:Nat→Value} {vp:Value} (h:BaM w B0 bb b rs ps vr rv vp) (k:Kept w w'):BaM w' B0 bb b rs ps vr rv vp :=
 ⟨h.bk.kept k,h.fz.kept k,h.lo,h.m.kept k,h.p.kept k,h.n1,h.n2,h.n3⟩
theorem BaM.lt {w:World} {B0 bb b:Nat} {rs:List (List Int)} {ps:List Nat} {vr:Value} {rv:Nat→Value} {vp:Value} (h:BaM w B0 bb b rs ps vr rv vp) {x:Nat} (hx:BaS bb vr rv rs.length vp x):B0≤x∧x < w.heap.size:=by
 rcases hx with rfl | hx | hx
 ·exact ⟨h.lo,h.bk.1⟩
 ·exact h.m.has_lt hx
 ·exact own_blk h.p hx
theorem BaM.grown {w w':World} {B0 bb b:Nat} {rs:List (List Int)} {ps:List Nat} {vr:Value} {rv:Nat→Value} {vp:Value} (h:BaM w B0 bb b rs ps vr rv vp) {x:Nat} (hg:w.grownBy w' (some x)) (hx:¬ BaS bb vr rv rs.length vp x):BaM w' B0 bb b rs ps vr rv vp:=by
 have e:bb ≠ x:=fun e=>hx (.inl e.symm)
 refine ⟨h.bk.gb hg e,h.fz.gb hg e,h.lo,h.m.grown hg (fun q=>hx (.inr (.inl q))),h.p.grownBy hg ?_,h.n1,h.n2,h.n3⟩
 cases q:vp.ownBlock with
 | none=>exact .inl rfl
 | some y=>exact .inr fun e2=>hx (.inr (.inr (by rw [q];exact e2)))
theorem fr_gb {S:Nat→Prop} {a b c:World} {g:Nat} (h:a.grownBy b (some g)) (k:Fr S b c) (hg:S g):Fr S a c :=
 ⟨k.os.trans h.os,k.tape.trans h.tape,k.output.trans h.output,Nat.le_trans h.size k.size,fun i hi hn=>(k.block i (Nat.lt_of_lt_of_le hi h.size) hn).trans (h.block i hi (fun e=>hn (by cases e;exact hg)))⟩
theorem fr_gbo {S:Nat→Prop} {a b:World} {x:Option Nat} (h:a.grownBy b x) (hg:∀ g,x=some g→S g):Fr S a b:=⟨h.os,h.tape,h.output,h.size,fun i hi hn=>h.block i hi (fun e=>hn (hg i e.symm))⟩
section
variable {w w4 w5 w6:World} {B0 bb b:Nat} {rs:List (List Int)} {ps:List Nat} {vr:Value} {rv:Nat→Value} {vp:Value}
theorem step_append_rows' {w:World} {ops:Array Oper} {o:Oper} {a:Act} {K:Act→World→Prop} {Q:Exit→Act→World→Prop} {E:Prop} (hgd:o.guard=none) (s x:Operand)
  (ho:o.op=.call { callee:=.builtin .append,args:=#[s,x],argTypes:=#[27,27] }) (B:Nat) (v:Value) (m:Nat) (rs:List Value) (hs:a.eval s=v) (hown:w.ownsRow B 22 1 v m rs)
  (ad:Addr) (y:Value) (hx:a.eval x=.slice (some ad) 1 1) (hc:w.cell? ad=some y) (hy:y.oneCell'=true) (hlen:m + 1≤1000000) (hB:B≤w.heap.size)
  (h:∀ w5 v' w',w5=w→w'.ownsRow B 22 1 v' (m + 1) (rs ++ [y])→w5.grownBy w' v.ownBlock→(v'.ownBlock=v.ownBlock ∨ v'.ownBlock=some w5.heap.size)→K (a.put o.dst v') w') :
  if Region.wanted o (yielded ops a.tmps)=true then Oper.wp Tryz.prog o a w K Q else E :=
 step_append_rows hgd s x ho B v m rs hs hown ad y hx hc hy hlen hB fun v' w' h1 h2 h3=>h w v' w' rfl h1 h2 h3
theorem BaM.addRow (h:BaM w B0 bb b rs ps vr rv vp) (k:Kept w w5) {u v6:Value} {l:List Int} (ho:Own w5 w.heap.size u l)
  (o6:w6.ownsRow B0 22 1 v6 (rs.length + 1) ((List.range rs.length).map rv ++ [u])) (hg:w5.grownBy w6 vr.ownBlock) (hd:v6.ownBlock=vr.ownBlock ∨ v6.ownBlock=some w5.heap.size) :
  BaM (w6.setCell ⟨bb,1,none⟩ v6) B0 bb b (rs ++ [l]) ps v6 (fun i=>if i=rs.length then u else rv i) vp∧(∀ x,BaS bb v6 (fun i=>if i=rs.length then u else rv i) (rs ++ [l]).length vp x→BaS bb vr rv rs.length vp x ∨ w.heap.size≤x) ∧
   Fr (BaS bb vr rv rs.length vp) w (w6.setCell ⟨bb,1,none⟩ v6):=by
 have hB:B0≤w.heap.size:=Nat.le_of_lt (Nat.lt_of_le_of_lt h.lo h.bk.1)
 have hnew:∀ x,Has v6 (fun i=>if i=rs.length then u else rv i) (rs.length + 1) x→Has vr rv rs.length x ∨ w.heap.size≤x:=fun x hx=>by
  rcases hx with e | ⟨i,hi,e⟩
  ·rcases hd with q | q
   ·exact .inl (.inl (by rw [← q];exact e))
   ·rw [q] at e
    have:w5.heap.size=x:=by simpa using e
    exact .inr (by have:=k.size;omega)
  ·by_cases q:i=rs.length
   ·simp only [q,if_true] at e
    exact .inr (own_blk ho e).1
   ·simp only [q,if_false] at e
    exact .inl (.inr ⟨i,by omega,e⟩)
 have hol:∀ {g:Nat},Has vr rv rs.length g→B0≤g∧g < w.heap.size:=fun hg=>h.m.has_lt hg
 have hpl:=fun x e=>(own_blk h.p (g:=x) e)
 have m6:=(h.m.kept k).add (ho.mono hB) (fun x hx j hj e=>by
  have h1:=own_blk ho hx
  have h2:=hol (.inr ⟨j,hj,e⟩)
  omega) o6 hg
 have nbb:¬ Has v6 (fun i=>if i=rs.length then u else rv i) (rs.length + 1) bb:=fun q=>by
  rcases hnew _ q with q | q
  ·exact h.n1 q
  ·have:=h.bk.1;omega
 have gs:=grownBy_setCell w6 bb 1 v6
 have hvp:∀ x,vp.ownBlock=none ∨ vp.ownBlock ≠ some x ∨ vp.ownBlock=some x:=fun x=>by
  by_cases q:vp.ownBlock=some x
  ·exact .inr (.inr q)
  ·exact .inr (.inl q)
 have p6:Own w6 B0 vp (ints ps):=(h.p.kept k).grownBy hg (by
  cases q:vp.ownBlock with
  | none=>exact .inl rfl
  | some y=>exact .inr fun e=>h.n3 y (.inl e.symm) q)
 have nvr:vr.ownBlock ≠ some bb:=fun e=>h.n1 (.inl e)
 refine ⟨⟨((h.bk.kept k).gbo hg nvr).set 1 v6, ?_,h.lo, ?_, ?_, ?_,h.n2,fun x hx=>?_⟩,fun x hx=>?_, ?_⟩
 ·exact ⟨by have:=((h.fz.kept k).gbo hg nvr).1;simpa using this,fun i=>by rw [World.frozen?_setCell];exact ((h.fz.kept k).gbo hg nvr).2 i⟩
 ·exact m6.grown gs (by rw [List.length_append];exact nbb)
 ·exact p6.grownBy gs (by
   cases q:vp.ownBlock with
   | none=>exact .inl rfl
   | some y=>exact .inr fun e=>h.n2 (q.trans e))
 ·rw [List.length_append];exact nbb
 ·rw [List.length_append] at hx
  intro e
  rcases hnew x hx with q | q
  ·exact h.n3 x q e
  ·have:=(hpl x e).2;omega
 ·rw [List.length_append] at hx
  rcases hx with rfl | hx | hx
  ·exact .inl (.inl rfl)
  ·rcases hnew x hx with q | q
   ·exact .inl (.inr (.inl q))
   ·exact .inr q
  ·exact .inl (.inr (.inr hx))
 ·have f1:Fr (BaS bb vr rv rs.length vp) w5 (w6.setCell ⟨bb,1,none⟩ v6):=(fr_gbo hg (fun g e=>.inr (.inl (.inl e)))).tr (Fr.of_gb (S:=BaS bb vr rv rs.length vp) gs (.inl rfl)) (fun _ _ q=>q)
  exact (Fr.of_kept (BaS bb vr rv rs.length vp) k).tr f1 (fun _ _ q=>q)
theorem BaM.addPlace (h:BaM w B0 bb b rs ps vr rv vp) (k:Kept w w5) {v6:Value} {p:Nat}
  (o6:Own w6 B0 v6 (ints ps ++ [(p:Int)])) (hg:w5.grownBy w6 vp.ownBlock) (hd:vp.ownBlock=v6.ownBlock ∨ ∃ y,v6.ownBlock=some y∧w5.heap.size≤y) :
  BaM (w6.setCell ⟨bb,2,none⟩ v6) B0 bb b rs (ps ++ [p]) vr rv v6∧(∀ x,BaS bb vr rv rs.length v6 x→BaS bb vr rv rs.length vp x ∨ w.heap.size≤x) ∧
   Fr (BaS bb vr rv rs.length vp) w (w6.setCell ⟨bb,2,none⟩ v6):=by
 have hol:∀ {g:Nat},Has vr rv rs.length g→B0≤g∧g < w.heap.size:=fun hg=>h.m.has_lt hg
 have hnew:∀ x,v6.ownBlock=some x→vp.ownBlock=some x ∨ w.heap.size≤x:=fun x e=>by
  rcases hd with q | ⟨y,q,hy⟩
  ·exact .inl (q.trans e)
  ·rw [q] at e
   have:y=x:=by simpa using e
   exact .inr (by have:=k.size;omega)
 have gs:=grownBy_setCell w6 bb 2 v6
 have nv6:v6.ownBlock ≠ some bb:=fun e=>by
  rcases hnew _ e with q | q
  ·exact h.n2 q
  ·have:=h.bk.1;omega
 have m6:Mx w6 B0 vr rs rv:=by
  cases q:vp.ownBlock with
  | none =>
   rw [q] at hg
   exact (h.m.kept k).kept ⟨hg.os,hg.tape,hg.output,hg.size,fun i hi=>hg.block i hi (by simp)⟩
  | some y =>
   rw [q] at hg
   exact (h.m.kept k).grown hg (fun e=>h.n3 y e q)
 refine ⟨⟨((h.bk.kept k).gbo hg h.n2).set 2 v6, ?_,h.lo,m6.grown gs h.n1, ?_,h.n1,nv6,fun x hx e=>?_⟩,fun x hx=>?_, ?_⟩
 ·exact ⟨by have:=((h.fz.kept k).gbo hg h.n2).1;simpa using this,fun i=>by rw [World.frozen?_setCell];exact ((h.fz.kept k).gbo hg h.n2).2 i⟩
 ·have e:ints (ps ++ [p])=ints ps ++ [(p:Int)]:=by simp [ints]
  rw [e]
  exact o6.grownBy gs (by
   cases q:v6.ownBlock with
   | none=>exact .inl rfl
   | some y=>exact .inr fun e=>nv6 (q.trans e))
 ·rcases hnew x e with q | q
  ·exact h.n3 x hx q
  ·have:=hol hx;omega
 ·rcases hx with rfl | hx | hx
  ·exact .inl (.inl rfl)
  ·exact .inl (.inr (.inl hx))
  ·rcases hnew x hx with q | q
   ·exact .inl (.inr (.inr q))
   ·exact .inr q
 ·have f1:Fr (BaS bb vr rv rs.length vp) w5 (w6.setCell ⟨bb,2,none⟩ v6):=(fr_gbo hg (fun g e=>.inr (.inr e))).tr (Fr.of_gb (S:=BaS bb vr rv rs.length vp) gs (.inl rfl)) (fun _ _ q=>q)
  exact (Fr.of_kept (BaS bb vr rv rs.length vp) k).tr f1 (fun _ _ q=>q)
end
end Go.Proofs.YtoilbeadokallaaGreatDoor
