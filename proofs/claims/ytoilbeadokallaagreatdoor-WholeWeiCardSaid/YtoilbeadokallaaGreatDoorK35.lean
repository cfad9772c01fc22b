/- Lemmas on the way to the row, merged: walks of functions and plain algebra. Conditions: each lemma's own, stated with it. -/
import Derived.Test.YtoilbeadokallaaGreatDoorK05
import Derived.Test.YtoilbeadokallaaGreatDoorK34
namespace Go.Proofs.YtoilbeadokallaaGreatDoor
open Go.RowKit Cw Cw.Gj
def colL (A:List (List Int)) (i:Nat):List Int:=(List.range A.length).map fun j=>en A j i
def colP (A:List (List Int)) (i k:Nat):List Int:=(List.range A.length).map fun j=>if j < k then en A j i else 0
theorem colP_zero (A:List (List Int)) (i:Nat):colP A i 0=List.replicate A.length 0:=by
 refine List.ext_getElem (by simp [colP]) fun j h1 h2=>?_
 simp [colP]
theorem colP_full (A:List (List Int)) (i:Nat):colP A i A.length=colL A i:=by
 refine List.ext_getElem (by simp [colP,colL]) fun j h1 h2=>?_
 have:j < A.length:=by simpa [colP] using h1
 simp [colP,colL,this]
theorem colP_set {A:List (List Int)} {i k:Nat}:(colP A i k).set k (en A k i)=colP A i (k + 1):=by
 refine List.ext_getElem (by simp [colP]) fun j h1 h2=>?_
 rw [List.getElem_set]
 by_cases e:k=j
 ·subst e;simp [colP]
 ·have:(j < k)=(j < k + 1):=by rw [eq_iff_iff];omega
  simp [colP,e,this]
theorem colP_len (A:List (List Int)) (i k:Nat):(colP A i k).length=A.length:=by simp [colP]
set_option maxRecDepth 100000 in
set_option maxHeartbeats 2000000 in
theorem column_any (P M:Int) (vm:Value) (n:Int) (va:Option Addr) (vc:Nat) (A:List (List Int)) (i:Nat) (w:World) (hv:Rd w (.slice va A.length vc) A) (hi:∀ k,k < A.length→i < (Gj.row A k).length) (hl:A.length≤1000) :
  Calls Tryz.prog 170 #[.agg #[.int .i64 P,.int .i64 M,vm,.int .i64 n,.slice va A.length vc],.int .i64 i] w fun e w'=>∃ v,e=.returned v∧Own w' w.heap.size v (colL A i)∧Kept w w':=by
 obtain ⟨W1,hW1⟩:∃ x,x=w.alloc (.cells #[.int .i64 P,.int .i64 M,vm,.int .i64 n,.slice va A.length vc] 29):=⟨_,rfl⟩
 have hk1:Kept w W1:=by rw [hW1];exact kept_alloc _ _
 have bx:Bk W1 w.heap.size [.int .i64 P,.int .i64 M,vm,.int .i64 n,.slice va A.length vc]:=by rw [hW1];exact bk_new w [.int .i64 P,.int .i64 M,vm,.int .i64 n,.slice va A.length vc] _ _ rfl
 have hv1:=hv.kept hk1
 have x4:=bx.2 4 _ rfl
 have HBX:=hid bx
 have HI:=hid hi
 have hs1:w.heap.size≤W1.heap.size:=hk1.size
 clear hv hi bx
 go_enter Tryz.func170,Tryz.ntmps170
 go_upto_region 1 with (fail)
 rw [← hW1]
 clear hW1
 go_wp2_with (at_make;refine wpList_make_ints rfl _ _ rfl A.length _ _ rfl rfl rfl rfl (by omega) ?_;intro w2 ho2 hk2;have x4:=(HBX.out.kept hk2).2 4 _ rfl)
 obtain ⟨g,hg⟩:∃ g,g=W1.heap.size:=⟨_,rfl⟩
 rw [← hg] at ho2 ⊢
 rw [← colP_zero A i] at ho2
 have HV:=hid hv1
 have HK2:=hid hk2
 have HG:=hid hg
 have HO:=hid ho2
 clear hv1 hk2 hg ho2
 go_loopg [15] (A.length + 1) (fun gk vi wr=>∃ k,k≤A.length∧gk=A.length + 1 - k∧vi=.int .i64 k∧Own wr g (.slice (some ⟨g,0,none⟩) A.length A.length) (colP A i k)∧Kept W1 wr)
 case atStart=>exact ⟨0,by omega,rfl,rfl,HO.out,HK2.out⟩
 case round =>
  obtain ⟨k,hk,rfl,rfl,ho,hkr⟩:=hrel
  by_cases hlt:k < A.length
  ·have hlt':(k:Int) < (A.length:Int):=by omega
   have hvr:=HV.out.kept hkr
   have hget:=hvr.get
   obtain ⟨a,cap,e,_,_,hne⟩:=hget
   obtain ⟨b,off,e2,hb⟩:=hne (fun e=>by subst e;simp at hlt)
   cases e
   subst e2
   obtain ⟨u,hu,hsu⟩:=hvr.cellAt hlt
   obtain ⟨ua,uc,rfl,hucap,⟨hum,_⟩,huc⟩:=hsu
   unfold maxLen at hum
   obtain ⟨ub,uo,rfl,hub,hcell⟩:=huc (fun e=>by have:=HI.out k hlt;rw [e] at this;simp at this)
   have hx:=hcell i (HI.out k hlt)
   have hil:(i:Int) < ((Gj.row A k).length:Int):=by have:=HI.out k hlt;omega
   obtain ⟨x,hxx⟩:∃ x,x=(Gj.row A k).getD i 0:=⟨_,rfl⟩
   obtain ⟨rl,hrl⟩:∃ x,x=(Gj.row A k).length:=⟨_,rfl⟩
   rw [← hxx] at hx
   rw [← hrl] at hu hil hucap
   have hcg:=ho.cell (i:=k) (by rw [colP_len];exact hlt)
   have hfg:=ho.frozen k
   have hk0:(0:Int)≤(k:Int):=by omega
   have hi0:(0:Int)≤(i:Int):=by omega
   have HXX:=hid hxx
   have HO2:=hid ho
   have HKR:=hid hkr
   have hgl:=ho.lt.1
   clear hcell huc hxx hrl hvr ho hkr hne
   go_wp2_with (fail)
   go_roundg (A.length + 1 - (k + 1))
   case measure=>omega
   case rel =>
    have h2:=HO2.out.set k x
    have e3:x=en A k i:=HXX.out
    rw [e3,colP_set] at h2
    rw [e3]
    exact ⟨k + 1,by omega,rfl,by go_num,h2,set_below _ HKR.out (Nat.le_of_eq HG.out.symm)⟩
  ·have hk':k=A.length:=by omega
   subst hk'
   rw [colP_full] at ho
   go_wp2_with (fail)
   go_ret
   exact ⟨_,rfl,ho.mono (by rw [HG.out];exact hs1),hk1.tr hkr⟩
end Go.Proofs.YtoilbeadokallaaGreatDoor
namespace Go.Proofs.YtoilbeadokallaaGreatDoor
open Go.RowKit Cw Cw.Gj
structure CdM (w:World) (G:GFd) (n:Nat) (ma:Option Addr) (ml mc:Nat) (va:Option Addr) (vc:Nat) (A:List (List Int)) (P:List Nat):Prop where
 f:Sl w (.slice ma ml mc) G.mod
 g:Rd w (.slice va A.length vc) A
 rf:Rf G.q A n P
 n1:1≤n
 n2:n≤64
theorem CdM.kept {w w':World} {G:GFd} {n:Nat} {ma:Option Addr} {ml mc:Nat} {va:Option Addr} {vc:Nat} {A:List (List Int)} {P:List Nat} (h:CdM w G n ma ml mc va vc A P) (k:Kept w w'):CdM w' G n ma ml mc va vc A P:=⟨h.f.kept k,h.g.kept k,h.rf,h.n1,h.n2⟩
def cdV (G:GFd) (n:Nat) (ma:Option Addr) (ml mc:Nat) (va:Option Addr) (vn vc:Nat):Value:=.agg #[.int .i64 G.P,.int .i64 G.M,.slice ma ml mc,.int .i64 n,.slice va vn vc]
set_option maxRecDepth 100000 in
set_option maxHeartbeats 2000000 in
theorem iopen_ok (G:GFd) (t:Tabs G) (n:Nat) (ma:Option Addr) (ml mc:Nat) (va:Option Addr) (vc:Nat) (A:List (List Int)) (P:List Nat) (w:World) (h:CdM w G n ma ml mc va vc A P) :
  Calls Tryz.prog 118 #[cdV G n ma ml mc va A.length vc] w fun e w'=>∃ b H,e=.returned (.tuple #[.pointer (some ⟨b,0,none⟩),.int .i64 0])∧IsGF w' b H∧Tabs H∧opG H=opG G∧H.q=G.q∧Kept w w':=by
 show Calls Tryz.prog 118 #[.agg #[.int .i64 G.P,.int .i64 G.M,.slice ma ml mc,.int .i64 n,.slice va A.length vc]] w _
 obtain ⟨W1,hW1⟩:∃ x,x=w.alloc (.cells #[.int .i64 G.P,.int .i64 G.M,.slice ma ml mc,.int .i64 n,.slice va A.length vc] 29):=⟨_,rfl⟩
 have hk1:Kept w W1:=by rw [hW1];exact kept_alloc _ _
 have bx:Bk W1 w.heap.size [.int .i64 G.P,.int .i64 G.M,.slice ma ml mc,.int .i64 n,.slice va A.length vc]:=by rw [hW1];exact bk_new w [.int .i64 G.P,.int .i64 G.M,.slice ma ml mc,.int .i64 n,.slice va A.length vc] _ _ rfl
 have hc1:=hid (h.kept hk1)
 have x0:=bx.2 0 _ rfl
 have x1:=bx.2 1 _ rfl
 have x2:=bx.2 2 _ rfl
 have x3:=bx.2 3 _ rfl
 have x4:=bx.2 4 _ rfl
 have HCK:=hid (ccheck_ok G t ma ml mc n va A.length vc A P W1 hc1.out.f hc1.out.g hc1.out.rf hc1.out.n1 hc1.out.n2)
 have HBX:=hid bx
 clear bx h
 go_enter Tryz.func118,Tryz.ntmps118
 go_upto_region 1 with (fail)
 rw [← hW1]
 clear hW1
 go_wp2_with (fail)
 (with_reducible refine HCK.out.mono ?_)
 rintro e w2 ⟨rfl,hk2⟩
 have bx2:=HBX.out.kept hk2
 clear x0 x1 x2 x3 x4
 have x0:=bx2.2 0 _ rfl
 have x1:=bx2.2 1 _ rfl
 have x2:=bx2.2 2 _ rfl
 have HNW:=hid (new_field G.P G.M (.slice ma ml mc) G.mod w2 (hc1.out.f.kept hk2) t.field)
 clear bx2
 go_wp2_with (fail)
 (with_reducible refine HNW.out.mono ?_)
 rintro e w3 ⟨b,H,rfl,hg3,tH,hP,hM,hmod,hk3⟩
 have HF:=hid (show opG H=opG G∧H.q=G.q from ⟨opG_eq tH t hP hM hmod,by rw [tH.hq,t.hq,hP,hM]⟩)
 clear hP hM hmod
 go_wp2_with (fail)
 refine bodyPost_ret (v:=.tuple #[.pointer (some ⟨b,0,none⟩),.int .i64 0]) ?_ rfl ⟨b,H,rfl,hg3,tH,HF.out.1,HF.out.2,(hk1.tr hk2).tr hk3⟩
 simp [results,Tryz.results118,go_sem]
end Go.Proofs.YtoilbeadokallaaGreatDoor
namespace Go.Proofs.YtoilbeadokallaaGreatDoor
open Go.RowKit Cw Cw.Gj
def subL (o:Cw.Op) (x:Int) (rw v:List Int):List Int:=(List.range v.length).map fun j=>o.add (v.getD j 0) (o.neg (o.mul x (rw.getD j 0)))
def bredL (o:Cw.Op):List (List Int)→List Nat→List Int→List Int
 | r :: rs,p :: ps,v=>bredL o rs ps (if v.getD p 0=0 then v else subL o (v.getD p 0) r v)
 | _,_,v=>v
def fstNz (v:List Int):Option Nat:=(List.range v.length).find? fun j=>v.getD j 0 ≠ 0
def baddL (o:Cw.Op) (rs:List (List Int)) (ps:List Nat) (v:List Int):List (List Int) × List Nat × Bool :=
 let u:=bredL o rs ps v
 match fstNz u with
 | none=>(rs,ps,false)
 | some k=>(rs ++ [u.map fun y=>o.mul (o.inv (u.getD k 0)) y],ps ++ [k],true)
def greedyL (o:Cw.Op) (A:List (List Int)):List Nat→List (List Int)→List Nat→List Nat
 | [],_,_=>[]
 | i :: is,rs,ps =>
  let r:=baddL o rs ps (colL A i)
  if r.2.2 then i :: greedyL o A is r.1 r.2.1 else greedyL o A is rs ps
def orderL (n:Nat) (used:List Nat):List Nat:=(List.range n).filter (fun i=>!used.contains i) ++ (List.range n).filter (fun i=>used.contains i)
def rankL (used set:List Nat):Nat:=(set.filter fun i=>!used.contains i).length
end Go.Proofs.YtoilbeadokallaaGreatDoor
namespace Go.Proofs.YtoilbeadokallaaGreatDoor
open Go.RowKit Cw Cw.Gj
def floorL (k w:Int) (l:List Int):Int:=(l.map fun r=>max 0 (w + 1 - (k - r))).sum
theorem floorL_take {k w:Int} {l:List Int} {i:Nat} (h:i < l.length):floorL k w (l.take (i + 1))=floorL k w (l.take i) + max 0 (w + 1 - (k - l.getD i 0)):=by
 have e:l.getD i 0=l[i]:=by simp [List.getD,h]
 rw [List.take_succ_eq_append_getElem h,e]
 unfold floorL
 rw [List.map_append,List.sum_append]
 simp
theorem floorL_bd {k w:Int} (hk:0≤k) (hk2:k≤64) (hw2:w≤k):∀ (l:List Int),(∀ r ∈ l,0≤r∧r≤k)→0≤floorL k w l∧floorL k w l≤65 * l.length
 | [],_=>by simp [floorL]
 | r :: l,h=>by
  have h1:=floorL_bd hk hk2 hw2 l (fun x hx=>h x (List.mem_cons_of_mem _ hx))
  have h2:=h r List.mem_cons_self
  have e:floorL k w (r :: l)=max 0 (w + 1 - (k - r)) + floorL k w l:=by simp [floorL]
  rw [e,List.length_cons]
  omega
set_option maxHeartbeats 2000000 in
theorem floor_any (k wd:Int) (v:Value) (l:List Int) (w:World) (hv:Sl w v l) (hk:0≤k) (hk2:k≤64) (hw:0≤wd) (hw2:wd≤k) (hl:l.length≤64) (hr:∀ r ∈ l,0≤r∧r≤k) :
  Calls Tryz.prog 68 #[.int .i64 k,v,.int .i64 wd] w fun e w'=>e=.returned (.tuple #[.int .i64 (floorL k wd l),.int .i64 0])∧w'=w:=by
 obtain ⟨a,cap,rfl,hcap,⟨hcm,hc0⟩,hc⟩:=hv
 unfold maxLen at hcm
 have HC:=hid hc
 have HR:=hid hr
 have t1:decide (k < 0)=false:=by simp;omega
 have t2:decide (64 < k)=false:=by simp;omega
 have t3:decide (wd < 0)=false:=by simp;omega
 have t4:decide (k < wd)=false:=by simp;omega
 have t5:decide ((64:Int) < (l.length:Int))=false:=by simp;omega
 clear hc hc0 hr
 go_enter Tryz.func68,Tryz.ntmps68
 go_wp2_with (fail)
 go_loop [33,8] (fun vi vn=>∃ i:Nat,i≤l.length∧vi=.int .i64 i∧vn=.int .i64 (floorL k wd (l.take i))) (fun vi _=>l.length - (intOf vi).toNat)
 case atStart=>exact ⟨0,by omega,rfl,rfl⟩
 case round =>
  obtain ⟨i,hi,rfl,rfl⟩:=hrel
  by_cases hlt:i < l.length
  ·obtain ⟨b,off,rfl,hb,hcell⟩:=HC.out (fun e=>by subst e;simp at hlt)
   have hx:=hcell i hlt
   have hlt':(i:Int) < (l.length:Int):=by omega
   have hi0:(0:Int)≤(i:Int):=by omega
   have hw:=floorL_take (k:=k) (w:=wd) hlt
   have hb1:=floorL_bd (w:=wd) hk hk2 hw2 (l.take i) (fun r hr=>HR.out r (List.mem_of_mem_take hr))
   rw [List.length_take] at hb1
   have hxb:0≤l.getD i 0∧l.getD i 0≤k:=HR.out _ (by simp [List.getD,hlt])
   obtain ⟨x,hxx⟩:∃ x,x=l.getD i 0:=⟨_,rfl⟩
   rw [← hxx] at hx hw hxb
   have HW:=hid hw
   obtain ⟨u,hu⟩:∃ u,u=floorL k wd (l.take i):=⟨_,rfl⟩
   rw [← hu] at hb1 HW ⊢
   have s1:decide (x < 0)=false:=by simp;omega
   have s2:decide (k < x)=false:=by simp;omega
   have q1:IntKind.i64.wrap (wd + 1)=wd + 1:=IntWalk.i64_in _ (by omega)
   have q2:IntKind.i64.wrap (k - x)=k - x:=IntWalk.i64_in _ (by omega)
   have q3:IntKind.i64.wrap (wd + 1 - (k - x))=wd + 1 - (k - x):=IntWalk.i64_in _ (by omega)
   clear hcell hxx hw hu
   go_wp2_with (fail)
   go_round
   case rel=>exact ⟨i + 1,by omega,by go_num,by rw [HW.out]⟩
   case measure=>simp [intOf];omega
  ·have hk':i=l.length:=by omega
   subst hk'
   rw [List.take_length]
   go_wp2_with (fail)
   refine bodyPost_ret (v:=.tuple #[.int .i64 (floorL k wd l),.int .i64 0]) ?_ rfl ⟨rfl,rfl⟩
   simp [results,Tryz.results68,go_sem]
end Go.Proofs.YtoilbeadokallaaGreatDoor
namespace Go.Proofs.YtoilbeadokallaaGreatDoor
open Go.RowKit Cw Cw.Gj
def ExpO (q:Int) (k:Nat) (m:Int) (w:World) (e:Ending) (w':World):Prop :=
 w'=w∧((e=.returned (.tuple #[.int .i64 (q ^ k),.int .i64 0])∧1≤q ^ k∧q ^ k≤m) ∨ (e=.returned (.tuple #[.int .i64 0,.int .i64 8])∧q ≠ 1))
set_option maxHeartbeats 2000000 in
theorem exp_any (q:Int) (k:Nat) (m:Int) (w:World) (hq:1≤q) (hq2:q≤1000) (hk:k≤1000) (hm:1≤m) (hm2:m≤1000000000):Calls Tryz.prog 125 #[.int .i64 q,.int .i64 k,.int .i64 m] w (ExpO q k m w):=by
 have t1:decide (q < 0)=false:=by simp;omega
 have t2:decide (m < 0)=false:=by simp;omega
 have t3:(q == 0)=false:=by simp;omega
 have t4:(m == 0)=false:=by simp;omega
 have t5:decide ((k:Int) < 0)=false:=by simp
 have hmq:m.tdiv q=m / q:=Int.tdiv_eq_ediv_of_nonneg (by omega)
 have hd0:0≤m / q:=Int.ediv_nonneg (by omega) (by omega)
 have hd1:m / q≤m:=Int.ediv_le_self _ (by omega)
 have hwd:IntKind.i64.wrap (m / q)=m / q:=IntWalk.i64_in _ (by omega)
 go_enter Tryz.func125,Tryz.ntmps125
 go_wp2_with (fail)
 go_loop [1,8] (fun vk vo=>∃ (i:Nat) (o:Int),i≤k∧vk=.int .i64 ((k - i:Nat):Int)∧vo=.int .i64 o∧o=q ^ i∧1≤o∧o≤m) (fun vk _=>(intOf vk).toNat)
 case atStart=>exact ⟨0,1,by omega,rfl,rfl,by simp,by omega,by omega⟩
 case round =>
  obtain ⟨i,o,hi,rfl,rfl,ho,ho1,ho2⟩:=hrel
  have HO:=hid ho
  clear ho
  have hx:i < k→1 < q→m / q < o ∨ (o≤m / q∧1≤o * q∧o * q≤m):=fun _ h1=>by
   by_cases h:m / q < o
   ·exact .inl h
   ·have h2:o≤m / q:=by omega
    have h3:o * q≤m:=(Int.le_ediv_iff_mul_le (by omega)).1 h2
    have h4:1 * 1≤o * q:=Int.mul_le_mul ho1 (by omega) (by omega) (by omega)
    exact .inr ⟨h2,by omega,h3⟩
  have HX:=hid hx
  clear hx
  by_cases hlt:i < k
  ·have c1:decide ((0:Int) < ((k - i:Nat):Int))=true:=by simp;omega
   by_cases h1:1 < q
   ·have c2:decide (1 < q)=true:=by simpa using h1
    rcases HX.out hlt h1 with h | ⟨h,h3,h4⟩
    ·have c3:decide (m / q < o)=true:=by simpa using h
     have hn1:q ≠ 1:=by omega
     have HN:=hid hn1
     clear hn1 h h1
     go_wp2_with (fail)
     refine bodyPost_ret (v:=.tuple #[.int .i64 0,.int .i64 8]) ?_ rfl ⟨rfl,.inr ⟨rfl,HN.out⟩⟩
     simp [results,Tryz.results125,go_sem]
    ·have c3:decide (m / q < o)=false:=by simpa using h
     have hw1:IntKind.i64.wrap (o * q)=o * q:=IntWalk.i64_in _ (by omega)
     have hw2:IntKind.i64.wrap (((k - i:Nat):Int) - 1)=((k - (i + 1):Nat):Int):=by rw [IntWalk.i64_in _ (by omega)];omega
     clear h h1
     go_wp2_with (fail)
     go_round
     case rel=>exact ⟨i + 1,o * q,by omega,rfl,rfl,by rw [HO.out,Int.pow_succ],h3,h4⟩
     case measure=>simp [intOf];omega
   ·have hq1:q=1:=by omega
    have c2:decide (1 < q)=false:=by simp;omega
    have HQ:=hid hq1
    clear h1 hq1
    go_wp2_with (fail)
    have ho:o=q ^ k:=by rw [HO.out,HQ.out,Int.one_pow,Int.one_pow]
    refine bodyPost_ret (v:=.tuple #[.int .i64 o,.int .i64 0]) ?_ rfl ⟨rfl,.inl ⟨by rw [ho],by omega,by omega⟩⟩
    simp [results,Tryz.results125,go_sem]
  ·have hik:i=k:=by omega
   have c1:decide ((0:Int) < ((k - i:Nat):Int))=false:=by simp;omega
   have ho:Hid (o=q ^ k):=hid (by rw [← hik];exact HO.out)
   clear hik
   go_wp2_with (fail)
   have ho:=ho.out
   refine bodyPost_ret (v:=.tuple #[.int .i64 o,.int .i64 0]) ?_ rfl ⟨rfl,.inl ⟨by rw [ho],by omega,by omega⟩⟩
   simp [results,Tryz.results125,go_sem]
end Go.Proofs.YtoilbeadokallaaGreatDoor
namespace Go.Proofs.YtoilbeadokallaaGreatDoor
open Go.RowKit Cw Cw.Gj
theorem step_append_rows {w:World} {ops:Array Oper} {o:Oper} {a:Act} {K:Act→World→Prop} {Q:Exit→Act→World→Prop} {E:Prop} (hgd:o.guard=none) (s x:Operand)
  (ho:o.op=.call { callee:=.builtin .append,args:=#[s,x],argTypes:=#[27,27] }) (B:Nat) (v:Value) (m:Nat) (rs:List Value) (hs:a.eval s=v) (hown:w.ownsRow B 22 1 v m rs)
  (ad:Addr) (y:Value) (hx:a.eval x=.slice (some ad) 1 1) (hc:w.cell? ad=some y) (hy:y.oneCell'=true) (hlen:m + 1≤1000000) (hB:B≤w.heap.size)
  (h:∀ v' w',w'.ownsRow B 22 1 v' (m + 1) (rs ++ [y])→w.grownBy w' v.ownBlock→(v'.ownBlock=v.ownBlock ∨ v'.ownBlock=some w.heap.size)→K (a.put o.dst v') w') :
  if Region.wanted o (yielded ops a.tmps)=true then Oper.wp Tryz.prog o a w K Q else E:=by
 rw [if_pos (by simp [Region.wanted,hgd])]
 obtain ⟨i0,hi,hz0,hz1,hz2⟩:=info_parts Tryz.infoSl
 obtain ⟨v',w',hr,h2,h3,_,h5⟩:=run_append_own_at (P:=Tryz.prog) w B 27 o.type 22 i0 _ 1 24 Tryz.underlying27 hi hz0 hz1 hz2 rfl (by decide) v m rs hown ad 1 1 [y] rfl
  (fun j u hu=>by
   match j with
   | 0 =>
    have e:u=y:=by simpa using hu.symm
    rw [e]
    have:ad.add 0=ad:=by cases ad;simp [Addr.add]
    rw [this];exact hc
   | j + 1=>simp at hu) (fun u hu=>by rw [List.mem_singleton.1 hu];exact hy) (by unfold maxLen;omega) (by omega) hB
 unfold Oper.wp execOp
 simp only [ho,resolve,invoke,builtin,Sem.run_bind,Sem.run_pure,Result.andThen_ok,List.map_toArray,List.map_cons,List.map_nil,hs,hx,hr]
 exact h v' w' h2 h3 h5
end Go.Proofs.YtoilbeadokallaaGreatDoor
