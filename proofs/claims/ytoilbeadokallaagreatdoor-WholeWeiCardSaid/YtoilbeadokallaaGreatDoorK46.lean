/- Lemmas on the way to the row, merged: walks of functions and plain algebra. Conditions: each lemma's own, stated with it. -/
import Derived.Test.YtoilbeadokallaaGreatDoorK33
import Derived.Laws.BitsLemmas
import Derived.Laws.EntriesVeiled
namespace Go.Proofs.YtoilbeadokallaaGreatDoor
open Go.RowKit Cw Cw.Gj
theorem i64_wraps (n:Int) (h0:0≤n) (h1:n < 2 ^ 62):IntKind.i64.wrap n=n:=by rw [IntKind.wrap_i64];omega
theorem and_one (a:Nat) (h:a < 65536):bits .and .i64 (a:Int) 1=((a % 2:Nat):Int):=by
 have h1:=(bits_nat .i64 62 (by decide) i64_wraps a 1 (by omega) (by decide)).1
 rw [show a &&& 1=a % 2 from Nat.and_one_is_mod a] at h1
 simpa using h1
theorem or_bits (a b:Nat) (ha:a < 65536) (hb:b < 65536):bits .or .i64 (a:Int) (b:Int)=((a ||| b:Nat):Int):=(bits_nat .i64 62 (by decide) i64_wraps a b (by omega) (by omega)).2
def bitsL (M k:Nat):List Int:=ints ((List.range k).filter M.testBit)
theorem bitsL_yes {M k:Nat} (h:M.testBit k=true):bitsL M (k + 1)=bitsL M k ++ [(k:Int)]:=by
 unfold bitsL ints
 rw [List.range_succ,List.filter_append]
 simp [h]
theorem bitsL_no {M k:Nat} (h:M.testBit k=false):bitsL M (k + 1)=bitsL M k:=by
 unfold bitsL ints
 rw [List.range_succ,List.filter_append]
 simp [h]
theorem bitsL_len (M k:Nat):(bitsL M k).length=pc k M:=by unfold bitsL ints pc;simp
theorem bitsL_le (M k:Nat):(bitsL M k).length≤k:=by
 rw [bitsL_len];unfold pc
 exact Nat.le_trans (List.length_filter_le _ _) (by simp)
theorem bitsL_high {M k:Nat} (h:M / 2 ^ k=0):∀ d,bitsL M (k + d)=bitsL M k
 | 0=>rfl
 | d + 1=>by
  have hM:M < 2 ^ k:=(Nat.div_eq_zero_iff.1 h).resolve_left (by have:=Nat.two_pow_pos k;omega)
  rw [← Nat.add_assoc,bitsL_no,bitsL_high h d]
  exact Nat.testBit_lt_two_pow (Nat.lt_of_lt_of_le hM (Nat.pow_le_pow_right (by decide) (by omega)))
set_option maxHeartbeats 800000 in
theorem list_any (M n:Nat) (w:World) (hM:M < 2 ^ n) (hn:n≤16) :
  Calls Tryz.prog 74 #[.int .i64 M] w fun e w'=>∃ v,e=.returned v∧Own w' w.heap.size v (bitsL M n)∧Kept w w':=by
 have hM16:M < 65536:=Nat.lt_of_lt_of_le hM (Nat.pow_le_pow_right (by decide) hn)
 have HM:=hid hM
 clear hM
 go_enter Tryz.func74,Tryz.ntmps74
 go_wp2_with (fail)
 go_loopw [3,4] (fun vo vi wr=>∃ (k:Nat) (oa:Option Addr) (oc:Nat),k≤n∧vi=.int .i64 k∧vo=.slice oa (bitsL M k).length oc∧Own wr w.heap.size (.slice oa (bitsL M k).length oc) (bitsL M k)∧Kept w wr) (fun _ vi _=>n - (intOf vi).toNat)
 case atStart=>exact ⟨0,none,0,by omega,rfl,rfl,own_nil _ _,Kept.rfl' _⟩
 case round =>
  obtain ⟨k,oa,oc,hk,rfl,rfl,ho,hkr⟩:=hrel
  have hk64:(k:Int) < 64:=by omega
  obtain ⟨z,hz⟩:∃ z:Nat,z=M / 2 ^ k:=⟨_,rfl⟩
  have hzi:((M:Int) / 2 ^ k)=(z:Int):=by rw [hz];push_cast;rfl
  have hz16:z < 65536:=by rw [hz];exact Nat.lt_of_le_of_lt (Nat.div_le_self _ _) hM16
  have hb:=and_one z hz16
  have hlen:=bitsL_le M k
  have HZ:=hid hz
  clear hz
  by_cases h0:0 < z
  ·have hpos:(0:Int) < (z:Int):=by omega
   have hkn:k < n:=Nat.lt_of_not_le fun g=>by
    have:z=0:=by
     rw [HZ.out]
     exact Nat.div_eq_of_lt (Nat.lt_of_lt_of_le HM.out (Nat.pow_le_pow_right (by decide) g))
    omega
   have htb:M.testBit k=(z % 2 == 1):=by rw [Nat.testBit_eq_decide_div_mod_eq,← HZ.out];rfl
   by_cases hb1:z % 2=1
   ·have HL:Hid (bitsL M (k + 1)=bitsL M k ++ [(k:Int)]):=hid (bitsL_yes (by rw [htb,hb1];rfl))
    rw [hb1] at hb
    obtain ⟨X,hX⟩:∃ X,X=bitsL M k:=⟨_,rfl⟩
    rw [← hX] at ho hlen HL ⊢
    have HX:=hid hX
    have hka:=kept_alloc wr (.cells #[.int .i64 k] 3)
    have hoa:=ho.kept hka
    have hsz:w.heap.size≤(wr.alloc (.cells #[.int .i64 k] 3)).heap.size:=(hkr.tr hka).size
    clear hX htb hb1
    go_wp2_with (at_builtin;refine wpList_append_at rfl _ _ rfl w.heap.size _ X rfl hoa ⟨wr.heap.size,0,none⟩ k rfl (cell_new rfl) (by omega) hsz ?_;intro g' cap' w7 o7 hg7 hd7)
    have hk7:Kept w w7:=(hkr.tr hka).grown hg7 hsz (fun g e=>by have:=own_blk hoa e;exact this.1)
    rw [← HL.out] at o7
    have HXL:Hid (X.length + 1=(bitsL M (k + 1)).length):=hid (by rw [HL.out];simp)
    rw [HXL.out] at o7 ⊢
    clear hg7 hd7
    go_roundw
    case rel=>exact ⟨k + 1,some ⟨g',0,none⟩,cap',by omega,by go_num,rfl,o7,hk7⟩
    case measure=>simp [intOf];omega
   ·have hb0:z % 2=0:=by omega
    have HL:Hid (bitsL M (k + 1)=bitsL M k):=hid (bitsL_no (by rw [htb,hb0];rfl))
    rw [hb0] at hb
    clear htb hb1
    go_wp2_with (fail)
    go_roundw
    case rel=>exact ⟨k + 1,oa,oc,by omega,by go_num,by rw [HL.out],by rw [HL.out];exact ho,hkr⟩
    case measure=>simp [intOf];omega
  ·have hz0:z=0:=by omega
   have HL:Hid (bitsL M n=bitsL M k):=hid (by
    have:=bitsL_high (M:=M) (k:=k) (by rw [← HZ.out,hz0]) (n - k)
    rwa [show k + (n - k)=n by omega] at this)
   have hpos:¬ (0:Int) < (z:Int):=by omega
   go_wp2_with (fail)
   go_ret
   exact ⟨_,rfl,by rw [HL.out];exact ho,hkr⟩
end Go.Proofs.YtoilbeadokallaaGreatDoor
namespace Go.Proofs.YtoilbeadokallaaGreatDoor
open Go.RowKit Cw Cw.Gj Cw.Dm
def Wt (Q:Value→Prop) (w0 wr:World) (v:Value) (C:List (List Int)):Prop :=
 Kept w0 wr∧∃ rv:Nat→Value,wr.ownsRow w0.heap.size 22 1 v C.length ((List.range C.length).map rv)∧∀ i,i < C.length→(Sl w0 (rv i) (Gj.row C i)∧Q (rv i)) ∨ Own wr w0.heap.size (rv i) (Gj.row C i)
theorem Wt.kept {Q:Value→Prop} {w0 wr wx:World} {v:Value} {C:List (List Int)} (h:Wt Q w0 wr v C) (k:Kept wr wx):Wt Q w0 wx v C:=by
 obtain ⟨h1,rv,h2,h3⟩:=h
 have hg:wr.grownBy wx none:=⟨k.os,k.tape,k.output,k.size,fun i hi _=>k.block i hi⟩
 refine ⟨h1.tr k,rv,World.ownsRow.kept h2 hg ?_,fun i hi=>(h3 i hi).imp id fun o=>o.kept k⟩
 cases e:v.ownBlock with
 | none=>exact .inl rfl
 | some g=>exact .inr (by simp)
theorem wt_nil (Q:Value→Prop) (w0:World):Wt Q w0 w0 (.slice none 0 0) []:=⟨Kept.rfl' _,fun _=>.slice none 0 0,⟨rfl,.inl ⟨rfl,rfl⟩⟩,fun _ h=>absurd h (Nat.not_lt_zero _)⟩
theorem row_app {A:List (List Int)} {l:List Int} (i:Nat):Gj.row (A ++ [l]) i=if i < A.length then Gj.row A i else if i=A.length then l else []:=by
 unfold Gj.row
 by_cases e:i < A.length
 ·rw [if_pos e,List.getD,List.getD,List.getElem?_append_left e]
 ·rw [if_neg e]
  by_cases e2:i=A.length
  ·rw [if_pos e2,e2];simp [List.getD]
  ·rw [if_neg e2]
   have:(A ++ [l]).length≤i:=by simp;omega
   simp [List.getD,List.getElem?_eq_none this]
theorem Wt.add {Q:Value→Prop} {w0 wr wx:World} {v v' u:Value} {C:List (List Int)} {l:List Int} {rv:Nat→Value} (k:Kept w0 wr) (h3:∀ i,i < C.length→(Sl w0 (rv i) (Gj.row C i)∧Q (rv i)) ∨ Own wr w0.heap.size (rv i) (Gj.row C i))
  (h2:wr.ownsRow w0.heap.size 22 1 v C.length ((List.range C.length).map rv)) (hu:(Sl w0 u l∧Q u) ∨ Own wr w0.heap.size u l)
  (o':wx.ownsRow w0.heap.size 22 1 v' (C.length + 1) ((List.range C.length).map rv ++ [u])) (hg:wr.grownBy wx v.ownBlock):Wt Q w0 wx v' (C ++ [l]):=by
 have hx:∀ x xs,Own wr w0.heap.size x xs→x.ownBlock=none ∨ x.ownBlock ≠ v.ownBlock:=fun x xs ho=>by
  cases e:x.ownBlock with
  | none=>exact .inl rfl
  | some y=>exact .inr fun e2=>row_ne h2 ho e e2.symm
 refine ⟨k.grown hg k.size (fun g e=>(World.ownsRow.lt h2 g e).1),fun i=>if i=C.length then u else rv i, ?_,fun i hi=>?_⟩
 ·rw [List.length_append]
  have e:(List.range (C.length + [l].length)).map (fun i=>if i=C.length then u else rv i)=(List.range C.length).map rv ++ [u]:=by
   show (List.range (C.length + 1)).map _=_
   rw [List.range_succ,List.map_append]
   congr 1
   ·refine List.map_congr_left fun i hi=>?_
    rw [if_neg (by have:=List.mem_range.1 hi;omega)]
   ·simp
  rw [e];exact o'
 ·have hi':i < C.length + 1:=by simpa using hi
  rw [row_app]
  show (Sl w0 (if i=C.length then u else rv i) _∧Q (if i=C.length then u else rv i)) ∨ Own wx w0.heap.size (if i=C.length then u else rv i) _
  by_cases e:i < C.length
  ·rw [if_pos e,if_neg (show ¬ i=C.length by omega)];exact (h3 i e).imp id fun o=>o.grownBy hg (hx _ _ o)
  ·rw [if_neg e,if_pos (by omega),if_pos (by omega)];exact hu.imp id fun o=>o.grownBy hg (hx _ _ o)
def Nv (g:Nat) (u:Value):Prop:=∀ b o n c,u=.slice (some ⟨b,o,none⟩) n c→b ≠ g
def Nb (g:Nat) (w:World) (v:Value) (A:List (List Int)):Prop:=A ≠ []→∀ b o n c,v=.slice (some ⟨b,o,none⟩) n c→b ≠ g∧∀ i u,i < A.length→w.cell? ⟨b,o + i,none⟩=some u→Nv g u
theorem Wt.rd {Q:Value→Prop} {w0 wr:World} {v:Value} {C:List (List Int)} (h:Wt Q w0 wr v C):Rd wr v C∧∀ g,g < w0.heap.size→(∀ u,Q u→Nv g u)→Nb g wr v C:=by
 obtain ⟨h1,rv,h2,h3⟩:=h
 obtain ⟨e1,q⟩:=h2
 rcases q with ⟨rfl,h0⟩ | ⟨g,cap,cur,rfl,hb,hg,k3,k4,hc⟩
 ·rw [List.eq_nil_of_length_eq_zero h0];exact ⟨rd_nil wr,fun _ _ _ e=>absurd rfl e⟩
 ·have h2':wr.ownsRow w0.heap.size 22 1 (.slice (some ⟨g,0,none⟩) C.length cap) C.length ((List.range C.length).map rv):=⟨e1,.inr ⟨g,cap,cur,rfl,hb,hg,k3,k4,hc⟩⟩
  have hcell:∀ i,i < C.length→wr.cell? ⟨g,0 + i,none⟩=some (rv i):=fun i hi=>by
   have:=World.ownsRow.cellAt h2' i (by omega)
   rw [Nat.zero_add,this];simp [hi]
  refine ⟨⟨some ⟨g,0,none⟩,cap,rfl,k3,⟨k4,fun e=>by cases e⟩,fun _=>⟨g,0,rfl,(Array.getElem?_eq_some_iff.1 hg).1,fun i hi=>⟨rv i,hcell i hi, ?_⟩⟩⟩,fun g' hg' hQ _ b o n c e=>?_⟩
  ·rcases h3 i hi with s | o
   ·exact s.1.kept h1
   ·exact o.sl
  ·cases e
   refine ⟨by omega,fun i u hi hu=>?_⟩
   rw [hcell i hi] at hu
   cases hu
   rcases h3 i hi with s | o
   ·exact hQ _ s.2
   ·intro b o' n c e
    rcases o.form with ⟨e2,_⟩ | ⟨g2,_,e2,hB,_⟩
    ·rw [e2] at e;cases e
    ·rw [e2] at e;cases e;omega
def thS (o:Cw.Op) (A:List (List Int)) (k x i:Nat):List (List Int):=(List.range (if i≤k then i else i - 1)).map fun j=>wrow o A k x (sk k j)
theorem thS_len (o:Cw.Op) (A:List (List Int)) (k x i:Nat):(thS o A k x i).length≤i:=by unfold thS;simp;split <;> omega
theorem thS_skip (o:Cw.Op) (A:List (List Int)) (k x:Nat):thS o A k x (k + 1)=thS o A k x k:=by
 unfold thS;rw [if_neg (by omega),if_pos (Nat.le_refl _),Nat.add_sub_cancel]
theorem thS_add (o:Cw.Op) (A:List (List Int)) {k x i:Nat} (h:i ≠ k):thS o A k x (i + 1)=thS o A k x i ++ [wrow o A k x i]:=by
 unfold thS
 by_cases e:i < k
 ·rw [if_pos (by omega),if_pos (by omega),List.range_succ,List.map_append,List.map_singleton,show sk k i=i from if_pos e]
 ·rw [if_neg (by omega),if_neg (by omega),show i + 1 - 1=(i - 1) + 1 by omega,List.range_succ,List.map_append,List.map_singleton,show sk k (i - 1)=i by unfold sk;rw [if_neg (by omega)];omega]
theorem thS_full {o:Cw.Op} {A:List (List Int)} {x:Nat} (h:fnd A x 0 < A.length):thS o A (fnd A x 0) x A.length=wthL o A x:=by
 unfold thS wthL;rw [if_pos h,if_neg (by omega)]
theorem subm_at {o:Cw.Op} {a:Int} {u l:List Int} {k:Nat} (h:k < l.length):(subm o a u l).getD k 0=o.add (l.getD k 0) (o.neg (o.mul a (u.getD k 0))):=by
 unfold subm;simp [List.getD,h]
def sbS (o:Cw.Op) (a:Int) (u l:List Int) (k:Nat):List Int:=(List.range l.length).map fun j=>if j < k then (subm o a u l).getD j 0 else l.getD j 0
theorem sbS_at {o:Cw.Op} {a:Int} {u l:List Int} {k j:Nat} (h:j < l.length):(sbS o a u l k).getD j 0=if j < k then (subm o a u l).getD j 0 else l.getD j 0:=by
 unfold sbS;simp [List.getD,h]
theorem sbS_len (o:Cw.Op) (a:Int) (u l:List Int) (k:Nat):(sbS o a u l k).length=l.length:=by simp [sbS]
theorem sbS_zero (o:Cw.Op) (a:Int) (u l:List Int):sbS o a u l 0=l:=list_eq_of (sbS_len _ _ _ _ _) fun i hi=>by
 rw [sbS_len] at hi
 rw [sbS_at hi,if_neg (by omega)]
theorem sbS_step {o:Cw.Op} {a:Int} {u l:List Int} {k:Nat} (h:k < l.length):(sbS o a u l k).set k ((subm o a u l).getD k 0)=sbS o a u l (k + 1):=list_eq_of (by simp [sbS]) fun i hi=>by
 rw [List.length_set,sbS_len] at hi
 rw [sbS_at hi]
 by_cases e:i=k
 ·subst e;rw [if_pos (by omega)];simp [List.getD,sbS_len,hi]
 ·rw [List.getD,List.getElem?_set_ne (Ne.symm e),← List.getD,sbS_at hi]
  by_cases g:i < k
  ·rw [if_pos g,if_pos (by omega)]
  ·rw [if_neg g,if_neg (by omega)]
theorem sbS_full (o:Cw.Op) (a:Int) (u l:List Int):sbS o a u l l.length=subm o a u l:=list_eq_of (by simp [sbS,subm]) fun i hi=>by
 rw [sbS_len] at hi
 rw [sbS_at hi,if_pos hi]
end Go.Proofs.YtoilbeadokallaaGreatDoor
namespace Go.Proofs.YtoilbeadokallaaGreatDoor
open Go.RowKit Cw Cw.Gj Cw.Dm
set_option maxRecDepth 100000 in
set_option maxHeartbeats 4000000 in
theorem without_any (b:Nat) (G:GFd) (t:Tabs G) (x cols:Nat) (v:Value) (A:List (List Int)) (w:World) (hg:IsGF w b G) (hv:Rd w v A) (hw:WF G.q A cols) (hx:x < cols) (hc:cols≤64) (hn:A.length≤64) :
  Calls Tryz.prog 133 #[.pointer (some ⟨b,0,none⟩),v,.int .i64 x] w fun e w'=>∃ v',e=.returned v'∧Rd w' v' (wthL (opG G) A x)∧(∀ g,g < w.heap.size→Nb g w v A→Nb g w' v' (wthL (opG G) A x))∧Kept w w':=by
 have hmf:∀ (fn:Fn) (first cap:Array Value) (w:World),(Instr.makeFunc fn first cap).run Tryz.prog w=.ok (.func fn first cap) w:=fun _ _ _ _=>rfl
 obtain ⟨va,vc,rfl,hvl,hvm⟩:=hv.get
 unfold maxLen at hvm
 obtain ⟨hvm,hb0⟩:=hvm
 have hk1:=kept_alloc w (.cells #[.int .i64 x] 3)
 have cx:(w.alloc (.cells #[.int .i64 x] 3)).cell? ⟨w.heap.size,0,none⟩=some (.int .i64 x):=cell_new rfl
 have hsx:w.heap.size < (w.alloc (.cells #[.int .i64 x] 3)).heap.size:=by simp
 obtain ⟨w1,hw1⟩:∃ w1,w1=w.alloc (.cells #[.int .i64 x] 3):=⟨_,rfl⟩
 rw [← hw1] at hk1 cx hsx
 have hv1:=hv.kept hk1
 have hg1:=hg.kept hk1
 obtain ⟨px,hpx⟩:∃ px,px=w.heap.size:=⟨_,rfl⟩
 rw [← hpx] at cx hsx
 have HPX:=hid hpx
 go_enter Tryz.func133,Tryz.ntmps133
 go_wp2_with (fail)
 rw [← hw1,← hpx]
 clear hw1 hpx
 by_cases hp:fnd A x 0 < A.length
 case neg =>
  have HT:Hid (wthL (opG G) A x=A):=hid (by unfold wthL;rw [if_neg hp])
  (with_reducible refine (ifr_any _ A cols x px w1 hv1 hw.wf cx hx (-1) (by rw [if_neg hp])).mono ?_)
  rintro e w2 ⟨rfl,rfl⟩
  go_wp2_with (fail)
  go_ret
  refine ⟨_,rfl,by rw [HT.out];exact hv1,fun g hg' hnb=>?_,hk1⟩
  rw [HT.out]
  intro hA b o n c e
  obtain ⟨n1,n2⟩:=hnb hA b o n c e
  cases e
  obtain ⟨b2,o2,e2,hb2⟩:=hb0 hA
  cases e2
  exact ⟨n1,fun i u hi hu=>n2 i u hi (by rw [← hu];exact (hk1.cell' hb2).symm)⟩
 (with_reducible refine (ifr_any _ A cols x px w1 hv1 hw.wf cx hx (fnd A x 0:Int) (by rw [if_pos hp])).mono ?_)
 rintro e w2 ⟨rfl,rfl⟩
 have HT:Hid (thS (opG G) A (fnd A x 0) x A.length=wthL (opG G) A x):=hid (thS_full hp)
 have hne:=fnd_yes hp
 obtain ⟨k,hk⟩:∃ k,k=fnd A x 0:=⟨_,rfl⟩
 rw [← hk] at hp hne HT ⊢
 clear hk
 have hA0:A ≠ []:=by intro e;rw [e] at hp;simp at hp
 obtain ⟨bb,off,rfl,hbb⟩:=hb0 hA0
 obtain ⟨uk,uk1,uk2⟩:=hv1.cellAt hp
 obtain ⟨ka,kc,rfl,hkl,hkm⟩:=uk2.lenOf
 unfold maxLen at hkm
 have hrk:=hw.wf k hp
 rw [hrk] at uk1 uk2 hkl
 obtain ⟨hkc,hk0,hkcell⟩:(cols≤kc)∧(∃ kb ko,ka=some ⟨kb,ko,none⟩∧kb < w1.heap.size)∧(∀ kb ko,ka=some ⟨kb,ko,none⟩→∀ j,j < cols→w1.cell? ⟨kb,ko + j,none⟩=some (.int .i64 ((Gj.row A k).getD j 0))):=by
  obtain ⟨a',c',e,q1,_,q3⟩:=uk2
  obtain ⟨kb,ko,e2,e3,e4⟩:=q3 (by intro e;rw [e] at hrk;simp at hrk;omega)
  cases e
  refine ⟨hkl,⟨kb,ko,e2,e3⟩,fun kb' ko' e5 j hj=>?_⟩
  rw [e2] at e5
  cases e5
  exact e4 j (by rw [hrk];exact hj)
 obtain ⟨kb,ko,rfl,hkb⟩:=hk0
 obtain ⟨y,hy⟩:∃ y,y=en A k x:=⟨_,rfl⟩
 have ckx:w1.cell? ⟨kb,ko + x,none⟩=some (.int .i64 y):=by rw [hy];exact hkcell kb ko rfl x hx
 have hyb:=hw.bd k x hp hx
 rw [← hy] at hyb hne
 have hy0:inn G.q y ≠ 0:=by rw [inn_yes hyb];exact hne
 have HK:=hid hkcell
 have HY:=hid hy
 have HY0:=hid hy0
 clear hkcell hy hyb hne hy0 uk2
 have hp':(k:Int) < (A.length:Int):=by omega
 have hx':(x:Int) < (cols:Int):=by omega
 have tk0:¬ (k:Int) < 0:=by omega
 obtain ⟨Qv,hQv⟩:∃ Q:Value→Prop,Q=fun u=>Hid (∀ g,Nb g w (.slice (some ⟨bb,off,none⟩) A.length vc) A→Nv g u):=⟨_,rfl⟩
 go_wp2_with (fail)
 go_loopw [8,23] (fun vo vi wr=>∃ (i:Nat) (oa:Option Addr) (oc:Nat),i≤A.length∧vi=.int .i64 i∧vo=.slice oa (thS (opG G) A k x i).length oc∧Wt Qv w1 wr (.slice oa (thS (opG G) A k x i).length oc) (thS (opG G) A k x i)) (fun _ vi _=>A.length - (intOf vi).toNat)
 case atStart=>exact ⟨0,none,0,by omega,rfl,rfl,wt_nil Qv w1⟩
 case round =>
  obtain ⟨i,oa,oc,hi,rfl,rfl,hwt⟩:=hrel
  obtain ⟨wo,hwo⟩:∃ x,x=wr:=⟨_,rfl⟩
  rw [← hwo] at hwt ⊢
  clear hwo
  have hkr:=hwt.1
  by_cases hin:i < A.length
  ·have hin':(i:Int) < (A.length:Int):=by omega
   obtain ⟨u,u1,u2⟩:=hv1.cellAt hin
   have hri:=hw.wf i hin
   obtain ⟨ua,uc,rfl,hul,hum⟩:=u2.lenOf
   unfold maxLen at hum
   rw [hri] at u1 u2 hul
   have HQu:Hid (Qv (.slice ua cols uc)):=hid (by
    rw [hQv]
    exact hid fun g hnb=>(hnb hA0 bb off A.length vc rfl).2 i _ hin ((hk1.cell' hbb).symm.trans u1))
   have u1r:=(hkr.cell' (hk1.lt hbb)).trans u1
   have hth:=thS_len (opG G) A k x i
   by_cases hik:i=k
   ·have tik:((i:Int) == (k:Int))=true:=by simp;omega
    have HS:Hid (thS (opG G) A k x (i + 1)=thS (opG G) A k x i):=hid (by rw [hik];exact thS_skip _ _ _ _)
    clear hik
    go_wp2_with (fail)
    go_roundw
    case rel=>exact ⟨i + 1,oa,oc,by omega,by go_num,by rw [HS.out],by rw [HS.out];exact hwt⟩
    case measure=>simp [intOf];omega
   ·have tik:((i:Int) == (k:Int))=false:=by simp;omega
    have HS:Hid (thS (opG G) A k x (i + 1)=thS (opG G) A k x i ++ [wrow (opG G) A k x i]):=hid (thS_add _ _ hik)
    clear hik
    obtain ⟨C,hC⟩:∃ C,C=thS (opG G) A k x i:=⟨_,rfl⟩
    rw [← hC] at hwt hth HS ⊢
    have HC:=hid hC
    clear hC
    obtain ⟨a',c',e9,q1,q2,q3⟩:=u2
    obtain ⟨ub,uo,e2,hub,hucell⟩:=q3 (by intro e;rw [e] at hri;simp at hri;omega)
    rw [hri] at e9
    cases e9
    subst e2
    have u2:Sl w1 (.slice (some ⟨ub,uo,none⟩) cols uc) (Gj.row A i):=⟨some ⟨ub,uo,none⟩,uc,by rw [hri],by rw [hri];exact hul,q2,fun _=>⟨ub,uo,rfl,hub,hucell⟩⟩
    obtain ⟨z,hz⟩:∃ z,z=en A i x:=⟨_,rfl⟩
    have cz:w1.cell? ⟨ub,uo + x,none⟩=some (.int .i64 z):=by rw [hz];exact hucell x (by rw [hri];exact hx)
    have czr:=(hkr.cell' hub).trans cz
    have cxr:=(hkr.cell' hsx).trans cx
    have ckr:=(hkr.cell' hkb).trans ckx
    have uk1r:=(hkr.cell' (hk1.lt hbb)).trans uk1
    have HZ:=hid hz
    clear hz q1 q3
    go_upto_if 35 with (fail)
    go_cut [10] (fun vr wx=>∃ (ra:Option Addr) (rc:Nat),vr=.slice ra cols rc∧Wt Qv w1 wx (.slice oa C.length oc) C∧((Sl w1 (.slice ra cols rc) (wrow (opG G) A k x i)∧Qv (.slice ra cols rc)) ∨ Own wx w1.heap.size (.slice ra cols rc) (wrow (opG G) A k x i)))
    case first =>
     by_cases hz0:z=0
     ·have tz:(z != 0)=false:=by simpa using hz0
      have HW:Hid (wrow (opG G) A k x i=Gj.row A i):=hid (by unfold wrow;rw [if_pos (by rw [← HZ.out];exact hz0)])
      clear hz0
      go_wp2_with (fail)
      go_meet
      case rel=>exact ⟨_,_,rfl,hwt,.inl ⟨by rw [HW.out];exact u2,HQu.out⟩⟩
     ·have tz:(z != 0)=true:=by simpa using hz0
      obtain ⟨q,hq⟩:∃ q,q=mulG G z (invG G y):=⟨_,rfl⟩
      have HQ:Hid (mulG G z (invG G y)=q):=hid hq.symm
      have HW:Hid (wrow (opG G) A k x i=subm (opG G) q (Gj.row A k) (Gj.row A i)):=hid (by
       unfold wrow;rw [if_neg (by rw [← HZ.out];exact hz0),← HZ.out,← HY.out,hq];rfl)
      have hgr:=hg1.kept hkr
      clear hz0 hq
      go_wp2_with (fail)
      go_quiet ((go_at_call 188;refine Calls.quiet_of ((div_ok b G z y _ (hgr.drewN _) t HY0.out).mono (fun _ _ h=>by rw [HQ.out] at h;exact h))))
      go_upto_region 11 with (fail)
      obtain ⟨wd,hwd⟩:∃ x,x=wo.drewN nq:=⟨_,rfl⟩
      have hkd:Kept wo wd:=by rw [hwd];exact kept_drewN _ _
      rw [← hwd]
      clear hwd
      have u2d:=u2.kept (hkr.tr hkd)
      have hwd:=hwt.kept hkd
      have uk1d:=(hkd.cell' (hkr.lt (hk1.lt hbb))).trans uk1r
      go_wp2_with (go_at_call 128;(with_reducible refine (clone_any _ (Gj.row A i) wd u2d (by rw [hri];omega)).mono ?_);rintro e w3 ⟨v3,rfl,ho3,hk3⟩;obtain ⟨gr,cr,e3,_,_,hgc,hgm⟩:∃ g cap,v3=.slice (some ⟨g,0,none⟩) cols cap∧wd.heap.size≤g∧g < w3.heap.size∧cols≤cap∧cap≤maxLen:=(by rcases ho3.form with ⟨_,e⟩ | h;(exact absurd (by rw [← hri,e];rfl) (show cols ≠ 0 by omega));(rw [hri] at h;exact h));subst e3;have uk13:=(hk3.cell' (hkd.lt (hkr.lt (hk1.lt hbb)))).trans uk1d)
      rw [← sbS_zero (opG G) q (Gj.row A k) (Gj.row A i)] at ho3
      unfold maxLen at hgm
      go_loopw [59] (fun vi wx=>∃ j:Nat,j≤cols∧vi=.int .i64 j∧Own wx wd.heap.size (.slice (some ⟨gr,0,none⟩) cols cr) (sbS (opG G) q (Gj.row A k) (Gj.row A i) j)∧Kept wd wx) (fun vi _=>cols - (intOf vi).toNat)
      case atStart=>exact ⟨0,by omega,rfl,ho3,hk3⟩
      case round =>
       obtain ⟨j,hj,rfl,hox,hkx⟩:=hrel
       obtain ⟨wx,hwx⟩:∃ x,x=wr:=⟨_,rfl⟩
       rw [← hwx] at hox hkx ⊢
       clear hwx ho3 uk13
       by_cases hjc:j < cols
       ·have hjc':(j:Int) < (cols:Int):=by omega
        have hjl:j < (Gj.row A i).length:=by rw [hri];exact hjc
        obtain ⟨yj,hyj⟩:∃ y,y=(Gj.row A k).getD j 0:=⟨_,rfl⟩
        have cyj:=(hkx.cell' (hkd.lt (hkr.lt hkb))).trans ((hkd.cell' (hkr.lt hkb)).trans ((hkr.cell' hkb).trans (HK.out kb ko rfl j hjc)))
        have cxj:=hox.cell (i:=j) (by rw [sbS_len];exact hjl)
        have fxj:=hox.frozen j
        rw [sbS_at hjl,if_neg (Nat.lt_irrefl j)] at cxj
        have hstep:=sbS_step (o:=opG G) (a:=q) (u:=Gj.row A k) hjl
        rw [subm_at hjl] at hstep
        obtain ⟨zj,hzj⟩:∃ y,y=(Gj.row A i).getD j 0:=⟨_,rfl⟩
        rw [← hyj] at cyj hstep
        rw [← hzj] at cxj hstep
        obtain ⟨m,hm⟩:∃ m,m=mulG G q yj:=⟨_,rfl⟩
        have HM:Hid (mulG G q yj=m):=hid hm.symm
        obtain ⟨sv,hsv⟩:∃ m',m'=addG G zj (negG G m):=⟨_,rfl⟩
        have HA:Hid (addG G zj (negG G m)=sv):=hid hsv.symm
        have HST:Hid ((sbS (opG G) q (Gj.row A k) (Gj.row A i) j).set j sv=sbS (opG G) q (Gj.row A k) (Gj.row A i) (j + 1)):=hid (by rw [hsv,hm];exact hstep)
        have hgx:=hgr.kept (hkd.tr hkx)
        clear hyj hzj hm hsv hstep hjl
        go_wp2_with (fail)
        refine wp_region_noPanic ?_
        refine wp_region_held_drew (S:=fun _=>True) (by kernel_rfl) ?_ (fun hHeld=>?_)
        ·trivial
        refine wpAnyH_take (i:=0) (oi:=?ozc1) (v:=?vzc1) ?hizc1 (by kernel_rfl) (by kernel_rfl) (by kernel_rfl) (fun _ _ _ h=>h) (Or.inl ⟨?hwzc1, ?hyzc1⟩) (by assumption) ?restzc1
        case hizc1=>(simp only [List.getElem?_toArray,List.getElem?_cons_zero];rfl)
        case hwzc1=>rfl
        case hyzc1=>(intro w hSw;(try dsimp only at hSw);go_simp;with_reducible rfl)
        try simp only [Act.put,List.setIfInBounds_toArray,List.set_cons_zero,List.set_cons_succ]
        refine wpAnyH_take (i:=1) (oi:=?ozc2) (v:=?vzc2) ?hizc2 (by kernel_rfl) (by kernel_rfl) (by kernel_rfl) (fun _ _ _ h=>h) (Or.inl ⟨?hwzc2, ?hyzc2⟩) (by assumption) ?restzc2
        case hizc2=>(simp only [List.getElem?_toArray,List.getElem?_cons_succ,List.getElem?_cons_zero];rfl)
        case hwzc2=>rfl
        case hyzc2=>(intro w hSw;(try dsimp only at hSw);go_simp;with_reducible rfl)
        try simp only [Act.put,List.setIfInBounds_toArray,List.set_cons_zero,List.set_cons_succ]
        refine wpAnyH_take (i:=2) (oi:=?ozc3) (v:=?vzc3) ?hizc3 (by kernel_rfl) (by kernel_rfl) (by kernel_rfl) (fun _ _ _ h=>h) (Or.inl ⟨?hwzc3, ?hyzc3⟩) (by assumption) ?restzc3
        case hizc3=>(simp only [List.getElem?_toArray,List.getElem?_cons_succ,List.getElem?_cons_zero];rfl)
        case hwzc3=>rfl
        case hyzc3=>(intro w hSw;(try dsimp only at hSw);go_simp;with_reducible rfl)
        try simp only [Act.put,List.setIfInBounds_toArray,List.set_cons_zero,List.set_cons_succ]
        refine wpAnyH_take (i:=3) (oi:=?ozc4) (v:=?vzc4) ?hizc4 (by kernel_rfl) (by kernel_rfl) (by kernel_rfl) (fun _ _ _ h=>h) (Or.inl ⟨?hwzc4, ?hyzc4⟩) (by assumption) ?restzc4
        case hizc4=>(simp only [List.getElem?_toArray,List.getElem?_cons_succ,List.getElem?_cons_zero];rfl)
        case hwzc4=>rfl
        case hyzc4=>(intro w hSw;(try dsimp only at hSw);go_simp;with_reducible rfl)
        try simp only [Act.put,List.setIfInBounds_toArray,List.set_cons_zero,List.set_cons_succ]
        refine wpAnyH_take (i:=4) (oi:=?ozc5) (v:=?vzc5) ?hizc5 (by kernel_rfl) (by kernel_rfl) (by kernel_rfl) (fun _ _ _ h=>h) (Or.inl ⟨?hwzc5, ?hyzc5⟩) (by assumption) ?restzc5
        case hizc5=>(simp only [List.getElem?_toArray,List.getElem?_cons_succ,List.getElem?_cons_zero];rfl)
        case hwzc5=>rfl
        case hyzc5=>(intro w hSw;(try dsimp only at hSw);go_simp;with_reducible rfl)
        try simp only [Act.put,List.setIfInBounds_toArray,List.set_cons_zero,List.set_cons_succ]
        refine wpAnyH_take (i:=5) (oi:=?ozc6) (v:=?vzc6) ?hizc6 (by kernel_rfl) (by kernel_rfl) (by kernel_rfl) (fun _ _ _ h=>h) (Or.inl ⟨?hwzc6, ?hyzc6⟩) (by assumption) ?restzc6
        case hizc6=>(simp only [List.getElem?_toArray,List.getElem?_cons_succ,List.getElem?_cons_zero];rfl)
        case hwzc6=>rfl
        case hyzc6=>(intro w hSw;(try dsimp only at hSw);go_simp;with_reducible rfl)
        try simp only [Act.put,List.setIfInBounds_toArray,List.set_cons_zero,List.set_cons_succ]
        refine wpAnyH_take (i:=7) (oi:=?ozc7) (v:=?vzc7) ?hizc7 (by kernel_rfl) (by kernel_rfl) (by kernel_rfl) (fun _ _ _ h=>h) (Or.inl ⟨?hwzc7, ?hyzc7⟩) (by assumption) ?restzc7
        case hizc7=>(simp only [List.getElem?_toArray,List.getElem?_cons_succ,List.getElem?_cons_zero];rfl)
        case hwzc7=>rfl
        case hyzc7=>(intro w hSw;(try dsimp only at hSw);go_simp;with_reducible rfl)
        try simp only [Act.put,List.setIfInBounds_toArray,List.set_cons_zero,List.set_cons_succ]
        refine wpAnyH_take (i:=8) (oi:=?ozc8) (v:=?vzc8) ?hizc8 (by kernel_rfl) (by kernel_rfl) (by kernel_rfl) (fun _ _ _ h=>h) (Or.inl ⟨?hwzc8, ?hyzc8⟩) (by assumption) ?restzc8
        case hizc8=>(simp only [List.getElem?_toArray,List.getElem?_cons_succ,List.getElem?_cons_zero];rfl)
        case hwzc8=>rfl
        case hyzc8=>(intro w hSw;(try dsimp only at hSw);go_simp;with_reducible rfl)
        try simp only [Act.put,List.setIfInBounds_toArray,List.set_cons_zero,List.set_cons_succ]
        refine wpAnyH_take (i:=9) (oi:=?ozc9) (v:=?vzc9) ?hizc9 (by kernel_rfl) (by kernel_rfl) (by kernel_rfl) (fun _ _ _ h=>h) (Or.inl ⟨?hwzc9, ?hyzc9⟩) (by assumption) ?restzc9
        case hizc9=>(simp only [List.getElem?_toArray,List.getElem?_cons_succ,List.getElem?_cons_zero];rfl)
        case hwzc9=>rfl
        case hyzc9=>(intro w hSw;(try dsimp only at hSw);go_simp;with_reducible rfl)
        try simp only [Act.put,List.setIfInBounds_toArray,List.set_cons_zero,List.set_cons_succ]
        refine wpAnyH_ready (rs:=[6,10]) (by kernel_rfl) (by simp) ?_
        refine (AllReadyH.cons (o:=?otc10_6) ?htc10_6 (fun K hK=>?btc10_6) (AllReadyH.cons (o:=?otc10_10) ?htc10_10 (fun K hK=>?btc10_10) AllReadyH.nil))
        case htc10_6=>(simp only [List.getElem?_toArray,List.getElem?_cons_succ,List.getElem?_cons_zero];rfl)
        case htc10_10=>(simp only [List.getElem?_toArray,List.getElem?_cons_succ,List.getElem?_cons_zero];rfl)
        case btc10_6 =>
         go_simp
         refine hK.out _ _ ?_ (fun hHeld=>?_)
         ·first | assumption | trivial
         clear hK K
         try simp only [Act.put,List.setIfInBounds_toArray,List.set_cons_zero,List.set_cons_succ]
         refine wpAnyH_ready (rs:=[10]) (by kernel_rfl) (by simp) ?_
         refine AllReadyH.cons (o:=?oyc11) ?hyc11 (fun K hK=>?byc11) AllReadyH.nil
         case hyc11=>(simp only [List.getElem?_toArray,List.getElem?_cons_succ,List.getElem?_cons_zero];rfl)
         go_simp
         go_at_call 94;(with_reducible refine (mul_any b G q yj _ (by first | exact hgx.drew | exact hgx | exact hgx.drewN _ | exact hgx.drew.drewN _) t).mono ?_);rintro e w4 ⟨rfl,n4,rfl⟩;rw [HM.out]
         try go_wp2_with (fail)
         refine hK.out _ _ ?_ (fun hHeld=>?_)
         ·first | assumption | trivial
         clear hK K
         try simp only [Act.put,List.setIfInBounds_toArray,List.set_cons_zero,List.set_cons_succ]
         refine wpAnyH_ready (rs:=[11]) (by kernel_rfl) (by simp) ?_
         refine AllReadyH.cons (o:=?oyc12) ?hyc12 (fun K hK=>?byc12) AllReadyH.nil
         case hyc12=>(simp only [List.getElem?_toArray,List.getElem?_cons_succ,List.getElem?_cons_zero];rfl)
         go_simp
         go_at_call 189;(with_reducible refine (sub_any b G zj m _ (by first | exact hgx.drew.drewN _ | exact hgx.drewN _ | exact (hgx.drewN _).drewN _ | exact (hgx.drew.drewN _).drewN _ | exact hgx.drew) t).mono ?_);rintro e w5 ⟨rfl,n5,rfl⟩;rw [HA.out]
         try go_wp2_with (fail)
         refine hK.out _ _ ?_ (fun hHeld=>?_)
         ·first | assumption | trivial
         clear hK K
         try simp only [Act.put,List.setIfInBounds_toArray,List.set_cons_zero,List.set_cons_succ]
         refine wpAnyH_take (i:=12) (oi:=?ozc13) (v:=?vzc13) ?hizc13 (by kernel_rfl) (by kernel_rfl) (by kernel_rfl) (fun _ _ _ h=>h) (Or.inl ⟨?hwzc13, ?hyzc13⟩) (by assumption) ?restzc13
         case hizc13=>(simp only [List.getElem?_toArray,List.getElem?_cons_succ,List.getElem?_cons_zero];rfl)
         case hwzc13=>rfl
         case hyzc13=>(intro w hSw;(try dsimp only at hSw);go_simp;with_reducible rfl)
         try simp only [Act.put,List.setIfInBounds_toArray,List.set_cons_zero,List.set_cons_succ]
         refine wpAnyH_ready (rs:=[13]) (by kernel_rfl) (by simp) ?_
         refine AllReadyH.cons (o:=?oyc14) ?hyc14 (fun K hK=>?byc14) AllReadyH.nil
         case hyc14=>(simp only [List.getElem?_toArray,List.getElem?_cons_succ,List.getElem?_cons_zero];rfl)
         go_simp
         refine hK.out _ _ ?_ (fun hHeld=>?_)
         ·first | assumption | trivial
         clear hK K
         try simp only [Act.put,List.setIfInBounds_toArray,List.set_cons_zero,List.set_cons_succ]
         refine wpAnyH_done (by kernel_rfl) ?_ _
         refine NoPanic.normal ?_
         go_wp2_with (fail)
         go_roundw
         case rel=>exact ⟨j + 1,by omega,by go_num,by rw [← HST.out];exact (hox.kept (kept_drewN _ _)).set j sv,set_below _ (hkx.drewN _) (own_blk hox rfl).1⟩
         case measure=>simp [intOf];omega
        case btc10_10 =>
         go_simp
         go_at_call 94;(with_reducible refine (mul_any b G q yj _ (by first | exact hgx.drew | exact hgx | exact hgx.drewN _ | exact hgx.drew.drewN _) t).mono ?_);rintro e w4 ⟨rfl,n4,rfl⟩;rw [HM.out]
         try go_wp2_with (fail)
         refine hK.out _ _ ?_ (fun hHeld=>?_)
         ·first | assumption | trivial
         clear hK K
         try simp only [Act.put,List.setIfInBounds_toArray,List.set_cons_zero,List.set_cons_succ]
         refine wpAnyH_ready (rs:=[6]) (by kernel_rfl) (by simp) ?_
         refine AllReadyH.cons (o:=?oyc15) ?hyc15 (fun K hK=>?byc15) AllReadyH.nil
         case hyc15=>(simp only [List.getElem?_toArray,List.getElem?_cons_succ,List.getElem?_cons_zero];rfl)
         go_simp
         refine hK.out _ _ ?_ (fun hHeld=>?_)
         ·first | assumption | trivial
         clear hK K
         try simp only [Act.put,List.setIfInBounds_toArray,List.set_cons_zero,List.set_cons_succ]
         refine wpAnyH_ready (rs:=[11]) (by kernel_rfl) (by simp) ?_
         refine AllReadyH.cons (o:=?oyc16) ?hyc16 (fun K hK=>?byc16) AllReadyH.nil
         case hyc16=>(simp only [List.getElem?_toArray,List.getElem?_cons_succ,List.getElem?_cons_zero];rfl)
         go_simp
         go_at_call 189;(with_reducible refine (sub_any b G zj m _ (by first | exact hgx.drew.drewN _ | exact hgx.drewN _ | exact (hgx.drewN _).drewN _ | exact (hgx.drew.drewN _).drewN _ | exact hgx.drew) t).mono ?_);rintro e w5 ⟨rfl,n5,rfl⟩;rw [HA.out]
         try go_wp2_with (fail)
         refine hK.out _ _ ?_ (fun hHeld=>?_)
         ·first | assumption | trivial
         clear hK K
         try simp only [Act.put,List.setIfInBounds_toArray,List.set_cons_zero,List.set_cons_succ]
         refine wpAnyH_take (i:=12) (oi:=?ozc17) (v:=?vzc17) ?hizc17 (by kernel_rfl) (by kernel_rfl) (by kernel_rfl) (fun _ _ _ h=>h) (Or.inl ⟨?hwzc17, ?hyzc17⟩) (by assumption) ?restzc17
         case hizc17=>(simp only [List.getElem?_toArray,List.getElem?_cons_succ,List.getElem?_cons_zero];rfl)
         case hwzc17=>rfl
         case hyzc17=>(intro w hSw;(try dsimp only at hSw);go_simp;with_reducible rfl)
         try simp only [Act.put,List.setIfInBounds_toArray,List.set_cons_zero,List.set_cons_succ]
         refine wpAnyH_ready (rs:=[13]) (by kernel_rfl) (by simp) ?_
         refine AllReadyH.cons (o:=?oyc18) ?hyc18 (fun K hK=>?byc18) AllReadyH.nil
         case hyc18=>(simp only [List.getElem?_toArray,List.getElem?_cons_succ,List.getElem?_cons_zero];rfl)
         go_simp
         refine hK.out _ _ ?_ (fun hHeld=>?_)
         ·first | assumption | trivial
         clear hK K
         try simp only [Act.put,List.setIfInBounds_toArray,List.set_cons_zero,List.set_cons_succ]
         refine wpAnyH_done (by kernel_rfl) ?_ _
         refine NoPanic.normal ?_
         go_wp2_with (fail)
         go_roundw
         case rel=>exact ⟨j + 1,by omega,by go_num,by rw [← HST.out];exact (hox.kept (kept_drewN _ _)).set j sv,set_below _ (hkx.drewN _) (own_blk hox rfl).1⟩
         case measure=>simp [intOf];omega
       ·have hje:j=cols:=by omega
        have hjc':¬ (j:Int) < (cols:Int):=by omega
        have HF:Hid (sbS (opG G) q (Gj.row A k) (Gj.row A i) j=wrow (opG G) A k x i):=hid (by rw [hje,← hri,sbS_full];exact HW.out.symm)
        rw [HF.out] at hox
        clear hje
        go_wp2_with (fail)
        go_meet
        case rel=>exact ⟨_,_,rfl,hwd.kept hkx,.inr (hox.mono (hkr.tr hkd).size)⟩
    case rest =>
     obtain ⟨ra,rc,rfl,hwx,hrow⟩:=hcut
     obtain ⟨wy,hwy⟩:∃ x,x=wc:=⟨_,rfl⟩
     rw [← hwy] at hwx hrow ⊢
     clear hwy hwt hkr czr cxr ckr uk1r u1r
     have hka:=kept_alloc wy (.cells #[.slice ra cols rc] 22)
     have hrow':=hrow.imp id fun o=>o.kept hka
     obtain ⟨hky,rv,h2,h3⟩:=hwx.kept hka
     have hsz:w1.heap.size≤(wy.alloc (.cells #[.slice ra cols rc] 22)).heap.size:=hky.size
     have H3:=hid h3
     clear h3 hrow
     go_wp2_with (at_builtin;refine wpList_append_row rfl _ _ rfl w1.heap.size _ C.length _ rfl h2 ⟨wy.heap.size,0,none⟩ (.slice ra cols rc) rfl (cell_new rfl) rfl (by omega) hsz ?_;intro v8 w8 o8 hg8)
     have hw8:=Wt.add hky H3.out h2 hrow' o8 hg8
     rw [← HS.out] at hw8
     obtain ⟨oa8,oc8,rfl,_,_⟩:=hw8.rd.1.get
     clear o8 hg8 h2 hrow'
     go_roundw
     case rel=>exact ⟨i + 1,oa8,oc8,by omega,by go_num,rfl,hw8⟩
     case measure=>simp [intOf];omega
  ·have hie:i=A.length:=by omega
   have hin':¬ (i:Int) < (A.length:Int):=by omega
   have HE:Hid (thS (opG G) A k x i=wthL (opG G) A x):=hid (by rw [hie];exact HT.out)
   rw [HE.out] at hwt ⊢
   clear hie
   go_wp2_with (fail)
   go_ret
   exact ⟨_,rfl,hwt.rd.1,fun g hg' hnb=>hwt.rd.2 g (Nat.lt_of_lt_of_le hg' hk1.size) (fun u hQ=>by rw [hQv] at hQ;exact hQ.out g hnb),hk1.tr hkr⟩
end Go.Proofs.YtoilbeadokallaaGreatDoor
namespace Go.Proofs.YtoilbeadokallaaGreatDoor
open Go.RowKit Cw Cw.Gj Cw.Dm
theorem sl_gb {w w':World} {g:Nat} {u:Value} {l:List Int} (h:Sl w u l) (hn:Nv g u) (k:w.grownBy w' (some g)):Sl w' u l:=by
 obtain ⟨a,cap,rfl,h2,h3,h4⟩:=h
 refine ⟨a,cap,rfl,h2,h3,fun hl=>?_⟩
 obtain ⟨b,off,e,hb,hc⟩:=h4 hl
 exact ⟨b,off,e,Nat.lt_of_lt_of_le hb k.size,fun j hj=>(gb_cell k hb (hn b off _ _ (by rw [e]))).trans (hc j hj)⟩
theorem rd_gb {w w':World} {g:Nat} {v:Value} {A:List (List Int)} (h:Rd w v A) (hn:Nb g w v A) (k:w.grownBy w' (some g)):Rd w' v A∧Nb g w' v A:=by
 obtain ⟨a,cap,rfl,h2,h3,h4⟩:=h
 refine ⟨⟨a,cap,rfl,h2,h3,fun hl=>?_⟩,fun hl b o n c e=>?_⟩
 ·obtain ⟨b,off,e,hb,hc⟩:=h4 hl
  obtain ⟨n1,n2⟩:=hn hl b off _ _ (by rw [e])
  refine ⟨b,off,e,Nat.lt_of_lt_of_le hb k.size,fun i hi=>?_⟩
  obtain ⟨u,u1,u2⟩:=hc i hi
  exact ⟨u,(gb_cell k hb n1).trans u1,sl_gb u2 (n2 i u hi u1) k⟩
 ·obtain ⟨n1,n2⟩:=hn hl b o n c e
  obtain ⟨b',off,e2,hb,hc⟩:=h4 hl
  cases e
  cases e2
  exact ⟨n1,fun i u hi hu=>n2 i u hi (by rw [← hu];exact (gb_cell k hb n1).symm)⟩
theorem nb_kept {w w':World} {g:Nat} {v:Value} {A:List (List Int)} (h:Rd w v A) (hn:Nb g w v A) (k:Kept w w'):Nb g w' v A:=(rd_gb h hn (gb_of_kept k)).2
structure Vs (w0 w:World) (b:Nat) (G:GFd) (pc pt pf pg gt n N:Nat):Prop where
 k:Kept w0 w
 g:IsGF w0 b G
 B:w0.heap.size≤gt
 c1:w.cell? ⟨pc,3,none⟩=some (.int .i64 n)
 ct:w.cell? ⟨pt,0,none⟩=some (.slice (some ⟨gt,0,none⟩) N N)
 cf:w.cell? ⟨pf,0,none⟩=some (.func (.func 132) #[] #[.pointer (some ⟨pc,0,none⟩),.pointer (some ⟨pt,0,none⟩),.pointer (some ⟨pf,0,none⟩),.pointer (some ⟨pg,0,none⟩)])
 cg:w.cell? ⟨pg,0,none⟩=some (.pointer (some ⟨b,0,none⟩))
 ne:pc ≠ gt∧pt ≠ gt∧pf ≠ gt∧pg ≠ gt
 lt:pc < w.heap.size∧pt < w.heap.size∧pf < w.heap.size∧pg < w.heap.size∧gt < w.heap.size
theorem Vs.grown {w0 w w':World} {b:Nat} {G:GFd} {pc pt pf pg gt n N:Nat} (h:Vs w0 w b G pc pt pf pg gt n N) (k:w.grownBy w' (some gt)):Vs w0 w' b G pc pt pf pg gt n N:=by
 have hs:=k.size
 obtain ⟨l1,l2,l3,l4,l5⟩:=h.lt
 exact ⟨gb_below h.k k h.B h.k.size,h.g,h.B,(gb_cell k l1 h.ne.1).trans h.c1,(gb_cell k l2 h.ne.2.1).trans h.ct,(gb_cell k l3 h.ne.2.2.1).trans h.cf,(gb_cell k l4 h.ne.2.2.2).trans h.cg,h.ne,by omega,by omega,by omega,by omega,by omega⟩
theorem Vs.kept {w0 w w':World} {b:Nat} {G:GFd} {pc pt pf pg gt n N:Nat} (h:Vs w0 w b G pc pt pf pg gt n N) (k:Kept w w'):Vs w0 w' b G pc pt pf pg gt n N:=h.grown (gb_of_kept k)
def tabS (D:Nat→Nat) (N x M:Nat) (tab:List Int):List Int:=(List.range N).map fun i=>if i % 2 ^ x=M then (D i:Int) else tab.getD i 0
theorem tabS_len (D:Nat→Nat) (N x M:Nat) (tab:List Int):(tabS D N x M tab).length=N:=by simp [tabS]
theorem tabS_at {D:Nat→Nat} {N x M i:Nat} {tab:List Int} (h:i < N):(tabS D N x M tab).getD i 0=if i % 2 ^ x=M then (D i:Int) else tab.getD i 0:=by
 unfold tabS;simp [List.getD,h]
theorem mod_succ (i x:Nat):i % 2 ^ (x + 1)=i % 2 ^ x + 2 ^ x * (if i.testBit x then 1 else 0):=by
 rw [Nat.pow_succ,Nat.mod_mul,Nat.testBit_eq_decide_div_mod_eq]
 have:i / 2 ^ x % 2=0 ∨ i / 2 ^ x % 2=1:=by omega
 rcases this with e | e <;> simp [e]
theorem mod_yes {i x M:Nat}:i % 2 ^ (x + 1)=M + 2 ^ x ↔ i % 2 ^ x=M∧i.testBit x=true:=by
 have h:=Nat.mod_lt i (Nat.two_pow_pos x)
 rw [mod_succ]
 by_cases e:i.testBit x=true
 ·rw [if_pos e];simp [e]
 ·rw [if_neg e];simp [e];omega
theorem mod_no {i x M:Nat} (hM:M < 2 ^ x):i % 2 ^ (x + 1)=M ↔ i % 2 ^ x=M∧i.testBit x=false:=by
 have h:=Nat.mod_lt i (Nat.two_pow_pos x)
 rw [mod_succ]
 by_cases e:i.testBit x=true
 ·rw [if_pos e];simp [e];omega
 ·rw [if_neg e];simp [e]
theorem tabS_step {D D1 D2:Nat→Nat} {N x M:Nat} {tab:List Int} (hM:M < 2 ^ x) (h1:∀ i,i.testBit x=true→D i=D1 i) (h2:∀ i,i.testBit x=false→D i=D2 i) :
  tabS D2 N (x + 1) M (tabS D1 N (x + 1) (M + 2 ^ x) tab)=tabS D N x M tab:=list_eq_of (by rw [tabS_len,tabS_len]) fun i hi=>by
 rw [tabS_len] at hi
 rw [tabS_at hi,tabS_at hi,tabS_at hi]
 by_cases e:i % 2 ^ x=M
 ·rw [if_pos e]
  cases b:i.testBit x with
  | true=>rw [if_neg (fun q=>by have:=((mod_no hM).1 q).2;rw [b] at this;cases this),if_pos (mod_yes.2 ⟨e,b⟩),h1 i b]
  | false=>rw [if_pos ((mod_no hM).2 ⟨e,b⟩),h2 i b]
 ·rw [if_neg e,if_neg (fun q=>e ((mod_no hM).1 q).1),if_neg (fun q=>e (mod_yes.1 q).1)]
theorem tabS_zero {D:Nat→Nat} {N x M:Nat} {tab:List Int} (hl:tab.length=N) (h:∀ i,i < N→i % 2 ^ x=M→(D i:Int)=tab.getD i 0):tabS D N x M tab=tab:=list_eq_of (by rw [tabS_len,hl]) fun i hi=>by
 rw [tabS_len] at hi
 rw [tabS_at hi]
 split
 ·exact h i hi (by assumption)
 ·rfl
theorem tabS_last {D:Nat→Nat} {n M:Nat} {tab:List Int} (hl:tab.length=2 ^ n) (hM:M < 2 ^ n):tab.set M (D M:Int)=tabS D (2 ^ n) n M tab:=list_eq_of (by rw [List.length_set,tabS_len,hl]) fun i hi=>by
 rw [List.length_set,hl] at hi
 rw [tabS_at hi,Nat.mod_eq_of_lt hi]
 by_cases e:i=M
 ·rw [if_pos e,e];simp [List.getD,hl,hM]
 ·rw [if_neg e,List.getD,List.getElem?_set_ne (Ne.symm e),← List.getD]
def dmB (o:Cw.Op) (A:List (List Int)) (n x:Nat) (i:Nat):Nat:=(fw o i.testBit (n - x) x A).length
theorem dmB_yes {o:Cw.Op} {A:List (List Int)} {n x i:Nat} (hx:x < n) (h:i.testBit x=true):dmB o A n x i=dmB o A n (x + 1) i:=by
 unfold dmB
 rw [show n - x=(n - (x + 1)) + 1 by omega,fw,if_pos h]
theorem dmB_no {o:Cw.Op} {A:List (List Int)} {n x i:Nat} (hx:x < n) (h:i.testBit x=false):dmB o A n x i=dmB o (wthL o A x) n (x + 1) i:=by
 unfold dmB
 rw [show n - x=(n - (x + 1)) + 1 by omega,fw,if_neg (by rw [h];simp)]
theorem dmB_nil (o:Cw.Op) (n x i:Nat):dmB o [] n x i=0:=by unfold dmB;rw [fw_nil];rfl
theorem wth_len (o:Cw.Op) (A:List (List Int)) (x:Nat):(wthL o A x).length≤A.length:=by
 unfold wthL;split
 ·simp
 ·exact Nat.le_refl _
theorem or_pow {M x:Nat} (h:M < 2 ^ x):M ||| 2 ^ x=M + 2 ^ x:=by
 have:=Nat.two_pow_add_eq_or_of_lt h 1
 rw [Nat.mul_one] at this
 rw [Nat.or_comm,← this,Nat.add_comm]
end Go.Proofs.YtoilbeadokallaaGreatDoor
namespace Go.Proofs.YtoilbeadokallaaGreatDoor
open Go.RowKit Cw Cw.Gj Cw.Dm
def VsOut (w0 w:World) (gt N:Nat) (tab:List Int) (e:Ending) (w':World):Prop:=e=.returned (.tuple #[])∧w.grownBy w' (some gt)∧Own w' w0.heap.size (.slice (some ⟨gt,0,none⟩) N N) tab
set_option maxRecDepth 100000 in
set_option maxHeartbeats 4000000 in
theorem visit_any (b:Nat) (G:GFd) (t:Tabs G) (pc pt pf pg gt n:Nat) (w0:World) (hn:n≤16):∀ (m x M:Nat) (v:Value) (A:List (List Int)) (tab:List Int) (w:World),x + m=n→M < 2 ^ x→(∃ V,Spc n V∧Bas (fe t A) A.length n V)→WF G.q A n→A.length≤64→Rd w v A→Nb gt w v A →
  Vs w0 w b G pc pt pf pg gt n (2 ^ n)→Own w w0.heap.size (.slice (some ⟨gt,0,none⟩) (2 ^ n) (2 ^ n)) tab→tab.length=2 ^ n→(∀ i,i < 2 ^ n→i % 2 ^ x=M→tab.getD i 0=0) →
  Calls Tryz.prog 132 #[v,.int .i64 M,.int .i64 x,.pointer (some ⟨pc,0,none⟩),.pointer (some ⟨pt,0,none⟩),.pointer (some ⟨pf,0,none⟩),.pointer (some ⟨pg,0,none⟩)] w (VsOut w0 w gt (2 ^ n) (tabS (dmB (opG G) A n x) (2 ^ n) x M tab)):=by
 intro m
 induction m with
 | zero =>
  intro x M v A tab w hxm hM hB hw hA hv hnb hs ho hl hz
  obtain rfl:x=n:=by omega
  obtain ⟨va,vc,rfl,hvl,hvm,_⟩:=hv.get
  unfold maxLen at hvm
  have c1:=hs.c1
  have ct:=hs.ct
  have HO:=hid ho
  by_cases hA0:A.length=0
  ·have HT:Hid (tabS (dmB (opG G) A x x) (2 ^ x) x M tab=tab):=hid (tabS_zero hl fun i hi e=>by
    rw [List.eq_nil_of_length_eq_zero hA0,dmB_nil,hz i hi e];rfl)
   rw [hA0]
   go_enter Tryz.func132,Tryz.ntmps132
   go_wp2_with (fail)
   go_end0
   exact ⟨rfl,World.grownBy.refl _ _,by rw [HT.out];exact HO.out⟩
  have hA1:((A.length:Int) == 0)=false:=by simpa using hA0
  have HD:Hid (tab.set M (A.length:Int)=tabS (dmB (opG G) A x x) (2 ^ x) x M tab):=hid (by
   have:=tabS_last (D:=dmB (opG G) A x x) hl hM
   rw [show dmB (opG G) A x x M=A.length by unfold dmB;rw [Nat.sub_self];rfl] at this
   exact this)
  have cm:=ho.cell (i:=M) (by rw [hl];exact hM)
  have fm:=ho.frozen M
  obtain ⟨z,hz0⟩:∃ z,z=tab.getD M 0:=⟨_,rfl⟩
  rw [← hz0] at cm
  have hgs:=grownBy_setCell w gt M (.int .i64 A.length)
  have hos:=ho.set M (A.length:Int)
  rw [HD.out] at hos
  have HGS:=hid hgs
  have HOS:=hid hos
  obtain ⟨N,hN⟩:∃ N,N=2 ^ x:=⟨_,rfl⟩
  rw [← hN] at ct hM HOS ⊢
  have hM':(M:Int) < (N:Int):=by omega
  clear hN ho hz hl hz0 hgs hos hs
  go_enter Tryz.func132,Tryz.ntmps132
  go_wp2_with (fail)
  go_end0
  exact ⟨rfl,HGS.out,HOS.out⟩
 | succ m ih =>
  intro x M v A tab w hxm hM hB hw hA hv hnb hs ho hl hz
  obtain ⟨va,vc,rfl,hvl,hvm,_⟩:=hv.get
  unfold maxLen at hvm
  have c1:=hs.c1
  have ct:=hs.ct
  have cf:=hs.cf
  have cg:=hs.cg
  have IH:=hid ih
  clear ih
  by_cases hA0:A.length=0
  ·have HT:Hid (tabS (dmB (opG G) A n x) (2 ^ n) x M tab=tab):=hid (tabS_zero hl fun i hi e=>by
    rw [List.eq_nil_of_length_eq_zero hA0,dmB_nil,hz i hi e];rfl)
   have HO:=hid ho
   rw [hA0]
   go_enter Tryz.func132,Tryz.ntmps132
   go_wp2_with (fail)
   go_end0
   exact ⟨rfl,World.grownBy.refl _ _,by rw [HT.out];exact HO.out⟩
  have hA1:((A.length:Int) == 0)=false:=by simpa using hA0
  have hxn:((x:Int) == (n:Int))=false:=by simp;omega
  obtain ⟨X,hX⟩:∃ X,X=2 ^ x:=⟨_,rfl⟩
  have hX15:X≤32768:=by
   rw [hX]
   exact Nat.le_trans (Nat.pow_le_pow_right (by decide) (show x≤15 by omega)) (by decide)
  have hMX:M < X:=by rw [hX];exact hM
  have hXi:((2:Int) ^ x)=(X:Int):=by rw [hX];push_cast;rfl
  have hor:bits .or .i64 (M:Int) (X:Int)=((M + X:Nat):Int):=by
   rw [or_bits M X (by omega) (by omega),hX,or_pow hM]
  have HX:=hid hX
  have HM:=hid hM
  have HZ:=hid hz
  have HB:=hid hB
  have HV:=hid hv
  have HNB:=hid hnb
  have HO:=hid ho
  clear hX hM hz hB
  have hC1:=IH.out (x + 1) (M + X) (.slice va A.length vc) A tab w.drew (by omega) (by rw [HX.out,Nat.pow_succ];have:=HM.out;omega) HB.out hw hA (HV.out.kept (kept_drew _)) (nb_kept HV.out HNB.out (kept_drew _)) (hs.kept (kept_drew _)) (HO.out.kept (kept_drew _)) hl
   (fun i hi e=>HZ.out i hi (mod_yes.1 (by rw [← HX.out];exact e)).1)
  have HC1:=hid hC1
  have hw1:IntKind.i64.wrap (X:Int)=X:=i64_wraps _ (by omega) (by omega)
  have hw2:IntKind.i64.wrap ((x:Int) + 1)=((x + 1:Nat):Int):=by rw [i64_wraps _ (by omega) (by omega)];push_cast;rfl
  have hb4:x < n:=by omega
  have HE1:Hid ((M:Int) + (X:Int)=((M + X:Nat):Int)):=hid (by push_cast;rfl)
  have HE2:Hid ((x:Int) + 1=((x + 1:Nat):Int)):=hid (by push_cast;rfl)
  clear hC1
  go_enter Tryz.func132,Tryz.ntmps132
  go_wp2_with (fail)
  go_region_held3 (fun w'=>w'.cell? ⟨pf,0,none⟩=some (.func (.func 132) #[] #[.pointer (some ⟨pc,0,none⟩),.pointer (some ⟨pt,0,none⟩),.pointer (some ⟨pf,0,none⟩),.pointer (some ⟨pg,0,none⟩)])) (first | (simp [*];done) | (simp [go_sem, *];done))
   ((go_at_call 132;rw [HE1.out,HE2.out];(with_reducible refine HC1.out.mono ?_);rintro e w3 ⟨rfl,hg3,ho3⟩;have hs3:=(hs.kept (kept_drew _)).grown hg3;have cf3:=hs3.cf))
  all_goals
   have hk0:=kept_drew w
   obtain ⟨hr3,hnb3⟩:=rd_gb (HV.out.kept hk0) (nb_kept HV.out HNB.out hk0) hg3
   have hg03:w.grownBy w3 (some gt):=grownBy_trans (gb_of_kept hk0) hg3
   have HG:=hid hg03
   have HT:Hid (tabS (dmB (opG G) (wthL (opG G) A x) n (x + 1)) (2 ^ n) (x + 1) M (tabS (dmB (opG G) A n (x + 1)) (2 ^ n) (x + 1) (M + X) tab)=tabS (dmB (opG G) A n x) (2 ^ n) x M tab):=hid (by
    rw [HX.out]
    exact tabS_step (by exact HM.out) (fun i h=>dmB_yes hb4 h) (fun i h=>dmB_no hb4 h))
   obtain ⟨T1,hT1⟩:∃ T,T=tabS (dmB (opG G) A n (x + 1)) (2 ^ n) (x + 1) (M + X) tab:=⟨_,rfl⟩
   rw [← hT1] at ho3 HT
   have hT1l:T1.length=2 ^ n:=by rw [hT1];exact tabS_len _ _ _ _ _
   have HZ1:Hid (∀ i,i < 2 ^ n→i % 2 ^ (x + 1)=M→T1.getD i 0=0):=hid (fun i hi e=>by
    have h1:=(mod_no (by exact HM.out)).1 e
    rw [hT1,tabS_at hi,if_neg (fun q=>by rw [HX.out] at q;have:=(mod_yes.1 q).2;rw [h1.2] at this;cases this)]
    exact HZ.out i hi h1.1)
   have hB1:∃ V,Spc n V∧Bas (fe t (wthL (opG G) A x)) (wthL (opG G) A x).length n V:=by
    obtain ⟨V,hV,hb⟩:=HB.out
    exact ⟨_,hV.hy hb4,(wth_bas t hw hb4 hV hb).2⟩
   have hw':WF G.q (wthL (opG G) A x) n:=by
    obtain ⟨V,hV,hb⟩:=HB.out
    exact (wth_bas t hw hb4 hV hb).1
   have HB1:=hid hB1
   have hA':(wthL (opG G) A x).length≤64:=Nat.le_trans (wth_len _ _ _) hA
   have HO3:=hid ho3
   have HR3:=hid hr3
   have HNB3:=hid hnb3
   have cg3:=hs3.cg
   have hgf:=hs3.g.kept hs3.k
   have lgt:=hs3.lt.2.2.2.2
   clear hB1 ho3 hr3 hnb3 hg03 hT1 c1 ct cf cg
   go_wp2_with (fail)
   go_region_held3 (fun w'=>w'.cell? ⟨pf,0,none⟩=some (.func (.func 132) #[] #[.pointer (some ⟨pc,0,none⟩),.pointer (some ⟨pt,0,none⟩),.pointer (some ⟨pf,0,none⟩),.pointer (some ⟨pg,0,none⟩)])∧w'.cell? ⟨pg,0,none⟩=some (.pointer (some ⟨b,0,none⟩))) (first | (simp [*];done) | (simp [go_sem, *];done))
    ((first
     | (go_at_call 133;(with_reducible refine (without_any b G t x n _ A w3.drew (hgf.kept (kept_drew _)) (HR3.out.kept (kept_drew _)) hw hb4 (by omega) hA).mono ?_);rintro e w4 ⟨v4,rfl,hr4,hn4,hk4⟩;obtain ⟨a4,c4,rfl,_,_⟩:=hr4.get;have hs4:=(hs3.kept (kept_drew _)).kept hk4;have cf4:=hs4.cf;have cg4:=hs4.cg;have HR4:=hid hr4;have HN4:=hid (hn4 gt (by exact lgt) (nb_kept HR3.out HNB3.out (kept_drew _)));have HO4:=hid ((HO3.out.kept (kept_drew _)).kept hk4);clear hr4 hn4)
     | (go_at_call 132;rw [HE2.out];(with_reducible refine (IH.out (x + 1) M _ (wthL (opG G) A x) T1 w4 (by omega) (by rw [Nat.pow_succ];have:=HM.out;omega) HB1.out hw' hA' HR4.out HN4.out hs4 HO4.out hT1l HZ1.out).mono ?_);rintro e w5 ⟨rfl,hg5,ho5⟩;have hs5:=hs4.grown hg5;have cf5:=hs5.cf;have cg5:=hs5.cg;have HO5:=hid ho5;clear ho5)))
   all_goals
    go_wp2_with (fail)
    go_end0
    refine ⟨rfl,grownBy_trans HG.out (grownBy_trans (gb_of_kept (kept_drew _)) (grownBy_trans (gb_of_kept hk4) hg5)), ?_⟩
    rw [← HT.out]
    exact HO5.out
end Go.Proofs.YtoilbeadokallaaGreatDoor
namespace Go.Proofs.YtoilbeadokallaaGreatDoor
open Go.RowKit Cw Cw.Gj Cw.Dm
def dmT (o:Cw.Op) (A:List (List Int)) (n:Nat):List Int:=(List.range (2 ^ n)).map fun i=>(dmn o A n i.testBit:Int)
theorem dmT_tabS (o:Cw.Op) (A:List (List Int)) (n:Nat):tabS (dmB o A n 0) (2 ^ n) 0 0 (List.replicate (2 ^ n) 0)=dmT o A n:=by
 unfold tabS dmT
 refine List.map_congr_left fun i _=>?_
 rw [if_pos (by rw [Nat.pow_zero,Nat.mod_one])]
 rfl
set_option maxRecDepth 100000 in
set_option maxHeartbeats 4000000 in
theorem dims_any (G:GFd) (t:Tabs G) (ma:Option Addr) (ml mc n:Nat) (va:Option Addr) (vn vc:Nat) (A:List (List Int)) (P:List Nat) (w:World) (hvm:Sl w (.slice ma ml mc) G.mod) (hv:Rd w (.slice va vn vc) A) (hrf:Rf G.q A n P) (h1:1≤n) (h2:n≤16) :
  Calls Tryz.prog 73 #[.agg #[.int .i64 G.P,.int .i64 G.M,.slice ma ml mc,.int .i64 n,.slice va vn vc]] w fun e w'=>∃ v',e=.returned (.tuple #[v',.int .i64 0])∧Own w' w.heap.size v' (dmT (opG G) A n)∧Kept w w':=by
 have hmf:∀ (fn:Fn) (first cap:Array Value) (w:World),(Instr.makeFunc fn first cap).run Tryz.prog w=.ok (.func fn first cap) w:=fun _ _ _ _=>rfl
 have hle:=hrf.le
 obtain ⟨w1,hw1⟩:∃ w1,w1=w.alloc (.cells #[.int .i64 G.P,.int .i64 G.M,.slice ma ml mc,.int .i64 n,.slice va vn vc] 29):=⟨_,rfl⟩
 have hk1:Kept w w1:=by rw [hw1];exact kept_alloc _ _
 have bc:BoxC w1 w.heap.size G.P G.M (.slice ma ml mc) n (.slice va vn vc):=by rw [hw1];exact boxC_new _ _ _ _ _ _ _
 have hvm1:=hvm.kept hk1
 have hv1:=hv.kept hk1
 have b0:=bc.h0
 have b1:=bc.h1
 have b2:=bc.h2
 have b3:=bc.h3
 have b4:=bc.h4
 go_enter Tryz.func73,Tryz.ntmps73
 go_wp2_with (fail)
 rw [← hw1]
 clear hw1
 (with_reducible refine (ccheck_ok G t ma ml mc n va vn vc A P w1 hvm1 hv1 hrf h1 (by omega)).mono ?_)
 rintro e w2 ⟨rfl,hk2⟩
 have bc2:=bc.kept hk2
 have hvm2:=hvm1.kept hk2
 have hv2:=hv1.kept hk2
 have hk12:=hk1.tr hk2
 clear b0 b1 b2 b3 b4 hk2 bc hvm1 hv1
 have b0:=bc2.h0
 have b1:=bc2.h1
 have b2:=bc2.h2
 have b3:=bc2.h3
 have b4:=bc2.h4
 have hn16:¬ (n:Int) > 16:=by omega
 obtain ⟨N,hN⟩:∃ N,N=2 ^ n:=⟨_,rfl⟩
 have hNi:((2:Int) ^ n)=(N:Int):=by rw [hN];push_cast;rfl
 have hN16:N≤65536:=by rw [hN];exact Nat.le_trans (Nat.pow_le_pow_right (by decide) h2) (by decide)
 have hwr:IntKind.i64.wrap (N:Int)=N:=i64_wraps _ (by omega) (by omega)
 have HN:=hid hN
 clear hN
 go_upto_region 9 with (go_at_call 47;(with_reducible refine (new_field G.P G.M (.slice ma ml mc) G.mod _ hvm2 t.field).mono ?_);rintro e w3 ⟨b,H,rfl,hg3,tH,hP,hM,hmod,hk3⟩)
 have HOP:Hid (opG H=opG G):=hid (opG_eq tH t hP hM hmod)
 have HQ:Hid (H.q=G.q):=hid (by rw [tH.hq,t.hq,hP,hM])
 obtain ⟨w4,hw4⟩:∃ x,x=w3.alloc (.cells #[.pointer (some ⟨b,0,none⟩)] 55):=⟨_,rfl⟩
 have hk4:Kept w3 w4:=by rw [hw4];exact kept_alloc _ _
 have cg4:w4.cell? ⟨w3.heap.size,0,none⟩=some (.pointer (some ⟨b,0,none⟩)):=by rw [hw4];exact cell_new rfl
 have lg4:w3.heap.size < w4.heap.size:=by rw [hw4];simp
 rw [← hw4]
 clear hw4 b0 b1 b2 b3 b4
 have bc4:=(bc2.kept hk3).kept hk4
 have d3:=bc4.h3
 have l4:=bc4.lt
 have hg4:=hg3.kept hk4
 have hv4:=(hv2.kept hk3).kept hk4
 have hk14:=hk12.tr (hk3.tr hk4)
 go_upto_region 10 with (at_make;refine wpList_make_ints rfl _ _ rfl N _ _ rfl rfl rfl rfl (by omega) ?_;intro w5 ho5 hk5;have bc5:=bc4.kept hk5;have e4:=bc5.h4)
 obtain ⟨w6,hw6⟩:∃ x,x=w5.alloc (.cells #[.slice (some ⟨w4.heap.size,0,none⟩) N N] 22):=⟨_,rfl⟩
 have hk6:Kept w5 w6:=by rw [hw6];exact kept_alloc _ _
 have ct6:w6.cell? ⟨w5.heap.size,0,none⟩=some (.slice (some ⟨w4.heap.size,0,none⟩) N N):=by rw [hw6];exact cell_new rfl
 have lt6:w5.heap.size < w6.heap.size:=by rw [hw6];simp
 rw [← hw6]
 clear hw6 d3 bc4 hk3 hk4 e4
 go_upto_region 12 with (fail)
 obtain ⟨w7,hw7⟩:∃ x,x=w6.alloc (.cells #[.func (.func 132) #[] #[.pointer (some ⟨w.heap.size,0,none⟩),.pointer (some ⟨w5.heap.size,0,none⟩),.pointer (some ⟨w6.heap.size,0,none⟩),.pointer (some ⟨w3.heap.size,0,none⟩)]] 188):=⟨_,rfl⟩
 have hk7:Kept w6 w7:=by rw [hw7];exact kept_alloc _ _
 have cf7:w7.cell? ⟨w6.heap.size,0,none⟩=some (.func (.func 132) #[] #[.pointer (some ⟨w.heap.size,0,none⟩),.pointer (some ⟨w5.heap.size,0,none⟩),.pointer (some ⟨w6.heap.size,0,none⟩),.pointer (some ⟨w3.heap.size,0,none⟩)]):=by rw [hw7];exact cell_new rfl
 have lf7:w6.heap.size < w7.heap.size:=by rw [hw7];simp
 rw [← hw7]
 clear hw7
 have hk57:=hk6.tr hk7
 have hk47:=hk5.tr hk57
 have z4:=hk5.size
 have z5:=hk6.size
 have z6:=hk7.size
 have z14:=hk14.size
 have lgt:=ho5.lt
 have l1:=bc2.lt
 have ho7:Own w7 w4.heap.size (.slice (some ⟨w4.heap.size,0,none⟩) N N) (List.replicate N 0):=ho5.kept hk57
 have bc7:=bc5.kept hk57
 have d4:=bc7.h4
 have d3:=bc7.h3
 have hs7:Vs w4 w7 b H w.heap.size w5.heap.size w6.heap.size w3.heap.size w4.heap.size n N :=
  ⟨hk47,hg4,Nat.le_refl _,bc7.h3,(hk7.cell' lt6).trans ct6,cf7,(hk47.cell' lg4).trans cg4,by omega,by omega⟩
 have hgT:w4.heap.size < w7.heap.size:=by omega
 have hv7:=hv4.kept hk47
 have hnb:Nb w4.heap.size w7 (.slice va vn vc) A:=fun hA b' o' n' c' e=>by
  obtain ⟨a9,c9,e9,_,_,q9⟩:=hv4
  obtain ⟨b8,o8,e8,h8,q8⟩:=q9 hA
  rw [e9] at e
  cases e
  cases e8
  refine ⟨by omega,fun i u hi hu=>?_⟩
  obtain ⟨u',u1,u2⟩:=q8 i hi
  rw [hk47.cell' h8,u1] at hu
  cases hu
  intro b2 o2 n2 c2 e2
  obtain ⟨a3,c3,e3,_,_,q3⟩:=u2
  have hri:=hrf.ri.wf i hi
  obtain ⟨b4,o4,e4,h4,_⟩:=q3 (by intro e;rw [e] at hri;simp at hri;omega)
  rw [e3] at e2
  cases e2
  cases e4
  omega
 have hrH:Rf H.q A n P:=by rw [HQ.out];exact hrf
 have hB:∃ V,Spc n V∧Bas (fe tH A) A.length n V:=⟨_,spc_sp tH A n,rf_bas tH hrH⟩
 have hwH:WF H.q A n:=by rw [HQ.out];exact hrf.ri.w
 have hC:=visit_any b H tH w.heap.size w5.heap.size w6.heap.size w3.heap.size w4.heap.size n w4 h2 n 0 0 (.slice va vn vc) A (List.replicate N 0) w7 (by omega) (by simp) hB hwH (by omega) hv7 hnb (by rw [← HN.out];exact hs7) (by rw [← HN.out];exact ho7) (by rw [HN.out];simp) (fun i hi _=>getD_repl)
 rw [HOP.out,show ((0:Nat):Int)=0 from rfl] at hC
 have HC:=hid hC
 have HT:Hid (tabS (dmB (opG G) A n 0) (2 ^ n) 0 0 (List.replicate N 0)=dmT (opG G) A n):=hid (by rw [HN.out];exact dmT_tabS _ _ _)
 have ct7:=hs7.ct
 clear hC hB hnb
 go_wp2_with (fail)
 (with_reducible refine HC.out.mono ?_)
 rintro e w8 ⟨rfl,hg8,ho8⟩
 have hs8:=hs7.grown hg8
 have ct8:=hs8.ct
 rw [HT.out,← HN.out] at ho8
 have HO8:=hid ho8
 have hk8:=hk14.tr hs8.k
 clear ho8
 go_wp2_with (fail)
 go_ret2
 exact ⟨_,rfl,HO8.out.mono z14,hk8⟩
end Go.Proofs.YtoilbeadokallaaGreatDoor
namespace Go.Proofs.YtoilbeadokallaaGreatDoor
open Go.RowKit Cw Cw.Gj Cw.Dm
def pfL (n:Nat) (D:Nat→Nat) (k:Nat):List Int:=(List.range (n + 1)).map fun i=>(pf n D k i:Int)
theorem pfL_len (n:Nat) (D:Nat→Nat) (k:Nat):(pfL n D k).length=n + 1:=by simp [pfL]
theorem pfL_at {n:Nat} {D:Nat→Nat} {k i:Nat} (h:i≤n):(pfL n D k).getD i 0=(pf n D k i:Int):=by
 unfold pfL;simp [List.getD,show i < n + 1 by omega]
theorem pfL_zero (n:Nat) (D:Nat→Nat):pfL n D 0=List.replicate (n + 1) 0:=list_eq_of (by simp [pfL]) fun i hi=>by
 rw [pfL_len] at hi
 rw [pfL_at (by omega),pf];simp [List.getD,hi]
theorem pc_le (n M:Nat):pc n M≤n:=by
 unfold pc;exact Nat.le_trans (List.length_filter_le _ _) (by simp)
theorem pfL_step (n:Nat) (D:Nat→Nat) (k:Nat):(pfL n D k).set (pc n k) ((max (pf n D k (pc n k)) (D k):Nat):Int)=pfL n D (k + 1):=list_eq_of (by simp [pfL]) fun i hi=>by
 rw [List.length_set,pfL_len] at hi
 rw [pfL_at (by omega),pf]
 by_cases e:i=pc n k
 ·rw [if_pos e,e];simp [List.getD,pfL_len,show pc n k < n + 1 by have:=pc_le n k;omega]
 ·rw [if_neg e,List.getD,List.getElem?_set_ne (Ne.symm e),← List.getD,pfL_at (by omega)]
def prfL (o:Cw.Op) (A:List (List Int)) (n:Nat):List Int:=(List.range (n + 1)).map fun i=>(prf' o A n i:Int)
theorem dmT_at {o:Cw.Op} {A:List (List Int)} {n i:Nat} (h:i < 2 ^ n):(dmT o A n).getD i 0=(dmn o A n i.testBit:Int):=by
 unfold dmT;simp [List.getD,h]
theorem dmT_len (o:Cw.Op) (A:List (List Int)) (n:Nat):(dmT o A n).length=2 ^ n:=by simp [dmT]
set_option maxRecDepth 100000 in
set_option maxHeartbeats 4000000 in
theorem profile_w (G:GFd) (t:Tabs G) (ma:Option Addr) (ml mc n:Nat) (va:Option Addr) (vn vc:Nat) (A:List (List Int)) (P:List Nat) (w:World) (hvm:Sl w (.slice ma ml mc) G.mod) (hv:Rd w (.slice va vn vc) A) (hrf:Rf G.q A n P) (h1:1≤n) (h2:n≤16) :
  Calls Tryz.prog 34 #[.agg #[.int .i64 G.P,.int .i64 G.M,.slice ma ml mc,.int .i64 n,.slice va vn vc]] w fun e w'=>∃ v',e=.returned (.tuple #[v',.int .i64 0])∧Own w' w.heap.size v' (prfL (opG G) A n)∧Kept w w':=by
 obtain ⟨w1,hw1⟩:∃ w1,w1=w.alloc (.cells #[.int .i64 G.P,.int .i64 G.M,.slice ma ml mc,.int .i64 n,.slice va vn vc] 29):=⟨_,rfl⟩
 have hk1:Kept w w1:=by rw [hw1];exact kept_alloc _ _
 have bc:BoxC w1 w.heap.size G.P G.M (.slice ma ml mc) n (.slice va vn vc):=by rw [hw1];exact boxC_new _ _ _ _ _ _ _
 have hvm1:=hvm.kept hk1
 have hv1:=hv.kept hk1
 have b0:=bc.h0
 have b1:=bc.h1
 have b2:=bc.h2
 have b3:=bc.h3
 have b4:=bc.h4
 go_enter Tryz.func34,Tryz.ntmps34
 go_wp2_with (fail)
 rw [← hw1]
 clear hw1
 (with_reducible refine (dims_any G t ma ml mc n va vn vc A P w1 hvm1 hv1 hrf h1 h2).mono ?_)
 rintro e w2 ⟨tv,rfl,ho2,hk2⟩
 have bc2:=bc.kept hk2
 have hk12:=hk1.tr hk2
 have hz1:=hk1.size
 obtain ⟨D,hD⟩:∃ D:Nat→Nat,D=fun M=>dmn (opG G) A n M.testBit:=⟨_,rfl⟩
 have HDT:Hid (∀ i,i < 2 ^ n→(dmT (opG G) A n).getD i 0=(D i:Int)):=hid (fun i hi=>by rw [dmT_at hi,hD])
 have HPF:Hid (pfL n D (2 ^ n)=prfL (opG G) A n):=hid (by rw [hD];rfl)
 have hTl:=dmT_len (opG G) A n
 obtain ⟨T,hT⟩:∃ T,T=dmT (opG G) A n:=⟨_,rfl⟩
 rw [← hT] at ho2 HDT hTl
 obtain ⟨N,hN⟩:∃ N,N=2 ^ n:=⟨_,rfl⟩
 have hN16:N≤65536:=by rw [hN];exact Nat.le_trans (Nat.pow_le_pow_right (by decide) h2) (by decide)
 have hNp:0 < N:=by rw [hN];exact Nat.two_pow_pos n
 rw [← hN] at HDT HPF hTl
 have HN:=hid hN
 have hos:=ho2.sl
 obtain ⟨gt,ct,e2,hgB,hg2,hct,hcm⟩:∃ g cap,tv=.slice (some ⟨g,0,none⟩) N cap∧w1.heap.size≤g∧g < w2.heap.size∧N≤cap∧cap≤maxLen:=by
  rcases ho2.form with ⟨_,e⟩ | h
  ·rw [e] at hTl;simp at hTl;omega
  ·rw [hTl] at h;exact h
 subst e2
 unfold maxLen at hcm
 clear hD hT hN b0 b1 b2 b3 b4 hos hvm1 hv1
 have d3:=bc2.h3
 go_wp2_with (at_make;refine wpList_make_ints rfl _ _ rfl (n + 1) _ _ rfl rfl (by push_cast;rfl) (by push_cast;rfl) (by omega) ?_;intro w3 ho3 hk3)
 rw [← pfL_zero n D] at ho3
 have hk13:=hk12.tr hk3
 go_loopw [24] (fun vi wr=>∃ k:Nat,k≤N∧vi=.int .i64 k∧Own wr w2.heap.size (.slice (some ⟨w2.heap.size,0,none⟩) (n + 1) (n + 1)) (pfL n D k)∧Kept w2 wr) (fun vi _=>N - (intOf vi).toNat)
 case atStart=>exact ⟨0,by omega,rfl,ho3,hk3⟩
 case round =>
  obtain ⟨k,hk,rfl,hor,hkr⟩:=hrel
  obtain ⟨wo,hwo⟩:∃ x,x=wr:=⟨_,rfl⟩
  rw [← hwo] at hor hkr ⊢
  clear hwo ho3
  by_cases hlt:k < N
  ·have hlt':(k:Int) < (N:Int):=by omega
   have ck:=(hkr.cell' hg2).trans (ho2.cell (i:=k) (by rw [hTl];exact hlt))
   rw [HDT.out k hlt] at ck
   obtain ⟨d,hd⟩:∃ d,d=D k:=⟨_,rfl⟩
   rw [← hd] at ck
   have HDK:=hid hd
   clear hd
   obtain ⟨s,hs⟩:∃ s,s=(bitsL k n).length:=⟨_,rfl⟩
   have hsn:s≤n:=by rw [hs];exact bitsL_le k n
   have hsp:s=pc n k:=by rw [hs];exact bitsL_len k n
   have hsn':(s:Int) < (n:Int) + 1:=by omega
   have hst:=pfL_step n D k
   obtain ⟨m,hm⟩:∃ m,m=pf n D k (pc n k):=⟨_,rfl⟩
   rw [← hm,← HDK.out,← hsp] at hst
   have hcm2:(pfL n D k).getD s 0=(m:Int):=by rw [pfL_at hsn,hsp,← hm]
   have HS:=hid hs
   have HST:=hid hst
   clear hs hsp hst hm
   go_wp2_with (go_at_call 74;(with_reducible refine (list_any k n wo (by rw [← HN.out];exact hlt) h2).mono ?_);rintro e w4 ⟨v4,rfl,ho4,hk4⟩;obtain ⟨a4,c4,e4,_,_⟩:=ho4.sl.lenOf;rw [← HS.out] at e4;subst e4;have ho5:=hor.kept hk4;have cs:=ho5.cell (i:=s) (by rw [pfL_len];omega);rw [hcm2] at cs;have fs:=ho5.frozen s)
   have HMX:Hid ((if m < d then (d:Int) else (m:Int))=((max m d:Nat):Int)):=hid (by rw [Nat.max_def];split <;> split <;> omega)
   have ho6:=ho5.set s ((max m d:Nat):Int)
   rw [HST.out] at ho6
   go_roundw
   case rel=>exact ⟨k + 1,by omega,by go_num,by first | (rw [HMX.out];exact ho6) | (rw [show max (m:Int) (d:Int)=((max m d:Nat):Int) by omega];exact ho6),set_below _ (hkr.tr hk4) (Nat.le_refl _)⟩
   case measure=>simp [intOf];omega
  ·have hke:k=N:=by omega
   have hlt':¬ (k:Int) < (N:Int):=by omega
   have HE:Hid (pfL n D k=prfL (opG G) A n):=hid (by rw [hke];exact HPF.out)
   rw [HE.out] at hor
   clear hke
   go_wp2_with (fail)
   go_ret2
   exact ⟨_,rfl,hor.mono (by have:=hk12.size;omega),hk12.tr hkr⟩
end Go.Proofs.YtoilbeadokallaaGreatDoor
namespace Go.Proofs.YtoilbeadokallaaGreatDoor
open Go.RowKit Cw Cw.Gj Cw.Dm
theorem wgt_succ (p:Nat→Nat) (n r:Nat):ints (wgt p n (r + 1))=ints (wgt p n r) ++ [((((List.range (n + 1)).map p).findIdx (fun d=>decide (r + 1≤d)):Nat):Int)]:=by
 unfold wgt ints
 rw [show List.range (r + 1)=List.range r ++ [r] from List.range_succ,List.map_append,List.map_append]
 rfl
theorem wgt_len (p:Nat→Nat) (n K:Nat):(wgt p n K).length=K:=by simp [wgt]
theorem prfL_len (o:Cw.Op) (A:List (List Int)) (n:Nat):(prfL o A n).length=n + 1:=by simp [prfL]
theorem prfL_at {o:Cw.Op} {A:List (List Int)} {n i:Nat} (h:i≤n):(prfL o A n).getD i 0=(prf' o A n i:Int):=by
 unfold prfL;simp [List.getD,show i < n + 1 by omega]
theorem fidx {p:Nat→Nat} {n r:Nat} (h:r≤p n):∃ k,k=((List.range (n + 1)).map p).findIdx (fun d=>decide (r≤d))∧k≤n∧r≤p k∧∀ j,j < k→p j < r:=by
 refine ⟨_,rfl, ?_, ?_,fun j hj=>?_⟩
 all_goals
  have hlt:((List.range (n + 1)).map p).findIdx (fun d=>decide (r≤d)) < ((List.range (n + 1)).map p).length:=List.findIdx_lt_length_of_exists ⟨p n,by simp;exact ⟨n,by omega,rfl⟩,by simpa using h⟩
  have hl:((List.range (n + 1)).map p).length=n + 1:=by simp
 ·omega
 ·have:=List.findIdx_getElem (xs:=(List.range (n + 1)).map p) (p:=fun d=>decide (r≤d)) (w:=hlt)
  simpa using this
 ·have:=List.not_of_lt_findIdx hj
  simp at this
  omega
theorem ob_ne {g n c x:Nat} (h:g < x):(Value.slice (some ⟨g,0,none⟩) n c).ownBlock ≠ some x:=fun e=>by
 have e2:g=x:=by simpa [Value.ownBlock] using e
 omega
def lenV:Value→Nat
 | .slice _ n _=>n
 | _=>0
theorem cell_gb {w w':World} {x:Option Nat} {a o:Nat} (h:w.grownBy w' x) (ha:a < w.heap.size) (hn:x ≠ some a):w'.cell? ⟨a,o,none⟩=w.cell? ⟨a,o,none⟩∧w'.frozen? ⟨a,o,none⟩=w.frozen? ⟨a,o,none⟩:=by
 have hb:=h.block a ha (fun e=>hn e.symm)
 exact ⟨World.cell?_of_block (w:=w) (a:=⟨a,o,none⟩) hb,World.frozen?_of_block (w:=w) (a:=⟨a,o,none⟩) hb⟩
set_option maxRecDepth 100000 in
set_option maxHeartbeats 4000000 in
theorem weights_any (G:GFd) (t:Tabs G) (ma:Option Addr) (ml mc n:Nat) (va:Option Addr) (vc:Nat) (A:List (List Int)) (P:List Nat) (w:World) (hvm:Sl w (.slice ma ml mc) G.mod) (hv:Rd w (.slice va A.length vc) A) (hrf:Rf G.q A n P) (h1:1≤n) (h2:n≤16) :
  Calls Tryz.prog 13 #[.agg #[.int .i64 G.P,.int .i64 G.M,.slice ma ml mc,.int .i64 n,.slice va A.length vc]] w fun e w'=>∃ v',e=.returned (.tuple #[v',.int .i64 0])∧Own w' w.heap.size v' (ints (wgt (prf' (opG G) A n) n A.length))∧Kept w w':=by
 have hmf:∀ (fn:Fn) (first cap:Array Value) (w:World),(Instr.makeFunc fn first cap).run Tryz.prog w=.ok (.func fn first cap) w:=fun _ _ _ _=>rfl
 have hle:=hrf.le
 obtain ⟨w1,hw1⟩:∃ w1,w1=w.alloc (.cells #[.int .i64 G.P,.int .i64 G.M,.slice ma ml mc,.int .i64 n,.slice va A.length vc] 29):=⟨_,rfl⟩
 have hk1:Kept w w1:=by rw [hw1];exact kept_alloc _ _
 have bc:BoxC w1 w.heap.size G.P G.M (.slice ma ml mc) n (.slice va A.length vc):=by rw [hw1];exact boxC_new _ _ _ _ _ _ _
 have hvm1:=hvm.kept hk1
 have hv1:=hv.kept hk1
 have b0:=bc.h0
 have b1:=bc.h1
 have b2:=bc.h2
 have b3:=bc.h3
 have b4:=bc.h4
 obtain ⟨p,hp⟩:∃ p,p=prf' (opG G) A n:=⟨_,rfl⟩
 have hps:=prf_step t hrf
 have HPn:Hid (p n=A.length):=hid (by rw [hp];exact hps.2.1)
 have HPL:Hid (∀ i,i≤n→(prfL (opG G) A n).getD i 0=(p i:Int)):=hid (fun i hi=>by rw [prfL_at hi,hp])
 have hLl:=prfL_len (opG G) A n
 rw [← hp]
 clear hps hp
 go_enter Tryz.func13,Tryz.ntmps13
 go_wp2_with (fail)
 rw [← hw1]
 clear hw1
 (with_reducible refine (profile_w G t ma ml mc n va A.length vc A P w1 hvm1 hv1 hrf h1 h2).mono ?_)
 rintro e w2 ⟨tv,rfl,ho2,hk2⟩
 have bc2:=bc.kept hk2
 have hk12:=hk1.tr hk2
 have hz1:=hk1.size
 obtain ⟨L,hL⟩:∃ L,L=prfL (opG G) A n:=⟨_,rfl⟩
 rw [← hL] at ho2 HPL hLl
 have hos:=ho2.sl
 obtain ⟨ta,tc,rfl,_,_⟩:=hos.lenOf
 have HOS:=hid hos
 rw [hLl] at HOS ⊢
 clear hL hos b0 b1 b2 b3 b4 hvm1 hv1
 go_upto_region 6 with (fail)
 have ca:=cell_new (w:=w2) (v:=.int .i64 1) (T:=3) rfl
 have fa:(w2.alloc (.cells #[.int .i64 1] 3)).frozen? ⟨w2.heap.size,0,none⟩=false:=World.frozen?_alloc_at _ _ _ _ (by simp)
 go_loopw [6,7] (fun vo vp wr=>∃ (r pa:Nat) (oa:Option Addr) (oc:Nat),r≤A.length∧vp=.pointer (some ⟨pa,0,none⟩)∧vo=.slice oa r oc∧Own wr w2.heap.size (.slice oa r oc) (ints (wgt p n r))∧wr.cell? ⟨pa,0,none⟩=some (.int .i64 ((r:Int) + 1))∧(pa < wr.heap.size∧w2.heap.size≤pa)∧wr.frozen? ⟨pa,0,none⟩=false∧(Value.slice oa r oc).ownBlock ≠ some pa∧Kept w2 wr) (fun vo _ _=>A.length - lenV vo)
 case atStart=>exact ⟨0,w2.heap.size,none,0,by omega,rfl,rfl,own_nil _ _,ca,⟨by simp,Nat.le_refl _⟩,fa,(by intro e;cases e),kept_alloc _ _⟩
 case round =>
  obtain ⟨r,pa,oa,oc,hr,rfl,rfl,hor,cr,hpa,fr,hne,hkr⟩:=hrel
  obtain ⟨wo,hwo⟩:∃ x,x=wr:=⟨_,rfl⟩
  rw [← hwo] at hor cr hpa fr hkr ⊢
  clear hwo ca fa
  have bcr:=bc2.kept hkr
  have b4:=bcr.h4
  by_cases hlt:r + 1≤A.length
  ·have hlt':(r:Int) + 1≤(A.length:Int):=by omega
   obtain ⟨k,hk,hkn,hk1,hk2⟩:=fidx (p:=p) (n:=n) (r:=r + 1) (by rw [HPn.out];exact hlt)
   have HW:Hid (ints (wgt p n (r + 1))=ints (wgt p n r) ++ [(k:Int)]):=hid (by rw [hk];exact wgt_succ p n r)
   have HI:Hid (Calls Tryz.prog 35 #[.slice ta (n + 1) tc,.func (.func 36) #[] #[.pointer (some ⟨pa,0,none⟩)]] wo fun e w'=>e=.returned (.int .i64 k)∧wo=w'):=hid (ifw_any _ L ((r:Int) + 1) pa wo (HOS.out.kept hkr) cr k (by omega) (by rw [HPL.out k hkn];omega) (fun j hj=>by rw [HPL.out j (by omega)];have:=hk2 j hj;omega))
   have hXl:(ints (wgt p n r)).length=r:=by rw [length_ints,wgt_len]
   obtain ⟨X,hX⟩:∃ X,X=ints (wgt p n r):=⟨_,rfl⟩
   rw [← hX] at hor hXl HW
   have hka:=kept_alloc wo (.cells #[.int .i64 k] 3)
   have hoa:=hor.kept hka
   have hsz:w2.heap.size≤(wo.alloc (.cells #[.int .i64 k] 3)).heap.size:=(hkr.tr hka).size
   have hpl:pa < (wo.alloc (.cells #[.int .i64 k] 3)).heap.size:=by have:=hka.size;omega
   have cra:=(hka.cell' hpa.1).trans cr
   have HNE:=hid hne
   clear hk hk1 hk2 hX hne
   go_wp2_with (first
    | (go_at_call 35;refine HI.out.mono ?_;rintro e w' ⟨rfl,rfl⟩)
    | (at_builtin;refine wpList_append_at rfl (.tmp 23) (.tmp 27) rfl w2.heap.size _ X rfl hoa ⟨wo.heap.size,0,none⟩ k rfl (cell_new rfl) (by omega) hsz ?_;intro g' cap' w7 o7 hg7 hd7;obtain ⟨q1,q2⟩:=cell_gb (o:=0) hg7 hpl HNE.out;have c7:=q1.trans cra;have hk7:Kept w2 w7:=(hkr.tr hka).grown hg7 hsz (fun g e=>(own_blk hoa e).1);rw [hXl] at o7 ⊢;have hdd:g' < w7.heap.size∧w2.heap.size≤g':=⟨(own_blk o7 rfl).2,(own_blk o7 rfl).1⟩;have cn7:=cell_new (w:=w7) (v:=.int .i64 ((r:Int) + 1)) (T:=3) rfl;have fn7:(w7.alloc (.cells #[.int .i64 ((r:Int) + 1)] 3)).frozen? ⟨w7.heap.size,0,none⟩=false:=World.frozen?_alloc_at _ _ _ _ (by simp)))
   have hkw:=kept_alloc w7 (.cells #[.int .i64 ((r:Int) + 1 + 1)] 3)
   have o8:=o7.kept hkw
   rw [← HW.out] at o8
   have hz7:=hk7.size
   go_roundw
   case rel=>exact ⟨r + 1,w7.heap.size,some ⟨g',0,none⟩,cap',by omega,rfl,rfl,o8,cell_new rfl,⟨by simp,by omega⟩,World.frozen?_alloc_at _ _ _ _ (by simp),ob_ne hdd.1,hk7.tr hkw⟩
   case measure=>simp [lenV];omega
  ·have hre:r=A.length:=by omega
   have hlt':¬ (r:Int) + 1≤(A.length:Int):=by omega
   have HE:Hid (ints (wgt p n r)=ints (wgt p n A.length)):=hid (by rw [hre])
   rw [HE.out] at hor
   clear hre
   go_wp2_with (fail)
   go_ret2
   exact ⟨_,rfl,hor.mono (by have:=hk12.size;omega),hk12.tr hkr⟩
end Go.Proofs.YtoilbeadokallaaGreatDoor
namespace Go.Proofs.YtoilbeadokallaaGreatDoor
open Go.RowKit Cw Cw.Gj Cw.Dm
def dltS (l:List Nat) (n k:Nat):List Nat:=(((List.range k).map (fun i=>n - i)).filter (fun x=>decide (x ∉ l))).map (fun x=>n + 1 - x)
theorem dltS_yes {l:List Nat} {n k:Nat} (h:n - k ∈ l):dltS l n (k + 1)=dltS l n k:=by
 unfold dltS;rw [List.range_succ,List.map_append,List.filter_append];simp [h]
theorem dltS_no {l:List Nat} {n k:Nat} (h:n - k ∉ l):dltS l n (k + 1)=dltS l n k ++ [n + 1 - (n - k)]:=by
 unfold dltS;rw [List.range_succ,List.map_append,List.filter_append];simp [h]
theorem dltS_len (l:List Nat) (n k:Nat):(dltS l n k).length≤k:=by
 unfold dltS;rw [List.length_map];exact Nat.le_trans (List.length_filter_le _ _) (by simp)
theorem ints_get {P:List Nat} {i:Nat} (h:i < P.length):(ints P).getD i 0=(P.getD i 0:Nat):=ints_at h
set_option maxRecDepth 100000 in
set_option maxHeartbeats 4000000 in
theorem duality_any (v:Value) (ws:List Nat) (n:Nat) (w:World) (hv:Sl w v (ints ws)) (h1:1≤n) (h2:n≤64) (hb:∀ i,i < ws.length→1≤ws.getD i 0∧ws.getD i 0≤n) (hi:∀ i,i + 1 < ws.length→ws.getD i 0 < ws.getD (i + 1) 0) :
  Calls Tryz.prog 14 #[v,.int .i64 n] w fun e w'=>∃ v',e=.returned (.tuple #[v',.int .i64 0])∧Own w' w.heap.size v' (ints (dlt ws n))∧Kept w w':=by
 have hvs:=hv
 obtain ⟨a,cap,rfl,hcap,⟨hcm,_⟩,hc⟩:=hv
 unfold maxLen at hcm
 rw [length_ints] at hcap hvs ⊢
 have HV:=hid hvs
 have HB:=hid hb
 have HI:=hid hi
 have g1:¬ (n:Int) < 1:=by omega
 have g2:¬ (n:Int) > 64:=by omega
 clear hvs hb hi
 go_enter Tryz.func14,Tryz.ntmps14
 go_wp2_with (fail)
 go_loop [18] (fun vi=>∃ k:Nat,k≤ws.length∧vi=.int .i64 k) (fun vi=>ws.length - (intOf vi).toNat)
 case atStart=>exact ⟨0,by omega,rfl⟩
 case round =>
  obtain ⟨k,hk,rfl⟩:=hrel
  by_cases hlt:k < ws.length
  ·have hlt':(k:Int) < (ws.length:Int):=by omega
   obtain ⟨bl,off,rfl,hbl,hcell⟩:=hc (fun e=>by
    have h0:(ints ws).length=0:=by rw [e];rfl
    rw [length_ints] at h0;omega)
   have ck:=hcell k (by rw [length_ints];exact hlt)
   rw [ints_get hlt] at ck
   obtain ⟨z,hz⟩:∃ z,z=ws.getD k 0:=⟨_,rfl⟩
   have hzb:=HB.out k hlt
   rw [← hz] at ck hzb
   have t1:¬ (z:Int) < 1:=by omega
   have t2:¬ (z:Int) > (n:Int):=by omega
   cases k with
   | zero =>
    rw [Nat.add_zero] at ck
    clear hcell hz hc
    go_wp2_with (fail)
    go_round
    case rel=>exact ⟨1,by omega,by go_num⟩
    case measure=>simp [intOf];omega
   | succ j =>
    have cj:=hcell j (by rw [length_ints];omega)
    rw [ints_get (by omega)] at cj
    obtain ⟨y,hy⟩:∃ z,z=ws.getD j 0:=⟨_,rfl⟩
    have hyz:=HI.out j hlt
    rw [← hy] at cj hyz
    rw [← hz] at hyz
    have t3:¬ (z:Int)≤(y:Int):=by omega
    clear hcell hz hy hc
    push_cast at *
    go_wp2_with (fail)
    go_round
    case rel=>exact ⟨j + 1 + 1,by omega,by go_num⟩
    case measure=>simp [intOf];omega
  ·have hlt':¬ (k:Int) < (ws.length:Int):=by omega
   clear hlt hk hc
   go_wp2_with (fail)
   go_loopw [8,9] (fun vo vi wr=>∃ (j:Nat) (oa:Option Addr) (oc:Nat),j≤n∧vi=.int .i64 j∧vo=.slice oa (dltS ws n (n - j)).length oc∧Own wr w.heap.size (.slice oa (dltS ws n (n - j)).length oc) (ints (dltS ws n (n - j)))∧Kept w wr) (fun _ vi _=>(intOf vi).toNat)
   case atStart=>exact ⟨n,none,0,Nat.le_refl _,rfl,by rw [Nat.sub_self];rfl,by rw [Nat.sub_self];exact own_nil _ _,Kept.rfl' _⟩
   case round =>
    obtain ⟨j,oa,oc,hj,rfl,rfl,hor,hkr⟩:=hrel
    have hln:=dltS_len ws n (n - j)
    by_cases hj1:1≤j
    ·obtain ⟨i,rfl⟩:∃ i,j=i + 1:=⟨j - 1,by omega⟩
     have hsub:n - i=(n - (i + 1)) + 1:=by omega
     have hsub2:n - (n - (i + 1))=i + 1:=by omega
     have hvr:=HV.out.kept hkr
     have hi':(1:Int)≤(i:Int) + 1:=by omega
     obtain ⟨X,hX⟩:∃ X,X=dltS ws n (n - (i + 1)):=⟨_,rfl⟩
     by_cases hm:i + 1 ∈ ws
     ·have HS:Hid (dltS ws n (n - i)=X):=hid (by rw [hX,hsub];exact dltS_yes (by rw [hsub2];exact hm))
      have HM:Hid (((i + 1:Nat):Int) ∈ ints ws):=hid (mem_ints.2 hm)
      rw [← hX] at hor hln ⊢
      have HC:Hid (Calls Tryz.prog 37 #[.slice a ws.length cap,.int .i64 ((i:Int) + 1)] wr fun e w'=>e=.returned (.bool true)∧wr=w'):=hid (by
       have:=contains_yes (.slice a ws.length cap) (ints ws) ((i + 1:Nat):Int) wr hvr HM.out
       push_cast at this
       exact this)
      clear hX hm hsub hsub2
      push_cast at *
      go_wp2_with (go_at_call 37;refine HC.out.mono ?_;rintro e w4 ⟨rfl,rfl⟩)
      go_roundw
      case rel=>exact ⟨i,oa,oc,by omega,by go_num,by rw [HS.out],by rw [HS.out];exact hor,hkr⟩
      case measure=>simp [intOf]
     ·have HS:Hid (ints (dltS ws n (n - i))=ints X ++ [((n - i:Nat):Int)]):=hid (by
       rw [hX,hsub,dltS_no (by rw [hsub2];exact hm),hsub2]
       unfold ints
       rw [List.map_append,show n + 1 - (i + 1)=n - (i + 1) + 1 by omega]
       rfl)
      have HL:Hid ((dltS ws n (n - i)).length=X.length + 1):=hid (by rw [hX,hsub,dltS_no (by rw [hsub2];exact hm)];simp)
      rw [← hX] at hor hln ⊢
      have HC:Hid (Calls Tryz.prog 37 #[.slice a ws.length cap,.int .i64 ((i:Int) + 1)] wr fun e w'=>e=.returned (.bool false)∧wr=w'):=hid (by
       have:=contains_no (.slice a ws.length cap) (ints ws) ((i + 1:Nat):Int) wr hvr (fun q=>hm (mem_ints.1 q))
       push_cast at this
       exact this)
      obtain ⟨y,hy⟩:∃ y:Nat,y=n - i:=⟨_,rfl⟩
      have hyi:((n:Int) + 1 - ((i:Int) + 1))=(y:Int):=by omega
      have HS0:=HS
      rw [← hy] at HS0
      have hka:=kept_alloc wr (.cells #[.int .i64 y] 3)
      have hoa:=hor.kept hka
      have hsz:w.heap.size≤(wr.alloc (.cells #[.int .i64 y] 3)).heap.size:=(hkr.tr hka).size
      have HS2:Hid (ints (dltS ws n (n - i))=ints X ++ [(y:Int)]):=hid (by rw [hy];exact HS.out)
      clear hX hm hsub hsub2 hy HS0 HS
      push_cast at *
      go_wp2_with (first
       | (go_at_call 37;refine HC.out.mono ?_;rintro e w4 ⟨rfl,rfl⟩)
       | (at_builtin;refine wpList_append_at rfl (.tmp 53) (.tmp 58) rfl w.heap.size _ (ints X) rfl hoa ⟨wr.heap.size,0,none⟩ y rfl (cell_new rfl) (by rw [length_ints];omega) hsz ?_;intro g' cap' w7 o7 hg7 hd7;have hk7:Kept w w7:=(hkr.tr hka).grown hg7 hsz (fun g e=>(own_blk hoa e).1);rw [length_ints] at o7 ⊢;rw [← HS2.out,← HL.out] at o7))
      go_roundw
      case rel=>exact ⟨i,some ⟨g',0,none⟩,cap',by omega,by go_num,by rw [HL.out],o7,hk7⟩
      case measure=>simp [intOf]
    ·obtain rfl:j=0:=by omega
     have HE:Hid (dltS ws n (n - 0)=dlt ws n):=hid rfl
     rw [HE.out] at hor ⊢
     go_wp2_with (fail)
     go_ret2
     exact ⟨_,rfl,hor,hkr⟩
end Go.Proofs.YtoilbeadokallaaGreatDoor
namespace Go.Proofs.YtoilbeadokallaaGreatDoor
open Go.RowKit Cw Cw.Gj Cw.Dm
theorem wgt_ok {p:Nat→Nat} {n:Nat} (h0:p 0=0) (hm:∀ i,i < n→p i≤p (i + 1)∧p (i + 1)≤p i + 1):(∀ i,i < (wgt p n (p n)).length→1≤(wgt p n (p n)).getD i 0∧(wgt p n (p n)).getD i 0≤n)∧∀ i,i + 1 < (wgt p n (p n)).length→(wgt p n (p n)).getD i 0 < (wgt p n (p n)).getD (i + 1) 0:=by
 rw [wgt_jps h0 hm]
 refine ⟨fun i hi=>?_,fun i hi=>jps_inc (by omega) hi⟩
 have:=mem_jps.1 (mem_getD hi)
 exact ⟨this.1,this.2.1⟩
set_option maxRecDepth 100000 in
set_option maxHeartbeats 4000000 in
theorem wei_law (hal:∀ w,Calls Tryz.prog 5 #[] w fun e w'=>e=.returned (.bool true)∧Kept w w') (P M:Int) (ma:Option Addr) (ml mc:Nat) (mod:List Int) (n:Int) (va:Option Addr) (vc:Nat) (A:List (List Int)) (w:World) (hvm:Sl w (.slice ma ml mc) mod) (hv:Rd w (.slice va A.length vc) A) :
  Calls Tryz.prog 4 #[.agg #[.int .i64 P,.int .i64 M,.slice ma ml mc,.int .i64 n,.slice va A.length vc]] w fun e w'=>e=.returned (.bool true)∧Kept w w':=by
 obtain ⟨w1,hw1⟩:∃ w1,w1=w.alloc (.cells #[.int .i64 P,.int .i64 M,.slice ma ml mc,.int .i64 n,.slice va A.length vc] 29):=⟨_,rfl⟩
 have hk1:Kept w w1:=by rw [hw1];exact kept_alloc _ _
 have bc:BoxC w1 w.heap.size P M (.slice ma ml mc) n (.slice va A.length vc):=by rw [hw1];exact boxC_new _ _ _ _ _ _ _
 have hvm1:=hvm.kept hk1
 have hv1:=hv.kept hk1
 have HAL:=hid hal
 clear hal
 go_enter Tryz.func4,Tryz.ntmps4
 go_wp2_with (fail)
 rw [← hw1]
 clear hw1 hvm hv
 refine (HAL.out w1).mono ?_
 rintro e w2 ⟨rfl,hk2⟩
 have bc2:=bc.kept hk2
 have hvm2:=hvm1.kept hk2
 have hv2:=hv1.kept hk2
 have hk12:=hk1.tr hk2
 clear bc hvm1 hv1 hk1 hk2
 have b0:=bc2.h0
 have b1:=bc2.h1
 have b2:=bc2.h2
 have b3:=bc2.h3
 have b4:=bc2.h4
 go_wp2_with (fail)
 (with_reducible refine (few_any P M ma ml mc mod n va vc A 7 w2 hvm2 hv2).mono ?_)
 rintro e w3 ⟨r,rfl,hr,hk3⟩
 have hk13:=hk12.tr hk3
 cases r with
 | false =>
  clear hr
  go_wp2_with (fail)
  go_ret
  exact ⟨rfl,hk13⟩
 | true =>
  obtain ⟨hcp,hn7⟩:=hr rfl
  obtain ⟨G,t,rfl,rfl,rfl⟩:=tabs_of hcp.1.1.ck
  obtain ⟨m,rfl⟩:=Int.eq_ofNat_of_zero_le (show 0≤n by have:=hcp.2.1;omega)
  have hm1:1≤m:=by have:=hcp.2.1;omega
  have hm7:m≤7:=by omega
  have hrf:=codeP_rf t rfl rfl rfl hcp
  obtain ⟨Pv,hPv⟩:∃ Pv,Pv=pvL (opG G) A m:=⟨_,rfl⟩
  rw [← hPv] at hrf
  have hml:G.mod.length≤1000:=by
   have hs:=t.shape
   obtain ⟨q1,q2,q3,q4,q5,q6,q7⟩:=t.qb
   by_cases e:G.M=1
   ·rw [hs.2.2.1 e];simp
   ·have:=(hs.2.2.2 (by omega)).1;omega
  have hrd:=(dua_rf t hrf).1
  have HW:=hid (wei t hrf)
  have HP:=hid (prf_step t hrf)
  have bc3:=bc2.kept hk3
  have hvm3:=hvm2.kept hk3
  have hv3:=hv2.kept hk3
  clear hr hcp hPv b0 b1 b2 b3 b4
  have b0:=bc3.h0
  have b1:=bc3.h1
  have b2:=bc3.h2
  have b3:=bc3.h3
  have b4:=bc3.h4
  go_wp2_with (fail)
  (with_reducible refine (dual_ok G t ma ml mc m va A.length vc A Pv w3 hvm3 hv3 hrf hm1 (by omega) hml).mono ?_)
  rintro e w4 ⟨da,dc,fa,fc,rfl,hdm4,hdv4,hk4⟩
  have hk14:=hk13.tr hk4
  have bc4:=bc3.kept hk4
  have hvm4:=hvm3.kept hk4
  have hv4:=hv3.kept hk4
  obtain ⟨D,hD⟩:∃ D,D=duaL (opG G) A Pv m:=⟨_,rfl⟩
  rw [← hD] at hrd HW hdv4 ⊢
  obtain ⟨lm,hlm⟩:∃ l,l=G.mod.length:=⟨_,rfl⟩
  rw [← hlm] at hdm4 ⊢
  clear hD hlm hml b0 b1 b2 b3 b4
  have b0:=bc4.h0
  have b1:=bc4.h1
  have b2:=bc4.h2
  have b3:=bc4.h3
  have b4:=bc4.h4
  go_upto_region 6 with (fail)
  obtain ⟨w5,hw5⟩:∃ x,x=w4.alloc (.cells #[.int .i64 G.P,.int .i64 G.M,.slice da lm dc,.int .i64 m,.slice fa D.length fc] 29):=⟨_,rfl⟩
  have hk5:Kept w4 w5:=by rw [hw5];exact kept_alloc _ _
  have bd5:BoxC w5 w4.heap.size G.P G.M (.slice da lm dc) m (.slice fa D.length fc):=by rw [hw5];exact boxC_new _ _ _ _ _ _ _
  have hk15:=hk14.tr hk5
  have bc5:=bc4.kept hk5
  have hvm5:=hvm4.kept hk5
  have hv5:=hv4.kept hk5
  have hdm5:=hdm4.kept hk5
  have hdv5:=hdv4.kept hk5
  rw [← hw5]
  clear hw5 b0 b1 b2 b3 b4
  have b0:=bc5.h0
  have b1:=bc5.h1
  have b2:=bc5.h2
  have b3:=bc5.h3
  have b4:=bc5.h4
  go_wp2_with (fail)
  (with_reducible refine (weights_any G t ma ml mc m va vc A Pv w5 hvm5 hv5 hrf hm1 (by omega)).mono ?_)
  rintro e w6 ⟨v6,rfl,ho6,hk6⟩
  have bd6:=bd5.kept hk6
  have bc6:=bc5.kept hk6
  have hdm6:=hdm5.kept hk6
  have hdv6:=hdv5.kept hk6
  have hk16:=hk15.tr hk6
  clear b0 b1 b2 b3 b4
  have b0:=bd6.h0
  have b1:=bd6.h1
  have b2:=bd6.h2
  have b3:=bd6.h3
  have b4:=bd6.h4
  go_wp2_with (fail)
  (with_reducible refine (weights_any G t da lm dc m fa fc D _ w6 hdm6 hdv6 hrd hm1 (by omega)).mono ?_)
  rintro e w7 ⟨v7,rfl,ho7,hk7⟩
  have bc7:=bc6.kept hk7
  have hk17:=hk16.tr hk7
  have ho67:=ho6.kept hk7
  obtain ⟨q0,q1,q2⟩:=HP.out
  obtain ⟨g1,g2⟩:=wgt_ok q0 q2
  rw [q1] at g1 g2
  have HDU:=hid (duality_any v6 _ m w7 ho67.sl hm1 (by omega) g1 g2)
  rw [HW.out] at HDU
  clear b0 b1 b2 b3 b4 q0 q1 q2 g1 g2
  have b3:=bc7.h3
  go_wp2_with (fail)
  (with_reducible refine HDU.out.mono ?_)
  rintro e w8 ⟨v8,rfl,ho8,hk8⟩
  have ho78:=ho7.kept hk8
  obtain ⟨a8,c8,e8,_,_⟩:=ho8.sl.lenOf
  obtain ⟨a7,c7,e7,_,_⟩:=ho78.sl.lenOf
  have HS:=hid (sameInts_any v8 v7 _ _ w8 ho8.sl ho78.sl true ⟨fun _=>rfl,fun _=>rfl⟩)
  have hk18:=hk17.tr hk8
  clear e8 e7 ho78
  go_wp2_with (fail)
  refine HS.out.mono ?_
  rintro e w9 ⟨rfl,n9,rfl⟩
  go_wp2_with (fail)
  go_ret
  exact ⟨rfl,hk18.drewN _⟩
end Go.Proofs.YtoilbeadokallaaGreatDoor
