/- Lemmas on the way to the row, merged: walks of functions and plain algebra. Conditions: each lemma's own, stated with it. -/
import Derived.Test.YtoilbeadokallaaGreatDoorK01
import Derived.Test.YtoilbeadokallaaGreatDoorK02
import Derived.Test.YtoilbeadokallaaGreatDoorK04
import Derived.Test.YtoilbeadokallaaGreatDoorK05
import Derived.Test.YtoilbeadokallaaGreatDoorK08
import Derived.Test.YtoilbeadokallaaGreatDoorRows
import Derived.ProofKit
import Derived.Lib.SmallJoins
import Derived.Deep.Matrix
import Derived.Deep.Strs
import Derived.Deep.RegionHeld3
import Derived.Lib.QuietBelow
import Derived.BigQuiet
import Derived.Shelf.LaysM
import Derived.Shelf.Strconv.Itoa3
import Derived.Shelf.Bits.Mul64
import Derived.Test.YtoilbeadokallaaGreatDoorProg
import Derived.Shelf.Sort.Plain
import Derived.Shelf.Slices.In.SortNone
namespace Go.Proofs.YtoilbeadokallaaGreatDoor
open Go.ChangeShapes Go.WideShapes Go.ChangeAt Go.RowKit Go.Joins Cw
set_option maxRecDepth 100000
theorem Tryz.own:ownKnob Tryz.prog.godebug=none:=by kernel_rfl
theorem Tryz.laidOut:laidOutB Tryz.prog=true:=by kernel_rfl
theorem Tryz.cellsF:Tryz.prog.cellsOf 24=3:=by kernel_rfl
theorem Tryz.cellsI:Tryz.prog.cellsOf 3=1:=by kernel_rfl
theorem cell_some {w:World} {a:Addr} {v:Value} (h:w.cell? a=some v):a.spot=none∧a.block < w.heap.size:=by
 unfold World.cell? at h
 cases e:w.heap[a.block]? with
 | none=>rw [e] at h;simp at h
 | some o =>
  have hlt:a.block < w.heap.size:=by
   rcases Array.getElem?_eq_some_iff.1 e with ⟨h1,_⟩
   exact h1
  rw [e] at h
  cases o with
  | cells c t f =>
   cases e2:a.spot with
   | none=>exact ⟨rfl,hlt⟩
   | some k=>simp [e2] at h
  | _=>simp at h
theorem sl_of_trod {H:Type} {enc:TypeId × Value→H} {W:World} {n:Nat} {v:Value} {y:DataW H × List MemPlace} (h:DataW.trod enc Tryz.prog W 0 (fun _=>true) true n 22 [v]=some y):∃ xs,Sl W v xs:=by
 rcases open_ints Tryz.underlying22 Tryz.underlying3 Tryz.cellsI h with ⟨hcs,_⟩ | ⟨a,len,cap,zs,hcs,_,hl,hm,hz,_,hcell,_⟩
 ·simp at hcs
  subst hcs
  exact ⟨[],none,0,rfl,by simp,⟨by unfold maxLen;omega,fun _=>rfl⟩,fun e=>absurd rfl e⟩
 ·simp at hcs
  subst hcs
  simp only [if_true] at hz
  have hlen:(zs.take len).length=len:=by simp;omega
  refine ⟨zs.take len,some a,cap,by rw [hlen],by omega,⟨hm,fun e=>by cases e⟩,fun hne=>?_⟩
  have h0:0 < len:=by
   rcases Nat.eq_zero_or_pos len with e | e
   ·exact absurd (List.eq_nil_of_length_eq_zero (by rw [hlen,e])) hne
   ·exact e
  obtain ⟨g1,g2⟩:=cell_some (hcell 0 (by omega))
  obtain ⟨b,off,s⟩:=a
  have g3:s=none:=g1
  subst g3
  refine ⟨b,off,rfl,g2,fun i hi=>?_⟩
  rw [hlen] at hi
  have:=hcell i (by omega)
  rw [Addr.add_lit] at this
  rw [this]
  simp [List.getD,hi]
end Go.Proofs.YtoilbeadokallaaGreatDoor
namespace Go.Proofs.YtoilbeadokallaaGreatDoor
open Go.ChangeShapes Go.WideShapes Go.ChangeAt Go.RowKit Go.Joins Cw
set_option maxRecDepth 100000
end Go.Proofs.YtoilbeadokallaaGreatDoor
namespace Go.Proofs.YtoilbeadokallaaGreatDoor
open Go.ChangeShapes Go.WideShapes Go.ChangeAt Go.RowKit Go.Joins Cw
set_option maxRecDepth 100000
end Go.Proofs.YtoilbeadokallaaGreatDoor
namespace Go.Proofs.YtoilbeadokallaaGreatDoor
open Go.ChangeShapes Go.WideShapes Go.ChangeAt Go.RowKit Go.Joins Cw
theorem band {a b:Bool} (h:a=true) (k:b=true):(a && b)=true:=by rw [h,k];rfl
set_option maxHeartbeats 4000000
set_option maxRecDepth 100000
theorem Tryz.fLaid:laidOutB Tryz.pinned.checked.prog=true:=by as_aux_lemma=>kernel_rfl
theorem Tryz.fMaps:mapsRowed Tryz.pinned.checked.prog=true:=by as_aux_lemma=>kernel_rfl
theorem Tryz.fHeard:(Tryz.pinned.checked.prog).stopsHeard=true:=by as_aux_lemma=>kernel_rfl
theorem Tryz.fEnter:(Tryz.pinned.checked.prog).mayEnter=true:=by as_aux_lemma=>kernel_rfl
end Go.Proofs.YtoilbeadokallaaGreatDoor
namespace Go.Proofs.YtoilbeadokallaaGreatDoor
open Go.ChangeShapes Go.WideShapes Go.ChangeAt Go.RowKit Go.Joins Cw
set_option maxRecDepth 100000
theorem Tryz.cellsC:Tryz.prog.cellsOf 29=5:=by kernel_rfl
theorem Tryz.cellsR:Tryz.prog.cellsOf 22=1:=by kernel_rfl
theorem Tryz.cellsM:Tryz.prog.cellsOf 27=1:=by kernel_rfl
theorem array5 {α:Type} {cs:Array α} (h:cs.size=5):∃ c0 c1 c2 c3 c4,cs=#[c0,c1,c2,c3,c4]:=by
 obtain ⟨l⟩:=cs
 match l,h with
 | [c0,c1,c2,c3,c4],_=>exact ⟨c0,c1,c2,c3,c4,rfl⟩
theorem take_getD' (l:List Int) (k i:Nat) (h:i < k):(l.take k).getD i 0=l.getD i 0:=by
 simp [List.getD,h]
theorem rd_of_trod {H:Type} {enc:TypeId × Value→H} {W:World} {fuel:Nat} {v:Value} {y:DataW H × List MemPlace} (hf:DataW.trod enc Tryz.prog W 0 (fun _=>true) true fuel 27 [v]=some y) :
  ∃ (ls:List (List Int)),Rd W v ls:=by
 rcases Go.Deep.open_int_rows Tryz.underlying27 Tryz.underlying22 Tryz.underlying3 Tryz.cellsR Tryz.cellsI hf with ⟨hcs,_⟩ | ⟨a,len,cap,A,L,C,Z,hcs,_,hl,hm,_,hrow⟩
 ·simp at hcs
  subst hcs
  exact ⟨[],rd_nil W⟩
 ·simp at hcs
  subst hcs
  obtain ⟨ls,hls⟩:∃ ls:List (List Int),ls=(List.range len).map fun r=>(Z r).take (L r):=⟨_,rfl⟩
  have hlen:ls.length=len:=by rw [hls];simp
  have hget:∀ i,i < len→Gj.row ls i=(Z i).take (L i):=fun i hi=>by
   rw [hls];simp [Gj.row,List.getD,hi]
  refine ⟨ls,some a,cap,by rw [hlen],by omega,⟨hm,fun e=>by cases e⟩,fun hne=>?_⟩
  have h0:0 < len:=by
   rcases Nat.eq_zero_or_pos len with e | e
   ·exact absurd (List.eq_nil_of_length_eq_zero (by rw [hlen,e])) hne
   ·exact e
  obtain ⟨g1,g2⟩:=cell_some (hrow 0 (by omega)).1
  obtain ⟨b,off,s⟩:=a
  have g3:s=none:=g1
  subst g3
  refine ⟨b,off,rfl,g2,fun i hi=>?_⟩
  rw [hlen] at hi
  obtain ⟨r1,r2,r3,r4,_,r6,r7⟩:=hrow i (by omega)
  have hli:(Gj.row ls i).length=L i:=by rw [hget i hi];simp;omega
  rw [Addr.add_lit] at r1
  refine ⟨_,r1,A i,C i,by rw [hli],by rw [hli];exact r2,⟨r3,r6⟩,fun hne'=>?_⟩
  have hp:0 < L i:=by
   rcases Nat.eq_zero_or_pos (L i) with e | e
   ·exact absurd (List.eq_nil_of_length_eq_zero (by rw [hli,e])) hne'
   ·exact e
  cases hA:A i with
  | none=>have:=r6 hA;omega
  | some a' =>
   obtain ⟨_,hc⟩:=r7 a' hA
   obtain ⟨q1,q2⟩:=cell_some (hc 0 (by omega))
   obtain ⟨b',off',s'⟩:=a'
   have q3:s'=none:=q1
   subst q3
   refine ⟨b',off',rfl,q2,fun j hj=>?_⟩
   rw [hli] at hj
   have:=hc j (by omega)
   rw [Addr.add_lit] at this
   rw [this,hget i hi,take_getD' _ _ _ hj]
theorem code_in {H:Type} {enc:TypeId × Value→H} {W:World} {base:Nat} {v:Value} {d:DataW H} {p:List MemPlace} (hv:Value.okWide Tryz.prog W .any base 29 v) (h:DataW.Trod enc Tryz.prog W 0 (fun _=>true) true 29 v d p) :
  ∃ (P M:Int) (ma:Option Addr) (ml mc:Nat) (mod:List Int) (n:Int) (va:Option Addr) (vc:Nat) (A:List (List Int)),v=.agg #[.int .i64 P,.int .i64 M,.slice ma ml mc,.int .i64 n,.slice va A.length vc]∧Sl W (.slice ma ml mc) mod∧Rd W (.slice va A.length vc) A:=by
 obtain ⟨cs,rfl,hsz⟩:=okWide_struct Tryz.underlying29 hv
 obtain ⟨c0,c1,c2,c3,c4,rfl⟩:=array5 (hsz.trans Tryz.cellsC)
 obtain ⟨fuel,hf⟩:=h
 obtain ⟨y0,y1,y2,n,_,_,h0,h1,h2⟩:=Go.Deep.trod_struct3 Tryz.underlying29 hf
 obtain ⟨z0,z1,z2,m,_,_,k0,k1,k2⟩:=Go.Deep.trod_struct3 Tryz.underlying24 h0
 simp [Value.cells,Tryz.cellsF,Tryz.cellsI,Tryz.cellsR,Tryz.cellsM] at h1 h2 k0 k1 k2
 obtain ⟨P,e0,_,_⟩:=DataW.trod_int Tryz.underlying3 k0
 obtain ⟨M,e1,_,_⟩:=DataW.trod_int Tryz.underlying3 k1
 obtain ⟨N,e2,_,_⟩:=DataW.trod_int Tryz.underlying3 h1
 simp at e0 e1 e2
 subst e0 e1 e2
 obtain ⟨mod,hs⟩:=sl_of_trod k2
 obtain ⟨A,hr⟩:=rd_of_trod h2
 have hs0:=hs
 obtain ⟨ma,mc,e3,_⟩:=hs0
 have hr0:=hr
 obtain ⟨va,vc,e4,_⟩:=hr0
 subst e3 e4
 exact ⟨P,M,ma,_,mc,mod,N,va,vc,A,rfl,hs,hr⟩
end Go.Proofs.YtoilbeadokallaaGreatDoor
namespace Go.Proofs.YtoilbeadokallaaGreatDoor
open Go.RowKit Go.Sort Cw
set_option maxHeartbeats 800000 in
theorem check_noShape (P M:Int) (vm:Value) (mod:List Int) (w:World) (hvm:Sl w vm mod) (hs:¬ ShapeP P M mod) :
  Calls Tryz.prog 18 #[.agg #[.int .i64 P,.int .i64 M,vm]] w fun e w'=>e=.returned (.int .i64 1)∧Kept w w':=by
 have hk0:=kept_alloc w (.cells #[.int .i64 P,.int .i64 M,vm] 24)
 have hbx:=boxF_new w P M vm 24
 have hv1:=hvm.kept hk0
 have HF:Hid (false=true ↔ ShapeP P M mod):=hid (by simp [hs])
 clear hs
 obtain ⟨w0,hw0⟩:∃ w0,w0=w.alloc (.cells #[.int .i64 P,.int .i64 M,vm] 24):=⟨_,rfl⟩
 rw [← hw0] at hk0 hbx hv1
 have c0:=cell_regrown hbx.h0
 have c1:=cell_regrown hbx.h1
 have c2:=cell_regrown hbx.h2
 have cS:∀ d os,Calls Tryz.prog 44 #[.agg #[.int .i64 P,.int .i64 M,vm]] (grow (redrawn w0 d) os) fun e w''=>e=.returned (.bool false)∧∃ p:Regrown,w''=grow (redrawn w0 p.d) p.os:=fun d os=>Calls.regrown_of (shape_any P M vm mod _ (hv1.kept (below_regrown w0 d os)) false HF.out)
 go_enter Tryz.func18,Tryz.ntmps18
 go_wp2_with (fail)
 rw [← hw0]
 clear hw0 hbx
 refine wp_region_quiet_below (by kernel_rfl) (by kernel_rfl) ?_
 repeat (first | go_big_quiet_step (exact cS _ _) | quiet_step (exact cS _ _))
 refine wpQuiet_nil ?_
 intro _ hw'
 obtain ⟨⟨dq,osq⟩,hw''⟩:=hw'
 subst hw''
 go_wp2_with (fail)
 go_ret
 exact ⟨rfl,hk0.tr (below_regrown w0 dq osq)⟩
set_option maxHeartbeats 1000000 in
theorem check_shape (P M:Int) (vm:Value) (mod:List Int) (w:World) (hvm:Sl w vm mod) (hs:ShapeP P M mod) (r:Int) (hr:(FieldP P M mod∧r=0) ∨ (¬ FieldP P M mod∧r=1)) :
  Calls Tryz.prog 18 #[.agg #[.int .i64 P,.int .i64 M,vm]] w fun e w'=>e=.returned (.int .i64 r)∧Kept w w':=by
 have hk0:=kept_alloc w (.cells #[.int .i64 P,.int .i64 M,vm] 24)
 have hv1:=hvm.kept hk0
 have hbx:=boxF_new w P M vm 24
 obtain ⟨o1,o2,o3,o4,o5,o6⟩:=ordS_pos hs.1
 obtain ⟨m,rfl⟩:=Int.eq_ofNat_of_zero_le (show 0≤M by omega)
 have hm:(m:Int).toNat=m:=by omega
 rw [hm] at o5 o6
 have h1:1≤P ^ m:=Int.pow_pos (by omega)
 obtain ⟨q,hq⟩:=Int.eq_ofNat_of_zero_le (show 0≤P ^ m by omega)
 have HO:Hid (ordS P m=q):=hid (by rw [o6,hq])
 have Hq:=hid hq
 have hq2:q≤256:=by omega
 have hml:1 < m→mod.length=m:=fun h=>by have:=(hs.2.2.2 (by omega)).1;omega
 have hmd:Digs P mod:=by
  by_cases e:m=1
  ·have:=hs.2.2.1 (by omega)
   subst this
   intro x hx;cases hx
  ·exact (hs.2.2.2 (by omega)).2
 have HS:=hid hs
 have HY:Hid (∀ x,1≤x→x < (q:Int)→IsGen P m mod q x→r=0):=hid (fun x g1 g2 g3=>by
  rcases hr with ⟨_,h⟩ | ⟨h,_⟩
  ·exact h
  ·exact absurd ⟨hs,x,g1,by rw [HO.out];exact g2,by rw [HO.out];simpa using g3⟩ h)
 have HNN:Hid ((∀ x,1≤x→x < (q:Int)→¬ IsGen P m mod q x)→r=1):=hid (fun hno=>by
  rcases hr with ⟨h,_⟩ | ⟨_,h⟩
  ·obtain ⟨_,x,g1,g2,g3⟩:=h
   rw [HO.out] at g2 g3
   exact absurd (by simpa using g3) (hno x g1 g2)
  ·exact h)
 clear hs hq h1 o5 o6 hm hr
 go_enter Tryz.func18,Tryz.ntmps18
 go_wp2_with (fail)
 refine Classical.byCases (p:=∃ x,1≤x∧x < (q:Int)∧IsGen P m mod q x) (fun hex=>?_) (fun hno=>?_)
 ·obtain ⟨x,x1,x2,x3⟩:=hex
  have HR:=hid (HY.out x x1 x2 x3)
  have HX:Hid (∃ x,1≤x∧x < (q:Int)∧IsGen P m mod q x):=hid ⟨x,x1,x2,x3⟩
  clear x1 x2 x3
  go_region_held3 (fun w'=>w'.cell? ⟨w.heap.size,0,none⟩=some (.int .i64 P)∧w'.cell? ⟨w.heap.size,1,none⟩=some (.int .i64 m)∧w'.cell? ⟨w.heap.size,2,none⟩=some vm) (first | (simp [go_sem];done) | (simp [*];done))
   (first
    | (go_at_call 44;(with_reducible refine (shape_any P m vm mod _ (hv1.kept (kept_drew _)) true ⟨fun _=>HS.out,fun _=>rfl⟩).mono ?_);rintro e w1 ⟨rfl,hk1⟩;have bx1:=(hbx.kept (kept_drew _)).kept hk1;have c0:=bx1.h0;have c1:=bx1.h1;have c2:=bx1.h2)
    | (go_at_call 46;(with_reducible refine (order_any P m _).mono ?_);rintro e w2 ⟨rfl,n2,rfl⟩;rw [HO.out])
    | (go_at_call 45;(with_reducible refine (generator_any P m vm mod q _ (((hv1.kept (kept_drew _)).kept hk1).kept (kept_drewN _ _)) o1 o2 (by omega) (by omega) Hq.out hq2 hml hmd).mono ?_);rintro e w3 ⟨hk3,(⟨g,v,g1,g2,g3,rfl,ho⟩ | ⟨hno,_⟩)⟩;rotate_left;(exact absurd HX.out (fun ⟨x,g1,g2,g3⟩=>hno x g1 g2 g3));rcases ho.form with ⟨_,hnil⟩ | ⟨ge,cap,rfl,hg1,hg2,hg3,hg4⟩;(exact absurd hnil (powL_ne _ _ _ _));have bx3:=(bx1.drewN n2).kept hk3;have d0:=bx3.h0;have d1:=bx3.h1;have d2:=bx3.h2))
  go_wp2_with (fail)
  go_ret
  exact ⟨ret_int HR.out.symm,(hk0.tr (kept_drew _)).tr (hk1.tr (Kept.tr (kept_drewN _ _) hk3))⟩
 ·have HR:=hid (HNN.out (fun x g1 g2 g3=>hno ⟨x,g1,g2,g3⟩))
  have HX:=hid hno
  clear hno
  go_region_held3 (fun w'=>w'.cell? ⟨w.heap.size,0,none⟩=some (.int .i64 P)∧w'.cell? ⟨w.heap.size,1,none⟩=some (.int .i64 m)∧w'.cell? ⟨w.heap.size,2,none⟩=some vm) (first | (simp [go_sem];done) | (simp [*];done))
   (first
    | (go_at_call 44;(with_reducible refine (shape_any P m vm mod _ (hv1.kept (kept_drew _)) true ⟨fun _=>HS.out,fun _=>rfl⟩).mono ?_);rintro e w1 ⟨rfl,hk1⟩;have bx1:=(hbx.kept (kept_drew _)).kept hk1;have c0:=bx1.h0;have c1:=bx1.h1;have c2:=bx1.h2)
    | (go_at_call 46;(with_reducible refine (order_any P m _).mono ?_);rintro e w2 ⟨rfl,n2,rfl⟩;rw [HO.out])
    | (go_at_call 45;(with_reducible refine (generator_any P m vm mod q _ (((hv1.kept (kept_drew _)).kept hk1).kept (kept_drewN _ _)) o1 o2 (by omega) (by omega) Hq.out hq2 hml hmd).mono ?_);rintro e w3 ⟨hk3,(⟨g,v,g1,g2,g3,_⟩ | ⟨_,rfl⟩)⟩;(exact absurd ⟨g,g1,g2,g3⟩ HX.out);have bx3:=(bx1.drewN n2).kept hk3;have d0:=bx3.h0;have d1:=bx3.h1;have d2:=bx3.h2))
  go_wp2_with (fail)
  go_ret
  exact ⟨ret_int HR.out.symm,(hk0.tr (kept_drew _)).tr (hk1.tr (Kept.tr (kept_drewN _ _) hk3))⟩
theorem check_any (P M:Int) (vm:Value) (mod:List Int) (w:World) (hvm:Sl w vm mod) (r:Int) (hr:(FieldP P M mod∧r=0) ∨ (¬ FieldP P M mod∧r=1)) :
  Calls Tryz.prog 18 #[.agg #[.int .i64 P,.int .i64 M,vm]] w fun e w'=>e=.returned (.int .i64 r)∧Kept w w':=by
 by_cases hs:ShapeP P M mod
 ·exact check_shape P M vm mod w hvm hs r hr
 ·rcases hr with ⟨h,_⟩ | ⟨_,rfl⟩
  ·exact absurd h.1 hs
  ·exact check_noShape P M vm mod w hvm hs
end Go.Proofs.YtoilbeadokallaaGreatDoor
namespace Cw
open Rg Fd PS
def StdIs (q p:Int) (m:Nat) (mod:List Int):Prop :=
 Prm p∧1≤m∧m≤8∧p ^ m=q∧(m=1→mod=[])∧(m ≠ 1→∃ v:Nat,(v:Int) < q∧mod=digL p v m∧IrrP p mod∧∀ u:Nat,u < v→¬ IrrP p (digL p u m))
theorem least_prm {q d:Int} (h2:2≤d) (hz:q % d=0) (h:∀ c:Int,2≤c→c < d→q % c ≠ 0):Prm d:=by
 refine ⟨h2,fun c c1 c2 e=>h c c1 c2 ?_⟩
 obtain ⟨x,hx⟩:=Int.dvd_of_emod_eq_zero hz
 obtain ⟨y,hy⟩:=Int.dvd_of_emod_eq_zero e
 rw [hx,hy,Int.mul_assoc,Int.mul_emod_right]
theorem mk_pow (R:PrS) (x:Int) (n:Nat):Zp.mk' R (x ^ n)=pw (Zp.mk' R x) n:=by
 induction n with
 | zero=>rw [Int.pow_zero];rfl
 | succ n ih=>rw [Int.pow_succ,← Zp.mk_mul,ih,pw_succ]
theorem prm_dvd_pow {p p':Int} {m:Nat} (hp:Prm p) (hp':Prm p') (h:p' ^ m % p=0):p=p':=by
 have hz:Zp.mk' ⟨p,hp⟩ (p' ^ m)=0:=Zp.mk_eq.2 (by
  show p' ^ m % p=0 % p
  rw [h];simp)
 have hp2:=hp.1
 have hp2':=hp'.1
 have h0:p' % p=0:=by
  refine Classical.byContradiction fun hn=>?_
  refine pw_ne (a:=Zp.mk' ⟨p,hp⟩ p') (fun e=>hn ?_) m (by rw [← mk_pow];exact hz)
  have:p' % p=0 % p:=Zp.mk_eq.1 e
  rw [this];simp
 rcases Int.lt_trichotomy p p' with g | g | g
 ·exact absurd h0 (hp'.2 p hp2 g)
 ·exact g
 ·rw [Int.emod_eq_of_lt (by omega) g] at h0;omega
theorem pow_lt {p:Int} (hp:2≤p) {i j:Nat} (h:i < j):p ^ i < p ^ j:=by
 have h1:=pow_le (p:=p) (by omega) (show i + 1≤j by omega)
 have h0:0 < p ^ i:=Int.pow_pos (by omega)
 rw [Int.pow_succ] at h1
 have h2:p ^ i * 2≤p ^ i * p:=Int.mul_le_mul_of_nonneg_left hp (by omega)
 omega
theorem pow_inj {p:Int} (hp:2≤p) {i j:Nat} (h:p ^ i=p ^ j):i=j:=by
 rcases Nat.lt_trichotomy i j with g | g | g
 ·have:=pow_lt hp g;omega
 ·exact g
 ·have:=pow_lt hp g;omega
theorem pow_mod_self {p:Int} {m:Nat} (hm:1≤m):p ^ m % p=0:=by
 obtain ⟨k,rfl⟩:∃ k,m=k + 1:=⟨m - 1,by omega⟩
 rw [Int.pow_succ,Int.mul_emod_left]
theorem std_base {q p p':Int} {m m':Nat} {mod mod':List Int} (h:StdIs q p m mod) (h':StdIs q p' m' mod'):p=p'∧m=m':=by
 obtain ⟨a1,a2,a3,a4,_⟩:=h
 obtain ⟨b1,b2,b3,b4,_⟩:=h'
 have e:p=p':=prm_dvd_pow (m:=m') a1 b1 (by rw [b4,← a4];exact pow_mod_self a2)
 subst e
 exact ⟨rfl,pow_inj a1.1 (by rw [a4,b4])⟩
theorem std_unique {q p p':Int} {m m':Nat} {mod mod':List Int} (h:StdIs q p m mod) (h':StdIs q p' m' mod'):p=p'∧m=m'∧mod=mod':=by
 obtain ⟨rfl,rfl⟩:=std_base h h'
 refine ⟨rfl,rfl, ?_⟩
 obtain ⟨_,_,_,_,a5,a6⟩:=h
 obtain ⟨_,_,_,_,b5,b6⟩:=h'
 by_cases e:m=1
 ·rw [a5 e,b5 e]
 ·obtain ⟨v,v1,v2,v3,v4⟩:=a6 e
  obtain ⟨u,u1,u2,u3,u4⟩:=b6 e
  rw [v2] at v3
  rw [u2] at u3
  have:v=u:=by
   rcases Nat.lt_trichotomy v u with g | g | g
   ·exact absurd v3 (u4 v g)
   ·exact g
   ·exact absurd u3 (v4 u g)
  rw [v2,u2,this]
theorem std_least {q d p:Int} {m:Nat} {mod:List Int} (hd:Prm d) (hz:q % d=0) (h:StdIs q p m mod):d=p:=by
 obtain ⟨a1,a2,a3,a4,_⟩:=h
 exact prm_dvd_pow (m:=m) hd a1 (by rw [a4];exact hz)
theorem ordS_pow {p:Int} {m:Nat} (h2:2≤p) (h1:1≤m) (h8:m≤8) (hq:p ^ m≤256):ordS p m=p ^ m:=by
 have hp:p ^ 1≤p ^ m:=pow_le (by omega) h1
 rw [Int.pow_one] at hp
 have e:(m:Int).toNat=m:=by omega
 rw [ordS_yes h2 (by omega) (by omega) (by omega) (by rw [e];exact hq),e]
theorem ordS_std {q p:Int} {m:Nat} {mod:List Int} (h:StdIs q p m mod) (hq:q≤256):ordS p m=q:=by
 obtain ⟨a1,a2,a3,a4,_⟩:=h
 rw [ordS_pow a1.1 a2 a3 (by omega),a4]
theorem ordS_eq {p q:Int} {m:Nat} (h:ordS p m=q) (hq:q ≠ 0):p ^ m=q∧2≤p∧p≤256∧1≤m∧m≤8:=by
 obtain ⟨o1,o2,o3,o4,o5,o6⟩:=ordS_pos (p:=p) (m:=m) (by rw [h];exact hq)
 have e:(m:Int).toNat=m:=by omega
 rw [e] at o6
 exact ⟨by rw [← o6,h],o1,o2,by omega,by omega⟩
theorem std_none {q d:Int} {m:Nat} (hd:Prm d) (hz:q % d=0) (hq0:2≤q) (hq:q≤256) (hlo:∀ k:Nat,1≤k→k < m→ordS d k < q) (hm:m=8 ∨ q≤ordS d m) (hne:ordS d m ≠ q) (p:Int) (m':Nat) (mod:List Int):¬ StdIs q p m' mod:=fun h=>by
 have e:=std_least hd hz h
 subst e
 have ho:=ordS_std h hq
 obtain ⟨a1,a2,a3,a4,_⟩:=h
 rcases Nat.lt_trichotomy m' m with g | g | g
 ·have:=hlo m' a2 g;omega
 ·subst g;exact hne ho
 ·rcases hm with e8 | e8
  ·omega
  ·have h0:ordS d m ≠ 0:=by omega
   obtain ⟨b1,_⟩:=ordS_eq (q:=ordS d m) rfl h0
   have:=pow_lt a1.1 g
   omega
theorem shape_dig {p:Int} {m:Nat} (hp:Prm p) (h1:1 < m) (hq:ordS p m ≠ 0) (v:Nat):ShapeP p m (digL p v m):=by
 refine ⟨hq,hp,fun e=>by omega,fun _=>⟨by rw [length_digL],digs_digL (by have:=hp.1;omega) m⟩⟩
theorem field_dig {p:Int} {m:Nat} (hp:Prm p) (h1:1 < m) (hq:ordS p m ≠ 0) (v:Nat):FieldP p m (digL p v m) ↔ IrrP p (digL p v m):=by
 rw [field_check]
 exact ⟨fun h=>h.2 (by omega),fun h=>⟨shape_dig hp h1 hq v,fun _=>h⟩⟩
theorem std_none_irr {q p:Int} {m:Nat} (hp:Prm p) (hm1:m ≠ 1) (h1:1≤m) (hpm:p ^ m=q) (hno:∀ u:Nat,(u:Int) < q→¬ IrrP p (digL p u m)) (p':Int) (m':Nat) (mod:List Int):¬ StdIs q p' m' mod:=fun h=>by
 have e:p=p':=prm_dvd_pow (m:=m') hp h.1 (by rw [h.2.2.2.1,← hpm];exact pow_mod_self h1)
 subst e
 have e2:m=m':=pow_inj hp.1 (by rw [hpm,h.2.2.2.1])
 subst e2
 obtain ⟨v,v1,v2,v3,_⟩:=h.2.2.2.2.2 hm1
 rw [v2] at v3
 exact hno v v1 v3
end Cw
namespace Go.Proofs.YtoilbeadokallaaGreatDoor
open Go.RowKit Cw
def StdOut (q:Int) (yes no:Value) (w:World) (e:Ending) (w':World):Prop :=
 ((∃ (p:Int) (m:Nat) (mod:List Int) (v:Value),StdIs q p m mod∧e=.returned (.tuple #[.agg #[.int .i64 p,.int .i64 m,v],yes])∧Sl w' v mod) ∨
  ((∀ (p:Int) (m:Nat) (mod:List Int),¬ StdIs q p m mod)∧e=.returned (.tuple #[.agg #[.int .i64 0,.int .i64 0,.slice none 0 0],no])))∧Kept w w'
structure ResB (w:World) (b:Nat):Prop where
 lt:b < w.heap.size
 c0:∃ x,w.cell? ⟨b,0,none⟩=some x
 c1:∃ x,w.cell? ⟨b,1,none⟩=some x
 c2:∃ x,w.cell? ⟨b,2,none⟩=some x
 f0:w.frozen? ⟨b,0,none⟩=false
 f1:w.frozen? ⟨b,1,none⟩=false
 f2:w.frozen? ⟨b,2,none⟩=false
theorem ResB.kept {w w':World} {b:Nat} (h:ResB w b) (k:Kept w w'):ResB w' b:=by
 obtain ⟨x,hx⟩:=h.c0
 obtain ⟨y,hy⟩:=h.c1
 obtain ⟨z,hz⟩:=h.c2
 exact ⟨k.lt h.lt,⟨x,(Kept.cell' k h.lt).trans hx⟩,⟨y,(Kept.cell' k h.lt).trans hy⟩,⟨z,(Kept.cell' k h.lt).trans hz⟩,(Kept.frozen' k h.lt).trans h.f0,(Kept.frozen' k h.lt).trans h.f1,(Kept.frozen' k h.lt).trans h.f2⟩
theorem sl_set3 {W:World} {b:Nat} {v:Value} {l:List Int} {x y z:Value} {B:Nat} (h:Own W B v l) (hb:b < B):Sl (((W.setCell ⟨b,0,none⟩ x).setCell ⟨b,1,none⟩ y).setCell ⟨b,2,none⟩ z) v l:=by
 have hso:∀ (W:World) (i:Nat) (u:Value),Own W B v l→Own (W.setCell ⟨b,i,none⟩ u) B v l:=fun W i u h=>h.setOther ⟨b,i,none⟩ u (fun g n c e=>by
  subst e
  have:=h.lt.1
  show g ≠ b
  omega)
 exact (hso _ _ _ (hso _ _ _ (hso _ _ _ h))).sl
theorem kept_set3 {w W:World} {b:Nat} {x y z:Value} (h:Kept w W) (hb:w.heap.size≤b):Kept w (((W.setCell ⟨b,0,none⟩ x).setCell ⟨b,1,none⟩ y).setCell ⟨b,2,none⟩ z):=by
 have hks:∀ (W:World) (i:Nat) (u:Value),Kept w W→Kept w (W.setCell ⟨b,i,none⟩ u):=fun W i u h=>Below.setCell h (p:=⟨b,i,none⟩) hb u
 exact hks _ _ _ (hks _ _ _ (hks _ _ _ h))
theorem sl_none (w:World):Sl w (.slice none 0 0) []:=⟨none,0,rfl,Nat.le_refl _,⟨Nat.zero_le _,fun _=>rfl⟩,fun h=>absurd rfl h⟩
set_option maxHeartbeats 4000000 in
theorem standard_in (q:Nat) (w:World) (h2:2≤q) (h256:q≤256) :
  Calls Tryz.prog 142 #[.int .i64 q] w (StdOut q (.int .i64 0) (.int .i64 6) w):=by
 obtain ⟨w1,hw1⟩:∃ w1,w1=w.alloc (.cells #[.int .i64 0,.int .i64 0,.slice none 0 0] 24):=⟨_,rfl⟩
 have hk1:Kept w w1:=by rw [hw1];exact kept_alloc _ _
 have hlt1:w.heap.size < w1.heap.size:=by rw [hw1];simp
 have r0:w1.cell? ⟨w.heap.size,0,none⟩=some (.int .i64 0):=by rw [hw1];simp
 have r1:w1.cell? ⟨w.heap.size,1,none⟩=some (.int .i64 0):=by rw [hw1];simp
 have r2:w1.cell? ⟨w.heap.size,2,none⟩=some (.slice none 0 0):=by rw [hw1];simp
 have f0:w1.frozen? ⟨w.heap.size,0,none⟩=false:=by rw [hw1];simp
 have f1:w1.frozen? ⟨w.heap.size,1,none⟩=false:=by rw [hw1];simp
 have f2:w1.frozen? ⟨w.heap.size,2,none⟩=false:=by rw [hw1];simp
 go_enter Tryz.func142,Tryz.ntmps142
 go_wp2_with (fail)
 rw [← hw1]
 clear hw1
 go_loop [4] (fun vd=>∃ d:Int,2≤d∧d≤q∧vd=.int .i64 d∧Hid (∀ c:Int,2≤c→c < d→(q:Int) % c ≠ 0)) (fun vd=>q - (intOf vd).toNat)
 case atStart=>exact ⟨2,by omega,by omega,rfl,hid (fun c h3 h4=>by omega)⟩
 case round =>
  obtain ⟨d,d2,dq,rfl,hc⟩:=hrel
  have h11:=Int.emod_nonneg (q:Int) (show d ≠ 0 by omega)
  have h12:=Int.emod_lt_of_pos (q:Int) (show 0 < d by omega)
  by_cases hz:(q:Int) % d=0
  case neg =>
   have t0:((q:Int) % d != 0)=true:=by simpa using hz
   have hdq:d < q:=by
    rcases Int.lt_or_le d q with g | g
    ·exact g
    ·have:d=q:=by omega
     rw [this] at hz;simp at hz
   have hc':Hid (∀ c:Int,2≤c→c < d + 1→(q:Int) % c ≠ 0):=hid (fun c g1 g2=>by
    by_cases e:c=d
    ·rw [e];exact hz
    ·exact hc.out c g1 (by omega))
   clear hz
   go_wp2_with (fail)
   go_round
   case rel=>exact ⟨d + 1,by omega,by omega,rfl,hc'⟩
   case measure=>simp [intOf];omega
  have t0:((q:Int) % d != 0)=false:=by simpa using hz
  have HPR:Hid (Prm d):=hid (least_prm d2 hz hc.out)
  have HZ:=hid hz
  clear hz hc
  go_wp2_with (fail)
  go_loopw [5] (fun vm wr=>∃ k:Nat,1≤k∧k≤8∧vm=.int .i64 k∧Hid (∀ j:Nat,1≤j→j < k→ordS d j < q)∧∃ n,wr=w1.drewN n) (fun vm _=>8 - (intOf vm).toNat)
  case atStart=>exact ⟨1,by omega,by omega,rfl,hid (fun j h3 h4=>by omega),0,rfl⟩
  case round =>
   obtain ⟨k,k1,k8,rfl,hlo,n,rfl⟩:=hrel
   obtain ⟨o,ho⟩:∃ o,o=ordS d k:=⟨_,rfl⟩
   have HO:Hid (ordS d k=o):=hid ho.symm
   clear ho
   by_cases hgo:o < q∧k < 8
   ·obtain ⟨g1,g2⟩:=hgo
    have hlo':Hid (∀ j:Nat,1≤j→j < k + 1→ordS d j < q):=hid (fun j j1 j2=>by
     by_cases e:j=k
     ·rw [e,HO.out];exact g1
     ·exact hlo.out j j1 (by omega))
    have g2':(k:Int) < 8:=by omega
    go_wp2_with (go_at_call 46;(with_reducible refine (order_any d k _).mono ?_);rintro e w2 ⟨rfl,n2,rfl⟩;rw [HO.out])
    go_roundw
    case rel=>exact ⟨k + 1,by omega,by omega,by go_num,hlo',by first | exact ⟨_,rfl⟩ | exact ⟨_,World.drewN_drewN _ _ _⟩⟩
    case measure=>simp [intOf];omega
   have HEX:Hid (k=8 ∨ (q:Int)≤ordS d k):=hid (by rw [HO.out];omega)
   by_cases hoq:o=q
   case neg =>
    have tq:(o != (q:Int))=true:=by simpa using hoq
    have HN:Hid (∀ (p:Int) (m:Nat) (mod:List Int),¬ StdIs q p m mod):=hid (std_none HPR.out HZ.out (by omega) (by omega) hlo.out HEX.out (by rw [HO.out];exact hoq))
    clear hoq
    have hkf:=fun n x y z=>kept_set3 (b:=w.heap.size) (x:=x) (y:=y) (z:=z) (hk1.drewN n) (Nat.le_refl _)
    have HKF:=hid hkf
    clear hkf
    by_cases hlt:o < q
    ·have k88:(8:Int)≤(k:Int):=by omega
     clear hgo
     go_wp2_with (go_at_call 46;(with_reducible refine (order_any d k _).mono ?_);rintro e w2 ⟨rfl,n2,rfl⟩;rw [HO.out])
     refine bodyPost_ret (v:=.tuple #[.agg #[.int .i64 0,.int .i64 0,.slice none 0 0],.int .i64 6]) ?_ rfl ⟨.inr ⟨HN.out,rfl⟩,HKF.out _ _ _ _⟩
     simp [results,Tryz.results142,go_sem,r0,r1,r2]
    ·have hle:(q:Int)≤o:=by omega
     clear hgo hlt
     go_wp2_with (go_at_call 46;(with_reducible refine (order_any d k _).mono ?_);rintro e w2 ⟨rfl,n2,rfl⟩;rw [HO.out])
     refine bodyPost_ret (v:=.tuple #[.agg #[.int .i64 0,.int .i64 0,.slice none 0 0],.int .i64 6]) ?_ rfl ⟨.inr ⟨HN.out,rfl⟩,HKF.out _ _ _ _⟩
     simp [results,Tryz.results142,go_sem,r0,r1,r2]
   subst hoq
   have HPM:Hid (d ^ k=(q:Int)):=hid (ordS_eq HO.out (by omega)).1
   have d256:d≤256:=by omega
   clear hgo HEX hlo
   have tq:(((q:Nat):Int) != (q:Int))=false:=by simp
   by_cases hk:k=1
   ·subst hk
    have HS:Hid (StdIs q d 1 []):=hid ⟨HPR.out,by omega,by omega,HPM.out,fun _=>rfl,fun h=>absurd rfl h⟩
    have hkf:=fun n x y z=>kept_set3 (b:=w.heap.size) (x:=x) (y:=y) (z:=z) (hk1.drewN n) (Nat.le_refl _)
    have HKF:=hid hkf
    clear hkf
    go_wp2_with (go_at_call 46;(with_reducible refine (order_any d 1 _).mono ?_);rintro e w2 ⟨rfl,n2,rfl⟩;rw [show ordS d 1=(q:Int) from HO.out])
    refine bodyPost_ret (v:=.tuple #[.agg #[.int .i64 d,.int .i64 1,.slice none 0 0],.int .i64 0]) ?_ rfl ⟨.inl ⟨d,1,[],_,HS.out,rfl,sl_none _⟩,HKF.out _ _ _ _⟩
    simp [results,Tryz.results142,go_sem,r0,r1,r2]
   have tk:((k:Int) == 1)=false:=by simp;omega
   have HK1:=hid hk
   clear hk
   go_wp2_with (go_at_call 46;(with_reducible refine (order_any d k _).mono ?_);rintro e w2 ⟨rfl,n2,rfl⟩;rw [HO.out])
   go_loopw [43] (fun vv wr=>∃ v:Nat,v≤q∧vv=.int .i64 v∧Hid (∀ u:Nat,u < v→¬ IrrP d (digL d u k))∧Kept w1 wr) (fun vv _=>q - (intOf vv).toNat)
   case atStart=>exact ⟨0,by omega,rfl,hid (fun u hu=>by omega),kept_drewN _ _⟩
   case round =>
    obtain ⟨v,hv,rfl,hno,hkw⟩:=hrel
    have hb:w.heap.size < wr.heap.size:=Nat.lt_of_lt_of_le hlt1 hkw.size
    by_cases hvq:v < q
    ·have hk2:1 < k:=by have:=HK1.out;omega
     have HFD:=hid (field_dig HPR.out hk2 (by rw [HO.out];omega) v)
     by_cases hir:IrrP d (digL d v k)
     ·have HS:Hid (StdIs q d k (digL d v k)):=hid ⟨HPR.out,k1,k8,HPM.out,fun e=>absurd e HK1.out,fun _=>⟨v,by omega,rfl,hir,hno.out⟩⟩
      have HF:Hid (FieldP d k (digL d v k)):=hid (HFD.out.2 hir)
      clear hir
      go_wp2_with (first
       | (go_at_call 150;(with_reducible refine (digitsOf_any (v:Int) d k _ (by omega) (by omega) (by omega) d256 (by omega)).mono ?_);rintro e w3 ⟨rfl,o3,k3⟩;have hs3:=o3.sl.kept (kept_alloc _ (.cells #[.int .i64 d,.int .i64 k,.slice (some ⟨wr.heap.size,0,none⟩) k k] 24));have bx3:=boxF_new w3 d k (.slice (some ⟨wr.heap.size,0,none⟩) k k) 24;have g0:=bx3.h0;have g1:=bx3.h1;have g2:=bx3.h2)
       | (go_at_call 18;(with_reducible refine (check_any d k _ (digL d v k) _ hs3 0 (.inl ⟨HF.out,rfl⟩)).mono ?_);rintro e w4 ⟨rfl,k4⟩;have kk:=(hkw.tr k3).tr ((kept_alloc w3 (.cells #[.int .i64 d,.int .i64 k,.slice (some ⟨wr.heap.size,0,none⟩) k k] 24)).tr k4);have bx4:=bx3.kept k4;have g3:=bx4.h0;have g4:=bx4.h1;have g5:=bx4.h2;have p0:=(Kept.cell' kk hlt1).trans r0;have p1:=(Kept.cell' kk hlt1).trans r1;have p2:=(Kept.cell' kk hlt1).trans r2;have e0:=(Kept.frozen' kk hlt1).trans f0;have e1:=(Kept.frozen' kk hlt1).trans f1;have e2:=(Kept.frozen' kk hlt1).trans f2;have o4:=(o3.kept (kept_alloc _ _)).kept k4))
      have hfs:=sl_set3 (x:=.int .i64 d) (y:=.int .i64 k) (z:=.slice (some ⟨wr.heap.size,0,none⟩) k k) o4 hb
      have hfk:=kept_set3 (x:=.int .i64 d) (y:=.int .i64 k) (z:=.slice (some ⟨wr.heap.size,0,none⟩) k k) (hk1.tr kk) (Nat.le_refl w.heap.size)
      refine bodyPost_ret (v:=.tuple #[.agg #[.int .i64 d,.int .i64 k,.slice (some ⟨wr.heap.size,0,none⟩) k k],.int .i64 0]) ?_ rfl ⟨.inl ⟨d,k,digL d v k,_,HS.out,rfl,hfs⟩,hfk⟩
      simp [results,Tryz.results142,go_sem,p0,p1,p2]
     ·have HF:Hid (¬ FieldP d k (digL d v k)):=hid (fun h=>hir (HFD.out.1 h))
      have hno':Hid (∀ u:Nat,u < v + 1→¬ IrrP d (digL d u k)):=hid (fun u hu=>by
       by_cases e:u=v
       ·rw [e];exact hir
       ·exact hno.out u (by omega))
      clear hir
      go_wp2_with (first
       | (go_at_call 150;(with_reducible refine (digitsOf_any (v:Int) d k _ (by omega) (by omega) (by omega) d256 (by omega)).mono ?_);rintro e w3 ⟨rfl,o3,k3⟩;have hs3:=o3.sl.kept (kept_alloc _ (.cells #[.int .i64 d,.int .i64 k,.slice (some ⟨wr.heap.size,0,none⟩) k k] 24));have bx3:=boxF_new w3 d k (.slice (some ⟨wr.heap.size,0,none⟩) k k) 24;have g0:=bx3.h0;have g1:=bx3.h1;have g2:=bx3.h2)
       | (go_at_call 18;(with_reducible refine (check_any d k _ (digL d v k) _ hs3 1 (.inr ⟨HF.out,rfl⟩)).mono ?_);rintro e w4 ⟨rfl,k4⟩;have kk:=(hkw.tr k3).tr ((kept_alloc w3 (.cells #[.int .i64 d,.int .i64 k,.slice (some ⟨wr.heap.size,0,none⟩) k k] 24)).tr k4);have bx4:=bx3.kept k4;have g3:=bx4.h0;have g4:=bx4.h1;have g5:=bx4.h2;have p0:=(Kept.cell' kk hlt1).trans r0;have p1:=(Kept.cell' kk hlt1).trans r1;have p2:=(Kept.cell' kk hlt1).trans r2;have e0:=(Kept.frozen' kk hlt1).trans f0;have e1:=(Kept.frozen' kk hlt1).trans f1;have e2:=(Kept.frozen' kk hlt1).trans f2;have o4:=(o3.kept (kept_alloc _ _)).kept k4))
      go_roundw
      case rel=>exact ⟨v + 1,by omega,by go_num,hno',kk⟩
      case measure=>simp [intOf];omega
    ·have HN:Hid (∀ (p:Int) (m:Nat) (mod:List Int),¬ StdIs q p m mod):=hid (std_none_irr HPR.out HK1.out k1 HPM.out (fun u hu=>hno.out u (by omega)))
     have p0:=(Kept.cell' hkw hlt1).trans r0
     have p1:=(Kept.cell' hkw hlt1).trans r1
     have p2:=(Kept.cell' hkw hlt1).trans r2
     have e0:=(Kept.frozen' hkw hlt1).trans f0
     have e1:=(Kept.frozen' hkw hlt1).trans f1
     have e2:=(Kept.frozen' hkw hlt1).trans f2
     have hfk:=kept_set3 (x:=.int .i64 0) (y:=.int .i64 0) (z:=.slice none 0 0) (hk1.tr hkw) (Nat.le_refl w.heap.size)
     go_wp2_with (fail)
     refine bodyPost_ret (v:=.tuple #[.agg #[.int .i64 0,.int .i64 0,.slice none 0 0],.int .i64 6]) ?_ rfl ⟨.inr ⟨HN.out,rfl⟩,hfk⟩
     simp [results,Tryz.results142,go_sem,p0,p1,p2]
end Go.Proofs.YtoilbeadokallaaGreatDoor
namespace Go.Proofs
open Go.Shelf
def Tryz.lays171_ren:Go.Shelf.Ren:=⟨fun | 171=>194 | 243=>298 | 246=>356 | 283=>383 | 284=>384 | 285=>385 | 286=>386 | 129=>283 | 317=>399 | 318=>400 | 319=>401 | 320=>402 | 337=>404 | 338=>405 | n=>n,fun | 3=>3 | 9=>9 | 2=>2 | 4=>4 | 171=>360 | 0=>0 | 53=>236 | 37=>195 | 5=>5 | 173=>362 | 212=>377 | 51=>288 | 20=>20 | 213=>378 | 46=>220 | 232=>379 | 233=>380 | n=>n,fun | 17=>3 | 18=>4 | 19=>5 | n=>n⟩
theorem Tryz.lays171:Go.Proofs.Lays.n171 Tryz.prog Tryz.lays171_ren:={
 mixed:=by kernel_rfl
 f129:=Tryz.func283.trans (congrArg some (by kernel_rfl))
 f171:=Tryz.func194.trans (congrArg some (by kernel_rfl))
 f243:=Tryz.func298.trans (congrArg some (by kernel_rfl))
 f246:=Tryz.func356.trans (congrArg some (by kernel_rfl))
 f283:=Tryz.func383.trans (congrArg some (by kernel_rfl))
 f284:=Tryz.func384.trans (congrArg some (by kernel_rfl))
 f285:=Tryz.func385.trans (congrArg some (by kernel_rfl))
 f286:=Tryz.func386.trans (congrArg some (by kernel_rfl))
 f317:=Tryz.func399.trans (congrArg some (by kernel_rfl))
 f318:=Tryz.func400.trans (congrArg some (by kernel_rfl))
 f319:=Tryz.func401.trans (congrArg some (by kernel_rfl))
 f320:=Tryz.func402.trans (congrArg some (by kernel_rfl))
 f337:=Tryz.func404.trans (congrArg some (by kernel_rfl))
 f338:=Tryz.func405.trans (congrArg some (by kernel_rfl))
 t0:=Tryz.underlying0
 a0:=Tryz.isAgg0
 z0:=Tryz.sizeOf0
 v0:=Tryz.zeroValue0
 t2:=Tryz.underlying2
 a2:=Tryz.isAgg2
 z2:=Tryz.sizeOf2
 v2:=Tryz.zeroValue2
 t3:=Tryz.underlying3
 a3:=Tryz.isAgg3
 z3:=Tryz.sizeOf3
 v3:=Tryz.zeroValue3
 t4:=Tryz.underlying4
 a4:=Tryz.isAgg4
 z4:=Tryz.sizeOf4
 v4:=Tryz.zeroValue4
 t5:=Tryz.underlying5
 a5:=Tryz.isAgg5
 z5:=Tryz.sizeOf5
 v5:=Tryz.zeroValue5
 t9:=Tryz.underlying9
 a9:=Tryz.isAgg9
 z9:=Tryz.sizeOf9
 v9:=Tryz.zeroValue9
 t20:=Tryz.underlying20
 a20:=Tryz.isAgg20
 z20:=Tryz.sizeOf20
 v20:=Tryz.zeroValue20
 t37:=Tryz.underlying195
 a37:=Tryz.isAgg195
 z37:=Tryz.sizeOf195
 v37:=Tryz.zeroValue195
 t46:=Tryz.underlying220
 a46:=Tryz.isAgg220
 z46:=Tryz.sizeOf220
 v46:=Tryz.zeroValue220
 t51:=Tryz.underlying288
 a51:=Tryz.isAgg288
 z51:=Tryz.sizeOf288
 v51:=Tryz.zeroValue288
 t53:=Tryz.underlying236
 a53:=Tryz.isAgg236
 z53:=Tryz.sizeOf236
 v53:=Tryz.zeroValue236
 t171:=Tryz.underlying360
 a171:=Tryz.isAgg360
 z171:=Tryz.sizeOf360
 v171:=Tryz.zeroValue360
 t173:=Tryz.underlying362
 a173:=Tryz.isAgg362
 z173:=Tryz.sizeOf362
 v173:=Tryz.zeroValue362
 t212:=Tryz.underlying377
 a212:=Tryz.isAgg377
 z212:=Tryz.sizeOf377
 v212:=Tryz.zeroValue377
 t213:=Tryz.underlying378
 a213:=Tryz.isAgg378
 z213:=Tryz.sizeOf378
 t232:=Tryz.underlying379
 a232:=Tryz.isAgg379
 z232:=Tryz.sizeOf379
 v232:=Tryz.zeroValue379
 t233:=Tryz.underlying380
 a233:=Tryz.isAgg380
 z233:=Tryz.sizeOf380
 v233:=Tryz.zeroValue380
 g17:=by kernel_rfl
 g18:=by kernel_rfl
 g19:=by kernel_rfl }
open Go.RowKit Go.Sort Go.Lib in
theorem Tryz.strconv_Itoa_small (i:Nat) (hi:i < 100) (w:World) :
  Calls Tryz.prog 194 #[.int .i64 i] w fun e w'=>e=.returned (.string ⟨(Lib.decDigits i).toArray⟩)∧w'=w:=Any.strconv_Itoa_small Tryz.lays171 i hi w
def Tryz.lays264_ren:Go.Shelf.Ren:=⟨fun | 264=>174 | n=>n,fun | 53=>236 | 46=>220 | n=>n,fun | n=>n⟩
theorem Tryz.lays264:Go.Proofs.Lays.n264 Tryz.prog Tryz.lays264_ren:={
 mixed:=by kernel_rfl
 f264:=Tryz.func174.trans (congrArg some (by kernel_rfl))
 t46:=Tryz.underlying220
 a46:=Tryz.isAgg220
 z46:=Tryz.sizeOf220
 v46:=Tryz.zeroValue220
 t53:=Tryz.underlying236
 a53:=Tryz.isAgg236
 z53:=Tryz.sizeOf236
 v53:=Tryz.zeroValue236 }
open Go.RowKit Go.Lib in
theorem Tryz.bits_Mul64 (x y:Nat) (hx:x < 18446744073709551616) (hy:y < 18446744073709551616) (w:World) :
  Calls Tryz.prog 174 #[.int .u64 x,.int .u64 y] w fun e w'=>e=.returned (.tuple #[.int .u64 ((x * y / 18446744073709551616:Nat):Int),.int .u64 ((x * y % 18446744073709551616:Nat):Int)])∧w'=w:=Any.bits_Mul64 Tryz.lays264 x y hx hy w
end Go.Proofs
namespace Go.Proofs
open Go.Shelf
def Tryz.laysSort_ren:Go.Shelf.Ren:=⟨fun | 189=>103 | 125=>156 | 257=>155 | 128=>282 | 129=>283 | 294=>273 | 295=>274 | 296=>275 | 297=>276 | 298=>277 | 299=>278 | 216=>279 | 300=>280 | 301=>281 | 328=>345 | 329=>346 | 330=>347 | 331=>348 | 332=>349 | 215=>350 | 343=>381 | n=>n,fun | 28=>22 | 3=>3 | 46=>220 | 0=>0 | 51=>288 | 53=>236 | 4=>4 | 183=>282 | 182=>281 | 131=>191 | 5=>5 | 9=>9 | 218=>329 | 222=>81 | 228=>358 | 229=>153 | n=>n,fun | n=>n⟩
theorem Tryz.laysSort:Go.Proofs.Lays.n189 Tryz.prog Tryz.laysSort_ren:={
 mixed:=by kernel_rfl
 f125:=Tryz.func156.trans (congrArg some (by kernel_rfl))
 f128:=Tryz.func282.trans (congrArg some (by kernel_rfl))
 f129:=Tryz.func283.trans (congrArg some (by kernel_rfl))
 f189:=Tryz.func103.trans (congrArg some (by kernel_rfl))
 f215:=Tryz.func350.trans (congrArg some (by kernel_rfl))
 f216:=Tryz.func279.trans (congrArg some (by kernel_rfl))
 f257:=Tryz.func155.trans (congrArg some (by kernel_rfl))
 f294:=Tryz.func273.trans (congrArg some (by kernel_rfl))
 f295:=Tryz.func274.trans (congrArg some (by kernel_rfl))
 f296:=Tryz.func275.trans (congrArg some (by kernel_rfl))
 f297:=Tryz.func276.trans (congrArg some (by kernel_rfl))
 f298:=Tryz.func277.trans (congrArg some (by kernel_rfl))
 f299:=Tryz.func278.trans (congrArg some (by kernel_rfl))
 f300:=Tryz.func280.trans (congrArg some (by kernel_rfl))
 f301:=Tryz.func281.trans (congrArg some (by kernel_rfl))
 f328:=Tryz.func345.trans (congrArg some (by kernel_rfl))
 f329:=Tryz.func346.trans (congrArg some (by kernel_rfl))
 f330:=Tryz.func347.trans (congrArg some (by kernel_rfl))
 f331:=Tryz.func348.trans (congrArg some (by kernel_rfl))
 f332:=Tryz.func349.trans (congrArg some (by kernel_rfl))
 f343:=Tryz.func381.trans (congrArg some (by kernel_rfl))
 t0:=Tryz.underlying0
 a0:=Tryz.isAgg0
 z0:=Tryz.sizeOf0
 v0:=Tryz.zeroValue0
 t3:=Tryz.underlying3
 a3:=Tryz.isAgg3
 z3:=Tryz.sizeOf3
 v3:=Tryz.zeroValue3
 t4:=Tryz.underlying4
 a4:=Tryz.isAgg4
 z4:=Tryz.sizeOf4
 v4:=Tryz.zeroValue4
 t5:=Tryz.underlying5
 a5:=Tryz.isAgg5
 z5:=Tryz.sizeOf5
 v5:=Tryz.zeroValue5
 t9:=Tryz.underlying9
 a9:=Tryz.isAgg9
 z9:=Tryz.sizeOf9
 v9:=Tryz.zeroValue9
 t28:=Tryz.underlying22
 a28:=Tryz.isAgg22
 z28:=Tryz.sizeOf22
 v28:=Tryz.zeroValue22
 t46:=Tryz.underlying220
 a46:=Tryz.isAgg220
 z46:=Tryz.sizeOf220
 v46:=Tryz.zeroValue220
 t51:=Tryz.underlying288
 a51:=Tryz.isAgg288
 z51:=Tryz.sizeOf288
 v51:=Tryz.zeroValue288
 t53:=Tryz.underlying236
 a53:=Tryz.isAgg236
 z53:=Tryz.sizeOf236
 v53:=Tryz.zeroValue236
 t131:=Tryz.underlying191
 a131:=Tryz.isAgg191
 z131:=Tryz.sizeOf191
 v131:=Tryz.zeroValue191
 t182:=Tryz.underlying281
 a182:=Tryz.isAgg281
 z182:=Tryz.sizeOf281
 v182:=Tryz.zeroValue281
 t183:=Tryz.underlying282
 a183:=Tryz.isAgg282
 z183:=Tryz.sizeOf282
 v183:=Tryz.zeroValue282
 t218:=Tryz.underlying329
 a218:=Tryz.isAgg329
 z218:=Tryz.sizeOf329
 v218:=Tryz.zeroValue329
 t222:=Tryz.underlying81
 a222:=Tryz.isAgg81
 z222:=Tryz.sizeOf81
 v222:=Tryz.zeroValue81
 t228:=Tryz.underlying358
 a228:=Tryz.isAgg358
 z228:=Tryz.sizeOf358
 v228:=Tryz.zeroValue358
 t229:=Tryz.underlying153
 a229:=Tryz.isAgg153
 z229:=Tryz.sizeOf153
 v229:=Tryz.zeroValue153 }
end Go.Proofs
