/- Lemmas on the way to the row, merged: walks of functions and plain algebra. Conditions: each lemma's own, stated with it. -/
import Derived.Test.YtoilbeadokallaaGreatDoorK17
import Derived.Test.YtoilbeadokallaaGreatDoorK31
namespace Go.Proofs.YtoilbeadokallaaGreatDoor
open Go.RowKit Cw Cw.Gj
theorem take_succ_row {A:List (List Int)} {k:Nat} (h:k < A.length):A.take (k + 1)=A.take k ++ [Gj.row A k]:=by
 rw [List.take_add_one,List.getElem?_eq_getElem h]
 unfold Gj.row
 simp [List.getD,h]
set_option maxHeartbeats 1000000 in
theorem rCopy_any (v:Value) (A:List (List Int)) (w:World) (hv:Rd w v A) (hn:A.length≤256) (hl:∀ i,i < A.length→(Gj.row A i).length≤1000) :
  Calls Tryz.prog 285 #[v] w fun e w'=>∃ v' rv,e=.returned v'∧Mx w' w.heap.size v' A rv∧Kept w w':=by
 obtain ⟨a,cap,rfl,hcap,hcm,hb0⟩:=hv.get
 unfold maxLen at hcm
 have HL:=hid hl
 clear hl
 go_enter Tryz.func285,Tryz.ntmps285
 go_wp2_with (fail)
 go_loopw [3,4] (fun vo vi wr=>∃ (k:Nat) (oa:Option Addr) (oc:Nat) (rv:Nat→Value),k≤A.length∧vi=.int .i64 k∧vo=.slice oa k oc∧Mx wr w.heap.size (.slice oa k oc) (A.take k) rv∧Kept w wr) (fun _ vi _=>A.length - (intOf vi).toNat)
 case atStart=>exact ⟨0,none,0,_,by omega,rfl,rfl,by rw [List.take_zero];exact mx_nil _ _,Kept.rfl' _⟩
 case round =>
  obtain ⟨k,oa,oc,rv,hk,rfl,rfl,hmx,hkr⟩:=hrel
  by_cases hlt:k < A.length
  ·obtain ⟨bb,off,rfl,hbb⟩:=hb0 (by intro e;rw [e] at hlt;simp at hlt)
   have hlt':(k:Int) < (A.length:Int):=by omega
   have HT:Hid (A.take (k + 1)=A.take k ++ [Gj.row A k]):=hid (take_succ_row hlt)
   have hTl:(A.take k).length=k:=by simp;omega
   have hlk:=HL.out k hlt
   have hke:=kept_alloc wr (.cells #[] 3)
   have hoe:=own_empty (w:=wr) (Nat.le_refl _)
   obtain ⟨u,u1,u2⟩:=(hv.kept (hkr.tr hke)).cellAt hlt
   obtain ⟨ua,uc,rfl,huc,⟨hum,hu0⟩,hcu⟩:=u2
   have HC:Hid (∀ ad,ua=some ad→∀ j,j < (Gj.row A k).length→(wr.alloc (.cells #[] 3)).cell? (ad.add j)=some (.int .i64 ((Gj.row A k).getD j 0))):=hid (fun ad e j hj=>by
    obtain ⟨b2,off2,e2,hb2,hcell⟩:=hcu (by intro e;rw [e] at hj;simp at hj)
    rw [e2] at e
    cases e
    rw [Addr.add_lit]
    exact hcell j hj)
   have HU0:=hid hu0
   have HUN:Hid (Gj.row A k ≠ []→ua ≠ none):=hid (fun e2 e=>by
    obtain ⟨b2,off2,e3,_⟩:=hcu e2
    rw [e3] at e;cases e)
   have hsz:wr.heap.size≤(wr.alloc (.cells #[] 3)).heap.size:=hke.size
   clear hcu hu0 hum huc
   go_wp2_with (first
    | (at_builtin;refine wpList_copy_ints rfl (.tmp 12) (.tmp 16) rfl wr.heap.size wr.heap.size rfl hoe ua (Gj.row A k).length uc (Gj.row A k) rfl rfl HU0.out HUN.out HC.out (by omega) ?_;intro gm cm w4 hg4 _ hB4 ho4;obtain ⟨hk4,hs4⟩:Kept wr w4∧w.heap.size≤w4.heap.size:=⟨below_grown hke hg4 hsz (Nat.le_refl _),Nat.le_trans hkr.size (Nat.le_trans hsz hg4.size)⟩;have hm4:=hmx.kept hk4;have hk7:=kept_alloc w4 (.cells #[.slice (some ⟨gm,0,none⟩) (Gj.row A k).length cm] 22);have hm7:=hm4.kept hk7;have ho7:=ho4.kept hk7;have HO:=hid hm7.out;rw [hTl] at HO)
    | (at_builtin;refine wpList_append_row rfl (.tmp 11) (.tmp 18) rfl w.heap.size _ k _ rfl HO.out ⟨w4.heap.size,0,none⟩ (.slice (some ⟨gm,0,none⟩) (Gj.row A k).length cm) rfl (cell_new rfl) rfl (by omega) (by simp;omega) ?_;intro v8 w8 o8 hg8))
   have hm8:=hm7.add (l:=Gj.row A k) (ho7.mono hkr.size) (fun x hx j hj e2=>by
    have h1:=own_blk ho7 hx
    have h2:=own_blk (hmx.row j hj) e2
    omega) (by rw [hTl];exact o8) hg8
   have hk8:Kept w w8:=(((hkr.tr hk4).tr hk7).grown hg8 (by simp;omega) (fun k e=>by
    have:=World.ownsRow.lt hm7.out k e
    exact this.1))
   rw [← HT.out] at hm8
   obtain ⟨oa8,oc8,e8⟩:=hm8.lenOf
   rw [show (A.take (k + 1)).length=k + 1 by simp;omega] at e8
   subst e8
   clear o8 hg8 hm7 ho7
   go_wp2_with (fail)
   go_roundw
   case rel=>exact ⟨k + 1,oa8,oc8,_,by omega,by go_num,rfl,hm8,hk8⟩
   case measure=>simp [intOf];omega
  ·have HE:Hid (A.take k=A):=hid (List.take_of_length_le (by omega))
   have hke:k=A.length:=by omega
   go_wp2_with (fail)
   go_ret
   exact ⟨_,rv,rfl,by rw [HE.out] at hmx;exact hmx,hkr⟩
end Go.Proofs.YtoilbeadokallaaGreatDoor
namespace Go.Proofs.YtoilbeadokallaaGreatDoor
open Go.RowKit Cw Cw.Gj
def sclS (G:GFd) (x:Int) (l:List Int) (k:Nat):List Int:=(List.range l.length).map fun j=>if j < k then mulG G x (l.getD j 0) else 0
theorem sclS_at {G:GFd} {x:Int} {l:List Int} {k j:Nat} (h:j < l.length):(sclS G x l k).getD j 0=if j < k then mulG G x (l.getD j 0) else 0:=by
 unfold sclS;simp [List.getD,h]
theorem sclS_len (G:GFd) (x:Int) (l:List Int) (k:Nat):(sclS G x l k).length=l.length:=by simp [sclS]
theorem sclS_zero (G:GFd) (x:Int) (l:List Int):sclS G x l 0=List.replicate l.length 0:=list_eq_of (by simp [sclS]) fun i hi=>by
 rw [sclS_len] at hi
 rw [sclS_at hi,if_neg (by omega)];simp [List.getD,hi]
theorem sclS_step {G:GFd} {x:Int} {l:List Int} {k:Nat} (h:k < l.length):(sclS G x l k).set k (mulG G x (l.getD k 0))=sclS G x l (k + 1):=list_eq_of (by simp [sclS]) fun i hi=>by
 rw [List.length_set,sclS_len] at hi
 rw [sclS_at hi]
 by_cases e:i=k
 ·subst e;rw [if_pos (by omega)];simp [List.getD,sclS_len,hi]
 ·rw [List.getD,List.getElem?_set_ne (Ne.symm e),← List.getD,sclS_at hi]
  by_cases g:i < k
  ·rw [if_pos g,if_pos (by omega)]
  ·rw [if_neg g,if_neg (by omega)]
theorem sclS_full (G:GFd) (x:Int) (l:List Int):sclS G x l l.length=l.map (mulG G x):=list_eq_of (by simp [sclS]) fun i hi=>by
 rw [sclS_len] at hi
 rw [sclS_at hi,if_pos hi];simp [List.getD,hi]
set_option maxRecDepth 100000 in
set_option maxHeartbeats 2000000 in
theorem rScale_any (G:GFd) (t:Tabs G) (P M:Int) (mod:List Int) (vm:Value) (x:Int) (v:Value) (l:List Int) (w:World) (ho:Of G P M mod) (hvm:Sl w vm mod) (hv:Sl w v l) (hl:l.length≤1000) :
  Calls Tryz.prog 286 #[.agg #[.int .i64 P,.int .i64 M,vm],.int .i64 x,v] w fun e w'=>∃ v',e=.returned v'∧Own w' w.heap.size v' (l.map (mulG G x))∧Kept w w':=by
 obtain ⟨a,cap,rfl,hcap,⟨hcm,_⟩,hc⟩:=hv
 unfold maxLen at hcm
 have hk0:=kept_alloc w (.cells #[.int .i64 P,.int .i64 M,vm] 24)
 have bf:=boxF_new w P M vm 24
 have hs1:(w.alloc (.cells #[.int .i64 P,.int .i64 M,vm] 24)).heap.size=w.heap.size + 1:=by simp
 have hvm1:=hvm.kept hk0
 go_enter Tryz.func286,Tryz.ntmps286
 go_wp2_with (at_make;refine wpList_make_ints rfl _ _ rfl l.length _ _ rfl rfl rfl rfl (by omega) ?_;intro w2 ho2 hk2)
 rw [← sclS_zero G x l] at ho2
 rw [hs1] at ho2
 try rw [hs1]
 obtain ⟨w1,hw1⟩:∃ w1,w1=w.alloc (.cells #[.int .i64 P,.int .i64 M,vm] 24):=⟨_,rfl⟩
 rw [← hw1] at hk0 bf hk2 hvm1 hs1
 have HS:=hid hs1
 clear hvm hw1 hs1
 go_loopw [8] (fun vi wr=>∃ k:Nat,k≤l.length∧vi=.int .i64 k∧Own wr (w.heap.size + 1) (.slice (some ⟨w.heap.size + 1,0,none⟩) l.length l.length) (sclS G x l k)∧Kept w1 wr) (fun vi _=>l.length - (intOf vi).toNat)
 case atStart=>exact ⟨0,by omega,rfl,ho2,hk2⟩
 case round =>
  obtain ⟨k,hk,rfl,hor,hkr⟩:=hrel
  clear ho2
  by_cases hlt:k < l.length
  ·obtain ⟨bl,off,rfl,hb,hcell⟩:=hc (by intro e;rw [e] at hlt;simp at hlt)
   have bfr:=bf.kept hkr
   have b0:=bfr.h0
   have b1:=bfr.h1
   have b2:=bfr.h2
   have ck:=((hk0.tr hkr).cell' hb).trans (hcell k hlt)
   obtain ⟨z,hz⟩:∃ z,z=l.getD k 0:=⟨_,rfl⟩
   rw [← hz] at ck
   have HZ:Hid ((sclS G x l k).set k (mulG G x z)=sclS G x l (k + 1)):=hid (by rw [hz];exact sclS_step hlt)
   have hlt':(k:Int) < (l.length:Int):=by omega
   have hsl:=hvm1.kept hkr
   have nb1:¬ w.heap.size + 1=bl:=by omega
   have nb2:¬ w.heap.size + 1=w.heap.size:=by omega
   have nb3:¬ bl=w.heap.size + 1:=by omega
   have nb4:¬ w.heap.size=w.heap.size + 1:=by omega
   obtain ⟨m,hm⟩:∃ m,m=mulG G x z:=⟨_,rfl⟩
   have HM:Hid (mulG G x z=m):=hid hm.symm
   rw [HM.out] at HZ
   clear hz hcell hm
   go_wp2_with (fail)
   go_region_held3 (fun w'=>w'.cell? ⟨w.heap.size,0,none⟩=some (.int .i64 P)∧w'.cell? ⟨w.heap.size,1,none⟩=some (.int .i64 M)∧w'.cell? ⟨w.heap.size,2,none⟩=some vm∧w'.cell? ⟨bl,off + k,none⟩=some (.int .i64 z)) (first | (simp [*];done) | (simp [go_sem, *];done))
    ((go_at_call 351;(with_reducible refine (rMul_field G t P M mod vm x z _ ho (by first | exact hsl | exact hsl.kept (kept_drew _) | exact hsl.kept (kept_drewN _ _))).mono ?_);rintro e w3 ⟨rfl,hk3⟩;rw [HM.out];have hk3':Kept wr w3:=(by first | exact hk3 | exact (kept_drew _).tr hk3 | exact (kept_drewN _ _).tr hk3);have bf3:=bfr.kept hk3';have d0:=bf3.h0;have d1:=bf3.h1;have d2:=bf3.h2;have d3:=(hk3'.cell' ((hk0.tr hkr).lt hb)).trans ck;have ho3:=hor.kept hk3';have cx:=ho3.cell (i:=k) (by rw [sclS_len];exact hlt);have fx:=ho3.frozen k))
   all_goals
    have ho4:=ho3.set k m
    rw [HZ.out] at ho4
    have hk4:Kept w1 (w3.setCell ⟨w.heap.size + 1,k,none⟩ (.int .i64 m)):=set_below (b:=w.heap.size + 1) (i:=k) (.int .i64 m) (hkr.tr hk3') (by rw [HS.out];exact Nat.le_refl _)
    go_wp2_with (fail)
    go_roundw
    case rel=>exact ⟨k + 1,by omega,by go_num,by first | exact ho4 | exact ho4.kept (kept_drewN _ _) | exact ho4.kept (kept_drew _),by first | exact hk4 | exact hk4.drewN _ | exact hk4.tr (kept_drew _)⟩
    case measure=>simp [intOf];omega
  ·have HE:Hid (sclS G x l k=l.map (mulG G x)):=hid (by rw [show k=l.length by omega];exact sclS_full G x l)
   rw [HE.out] at hor
   go_wp2_with (fail)
   go_ret
   exact ⟨_,rfl,hor.mono (by omega),hk0.tr hkr⟩
def axS (o:Cw.Op) (x:Int) (u l:List Int) (k:Nat):List Int:=(List.range l.length).map fun j=>if j < k then (axpy o x u l).getD j 0 else 0
theorem axS_at {o:Cw.Op} {x:Int} {u l:List Int} {k j:Nat} (h:j < l.length):(axS o x u l k).getD j 0=if j < k then (axpy o x u l).getD j 0 else 0:=by
 unfold axS;simp [List.getD,h]
theorem axS_len (o:Cw.Op) (x:Int) (u l:List Int) (k:Nat):(axS o x u l k).length=l.length:=by simp [axS]
theorem axS_zero (o:Cw.Op) (x:Int) (u l:List Int):axS o x u l 0=List.replicate l.length 0:=list_eq_of (by simp [axS]) fun i hi=>by
 rw [axS_len] at hi
 rw [axS_at hi,if_neg (by omega)];simp [List.getD,hi]
theorem axpy_at {o:Cw.Op} {x:Int} {u l:List Int} {k:Nat} (h:k < l.length):(axpy o x u l).getD k 0=if u.getD k 0=0 then l.getD k 0 else o.add (l.getD k 0) (o.mul x (u.getD k 0)):=by
 unfold axpy;simp [List.getD,h]
theorem axS_step {o:Cw.Op} {x:Int} {u l:List Int} {k:Nat} (h:k < l.length):(axS o x u l k).set k ((axpy o x u l).getD k 0)=axS o x u l (k + 1):=list_eq_of (by simp [axS]) fun i hi=>by
 rw [List.length_set,axS_len] at hi
 rw [axS_at hi]
 by_cases e:i=k
 ·subst e;rw [if_pos (by omega)];simp [List.getD,axS_len,hi]
 ·rw [List.getD,List.getElem?_set_ne (Ne.symm e),← List.getD,axS_at hi]
  by_cases g:i < k
  ·rw [if_pos g,if_pos (by omega)]
  ·rw [if_neg g,if_neg (by omega)]
theorem axS_full (o:Cw.Op) (x:Int) (u l:List Int):axS o x u l l.length=axpy o x u l:=list_eq_of (by simp [axS,axpy]) fun i hi=>by
 rw [axS_len] at hi
 rw [axS_at hi,if_pos hi]
theorem set_set_same (l:List Int) (k:Nat) (a b:Int):(l.set k a).set k b=l.set k b:=by simp
set_option maxRecDepth 100000 in
set_option maxHeartbeats 2000000 in
theorem rAddTo_any (G:GFd) (t:Tabs G) (P M:Int) (mod:List Int) (vm:Value) (x:Int) (v vu:Value) (l u:List Int) (w:World) (ho:Of G P M mod) (hvm:Sl w vm mod) (hv:Sl w v l) (hu:Sl w vu u) (hul:u.length=l.length) (hl:l.length≤1000) :
  Calls Tryz.prog 288 #[.agg #[.int .i64 P,.int .i64 M,vm],v,.int .i64 x,vu] w fun e w'=>∃ v',e=.returned v'∧Own w' w.heap.size v' (axpy (opG G) x u l)∧Kept w w':=by
 obtain ⟨a,cap,rfl,hcap,⟨hcm,_⟩,hc⟩:=hv
 obtain ⟨au,capu,rfl,hcapu,⟨hcmu,_⟩,hcu⟩:=hu
 unfold maxLen at hcm hcmu
 have hu0:∀ k,k < l.length→u ≠ []:=fun k hk e=>by rw [e] at hul;simp at hul;rw [← hul] at hk;simp at hk
 rw [hul] at hcapu hcu
 rw [hul]
 have hk0:=kept_alloc w (.cells #[.int .i64 P,.int .i64 M,vm] 24)
 have bf:=boxF_new w P M vm 24
 have hs1:(w.alloc (.cells #[.int .i64 P,.int .i64 M,vm] 24)).heap.size=w.heap.size + 1:=by simp
 have hvm1:=hvm.kept hk0
 have HUL:=hid hul
 clear hul
 go_enter Tryz.func288,Tryz.ntmps288
 go_wp2_with (at_make;refine wpList_make_ints rfl _ _ rfl l.length _ _ rfl rfl rfl rfl (by omega) ?_;intro w2 ho2 hk2)
 rw [← axS_zero (opG G) x u l] at ho2
 rw [hs1] at ho2
 try rw [hs1]
 obtain ⟨w1,hw1⟩:∃ w1,w1=w.alloc (.cells #[.int .i64 P,.int .i64 M,vm] 24):=⟨_,rfl⟩
 rw [← hw1] at hk0 bf hk2 hvm1 hs1
 have HS:=hid hs1
 clear hvm hw1 hs1
 go_loopw [10] (fun vi wr=>∃ k:Nat,k≤l.length∧vi=.int .i64 k∧Own wr (w.heap.size + 1) (.slice (some ⟨w.heap.size + 1,0,none⟩) l.length l.length) (axS (opG G) x u l k)∧Kept w1 wr) (fun vi _=>l.length - (intOf vi).toNat)
 case atStart=>exact ⟨0,by omega,rfl,ho2,hk2⟩
 case round =>
  obtain ⟨k,hk,rfl,hor,hkr⟩:=hrel
  clear ho2
  by_cases hlt:k < l.length
  ·obtain ⟨bl,off,rfl,hb,hcell⟩:=hc (by intro e;rw [e] at hlt;simp at hlt)
   obtain ⟨bu,offu,rfl,hbu,hcellu⟩:=hcu (hu0 k hlt)
   have hbr:=(hk0.tr hkr).lt hb
   have hbur:=(hk0.tr hkr).lt hbu
   have ck:=((hk0.tr hkr).cell' hb).trans (hcell k hlt)
   have cu:=((hk0.tr hkr).cell' hbu).trans (hcellu k hlt)
   have hstep:=axS_step (o:=opG G) (x:=x) (u:=u) hlt
   rw [axpy_at hlt] at hstep
   obtain ⟨z,hz⟩:∃ z,z=l.getD k 0:=⟨_,rfl⟩
   obtain ⟨y,hy⟩:∃ y,y=u.getD k 0:=⟨_,rfl⟩
   rw [← hz] at ck hstep
   rw [← hy] at cu hstep
   have hlt':(k:Int) < (l.length:Int):=by omega
   have hsl:=hvm1.kept hkr
   have nb1:¬ w.heap.size + 1=bl:=by omega
   have nb2:¬ w.heap.size + 1=bu:=by omega
   have nb3:¬ bl=w.heap.size + 1:=by omega
   have nb4:¬ bu=w.heap.size + 1:=by omega
   have nb5:¬ w.heap.size=w.heap.size + 1:=by omega
   have cx:=hor.cell (i:=k) (by rw [axS_len];exact hlt)
   have fx:=hor.frozen k
   clear hcell hcellu hz hy
   by_cases hy0:y=0
   ·subst hy0
    rw [if_pos rfl] at hstep
    have ho4:=hor.set k z
    rw [hstep] at ho4
    have hk4:Kept w1 (wr.setCell ⟨w.heap.size + 1,k,none⟩ (.int .i64 z)):=set_below (b:=w.heap.size + 1) (i:=k) (.int .i64 z) hkr (by rw [HS.out];exact Nat.le_refl _)
    have cu4:(wr.setCell ⟨w.heap.size + 1,k,none⟩ (.int .i64 z)).cell? ⟨bu,offu + k,none⟩=some (.int .i64 0):=by rw [World.cell?_setCell_far _ _ _ _ nb2];exact cu
    clear hor hstep
    go_wp2_with (fail)
    go_roundw
    case rel=>exact ⟨k + 1,by omega,by go_num,by first | exact ho4 | exact ho4.kept (kept_drewN _ _) | exact ho4.kept (kept_drew _),by first | exact hk4 | exact hk4.drewN _ | exact hk4.tr (kept_drew _)⟩
    case measure=>simp [intOf];omega
   ·rw [if_neg hy0] at hstep
    have ty:(y != 0)=true:=by simpa using hy0
    obtain ⟨m,hm⟩:∃ m,m=mulG G x y:=⟨_,rfl⟩
    have HM:Hid (mulG G x y=m):=hid hm.symm
    obtain ⟨s,hs⟩:∃ s,s=addG G z m:=⟨_,rfl⟩
    have HA:Hid (addG G z m=s):=hid hs.symm
    have HST:Hid ((axS (opG G) x u l k).set k s=axS (opG G) x u l (k + 1)):=hid (by rw [hs,hm];exact hstep)
    have ho4:=hor.set k z
    have hk4:Kept w1 (wr.setCell ⟨w.heap.size + 1,k,none⟩ (.int .i64 z)):=set_below (b:=w.heap.size + 1) (i:=k) (.int .i64 z) hkr (by rw [HS.out];exact Nat.le_refl _)
    have cu4:(wr.setCell ⟨w.heap.size + 1,k,none⟩ (.int .i64 z)).cell? ⟨bu,offu + k,none⟩=some (.int .i64 y):=by rw [World.cell?_setCell_far _ _ _ _ nb2];exact cu
    have cl4:(wr.setCell ⟨w.heap.size + 1,k,none⟩ (.int .i64 z)).cell? ⟨bl,off + k,none⟩=some (.int .i64 z):=by rw [World.cell?_setCell_far _ _ _ _ nb1];exact ck
    clear hor hstep hy0 hm hs
    go_wp2_with (fail)
    obtain ⟨wz,hwz⟩:∃ x,x=wr.setCell ⟨w.heap.size + 1,k,none⟩ (.int .i64 z):=⟨_,rfl⟩
    rw [← hwz] at ho4 hk4 cu4 cl4 ⊢
    clear hwz
    have bfr:=bf.kept hk4
    have b0:=bfr.h0
    have b1:=bfr.h1
    have b2:=bfr.h2
    have hslz:=hvm1.kept hk4
    have lb:=hk4.lt (hk0.lt hb)
    have lu:=hk4.lt (hk0.lt hbu)
    go_region_held3 (fun w'=>w'.cell? ⟨w.heap.size,0,none⟩=some (.int .i64 P)∧w'.cell? ⟨w.heap.size,1,none⟩=some (.int .i64 M)∧w'.cell? ⟨w.heap.size,2,none⟩=some vm∧w'.cell? ⟨bl,off + k,none⟩=some (.int .i64 z)∧w'.cell? ⟨bu,offu + k,none⟩=some (.int .i64 y)) (first | (simp [*];done) | (simp [go_sem, *];done))
     ((first
      | (go_at_call 351;(with_reducible refine (rMul_field G t P M mod vm x y _ ho (by first | exact hslz | exact hslz.kept (kept_drew _) | exact hslz.kept (kept_drewN _ _))).mono ?_);rintro e w3 ⟨rfl,hk3⟩;rw [HM.out];have hk3':Kept wz w3:=(by first | exact hk3 | exact (kept_drew _).tr hk3 | exact (kept_drewN _ _).tr hk3);have bf3:=bfr.kept hk3';have d0:=bf3.h0;have d1:=bf3.h1;have d2:=bf3.h2;have d3:=(hk3'.cell' lb).trans cl4;have d4:=(hk3'.cell' lu).trans cu4)
      | (go_at_call 352;(with_reducible refine (rAdd_field G t P M mod vm z m _ ho).mono ?_);rintro e w4 ⟨rfl,hk5⟩;rw [HA.out];have hk5':Kept wz w4:=(by first | exact hk3'.tr hk5 | exact (hk3'.tr (kept_drew _)).tr hk5 | exact (hk3'.tr (kept_drewN _ _)).tr hk5);have bf4:=bfr.kept hk5';have e0:=bf4.h0;have e1:=bf4.h1;have e2:=bf4.h2;have e3:=(hk5'.cell' lb).trans cl4;have e4:=(hk5'.cell' lu).trans cu4;have ho5:=ho4.kept hk5';have cx5:=ho5.cell (i:=k) (by rw [List.length_set,axS_len];exact hlt);have fx5:=ho5.frozen k)))
    all_goals
     have ho6:=ho5.set k s
     rw [set_set_same,HST.out] at ho6
     have hk6:Kept w1 (w4.setCell ⟨w.heap.size + 1,k,none⟩ (.int .i64 s)):=set_below (b:=w.heap.size + 1) (i:=k) (.int .i64 s) (hk4.tr hk5') (by rw [HS.out];exact Nat.le_refl _)
     go_wp2_with (fail)
     go_roundw
     case rel=>exact ⟨k + 1,by omega,by go_num,by first | exact ho6 | exact ho6.kept (kept_drewN _ _) | exact ho6.kept (kept_drew _),by first | exact hk6 | exact hk6.drewN _ | exact hk6.tr (kept_drew _)⟩
     case measure=>simp [intOf];omega
  ·have HE:Hid (axS (opG G) x u l k=axpy (opG G) x u l):=hid (by rw [show k=l.length by omega];exact axS_full (opG G) x u l)
   rw [HE.out] at hor
   go_wp2_with (fail)
   go_ret
   exact ⟨_,rfl,hor.mono (by omega),hk0.tr hkr⟩
end Go.Proofs.YtoilbeadokallaaGreatDoor
namespace Go.Proofs.YtoilbeadokallaaGreatDoor
open Go.RowKit Cw Cw.Gj
theorem Mx.same {w:World} {B g n cap:Nat} {A:List (List Int)} {rv:Nat→Value} (h:Mx w B (.slice (some ⟨g,0,none⟩) n cap) A rv) (r:Nat) :
  Mx (w.setCell ⟨g,r,none⟩ (rv r)) B (.slice (some ⟨g,0,none⟩) n cap) A rv:=by
 have hn:n=A.length:=by
  rcases h.form with ⟨e,_⟩ | ⟨_,_,e,_⟩
  ·cases e
  ·cases e;rfl
 subst hn
 have hg:w.grownBy (w.setCell ⟨g,r,none⟩ (rv r)) (some g):=grownBy_setCell w g r (rv r)
 have hnx:∀ x xs,Own w B x xs→x.ownBlock=none ∨ x.ownBlock ≠ some g:=fun x xs ho=>by
  cases e:x.ownBlock with
  | none=>exact .inl rfl
  | some y=>exact .inr fun e2=>row_ne h.out ho (by rw [e];exact e2) rfl
 refine ⟨?_,fun i hi=>(h.row i hi).grownBy hg (hnx _ _ (h.row i hi)),h.dis⟩
 have h1:=(World.ownsRow.stored h.out r (rv r)).1
 have e:((List.range A.length).map rv).set r (rv r)=(List.range A.length).map rv:=by
  refine List.ext_getElem (by simp) fun j h1 h2=>?_
  rw [List.getElem_set]
  by_cases e1:r=j
  ·rw [if_pos e1];simp [e1]
  ·rw [if_neg e1]
 rw [e] at h1
 exact h1
structure Er (w1 wr:World) (v:Value) (A:List (List Int)) (rv:Nat→Value) (vp:Value) (P:List Nat):Prop where
 k:Kept w1 wr
 m:Mx wr w1.heap.size v A rv
 p:Own wr w1.heap.size vp (ints P)
 s:∀ y,vp.ownBlock=some y→¬ Has v rv A.length y
section
variable {w1 wr wx:World} {g n cap:Nat} {v vp:Value} {A:List (List Int)} {rv:Nat→Value} {P:List Nat}
theorem Er.kept (e:Er w1 wr v A rv vp P) (k:Kept wr wx):Er w1 wx v A rv vp P:=⟨e.k.tr k,e.m.kept k,e.p.kept k,e.s⟩
theorem Er.pne (e:Er w1 wr (.slice (some ⟨g,0,none⟩) n cap) A rv vp P):vp.ownBlock=none ∨ vp.ownBlock ≠ some g:=by
 cases h:vp.ownBlock with
 | none=>exact .inl rfl
 | some y=>exact .inr fun q=>e.s y h (.inl q.symm)
theorem Er.gB (e:Er w1 wr (.slice (some ⟨g,0,none⟩) n cap) A rv vp P):w1.heap.size≤g:=(e.m.has_lt (g:=g) (.inl rfl)).1
theorem Er.put (e:Er w1 wr (.slice (some ⟨g,0,none⟩) n cap) A rv vp P) (k:Kept wr wx) {i:Nat} {u:Value} {l:List Int} (hi:i < A.length) (hu:Own wx wr.heap.size u l) :
  Er w1 (wx.setCell ⟨g,i,none⟩ u) (.slice (some ⟨g,0,none⟩) n cap) (A.set i l) (fun j=>if j=i then u else rv j) vp P:=by
 have ex:=e.kept k
 refine ⟨set_below _ ex.k e.gB,ex.m.put hi (hu.mono e.k.size) (fun x hx j hj e2=>?_),ex.p.grownBy (grownBy_setCell wx g i u) ex.pne,fun y hy q=>?_⟩
 ·have h1:=own_blk hu hx
  have h2:=own_blk (e.m.row j hj) e2
  omega
 ·rw [List.length_set] at q
  rcases has_put q with q | q
  ·exact e.s y hy q
  ·have h1:=own_blk hu q
   have h2:=own_blk e.p hy
   omega
theorem Er.same (e:Er w1 wr (.slice (some ⟨g,0,none⟩) n cap) A rv vp P) (r:Nat):Er w1 (wr.setCell ⟨g,r,none⟩ (rv r)) (.slice (some ⟨g,0,none⟩) n cap) A rv vp P :=
 ⟨set_below _ e.k e.gB,e.m.same r,e.p.grownBy (grownBy_setCell wr g r (rv r)) e.pne,e.s⟩
theorem Er.swap (e:Er w1 wr (.slice (some ⟨g,0,none⟩) n cap) A rv vp P) {r p:Nat} (hr:r < A.length) (hp:p < A.length) (hne:r ≠ p) :
  Er w1 ((wr.setCell ⟨g,r,none⟩ (rv p)).setCell ⟨g,p,none⟩ (rv r)) (.slice (some ⟨g,0,none⟩) n cap) (swpL A r p) (fun i=>rv (if i=r then p else if i=p then r else i)) vp P :=
 ⟨set_below _ (set_below _ e.k e.gB) e.gB,e.m.swap hr hp hne,(e.p.grownBy (grownBy_setCell wr g r (rv p)) e.pne).grownBy (grownBy_setCell _ g p (rv r)) e.pne,fun y hy q=>e.s y hy (by rw [length_swpL] at q;exact has_swap hr hp q)⟩
theorem Er.app (e:Er w1 wr v A rv vp P) {g' m cp:Nat} {Q:List Nat} (hg:wr.grownBy wx vp.ownBlock) (ho:Own wx w1.heap.size (.slice (some ⟨g',0,none⟩) m cp) (ints Q)) (hd:vp.ownBlock=some g' ∨ wr.heap.size≤g'):Er w1 wx v A rv (.slice (some ⟨g',0,none⟩) m cp) Q:=by
 obtain ⟨x,hx,hx1,hx3⟩:∃ x,wr.grownBy wx (some x)∧w1.heap.size≤x∧¬ Has v rv A.length x:=by
  cases q:vp.ownBlock with
  | none=>rw [q] at hg;exact ⟨wr.heap.size,⟨hg.os,hg.tape,hg.output,hg.size,fun i hi _=>hg.block i hi (by simp)⟩,e.k.size,fun h=>by have:=(e.m.has_lt h).2;omega⟩
  | some g=>rw [q] at hg;exact ⟨g,hg,(own_blk e.p q).1,e.s g q⟩
 refine ⟨gb_below e.k hx hx1 e.k.size,e.m.grown hx hx3,ho,fun y hy q=>?_⟩
 have e1:g'=y:=by simpa [Value.ownBlock] using hy
 subst e1
 rcases hd with d | d
 ·exact e.s _ d q
 ·have:=(e.m.has_lt q).2;omega
end
theorem inv_one' {G:GFd} (t:Tabs G) {x:Int} (hx:0≤x∧x < G.q) (hx0:inn G.q x ≠ 0):invG G x=1 ↔ x=1:=by
 obtain ⟨h1,h2,h3⟩:=Gj.inv_bd t x hx0
 constructor
 ·intro e
  rw [e,t.e_one,Rg.mul_comm,Rg.mul_one] at h3
  exact e_is1 t hx h3
 ·intro e
  rw [e,t.e_one,Rg.mul_one] at h3
  rw [e]
  exact e_is1 t (by rw [e] at h1 h2;exact ⟨h1,h2⟩) h3
end Go.Proofs.YtoilbeadokallaaGreatDoor
namespace Go.Proofs.YtoilbeadokallaaGreatDoor
open Go.RowKit Cw Cw.Gj
def RElim (o:Cw.Op) (A0:List (List Int)) (cols:Nat) (w:World) (e:Ending) (w':World):Prop :=
 ∃ v' vp rv,e=.returned (.tuple #[v',vp])∧Mx w' w.heap.size v' (gj o cols 0 A0 []).1 rv∧Own w' w.heap.size vp (ints (gj o cols 0 A0 []).2)∧Kept w w'
theorem gj_no {o:Cw.Op} {m c:Nat} {A:List (List Int)} {P:List Nat} (h:¬ fnd A c P.length < A.length):gj o (m + 1) c A P=gj o m (c + 1) A P:=by rw [gj,if_neg h]
theorem gj_yes {o:Cw.Op} {m c:Nat} {A:List (List Int)} {P:List Nat} (h:fnd A c P.length < A.length):gj o (m + 1) c A P=gj o m (c + 1) (pivL o A P.length (fnd A c P.length) c) (P ++ [c]):=by rw [gj,if_pos h]
theorem gj_full (o:Cw.Op) (m c:Nat) {A:List (List Int)} {P:List Nat} (h:A.length≤P.length):gj o m c A P=(A,P):=by
 have h1:=gjP_gj o m c A [] P
 rw [gjP_full o m c h] at h1
 exact Prod.ext h1.1.symm h1.2.symm
set_option maxRecDepth 100000 in
set_option maxHeartbeats 4000000 in
theorem rElim_any (G:GFd) (t:Tabs G) (P0 M0:Int) (mod:List Int) (vm:Value) (cols:Nat) (v:Value) (A0:List (List Int)) (w:World) (ho:Of G P0 M0 mod) (hvm:Sl w vm mod) (hv:Rd w v A0) (hw:WF G.q A0 cols) (hc2:cols≤256) (hn1:A0.length≤256) (hn0:A0 ≠ []) :
  Calls Tryz.prog 163 #[.agg #[.int .i64 P0,.int .i64 M0,vm],v,.int .i64 cols] w (RElim (opG G) A0 cols w):=by
 have hk0:=kept_alloc w (.cells #[.int .i64 P0,.int .i64 M0,vm] 24)
 have bf:=boxF_new w P0 M0 vm 24
 have hs1:(w.alloc (.cells #[.int .i64 P0,.int .i64 M0,vm] 24)).heap.size=w.heap.size + 1:=by simp
 obtain ⟨w1,hw1⟩:∃ w1,w1=w.alloc (.cells #[.int .i64 P0,.int .i64 M0,vm] 24):=⟨_,rfl⟩
 rw [← hw1] at hk0 bf hs1
 have hvm1:=hvm.kept hk0
 have hv1:=hv.kept hk0
 have HL:∀ i,i < A0.length→(Gj.row A0 i).length≤1000:=fun i hi=>by rw [hw.wf i hi];omega
 go_enter Tryz.func163,Tryz.ntmps163
 go_wp2_with (fail)
 rw [← hw1]
 clear hw1 hvm hv
 (with_reducible refine (rCopy_any v A0 w1 hv1 hn1 HL).mono ?_)
 rintro e w2 ⟨v',rv0,rfl,hm2,hk2⟩
 obtain ⟨g,cap,rfl,hgB,hg2,hcap,hcm⟩:=hm2.get hn0
 unfold maxLen at hcm
 have hri:=ri_start hw
 have hgj:Hid (gj (opG G) (cols - 0) 0 A0 []=gj (opG G) cols 0 A0 []):=hid rfl
 have her:Er w1 w2 (.slice (some ⟨g,0,none⟩) A0.length cap) A0 rv0 (.slice none 0 0) []:=⟨hk2,hm2,own_nil _ _,fun y e=>by cases e⟩
 have HS:=hid hs1
 clear hs1 hm2 hk2 HL hv1
 go_wp2_with (fail)
 go_loopw [9,10,11] (fun vp vr vc wr=>∃ (c:Nat) (A:List (List Int)) (P:List Nat) (pa:Option Addr) (pc:Nat) (rv:Nat→Value),c≤cols∧vp=.slice pa P.length pc∧vr=.int .i64 P.length∧vc=.int .i64 c∧Er w1 wr (.slice (some ⟨g,0,none⟩) A0.length cap) A rv (.slice pa P.length pc) P∧RI G.q A cols c P∧Hid (A.length=A0.length)∧Hid (gj (opG G) (cols - c) c A P=gj (opG G) cols 0 A0 [])) (fun _ _ vi _=>cols - (intOf vi).toNat)
 case atStart=>exact ⟨0,A0,[],none,0,rv0,by omega,rfl,rfl,rfl,her,hri,hid rfl,hgj⟩
 case round =>
  obtain ⟨c,A,P,pa,pc,rv,hcc,rfl,rfl,rfl,he,hr,hA,hgP⟩:=hrel
  clear her hri hgj
  have hPn:=hr.lt
  by_cases hlt:c < cols
  case neg =>
   have hce:c=cols:=by omega
   subst hce
   have HG:=hid hgP
   clear hgP
   go_wp2_with (fail)
   go_ret2
   refine ⟨_,_,rv,rfl, ?_, ?_,hk0.tr he.k⟩
   ·rw [← HG.out.out,Nat.sub_self];exact he.m.mono hk0.size
   ·rw [← HG.out.out,Nat.sub_self];exact he.p.mono hk0.size
  have hlt':(c:Int) < (cols:Int):=by omega
  by_cases hfull:P.length < A0.length
  case neg =>
   have hf':¬ (P.length:Int) < (A0.length:Int):=by omega
   have HG:Hid (gj (opG G) cols 0 A0 []=(A,P)):=hid (by rw [← hgP.out];exact gj_full _ _ _ (by have:=hA.out;omega))
   go_wp2_with (fail)
   go_ret2
   refine ⟨_,_,rv,rfl, ?_, ?_,hk0.tr he.k⟩
   ·rw [HG.out];exact he.m.mono hk0.size
   ·rw [HG.out];exact he.p.mono hk0.size
  have hf':(P.length:Int) < (A0.length:Int):=by omega
  go_upto_block 2 with (fail)
  have hAl:=hA.out
  go_cut [12] (fun vk wx=>∃ k:Nat,vk=.int .i64 k∧wr=wx∧P.length≤k∧k≤A.length∧Hid (∀ i,P.length≤i→i < k→en A i c=0)∧Hid (k < A.length→en A k c ≠ 0))
  case first =>
   go_wp2_with (fail)
   go_loop [12] (fun vi=>∃ k:Nat,vi=.int .i64 k∧P.length≤k∧k≤A.length∧Hid (∀ i,P.length≤i→i < k→en A i c=0)) (fun vi=>A.length - (intOf vi).toNat)
   case atStart=>exact ⟨P.length,rfl,Nat.le_refl _,hPn,hid fun i h1 h2=>by omega⟩
   case round =>
    obtain ⟨k,rfl,hk1,hk2,hlow⟩:=hrel
    by_cases hk:k < A.length
    ·obtain ⟨bk,ck,e1,_⟩:=he.m.rowGet hk (by intro e;have:=hr.wf k hk;rw [e] at this;simp at this;omega)
     have x1:=he.m.cell hk
     have x2:=he.m.row k hk
     rw [hr.wf k hk] at e1
     rw [e1] at x1 x2
     have x3:=x2.cell (i:=c) (by rw [hr.wf k hk];exact hlt)
     obtain ⟨z,hz⟩:∃ z,z=(Gj.row A k).getD c 0:=⟨_,rfl⟩
     rw [← hz] at x3
     have HZ:Hid (en A k c=z):=hid hz.symm
     have hkk:(k:Int) < (A0.length:Int):=by omega
     clear hz x2 e1
     by_cases hz0:z=0
     ·have tz:(z == 0)=true:=by simpa using hz0
      have HZ0:=hid hz0
      clear hz0
      go_wp2_with (fail)
      go_round
      case rel =>
       refine ⟨k + 1,by go_num,by omega,by omega,hid fun i h1 h2=>?_⟩
       by_cases e:i=k
       ·rw [e,HZ.out];exact HZ0.out
       ·exact hlow.out i h1 (by omega)
      case measure=>simp [intOf];omega
     ·have tz:(z == 0)=false:=by simpa using hz0
      have HZ0:=hid hz0
      clear hz0
      go_wp2_with (fail)
      go_meet
      case rel=>exact ⟨k,rfl,rfl,hk1,hk2,hlow,hid fun _=>by rw [HZ.out];exact HZ0.out⟩
    ·have hkk:¬ (k:Int) < (A0.length:Int):=by omega
     go_wp2_with (fail)
     go_meet
     case rel=>exact ⟨k,rfl,rfl,hk1,hk2,hlow,hid fun h=>absurd h hk⟩
  case rest =>
   obtain ⟨k,rfl,rfl,hk1,hk2,hlow,hke⟩:=hcut
   have hfe:=fnd_eq hk1 hk2 hlow.out hke.out hPn
   by_cases hkn:k=A.length
   ·have hno:¬ fnd A c P.length < A.length:=fun q=>by have:=hfe.1.1 q;omega
    have HR:=hid (hr.none hno)
    have HG:Hid (gj (opG G) (cols - (c + 1)) (c + 1) A P=gj (opG G) cols 0 A0 []):=hid (by
     rw [← hgP.out,show cols - c=cols - (c + 1) + 1 by omega,gj_no hno])
    have tk:((k:Int) == (A0.length:Int))=true:=by simp;omega
    clear hfe hno hkn
    go_wp2_with (fail)
    go_roundw
    case rel=>exact ⟨c + 1,A,P,pa,pc,rv,by omega,rfl,rfl,by go_num,he,HR.out,hA,HG⟩
    case measure=>simp [intOf];omega
   have hkA:k < A.length:=by omega
   have HPI:=hid (hfe.2 hkA)
   have tk:((k:Int) == (A0.length:Int))=false:=by simp;omega
   have hPA:P.length < A.length:=by omega
   have hkk:(k:Int) < (A0.length:Int):=by omega
   clear hfe hkn
   go_upto_region 11 with (fail)
   go_cut [] (fun wx=>∃ s1:Nat→Value,Er w1 wx (.slice (some ⟨g,0,none⟩) A0.length cap) (swpL A P.length k) s1 (.slice pa P.length pc) P)
   case first =>
    obtain ⟨a1,n1,c1,e1⟩:=he.m.shape hPA
    have x1:=he.m.cell hPA
    have f1:=he.m.frozen P.length
    by_cases hkr:P.length=k
    ·subst hkr
     have hs:=((he.same P.length).same P.length).kept (kept_drew _)
     rw [e1] at hs x1
     have HE:=hid hs
     clear hs e1
     go_region
     all_goals
      go_wp2_with (fail)
      go_meet
      case rel=>exact ⟨rv,by rw [swpL_self];exact HE.out⟩
    ·obtain ⟨a2,n2,c2,e2⟩:=he.m.shape hkA
     have x2:=he.m.cell hkA
     have f2:=he.m.frozen k
     have hs:=(he.swap hPA hkA hkr).kept (kept_drew _)
     rw [e1,e2] at hs
     rw [e1] at x1
     rw [e2] at x2
     have HE:=hid hs
     have hkr':¬ k=P.length:=fun e=>hkr e.symm
     clear hs e1 e2
     go_region
     all_goals
      go_wp2_with (fail)
      go_meet
      case rel=>exact ⟨_,HE.out⟩
   case rest =>
    obtain ⟨s1,es⟩:=hcut
    obtain ⟨wy,hwy⟩:∃ x,x=wc:=⟨_,rfl⟩
    rw [← hwy] at es ⊢
    clear hwy he
    obtain ⟨S,hS⟩:∃ S,S=swpL A P.length k:=⟨_,rfl⟩
    have hwS:WF G.q S cols:=by rw [hS];exact wf_swp hr.w hPA hkA
    have hSl:S.length=A.length:=by rw [hS];exact length_swpL _ _ _
    have hxk:en S P.length c=en A k c:=by rw [hS,en_swpL hPA,if_pos rfl]
    rw [← hS] at es
    have hPS:P.length < S.length:=by omega
    have hrow:(Gj.row S P.length).length=cols:=hwS.wf _ hPS
    obtain ⟨br,cr,e1,_⟩:=es.m.rowGet hPS (by intro e;rw [e] at hrow;simp at hrow;omega)
    have x1:=es.m.cell hPS
    have f1:=es.m.frozen P.length
    have x2:=es.m.row _ hPS
    rw [hrow] at e1
    rw [e1] at x1 x2
    have x3:=x2.cell (i:=c) (by rw [hrow];exact hlt)
    have hxb:=hwS.bd P.length c hPS hlt
    obtain ⟨x,hx⟩:∃ x,x=en S P.length c:=⟨_,rfl⟩
    have hx3:wy.cell? ⟨br,c,none⟩=some (.int .i64 x):=by rw [hx];exact x3
    rw [← hx] at hxb hxk
    have hx0:inn G.q x ≠ 0:=by rw [inn_yes hxb,hxk];exact hke.out hkA
    have hi1:=inv_one' t hxb hx0
    have HX:=hid hx
    have HS':=hid hS
    have HSl:=hid hSl
    have HI1:=hid hi1
    have E1:=hid e1
    clear hi1 hx hxk hSl hS x3 e1 hrow
    go_upto_if 69 with (fail)
    go_cut [] (fun wx=>∃ s2:Nat→Value,Er w1 wx (.slice (some ⟨g,0,none⟩) A0.length cap) (scR (opG G) S S P.length c) s2 (.slice pa P.length pc) P)
    case first =>
     by_cases hx1:x=1
     ·have tx:(x != 1)=false:=by simpa using hx1
      have HE:Hid (scR (opG G) S S P.length c=S):=hid (scR_one (by rw [← HX.out];exact HI1.out.2 hx1))
      clear hx1
      go_wp2_with (fail)
      go_meet
      case rel=>exact ⟨s1,by rw [HE.out];exact es⟩
     ·have tx:(x != 1)=true:=by simpa using hx1
      have HE:Hid (S.set P.length ((Gj.row S P.length).map (mulG G (invG G x)))=scR (opG G) S S P.length c):=hid (by
       rw [scR_ne (by rw [← HX.out];exact fun e=>hx1 (HI1.out.1 e)),← HX.out];rfl)
      have bfy:=bf.kept es.k
      have b0:=bfy.h0
      have b1:=bfy.h1
      have b2:=bfy.h2
      have hvmy:=hvm1.kept es.k
      have hrs:=x2.sl
      have hln:(Gj.row S P.length).length≤1000:=by rw [hwS.wf _ hPS];omega
      have lbr:=(own_blk x2 rfl).2
      have lg:=(es.m.has_lt (g:=g) (.inl rfl)).2
      have ngb:¬ g=br:=fun e=>row_ne es.m.out x2 rfl (by rw [e];rfl)
      have nbg:¬ br=g:=fun e=>ngb e.symm
      have ngw:¬ g=w.heap.size:=by have q:=es.gB;have:=HS.out;omega
      have nwg:¬ w.heap.size=g:=fun e=>ngw e.symm
      clear hx1
      go_wp2_with (fail)
      refine wp_region_noPanic ?_
      refine wp_region_held_drew (S:=fun w'=>w'.cell? ⟨w.heap.size,0,none⟩=some (.int .i64 P0)∧w'.cell? ⟨w.heap.size,1,none⟩=some (.int .i64 M0)∧w'.cell? ⟨w.heap.size,2,none⟩=some vm∧w'.cell? ⟨br,c,none⟩=some (.int .i64 x)) (by kernel_rfl) ?_ (fun hHeld=>?_)
      ·first | (simp [*];done) | (simp [go_sem, *];done) | (go_keep;done)
      refine wpAnyH_take (i:=0) (oi:=?oza1) (v:=?vza1) ?hiza1 (by kernel_rfl) (by kernel_rfl) (by kernel_rfl) (fun _ _ _ h=>h) (Or.inl ⟨?hwza1, ?hyza1⟩) (by assumption) ?restza1
      case hiza1=>(simp only [List.getElem?_toArray,List.getElem?_cons_zero];rfl)
      case hwza1=>rfl
      case hyza1=>(intro w hSw;(try dsimp only at hSw);go_simp;with_reducible rfl)
      try simp only [Act.put,List.setIfInBounds_toArray,List.set_cons_zero,List.set_cons_succ]
      refine wpAnyH_take (i:=1) (oi:=?oza2) (v:=?vza2) ?hiza2 (by kernel_rfl) (by kernel_rfl) (by kernel_rfl) (fun _ _ _ h=>h) (Or.inl ⟨?hwza2, ?hyza2⟩) (by assumption) ?restza2
      case hiza2=>(simp only [List.getElem?_toArray,List.getElem?_cons_succ,List.getElem?_cons_zero];rfl)
      case hwza2=>rfl
      case hyza2=>(intro w hSw;(try dsimp only at hSw);go_simp;with_reducible rfl)
      try simp only [Act.put,List.setIfInBounds_toArray,List.set_cons_zero,List.set_cons_succ]
      refine wpAnyH_take (i:=2) (oi:=?oza3) (v:=?vza3) ?hiza3 (by kernel_rfl) (by kernel_rfl) (by kernel_rfl) (fun _ _ _ h=>h) (Or.inl ⟨?hwza3, ?hyza3⟩) (by assumption) ?restza3
      case hiza3=>(simp only [List.getElem?_toArray,List.getElem?_cons_succ,List.getElem?_cons_zero];rfl)
      case hwza3=>rfl
      case hyza3=>(intro w hSw;(try dsimp only at hSw);go_simp;with_reducible rfl)
      try simp only [Act.put,List.setIfInBounds_toArray,List.set_cons_zero,List.set_cons_succ]
      refine wpAnyH_take (i:=3) (oi:=?oza4) (v:=?vza4) ?hiza4 (by kernel_rfl) (by kernel_rfl) (by kernel_rfl) (fun _ _ _ h=>h) (Or.inl ⟨?hwza4, ?hyza4⟩) (by assumption) ?restza4
      case hiza4=>(simp only [List.getElem?_toArray,List.getElem?_cons_succ,List.getElem?_cons_zero];rfl)
      case hwza4=>rfl
      case hyza4=>(intro w hSw;(try dsimp only at hSw);go_simp;with_reducible rfl)
      try simp only [Act.put,List.setIfInBounds_toArray,List.set_cons_zero,List.set_cons_succ]
      refine wpAnyH_take (i:=4) (oi:=?oza5) (v:=?vza5) ?hiza5 (by kernel_rfl) (by kernel_rfl) (by kernel_rfl) (fun _ _ _ h=>h) (Or.inl ⟨?hwza5, ?hyza5⟩) (by assumption) ?restza5
      case hiza5=>(simp only [List.getElem?_toArray,List.getElem?_cons_succ,List.getElem?_cons_zero];rfl)
      case hwza5=>rfl
      case hyza5=>(intro w hSw;(try dsimp only at hSw);go_simp;with_reducible rfl)
      try simp only [Act.put,List.setIfInBounds_toArray,List.set_cons_zero,List.set_cons_succ]
      refine wpAnyH_take (i:=5) (oi:=?oza6) (v:=?vza6) ?hiza6 (by kernel_rfl) (by kernel_rfl) (by kernel_rfl) (fun _ _ _ h=>h) (Or.inl ⟨?hwza6, ?hyza6⟩) (by assumption) ?restza6
      case hiza6=>(simp only [List.getElem?_toArray,List.getElem?_cons_succ,List.getElem?_cons_zero];rfl)
      case hwza6=>rfl
      case hyza6=>(intro w hSw;(try dsimp only at hSw);go_simp;with_reducible rfl)
      try simp only [Act.put,List.setIfInBounds_toArray,List.set_cons_zero,List.set_cons_succ]
      refine wpAnyH_take (i:=6) (oi:=?oza7) (v:=?vza7) ?hiza7 (by kernel_rfl) (by kernel_rfl) (by kernel_rfl) (fun _ _ _ h=>h) (Or.inl ⟨?hwza7, ?hyza7⟩) (by assumption) ?restza7
      case hiza7=>(simp only [List.getElem?_toArray,List.getElem?_cons_succ,List.getElem?_cons_zero];rfl)
      case hwza7=>rfl
      case hyza7=>(intro w hSw;(try dsimp only at hSw);go_simp;with_reducible rfl)
      try simp only [Act.put,List.setIfInBounds_toArray,List.set_cons_zero,List.set_cons_succ]
      refine wpAnyH_take (i:=8) (oi:=?oza8) (v:=?vza8) ?hiza8 (by kernel_rfl) (by kernel_rfl) (by kernel_rfl) (fun _ _ _ h=>h) (Or.inl ⟨?hwza8, ?hyza8⟩) (by assumption) ?restza8
      case hiza8=>(simp only [List.getElem?_toArray,List.getElem?_cons_succ,List.getElem?_cons_zero];rfl)
      case hwza8=>rfl
      case hyza8=>(intro w hSw;(try dsimp only at hSw);go_simp;with_reducible rfl)
      try simp only [Act.put,List.setIfInBounds_toArray,List.set_cons_zero,List.set_cons_succ]
      refine wpAnyH_take (i:=12) (oi:=?oza9) (v:=?vza9) ?hiza9 (by kernel_rfl) (by kernel_rfl) (by kernel_rfl) (fun _ _ _ h=>h) (Or.inl ⟨?hwza9, ?hyza9⟩) (by assumption) ?restza9
      case hiza9=>(simp only [List.getElem?_toArray,List.getElem?_cons_succ,List.getElem?_cons_zero];rfl)
      case hwza9=>rfl
      case hyza9=>(intro w hSw;(try dsimp only at hSw);go_simp;with_reducible rfl)
      try simp only [Act.put,List.setIfInBounds_toArray,List.set_cons_zero,List.set_cons_succ]
      refine wpAnyH_take (i:=13) (oi:=?oza10) (v:=?vza10) ?hiza10 (by kernel_rfl) (by kernel_rfl) (by kernel_rfl) (fun _ _ _ h=>h) (Or.inl ⟨?hwza10, ?hyza10⟩) (by assumption) ?restza10
      case hiza10=>(simp only [List.getElem?_toArray,List.getElem?_cons_succ,List.getElem?_cons_zero];rfl)
      case hwza10=>rfl
      case hyza10=>(intro w hSw;(try dsimp only at hSw);go_simp;with_reducible rfl)
      try simp only [Act.put,List.setIfInBounds_toArray,List.set_cons_zero,List.set_cons_succ]
      refine wpAnyH_take (i:=14) (oi:=?oza11) (v:=?vza11) ?hiza11 (by kernel_rfl) (by kernel_rfl) (by kernel_rfl) (fun _ _ _ h=>h) (Or.inl ⟨?hwza11, ?hyza11⟩) (by assumption) ?restza11
      case hiza11=>(simp only [List.getElem?_toArray,List.getElem?_cons_succ,List.getElem?_cons_zero];rfl)
      case hwza11=>rfl
      case hyza11=>(intro w hSw;(try dsimp only at hSw);go_simp;with_reducible rfl)
      try simp only [Act.put,List.setIfInBounds_toArray,List.set_cons_zero,List.set_cons_succ]
      refine wpAnyH_ready (rs:=[7,15]) (by kernel_rfl) (by simp) ?_
      refine (AllReadyH.cons (o:=?ota12_7) ?hta12_7 (fun K hK=>?bta12_7) (AllReadyH.cons (o:=?ota12_15) ?hta12_15 (fun K hK=>?bta12_15) AllReadyH.nil))
      case hta12_7=>(simp only [List.getElem?_toArray,List.getElem?_cons_succ,List.getElem?_cons_zero];rfl)
      case hta12_15=>(simp only [List.getElem?_toArray,List.getElem?_cons_succ,List.getElem?_cons_zero];rfl)
      case bta12_7 =>
       go_simp
       refine hK.out _ _ ?_ (fun hHeld=>?_)
       ·first | assumption | first | (simp [*];done) | (simp [go_sem, *];done) | (go_keep;done)
       clear hK K
       try simp only [Act.put,List.setIfInBounds_toArray,List.set_cons_zero,List.set_cons_succ]
       refine wpAnyH_take (i:=9) (oi:=?oza13) (v:=?vza13) ?hiza13 (by kernel_rfl) (by kernel_rfl) (by kernel_rfl) (fun _ _ _ h=>h) (Or.inl ⟨?hwza13, ?hyza13⟩) (by assumption) ?restza13
       case hiza13=>(simp only [List.getElem?_toArray,List.getElem?_cons_succ,List.getElem?_cons_zero];rfl)
       case hwza13=>rfl
       case hyza13=>(intro w hSw;(try dsimp only at hSw);go_simp;with_reducible rfl)
       try simp only [Act.put,List.setIfInBounds_toArray,List.set_cons_zero,List.set_cons_succ]
       refine wpAnyH_take (i:=10) (oi:=?oza14) (v:=?vza14) ?hiza14 (by kernel_rfl) (by kernel_rfl) (by kernel_rfl) (fun _ _ _ h=>h) (Or.inl ⟨?hwza14, ?hyza14⟩) (by assumption) ?restza14
       case hiza14=>(simp only [List.getElem?_toArray,List.getElem?_cons_succ,List.getElem?_cons_zero];rfl)
       case hwza14=>rfl
       case hyza14=>(intro w hSw;(try dsimp only at hSw);go_simp;with_reducible rfl)
       try simp only [Act.put,List.setIfInBounds_toArray,List.set_cons_zero,List.set_cons_succ]
       refine wpAnyH_ready (rs:=[11,15]) (by kernel_rfl) (by simp) ?_
       refine (AllReadyH.cons (o:=?ota15_11) ?hta15_11 (fun K hK=>?bta15_11) (AllReadyH.cons (o:=?ota15_15) ?hta15_15 (fun K hK=>?bta15_15) AllReadyH.nil))
       case hta15_11=>(simp only [List.getElem?_toArray,List.getElem?_cons_succ,List.getElem?_cons_zero];rfl)
       case hta15_15=>(simp only [List.getElem?_toArray,List.getElem?_cons_succ,List.getElem?_cons_zero];rfl)
       case bta15_11 =>
        go_simp
        go_at_call 287;(with_reducible refine (rInv_w G t P0 M0 mod vm x _ (hid ho) (by first | exact hvmy | exact hvmy.kept (kept_drew _) | exact hvmy.kept (kept_drewN _ _))).mono ?_);rintro e w3 ⟨rfl,hk3⟩;have hk3':Kept wy w3:=(by first | exact hk3 | exact (kept_drew _).tr hk3 | exact (kept_drewN _ _).tr hk3);have bf3:=bfy.kept hk3';have d30:=bf3.h0;have d31:=bf3.h1;have d32:=bf3.h2;have d33:=(hk3'.cell' lbr).trans hx3;have d34:=(hk3'.cell' lg).trans x1
        try go_wp2_with (fail)
        refine hK.out _ _ ?_ (fun hHeld=>?_)
        ·first | assumption | first | (simp [*];done) | (simp [go_sem, *];done) | (go_keep;done)
        clear hK K
        try simp only [Act.put,List.setIfInBounds_toArray,List.set_cons_zero,List.set_cons_succ]
        refine wpAnyH_ready (rs:=[15]) (by kernel_rfl) (by simp) ?_
        refine AllReadyH.cons (o:=?oya16) ?hya16 (fun K hK=>?bya16) AllReadyH.nil
        case hya16=>(simp only [List.getElem?_toArray,List.getElem?_cons_succ,List.getElem?_cons_zero];rfl)
        go_simp
        refine hK.out _ _ ?_ (fun hHeld=>?_)
        ·first | assumption | first | (simp [*];done) | (simp [go_sem, *];done) | (go_keep;done)
        clear hK K
        try simp only [Act.put,List.setIfInBounds_toArray,List.set_cons_zero,List.set_cons_succ]
        refine wpAnyH_ready (rs:=[16]) (by kernel_rfl) (by simp) ?_
        refine AllReadyH.cons (o:=?oya17) ?hya17 (fun K hK=>?bya17) AllReadyH.nil
        case hya17=>(simp only [List.getElem?_toArray,List.getElem?_cons_succ,List.getElem?_cons_zero];rfl)
        go_simp
        go_at_call 286;(with_reducible refine (rScale_any G t P0 M0 mod vm (invG G x) _ (Gj.row S P.length) _ ho (by first | exact hvmy.kept hk3' | exact (hvmy.kept hk3').kept (kept_drew _) | exact (hvmy.kept hk3').kept (kept_drewN _ _)) (by first | exact hrs.kept hk3' | exact (hrs.kept hk3').kept (kept_drew _) | exact (hrs.kept hk3').kept (kept_drewN _ _)) hln).mono ?_);rintro e w4 ⟨v4,rfl,ho4,hk4⟩;have hk4':Kept wy w4:=(by first | exact hk3'.tr hk4 | exact (hk3'.tr (kept_drew _)).tr hk4 | exact (hk3'.drewN _).tr hk4);obtain ⟨n4,hn4⟩:∃ n,n=((Gj.row S P.length).map (mulG G (invG G x))).length:=⟨_,rfl⟩;obtain ⟨a4,c4,e4,_,_⟩:=ho4.sl.lenOf;rw [← hn4] at e4;subst e4;clear hn4;have bf4:=bfy.kept hk4';have d40:=bf4.h0;have d41:=bf4.h1;have d42:=bf4.h2;have d43:=(hk4'.cell' lbr).trans hx3;have f4:=(hk4'.frozen' lg).trans f1;have d44:=(hk4'.cell' lg).trans x1
        try go_wp2_with (fail)
        refine hK.out _ _ ?_ (fun hHeld=>?_)
        ·first | assumption | first | (simp [*];done) | (simp [go_sem, *];done) | (go_keep;done)
        clear hK K
        try simp only [Act.put,List.setIfInBounds_toArray,List.set_cons_zero,List.set_cons_succ]
        refine wpAnyH_take (i:=17) (oi:=?oza18) (v:=?vza18) ?hiza18 (by kernel_rfl) (by kernel_rfl) (by kernel_rfl) (fun _ _ _ h=>h) (Or.inl ⟨?hwza18, ?hyza18⟩) (by assumption) ?restza18
        case hiza18=>(simp only [List.getElem?_toArray,List.getElem?_cons_succ,List.getElem?_cons_zero];rfl)
        case hwza18=>rfl
        case hyza18=>(intro w hSw;(try dsimp only at hSw);go_simp;with_reducible rfl)
        try simp only [Act.put,List.setIfInBounds_toArray,List.set_cons_zero,List.set_cons_succ]
        refine wpAnyH_ready (rs:=[18]) (by kernel_rfl) (by simp) ?_
        refine AllReadyH.cons (o:=?oya19) ?hya19 (fun K hK=>?bya19) AllReadyH.nil
        case hya19=>(simp only [List.getElem?_toArray,List.getElem?_cons_succ,List.getElem?_cons_zero];rfl)
        go_simp
        refine hK.out _ _ ?_ (fun hHeld=>?_)
        ·first | assumption | first | (simp [*];done) | (simp [go_sem, *];done) | (go_keep;done)
        clear hK K
        try simp only [Act.put,List.setIfInBounds_toArray,List.set_cons_zero,List.set_cons_succ]
        refine wpAnyH_done (by kernel_rfl) ?_ _
        refine NoPanic.normal ?_
        go_wp2_with (fail)
        have hp:=es.put hk4' hPS (ho4.mono (by have q:=hk3'.size;first | exact q | simpa using q))
        rw [HE.out] at hp
        go_meet
        case rel=>exact ⟨_,hp⟩
       case bta15_15 =>
        go_simp
        refine hK.out _ _ ?_ (fun hHeld=>?_)
        ·first | assumption | first | (simp [*];done) | (simp [go_sem, *];done) | (go_keep;done)
        clear hK K
        try simp only [Act.put,List.setIfInBounds_toArray,List.set_cons_zero,List.set_cons_succ]
        refine wpAnyH_ready (rs:=[11]) (by kernel_rfl) (by simp) ?_
        refine AllReadyH.cons (o:=?oya20) ?hya20 (fun K hK=>?bya20) AllReadyH.nil
        case hya20=>(simp only [List.getElem?_toArray,List.getElem?_cons_succ,List.getElem?_cons_zero];rfl)
        go_simp
        go_at_call 287;(with_reducible refine (rInv_w G t P0 M0 mod vm x _ (hid ho) (by first | exact hvmy | exact hvmy.kept (kept_drew _) | exact hvmy.kept (kept_drewN _ _))).mono ?_);rintro e w3 ⟨rfl,hk3⟩;have hk3':Kept wy w3:=(by first | exact hk3 | exact (kept_drew _).tr hk3 | exact (kept_drewN _ _).tr hk3);have bf3:=bfy.kept hk3';have d30:=bf3.h0;have d31:=bf3.h1;have d32:=bf3.h2;have d33:=(hk3'.cell' lbr).trans hx3;have d34:=(hk3'.cell' lg).trans x1
        try go_wp2_with (fail)
        refine hK.out _ _ ?_ (fun hHeld=>?_)
        ·first | assumption | first | (simp [*];done) | (simp [go_sem, *];done) | (go_keep;done)
        clear hK K
        try simp only [Act.put,List.setIfInBounds_toArray,List.set_cons_zero,List.set_cons_succ]
        refine wpAnyH_ready (rs:=[16]) (by kernel_rfl) (by simp) ?_
        refine AllReadyH.cons (o:=?oya21) ?hya21 (fun K hK=>?bya21) AllReadyH.nil
        case hya21=>(simp only [List.getElem?_toArray,List.getElem?_cons_succ,List.getElem?_cons_zero];rfl)
        go_simp
        go_at_call 286;(with_reducible refine (rScale_any G t P0 M0 mod vm (invG G x) _ (Gj.row S P.length) _ ho (by first | exact hvmy.kept hk3' | exact (hvmy.kept hk3').kept (kept_drew _) | exact (hvmy.kept hk3').kept (kept_drewN _ _)) (by first | exact hrs.kept hk3' | exact (hrs.kept hk3').kept (kept_drew _) | exact (hrs.kept hk3').kept (kept_drewN _ _)) hln).mono ?_);rintro e w4 ⟨v4,rfl,ho4,hk4⟩;have hk4':Kept wy w4:=(by first | exact hk3'.tr hk4 | exact (hk3'.tr (kept_drew _)).tr hk4 | exact (hk3'.drewN _).tr hk4);obtain ⟨n4,hn4⟩:∃ n,n=((Gj.row S P.length).map (mulG G (invG G x))).length:=⟨_,rfl⟩;obtain ⟨a4,c4,e4,_,_⟩:=ho4.sl.lenOf;rw [← hn4] at e4;subst e4;clear hn4;have bf4:=bfy.kept hk4';have d40:=bf4.h0;have d41:=bf4.h1;have d42:=bf4.h2;have d43:=(hk4'.cell' lbr).trans hx3;have f4:=(hk4'.frozen' lg).trans f1;have d44:=(hk4'.cell' lg).trans x1
        try go_wp2_with (fail)
        refine hK.out _ _ ?_ (fun hHeld=>?_)
        ·first | assumption | first | (simp [*];done) | (simp [go_sem, *];done) | (go_keep;done)
        clear hK K
        try simp only [Act.put,List.setIfInBounds_toArray,List.set_cons_zero,List.set_cons_succ]
        refine wpAnyH_take (i:=17) (oi:=?oza22) (v:=?vza22) ?hiza22 (by kernel_rfl) (by kernel_rfl) (by kernel_rfl) (fun _ _ _ h=>h) (Or.inl ⟨?hwza22, ?hyza22⟩) (by assumption) ?restza22
        case hiza22=>(simp only [List.getElem?_toArray,List.getElem?_cons_succ,List.getElem?_cons_zero];rfl)
        case hwza22=>rfl
        case hyza22=>(intro w hSw;(try dsimp only at hSw);go_simp;with_reducible rfl)
        try simp only [Act.put,List.setIfInBounds_toArray,List.set_cons_zero,List.set_cons_succ]
        refine wpAnyH_ready (rs:=[18]) (by kernel_rfl) (by simp) ?_
        refine AllReadyH.cons (o:=?oya23) ?hya23 (fun K hK=>?bya23) AllReadyH.nil
        case hya23=>(simp only [List.getElem?_toArray,List.getElem?_cons_succ,List.getElem?_cons_zero];rfl)
        go_simp
        refine hK.out _ _ ?_ (fun hHeld=>?_)
        ·first | assumption | first | (simp [*];done) | (simp [go_sem, *];done) | (go_keep;done)
        clear hK K
        try simp only [Act.put,List.setIfInBounds_toArray,List.set_cons_zero,List.set_cons_succ]
        refine wpAnyH_done (by kernel_rfl) ?_ _
        refine NoPanic.normal ?_
        go_wp2_with (fail)
        have hp:=es.put hk4' hPS (ho4.mono (by have q:=hk3'.size;first | exact q | simpa using q))
        rw [HE.out] at hp
        go_meet
        case rel=>exact ⟨_,hp⟩
      case bta12_15 =>
       go_simp
       refine hK.out _ _ ?_ (fun hHeld=>?_)
       ·first | assumption | first | (simp [*];done) | (simp [go_sem, *];done) | (go_keep;done)
       clear hK K
       try simp only [Act.put,List.setIfInBounds_toArray,List.set_cons_zero,List.set_cons_succ]
       refine wpAnyH_ready (rs:=[7]) (by kernel_rfl) (by simp) ?_
       refine AllReadyH.cons (o:=?oya24) ?hya24 (fun K hK=>?bya24) AllReadyH.nil
       case hya24=>(simp only [List.getElem?_toArray,List.getElem?_cons_succ,List.getElem?_cons_zero];rfl)
       go_simp
       refine hK.out _ _ ?_ (fun hHeld=>?_)
       ·first | assumption | first | (simp [*];done) | (simp [go_sem, *];done) | (go_keep;done)
       clear hK K
       try simp only [Act.put,List.setIfInBounds_toArray,List.set_cons_zero,List.set_cons_succ]
       refine wpAnyH_take (i:=9) (oi:=?oza25) (v:=?vza25) ?hiza25 (by kernel_rfl) (by kernel_rfl) (by kernel_rfl) (fun _ _ _ h=>h) (Or.inl ⟨?hwza25, ?hyza25⟩) (by assumption) ?restza25
       case hiza25=>(simp only [List.getElem?_toArray,List.getElem?_cons_succ,List.getElem?_cons_zero];rfl)
       case hwza25=>rfl
       case hyza25=>(intro w hSw;(try dsimp only at hSw);go_simp;with_reducible rfl)
       try simp only [Act.put,List.setIfInBounds_toArray,List.set_cons_zero,List.set_cons_succ]
       refine wpAnyH_take (i:=10) (oi:=?oza26) (v:=?vza26) ?hiza26 (by kernel_rfl) (by kernel_rfl) (by kernel_rfl) (fun _ _ _ h=>h) (Or.inl ⟨?hwza26, ?hyza26⟩) (by assumption) ?restza26
       case hiza26=>(simp only [List.getElem?_toArray,List.getElem?_cons_succ,List.getElem?_cons_zero];rfl)
       case hwza26=>rfl
       case hyza26=>(intro w hSw;(try dsimp only at hSw);go_simp;with_reducible rfl)
       try simp only [Act.put,List.setIfInBounds_toArray,List.set_cons_zero,List.set_cons_succ]
       refine wpAnyH_ready (rs:=[11]) (by kernel_rfl) (by simp) ?_
       refine AllReadyH.cons (o:=?oya27) ?hya27 (fun K hK=>?bya27) AllReadyH.nil
       case hya27=>(simp only [List.getElem?_toArray,List.getElem?_cons_succ,List.getElem?_cons_zero];rfl)
       go_simp
       go_at_call 287;(with_reducible refine (rInv_w G t P0 M0 mod vm x _ (hid ho) (by first | exact hvmy | exact hvmy.kept (kept_drew _) | exact hvmy.kept (kept_drewN _ _))).mono ?_);rintro e w3 ⟨rfl,hk3⟩;have hk3':Kept wy w3:=(by first | exact hk3 | exact (kept_drew _).tr hk3 | exact (kept_drewN _ _).tr hk3);have bf3:=bfy.kept hk3';have d30:=bf3.h0;have d31:=bf3.h1;have d32:=bf3.h2;have d33:=(hk3'.cell' lbr).trans hx3;have d34:=(hk3'.cell' lg).trans x1
       try go_wp2_with (fail)
       refine hK.out _ _ ?_ (fun hHeld=>?_)
       ·first | assumption | first | (simp [*];done) | (simp [go_sem, *];done) | (go_keep;done)
       clear hK K
       try simp only [Act.put,List.setIfInBounds_toArray,List.set_cons_zero,List.set_cons_succ]
       refine wpAnyH_ready (rs:=[16]) (by kernel_rfl) (by simp) ?_
       refine AllReadyH.cons (o:=?oya28) ?hya28 (fun K hK=>?bya28) AllReadyH.nil
       case hya28=>(simp only [List.getElem?_toArray,List.getElem?_cons_succ,List.getElem?_cons_zero];rfl)
       go_simp
       go_at_call 286;(with_reducible refine (rScale_any G t P0 M0 mod vm (invG G x) _ (Gj.row S P.length) _ ho (by first | exact hvmy.kept hk3' | exact (hvmy.kept hk3').kept (kept_drew _) | exact (hvmy.kept hk3').kept (kept_drewN _ _)) (by first | exact hrs.kept hk3' | exact (hrs.kept hk3').kept (kept_drew _) | exact (hrs.kept hk3').kept (kept_drewN _ _)) hln).mono ?_);rintro e w4 ⟨v4,rfl,ho4,hk4⟩;have hk4':Kept wy w4:=(by first | exact hk3'.tr hk4 | exact (hk3'.tr (kept_drew _)).tr hk4 | exact (hk3'.drewN _).tr hk4);obtain ⟨n4,hn4⟩:∃ n,n=((Gj.row S P.length).map (mulG G (invG G x))).length:=⟨_,rfl⟩;obtain ⟨a4,c4,e4,_,_⟩:=ho4.sl.lenOf;rw [← hn4] at e4;subst e4;clear hn4;have bf4:=bfy.kept hk4';have d40:=bf4.h0;have d41:=bf4.h1;have d42:=bf4.h2;have d43:=(hk4'.cell' lbr).trans hx3;have f4:=(hk4'.frozen' lg).trans f1;have d44:=(hk4'.cell' lg).trans x1
       try go_wp2_with (fail)
       refine hK.out _ _ ?_ (fun hHeld=>?_)
       ·first | assumption | first | (simp [*];done) | (simp [go_sem, *];done) | (go_keep;done)
       clear hK K
       try simp only [Act.put,List.setIfInBounds_toArray,List.set_cons_zero,List.set_cons_succ]
       refine wpAnyH_take (i:=17) (oi:=?oza29) (v:=?vza29) ?hiza29 (by kernel_rfl) (by kernel_rfl) (by kernel_rfl) (fun _ _ _ h=>h) (Or.inl ⟨?hwza29, ?hyza29⟩) (by assumption) ?restza29
       case hiza29=>(simp only [List.getElem?_toArray,List.getElem?_cons_succ,List.getElem?_cons_zero];rfl)
       case hwza29=>rfl
       case hyza29=>(intro w hSw;(try dsimp only at hSw);go_simp;with_reducible rfl)
       try simp only [Act.put,List.setIfInBounds_toArray,List.set_cons_zero,List.set_cons_succ]
       refine wpAnyH_ready (rs:=[18]) (by kernel_rfl) (by simp) ?_
       refine AllReadyH.cons (o:=?oya30) ?hya30 (fun K hK=>?bya30) AllReadyH.nil
       case hya30=>(simp only [List.getElem?_toArray,List.getElem?_cons_succ,List.getElem?_cons_zero];rfl)
       go_simp
       refine hK.out _ _ ?_ (fun hHeld=>?_)
       ·first | assumption | first | (simp [*];done) | (simp [go_sem, *];done) | (go_keep;done)
       clear hK K
       try simp only [Act.put,List.setIfInBounds_toArray,List.set_cons_zero,List.set_cons_succ]
       refine wpAnyH_done (by kernel_rfl) ?_ _
       refine NoPanic.normal ?_
       go_wp2_with (fail)
       have hp:=es.put hk4' hPS (ho4.mono (by have q:=hk3'.size;first | exact q | simpa using q))
       rw [HE.out] at hp
       go_meet
       case rel=>exact ⟨_,hp⟩
    case rest =>
     obtain ⟨s2,et⟩:=hcut
     obtain ⟨wt,hwt⟩:∃ x,x=wc:=⟨_,rfl⟩
     rw [← hwt] at et ⊢
     clear hwt x1 f1 x2 hx3 es
     obtain ⟨T,hT⟩:∃ T,T=scR (opG G) S S P.length c:=⟨_,rfl⟩
     rw [← hT] at et
     have hTl:T.length=S.length:=by rw [hT];exact length_scR _ _ _ _ _
     have hLT:Ln T cols:=by rw [hT];exact ln_scR hwS.wf
     have HT:=hid hT
     clear hT
     go_wp2_with (fail)
     go_loopw [13] (fun vi wx=>∃ (i:Nat) (s3:Nat→Value),i≤A0.length∧vi=.int .i64 i∧Er w1 wx (.slice (some ⟨g,0,none⟩) A0.length cap) (st2 (opG G) T T P.length c i) s3 (.slice pa P.length pc) P) (fun vi _=>A0.length - (intOf vi).toNat)
     case atStart=>exact ⟨0,s2,by omega,rfl,by rw [st2_zero];exact et⟩
     case round =>
      obtain ⟨i,s3,hi,rfl,ei⟩:=hrel
      obtain ⟨wi,hwi⟩:∃ x,x=wr:=⟨_,rfl⟩
      rw [← hwi] at ei ⊢
      clear hwi et
      have hXl:(st2 (opG G) T T P.length c i).length=A0.length:=by rw [length_st2,hTl,HSl.out,hAl]
      have hPT:P.length < T.length:=by rw [hTl,HSl.out];exact hPA
      have hLX:Ln (st2 (opG G) T T P.length c i) cols:=ln_st2 hLT (fun _=>hPT)
      have hTn:T.length=A0.length:=by rw [hTl,HSl.out,hAl]
      obtain ⟨X,hX⟩:∃ X,X=st2 (opG G) T T P.length c i:=⟨_,rfl⟩
      rw [← hX] at hXl hLX ei
      have HX2:=hid hX
      have HXl:=hid hXl
      clear hX
      by_cases hin:i < A0.length
      ·have hin':(i:Int) < (A0.length:Int):=by omega
       have hiX:i < X.length:=by omega
       have hPX:P.length < X.length:=by omega
       by_cases hir:i=P.length
       ·have tr:((i:Int) != (P.length:Int))=false:=by simp;omega
        have HEQ:Hid (st2 (opG G) T T P.length c (i + 1)=X):=hid (by rw [HX2.out];exact st2_skip (.inl hir))
        clear hir
        go_wp2_with (fail)
        go_roundw
        case rel=>exact ⟨i + 1,s3,by omega,by go_num,by rw [HEQ.out];exact ei⟩
        case measure=>simp [intOf];omega
       ·have tr:((i:Int) != (P.length:Int))=true:=by simp;omega
        have hri:=hLX i hiX
        obtain ⟨bi,ci,e1,_⟩:=ei.m.rowGet hiX (by intro e;rw [e] at hri;simp at hri;omega)
        have x1:=ei.m.cell hiX
        have f1:=ei.m.frozen i
        have x2:=ei.m.row _ hiX
        rw [hri] at e1
        rw [e1] at x1 x2
        have x3:=x2.cell (i:=c) (by rw [hri];exact hlt)
        obtain ⟨z,hz⟩:∃ z,z=(Gj.row X i).getD c 0:=⟨_,rfl⟩
        rw [← hz] at x3
        have hzT:en T i c=z:=by
         rw [hz,HX2.out]
         show en T i c=en (st2 (opG G) T T P.length c i) i c
         unfold en
         rw [row_st2 (by omega),if_neg (by omega)]
        have E1:=hid e1
        have HIR:=hid hir
        clear hz e1 hir
        by_cases hz0:z=0
        ·have tz:(z != 0)=false:=by simpa using hz0
         have HEQ:Hid (st2 (opG G) T T P.length c (i + 1)=X):=hid (by rw [HX2.out];exact st2_skip (.inr (by rw [hzT];exact hz0)))
         clear hz0
         go_wp2_with (fail)
         go_roundw
         case rel=>exact ⟨i + 1,s3,by omega,by go_num,by rw [HEQ.out];exact ei⟩
         case measure=>simp [intOf];omega
        ·have tz:(z != 0)=true:=by simpa using hz0
         have HEQ:Hid (X.set i (axpy (opG G) (negG G z) (Gj.row X P.length) (Gj.row X i))=st2 (opG G) T T P.length c (i + 1)):=hid (by
          rw [HX2.out]
          have:=st2_clear (o:=opG G) (A:=T) (A2:=T) (r:=P.length) (c:=c) (i:=i) hPT (by omega) HIR.out (by rw [hzT];exact hz0)
          rw [hzT] at this
          exact this)
         have hrP:=hLX P.length hPX
         obtain ⟨bP,cP,eP,_⟩:=ei.m.rowGet hPX (by intro e;rw [e] at hrP;simp at hrP;omega)
         have y1:=ei.m.cell hPX
         have y2:=ei.m.row _ hPX
         rw [hrP] at eP
         rw [eP] at y1 y2
         have bfi:=bf.kept ei.k
         have b0:=bfi.h0
         have b1:=bfi.h1
         have b2:=bfi.h2
         have hvmi:=hvm1.kept ei.k
         have hrs:=x2.sl
         have hrp:=y2.sl
         have hll:(Gj.row X P.length).length=(Gj.row X i).length:=by rw [hrP,hri]
         have hln:(Gj.row X i).length≤1000:=by rw [hri];omega
         have lbi:=(own_blk x2 rfl).2
         have lg:=(ei.m.has_lt (g:=g) (.inl rfl)).2
         have ngb:¬ g=bi:=fun e=>row_ne ei.m.out x2 rfl (by rw [e];rfl)
         have nbg:¬ bi=g:=fun e=>ngb e.symm
         have ngw:¬ g=w.heap.size:=by have q:=ei.gB;have:=HS.out;omega
         have nwg:¬ w.heap.size=g:=fun e=>ngw e.symm
         have nip:¬ i=P.length:=HIR.out
         have npi:¬ P.length=i:=fun e=>nip e.symm
         have EP:=hid eP
         clear hz0 eP
         go_wp2_with (fail)
         refine wp_region_noPanic ?_
         refine wp_region_held_drew (S:=fun w'=>w'.cell? ⟨w.heap.size,0,none⟩=some (.int .i64 P0)∧w'.cell? ⟨w.heap.size,1,none⟩=some (.int .i64 M0)∧w'.cell? ⟨w.heap.size,2,none⟩=some vm∧w'.cell? ⟨bi,c,none⟩=some (.int .i64 z)∧w'.cell? ⟨g,P.length,none⟩=some (.slice (some ⟨bP,0,none⟩) cols cP)) (by kernel_rfl) ?_ (fun hHeld=>?_)
         ·first | (simp [*];done) | (simp [go_sem, *];done) | (go_keep;done)
         refine wpAnyH_take (i:=0) (oi:=?ozb1) (v:=?vzb1) ?hizb1 (by kernel_rfl) (by kernel_rfl) (by kernel_rfl) (fun _ _ _ h=>h) (Or.inl ⟨?hwzb1, ?hyzb1⟩) (by assumption) ?restzb1
         case hizb1=>(simp only [List.getElem?_toArray,List.getElem?_cons_zero];rfl)
         case hwzb1=>rfl
         case hyzb1=>(intro w hSw;(try dsimp only at hSw);go_simp;with_reducible rfl)
         try simp only [Act.put,List.setIfInBounds_toArray,List.set_cons_zero,List.set_cons_succ]
         refine wpAnyH_take (i:=1) (oi:=?ozb2) (v:=?vzb2) ?hizb2 (by kernel_rfl) (by kernel_rfl) (by kernel_rfl) (fun _ _ _ h=>h) (Or.inl ⟨?hwzb2, ?hyzb2⟩) (by assumption) ?restzb2
         case hizb2=>(simp only [List.getElem?_toArray,List.getElem?_cons_succ,List.getElem?_cons_zero];rfl)
         case hwzb2=>rfl
         case hyzb2=>(intro w hSw;(try dsimp only at hSw);go_simp;with_reducible rfl)
         try simp only [Act.put,List.setIfInBounds_toArray,List.set_cons_zero,List.set_cons_succ]
         refine wpAnyH_take (i:=2) (oi:=?ozb3) (v:=?vzb3) ?hizb3 (by kernel_rfl) (by kernel_rfl) (by kernel_rfl) (fun _ _ _ h=>h) (Or.inl ⟨?hwzb3, ?hyzb3⟩) (by assumption) ?restzb3
         case hizb3=>(simp only [List.getElem?_toArray,List.getElem?_cons_succ,List.getElem?_cons_zero];rfl)
         case hwzb3=>rfl
         case hyzb3=>(intro w hSw;(try dsimp only at hSw);go_simp;with_reducible rfl)
         try simp only [Act.put,List.setIfInBounds_toArray,List.set_cons_zero,List.set_cons_succ]
         refine wpAnyH_take (i:=3) (oi:=?ozb4) (v:=?vzb4) ?hizb4 (by kernel_rfl) (by kernel_rfl) (by kernel_rfl) (fun _ _ _ h=>h) (Or.inl ⟨?hwzb4, ?hyzb4⟩) (by assumption) ?restzb4
         case hizb4=>(simp only [List.getElem?_toArray,List.getElem?_cons_succ,List.getElem?_cons_zero];rfl)
         case hwzb4=>rfl
         case hyzb4=>(intro w hSw;(try dsimp only at hSw);go_simp;with_reducible rfl)
         try simp only [Act.put,List.setIfInBounds_toArray,List.set_cons_zero,List.set_cons_succ]
         refine wpAnyH_take (i:=4) (oi:=?ozb5) (v:=?vzb5) ?hizb5 (by kernel_rfl) (by kernel_rfl) (by kernel_rfl) (fun _ _ _ h=>h) (Or.inl ⟨?hwzb5, ?hyzb5⟩) (by assumption) ?restzb5
         case hizb5=>(simp only [List.getElem?_toArray,List.getElem?_cons_succ,List.getElem?_cons_zero];rfl)
         case hwzb5=>rfl
         case hyzb5=>(intro w hSw;(try dsimp only at hSw);go_simp;with_reducible rfl)
         try simp only [Act.put,List.setIfInBounds_toArray,List.set_cons_zero,List.set_cons_succ]
         refine wpAnyH_take (i:=5) (oi:=?ozb6) (v:=?vzb6) ?hizb6 (by kernel_rfl) (by kernel_rfl) (by kernel_rfl) (fun _ _ _ h=>h) (Or.inl ⟨?hwzb6, ?hyzb6⟩) (by assumption) ?restzb6
         case hizb6=>(simp only [List.getElem?_toArray,List.getElem?_cons_succ,List.getElem?_cons_zero];rfl)
         case hwzb6=>rfl
         case hyzb6=>(intro w hSw;(try dsimp only at hSw);go_simp;with_reducible rfl)
         try simp only [Act.put,List.setIfInBounds_toArray,List.set_cons_zero,List.set_cons_succ]
         refine wpAnyH_take (i:=7) (oi:=?ozb7) (v:=?vzb7) ?hizb7 (by kernel_rfl) (by kernel_rfl) (by kernel_rfl) (fun _ _ _ h=>h) (Or.inl ⟨?hwzb7, ?hyzb7⟩) (by assumption) ?restzb7
         case hizb7=>(simp only [List.getElem?_toArray,List.getElem?_cons_succ,List.getElem?_cons_zero];rfl)
         case hwzb7=>rfl
         case hyzb7=>(intro w hSw;(try dsimp only at hSw);go_simp;with_reducible rfl)
         try simp only [Act.put,List.setIfInBounds_toArray,List.set_cons_zero,List.set_cons_succ]
         refine wpAnyH_take (i:=8) (oi:=?ozb8) (v:=?vzb8) ?hizb8 (by kernel_rfl) (by kernel_rfl) (by kernel_rfl) (fun _ _ _ h=>h) (Or.inl ⟨?hwzb8, ?hyzb8⟩) (by assumption) ?restzb8
         case hizb8=>(simp only [List.getElem?_toArray,List.getElem?_cons_succ,List.getElem?_cons_zero];rfl)
         case hwzb8=>rfl
         case hyzb8=>(intro w hSw;(try dsimp only at hSw);go_simp;with_reducible rfl)
         try simp only [Act.put,List.setIfInBounds_toArray,List.set_cons_zero,List.set_cons_succ]
         refine wpAnyH_take (i:=9) (oi:=?ozb9) (v:=?vzb9) ?hizb9 (by kernel_rfl) (by kernel_rfl) (by kernel_rfl) (fun _ _ _ h=>h) (Or.inl ⟨?hwzb9, ?hyzb9⟩) (by assumption) ?restzb9
         case hizb9=>(simp only [List.getElem?_toArray,List.getElem?_cons_succ,List.getElem?_cons_zero];rfl)
         case hwzb9=>rfl
         case hyzb9=>(intro w hSw;(try dsimp only at hSw);go_simp;with_reducible rfl)
         try simp only [Act.put,List.setIfInBounds_toArray,List.set_cons_zero,List.set_cons_succ]
         refine wpAnyH_take (i:=10) (oi:=?ozb10) (v:=?vzb10) ?hizb10 (by kernel_rfl) (by kernel_rfl) (by kernel_rfl) (fun _ _ _ h=>h) (Or.inl ⟨?hwzb10, ?hyzb10⟩) (by assumption) ?restzb10
         case hizb10=>(simp only [List.getElem?_toArray,List.getElem?_cons_succ,List.getElem?_cons_zero];rfl)
         case hwzb10=>rfl
         case hyzb10=>(intro w hSw;(try dsimp only at hSw);go_simp;with_reducible rfl)
         try simp only [Act.put,List.setIfInBounds_toArray,List.set_cons_zero,List.set_cons_succ]
         refine wpAnyH_take (i:=12) (oi:=?ozb11) (v:=?vzb11) ?hizb11 (by kernel_rfl) (by kernel_rfl) (by kernel_rfl) (fun _ _ _ h=>h) (Or.inl ⟨?hwzb11, ?hyzb11⟩) (by assumption) ?restzb11
         case hizb11=>(simp only [List.getElem?_toArray,List.getElem?_cons_succ,List.getElem?_cons_zero];rfl)
         case hwzb11=>rfl
         case hyzb11=>(intro w hSw;(try dsimp only at hSw);go_simp;with_reducible rfl)
         try simp only [Act.put,List.setIfInBounds_toArray,List.set_cons_zero,List.set_cons_succ]
         refine wpAnyH_take (i:=16) (oi:=?ozb12) (v:=?vzb12) ?hizb12 (by kernel_rfl) (by kernel_rfl) (by kernel_rfl) (fun _ _ _ h=>h) (Or.inl ⟨?hwzb12, ?hyzb12⟩) (by assumption) ?restzb12
         case hizb12=>(simp only [List.getElem?_toArray,List.getElem?_cons_succ,List.getElem?_cons_zero];rfl)
         case hwzb12=>rfl
         case hyzb12=>(intro w hSw;(try dsimp only at hSw);go_simp;with_reducible rfl)
         try simp only [Act.put,List.setIfInBounds_toArray,List.set_cons_zero,List.set_cons_succ]
         refine wpAnyH_take (i:=17) (oi:=?ozb13) (v:=?vzb13) ?hizb13 (by kernel_rfl) (by kernel_rfl) (by kernel_rfl) (fun _ _ _ h=>h) (Or.inl ⟨?hwzb13, ?hyzb13⟩) (by assumption) ?restzb13
         case hizb13=>(simp only [List.getElem?_toArray,List.getElem?_cons_succ,List.getElem?_cons_zero];rfl)
         case hwzb13=>rfl
         case hyzb13=>(intro w hSw;(try dsimp only at hSw);go_simp;with_reducible rfl)
         try simp only [Act.put,List.setIfInBounds_toArray,List.set_cons_zero,List.set_cons_succ]
         refine wpAnyH_take (i:=18) (oi:=?ozb14) (v:=?vzb14) ?hizb14 (by kernel_rfl) (by kernel_rfl) (by kernel_rfl) (fun _ _ _ h=>h) (Or.inl ⟨?hwzb14, ?hyzb14⟩) (by assumption) ?restzb14
         case hizb14=>(simp only [List.getElem?_toArray,List.getElem?_cons_succ,List.getElem?_cons_zero];rfl)
         case hwzb14=>rfl
         case hyzb14=>(intro w hSw;(try dsimp only at hSw);go_simp;with_reducible rfl)
         try simp only [Act.put,List.setIfInBounds_toArray,List.set_cons_zero,List.set_cons_succ]
         refine wpAnyH_take (i:=19) (oi:=?ozb15) (v:=?vzb15) ?hizb15 (by kernel_rfl) (by kernel_rfl) (by kernel_rfl) (fun _ _ _ h=>h) (Or.inl ⟨?hwzb15, ?hyzb15⟩) (by assumption) ?restzb15
         case hizb15=>(simp only [List.getElem?_toArray,List.getElem?_cons_succ,List.getElem?_cons_zero];rfl)
         case hwzb15=>rfl
         case hyzb15=>(intro w hSw;(try dsimp only at hSw);go_simp;with_reducible rfl)
         try simp only [Act.put,List.setIfInBounds_toArray,List.set_cons_zero,List.set_cons_succ]
         refine wpAnyH_ready (rs:=[6,11]) (by kernel_rfl) (by simp) ?_
         refine (AllReadyH.cons (o:=?otb16_6) ?htb16_6 (fun K hK=>?btb16_6) (AllReadyH.cons (o:=?otb16_11) ?htb16_11 (fun K hK=>?btb16_11) AllReadyH.nil))
         case htb16_6=>(simp only [List.getElem?_toArray,List.getElem?_cons_succ,List.getElem?_cons_zero];rfl)
         case htb16_11=>(simp only [List.getElem?_toArray,List.getElem?_cons_succ,List.getElem?_cons_zero];rfl)
         case btb16_6 =>
          go_simp
          refine hK.out _ _ ?_ (fun hHeld=>?_)
          ·first | assumption | first | (simp [*];done) | (simp [go_sem, *];done) | (go_keep;done)
          clear hK K
          try simp only [Act.put,List.setIfInBounds_toArray,List.set_cons_zero,List.set_cons_succ]
          refine wpAnyH_ready (rs:=[11]) (by kernel_rfl) (by simp) ?_
          refine AllReadyH.cons (o:=?oyb17) ?hyb17 (fun K hK=>?byb17) AllReadyH.nil
          case hyb17=>(simp only [List.getElem?_toArray,List.getElem?_cons_succ,List.getElem?_cons_zero];rfl)
          go_simp
          refine hK.out _ _ ?_ (fun hHeld=>?_)
          ·first | assumption | first | (simp [*];done) | (simp [go_sem, *];done) | (go_keep;done)
          clear hK K
          try simp only [Act.put,List.setIfInBounds_toArray,List.set_cons_zero,List.set_cons_succ]
          refine wpAnyH_take (i:=13) (oi:=?ozb18) (v:=?vzb18) ?hizb18 (by kernel_rfl) (by kernel_rfl) (by kernel_rfl) (fun _ _ _ h=>h) (Or.inl ⟨?hwzb18, ?hyzb18⟩) (by assumption) ?restzb18
          case hizb18=>(simp only [List.getElem?_toArray,List.getElem?_cons_succ,List.getElem?_cons_zero];rfl)
          case hwzb18=>rfl
          case hyzb18=>(intro w hSw;(try dsimp only at hSw);go_simp;with_reducible rfl)
          try simp only [Act.put,List.setIfInBounds_toArray,List.set_cons_zero,List.set_cons_succ]
          refine wpAnyH_take (i:=14) (oi:=?ozb19) (v:=?vzb19) ?hizb19 (by kernel_rfl) (by kernel_rfl) (by kernel_rfl) (fun _ _ _ h=>h) (Or.inl ⟨?hwzb19, ?hyzb19⟩) (by assumption) ?restzb19
          case hizb19=>(simp only [List.getElem?_toArray,List.getElem?_cons_succ,List.getElem?_cons_zero];rfl)
          case hwzb19=>rfl
          case hyzb19=>(intro w hSw;(try dsimp only at hSw);go_simp;with_reducible rfl)
          try simp only [Act.put,List.setIfInBounds_toArray,List.set_cons_zero,List.set_cons_succ]
          refine wpAnyH_ready (rs:=[15]) (by kernel_rfl) (by simp) ?_
          refine AllReadyH.cons (o:=?oyb20) ?hyb20 (fun K hK=>?byb20) AllReadyH.nil
          case hyb20=>(simp only [List.getElem?_toArray,List.getElem?_cons_succ,List.getElem?_cons_zero];rfl)
          go_simp
          go_at_call 289;(with_reducible refine (rNeg_field G t P0 M0 mod vm z _ ho).mono ?_);rintro e w3 ⟨rfl,hk3⟩;have hk3':Kept wi w3:=(by first | exact hk3 | exact (kept_drew _).tr hk3 | exact (kept_drewN _ _).tr hk3);have bf3:=bfi.kept hk3';have d30:=bf3.h0;have d31:=bf3.h1;have d32:=bf3.h2;have d33:=(hk3'.cell' lbi).trans x3;have d34:=(hk3'.cell' lg).trans x1;have d35:=(hk3'.cell' lg).trans y1
          try go_wp2_with (fail)
          refine hK.out _ _ ?_ (fun hHeld=>?_)
          ·first | assumption | first | (simp [*];done) | (simp [go_sem, *];done) | (go_keep;done)
          clear hK K
          try simp only [Act.put,List.setIfInBounds_toArray,List.set_cons_zero,List.set_cons_succ]
          refine wpAnyH_ready (rs:=[20]) (by kernel_rfl) (by simp) ?_
          refine AllReadyH.cons (o:=?oyb21) ?hyb21 (fun K hK=>?byb21) AllReadyH.nil
          case hyb21=>(simp only [List.getElem?_toArray,List.getElem?_cons_succ,List.getElem?_cons_zero];rfl)
          go_simp
          go_at_call 288;(with_reducible refine (rAddTo_any G t P0 M0 mod vm (negG G z) _ _ (Gj.row X i) (Gj.row X P.length) _ ho (by first | exact hvmi.kept hk3' | exact (hvmi.kept hk3').kept (kept_drew _) | exact (hvmi.kept hk3').kept (kept_drewN _ _)) (by first | exact hrs.kept hk3' | exact (hrs.kept hk3').kept (kept_drew _) | exact (hrs.kept hk3').kept (kept_drewN _ _)) (by first | exact hrp.kept hk3' | exact (hrp.kept hk3').kept (kept_drew _) | exact (hrp.kept hk3').kept (kept_drewN _ _)) hll hln).mono ?_);rintro e w4 ⟨v4,rfl,ho4,hk4⟩;have hk4':Kept wi w4:=(by first | exact hk3'.tr hk4 | exact (hk3'.tr (kept_drew _)).tr hk4 | exact (hk3'.drewN _).tr hk4);obtain ⟨n4,hn4⟩:∃ n,n=(axpy (opG G) (negG G z) (Gj.row X P.length) (Gj.row X i)).length:=⟨_,rfl⟩;obtain ⟨a4,c4,e4,_,_⟩:=ho4.sl.lenOf;rw [← hn4] at e4;subst e4;clear hn4;have bf4:=bfi.kept hk4';have d40:=bf4.h0;have d41:=bf4.h1;have d42:=bf4.h2;have d43:=(hk4'.cell' lbi).trans x3;have f4:=(hk4'.frozen' lg).trans f1;have d44:=(hk4'.cell' lg).trans x1;have d45:=(hk4'.cell' lg).trans y1
          try go_wp2_with (fail)
          refine hK.out _ _ ?_ (fun hHeld=>?_)
          ·first | assumption | first | (simp [*];done) | (simp [go_sem, *];done) | (go_keep;done)
          clear hK K
          try simp only [Act.put,List.setIfInBounds_toArray,List.set_cons_zero,List.set_cons_succ]
          refine wpAnyH_take (i:=21) (oi:=?ozb22) (v:=?vzb22) ?hizb22 (by kernel_rfl) (by kernel_rfl) (by kernel_rfl) (fun _ _ _ h=>h) (Or.inl ⟨?hwzb22, ?hyzb22⟩) (by assumption) ?restzb22
          case hizb22=>(simp only [List.getElem?_toArray,List.getElem?_cons_succ,List.getElem?_cons_zero];rfl)
          case hwzb22=>rfl
          case hyzb22=>(intro w hSw;(try dsimp only at hSw);go_simp;with_reducible rfl)
          try simp only [Act.put,List.setIfInBounds_toArray,List.set_cons_zero,List.set_cons_succ]
          refine wpAnyH_ready (rs:=[22]) (by kernel_rfl) (by simp) ?_
          refine AllReadyH.cons (o:=?oyb23) ?hyb23 (fun K hK=>?byb23) AllReadyH.nil
          case hyb23=>(simp only [List.getElem?_toArray,List.getElem?_cons_succ,List.getElem?_cons_zero];rfl)
          go_simp
          refine hK.out _ _ ?_ (fun hHeld=>?_)
          ·first | assumption | first | (simp [*];done) | (simp [go_sem, *];done) | (go_keep;done)
          clear hK K
          try simp only [Act.put,List.setIfInBounds_toArray,List.set_cons_zero,List.set_cons_succ]
          refine wpAnyH_done (by kernel_rfl) ?_ _
          refine NoPanic.normal ?_
          go_wp2_with (fail)
          have hp:=ei.put hk4' hiX (ho4.mono (by have q:=hk3'.size;first | exact q | simpa using q))
          rw [HEQ.out] at hp
          go_roundw
          case rel=>exact ⟨i + 1,_,by omega,by go_num,hp⟩
          case measure=>simp [intOf];omega
         case btb16_11 =>
          go_simp
          refine hK.out _ _ ?_ (fun hHeld=>?_)
          ·first | assumption | first | (simp [*];done) | (simp [go_sem, *];done) | (go_keep;done)
          clear hK K
          try simp only [Act.put,List.setIfInBounds_toArray,List.set_cons_zero,List.set_cons_succ]
          refine wpAnyH_take (i:=13) (oi:=?ozb24) (v:=?vzb24) ?hizb24 (by kernel_rfl) (by kernel_rfl) (by kernel_rfl) (fun _ _ _ h=>h) (Or.inl ⟨?hwzb24, ?hyzb24⟩) (by assumption) ?restzb24
          case hizb24=>(simp only [List.getElem?_toArray,List.getElem?_cons_succ,List.getElem?_cons_zero];rfl)
          case hwzb24=>rfl
          case hyzb24=>(intro w hSw;(try dsimp only at hSw);go_simp;with_reducible rfl)
          try simp only [Act.put,List.setIfInBounds_toArray,List.set_cons_zero,List.set_cons_succ]
          refine wpAnyH_take (i:=14) (oi:=?ozb25) (v:=?vzb25) ?hizb25 (by kernel_rfl) (by kernel_rfl) (by kernel_rfl) (fun _ _ _ h=>h) (Or.inl ⟨?hwzb25, ?hyzb25⟩) (by assumption) ?restzb25
          case hizb25=>(simp only [List.getElem?_toArray,List.getElem?_cons_succ,List.getElem?_cons_zero];rfl)
          case hwzb25=>rfl
          case hyzb25=>(intro w hSw;(try dsimp only at hSw);go_simp;with_reducible rfl)
          try simp only [Act.put,List.setIfInBounds_toArray,List.set_cons_zero,List.set_cons_succ]
          refine wpAnyH_ready (rs:=[6,15]) (by kernel_rfl) (by simp) ?_
          refine (AllReadyH.cons (o:=?otb26_6) ?htb26_6 (fun K hK=>?btb26_6) (AllReadyH.cons (o:=?otb26_15) ?htb26_15 (fun K hK=>?btb26_15) AllReadyH.nil))
          case htb26_6=>(simp only [List.getElem?_toArray,List.getElem?_cons_succ,List.getElem?_cons_zero];rfl)
          case htb26_15=>(simp only [List.getElem?_toArray,List.getElem?_cons_succ,List.getElem?_cons_zero];rfl)
          case btb26_6 =>
           go_simp
           refine hK.out _ _ ?_ (fun hHeld=>?_)
           ·first | assumption | first | (simp [*];done) | (simp [go_sem, *];done) | (go_keep;done)
           clear hK K
           try simp only [Act.put,List.setIfInBounds_toArray,List.set_cons_zero,List.set_cons_succ]
           refine wpAnyH_ready (rs:=[15]) (by kernel_rfl) (by simp) ?_
           refine AllReadyH.cons (o:=?oyb27) ?hyb27 (fun K hK=>?byb27) AllReadyH.nil
           case hyb27=>(simp only [List.getElem?_toArray,List.getElem?_cons_succ,List.getElem?_cons_zero];rfl)
           go_simp
           go_at_call 289;(with_reducible refine (rNeg_field G t P0 M0 mod vm z _ ho).mono ?_);rintro e w3 ⟨rfl,hk3⟩;have hk3':Kept wi w3:=(by first | exact hk3 | exact (kept_drew _).tr hk3 | exact (kept_drewN _ _).tr hk3);have bf3:=bfi.kept hk3';have d30:=bf3.h0;have d31:=bf3.h1;have d32:=bf3.h2;have d33:=(hk3'.cell' lbi).trans x3;have d34:=(hk3'.cell' lg).trans x1;have d35:=(hk3'.cell' lg).trans y1
           try go_wp2_with (fail)
           refine hK.out _ _ ?_ (fun hHeld=>?_)
           ·first | assumption | first | (simp [*];done) | (simp [go_sem, *];done) | (go_keep;done)
           clear hK K
           try simp only [Act.put,List.setIfInBounds_toArray,List.set_cons_zero,List.set_cons_succ]
           refine wpAnyH_ready (rs:=[20]) (by kernel_rfl) (by simp) ?_
           refine AllReadyH.cons (o:=?oyb28) ?hyb28 (fun K hK=>?byb28) AllReadyH.nil
           case hyb28=>(simp only [List.getElem?_toArray,List.getElem?_cons_succ,List.getElem?_cons_zero];rfl)
           go_simp
           go_at_call 288;(with_reducible refine (rAddTo_any G t P0 M0 mod vm (negG G z) _ _ (Gj.row X i) (Gj.row X P.length) _ ho (by first | exact hvmi.kept hk3' | exact (hvmi.kept hk3').kept (kept_drew _) | exact (hvmi.kept hk3').kept (kept_drewN _ _)) (by first | exact hrs.kept hk3' | exact (hrs.kept hk3').kept (kept_drew _) | exact (hrs.kept hk3').kept (kept_drewN _ _)) (by first | exact hrp.kept hk3' | exact (hrp.kept hk3').kept (kept_drew _) | exact (hrp.kept hk3').kept (kept_drewN _ _)) hll hln).mono ?_);rintro e w4 ⟨v4,rfl,ho4,hk4⟩;have hk4':Kept wi w4:=(by first | exact hk3'.tr hk4 | exact (hk3'.tr (kept_drew _)).tr hk4 | exact (hk3'.drewN _).tr hk4);obtain ⟨n4,hn4⟩:∃ n,n=(axpy (opG G) (negG G z) (Gj.row X P.length) (Gj.row X i)).length:=⟨_,rfl⟩;obtain ⟨a4,c4,e4,_,_⟩:=ho4.sl.lenOf;rw [← hn4] at e4;subst e4;clear hn4;have bf4:=bfi.kept hk4';have d40:=bf4.h0;have d41:=bf4.h1;have d42:=bf4.h2;have d43:=(hk4'.cell' lbi).trans x3;have f4:=(hk4'.frozen' lg).trans f1;have d44:=(hk4'.cell' lg).trans x1;have d45:=(hk4'.cell' lg).trans y1
           try go_wp2_with (fail)
           refine hK.out _ _ ?_ (fun hHeld=>?_)
           ·first | assumption | first | (simp [*];done) | (simp [go_sem, *];done) | (go_keep;done)
           clear hK K
           try simp only [Act.put,List.setIfInBounds_toArray,List.set_cons_zero,List.set_cons_succ]
           refine wpAnyH_take (i:=21) (oi:=?ozb29) (v:=?vzb29) ?hizb29 (by kernel_rfl) (by kernel_rfl) (by kernel_rfl) (fun _ _ _ h=>h) (Or.inl ⟨?hwzb29, ?hyzb29⟩) (by assumption) ?restzb29
           case hizb29=>(simp only [List.getElem?_toArray,List.getElem?_cons_succ,List.getElem?_cons_zero];rfl)
           case hwzb29=>rfl
           case hyzb29=>(intro w hSw;(try dsimp only at hSw);go_simp;with_reducible rfl)
           try simp only [Act.put,List.setIfInBounds_toArray,List.set_cons_zero,List.set_cons_succ]
           refine wpAnyH_ready (rs:=[22]) (by kernel_rfl) (by simp) ?_
           refine AllReadyH.cons (o:=?oyb30) ?hyb30 (fun K hK=>?byb30) AllReadyH.nil
           case hyb30=>(simp only [List.getElem?_toArray,List.getElem?_cons_succ,List.getElem?_cons_zero];rfl)
           go_simp
           refine hK.out _ _ ?_ (fun hHeld=>?_)
           ·first | assumption | first | (simp [*];done) | (simp [go_sem, *];done) | (go_keep;done)
           clear hK K
           try simp only [Act.put,List.setIfInBounds_toArray,List.set_cons_zero,List.set_cons_succ]
           refine wpAnyH_done (by kernel_rfl) ?_ _
           refine NoPanic.normal ?_
           go_wp2_with (fail)
           have hp:=ei.put hk4' hiX (ho4.mono (by have q:=hk3'.size;first | exact q | simpa using q))
           rw [HEQ.out] at hp
           go_roundw
           case rel=>exact ⟨i + 1,_,by omega,by go_num,hp⟩
           case measure=>simp [intOf];omega
          case btb26_15 =>
           go_simp
           go_at_call 289;(with_reducible refine (rNeg_field G t P0 M0 mod vm z _ ho).mono ?_);rintro e w3 ⟨rfl,hk3⟩;have hk3':Kept wi w3:=(by first | exact hk3 | exact (kept_drew _).tr hk3 | exact (kept_drewN _ _).tr hk3);have bf3:=bfi.kept hk3';have d30:=bf3.h0;have d31:=bf3.h1;have d32:=bf3.h2;have d33:=(hk3'.cell' lbi).trans x3;have d34:=(hk3'.cell' lg).trans x1;have d35:=(hk3'.cell' lg).trans y1
           try go_wp2_with (fail)
           refine hK.out _ _ ?_ (fun hHeld=>?_)
           ·first | assumption | first | (simp [*];done) | (simp [go_sem, *];done) | (go_keep;done)
           clear hK K
           try simp only [Act.put,List.setIfInBounds_toArray,List.set_cons_zero,List.set_cons_succ]
           refine wpAnyH_ready (rs:=[6]) (by kernel_rfl) (by simp) ?_
           refine AllReadyH.cons (o:=?oyb31) ?hyb31 (fun K hK=>?byb31) AllReadyH.nil
           case hyb31=>(simp only [List.getElem?_toArray,List.getElem?_cons_succ,List.getElem?_cons_zero];rfl)
           go_simp
           refine hK.out _ _ ?_ (fun hHeld=>?_)
           ·first | assumption | first | (simp [*];done) | (simp [go_sem, *];done) | (go_keep;done)
           clear hK K
           try simp only [Act.put,List.setIfInBounds_toArray,List.set_cons_zero,List.set_cons_succ]
           refine wpAnyH_ready (rs:=[20]) (by kernel_rfl) (by simp) ?_
           refine AllReadyH.cons (o:=?oyb32) ?hyb32 (fun K hK=>?byb32) AllReadyH.nil
           case hyb32=>(simp only [List.getElem?_toArray,List.getElem?_cons_succ,List.getElem?_cons_zero];rfl)
           go_simp
           go_at_call 288;(with_reducible refine (rAddTo_any G t P0 M0 mod vm (negG G z) _ _ (Gj.row X i) (Gj.row X P.length) _ ho (by first | exact hvmi.kept hk3' | exact (hvmi.kept hk3').kept (kept_drew _) | exact (hvmi.kept hk3').kept (kept_drewN _ _)) (by first | exact hrs.kept hk3' | exact (hrs.kept hk3').kept (kept_drew _) | exact (hrs.kept hk3').kept (kept_drewN _ _)) (by first | exact hrp.kept hk3' | exact (hrp.kept hk3').kept (kept_drew _) | exact (hrp.kept hk3').kept (kept_drewN _ _)) hll hln).mono ?_);rintro e w4 ⟨v4,rfl,ho4,hk4⟩;have hk4':Kept wi w4:=(by first | exact hk3'.tr hk4 | exact (hk3'.tr (kept_drew _)).tr hk4 | exact (hk3'.drewN _).tr hk4);obtain ⟨n4,hn4⟩:∃ n,n=(axpy (opG G) (negG G z) (Gj.row X P.length) (Gj.row X i)).length:=⟨_,rfl⟩;obtain ⟨a4,c4,e4,_,_⟩:=ho4.sl.lenOf;rw [← hn4] at e4;subst e4;clear hn4;have bf4:=bfi.kept hk4';have d40:=bf4.h0;have d41:=bf4.h1;have d42:=bf4.h2;have d43:=(hk4'.cell' lbi).trans x3;have f4:=(hk4'.frozen' lg).trans f1;have d44:=(hk4'.cell' lg).trans x1;have d45:=(hk4'.cell' lg).trans y1
           try go_wp2_with (fail)
           refine hK.out _ _ ?_ (fun hHeld=>?_)
           ·first | assumption | first | (simp [*];done) | (simp [go_sem, *];done) | (go_keep;done)
           clear hK K
           try simp only [Act.put,List.setIfInBounds_toArray,List.set_cons_zero,List.set_cons_succ]
           refine wpAnyH_take (i:=21) (oi:=?ozb33) (v:=?vzb33) ?hizb33 (by kernel_rfl) (by kernel_rfl) (by kernel_rfl) (fun _ _ _ h=>h) (Or.inl ⟨?hwzb33, ?hyzb33⟩) (by assumption) ?restzb33
           case hizb33=>(simp only [List.getElem?_toArray,List.getElem?_cons_succ,List.getElem?_cons_zero];rfl)
           case hwzb33=>rfl
           case hyzb33=>(intro w hSw;(try dsimp only at hSw);go_simp;with_reducible rfl)
           try simp only [Act.put,List.setIfInBounds_toArray,List.set_cons_zero,List.set_cons_succ]
           refine wpAnyH_ready (rs:=[22]) (by kernel_rfl) (by simp) ?_
           refine AllReadyH.cons (o:=?oyb34) ?hyb34 (fun K hK=>?byb34) AllReadyH.nil
           case hyb34=>(simp only [List.getElem?_toArray,List.getElem?_cons_succ,List.getElem?_cons_zero];rfl)
           go_simp
           refine hK.out _ _ ?_ (fun hHeld=>?_)
           ·first | assumption | first | (simp [*];done) | (simp [go_sem, *];done) | (go_keep;done)
           clear hK K
           try simp only [Act.put,List.setIfInBounds_toArray,List.set_cons_zero,List.set_cons_succ]
           refine wpAnyH_done (by kernel_rfl) ?_ _
           refine NoPanic.normal ?_
           go_wp2_with (fail)
           have hp:=ei.put hk4' hiX (ho4.mono (by have q:=hk3'.size;first | exact q | simpa using q))
           rw [HEQ.out] at hp
           go_roundw
           case rel=>exact ⟨i + 1,_,by omega,by go_num,hp⟩
           case measure=>simp [intOf];omega
      ·have hie:i=A0.length:=by omega
       have hin':¬ (i:Int) < (A0.length:Int):=by omega
       have HP:Hid (X=pivL (opG G) A P.length (fnd A c P.length) c):=hid (by
        rw [HX2.out,hie,HPI.out,← pv2_piv (by omega),pv2,HT.out,HS'.out,← hAl]
        try rw [length_scR,length_swpL])
       have hfk:fnd A c P.length < A.length:=by rw [HPI.out];exact hkA
       have HR:=hid (hr.step t hlt hfk)
       have HG:Hid (gj (opG G) (cols - (c + 1)) (c + 1) (pivL (opG G) A P.length (fnd A c P.length) c) (P ++ [c])=gj (opG G) cols 0 A0 []):=hid (by
        rw [← hgP.out,show cols - c=cols - (c + 1) + 1 by omega,gj_yes hfk])
       have hPI':(ints P).length=P.length:=by simp [ints]
       have hP256:P.length≤256:=by omega
       have HPL:=hid hPI'
       have hkw:=kept_alloc wi (.cells #[.int .i64 c] 3)
       have ew:=ei.kept hkw
       rw [HP.out] at HXl ew
       have hB1:w1.heap.size≤(wi.alloc (.cells #[.int .i64 c] 3)).heap.size:=ew.k.size
       clear hie hPI'
       go_wp2_with (at_builtin;refine wpList_append_at rfl _ _ rfl w1.heap.size _ (ints P) rfl ew.p ⟨wi.heap.size,0,none⟩ c rfl (cell_new rfl) (by rw [HPL.out];omega) hB1 ?_;intro g' cap' w7 o7 hg7 hd7;rw [HPL.out] at o7 ⊢)
       have HIN:Hid (ints P ++ [(c:Int)]=ints (P ++ [c])):=hid (by simp [ints])
       rw [HIN.out] at o7
       have ex:=ew.app hg7 o7 hd7
       clear o7 hg7 hd7
       go_roundw
       case rel=>exact ⟨c + 1,_,P ++ [c],some ⟨g',0,none⟩,cap',s3,by omega,by simp,by simp,by go_num,by simpa using ex,HR.out,HXl,HG⟩
       case measure=>simp [intOf];omega
end Go.Proofs.YtoilbeadokallaaGreatDoor
