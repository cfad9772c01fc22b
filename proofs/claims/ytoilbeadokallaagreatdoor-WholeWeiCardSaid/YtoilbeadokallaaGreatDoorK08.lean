/- Lemmas on the way to the row, merged: walks of functions and plain algebra. Conditions: each lemma's own, stated with it. -/
import Derived.Test.YtoilbeadokallaaGreatDoorK01
import Derived.Test.YtoilbeadokallaaGreatDoorK02
import Derived.Test.YtoilbeadokallaaGreatDoorK07
import Derived.Deep.DeepCutAuto
namespace Go.Proofs.YtoilbeadokallaaGreatDoor
open Go.RowKit Cw
def lenOf:Value→Nat
 | .slice _ n _=>n
 | _=>0
theorem Own.lenOf {w:World} {B:Nat} {v:Value} {xs:List Int} (h:Own w B v xs):lenOf v=xs.length:=by
 rcases h.form with ⟨rfl,rfl⟩ | ⟨g,cap,rfl,_⟩ <;> rfl
set_option maxHeartbeats 1000000 in
theorem powers_any (p:Int) (m:Nat) (vm:Value) (mod:List Int) (q x:Int) (w:World) (hvm:Sl w vm mod) (hp:2≤p) (hp2:p≤256) (hm:1≤m) (hm2:m≤8) (hq:p ^ m=q) (hq2:q≤256)
  (hml:1 < m→mod.length=m) (hmd:Digs p mod) (hx0:1≤x) (hx1:x < q) :
  Calls Tryz.prog 89 #[.agg #[.int .i64 p,.int .i64 m,vm],.int .i64 q,.int .i64 x] w fun e w'=>∃ v,e=.returned v∧Own w' w.heap.size v (powL p m mod x)∧Kept w w':=by
 obtain ⟨qn,rfl⟩:=Int.eq_ofNat_of_zero_le (show 0≤q by omega)
 have HQ:=hid hq
 clear hq
 go_enter Tryz.func89,Tryz.ntmps89
 go_wp2_with (at_make;refine wpList_make_bools rfl _ _ rfl qn _ _ rfl rfl rfl rfl (by omega) ?_;intro w1 ho' hk';have ho:OwnB w1 (w.heap.size + 1) (.slice (some ⟨w.heap.size + 1 + 1,0,none⟩) qn qn) (List.replicate qn false):=(by simpa using ho'.mono (B':=w.heap.size + 1) (by simp));have fz:=ho.frozen 1;have c1:=ho.cell (i:=1) (by simp;omega))
 have hk:Kept ((w.alloc (.cells #[.int .i64 p,.int .i64 m,vm] 24)).alloc (.cells #[.int .i64 1] 3)) w1:=hk'
 have hb0:Below (w.heap.size + 1) (w.alloc (.cells #[.int .i64 p,.int .i64 m,vm] 24)) w1:=((Below.refl _ _).alloc (by simp) _).trans (hk.mono (by simp))
 have hb1:=Below.setCell hb0 (p:=⟨w.heap.size + 1 + 1,1,none⟩) (by simp) (.bool true)
 have hbx:=boxF_new w p m vm 24
 have hvm1:Sl (w.alloc (.cells #[.int .i64 p,.int .i64 m,vm] 24)) vm mod:=hvm.kept (kept_alloc _ _)
 have hout1:Own w1 (w.heap.size + 1) (.slice (some ⟨w.heap.size + 1,0,none⟩) 1 1) [1]:=by
  have h0:=World.ownsRow_lit (size:=1) (e:=3) (base:=w.heap.size + 1) (w.alloc (.cells #[.int .i64 p,.int .i64 m,vm] 24)) #[.int .i64 1] 1 (by simp) (by unfold maxLen;omega) rfl
  have h1:Own ((w.alloc (.cells #[.int .i64 p,.int .i64 m,vm] 24)).alloc (.cells #[.int .i64 1] 3)) (w.heap.size + 1) (.slice (some ⟨w.heap.size + 1,0,none⟩) 1 1) [1]:=by unfold Own;simpa using h0
  exact h1.kept hk
 have hout:=hout1.setB ho 1 (.bool true)
 have hseen:=ho.set 1 true
 clear ho' ho hk' hk hb0 hout1 fz c1
 have hse:=seen_start (q:=qn) (by omega)
 have hfin:Hid (powsF (fun y=>mulS p m mod y x) qn [1] x=powL p m mod x):=hid (by unfold powL;rw [HQ.out];rfl)
 obtain ⟨bs0,hbs0⟩:∃ b,b=(List.replicate qn false).set 1 true:=⟨_,rfl⟩
 rw [← hbs0] at hseen hse
 clear hbs0
 obtain ⟨f,hf⟩:∃ f:Int→Int,f=(fun y=>mulS p m mod y x):=⟨_,rfl⟩
 rw [← hf] at hfin
 have Hf:Hid (∀ y,mulS p m mod y x=f y):=hid (fun y=>by rw [hf])
 clear hf
 obtain ⟨gl,hgl⟩:∃ g,g=powL p m mod x:=⟨_,rfl⟩
 rw [← hgl] at hfin
 have HG:=hid hgl
 clear hgl
 generalize w1.setCell { block:=w.heap.size + 1 + 1,off:=1 } (Value.bool true)=w2 at *
 go_loopw [7,9] (fun v vy wr=>∃ (acc:List Int) (y:Nat) (bs:List Bool) (n:Nat),vy=.int .i64 y∧y < qn∧Own wr (w.heap.size + 1) v acc∧OwnB wr (w.heap.size + 1) (.slice (some ⟨w.heap.size + 1 + 1,0,none⟩) qn qn) bs∧Seen qn bs acc ∧
   Hid (powsF f n acc y=gl)∧qn≤n + acc.length∧Below (w.heap.size + 1) (w.alloc (.cells #[.int .i64 p,.int .i64 m,vm] 24)) wr) (fun v _ _=>qn - lenOf v)
 case atStart =>
  obtain ⟨xn,rfl⟩:=Int.eq_ofNat_of_zero_le (show 0≤x by omega)
  exact ⟨[1],xn,bs0,qn,rfl,by omega,hout,hseen,hse,hfin,by omega,hb1⟩
 case round =>
  obtain ⟨acc,y,bs,n,rfl,hy,hown,hownb,hs,hpow,hqn,hbel⟩:=hrel
  clear hout hseen hse hfin hb1
  have cS:=hownb.cell (i:=y) (by rw [hs.1];exact hy)
  have fS:=hownb.frozen y
  have hbw:=hbx.below hbel (by simp)
  have hvmw:=hvm1.below hbel (by simp)
  obtain ⟨b0,b1,b2,b3⟩:=hbw
  have hkw:Kept w wr:=(kept_alloc w _).tr (hbel.mono (by simp))
  by_cases hy0:y=0
  ·subst hy0
   have e1:Hid (acc=gl):=hid (by rw [← hpow.out];exact (powsF_stop (.inl rfl)).symm)
   clear cS fS hbel hbx
   go_wp2_with (fail)
   go_ret
   exact ⟨_,rfl,by rw [← HG.out,← e1.out];exact hown.mono (by omega),hkw⟩
  ·have t0:((y:Int) != 0)=true:=by simp;omega
   by_cases hyb:bs.getD y false=true
   ·have e1:Hid (acc=gl):=hid (by rw [← hpow.out];exact (powsF_stop (.inr ((hs.2.1 y hy).1 hyb))).symm)
    rw [hyb] at cS
    clear fS hbel hbx hyb
    go_wp2_with (fail)
    go_ret
    exact ⟨_,rfl,by rw [← HG.out,← e1.out];exact hown.mono (by omega),hkw⟩
   ·have hyb':bs.getD y false=false:=by simpa using hyb
    have hnm:Hid ((y:Int) ∉ acc):=hid (fun h=>hyb ((hs.2.1 y hy).2 h))
    have hs':=seen_step hs hy hyb'
    have hsl:=seen_le hs hy hyb'
    rw [hyb'] at cS
    clear hyb hyb'
    have hown1:=hown.setB hownb y (.bool true)
    have hownb1:=hownb.set y true
    have hbel1:=Below.setCell hbel (p:=⟨w.heap.size + 1 + 1,y,none⟩) (by simp) (.bool true)
    clear hown hownb hbel
    have hlen:acc.length + 1≤1000000:=by omega
    have hB:w.heap.size + 1≤wr.heap.size:=by have:=hownb1.lt;simp at this;omega
    have hHf:=Hf
    go_wp2_with (first
     | (at_builtin;(refine wpList_append_one rfl (.tmp 32) (.tmp 34) rfl (w.heap.size + 1) _ acc rfl (hown1.kept (kept_alloc _ _)) ⟨wr.heap.size,0,none⟩ y rfl (cell_new (by simp)) hlen (by simp;omega) ?_);intro v' w3 hown3 hgr3;have hnb3:=(hownb1.kept (kept_alloc _ (.cells #[.int .i64 y] 3))).append (hown1.kept (kept_alloc _ _)) hgr3;have hbel3:=below_append (hbel1.alloc (by simp;omega) (.cells #[.int .i64 y] 3)) (by simp;omega) (hown1.kept (kept_alloc _ _)) (Nat.le_refl _) hgr3;have hbx3:=hbx.below hbel3 (by simp);have d0:=hbx3.h0;have d1:=hbx3.h1;have d2:=hbx3.h2)
     | (go_at_call 90;refine (multiply_any p m vm mod y x _ (hvm1.below (by assumption) (by simp)) hp hp2 hm hm2 (by rw [HQ.out];exact hq2) hml hmd (by omega) (by omega) (by omega) (by omega)).mono ?_;rintro e w4 ⟨rfl,hk4⟩;rw [hHf.out]))
    have hfb:=mulS_bd (p:=p) (by omega) m mod y x
    rw [hHf.out,HQ.out] at hfb
    obtain ⟨yn,hyn⟩:=Int.eq_ofNat_of_zero_le hfb.1
    have hb4:=hbel3.trans (hk4.mono (by have:=hbel3.size;have:=hnb3.lt;omega))
    have hgo:=hpow.out
    rw [powsF_go (by omega) hnm.out (by omega)] at hgo
    have ho4:=hown3.kept hk4
    have hn4:=hnb3.kept hk4
    have hl1:=hown1.lenOf
    have hl4:=ho4.lenOf
    go_roundw
    case rel=>exact ⟨acc ++ [(y:Int)],yn,bs.set y true,n - 1,val_int hyn,by omega,ho4,hn4,hs',hid (by rw [← hyn];exact hgo),by simp;omega,hb4⟩
    case measure =>
     simp only [List.length_append,List.length_singleton] at hl4
     show qn - lenOf _ < qn - lenOf _
     rw [hl4,hl1]
     omega
end Go.Proofs.YtoilbeadokallaaGreatDoor
namespace Go.Proofs.YtoilbeadokallaaGreatDoor
open Go.RowKit Cw
set_option maxHeartbeats 1000000 in
theorem generator_any (p:Int) (m:Nat) (vm:Value) (mod:List Int) (q:Nat) (w:World) (hvm:Sl w vm mod) (hp:2≤p) (hp2:p≤256) (hm:1≤m) (hm2:m≤8) (hq:p ^ m=(q:Int)) (hq2:q≤256)
  (hml:1 < m→mod.length=m) (hmd:Digs p mod) :
  Calls Tryz.prog 45 #[.agg #[.int .i64 p,.int .i64 m,vm],.int .i64 q] w fun e w'=>Kept w w' ∧
   ((∃ g v,1≤g∧g < (q:Int)∧IsGen p m mod q g∧e=.returned v∧Own w' w.heap.size v (powL p m mod g)) ∨
    ((∀ x,1≤x→x < (q:Int)→¬ IsGen p m mod q x)∧e=.returned (.slice none 0 0))):=by
 have hq3:2≤q:=by
  have h2:p ^ 1≤p ^ m:=pow_le (by omega) hm
  rw [Int.pow_one] at h2
  omega
 have HQ:=hid hq
 clear hq
 have hbx:=boxF_new w p m vm 24
 have hvm1:Sl (w.alloc (.cells #[.int .i64 p,.int .i64 m,vm] 24)) vm mod:=hvm.kept (kept_alloc _ _)
 have hk0:=kept_alloc w (.cells #[.int .i64 p,.int .i64 m,vm] 24)
 go_enter Tryz.func45,Tryz.ntmps45
 go_wp2_with (fail)
 obtain ⟨w0,hw0⟩:∃ w0,w0=w.alloc (.cells #[.int .i64 p,.int .i64 m,vm] 24):=⟨_,rfl⟩
 rw [← hw0] at hbx hvm1 hk0 ⊢
 clear hw0
 go_loopw [5] (fun vx wr=>∃ x:Int,1≤x∧x≤q∧vx=.int .i64 x∧Hid (∀ y,1≤y→y < x→¬ IsGen p m mod q y)∧Kept w0 wr) (fun vx _=>((q:Int) - intOf vx).toNat)
 case atStart=>exact ⟨1,by omega,by omega,rfl,hid (fun y h1 h2=>by omega),Kept.rfl' _⟩
 case round =>
  obtain ⟨x,hx1,hx2,rfl,hno,hkr⟩:=hrel
  have hb:=hbx.kept hkr
  have hv:=hvm1.kept hkr
  obtain ⟨b0,b1,b2,b3⟩:=hb
  by_cases hlt:x < q
  ·go_wp2_with (go_at_call 89;refine (powers_any p m vm mod q x _ hv hp hp2 hm hm2 HQ.out (by omega) hml hmd hx1 hlt).mono ?_;rintro e w1 ⟨v,rfl,ho,hk1⟩)
   rcases ho.form with ⟨_,hnil⟩ | ⟨g,cap,rfl,hg1,hg2,hg3,hg4⟩
   ·exact absurd hnil (powL_ne _ _ _ _)
   obtain ⟨ls,hls⟩:∃ l,l=powL p m mod x:=⟨_,rfl⟩
   rw [← hls] at ho hg3 ⊢
   have hlb:∀ z ∈ ls,0≤z∧z < (q:Int):=by rw [hls,← HQ.out];exact powL_bd hp hm mod (by omega) (by rw [HQ.out];exact hlt)
   have hne:ls ≠ []:=by rw [hls];exact powL_ne _ _ _ _
   have hgen:Hid (IsGen p m mod q x ↔ ls.length=q - 1∧mulS p m mod (ls.getD (q - 2) 0) x=1):=hid (by unfold IsGen;rw [hls])
   have HL:=hid hls
   clear hls
   have hb1:=(hbx.kept hkr).kept hk1
   have hv1:=hv.kept hk1
   have e1:=hb1.h0
   have e2:=hb1.h1
   have e3:=hb1.h2
   have hkk:=hkr.tr hk1
   clear b0 b1 b2 b3 hk1 hv
   have hlen:Hid (ls.length ≠ 0):=hid (fun h=>hne (List.eq_nil_of_length_eq_zero h))
   clear hne
   by_cases hl:ls.length=q - 1
   ·have t1:((ls.length:Int) == (q:Int) - 1)=true:=by simp;omega
    have hq2n:2≤(q:Int):=by omega
    have hi0:(0:Int)≤(q:Int) - 2:=by omega
    have hi1:(q:Int) - 2 < (ls.length:Int):=by omega
    have cP:=ho.cell (i:=q - 2) (by omega)
    have hzb:0≤ls.getD (q - 2) 0∧ls.getD (q - 2) 0 < (q:Int):=hlb _ (by simp only [List.getD,List.getElem?_eq_getElem (show q - 2 < ls.length by omega),Option.getD_some];exact List.getElem_mem _)
    obtain ⟨z,hz⟩:∃ z,z=ls.getD (q - 2) 0:=⟨_,rfl⟩
    rw [← hz] at cP hzb hgen
    clear hz hlb
    have HLq:=hid hl
    clear hl
    have hgz:Hid (IsGen p m mod q x ↔ mulS p m mod z x=1):=hid (hgen.out.trans ⟨fun h=>h.2,fun h=>⟨HLq.out,h⟩⟩)
    clear hgen
    by_cases h1:mulS p m mod z x=1
    ·have hyes:IsGen p m mod q x:=hgz.out.2 h1
     have H1:=hid h1
     have HY:=hid hyes
     clear h1 hyes
     go_wp2_with (fail)
     have hw1:IntKind.i64.wrap ((q:Int) - 1)=(q:Int) - 1:=IntWalk.i64_in _ (by omega)
     have hw2:IntKind.i64.wrap ((q:Int) - 2)=(q:Int) - 2:=IntWalk.i64_in _ (by clear hw1;omega)
     have hnat:((q:Int) - 2).toNat=q - 2:=by clear hw1 hw2;omega
     go_region_held3 (fun w'=>w'.cell? ⟨w.heap.size,0,none⟩=some (.int .i64 p)∧w'.cell? ⟨w.heap.size,1,none⟩=some (.int .i64 m)∧w'.cell? ⟨w.heap.size,2,none⟩=some vm∧w'.cell? ⟨g,q - 2,none⟩=some (.int .i64 z)) (first | (simp [go_sem, *];done))
      (first | (go_at_call 90;(with_reducible refine (multiply_any p m vm mod z x _ (hv1.kept (kept_drew _)) hp hp2 hm hm2 (by clear hw1 hw2 hnat;rw [HQ.out];omega) hml hmd (by clear hw1 hw2 hnat;omega) (by clear hw1 hw2 hnat;omega) (by clear hw1 hw2 hnat;omega) (by clear hw1 hw2 hnat;omega)).mono ?_);rintro e w2 ⟨rfl,hk2⟩;rw [H1.out];have bx2:=hb1.drew.kept hk2;have a0:=bx2.h0;have a1:=bx2.h1;have a2:=bx2.h2;have a3:=(hk2.cell' (b:=g) (o:=q - 2) hg2).trans cP;have ho2:=ho.drew.kept hk2))
     clear hw1 hw2 hnat
     go_wp2_with (fail)
     go_ret
     exact ⟨hk0.tr (hkk.tr ((kept_drew _).tr hk2)),.inl ⟨x,_,hx1,hlt,HY.out,rfl,by rw [← HL.out];exact ho2.mono (by have:=hk0.size;have:=hkr.size;omega)⟩⟩
    ·have tz:(mulS p m mod z x == 1)=false:=by simpa using h1
     obtain ⟨u,hu⟩:∃ u,u=mulS p m mod z x:=⟨_,rfl⟩
     rw [← hu] at tz
     have HU:=hid hu.symm
     have hN:Hid (¬ IsGen p m mod q x):=hid (fun h=>h1 (hgz.out.1 h))
     clear h1 hu
     go_wp2_with (fail)
     have hw1:IntKind.i64.wrap ((q:Int) - 1)=(q:Int) - 1:=IntWalk.i64_in _ (by omega)
     have hw2:IntKind.i64.wrap ((q:Int) - 2)=(q:Int) - 2:=IntWalk.i64_in _ (by clear hw1;omega)
     have hnat:((q:Int) - 2).toNat=q - 2:=by clear hw1 hw2;omega
     go_region_held3 (fun w'=>w'.cell? ⟨w.heap.size,0,none⟩=some (.int .i64 p)∧w'.cell? ⟨w.heap.size,1,none⟩=some (.int .i64 m)∧w'.cell? ⟨w.heap.size,2,none⟩=some vm∧w'.cell? ⟨g,q - 2,none⟩=some (.int .i64 z)) (first | (simp [go_sem, *];done))
      (first | (go_at_call 90;(with_reducible refine (multiply_any p m vm mod z x _ (hv1.kept (kept_drew _)) hp hp2 hm hm2 (by clear hw1 hw2 hnat;rw [HQ.out];omega) hml hmd (by clear hw1 hw2 hnat;omega) (by clear hw1 hw2 hnat;omega) (by clear hw1 hw2 hnat;omega) (by clear hw1 hw2 hnat;omega)).mono ?_);rintro e w2 ⟨rfl,hk2⟩;rw [HU.out];have bx2:=hb1.drew.kept hk2;have a0:=bx2.h0;have a1:=bx2.h1;have a2:=bx2.h2;have a3:=(hk2.cell' (b:=g) (o:=q - 2) hg2).trans cP))
     clear hw1 hw2 hnat
     go_wp2_with (fail)
     go_roundw
     case rel=>exact ⟨x + 1,by omega,by omega,rfl,hid (fun y g1 g2=>by
      by_cases e:y=x
      ·rw [e];exact hN.out
      ·exact hno.out y g1 (by omega)),hkk.tr ((kept_drew _).tr hk2)⟩
     case measure=>simp [intOf];omega
   ·have t1:((ls.length:Int) == (q:Int) - 1)=false:=by simp;omega
    have hN:Hid (¬ IsGen p m mod q x):=hid (fun h=>hl (hgen.out.1 h).1)
    go_wp2_with (fail)
    have hw1:IntKind.i64.wrap ((q:Int) - 1)=(q:Int) - 1:=IntWalk.i64_in _ (by omega)
    go_quiet (fail)
    clear hw1
    go_wp2_with (fail)
    go_roundw
    case rel=>exact ⟨x + 1,by omega,by omega,rfl,hid (fun y g1 g2=>by
     by_cases e:y=x
     ·rw [e];exact hN.out
     ·exact hno.out y g1 (by omega)),hkk.drewN _⟩
    case measure=>simp [intOf];omega
  ·have e:x=q:=by omega
   subst e
   go_wp2_with (fail)
   go_ret
   exact ⟨hk0.tr hkr,.inr ⟨hno.out,rfl⟩⟩
end Go.Proofs.YtoilbeadokallaaGreatDoor
namespace Go.Proofs.YtoilbeadokallaaGreatDoor
open Go.RowKit Cw
set_option maxHeartbeats 1000000 in
theorem shape_any (P M:Int) (vm:Value) (mod:List Int) (w:World) (hvm:Sl w vm mod) (r:Bool) (hr:r=true ↔ ShapeP P M mod) :
  Calls Tryz.prog 44 #[.agg #[.int .i64 P,.int .i64 M,vm]] w fun e w'=>e=.returned (.bool r)∧Kept w w':=by
 have HR:=hid hr
 clear hr
 have hk0:=kept_alloc w (.cells #[.int .i64 P,.int .i64 M,vm] 24)
 obtain ⟨a,cap,rfl,hcap,hcap2,hc⟩:=hvm
 by_cases ho:ordS P M=0
 ·have hrf:r=false:=by
   cases r
   ·rfl
   ·exact absurd ho (HR.out.1 rfl).1
  subst hrf
  have Ho:=hid ho
  clear ho
  go_enter Tryz.func44,Tryz.ntmps44
  go_wp2_with (go_at_call 46;refine (order_any P M _).mono ?_;rintro e w1 ⟨rfl,n1,rfl⟩;rw [Ho.out])
  go_ret
  exact ⟨rfl,hk0.drewN _⟩
 obtain ⟨o1,o2,o3,o4,o5,o6⟩:=ordS_pos ho
 have t0:(ordS P M == 0)=false:=by simpa using ho
 have HO5:=hid o5
 have HO6:=hid o6
 clear o5 o6
 by_cases hpr:Prm P
 case neg =>
  have hrf:r=false:=by
   cases r
   ·rfl
   ·exact absurd (HR.out.1 rfl).2.1 hpr
  subst hrf
  have Hpr:=hid hpr
  clear hpr
  go_enter Tryz.func44,Tryz.ntmps44
  go_wp2_with (first
   | (go_at_call 46;refine (order_any P M _).mono ?_;rintro e w1 ⟨rfl,n1,rfl⟩)
   | (go_at_call 88;refine (isPrime_no P _ Hpr.out o2).mono ?_;rintro e w1 ⟨rfl,n2,rfl⟩))
  go_ret
  exact ⟨rfl,hk0.drewN _⟩
 have Hpr:=hid hpr
 clear hpr
 by_cases hM1:M=1
 ·subst hM1
  have hrm:r=decide (mod.length=0):=by
   rw [Bool.eq_iff_iff,HR.out]
   simp only [decide_eq_true_eq]
   exact ⟨fun h=>by rw [h.2.2.1 rfl];rfl,fun h=>⟨ho,Hpr.out,fun _=>List.eq_nil_of_length_eq_zero h,fun h=>absurd rfl h⟩⟩
  have HRM:=hid hrm
  clear hrm
  go_enter Tryz.func44,Tryz.ntmps44
  go_wp2_with (first
   | (go_at_call 46;refine (order_any P 1 _).mono ?_;rintro e w1 ⟨rfl,n1,rfl⟩)
   | (go_at_call 88;refine (isPrime_yes P _ Hpr.out o2).mono ?_;rintro e w1 ⟨rfl,n2,rfl⟩))
  go_ret
  exact ⟨ret_bool (by rw [HRM.out,Bool.eq_iff_iff];simp),hk0.drewN _⟩
 have tM:(M == 1)=false:=by simpa using hM1
 by_cases hl:(mod.length:Int)=M
 case neg =>
  have hrf:r=false:=by
   cases r
   ·rfl
   ·exact absurd ((HR.out.1 rfl).2.2.2 hM1).1 hl
  subst hrf
  have tl:((mod.length:Int) != M)=true:=by simpa using hl
  clear hl hM1
  go_enter Tryz.func44,Tryz.ntmps44
  go_wp2_with (first
   | (go_at_call 46;refine (order_any P M _).mono ?_;rintro e w1 ⟨rfl,n1,rfl⟩)
   | (go_at_call 88;refine (isPrime_yes P _ Hpr.out o2).mono ?_;rintro e w1 ⟨rfl,n2,rfl⟩))
  go_ret
  exact ⟨rfl,hk0.drewN _⟩
 have tl:((mod.length:Int) != M)=false:=by simpa using hl
 have hl8:mod.length≤8:=by omega
 have Hrd:Hid (r=true ↔ Digs P mod):=hid ⟨fun h=>((HR.out.1 h).2.2.2 hM1).2,fun h=>HR.out.2 ⟨ho,Hpr.out,fun h=>absurd h hM1,fun _=>⟨hl,h⟩⟩⟩
 clear hl hM1 HR
 go_enter Tryz.func44,Tryz.ntmps44
 go_wp2_with (first
  | (go_at_call 46;refine (order_any P M _).mono ?_;rintro e w1 ⟨rfl,n1,rfl⟩)
  | (go_at_call 88;refine (isPrime_yes P _ Hpr.out o2).mono ?_;rintro e w1 ⟨rfl,n2,rfl⟩))
 go_loop [33] (fun vi=>∃ k:Nat,k≤mod.length∧vi=.int .i64 k∧Hid (∀ i,i < k→0≤mod.getD i 0∧mod.getD i 0 < P)) (fun vi=>mod.length - (intOf vi).toNat)
 case atStart=>exact ⟨0,by omega,rfl,hid (fun i hi=>by omega)⟩
 case round =>
  obtain ⟨k,hk,rfl,hd⟩:=hrel
  by_cases hlt:k < mod.length
  ·obtain ⟨b,off,rfl,hb,hcell⟩:=hc (by intro e;rw [e] at hlt;simp at hlt)
   have hck:=hcell k hlt
   have hmem:mod.getD k 0 ∈ mod:=by simp only [List.getD,List.getElem?_eq_getElem hlt,Option.getD_some];exact List.getElem_mem _
   obtain ⟨z,hz⟩:∃ z,z=mod.getD k 0:=⟨_,rfl⟩
   rw [← hz] at hck hmem
   have HZ:=hid hz
   clear hz hcell
   have hbx:=boxF_new w P M (.slice (some ⟨b,off,none⟩) mod.length cap) 24
   have c0:=hbx.h0
   have hck':=(hk0.cell' (b:=b) (o:=off + k) hb).trans hck
   have hk0':=hk0
   clear hk0 hck hbx
   by_cases hz0:z < 0
   ·have hrf:r=false:=by
     cases r
     ·rfl
     ·have:=(Hrd.out.1 rfl) z hmem;omega
    subst hrf
    go_wp2_with (fail)
    go_ret
    exact ⟨rfl,hk0'.drewN _⟩
   ·by_cases hzP:P≤z
    ·have hrf:r=false:=by
      cases r
      ·rfl
      ·have:=(Hrd.out.1 rfl) z hmem;omega
     subst hrf
     go_wp2_with (fail)
     go_ret
     exact ⟨rfl,hk0'.drewN _⟩
    ·go_wp2_with (fail)
     go_round
     case rel=>exact ⟨k + 1,by omega,by go_num,hid (fun i hi=>by
      by_cases e:i=k
      ·rw [e,← HZ.out];omega
      ·exact hd.out i (by omega))⟩
     case measure=>simp [intOf];omega
  ·have hrt:r=true:=Hrd.out.2 (fun y hy=>by
    obtain ⟨i,hi,rfl⟩:=List.getElem_of_mem hy
    have:=hd.out i (by omega)
    simpa only [List.getD,List.getElem?_eq_getElem hi,Option.getD_some] using this)
   subst hrt
   go_wp2_with (fail)
   go_ret
   exact ⟨rfl,hk0.drewN _⟩
end Go.Proofs.YtoilbeadokallaaGreatDoor
namespace Go.Proofs.YtoilbeadokallaaGreatDoor
open Go.RowKit Cw
structure IsGF (w:World) (b:Nat) (G:GFd):Prop where
 lt:b < w.heap.size
 hP:w.cell? ⟨b,0,none⟩=some (.int .i64 G.P)
 hM:w.cell? ⟨b,1,none⟩=some (.int .i64 G.M)
 hmod:∃ vm,w.cell? ⟨b,2,none⟩=some vm∧Sl w vm G.mod
 hq:w.cell? ⟨b,3,none⟩=some (.int .i64 G.q)
 hexp:∃ be ce,w.cell? ⟨b,4,none⟩=some (.slice (some ⟨be,0,none⟩) G.exp.length ce)∧be < w.heap.size∧∀ i,i < G.exp.length→w.cell? ⟨be,i,none⟩=some (.int .i64 (G.exp.getD i 0))
 hlog:∃ be ce,w.cell? ⟨b,5,none⟩=some (.slice (some ⟨be,0,none⟩) G.log.length ce)∧be < w.heap.size∧∀ i,i < G.log.length→w.cell? ⟨be,i,none⟩=some (.int .i64 (G.log.getD i 0))
theorem IsGF.kept {w w':World} {b:Nat} {G:GFd} (h:IsGF w b G) (k:Kept w w'):IsGF w' b G:=by
 obtain ⟨h1,h2,h3,⟨vm,h4,h5⟩,h6,⟨be,ce,h7,h8,h9⟩,⟨bl,cl,h10,h11,h12⟩⟩:=h
 exact ⟨k.lt h1,(k.cell' h1).trans h2,(k.cell' h1).trans h3,⟨vm,(k.cell' h1).trans h4,h5.kept k⟩,(k.cell' h1).trans h6,⟨be,ce,(k.cell' h1).trans h7,k.lt h8,fun i hi=>(k.cell' h8).trans (h9 i hi)⟩,
  ⟨bl,cl,(k.cell' h1).trans h10,k.lt h11,fun i hi=>(k.cell' h11).trans (h12 i hi)⟩⟩
theorem IsGF.drewN {w:World} {b:Nat} {G:GFd} (h:IsGF w b G) (n:Nat):IsGF (w.drewN n) b G:=h.kept (kept_drewN w n)
theorem IsGF.drew {w:World} {b:Nat} {G:GFd} (h:IsGF w b G):IsGF w.drew b G:=h.kept (kept_drew w)
end Go.Proofs.YtoilbeadokallaaGreatDoor
