/- The walk of New where the description is that of a field. No conditions. -/
import Derived.Test.YtoilbeadokallaaGreatDoorK01
import Derived.Test.YtoilbeadokallaaGreatDoorK08
import Derived.Deep.RegionHeld3
import Derived.Deep.DeepCutAuto
namespace Go.Proofs.YtoilbeadokallaaGreatDoor
open Go.RowKit Cw
structure NewMid (w3 wx:World) (b gl gm cm:Nat) (P M:Int) (q:Nat) (mod:List Int) (vexp:Value):Prop where
 hb:w3.heap.size≤b
 hb2:b < wx.heap.size
 hgl:w3.heap.size≤gl
 hgb:gl ≠ b
 hgm:mod ≠ []→gm ≠ gl
 c0:wx.cell? ⟨b,0,none⟩=some (.int .i64 P)
 c1:wx.cell? ⟨b,1,none⟩=some (.int .i64 M)
 c2:wx.cell? ⟨b,2,none⟩=some (.slice (some ⟨gm,0,none⟩) mod.length cm)
 c3:wx.cell? ⟨b,3,none⟩=some (.int .i64 q)
 c4:wx.cell? ⟨b,4,none⟩=some vexp
 c5:wx.cell? ⟨b,5,none⟩=some (.slice (some ⟨gl,0,none⟩) q q)
 hm:Own wx w3.heap.size (.slice (some ⟨gm,0,none⟩) mod.length cm) mod
 hl:Own wx w3.heap.size (.slice (some ⟨gl,0,none⟩) q q) (List.replicate q 0)
 bel:Below w3.heap.size w3 wx
set_option maxHeartbeats 2000000 in
theorem new_field (P M:Int) (vm:Value) (mod:List Int) (w:World) (hvm:Sl w vm mod) (hs:FieldP P M mod) :
  Calls Tryz.prog 47 #[.agg #[.int .i64 P,.int .i64 M,vm]] w fun e w'=>∃ b G,e=.returned (.tuple #[.pointer (some ⟨b,0,none⟩),.int .i64 0])∧IsGF w' b G∧Tabs G∧G.P=P∧G.M=M∧G.mod=mod∧Kept w w':=by
 have hk0:=kept_alloc w (.cells #[.int .i64 P,.int .i64 M,vm] 24)
 have hv1:=hvm.kept hk0
 have hbx:=boxF_new w P M vm 24
 obtain ⟨hs,hex⟩:=hs
 obtain ⟨o1,o2,o3,o4,o5,o6⟩:=ordS_pos hs.1
 obtain ⟨m,rfl⟩:=Int.eq_ofNat_of_zero_le (show 0≤M by omega)
 have hm:(m:Int).toNat=m:=by omega
 rw [hm] at o5 o6
 have h1:1≤P ^ m:=Int.pow_pos (by omega)
 obtain ⟨q,hq⟩:=Int.eq_ofNat_of_zero_le (show 0≤P ^ m by omega)
 have HO:Hid (ordS P m=q):=hid (by rw [o6,hq])
 have Hq:=hid hq
 have hq2:q≤256:=by omega
 have hml:1 < m→mod.length=m:=fun h=>by have:=(hs.2.2.2 (by omega)).1;omega
 have hml8:mod.length≤8:=by
  by_cases e:m=1
  ·have:=hs.2.2.1 (by omega)
   subst this;simp
  ·have:=(hs.2.2.2 (by omega)).1;omega
 have hmd:Digs P mod:=by
  by_cases e:m=1
  ·have:=hs.2.2.1 (by omega)
   subst this
   intro x hx;cases hx
  ·exact (hs.2.2.2 (by omega)).2
 have HN:Hid (∃ x,1≤x∧x < (q:Int)∧IsGen P m mod q x):=hid (by
  obtain ⟨x,g1,g2,g3⟩:=hex
  rw [HO.out] at g2 g3
  exact ⟨x,g1,g2,by simpa using g3⟩)
 have HS:=hid hs
 clear hs hex hq h1 o5 o6
 go_enter Tryz.func47,Tryz.ntmps47
 go_wp2_with (first
  | (go_at_call 44;refine (shape_any P m vm mod _ hv1 true ⟨fun _=>HS.out,fun _=>rfl⟩).mono ?_;rintro e w1 ⟨rfl,hk1⟩;have bx1:=hbx.kept hk1;have c0:=bx1.h0;have c1:=bx1.h1;have c2:=bx1.h2)
  | (go_at_call 46;refine (order_any P m _).mono ?_;rintro e w2 ⟨rfl,n2,rfl⟩;rw [HO.out])
  | (go_at_call 45;refine (generator_any P m vm mod q _ ((hv1.kept hk1).kept (kept_drewN _ _)) o1 o2 (by omega) (by omega) Hq.out hq2 hml hmd).mono ?_;rintro e w3 ⟨hk3,(⟨g,v,g1,g2,g3,rfl,ho⟩ | ⟨hno,_⟩)⟩;rotate_left;(exact absurd HN.out (fun ⟨x,g1,g2,g3⟩=>hno x g1 g2 g3));rcases ho.form with ⟨_,hnil⟩ | ⟨ge,cap,rfl,hg1,hg2,hg3,hg4⟩;(exact absurd hnil (powL_ne _ _ _ _))))
 have hmk:=run_make_ints q (by omega)
 have bx3:=(bx1.drewN n2).kept hk3
 have d0:=bx3.h0
 have d1:=bx3.h1
 have d2:=bx3.h2
 have hv3:=((hv1.kept hk1).kept (kept_drewN _ n2)).kept hk3
 obtain ⟨av,cv,rfl,hcv1,hcv2,hcv3⟩:=hv3
 have hB0:Below w3.heap.size w3 (w3.alloc (.cells #[] 3)).drew:=((Below.refl _ _).alloc (Nat.le_refl _) _).drew
 have hO0:Own (w3.alloc (.cells #[] 3)).drew w3.heap.size (.slice (some ⟨w3.heap.size,0,none⟩) 0 0) []:=(own_empty (Nat.le_refl _)).drew
 have hB1:Below w3.heap.size w3 ((w3.alloc (.cells #[] 3)).alloc (.cells (madeCells #[.int .i64 0] q) 3)).drew:=(((Below.refl _ _).alloc (Nat.le_refl _) _).alloc (by simp) _).drew
 have hO1:Own ((w3.alloc (.cells #[] 3)).alloc (.cells (madeCells #[.int .i64 0] q) 3)).drew w3.heap.size (.slice (some ⟨w3.heap.size,0,none⟩) 0 0) []:=((own_empty (Nat.le_refl _)).kept (kept_alloc _ _)).drew
 have hB2:Below w3.heap.size w3 ((w3.alloc (.cells (madeCells #[.int .i64 0] q) 3)).alloc (.cells #[] 3)).drew:=(((Below.refl _ _).alloc (Nat.le_refl _) _).alloc (by simp) _).drew
 have hO2:Own ((w3.alloc (.cells (madeCells #[.int .i64 0] q) 3)).alloc (.cells #[] 3)).drew w3.heap.size (.slice (some ⟨w3.heap.size + 1,0,none⟩) 0 0) []:=by
  have h:=own_empty (w:=w3.alloc (.cells (madeCells #[.int .i64 0] q) 3)) (B:=w3.heap.size) (by simp)
  simp at h
  exact h.drew
 have hL1:Own ((w3.alloc (.cells #[] 3)).alloc (.cells (madeCells #[.int .i64 0] q) 3)).drew w3.heap.size (.slice (some ⟨w3.heap.size + 1,0,none⟩) q q) (List.replicate q 0):=by
  have h:=own_make_ints (w:=w3.alloc (.cells #[] 3)) (B:=w3.heap.size) (n:=q) (by omega) (by simp)
  simp only [World.size_alloc] at h
  exact h.drew
 have hL2:Own ((w3.alloc (.cells (madeCells #[.int .i64 0] q) 3)).alloc (.cells #[] 3)).drew w3.heap.size (.slice (some ⟨w3.heap.size,0,none⟩) q q) (List.replicate q 0) :=
  ((own_make_ints (by omega) (Nat.le_refl _)).kept (kept_alloc _ _)).drew
 have hsrc:∀ W,Below w3.heap.size w3 W→∀ ad,av=some ad→∀ j,j < mod.length→W.cell? (ad.add j)=some (.int .i64 (mod.getD j 0)):=fun W hW ad had j hj=>by
  obtain ⟨b',off',e,hb',hc'⟩:=hcv3 (by intro e;rw [e] at hj;simp at hj)
  rw [had] at e
  cases e
  rw [Addr.add_lit]
  exact (Below.cell hW (p:=⟨b',off' + j,none⟩) hb').trans (hc' j hj)
 have hcv0:av=none→cv=0:=hcv2.2
 have hcvs:mod ≠ []→av ≠ none:=fun h=>by
  obtain ⟨b',off',e,_⟩:=hcv3 h
  rw [e];simp
 have Hs:=hid hsrc
 have H0:=hid hcv0
 have H1:=hid hcvs
 clear hsrc hcv0 hcvs hcv3
 go_cut [6] (fun s6 wx=>∃ b gl gm cm:Nat,s6=.pointer (some ⟨b,0,none⟩)∧NewMid w3 wx b gl gm cm P m q mod (.slice (some ⟨ge,0,none⟩) (powL P m mod g).length cap))
 case first =>
  go_region_held3 (fun w'=>w'.cell? ⟨w.heap.size,0,none⟩=some (.int .i64 P)∧w'.cell? ⟨w.heap.size,1,none⟩=some (.int .i64 m)∧w'.cell? ⟨w.heap.size,2,none⟩=some (.slice av mod.length cv)) (first | (go_keep;done) | (simp [*];done))
   (first
    | (refine step_copy_ints rfl (.tmp 26) (.tmp 28) rfl w3.heap.size _ rfl hO2 av mod.length cv mod rfl rfl H0.out H1.out (Hs.out _ hB2) (by omega) ?_;intro gm cm w4 hg4 gm1 gm2 ho4;have hb4:=below_grown hB2 hg4 hB2.size hO2.lt.1;have bx4:=bx3.below hb4 bx3.lt;have e0:=bx4.h0;have e1:=bx4.h1;have e2:=bx4.h2;have hl4:=hL2.grown hg4 (by omega);have gm3:=hid gm1;clear gm1)
    | (refine step_copy_ints rfl (.tmp 26) (.tmp 28) rfl w3.heap.size _ rfl hO0 av mod.length cv mod rfl rfl H0.out H1.out (Hs.out _ hB0) (by omega) ?_;intro gm cm w4 hg4 gm1 gm2 ho4;have hb4:=below_grown hB0 hg4 hB0.size hO0.lt.1;have bx4:=bx3.below hb4 bx3.lt;have e0:=bx4.h0;have e1:=bx4.h1;have e2:=bx4.h2;have gm3:=hid gm1;clear gm1)
    | (refine step_copy_ints rfl (.tmp 26) (.tmp 28) rfl w3.heap.size _ rfl hO1 av mod.length cv mod rfl rfl H0.out H1.out (Hs.out _ hB1) (by omega) ?_;intro gm cm w4 hg4 gm1 gm2 ho4;have hb4:=below_grown hB1 hg4 hB1.size hO1.lt.1;have bx4:=bx3.below hb4 bx3.lt;have e0:=bx4.h0;have e1:=bx4.h1;have e2:=bx4.h2;have hl4:=hL1.grown hg4 (by omega);have gm3:=hid gm1;clear gm1))
  all_goals (go_wp2_with fail;go_meet)
  ·have z:=ho4.lt.2
   have z2:=hb4.size
   exact ⟨w4.heap.size + 1,w4.heap.size,gm,cm,rfl,⟨by omega,by simp,z2,by omega,fun _=>by omega,by simp,by simp,by simp,by simp,by simp,by simp,(ho4.kept (kept_alloc _ _)).kept (kept_alloc _ _),((own_make_ints (by omega) z2).kept (kept_alloc _ _)),(hb4.alloc z2 _).alloc (by simp;omega) _⟩⟩
  ·have z:=hl4.lt.2
   have z2:=hb4.size
   exact ⟨w4.heap.size,w3.heap.size + 1,gm,cm,rfl,⟨by omega,by simp,by omega,by omega,fun h=>by have:=gm3.out h;simp at this;omega,by simp,by simp,by simp,by simp,by simp,by simp,ho4.kept (kept_alloc _ _),hl4.kept (kept_alloc _ _),hb4.alloc z2 _⟩⟩
  ·have z:=hl4.lt.2
   have z2:=hb4.size
   exact ⟨w4.heap.size,w3.heap.size,gm,cm,rfl,⟨by omega,by simp,by omega,by omega,fun h=>by have:=gm3.out h;simp at this;omega,by simp,by simp,by simp,by simp,by simp,by simp,ho4.kept (kept_alloc _ _),hl4.kept (kept_alloc _ _),hb4.alloc z2 _⟩⟩
 case rest =>
  obtain ⟨b,gl,gm,cm,rfl,hmid⟩:=hcut
  clear hL1 hL2 hB0 hB1 hB2 hO0 hO1 hO2 hmk d0 d1 d2 Hs H0 H1 c0 c1 c2
  go_wp2_with (fail)
  obtain ⟨ex,hex⟩:∃ l,l=powL P m mod g:=⟨_,rfl⟩
  have hxb:∀ z ∈ ex,0≤z∧z < (q:Int):=by rw [hex,← Hq.out];exact powL_bd o1 (by omega) mod (by omega) (by rw [Hq.out];exact g2)
  have hnd:Hid (ex.Nodup):=hid (by rw [hex];exact powL_nodup _ _ _ _)
  rw [← hex] at ho hg3 hmid ⊢
  have HX:=hid hex
  clear hex
  have hexc:∀ i,i < ex.length→w3.cell? ⟨ge,i,none⟩=some (.int .i64 (ex.getD i 0)):=fun i hi=>ho.cell hi
  have hL256:ex.length≤256:=by
   have:=g3.1
   rw [← HX.out] at this
   omega
  go_loopw [39] (fun vk wr=>∃ (k:Nat) (lg:List Int),k≤ex.length∧vk=.int .i64 k∧Hid (lg.length=q)∧Hid (∀ i,i < k→lg.getD (ex.getD i 0).toNat 0=i)∧Own wr w3.heap.size (.slice (some ⟨gl,0,none⟩) q q) lg∧wc.grownBy wr (some gl)) (fun vk _=>ex.length - (intOf vk).toNat)
  case atStart=>exact ⟨0,_,by omega,rfl,hid (by simp),hid (fun i hi=>by omega),hmid.hl,World.grownBy.refl _ _⟩
  case round =>
   obtain ⟨k,lg,hk,rfl,hlen,hlg,hown,hgr⟩:=hrel
   have hbg:some b ≠ some gl:=fun e=>hmid.hgb (by cases e;rfl)
   have hsame:∀ o,wr.cell? ⟨b,o,none⟩=wc.cell? ⟨b,o,none⟩:=fun o=>World.cell?_of_block (a:=⟨b,o,none⟩) (hgr.block b hmid.hb2 hbg)
   have hge:some ge ≠ some gl:=fun e=>by have:=hmid.hgl;cases e;omega
   have hexw:∀ i,i < ex.length→wr.cell? ⟨ge,i,none⟩=some (.int .i64 (ex.getD i 0)):=fun i hi =>
    (World.cell?_of_block (a:=⟨ge,i,none⟩) (hgr.block ge (by have:=hmid.bel.size;omega) hge)).trans ((Below.cell hmid.bel (p:=⟨ge,i,none⟩) hg2).trans (hexc i hi))
   by_cases hlt:k < ex.length
   ·have cE:=hexw k hlt
    have hzm:0≤ex.getD k 0∧ex.getD k 0 < (q:Int):=hxb _ (by simp only [List.getD,List.getElem?_eq_getElem hlt,Option.getD_some];exact List.getElem_mem _)
    have hstep:=log_step (lg:=lg) hnd.out hxb hlen.out hlt hlg.out
    obtain ⟨z,hz⟩:=Int.eq_ofNat_of_zero_le hzm.1
    rw [hz] at cE hstep hzm
    have hzq:z < q:=by omega
    have hfz:=hown.frozen z
    have hcz:=hown.cell (i:=z) (by rw [hlen.out];exact hzq)
    have hset:=hown.set z (k:Int)
    have hgr2:=grownBy_trans hgr (grownBy_setCell wr gl z (.int .i64 (k:Int)))
    have c5:=(hsame 5).trans hmid.c5
    have HST:Hid (∀ i,i < k + 1→(lg.set z k).getD (ex.getD i 0).toNat 0=i):=hid (by simpa using hstep)
    clear hexw hsame hown hgr hexc hz hzm hstep
    go_wp2_with (fail)
    go_roundw
    case rel=>exact ⟨k + 1,lg.set z k,by omega,by go_num,hid (by simp [hlen.out]),HST,hset,hgr2⟩
    case measure=>simp [intOf];omega
   ·have hkl:k=ex.length:=by omega
    have hgf:IsGF wr b ⟨P,m,q,mod,ex,lg⟩:=by
     refine ⟨Nat.lt_of_lt_of_le hmid.hb2 hgr.size,(hsame 0).trans hmid.c0,(hsame 1).trans hmid.c1,⟨_,(hsame 2).trans hmid.c2, ?_⟩,(hsame 3).trans hmid.c3,⟨ge,cap,(hsame 4).trans hmid.c4,by have:=hmid.bel.size;have:=hgr.size;omega,hexw⟩,⟨gl,q, ?_,hown.lt.2,fun i hi=>hown.cell hi⟩⟩
     ·by_cases hmn:mod=[]
      ·subst hmn
       refine ⟨_,cm,rfl,Nat.zero_le _,⟨?_,fun e=>by cases e⟩,fun h=>absurd rfl h⟩
       have:=hmid.hm.form
       rcases this with ⟨e,_⟩ | ⟨_,_,e,_,_,_,hc⟩
       ·cases e
       ·cases e;exact hc
      ·exact (hmid.hm.grown hgr (hmid.hgm hmn)).sl
     ·rw [(hsame 5).trans hmid.c5]
      show _=some (Value.slice _ lg.length q)
      rw [hlen.out]
    have htab:Tabs ⟨P,m,q,mod,ex,lg⟩:=⟨HS.out,HO.out.symm,⟨g,g1,g2,by simpa using g3,by simpa using HX.out⟩,by simpa using hlen.out,fun i hi=>hlg.out i (by rw [hkl];exact hi)⟩
    have hkept:Kept w wr:=by
     have h1:Kept w w3:=(hk0.tr (hk1.drewN n2)).tr hk3
     exact h1.trans ((hmid.bel.mono h1.size).trans (below_grown (Below.refl _ _) hgr (Nat.le_trans h1.size hmid.bel.size) (Nat.le_trans h1.size hmid.hgl)))
    clear hsame hexw hexc hkl
    go_wp2_with (fail)
    go_ret2
    exact ⟨b,_,rfl,hgf,htab,rfl,rfl,rfl,hkept⟩
end Go.Proofs.YtoilbeadokallaaGreatDoor
