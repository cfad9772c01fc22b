/- Lemmas on the way to the row, merged: walks of functions and plain algebra. Conditions: each lemma's own, stated with it. -/
import Derived.Test.YtoilbeadokallaaGreatDoorK20
import Derived.Test.YtoilbeadokallaaGreatDoorK24
namespace Go.Proofs.YtoilbeadokallaaGreatDoor
open Go.RowKit Cw Cw.Gj
theorem step_append_int {w:World} {ops:Array Oper} {o:Oper} {a:Act} {K:Act→World→Prop} {Q:Exit→Act→World→Prop} {E:Prop} (hgd:o.guard=none) (s x:Operand)
  (ho:o.op=.call { callee:=.builtin .append,args:=#[s,x],argTypes:=#[22,22] }) (B:Nat) (v:Value) (xs:List Int) (hs:a.eval s=v) (hown:Own w B v xs)
  (ad:Addr) (y:Int) (hx:a.eval x=.slice (some ad) 1 1) (hc:w.cell? ad=some (.int .i64 y)) (hlen:xs.length + 1≤1000000) (hB:B≤w.heap.size)
  (h:∀ v' w',Own w' B v' (xs ++ [y])→w.grownBy w' v.ownBlock→(v'.ownBlock=v.ownBlock ∨ v'.ownBlock=some w.heap.size)→K (a.put o.dst v') w') :
  if Region.wanted o (yielded ops a.tmps)=true then Oper.wp Tryz.prog o a w K Q else E:=by
 rw [if_pos (by simp [Region.wanted,hgd])]
 obtain ⟨i0,hi,hz0,hz1,hz2⟩:=info_parts Tryz.infoInt
 obtain ⟨v',w',hr,h2,h3,_,h5⟩:=run_append_own_at (P:=Tryz.prog) w B 22 o.type 3 i0 _ 1 8 Tryz.underlying22 hi hz0 hz1 hz2 rfl (by decide) v xs.length _ hown ad 1 1 [.int .i64 y] rfl
  (fun j u hu=>by
   match j with
   | 0 =>
    have e:u=.int .i64 y:=by simpa using hu.symm
    rw [e]
    have:ad.add 0=ad:=by cases ad;simp [Addr.add]
    rw [this];exact hc
   | j + 1=>simp at hu) (fun u hu=>by rw [List.mem_singleton.1 hu];rfl) (by unfold maxLen;omega) (by omega) hB
 unfold Oper.wp execOp
 simp only [ho,resolve,invoke,builtin,Sem.run_bind,Sem.run_pure,Result.andThen_ok,List.map_toArray,List.map_cons,List.map_nil,hs,hx,hr]
 refine h v' w' ?_ h3 h5
 unfold Own
 rw [List.length_append,List.map_append]
 exact h2
section
variable {w w6:World} {B:Nat} {A:List (List Int)} {rv:Nat→Value}
theorem Mx.app {g n cap:Nat} (h:Mx w B (.slice (some ⟨g,0,none⟩) n cap) A rv) {i:Nat} (hi:i < A.length) {u:Value} {l:List Int} (hg:w.grownBy w6 (rv i).ownBlock) (hu:Own w6 B u l) (hd:u.ownBlock=(rv i).ownBlock ∨ ∃ y,u.ownBlock=some y∧w.heap.size≤y) :
  Mx (w6.setCell ⟨g,i,none⟩ u) B (.slice (some ⟨g,0,none⟩) n cap) (A.set i l) (fun j=>if j=i then u else rv j):=by
 have hn:n=A.length:=by
  rcases h.form with ⟨e,_⟩ | ⟨_,_,e,_⟩
  ·cases e
  ·cases e;rfl
 subst hn
 have ho:w6.ownsRow B 22 1 (.slice (some ⟨g,0,none⟩) A.length cap) A.length ((List.range A.length).map rv):=World.ownsRow.kept h.out hg (.inr fun e=>row_ne h.out (h.row i hi) e.symm rfl)
 have hr:∀ j,j < A.length→j ≠ i→Own w6 B (rv j) (Gj.row A j):=fun j hj hji=>(h.row j hj).grownBy hg (by
  cases e:(rv j).ownBlock with
  | none=>exact .inl rfl
  | some x=>exact .inr fun e2=>h.dis j i hj hi hji x e e2.symm)
 have hd':∀ x,u.ownBlock=some x→∀ j,j < A.length→j ≠ i→(rv j).ownBlock ≠ some x:=fun x hx j hj hji e=>by
  rcases hd with q | ⟨y,q1,q2⟩
  ·rw [hx] at q
   exact h.dis j i hj hi hji x e q.symm
  ·rw [hx] at q1
   have:=own_blk (h.row j hj) e
   have e3:x=y:=by simpa using q1
   omega
 have hg2:=grownBy_setCell w6 g i u
 have hne:∀ x xs,Own w6 B x xs→x.ownBlock=none ∨ x.ownBlock ≠ some g:=fun x xs k=>by
  cases e:x.ownBlock with
  | none=>exact .inl rfl
  | some y=>exact .inr fun e2=>row_ne ho k (by rw [e];exact e2) rfl
 refine ⟨?_,fun j hj=>?_,fun j m hj hm hjm x h1 h2=>?_⟩
 ·rw [List.length_set]
  have:=(World.ownsRow.stored ho i u).1
  have e:((List.range A.length).map rv).set i u=(List.range A.length).map (fun j=>if j=i then u else rv j):=by
   refine List.ext_getElem (by simp) fun j h1 h2=>?_
   rw [List.getElem_set]
   simp
   by_cases e:i=j
   ·rw [if_pos e,if_pos e.symm]
   ·rw [if_neg e,if_neg (fun g=>e g.symm)]
  rw [e] at this
  exact this
 ·have hj':j < A.length:=by simpa using hj
  rw [row_set hi]
  by_cases e:j=i
  ·rw [if_pos e,if_pos e];exact hu.grownBy hg2 (hne _ _ hu)
  ·rw [if_neg e,if_neg e];exact (hr j hj' e).grownBy hg2 (hne _ _ (hr j hj' e))
 ·have hj':j < A.length:=by simpa using hj
  have hm':m < A.length:=by simpa using hm
  by_cases e:j=i
  ·rw [if_pos e] at h1
   rw [if_neg (by omega)] at h2
   exact hd' x h1 m hm' (by omega) h2
  ·rw [if_neg e] at h1
   by_cases e2:m=i
   ·rw [if_pos e2] at h2;exact hd' x h2 j hj' e h1
   ·rw [if_neg e2] at h2;exact h.dis j m hj' hm' hjm x h1 h2
end
end Go.Proofs.YtoilbeadokallaaGreatDoor
namespace Go.Proofs.YtoilbeadokallaaGreatDoor
open Go.RowKit Cw Cw.Gj
theorem Bk.set5 {w:World} {b:Nat} {u0 u1 u2 u3 u4:Value} (h:Bk w b [u0,u1,u2,u3,u4]) (v0 v1 v2 v3 v4:Value):Bk (((((w.setCell ⟨b,0,none⟩ v0).setCell ⟨b,1,none⟩ v1).setCell ⟨b,2,none⟩ v2).setCell ⟨b,3,none⟩ v3).setCell ⟨b,4,none⟩ v4) b [v0,v1,v2,v3,v4]:=((((h.set 0 v0).set 1 v1).set 2 v2).set 3 v3).set 4 v4
theorem gb_set5 (w:World) (b:Nat) (v0 v1 v2 v3 v4:Value):w.grownBy (((((w.setCell ⟨b,0,none⟩ v0).setCell ⟨b,1,none⟩ v1).setCell ⟨b,2,none⟩ v2).setCell ⟨b,3,none⟩ v3).setCell ⟨b,4,none⟩ v4) (some b):=gb_set (gb_set (gb_set (gb_set (grownBy_setCell w b 0 v0) 1 v1) 2 v2) 3 v3) 4 v4
theorem own_set5 {w:World} {B b:Nat} {v:Value} {xs:List Int} (h:Own w B v xs) (hb:b < B) (v0 v1 v2 v3 v4:Value):Own (((((w.setCell ⟨b,0,none⟩ v0).setCell ⟨b,1,none⟩ v1).setCell ⟨b,2,none⟩ v2).setCell ⟨b,3,none⟩ v3).setCell ⟨b,4,none⟩ v4) B v xs:=own_setLow (own_setLow (own_setLow (own_setLow (own_setLow h hb _) hb _) hb _) hb _) hb _
theorem Ro.set5 {w:World} {B b:Nat} {v:Value} {A:List (List Int)} (h:Ro w B v A) (hb:b < B) (v0 v1 v2 v3 v4:Value):Ro (((((w.setCell ⟨b,0,none⟩ v0).setCell ⟨b,1,none⟩ v1).setCell ⟨b,2,none⟩ v2).setCell ⟨b,3,none⟩ v3).setCell ⟨b,4,none⟩ v4) B v A:=((((h.set hb _).set hb _).set hb _).set hb _).set hb _
def NewOut (G:GFd) (A:List (List Int)) (n:Nat) (w:World) (e:Ending) (w':World):Prop :=
 ∃ a c fa fc,e=.returned (.tuple #[.agg #[.int .i64 G.P,.int .i64 G.M,.slice a G.mod.length c,.int .i64 n,.slice fa (canL (opG G) A n).length fc],.int .i64 0])∧Own w' w.heap.size (.slice a G.mod.length c) G.mod∧Ro w' w.heap.size (.slice fa (canL (opG G) A n).length fc) (canL (opG G) A n)∧Kept w w'
set_option maxRecDepth 100000 in
set_option maxHeartbeats 4000000 in
theorem new_code (G:GFd) (t:Tabs G) (vm:Value) (n:Nat) (va:Option Addr) (vn vc:Nat) (A:List (List Int)) (w:World) (hvm:Sl w vm G.mod) (hv:Rd w (.slice va vn vc) A) (hw:WF G.q A n) (h1:1≤n) (h2:n≤64) (hl:A.length≤256) (hml:G.mod.length≤1000) :
  Calls Tryz.prog 108 #[.agg #[.int .i64 G.P,.int .i64 G.M,vm],.agg #[.int .i64 n,.slice va vn vc]] w (NewOut G A n w):=by
 obtain ⟨w1,hw1⟩:∃ w1,w1=((w.alloc (.cells #[.int .i64 G.P,.int .i64 G.M,vm] 24)).alloc (.cells #[.int .i64 n,.slice va vn vc] 71)).alloc (.cells #[.int .i64 0,.int .i64 0,.slice none 0 0,.int .i64 0,.slice none 0 0] 29):=⟨_,rfl⟩
 have hk1:Kept w w1:=by rw [hw1];exact ((kept_alloc _ _).tr (kept_alloc _ _)).tr (kept_alloc _ _)
 have bf:BoxF w1 w.heap.size G.P G.M vm:=by rw [hw1];exact ((boxF_new w _ _ _ _).kept (kept_alloc _ _)).kept (kept_alloc _ _)
 have bm:BoxM w1 (w.heap.size + 1) n (.slice va vn vc):=by
  rw [hw1]
  have:=(boxM_new (w.alloc (.cells #[.int .i64 G.P,.int .i64 G.M,vm] 24)) n (.slice va vn vc) 71).kept (kept_alloc _ (.cells #[.int .i64 0,.int .i64 0,.slice none 0 0,.int .i64 0,.slice none 0 0] 29))
  simpa using this
 have br:Bk w1 (w.heap.size + 1 + 1) [.int .i64 0,.int .i64 0,.slice none 0 0,.int .i64 0,.slice none 0 0]:=by rw [hw1];exact bk_new _ [.int .i64 0,.int .i64 0,.slice none 0 0,.int .i64 0,.slice none 0 0] _ _ (by simp)
 have fr:Fz w1 (w.heap.size + 1 + 1):=by rw [hw1];exact fz_new _ _ _ _ (by simp)
 have hs1:w1.heap.size=w.heap.size + 1 + 1 + 1:=by rw [hw1];simp
 have hvm1:=hvm.kept hk1
 have hv1:=hv.kept hk1
 have b0:=bf.h0
 have b1:=bf.h1
 have b2:=bf.h2
 have m0:=bm.h0
 have m1:=bm.h1
 have HS1:=hid hs1
 have HW:=hid hw
 clear hs1 hvm hv hw
 go_enter Tryz.func108,Tryz.ntmps108
 go_upto_region 1 with (fail)
 rw [← hw1]
 clear hw1
 go_wp2_with (fail)
 (with_reducible refine (canonical_any G t vm n (.slice va vn vc) A w1 hvm1 hv1 HW.out h1 (by omega) hl).mono ?_)
 rintro e w2 ⟨v',pv,rfl,hr2,_,hk2⟩
 obtain ⟨ra,rc,re,_,_⟩:=hr2.get
 obtain ⟨rl,hrl⟩:∃ x,x=(canL (opG G) A n).length:=⟨_,rfl⟩
 rw [← hrl] at re
 subst re
 have bf2:=bf.kept hk2
 have bm2:=bm.kept hk2
 have br2:=br.kept hk2
 have fr2:=fr.kept hk2
 have hvm2:=hvm1.kept hk2
 have hk12:=hk1.tr hk2
 have HR2:=hid hr2
 have HRL:=hid hrl
 have hlow:w.heap.size + 1 + 1 < w2.heap.size:=by have:=HS1.out;have:=hk2.size;omega
 have hlow1:w.heap.size + 1 < w2.heap.size:=by omega
 have hlow0:w.heap.size < w2.heap.size:=by omega
 have hn1:¬ w.heap.size + 1=w2.heap.size:=by omega
 have hn0:¬ w.heap.size=w2.heap.size:=by omega
 clear b0 b1 b2 m0 m1 hr2 hrl bf bm br fr
 have b0:=bf2.h0
 have b1:=bf2.h1
 have b2:=bf2.h2
 have m0:=bm2.h0
 go_wp2_with (first
  | (go_at_call 56;refine (length_ok n _ (by omega) (by omega)).mono ?_;rintro e w3 ⟨rfl,rfl⟩))
 (with_reducible refine (of_any G.P G.M vm G.mod n ra rl rc _ (hvm2.kept (kept_alloc w2 _)) hml).mono ?_)
 rintro e w4 ⟨a,c,rfl,ho4,hk4⟩
 have hk24:=(kept_alloc w2 (.cells #[.int .i64 n,.slice ra rl rc] 71)).tr hk4
 have br4:=br2.kept hk24
 have fr4:=fr2.kept hk24
 have hkf:=hk12.tr hk24
 have z0:=br4.2 0 _ rfl
 have z1:=br4.2 1 _ rfl
 have z2:=br4.2 2 _ rfl
 have z3:=br4.2 3 _ rfl
 have z4:=br4.2 4 _ rfl
 have f0:=fr4.2 0
 have f1:=fr4.2 1
 have f2:=fr4.2 2
 have f3:=fr4.2 3
 have f4:=fr4.2 4
 have HO:=hid ho4
 have HR:=hid (HR2.out.kept hk24)
 have HB:=hid br4
 have HK:=hid hkf
 have HS4:Hid (w2.heap.size + 1=(w2.alloc (.cells #[.int .i64 n,.slice ra rl rc] 71)).heap.size):=hid (by simp)
 clear ho4 br4 fr4 hk24 hk4 hkf
 go_wp2_with (fail)
 have hs4:=HS4.out
 have hrl:=HRL.out
 subst hrl
 refine bodyPost_ret (results_cell_tmp rfl rfl (load_code (HB.out.set5 _ _ _ _ _))) rfl ⟨a,c,ra,rc,rfl, ?_, ?_, ?_⟩
 ·exact (own_set5 HO.out (by omega) _ _ _ _ _).mono (by omega)
 ·exact (HR.out.set5 (by have:=HS1.out;omega) _ _ _ _ _).mono (by have:=HS1.out;omega)
 ·exact gb_below HK.out (gb_set5 _ _ _ _ _ _ _) (by omega) HK.out.size
end Go.Proofs.YtoilbeadokallaaGreatDoor
