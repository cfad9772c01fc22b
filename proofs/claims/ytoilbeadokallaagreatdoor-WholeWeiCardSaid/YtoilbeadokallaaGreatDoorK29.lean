/- The walks of the closures of the Hamming code. Conditions: none. -/
import Derived.Test.YtoilbeadokallaaGreatDoorK27
import Derived.Test.YtoilbeadokallaaGreatDoorK28
import Derived.Laws.EntriesVeiled
namespace Go.Proofs.YtoilbeadokallaaGreatDoor
open Go.RowKit Cw Cw.Gj
def HamC (D:List (List Int)) (w:World) (e:Ending) (w':World):Prop :=
 ∃ a c fa fc,e=.returned (.tuple #[.agg #[.int .i64 2,.int .i64 1,.slice a 0 c,.int .i64 7,.slice fa D.length fc],.int .i64 0])∧Own w' w.heap.size (.slice a 0 c) []∧Ro w' w.heap.size (.slice fa D.length fc) D∧Kept w w'
def IsD (D:List (List Int)):Prop:=∃ G,Tabs G∧G.P=2∧G.M=1∧G.mod=[]∧D=duaL (opG G) (canL (opG G) (sim7 3 0) 7) (pvL (opG G) (sim7 3 0) 7) 7
theorem hamming_c (D:List (List Int)) (hD:IsD D) (vm:Value) (w:World) (hvm:Sl w vm []):Calls Tryz.prog 209 #[.agg #[.int .i64 2,.int .i64 1,vm],.int .i64 3] w (HamC D w):=by
 obtain ⟨G,t,hP,hM,hmod,hD⟩:=hD
 obtain ⟨A,hA⟩:∃ A,A=sim7 3 0:=⟨_,rfl⟩
 rw [← hA] at hD
 obtain ⟨L,hL⟩:∃ L,L=canL (opG G) A 7:=⟨_,rfl⟩
 obtain ⟨P,hPv⟩:∃ P,P=pvL (opG G) A 7:=⟨_,rfl⟩
 rw [← hL,← hPv] at hD
 refine (hamming7 G t hP hM hmod A L P hA hL hPv vm w hvm).mono ?_
 rintro e w' ⟨a,c,fa,fc,rfl,ho,hr,hk⟩
 rw [← hD] at hr ⊢
 rw [hmod] at ho ⊢
 rw [hP,hM]
 exact ⟨a,c,fa,fc,rfl,ho,hr,hk⟩
set_option maxRecDepth 100000 in
set_option maxHeartbeats 4000000 in
theorem sized1_any (D:List (List Int)) (hD:IsD D) (v q:Nat) (fa0:Option Addr) (fc0:Nat) (w:World) (hb:Bk w v (FldV 2 1 (.slice fa0 0 fc0) ++ NumV 3)) (hs:Sl w (.slice fa0 0 fc0) []) (hq:w.cell? ⟨q,0,none⟩=some (.func (.func 209) #[] #[])) :
  Calls Tryz.prog 299 #[.slice (some ⟨v,0,none⟩) 2 2,.pointer (some ⟨q,0,none⟩)] w (HamC D w):=by
 obtain ⟨W1,hW1⟩:∃ x,x=w.alloc (.cells #[.int .i64 0,.int .i64 0,.slice none 0 0,.int .i64 0,.slice none 0 0] 29):=⟨_,rfl⟩
 have hk1:Kept w W1:=by rw [hW1];exact kept_alloc _ _
 have br:Bk W1 w.heap.size [.int .i64 0,.int .i64 0,.slice none 0 0,.int .i64 0,.slice none 0 0]:=by rw [hW1];exact bk_new w [.int .i64 0,.int .i64 0,.slice none 0 0,.int .i64 0,.slice none 0 0] _ _ rfl
 have fr:Fz W1 w.heap.size:=by rw [hW1];exact fz_new _ _ _ _ rfl
 have hs1:w.heap.size < W1.heap.size:=by rw [hW1];simp
 have cq:=(hk1.cell' (cell_lt hq)).trans hq
 have hb1:=hb.kept hk1
 have c0:=hb1.2 0 _ rfl
 have c1:=hb1.2 1 _ rfl
 have c2:=hb1.2 2 _ rfl
 have c18:=hb1.2 18 _ rfl
 have HS:=hid (hs.kept hk1)
 have HBR:=hid br
 have HFR:=hid fr
 have HD:=hid hD
 have HK1:=hid hk1
 obtain ⟨ld,hld⟩:∃ x,x=D.length:=⟨_,rfl⟩
 have HLD:=hid hld
 have HHC:Hid (∀ W,Kept W1 W→Calls Tryz.prog 209 #[.agg #[.int .i64 2,.int .i64 1,.slice fa0 0 fc0],.int .i64 3] W (HamC D W)):=hid (fun W k=>hamming_c D HD.out _ W (HS.out.kept k))
 clear hq hb hs hb1 br fr hD hk1
 go_enter Tryz.func299,Tryz.ntmps299
 go_upto_region 1 with (fail)
 rw [← hW1]
 clear hW1
 go_region_law (first
  | (go_simp;go_at_call 209;(with_reducible refine (HHC.out _ (by first | exact Kept.rfl' _ | exact kept_drew _ | exact kept_drewN _ _)).mono ?_);rintro e w2 ⟨a,c,fa,fc,rfl,ho2,hr2,hk2⟩;rw [← HLD.out];have hk12:Kept W1 w2:=(by first | exact hk2 | exact (kept_drew _).tr hk2 | exact (kept_drewN _ _).tr hk2);have hb2:=HBR.out.kept hk12;have hf2:=HFR.out.kept hk12;have HO:Hid (Own w2 W1.heap.size (.slice a 0 c) []):=hid (by first | exact ho2 | exact ho2.mono (by simp));have HR:Hid (Ro w2 W1.heap.size (.slice fa D.length fc) D):=hid (by first | exact hr2 | exact hr2.mono (by simp));have HB:=hid hb2;have z0:=hb2.2 0 _ rfl;have z1:=hb2.2 1 _ rfl;have z2:=hb2.2 2 _ rfl;have z3:=hb2.2 3 _ rfl;have z4:=hb2.2 4 _ rfl;have f0:=hf2.2 0;have f1:=hf2.2 1;have f2:=hf2.2 2;have f3:=hf2.2 3;have f4:=hf2.2 4)
  | fail)
 all_goals
  have HK:=hid (HK1.out.tr hk12)
  clear ho2 hr2 hb2 hf2 hk2
  go_wp2_with (fail)
  have hld:=HLD.out
  subst hld
  refine bodyPost_ret (results_cell_tmp rfl rfl (load_code (HB.out.set5 _ _ _ _ _))) rfl ⟨a,c,fa,fc,rfl, ?_, ?_, ?_⟩
  ·exact (own_set5 HO.out hs1 _ _ _ _ _).mono (by omega)
  ·exact (HR.out.set5 hs1 _ _ _ _ _).mono (by omega)
  ·exact gb_below HK.out (gb_set5 _ _ _ _ _ _ _) (by omega) HK.out.size
def HamV (D:List (List Int)) (w:World) (e:Ending) (w':World):Prop :=
 ∃ a c fa fc,e=.returned (.tuple #[.agg (CodV 2 1 (.slice a 0 c) 7 (.slice fa D.length fc)).toArray,.int .i64 0])∧Own w' w.heap.size (.slice a 0 c) []∧Ro w' w.heap.size (.slice fa D.length fc) D∧Kept w w'
theorem own_set10 {w:World} {B b:Nat} {v:Value} {xs:List Int} (h:Own w B v xs) (hb:b < B) (v0 v1 v2 v3 v4 v5 v6 v7 v8 v9:Value):Own ((((((((((w.setCell ⟨b,0,none⟩ v0).setCell ⟨b,1,none⟩ v1).setCell ⟨b,2,none⟩ v2).setCell ⟨b,3,none⟩ v3).setCell ⟨b,4,none⟩ v4).setCell ⟨b,5,none⟩ v5).setCell ⟨b,6,none⟩ v6).setCell ⟨b,7,none⟩ v7).setCell ⟨b,8,none⟩ v8).setCell ⟨b,9,none⟩ v9) B v xs:=own_setLow (own_setLow (own_setLow (own_setLow (own_setLow (own_set5 h hb _ _ _ _ _) hb _) hb _) hb _) hb _) hb _
theorem Ro.set10 {w:World} {B b:Nat} {v:Value} {A:List (List Int)} (h:Ro w B v A) (hb:b < B) (v0 v1 v2 v3 v4 v5 v6 v7 v8 v9:Value):Ro ((((((((((w.setCell ⟨b,0,none⟩ v0).setCell ⟨b,1,none⟩ v1).setCell ⟨b,2,none⟩ v2).setCell ⟨b,3,none⟩ v3).setCell ⟨b,4,none⟩ v4).setCell ⟨b,5,none⟩ v5).setCell ⟨b,6,none⟩ v6).setCell ⟨b,7,none⟩ v7).setCell ⟨b,8,none⟩ v8).setCell ⟨b,9,none⟩ v9) B v A:=(((((h.set5 hb _ _ _ _ _).set hb _).set hb _).set hb _).set hb _).set hb _
set_option maxRecDepth 100000 in
set_option maxHeartbeats 4000000 in
theorem codeRow1_any (D:List (List Int)) (hD:IsD D) (v p q:Nat) (fa0:Option Addr) (fc0:Nat) (w:World) (hb:Bk w v (FldV 2 1 (.slice fa0 0 fc0) ++ NumV 3)) (hs:Sl w (.slice fa0 0 fc0) []) (hp:w.cell? ⟨p,0,none⟩=some (.func (.func 299) #[] #[.pointer (some ⟨q,0,none⟩)])) (hq:w.cell? ⟨q,0,none⟩=some (.func (.func 209) #[] #[])) :
  Calls Tryz.prog 301 #[.slice (some ⟨v,0,none⟩) 2 2,.pointer (some ⟨p,0,none⟩)] w (HamV D w):=by
 obtain ⟨W1,hW1⟩:∃ x,x=w.alloc (.cells #[.int .i64 0,.int .i64 0,.slice none 0 0,.int .i64 0,.int .i64 0,.slice none 0 0,.int .i64 0,.slice none 0 0,.int .i64 0,.slice none 0 0] 91):=⟨_,rfl⟩
 have hk1:Kept w W1:=by rw [hW1];exact kept_alloc _ _
 have br:Bk W1 w.heap.size (NumV 0):=by rw [hW1];exact bk_new w (NumV 0) _ _ rfl
 have fr:Fz W1 w.heap.size:=by rw [hW1];exact fz_new _ _ _ _ rfl
 have hs1:w.heap.size < W1.heap.size:=by rw [hW1];simp
 have cp:=(hk1.cell' (cell_lt hp)).trans hp
 have HCALL:=hid (sized1_any D hD v q fa0 fc0 W1 (hb.kept hk1) (hs.kept hk1) ((hk1.cell' (cell_lt hq)).trans hq))
 obtain ⟨ld,hld⟩:∃ x,x=D.length:=⟨_,rfl⟩
 have HLD:=hid hld
 clear hp hb hq hs hD hld
 go_enter Tryz.func301,Tryz.ntmps301
 go_upto_region 1 with (fail)
 rw [← hW1]
 clear hW1
 go_wp2_with (fail)
 refine HCALL.out.mono ?_
 rintro e w2 ⟨a,c,fa,fc,rfl,ho2,hr2,hk2⟩
 rw [← HLD.out]
 have hs2:w.heap.size < w2.heap.size:=Nat.lt_of_lt_of_le hs1 hk2.size
 have hn2:¬ w.heap.size=w2.heap.size:=by omega
 have hb2:=br.kept hk2
 have hf2:=fr.kept hk2
 unfold NumV at hb2
 have z0:=hb2.2 0 _ rfl
 have f0:=hf2.2 0
 have z1:=hb2.2 1 _ rfl
 have f1:=hf2.2 1
 have z2:=hb2.2 2 _ rfl
 have f2:=hf2.2 2
 have z3:=hb2.2 3 _ rfl
 have f3:=hf2.2 3
 have z4:=hb2.2 4 _ rfl
 have f4:=hf2.2 4
 have z5:=hb2.2 5 _ rfl
 have f5:=hf2.2 5
 have z6:=hb2.2 6 _ rfl
 have f6:=hf2.2 6
 have z7:=hb2.2 7 _ rfl
 have f7:=hf2.2 7
 have z8:=hb2.2 8 _ rfl
 have f8:=hf2.2 8
 have z9:=hb2.2 9 _ rfl
 have f9:=hf2.2 9
 have HB:=hid hb2
 have HO:=hid ho2
 have HR:=hid hr2
 have HK:=hid (hk1.tr hk2)
 clear hb2 hf2 ho2 hr2 hk2 br fr
 go_wp2_with (fail)
 have hld:=HLD.out
 subst hld
 refine bodyPost_ret (results_cell_tmp rfl rfl (load_cvalue ((HB.out.set10 _ _ _ _ _ _ _ _ _ _).kept (kept_alloc _ _)))) rfl ⟨a,c,fa,fc,rfl, ?_, ?_, ?_⟩
 ·exact ((own_set10 HO.out hs1 _ _ _ _ _ _ _ _ _ _).mono (by omega)).kept (kept_alloc _ _)
 ·exact ((HR.out.set10 hs1 _ _ _ _ _ _ _ _ _ _).mono (by omega)).kept (kept_alloc _ _)
 ·exact Kept.tr (gb_below HK.out (gb_set10 _ _ _ _ _ _ _ _ _ _ _ _) (Nat.le_refl _) HK.out.size) (kept_alloc _ _)
end Go.Proofs.YtoilbeadokallaaGreatDoor
