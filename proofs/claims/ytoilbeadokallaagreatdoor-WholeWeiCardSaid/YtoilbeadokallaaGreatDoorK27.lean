/- The walk of Hamming at two elements and order three. Conditions: none. -/
import Derived.Test.YtoilbeadokallaaGreatDoorK26
namespace Go.Proofs.YtoilbeadokallaaGreatDoor
open Go.RowKit Cw Cw.Gj
set_option maxRecDepth 100000 in
set_option maxHeartbeats 1000000 in
theorem hamming7 (G:GFd) (t:Tabs G) (hP:G.P=2) (hM:G.M=1) (hmod:G.mod=[]) (A L:List (List Int)) (P:List Nat) (hA:A=sim7 3 0) (hL:L=canL (opG G) A 7) (hPv:P=pvL (opG G) A 7) (vm:Value) (w:World) (hvm:Sl w vm []) :
  Calls Tryz.prog 209 #[.agg #[.int .i64 2,.int .i64 1,vm],.int .i64 3] w (DualOwn G L P 7 w):=by
 obtain ⟨W1,hW1⟩:∃ x,x=(w.alloc (.cells #[.int .i64 2,.int .i64 1,vm] 24)).alloc (.cells #[.int .i64 0,.int .i64 0,.slice none 0 0,.int .i64 0,.slice none 0 0] 29):=⟨_,rfl⟩
 have hk1:Kept w W1:=by rw [hW1];exact (kept_alloc _ _).tr (kept_alloc _ _)
 have bf:BoxF W1 w.heap.size 2 1 vm:=by rw [hW1];exact (boxF_new w _ _ _ _).kept (kept_alloc _ _)
 have br:Bk W1 (w.heap.size + 1) [.int .i64 0,.int .i64 0,.slice none 0 0,.int .i64 0,.slice none 0 0]:=by rw [hW1];exact bk_new _ [.int .i64 0,.int .i64 0,.slice none 0 0,.int .i64 0,.slice none 0 0] _ _ (by simp)
 have fr:Fz W1 (w.heap.size + 1):=by rw [hW1];exact fz_new _ _ _ _ (by simp)
 have hs1:W1.heap.size=w.heap.size + 1 + 1:=by rw [hW1];simp
 have hv1:=hvm.kept hk1
 have b0:=bf.h0
 have b1:=bf.h1
 have b2:=bf.h2
 have HS1:=hid hs1
 have HV:=hid hv1
 have hrf:=can_rf t (A:=A) (cols:=7) (by rw [t.hq,hP,hM,hA];exact wf7)
 rw [← hL,← hPv] at hrf
 have HRF:Hid (Rf G.q L 7 P):=hid hrf.1
 have HML:Hid (G.mod.length≤1000):=hid (by rw [hmod];decide)
 have HA:=hid hA
 have HL:=hid hL
 have HG:=hid (show G.P=2∧G.M=1∧G.mod=[] from ⟨hP,hM,hmod⟩)
 clear hs1 hvm hv1 hrf hA hL hPv hP hM hmod
 go_enter Tryz.func209,Tryz.ntmps209
 go_upto_region 1 with (fail)
 rw [← hW1]
 clear hW1
 go_wp2_with (fail)
 refine (simplex7 G t HG.out.1 HG.out.2.1 HG.out.2.2 A HA.out vm W1 HV.out).mono ?_
 rintro e w2 ⟨a,c,fa,fc,rfl,ho2,hr2,hk2⟩
 rw [← HL.out] at hr2 ⊢
 have HO2:=hid ho2
 have HR2:=hid hr2
 have HK2:=hid hk2
 have HB2:=hid (br.kept hk2)
 have HF2:=hid (fr.kept hk2)
 obtain ⟨lm,hlm⟩:∃ x,x=G.mod.length:=⟨_,rfl⟩
 obtain ⟨lf,hlf⟩:∃ x,x=L.length:=⟨_,rfl⟩
 have HLM:=hid hlm
 have HLF:=hid hlf
 rw [← hlm,← hlf]
 clear ho2 hr2 hk2 br fr b0 b1 b2 hlm hlf
 go_wp2_with (fail)
 have hd:=dual_own G t a lm c 7 fa lf fc L P (w2.alloc (.cells #[.int .i64 G.P,.int .i64 G.M,.slice a lm c,.int .i64 7,.slice fa lf fc] 29)) (by rw [HLM.out];exact HO2.out.sl.kept (kept_alloc _ _)) (by rw [HLF.out];exact HR2.out.rd.kept (kept_alloc _ _)) HRF.out (by omega) (by omega) HML.out
 refine hd.mono ?_
 rintro e w4 ⟨a',c',fa',fc',rfl,ho4,hr4,hk4⟩
 have hk24:=(kept_alloc w2 (.cells #[.int .i64 G.P,.int .i64 G.M,.slice a lm c,.int .i64 7,.slice fa lf fc] 29)).tr hk4
 have hb9:=HB2.out.kept hk24
 have hf9:=HF2.out.kept hk24
 have HB:=hid hb9
 have HO:=hid ho4
 have HR:=hid hr4
 have HK:=hid ((hk1.tr HK2.out).tr hk24)
 have z0:=hb9.2 0 _ rfl
 have z1:=hb9.2 1 _ rfl
 have z2:=hb9.2 2 _ rfl
 have z3:=hb9.2 3 _ rfl
 have z4:=hb9.2 4 _ rfl
 have f0:=hf9.2 0
 have f1:=hf9.2 1
 have f2:=hf9.2 2
 have f3:=hf9.2 3
 have f4:=hf9.2 4
 obtain ⟨ld,hld⟩:∃ x,x=(duaL (opG G) L P 7).length:=⟨_,rfl⟩
 obtain ⟨ln,hln⟩:∃ x,x=G.mod.length:=⟨_,rfl⟩
 have HLD:=hid hld
 have HLN:=hid hln
 rw [← hld,← hln]
 have HSW:Hid (W1.heap.size≤w2.heap.size):=hid HK2.out.size
 clear hd ho4 hr4 hk4 hk24 hb9 hf9 hld hln
 go_wp2_with (fail)
 have hld:=HLD.out
 have hln:=HLN.out
 have hsw:=HSW.out
 have hs1:=HS1.out
 subst hld
 subst hln
 have hal:(w2.alloc (.cells #[.int .i64 G.P,.int .i64 G.M,.slice a lm c,.int .i64 7,.slice fa lf fc] 29)).heap.size=w2.heap.size + 1:=by simp
 refine bodyPost_ret (results_cell_tmp rfl rfl (load_code (HB.out.set5 _ _ _ _ _))) rfl ⟨a',c',fa',fc',rfl, ?_, ?_, ?_⟩
 ·exact (own_set5 HO.out (by omega) _ _ _ _ _).mono (by omega)
 ·exact (HR.out.set5 (by omega) _ _ _ _ _).mono (by omega)
 ·exact gb_below HK.out (gb_set5 _ _ _ _ _ _ _) (by omega) HK.out.size
end Go.Proofs.YtoilbeadokallaaGreatDoor
