/- The walk of Simplex at two elements and order three. Conditions: none. -/
import Derived.Test.YtoilbeadokallaaGreatDoorK25
namespace Go.Proofs.YtoilbeadokallaaGreatDoor
open Go.RowKit Cw Cw.Gj
def co7 (i j:Nat):List Int:=(List.range j).map fun a=>p7 a i
def sim7 (i j:Nat):List (List Int):=(List.range 3).map fun a=>if a < i then co7 a 7 else if a=i then co7 a j else []
theorem sim7_row:∀ i,i < 3→∀ j,j < 7→Gj.row (sim7 i j) i=co7 i j:=by decide
theorem sim7_set:∀ i,i < 3→∀ j,j < 7→(sim7 i j).set i (co7 i j ++ [p7 j i])=sim7 i (j + 1):=by decide
theorem sim7_next:∀ i,i < 3→sim7 i 7=sim7 (i + 1) 0:=by decide
theorem sim7_len (i j:Nat):(sim7 i j).length=3:=by simp [sim7]
theorem sim7_zero:List.replicate 3 ([]:List Int)=sim7 0 0:=by decide
theorem co7_len (i j:Nat):(co7 i j).length=j:=by simp [co7]
theorem pts7_row:∀ j,j < 7→(Gj.row pts7 j).length=3∧∀ i,i < 3→(Gj.row pts7 j).getD i 0=p7 j i:=by decide
theorem Mx.glt {w:World} {B g n cap:Nat} {A:List (List Int)} {rv:Nat→Value} (h:Mx w B (.slice (some ⟨g,0,none⟩) n cap) A rv):B≤g∧g < w.heap.size:=by
 rcases h.form with ⟨e,_⟩ | ⟨_,_,e,h1,h2,_⟩
 ·cases e
 ·cases e;exact ⟨h1,h2⟩
theorem rows_cell {w:World} {B g n cap m:Nat} {rv:Nat→Value} (h:w.ownsRow B 22 1 (.slice (some ⟨g,0,none⟩) n cap) m ((List.range m).map rv)) {i:Nat} (hi:i < m):w.cell? ⟨g,i,none⟩=some (rv i)∧w.frozen? ⟨g,i,none⟩=false:=by
 have hn:n=m:=by
  obtain ⟨_,h | ⟨_,_,_,e,_⟩⟩:=h
  ·cases h.1
  ·cases e;rfl
 subst hn
 have:=World.ownsRow.cellAt h i (by omega)
 exact ⟨by simpa [hi] using this,World.ownsRow.frozenAt h i⟩
theorem wf7:WF (ordS 2 1) (sim7 3 0) 7:=by
 have h:ordS 2 1=2:=by decide
 rw [h]
 exact ⟨fun i hi=>(show ∀ i,i < 3→(Gj.row (sim7 3 0) i).length=7 by decide) i (by simpa [sim7] using hi),fun i j hi hj=>(show ∀ i,i < 3→∀ j,j < 7→0≤en (sim7 3 0) i j∧en (sim7 3 0) i j < 2 by decide) i (by simpa [sim7] using hi) j hj⟩
structure SimS (W:World) (X g c:Nat) (i j:Nat) (wr:World) (rv:Nat→Value):Prop where
 m:Mx wr X (.slice (some ⟨g,0,none⟩) 3 c) (sim7 i j) rv
 k:W.grownBy wr (some g)
 r:∀ a,a < 3→∀ y,(rv a).ownBlock=some y→W.heap.size≤y
theorem SimS.next {W wr w6:World} {g c i j:Nat} {rv:Nat→Value} {u:Value} (h:SimS W g g c i j wr rv) (hi:i < 3) (hj:j < 7) (hgr:wr.grownBy w6 (rv i).ownBlock) (ho:Own w6 g u (co7 i j ++ [p7 j i])) (hd:u.ownBlock=(rv i).ownBlock ∨ ∃ y,u.ownBlock=some y∧wr.heap.size≤y) :
  SimS W g g c i (j + 1) (w6.setCell ⟨g,i,none⟩ u) (fun a=>if a=i then u else rv a):=by
 have hm:=h.m.app (by rw [sim7_len];exact hi) hgr ho hd
 rw [sim7_set i hi j hj] at hm
 refine ⟨hm,grownBy_trans (h.k.andThen hgr fun y e=>.inl (h.r i hi y e)) (grownBy_setCell _ _ _ _),fun a ha y e=>?_⟩
 by_cases q:a=i
 ·rw [if_pos q] at e
  rcases hd with r | ⟨x,r1,r2⟩
  ·exact h.r i hi y (r ▸ e)
  ·rw [r1] at e
   have:x=y:=by simpa using e
   have:=h.k.size
   omega
 ·rw [if_neg q] at e
  exact h.r a ha y e
def SimOut (G:GFd) (A:List (List Int)) (w:World) (e:Ending) (w':World):Prop:=NewOut G A 7 w e w'
set_option maxRecDepth 100000 in
set_option maxHeartbeats 8000000 in
theorem simplex7 (G:GFd) (t:Tabs G) (hP:G.P=2) (hM:G.M=1) (hmod:G.mod=[]) (A:List (List Int)) (hA:A=sim7 3 0) (vm:Value) (w:World) (hvm:Sl w vm []) :
  Calls Tryz.prog 211 #[.agg #[.int .i64 2,.int .i64 1,vm],.int .i64 3] w (SimOut G A w):=by
 have HAA:=hid hA
 have HLA:Hid (A.length≤256):=hid (by rw [hA];decide)
 clear hA
 obtain ⟨W1,hW1⟩:∃ x,x=(w.alloc (.cells #[.int .i64 2,.int .i64 1,vm] 24)).alloc (.cells #[.int .i64 0,.int .i64 0,.slice none 0 0,.int .i64 0,.slice none 0 0] 29):=⟨_,rfl⟩
 have hk1:Kept w W1:=by rw [hW1];exact (kept_alloc _ _).tr (kept_alloc _ _)
 have bf:BoxF W1 w.heap.size 2 1 vm:=by rw [hW1];exact (boxF_new w _ _ _ _).kept (kept_alloc _ _)
 have br:Bk W1 (w.heap.size + 1) [.int .i64 0,.int .i64 0,.slice none 0 0,.int .i64 0,.slice none 0 0]:=by rw [hW1];exact bk_new _ [.int .i64 0,.int .i64 0,.slice none 0 0,.int .i64 0,.slice none 0 0] _ _ (by simp)
 have fr:Fz W1 (w.heap.size + 1):=by rw [hW1];exact fz_new _ _ _ _ (by simp)
 have hs1:W1.heap.size=w.heap.size + 1 + 1:=by rw [hW1];simp
 have hv1:=hvm.kept hk1
 have hF:FieldP 2 1 []:=by have:=t.field;rw [hP,hM,hmod] at this;exact this
 have b0:=bf.h0
 have b1:=bf.h1
 have b2:=bf.h2
 have HS1:=hid hs1
 have HF:=hid hF
 have HG:=hid (show G.P=2∧G.M=1∧G.mod=[] from ⟨hP,hM,hmod⟩)
 have HV:=hid hv1
 clear hs1 hvm hF hP hM hmod hv1
 go_enter Tryz.func211,Tryz.ntmps211
 go_upto_region 1 with (fail)
 rw [← hW1]
 clear hW1
 go_wp2_with (fail)
 refine (points7 vm W1 HV.out HF.out).mono ?_
 rintro e w2 ⟨vp,rp,rfl,hmp,hk2⟩
 obtain ⟨gp,cp,rfl,hgp,hgp',hcp,hcm⟩:=hmp.get (by simp [pts7])
 rw [show pts7.length=7 from rfl] at hmp hcp ⊢
 have HMP:=hid hmp
 have HK2:=hid hk2
 clear hmp hk2
 go_wp2_with (first
  | (refine wpList_make_rows rfl _ _ rfl 3 _ _ rfl rfl rfl rfl (by omega) ?_;intro w3 hm3 hk3))
 obtain ⟨g,hg⟩:∃ x,x=w2.heap.size:=⟨_,rfl⟩
 obtain ⟨bm,hbm⟩:∃ x,x=w3.heap.size:=⟨_,rfl⟩
 obtain ⟨W4,hW4⟩:∃ x,x=w3.alloc (.cells #[.int .i64 7,.slice (some ⟨w2.heap.size,0,none⟩) 3 3] 71):=⟨_,rfl⟩
 have hk34:Kept w3 W4:=by rw [hW4];exact kept_alloc _ _
 have bm4:Bk W4 bm [.int .i64 7,.slice (some ⟨w2.heap.size,0,none⟩) 3 3]:=by rw [hW4];exact bk_new w3 [.int .i64 7,.slice (some ⟨w2.heap.size,0,none⟩) 3 3] _ _ hbm
 have fm4:Fz W4 bm:=by rw [hW4,hbm];exact fz_new _ _ _ _ rfl
 rw [← hW4,← hbm,← hg]
 rw [← hg] at bm4
 have hm4:=hm3.kept hk34
 rw [← hg,sim7_zero] at hm4
 have hk24:=hk3.tr hk34
 have hgl:=hm4.glt.2
 have hgb:g < bm:=by
  have h1:=hm3.glt.2
  omega
 have hmp4:=HMP.out.kept hk24
 have hpn:¬ Has (.slice (some ⟨gp,0,none⟩) 7 cp) rp pts7.length g:=fun h=>by
  have:=(HMP.out.has_lt (by simpa [Has] using h)).2
  omega
 have hS0:SimS W4 g g 3 0 0 W4 (fun _=>.slice none 0 0):=⟨hm4,World.grownBy.refl _ _,fun a _ y e=>by cases e⟩
 have HBM:=hid bm4
 have HFM:=hid fm4
 have HMP4:=hid hmp4
 have HPN:=hid hpn
 have HKB:=hid (HK2.out.tr hk24)
 have HBF:=hid bf
 have HGE:=hid hg
 have HBR:=hid br
 have HFR:=hid fr
 have hb4:bm < W4.heap.size:=bm4.1
 clear bm4 fm4 hmp4 hpn hk34 hk24 hm3 hm4 bf br fr hW4 hbm b0 b1 b2 hk3 hg
 go_loopg [30] 4 (fun gk vi wr=>∃ i rv,i≤3∧gk=4 - i∧vi=.int .i64 i∧SimS W4 g g 3 i 0 wr rv)
 case atStart=>exact ⟨0,_,by omega,rfl,rfl,hS0⟩
 case round =>
  obtain ⟨i,rv,hi3,rfl,rfl,hS⟩:=hrel
  clear hS0
  obtain ⟨wo,hwo⟩:∃ x,x=wr:=⟨_,rfl⟩
  subst hwo
  by_cases hi:i < 3
  ·have hi':(i:Int) < 3:=by omega
   have hi0:(0:Int)≤(i:Int):=by omega
   go_wp2_with (fail)
   go_loopg [35] 8 (fun gk vj wr=>∃ j rv,j≤7∧gk=8 - j∧vj=.int .i64 j∧SimS W4 g g 3 i j wr rv)
   case atStart=>exact ⟨0,rv,by omega,rfl,rfl,hS⟩
   case round =>
    clear hS
    obtain ⟨j,rv,hj7,rfl,rfl,hS⟩:=hrel
    by_cases hj:j < 7
    ·have hj':(j:Int) < 7:=by omega
     have hj0:(0:Int)≤(j:Int):=by omega
     have hmp:=HMP4.out.grown hS.k HPN.out
     have bm5:=HBM.out.gb hS.k (Nat.ne_of_gt hgb)
     obtain ⟨l3,hpi⟩:=pts7_row j hj
     obtain ⟨bp,cq,hrp,hbp,hbp',hcq,hcq'⟩:=HMP4.out.rowGet (i:=j) (by simpa [pts7] using hj) (fun e=>by rw [e] at l3;cases l3)
     rw [l3] at hrp
     have q1:=hmp.cell (i:=j) (by simpa [pts7] using hj)
     rw [hrp] at q1
     have hrow:=hmp.row j (by simpa [pts7] using hj)
     rw [hrp] at hrow
     have q2:=hrow.cell (i:=i) (by rw [l3];exact hi)
     rw [hpi i hi] at q2
     obtain ⟨z,hz⟩:∃ z,z=p7 j i:=⟨_,rfl⟩
     rw [← hz] at q2
     have q3:=bm5.2 1 _ rfl
     have q4:=hS.m.cell (i:=i) (by rw [sim7_len];exact hi)
     have q5:=hS.m.frozen i
     have hown:=hS.m.row i (by rw [sim7_len];exact hi)
     rw [sim7_row i hi j hj] at hown
     obtain ⟨ri,hri⟩:∃ x,x=rv i:=⟨_,rfl⟩
     rw [← hri] at q4 hown
     obtain ⟨ra,rc,hre⟩:=ownsRow_form hown
     rw [co7_len] at hre
     subst hre
     have hbpr:=hrow.lt.2
     have hbmr:=bm5.1
     have hgr:=hS.m.glt.2
     have n1:¬ bp=wr.heap.size:=by omega
     have n2:¬ bm=wr.heap.size:=by omega
     have n3:¬ g=wr.heap.size:=by omega
     have HS:=hid hS
     have HRI:=hid hri
     have HZ:=hid hz
     have HNB:Hid ((Value.slice ra j rc).ownBlock ≠ some bm):=hid (fun e=>by
      have:=HS.out.r i hi bm (by rw [← HRI.out];exact e)
      omega)
     have HOWN:=hid hown
     have HROW:=hid hrow
     have HBM5:=hid bm5
     clear hmp hrp l3 hpi hrow hown hri hz bm5 hS hbp hbp' hcq hcq'
     go_wp2_with (fail)
     go_region_law (first
      | (refine step_append_int rfl (.tmp 46) (.tmp 51) rfl g _ (co7 i j) rfl (by first | exact HOWN.out.kept (kept_alloc _ _) | exact (HOWN.out.kept (kept_alloc _ _)).drew | exact (HOWN.out.drew).kept (kept_alloc _ _)) ⟨wr.heap.size,0,none⟩ z rfl (by first | exact cell_new rfl | simp) (by rw [co7_len];omega) (by simp;omega) ?_;intro v6 w6 o6 hg6 hl6;obtain ⟨a6,c6,e6⟩:=ownsRow_form o6;rw [List.length_append,co7_len] at e6;subst e6;have hg46:=kept_gb (kept_new wr _ _ _ (by first | exact Or.inl rfl | exact Or.inr rfl)) hg6;have ho6:=rows_cell (World.ownsRow.kept HS.out.m.out hg46 (.inr fun e=>row_ne HS.out.m.out HOWN.out e.symm rfl)) (i:=i) (by rw [sim7_len];exact hi);obtain ⟨y1,y2⟩:=ho6;have y3:=(HBM5.out.gbo hg46 HNB.out).2 1 _ rfl;have hl46:=hl6.imp id (fun e=>(⟨_,e,by simp⟩:∃ y,Value.ownBlock (.slice a6 (j + [z].length) c6)=some y∧wr.heap.size≤y)))
      | fail)
     all_goals
      have hnx:=hid (HS.out.next hi hj (by rw [← HRI.out];exact hg46) (by rw [← HZ.out];exact o6) (by rw [← HRI.out];exact hl46))
      clear hg6 hl6 y1 y2 y3 o6 hg46 hl46
      go_wp2_with (fail)
      go_roundg (8 - (j + 1))
      case measure=>omega
      case rel=>exact ⟨j + 1,_,by omega,rfl,by go_num,hnx.out⟩
    ·have hj8:j=7:=by omega
     subst hj8
     have HS:=hid hS
     clear hS
     go_wp2_with (fail)
     go_roundg (4 - (i + 1))
     case measure=>omega
     case rel=>exact ⟨i + 1,rv,by omega,rfl,by go_num,⟨by rw [← sim7_next i hi];exact HS.out.m,HS.out.k,HS.out.r⟩⟩
  ·have hi8:i=3:=by omega
   subst hi8
   have hbm:=HBM.out.gb hS.k (Nat.ne_of_gt hgb)
   have hlw:=HS1.out
   have hgw:w.heap.size + 1 < g:=by have:=HK2.out.size;have:=HGE.out;omega
   have c0:=(gb_cell (o:=0) hS.k (HKB.out.lt HBF.out.lt) (by omega)).trans ((HKB.out.cell' HBF.out.lt).trans HBF.out.h0)
   have c1:=(gb_cell (o:=1) hS.k (HKB.out.lt HBF.out.lt) (by omega)).trans ((HKB.out.cell' HBF.out.lt).trans HBF.out.h1)
   have c2:=(gb_cell (o:=2) hS.k (HKB.out.lt HBF.out.lt) (by omega)).trans ((HKB.out.cell' HBF.out.lt).trans HBF.out.h2)
   have d0:=hbm.2 0 _ rfl
   have d1:=hbm.2 1 _ rfl
   have hko:Kept W1 wo:=gb_below HKB.out hS.k (by have:=HK2.out.size;have:=HGE.out;omega) HKB.out.size
   have hmA:Mx wo g (.slice (some ⟨g,0,none⟩) 3 3) A rv:=by rw [HAA.out];exact hS.m
   have hnew:=new_code G t vm 7 (some ⟨g,0,none⟩) 3 3 A wo (by rw [HG.out.2.2];exact HV.out.kept hko) hmA.rd (by rw [t.hq,HG.out.1,HG.out.2.1,HAA.out];exact wf7) (by omega) (by omega) HLA.out (by rw [HG.out.2.2];decide)
   rw [HG.out.1,HG.out.2.1] at hnew
   have HN:=hid hnew
   have hb5:=HBR.out.kept hko
   have hf5:=HFR.out.kept hko
   have HKO:=hid (hk1.tr hko)
   have hwsz:=hS.m.glt.2
   clear hbm hnew hko hS hmA
   go_wp2_with (fail)
   refine HN.out.mono ?_
   rintro e w9 ⟨a,c,fa,fc,rfl,ho9,hr9,hk9⟩
   have hb9:=hb5.kept hk9
   have hf9:=hf5.kept hk9
   have HK9:=hid (HKO.out.tr hk9)
   have HO:=hid ho9
   have HR:=hid hr9
   have z0:=hb9.2 0 _ rfl
   have f0:=hf9.2 0
   have z1:=hb9.2 1 _ rfl
   have f1:=hf9.2 1
   have z2:=hb9.2 2 _ rfl
   have f2:=hf9.2 2
   have z3:=hb9.2 3 _ rfl
   have f3:=hf9.2 3
   have z4:=hb9.2 4 _ rfl
   have f4:=hf9.2 4
   have HB:=hid hb9
   obtain ⟨lf,hlf⟩:∃ x,x=(canL (opG G) A 7).length:=⟨_,rfl⟩
   have HLF:=hid hlf
   rw [← hlf]
   clear hb5 hf5 hb9 hf9 ho9 hr9 hk9 c0 c1 c2 d0 d1 hlf
   go_wp2_with (fail)
   have hlf:=HLF.out
   subst hlf
   refine bodyPost_ret (results_cell_tmp rfl rfl (load_code (HB.out.set5 _ _ _ _ _))) rfl ⟨a,c,fa,fc,rfl, ?_, ?_, ?_⟩
   ·exact (own_set5 HO.out (by omega) _ _ _ _ _).mono (by omega)
   ·exact (HR.out.set5 (by omega) _ _ _ _ _).mono (by omega)
   ·exact gb_below HK9.out (gb_set5 _ _ _ _ _ _ _) (by omega) HK9.out.size
end Go.Proofs.YtoilbeadokallaaGreatDoor
