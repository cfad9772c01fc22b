/- Lemmas on the way to the row, merged: walks of functions and plain algebra. Conditions: each lemma's own, stated with it. -/
import Derived.Test.YtoilbeadokallaaGreatDoorK05
import Derived.Test.YtoilbeadokallaaGreatDoorK30
import Derived.Test.YtoilbeadokallaaGreatDoorK33
import Derived.Laws.EntriesVeiled
namespace Go.Proofs.YtoilbeadokallaaGreatDoor
open Go.RowKit Cw Cw.Gj
theorem TabG.gf {t:Nat} {w:World} (h:TabG t w):∃ A p1 p2:Nat,Bk w A [.string ⟨#[78]⟩,.func (.func 198) #[] #[.pointer (some ⟨p1,0,none⟩)],.nilFunc,.string ⟨#[78,78,76]⟩,.func (.func 198) #[] #[.pointer (some ⟨p2,0,none⟩)],.nilFunc]∧w.cell? ⟨p1,0,none⟩=some (.func (.func 141) #[] #[])∧p1 < w.heap.size ∧
  ∀ w',Kept w w'→(Instr.lookup 147 (.map (some t)) (.string sGf) false).run Tryz.prog w'=.ok (.slice (some ⟨A,0,none⟩) 2 2) w':=by
 obtain ⟨l,h1,h2,⟨A,p1,p2,h3,h4,h5,h6⟩,_⟩:=h
 exact ⟨A,p1,p2,h4,h5,h6,fun w' k=>run_look Tryz.underlying147 Tryz.underlying9 (h1.kept k) h3 (fun v' hv=>nodup_val h2 h3 hv)⟩
theorem TabG.ham {t:Nat} {w:World} (h:TabG t w):∃ A c p q:Nat,Bk w A [.string ⟨#[70,78]⟩,.func (.func 301) #[] #[.pointer (some ⟨p,0,none⟩)],.func (.func 210) #[] #[]] ∧
  w.cell? ⟨p,0,none⟩=some (.func (.func 299) #[] #[.pointer (some ⟨q,0,none⟩)])∧w.cell? ⟨q,0,none⟩=some (.func (.func 209) #[] #[])∧p < w.heap.size∧q < w.heap.size ∧
  ∀ w',Kept w w'→(Instr.lookup 147 (.map (some t)) (.string sHam) false).run Tryz.prog w'=.ok (.slice (some ⟨A,0,none⟩) 1 c) w':=by
 obtain ⟨l,h1,h2,_,⟨A,c,p,q,g1,g2,g3,g4,g5,g6⟩⟩:=h
 exact ⟨A,c,p,q,g2,g3,g4,g5,g6,fun w' k=>run_look Tryz.underlying147 Tryz.underlying9 (h1.kept k) g1 (fun v' hv=>nodup_val h2 g1 hv)⟩
theorem mean_gf_ex (t g cap:Nat) (w:World) (hT:TabG t w) (hE:Bk w g (NumC 2)) :
  Calls Tryz.prog 87 #[.agg #[.map (some t)],.agg #[.int .i64 3,.string sGf,.int .i64 0,.slice none 0 0,.slice (some ⟨g,0,none⟩) 1 cap],.bool true] w (FldOut w):=by
 obtain ⟨A,p1,p2,h1,h2,h3,h4⟩:=hT.gf
 exact mean_gf t g cap p1 w hE (fun W k=>row_any t sGf 1 2 2 cap A g true ⟨#[78]⟩ _ #[] _ .nilFunc _ W (fun w' k'=>h4 w' (k.tr k')) (h1.kept k) (by omega) (by omega) (.inl ⟨rfl,rfl⟩) rfl)
  (fun W v k hv=>fieldRow1_any v p1 W hv ((k.cell' h3).trans h2))
theorem mean_ex (D:List (List Int)) (hD:IsD D) (t:Nat) (E:List Value) (w:World) (hT:TabG t w) (hE:CallG G2 sHam 2 E w) :
  Calls Tryz.prog 87 #[.agg #[.map (some t)],.agg E.toArray,.bool false] w (HamV D w):=by
 obtain ⟨A,c,p,q,h1,h2,h3,h4,h5,h6⟩:=hT.ham
 obtain ⟨b,cap,fs,rfl,hl,hb,hf⟩:=hE
 obtain ⟨f0,f1,rfl⟩:∃ f0 f1,fs=[f0,f1]:=by
  match fs,hl with
  | [f0,f1],_=>exact ⟨f0,f1,rfl⟩
 obtain ⟨_,hg⟩:=hf 0 f0 rfl
 obtain ⟨_,hn⟩:=hf 1 f1 rfl
 obtain ⟨b1,cap1,gs,rfl,hgl,hgb,hgf⟩:CallG G1 sGf 1 f0 w:=hg
 obtain ⟨g0,rfl⟩:∃ g0,gs=[g0]:=by
  match gs,hgl with
  | [g0],_=>exact ⟨g0,rfl⟩
 obtain ⟨_,rfl⟩:_∧g0=NumC 2:=hgf 0 g0 rfl
 have hn':f1=NumC 3:=hn
 subst hn'
 have hgb':Bk w b1 (NumC 2):=by simpa using hgb
 have hb':Bk w b (CallC sGf (.slice (some ⟨b1,0,none⟩) 1 cap1) ++ NumC 3):=by simpa using hb
 exact mean_ham D t b cap b1 cap1 p sGf (.func (.func 210) #[] #[]) w hb'
  (fun W k=>row_any t sHam 2 1 c cap A b false ⟨#[70,78]⟩ _ #[] _ _ [] W (fun w' k'=>h6 w' (k.tr k')) (h1.kept k) (by omega) (by omega) (.inr ⟨_,_,_,rfl,rfl⟩) rfl)
  ⟨_,_,_,rfl⟩
  (fun W k=>arg_fld t sGf b1 1 cap1 W (fun W' k'=>mean_gf_ex t b1 cap1 W' (hT.kept (k.tr k')) (hgb'.kept (k.tr k'))))
  (fun W v a cc k hv hs=>codeRow1_any D hD v p q a cc W hv hs ((k.cell' h4).trans h2) ((k.cell' h5).trans h3))
end Go.Proofs.YtoilbeadokallaaGreatDoor
namespace Go.Proofs.YtoilbeadokallaaGreatDoor
open Go.RowKit Cw Cw.Gj
set_option maxRecDepth 100000 in
set_option maxHeartbeats 4000000 in
theorem start_ex (D:List (List Int)) (hD:IsD D) (E:List Value) (w:World) (hE:CallG G2 sHam 2 E w):Calls Tryz.prog 43 #[.agg E.toArray,.bool false] w (HamV D w):=by
 have hE0:=hE
 obtain ⟨b,cap,fs,rfl,_,_,_⟩:=hE0
 obtain ⟨sh,hsh⟩:∃ s,s=sHam:=⟨_,rfl⟩
 have HE:=hid hE
 clear hE
 show Calls Tryz.prog 43 #[.agg #[.int .i64 3,.string sHam,.int .i64 0,.slice none 0 0,.slice (some ⟨b,0,none⟩) 2 cap],.bool false] w (HamV D w)
 have hEx:∀ W,Kept w W→Calls Tryz.prog 85 #[.agg #[.int .i64 3,.string sHam,.int .i64 0,.slice none 0 0,.slice (some ⟨b,0,none⟩) 2 cap]] W fun e w'=>e=.returned (.int .i64 0)∧Kept W w':=fun W k=>check_ham W (HE.out.kept (fun _ _ q=>g2_kept q k) k)
 have hMx:∀ W t,Kept w W→TabG t W→Calls Tryz.prog 87 #[.agg #[.map (some t)],.agg #[.int .i64 3,.string sHam,.int .i64 0,.slice none 0 0,.slice (some ⟨b,0,none⟩) 2 cap],.bool false] W (HamV D W):=fun W t k hT=>mean_ex D hD t _ W hT (HE.out.kept (fun _ _ q=>g2_kept q k) k)
 rw [← hsh] at hEx hMx ⊢
 have HX:=hid hEx
 have HM:=hid hMx
 obtain ⟨ld,hld⟩:∃ x,x=D.length:=⟨_,rfl⟩
 have HLD:=hid hld
 clear hEx hMx hsh HE hD hld
 obtain ⟨W1,hW1⟩:∃ x,x=(w.alloc (.cells #[.int .i64 3,.string sh,.int .i64 0,.slice none 0 0,.slice (some ⟨b,0,none⟩) 2 cap] 50)).alloc (.cells #[.int .i64 0,.int .i64 0,.slice none 0 0,.int .i64 0,.int .i64 0,.slice none 0 0,.int .i64 0,.slice none 0 0,.int .i64 0,.slice none 0 0] 91):=⟨_,rfl⟩
 have hk1:Kept w W1:=by rw [hW1];exact (kept_alloc _ _).tr (kept_alloc _ _)
 have hbx:Bk W1 w.heap.size [.int .i64 3,.string sh,.int .i64 0,.slice none 0 0,.slice (some ⟨b,0,none⟩) 2 cap]:=by rw [hW1];exact (bk_new w [.int .i64 3,.string sh,.int .i64 0,.slice none 0 0,.slice (some ⟨b,0,none⟩) 2 cap] _ _ rfl).kept (kept_alloc _ _)
 have br:Bk W1 (w.heap.size + 1) (NumV 0):=by rw [hW1];exact bk_new _ (NumV 0) _ _ (by simp)
 have fr:Fz W1 (w.heap.size + 1):=by rw [hW1];exact fz_new _ _ _ _ (by simp)
 have hs1:w.heap.size + 1 < W1.heap.size:=by rw [hW1];simp
 have y0:=hbx.2 0 _ rfl
 have y1:=hbx.2 1 _ rfl
 have y2:=hbx.2 2 _ rfl
 have y3:=hbx.2 3 _ rfl
 have y4:=hbx.2 4 _ rfl
 have HBX:=hid hbx
 have HBR:=hid br
 have HFR:=hid fr
 have HK:=hid hk1
 clear hbx br fr hk1
 go_enter Tryz.func43,Tryz.ntmps43
 go_upto_region 1 with (fail)
 rw [← hW1]
 clear hW1
 go_wp2_with (fail)
 refine (HX.out W1 HK.out).mono ?_
 rintro e w2 ⟨rfl,hk2⟩
 have hb2:=HBX.out.kept hk2
 clear y0 y1 y2 y3 y4
 have y0:=hb2.2 0 _ rfl
 have y1:=hb2.2 1 _ rfl
 have y2:=hb2.2 2 _ rfl
 have y3:=hb2.2 3 _ rfl
 have y4:=hb2.2 4 _ rfl
 have HB2:=hid hb2
 have HK2:=hid hk2
 clear hb2 hk2
 go_upto_region 4 with (fail)
 go_region_law (first
  | (go_simp;go_at_call 86;(with_reducible refine (table_any _).mono ?_);intro e w3 htab;obtain ⟨t,rfl,hT,hk3⟩:=htab.g;clear htab;have hk23:Kept w2 w3:=(by first | exact hk3 | exact (kept_drew _).tr hk3 | exact (kept_drewN _ _).tr hk3);have hb3:=HB2.out.kept hk23;have q0:=hb3.2 0 _ rfl;have q1:=hb3.2 1 _ rfl;have q2:=hb3.2 2 _ rfl;have q3:=hb3.2 3 _ rfl;have q4:=hb3.2 4 _ rfl)
  | (go_simp;go_at_call 87;(with_reducible refine (HM.out _ t (by first | exact (HK.out.tr HK2.out).tr hk23 | exact ((HK.out.tr HK2.out).tr hk23).tr (kept_drew _) | exact ((HK.out.tr HK2.out).tr hk23).tr (kept_drewN _ _)) (by first | exact hT | exact hT.kept (kept_drew _) | exact hT.kept (kept_drewN _ _))).mono ?_);rintro e w4 ⟨a,c,fa,fc,rfl,ho4,hr4,hk4⟩;rw [← HLD.out];have hk34:Kept w3 w4:=(by first | exact hk4 | exact (kept_drew _).tr hk4 | exact (kept_drewN _ _).tr hk4);have HO:Hid (Own w4 w3.heap.size (.slice a 0 c) []):=hid (by first | exact ho4 | exact ho4.mono (by simp));have HR:Hid (Ro w4 w3.heap.size (.slice fa D.length fc) D):=hid (by first | exact hr4 | exact hr4.mono (by simp));have hb4:=((HBR.out.kept HK2.out).kept hk23).kept hk34;have hf4:=((HFR.out.kept HK2.out).kept hk23).kept hk34;unfold CodV;unfold NumV at hb4;have HB:=hid hb4;have z0:=hb4.2 0 _ rfl;have f0:=hf4.2 0;have z1:=hb4.2 1 _ rfl;have f1:=hf4.2 1;have z2:=hb4.2 2 _ rfl;have f2:=hf4.2 2;have z3:=hb4.2 3 _ rfl;have f3:=hf4.2 3;have z4:=hb4.2 4 _ rfl;have f4:=hf4.2 4;have z5:=hb4.2 5 _ rfl;have f5:=hf4.2 5;have z6:=hb4.2 6 _ rfl;have f6:=hf4.2 6;have z7:=hb4.2 7 _ rfl;have f7:=hf4.2 7;have z8:=hb4.2 8 _ rfl;have f8:=hf4.2 8;have z9:=hb4.2 9 _ rfl;have f9:=hf4.2 9))
 all_goals
  have HKF:=hid (((HK.out.tr HK2.out).tr hk23).tr hk34)
  have hsz3:W1.heap.size≤w3.heap.size:=(HK2.out.tr hk23).size
  clear ho4 hr4 hb4 hf4 hk4
  go_wp2_with (fail)
  have hld:=HLD.out
  subst hld
  refine bodyPost_ret (results_cell_tmp rfl rfl (load_cvalue (HB.out.set10 _ _ _ _ _ _ _ _ _ _))) rfl ⟨a,c,fa,fc,rfl, ?_, ?_, ?_⟩
  ·exact (own_set10 HO.out (by omega) _ _ _ _ _ _ _ _ _ _).mono (by omega)
  ·exact (HR.out.set10 (by omega) _ _ _ _ _ _ _ _ _ _).mono (by omega)
  ·exact gb_below HKF.out (gb_set10 _ _ _ _ _ _ _ _ _ _ _ _) (by omega) HKF.out.size
end Go.Proofs.YtoilbeadokallaaGreatDoor
namespace Go.Proofs.YtoilbeadokallaaGreatDoor
open Go.RowKit Cw Cw.Gj
set_option maxRecDepth 100000 in
set_option maxHeartbeats 4000000 in
theorem code_ex (D:List (List Int)) (hD:IsD D) (E:List Value) (w:World) (hE:CallG G2 sHam 2 E w):Calls Tryz.prog 17 #[.agg E.toArray] w (HamC D w):=by
 have hE0:=hE
 obtain ⟨b,cap,fs,rfl,_,_,_⟩:=hE0
 obtain ⟨sh,hsh⟩:∃ s,s=sHam:=⟨_,rfl⟩
 show Calls Tryz.prog 17 #[.agg #[.int .i64 3,.string sHam,.int .i64 0,.slice none 0 0,.slice (some ⟨b,0,none⟩) 2 cap]] w (HamC D w)
 have hSx:∀ W,Kept w W→Calls Tryz.prog 43 #[.agg #[.int .i64 3,.string sHam,.int .i64 0,.slice none 0 0,.slice (some ⟨b,0,none⟩) 2 cap],.bool false] W (HamV D W):=fun W k=>start_ex D hD _ W (hE.kept (fun _ _ q=>g2_kept q k) k)
 rw [← hsh] at hSx ⊢
 have HX:=hid hSx
 obtain ⟨ld,hld⟩:∃ x,x=D.length:=⟨_,rfl⟩
 have HLD:=hid hld
 clear hSx hsh hE hD hld
 obtain ⟨W1,hW1⟩:∃ x,x=(w.alloc (.cells #[.int .i64 3,.string sh,.int .i64 0,.slice none 0 0,.slice (some ⟨b,0,none⟩) 2 cap] 50)).alloc (.cells #[.int .i64 0,.int .i64 0,.slice none 0 0,.int .i64 0,.slice none 0 0] 29):=⟨_,rfl⟩
 have hk1:Kept w W1:=by rw [hW1];exact (kept_alloc _ _).tr (kept_alloc _ _)
 have hbx:Bk W1 w.heap.size [.int .i64 3,.string sh,.int .i64 0,.slice none 0 0,.slice (some ⟨b,0,none⟩) 2 cap]:=by rw [hW1];exact (bk_new w [.int .i64 3,.string sh,.int .i64 0,.slice none 0 0,.slice (some ⟨b,0,none⟩) 2 cap] _ _ rfl).kept (kept_alloc _ _)
 have br:Bk W1 (w.heap.size + 1) [.int .i64 0,.int .i64 0,.slice none 0 0,.int .i64 0,.slice none 0 0]:=by rw [hW1];exact bk_new _ [.int .i64 0,.int .i64 0,.slice none 0 0,.int .i64 0,.slice none 0 0] _ _ (by simp)
 have fr:Fz W1 (w.heap.size + 1):=by rw [hW1];exact fz_new _ _ _ _ (by simp)
 have hs1:w.heap.size + 1 < W1.heap.size:=by rw [hW1];simp
 have y0:=hbx.2 0 _ rfl
 have y1:=hbx.2 1 _ rfl
 have y2:=hbx.2 2 _ rfl
 have y3:=hbx.2 3 _ rfl
 have y4:=hbx.2 4 _ rfl
 go_enter Tryz.func17,Tryz.ntmps17
 go_upto_region 1 with (fail)
 rw [← hW1]
 clear hW1
 go_wp2_with (fail)
 refine (HX.out W1 hk1).mono ?_
 rintro e w2 ⟨a,c,fa,fc,rfl,ho2,hr2,hk2⟩
 rw [← HLD.out]
 unfold CodV
 have hb2:=br.kept hk2
 have hf2:=fr.kept hk2
 have hlt:w.heap.size + 1 < w2.heap.size:=Nat.lt_of_lt_of_le hs1 hk2.size
 have hne:¬ w.heap.size + 1=w2.heap.size:=by omega
 have hne':¬ w2.heap.size=w.heap.size + 1:=by omega
 have z0:=hb2.2 0 _ rfl
 have z1:=hb2.2 1 _ rfl
 have z2:=hb2.2 2 _ rfl
 have z3:=hb2.2 3 _ rfl
 have z4:=hb2.2 4 _ rfl
 have f0:=hf2.2 0
 have f1:=hf2.2 1
 have f2:=hf2.2 2
 have f3:=hf2.2 3
 have f4:=hf2.2 4
 have HB:=hid hb2
 have HO:=hid ho2
 have HR:=hid hr2
 have HK:=hid (hk1.tr hk2)
 clear hb2 hf2 ho2 hr2 hk2 br fr hbx y0 y1 y2 y3 y4
 go_wp2_with (fail)
 have hld:=HLD.out
 subst hld
 refine bodyPost_ret (results_cell_tmp rfl rfl (load_code ((HB.out.set5 _ _ _ _ _).kept (kept_alloc _ _)))) rfl ⟨a,c,fa,fc,rfl, ?_, ?_, ?_⟩
 ·exact ((own_set5 HO.out hs1 _ _ _ _ _).mono (by omega)).kept (kept_alloc _ _)
 ·exact ((HR.out.set5 hs1 _ _ _ _ _).mono (by omega)).kept (kept_alloc _ _)
 ·exact Kept.tr (gb_below HK.out (gb_set5 _ _ _ _ _ _ _) (by omega) HK.out.size) (kept_alloc _ _)
end Go.Proofs.YtoilbeadokallaaGreatDoor
namespace Go.Proofs.YtoilbeadokallaaGreatDoor
open Go.RowKit Cw Cw.Gj
def ham4:List (List Int):=[[1,0,0,0,0,1,1],[0,1,0,0,1,0,1],[0,0,1,0,1,1,0],[0,0,0,1,1,1,1]]
theorem ham4_eq:duaL op2 (canL op2 (sim7 3 0) 7) (pvL op2 (sim7 3 0) 7) 7=ham4:=by decide
theorem isD_ham4 {G:GFd} (t:Tabs G) (hP:G.P=2) (hM:G.M=1) (hmod:G.mod=[]):IsD ham4:=⟨G,t,hP,hM,hmod,by rw [op_two t hP hM,ham4_eq]⟩
def wt (l:List Int):Nat:=(l.filter (· ≠ 0)).length
end Go.Proofs.YtoilbeadokallaaGreatDoor
namespace Go.Proofs.YtoilbeadokallaaGreatDoor
open Go.RowKit Cw Cw.Gj
theorem wt_take {l:List Int} {k:Nat} (h:k < l.length):wt (l.take (k + 1))=wt (l.take k) + (if l.getD k 0=0 then 0 else 1):=by
 have e:l.getD k 0=l[k]:=by simp [List.getD,h]
 rw [List.take_succ_eq_append_getElem h,e]
 unfold wt
 rw [List.filter_append,List.length_append]
 by_cases q:l[k]=0
 ·simp [q]
 ·simp [q]
theorem wt_le (l:List Int):wt l≤l.length:=List.length_filter_le _ _
set_option maxHeartbeats 1000000 in
theorem weight_any (v:Value) (l:List Int) (w:World) (hv:Sl w v l) (hl:l.length≤1000000):Calls Tryz.prog 30 #[v] w fun e w'=>e=.returned (.int .i64 (wt l))∧w'=w:=by
 obtain ⟨a,cap,rfl,hcap,⟨hcm,hc0⟩,hc⟩:=hv
 unfold maxLen at hcm
 have HC:=hid hc
 clear hc hc0
 go_enter Tryz.func30,Tryz.ntmps30
 go_wp2_with (fail)
 go_loop [8,3] (fun vi vn=>∃ k:Nat,k≤l.length∧vi=.int .i64 k∧vn=.int .i64 (wt (l.take k):Nat)) (fun vi _=>l.length - (intOf vi).toNat)
 case atStart=>exact ⟨0,by omega,rfl,rfl⟩
 case round =>
  obtain ⟨k,hk,rfl,rfl⟩:=hrel
  by_cases hlt:k < l.length
  ·obtain ⟨b,off,rfl,hb,hcell⟩:=HC.out (fun e=>by subst e;simp at hlt)
   have hx:=hcell k hlt
   have hlt':(k:Int) < (l.length:Int):=by omega
   have hk0:(0:Int)≤(k:Int):=by omega
   have hw:=wt_take hlt
   have hwb:=wt_le (l.take k)
   rw [List.length_take] at hwb
   obtain ⟨x,hxx⟩:∃ x,x=l.getD k 0:=⟨_,rfl⟩
   rw [← hxx] at hx hw
   have HXX:=hid hxx
   have HW:=hid hw
   obtain ⟨u,hu⟩:∃ u,u=wt (l.take k):=⟨_,rfl⟩
   rw [← hu] at hwb HW ⊢
   clear hcell hxx hw hu
   by_cases hx0:x=0
   ·have tx:(x != 0)=false:=by simpa using hx0
    have HX0:=hid hx0
    clear hx0
    go_wp2_with (fail)
    go_round
    case rel=>exact ⟨k + 1,by omega,by go_num,by rw [HW.out,if_pos HX0.out];rfl⟩
    case measure=>simp [intOf];omega
   ·have tx:(x != 0)=true:=by simpa using hx0
    have HX0:=hid hx0
    clear hx0
    go_wp2_with (fail)
    go_round
    case rel=>exact ⟨k + 1,by omega,by go_num,by rw [HW.out,if_neg HX0.out];go_num⟩
    case measure=>simp [intOf];omega
  ·have hk':k=l.length:=by omega
   subst hk'
   rw [List.take_length]
   go_wp2_with (fail)
   go_ret
   exact ⟨rfl,rfl⟩
end Go.Proofs.YtoilbeadokallaaGreatDoor
