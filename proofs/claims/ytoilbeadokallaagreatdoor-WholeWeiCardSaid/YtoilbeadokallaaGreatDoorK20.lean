/- Lemmas on the way to the row, merged: walks of functions and plain algebra. Conditions: each lemma's own, stated with it. -/
import Derived.Test.YtoilbeadokallaaGreatDoorK09
import Derived.Test.YtoilbeadokallaaGreatDoorK11
import Derived.Test.YtoilbeadokallaaGreatDoorK18
import Derived.Test.YtoilbeadokallaaGreatDoorK19
import Derived.Deep.LoopGhost
namespace Go.Proofs.YtoilbeadokallaaGreatDoor
open Go.RowKit Cw Cw.Gj
set_option maxHeartbeats 1000000 in
theorem equal_yes (v v':Value) (l:List Int) (w:World) (hv:Sl w v l) (hv':Sl w v' l) :
  Calls Tryz.prog 165 #[v,v'] w fun e w'=>e=.returned (.bool true)∧∃ m,w'=w.drewN m:=by
 obtain ⟨a,cap,rfl,hcap,⟨hcm,_⟩,hc⟩:=hv
 obtain ⟨a',cap',rfl,hcap',⟨hcm',_⟩,hc'⟩:=hv'
 unfold maxLen at hcm hcm'
 have tL:((l.length:Int) != (l.length:Int))=false:=by simp
 go_enter Tryz.func165,Tryz.ntmps165
 go_wp2_with (fail)
 go_loopw [13,5] (fun vi _ wr=>∃ k:Nat,k≤l.length∧vi=.int .i64 k∧∃ n,wr=w.drewN n) (fun vi _ _=>l.length - (intOf vi).toNat)
 case atStart=>exact ⟨0,by omega,rfl,0,rfl⟩
 case round =>
  obtain ⟨k,hkl,rfl,n,rfl⟩:=hrel
  by_cases hlt:k < l.length
  ·obtain ⟨b,off,rfl,hb,hcell⟩:=hc (by intro e;rw [e] at hlt;simp at hlt)
   obtain ⟨b',off',rfl,hb',hcell'⟩:=hc' (by intro e;rw [e] at hlt;simp at hlt)
   have e0:=hcell k hlt
   have e1:=hcell' k hlt
   obtain ⟨z,hz⟩:∃ z,z=l.getD k 0:=⟨_,rfl⟩
   rw [← hz] at e0 e1
   have tz:(z != z)=false:=by simp
   clear hc hc' hz hcell hcell'
   go_wp2_with (fail)
   go_quiet (fail)
   go_wp2_with (fail)
   go_roundw
   case rel=>exact ⟨k + 1,by omega,by go_num,by first | exact ⟨_,rfl⟩ | exact ⟨_,World.drewN_drewN _ _ _⟩⟩
   case measure=>simp [intOf];omega
  ·go_wp2_with (fail)
   go_ret
   exact ⟨rfl,_,rfl⟩
set_option maxHeartbeats 1000000 in
theorem equalFunc_yes (v v':Value) (A:List (List Int)) (w:World) (hv:Rd w v A) (hv':Rd w v' A) :
  Calls Tryz.prog 164 #[v,v',.func (.func 165) #[] #[]] w fun e w'=>e=.returned (.bool true)∧∃ m,w'=w.drewN m:=by
 obtain ⟨a,cap,rfl,hcap,hcm,hb0⟩:=hv.get
 obtain ⟨a',cap',rfl,hcap',hcm',hb0'⟩:=hv'.get
 unfold maxLen at hcm hcm'
 have tL:((A.length:Int) != (A.length:Int))=false:=by simp
 go_enter Tryz.func164,Tryz.ntmps164
 go_wp2_with (fail)
 go_loopw [17,7,8,9] (fun vi _ _ _ wr=>∃ k:Nat,k≤A.length∧vi=.int .i64 k∧∃ n,wr=w.drewN n) (fun vi _ _ _ _=>A.length - (intOf vi).toNat)
 case atStart=>exact ⟨0,by omega,rfl,0,rfl⟩
 case round =>
  obtain ⟨k,hkl,rfl,n,rfl⟩:=hrel
  by_cases hlt:k < A.length
  ·obtain ⟨bb,off,rfl,hbb⟩:=hb0 (by intro e;rw [e] at hlt;simp at hlt)
   obtain ⟨bb',off',rfl,hbb'⟩:=hb0' (by intro e;rw [e] at hlt;simp at hlt)
   obtain ⟨u,u1,u2⟩:=hv.cellAt hlt
   obtain ⟨u',u1',u2'⟩:=hv'.cellAt hlt
   go_wp2_with (go_at_call 165;(with_reducible refine (equal_yes u u' _ _ (u2.kept (kept_drewN w n)) (u2'.kept (kept_drewN w n))).mono ?_);rintro e w' ⟨rfl,m1,rfl⟩)
   go_roundw
   case rel=>exact ⟨k + 1,by omega,by go_num,by first | exact ⟨_,rfl⟩ | exact ⟨_,World.drewN_drewN _ _ _⟩⟩
   case measure=>simp [intOf];omega
  ·go_wp2_with (fail)
   go_ret
   exact ⟨rfl,_,rfl⟩
def VwOut (cols:Nat) (v:Value) (w:World) (e:Ending) (w':World):Prop :=
 ∃ b pa pn pc,e=.returned (.tuple #[.agg #[.pointer (some ⟨b,0,none⟩),.int .i64 cols,v,.slice pa pn pc],.int .i64 0])∧Kept w w'
set_option maxRecDepth 100000 in
set_option maxHeartbeats 4000000 in
theorem sopen_ok (G:GFd) (t:Tabs G) (vm:Value) (cols:Nat) (va:Option Addr) (vn vc:Nat) (A:List (List Int)) (P:List Nat) (w:World) (hvm:Sl w vm G.mod) (hv:Rd w (.slice va vn vc) A) (hrf:Rf G.q A cols P) (hc1:1≤cols) (hc2:cols≤256) (hn:A.length≤256) :
  Calls Tryz.prog 114 #[.agg #[.int .i64 G.P,.int .i64 G.M,vm],.agg #[.int .i64 cols,.slice va vn vc]] w (VwOut cols (.slice va vn vc) w):=by
 obtain ⟨w1,hw1⟩:∃ w1,w1=((w.alloc (.cells #[.int .i64 G.P,.int .i64 G.M,vm] 24)).alloc (.cells #[.int .i64 cols,.slice va vn vc] 71)).alloc (.cells #[.pointer none,.int .i64 0,.slice none 0 0,.slice none 0 0] 171):=⟨_,rfl⟩
 have hk1:Kept w w1:=by rw [hw1];exact ((kept_alloc _ _).tr (kept_alloc _ _)).tr (kept_alloc _ _)
 have bf:BoxF w1 w.heap.size G.P G.M vm:=by rw [hw1];exact ((boxF_new w _ _ _ _).kept (kept_alloc _ _)).kept (kept_alloc _ _)
 have bm:BoxM w1 (w.heap.size + 1) cols (.slice va vn vc):=by
  rw [hw1]
  have:=(boxM_new (w.alloc (.cells #[.int .i64 G.P,.int .i64 G.M,vm] 24)) cols (.slice va vn vc) 71).kept (kept_alloc _ (.cells #[.pointer none,.int .i64 0,.slice none 0 0,.slice none 0 0] 171))
  simpa using this
 have fr:Fz w1 (w.heap.size + 1 + 1):=by rw [hw1];exact fz_new _ _ _ _ (by simp)
 have br:Bk w1 (w.heap.size + 1 + 1) [.pointer none,.int .i64 0,.slice none 0 0,.slice none 0 0]:=by rw [hw1];exact bk_new _ _ _ _ (by simp)
 have hs1:w1.heap.size=w.heap.size + 1 + 1 + 1:=by rw [hw1];simp
 have hvm1:=hvm.kept hk1
 have hv1:=hv.kept hk1
 have b0:=bf.h0
 have b1:=bf.h1
 have b2:=bf.h2
 have m0:=bm.h0
 have m1:=bm.h1
 have HS1:=hid hs1
 obtain ⟨hca,hpa⟩:=rf_can t hrf
 have HCA:=hid hca
 have hwf:=hrf.ri.w
 clear hs1 hca hpa
 go_enter Tryz.func114,Tryz.ntmps114
 go_wp2_with (fail)
 rw [← hw1]
 clear hw1
 (with_reducible refine (canonical_any G t vm cols _ A w1 hvm1 hv1 hwf hc1 hc2 hn).mono ?_)
 rintro e w2 ⟨v',pv,rfl,hr2,hp2,hk2⟩
 rw [HCA.out] at hr2
 have hrd:=hr2.rd
 obtain ⟨ra,rc,rfl,_,_⟩:=hrd.get
 obtain ⟨pa,pc,rfl,_,_⟩:=hp2.sl.lenOf
 obtain ⟨pn,hpn⟩:∃ n,n=(ints (pvL (opG G) A cols)).length:=⟨_,rfl⟩
 rw [← hpn]
 have bf2:=bf.kept hk2
 have bm2:=bm.kept hk2
 have fr2:=fr.kept hk2
 have br2:=br.kept hk2
 have hv2:=hv1.kept hk2
 have hk12:=hk1.tr hk2
 have hvm2:=hvm1.kept hk2
 clear hpn hp2 b0 b1 b2 m0 m1 bf bm fr br hr2
 have hka:=kept_alloc w2 (.cells #[.int .i64 cols,.slice ra A.length rc] 71)
 have bf3:=bf2.kept hka
 have bm3:=bm2.kept hka
 have m1:=bm3.h1
 have x1:=(boxM_new w2 cols (.slice ra A.length rc) 71).h1
 have hvA:=hv2.kept hka
 have hrA:=hrd.kept hka
 have hvmA:=hvm2.kept hka
 have hfl:=t.field
 have b0:=bf3.h0
 have b1:=bf3.h1
 have b2:=bf3.h2
 go_wp2_with (fail)
 (with_reducible refine (equalFunc_yes _ _ A _ hrA hvA).mono ?_)
 rintro e w3 ⟨rfl,n3,rfl⟩
 go_wp2_with (fail)
 (with_reducible refine (new_field G.P G.M vm G.mod _ (hvmA.kept (kept_drewN _ n3)) hfl).mono ?_)
 rintro e w4 ⟨b,H,rfl,_,_,_,_,_,hk4⟩
 have hk14:=(hka.drewN n3).tr hk4
 have bm4:=bm2.kept hk14
 have fr4:=fr2.kept hk14
 have br4:=br2.kept hk14
 have hkf:=hk12.tr hk14
 clear b0 b1 b2 m1 x1 bf3 bm3 hk4 hka
 have m0:=bm4.h0
 have m1:=bm4.h1
 have f0:=fr4.2 0
 have f1:=fr4.2 1
 have f2:=fr4.2 2
 have f3:=fr4.2 3
 have r0:=br4.2 0 _ rfl
 have r1:=br4.2 1 _ rfl
 have r2:=br4.2 2 _ rfl
 have r3:=br4.2 3 _ rfl
 have KF:=hid (fun x0 x1 x2 x3=>set_below (b:=w.heap.size + 1 + 1) (i:=3) x0 (set_below (b:=w.heap.size + 1 + 1) (i:=2) x1 (set_below (b:=w.heap.size + 1 + 1) (i:=1) x2 (set_below (b:=w.heap.size + 1 + 1) (i:=0) x3 hkf (by omega)) (by omega)) (by omega)) (by omega))
 go_wp2_with (fail)
 refine bodyPost_ret (v:=.tuple #[.agg #[.pointer (some ⟨b,0,none⟩),.int .i64 cols,.slice va vn vc,.slice pa pn pc],.int .i64 0]) ?_ rfl ⟨b,pa,pn,pc,rfl,KF.out _ _ _ _⟩
 simp [results,Tryz.results114,go_sem,r0,r1,r2,r3]
set_option maxRecDepth 100000 in
set_option maxHeartbeats 2000000 in
theorem scheck_ok (G:GFd) (t:Tabs G) (vm:Value) (cols:Nat) (va:Option Addr) (vn vc:Nat) (A:List (List Int)) (P:List Nat) (w:World) (hvm:Sl w vm G.mod) (hv:Rd w (.slice va vn vc) A) (hrf:Rf G.q A cols P) (hc1:1≤cols) (hc2:cols≤256) (hn:A.length≤256) :
  Calls Tryz.prog 57 #[.agg #[.int .i64 G.P,.int .i64 G.M,vm],.agg #[.int .i64 cols,.slice va vn vc]] w fun e w'=>e=.returned (.int .i64 0)∧Kept w w':=by
 have hk1:Kept w ((w.alloc (.cells #[.int .i64 G.P,.int .i64 G.M,vm] 24)).alloc (.cells #[.int .i64 cols,.slice va vn vc] 71)):=(kept_alloc _ _).tr (kept_alloc _ _)
 have hvm1:=hvm.kept hk1
 have hv1:=hv.kept hk1
 go_enter Tryz.func57,Tryz.ntmps57
 go_wp2_with (fail)
 (with_reducible refine (sopen_ok G t vm cols va vn vc A P _ hvm1 hv1 hrf hc1 hc2 hn).mono ?_)
 rintro e w2 ⟨b,pa,pn,pc,rfl,hk2⟩
 have hk3:=(hk1.tr hk2).tr (kept_alloc w2 (.cells #[.pointer (some ⟨b,0,none⟩),.int .i64 cols,.slice va vn vc,.slice pa pn pc] 171))
 go_wp2_with (fail)
 go_ret
 exact ⟨rfl,hk3⟩
end Go.Proofs.YtoilbeadokallaaGreatDoor
namespace Cw
namespace Gj
theorem Rf.piv_ge {q:Int} {A:List (List Int)} {cols:Nat} {P:List Nat} (h:Rf q A cols P):∀ i,i < P.length→i≤P.getD i 0
 | 0,_=>Nat.zero_le _
 | i + 1,hi=>by
  have h1:=Rf.piv_ge h i (by omega)
  have h2:=h.ri.inc i (i + 1) (by omega) hi
  omega
theorem Rf.le {q:Int} {A:List (List Int)} {cols:Nat} {P:List Nat} (h:Rf q A cols P):A.length≤cols:=by
 rw [h.len]
 refine Nat.le_of_not_lt fun g=>?_
 have h1:=h.piv_ge cols g
 have h2:=h.ri.pc cols g
 omega
end Gj
end Cw
namespace Go.Proofs.YtoilbeadokallaaGreatDoor
open Go.RowKit Cw Cw.Gj
set_option maxRecDepth 100000 in
set_option maxHeartbeats 4000000 in
theorem ccheck_ok (G:GFd) (t:Tabs G) (ma:Option Addr) (ml mc n:Nat) (va:Option Addr) (vn vc:Nat) (A:List (List Int)) (P:List Nat) (w:World) (hvm:Sl w (.slice ma ml mc) G.mod) (hv:Rd w (.slice va vn vc) A) (hrf:Rf G.q A n P) (h1:1≤n) (h2:n≤64) :
  Calls Tryz.prog 23 #[.agg #[.int .i64 G.P,.int .i64 G.M,.slice ma ml mc,.int .i64 n,.slice va vn vc]] w fun e w'=>e=.returned (.int .i64 0)∧Kept w w':=by
 have hle:=hrf.le
 obtain ⟨w1,hw1⟩:∃ w1,w1=w.alloc (.cells #[.int .i64 G.P,.int .i64 G.M,.slice ma ml mc,.int .i64 n,.slice va vn vc] 29):=⟨_,rfl⟩
 have hk1:Kept w w1:=by rw [hw1];exact kept_alloc _ _
 have bc:BoxC w1 w.heap.size G.P G.M (.slice ma ml mc) n (.slice va vn vc):=by rw [hw1];exact boxC_new _ _ _ _ _ _ _
 have hvm1:=hvm.kept hk1
 have hv1:=hv.kept hk1
 have b0:=bc.h0
 have b1:=bc.h1
 have b2:=bc.h2
 have b3:=bc.h3
 have b4:=bc.h4
 go_enter Tryz.func23,Tryz.ntmps23
 go_wp2_with (fail)
 rw [← hw1]
 clear hw1
 (with_reducible refine (check_any G.P G.M (.slice ma ml mc) G.mod w1 hvm1 0 (.inl ⟨t.field,rfl⟩)).mono ?_)
 rintro e w2 ⟨rfl,hk2⟩
 have bc2:=bc.kept hk2
 have hvm2:=hvm1.kept hk2
 have hv2:=hv1.kept hk2
 have hk12:=hk1.tr hk2
 clear b0 b1 b2 b3 b4
 have b0:=bc2.h0
 have b1:=bc2.h1
 have b2:=bc2.h2
 have b3:=bc2.h3
 have b4:=bc2.h4
 go_wp2_with (go_at_call 56;(with_reducible refine (length_ok n _ (by omega) (by omega)).mono ?_);rintro e w3 ⟨rfl,h3⟩;obtain rfl:=h3.symm)
 go_region_held3 (fun w'=>w'.cell? ⟨w.heap.size,0,none⟩=some (.int .i64 G.P)∧w'.cell? ⟨w.heap.size,1,none⟩=some (.int .i64 G.M)∧w'.cell? ⟨w.heap.size,2,none⟩=some (.slice ma ml mc)∧w'.cell? ⟨w.heap.size,3,none⟩=some (.int .i64 n)∧w'.cell? ⟨w.heap.size,4,none⟩=some (.slice va vn vc)) (first | (simp [*];done) | (simp [go_sem, *];done))
  (first
   | (go_at_call 32;(with_reducible refine (gen_any G.P G.M ma ml mc n va vn vc _).mono ?_);rintro e w4 ⟨rfl,hk4⟩;have hk4':Kept w2 w4:=(by first | exact hk4 | exact (kept_drew _).tr hk4 | exact (kept_drewN _ _).tr hk4);have bc4:=bc2.kept hk4';have b0:=bc4.h0;have b1:=bc4.h1;have b2:=bc4.h2;have b3:=bc4.h3;have b4:=bc4.h4)
   | (go_at_call 57;(with_reducible refine (scheck_ok G t (.slice ma ml mc) n va vn vc A P _ (by first | exact hvm2.kept hk4' | exact (hvm2.kept hk4').kept (kept_drew _) | exact (hvm2.kept hk4').kept (kept_drewN _ _)) (by first | exact hv2.kept hk4' | exact (hv2.kept hk4').kept (kept_drew _) | exact (hv2.kept hk4').kept (kept_drewN _ _)) hrf h1 (by omega) (by omega)).mono ?_);rintro e w5 ⟨rfl,hk5⟩;have hk5':Kept w2 w5:=(by first | exact hk4'.tr hk5 | exact (hk4'.drewN _).tr hk5 | exact (hk4'.tr (kept_drew _)).tr hk5);have bc5:=bc2.kept hk5';have b0:=bc5.h0;have b1:=bc5.h1;have b2:=bc5.h2;have b3:=bc5.h3;have b4:=bc5.h4))
 all_goals
  go_wp2_with (fail)
  go_ret
  exact ⟨rfl,by first | exact hk12.tr hk5' | exact (hk12.tr hk5').drewN _ | exact (hk12.tr hk5').drew⟩
def DualOwn (G:GFd) (A:List (List Int)) (P:List Nat) (n:Nat) (w:World) (e:Ending) (w':World):Prop :=
 ∃ a c fa fc,e=.returned (.tuple #[.agg #[.int .i64 G.P,.int .i64 G.M,.slice a G.mod.length c,.int .i64 n,.slice fa (duaL (opG G) A P n).length fc],.int .i64 0])∧Own w' w.heap.size (.slice a G.mod.length c) G.mod∧Ro w' w.heap.size (.slice fa (duaL (opG G) A P n).length fc) (duaL (opG G) A P n)∧Kept w w'
set_option maxRecDepth 100000 in
set_option maxHeartbeats 8000000 in
theorem dual_own (G:GFd) (t:Tabs G) (ma:Option Addr) (ml mc n:Nat) (va:Option Addr) (vn vc:Nat) (A:List (List Int)) (P:List Nat) (w:World) (hvm:Sl w (.slice ma ml mc) G.mod) (hv:Rd w (.slice va vn vc) A) (hrf:Rf G.q A n P) (h1:1≤n) (h2:n≤64) (hml:G.mod.length≤1000) :
  Calls Tryz.prog 12 #[.agg #[.int .i64 G.P,.int .i64 G.M,.slice ma ml mc,.int .i64 n,.slice va vn vc]] w (DualOwn G A P n w):=by
 have hle:=hrf.le
 obtain ⟨w1,hw1⟩:∃ w1,w1=(w.alloc (.cells #[.int .i64 G.P,.int .i64 G.M,.slice ma ml mc,.int .i64 n,.slice va vn vc] 29)).alloc (.cells #[.int .i64 0,.int .i64 0,.slice none 0 0,.int .i64 0,.slice none 0 0] 29):=⟨_,rfl⟩
 have hk1:Kept w w1:=by rw [hw1];exact (kept_alloc _ _).tr (kept_alloc _ _)
 have bc:BoxC w1 w.heap.size G.P G.M (.slice ma ml mc) n (.slice va vn vc):=by rw [hw1];exact (boxC_new _ _ _ _ _ _ _).kept (kept_alloc _ _)
 have fr:Fz w1 (w.heap.size + 1):=by rw [hw1];exact fz_new _ _ _ _ (by simp)
 have br:Bk w1 (w.heap.size + 1) [.int .i64 0,.int .i64 0,.slice none 0 0,.int .i64 0,.slice none 0 0]:=by rw [hw1];exact bk_new _ _ _ _ (by simp)
 have hs1:w1.heap.size=w.heap.size + 1 + 1:=by rw [hw1];simp
 have hvm1:=hvm.kept hk1
 have hv1:=hv.kept hk1
 have b0:=bc.h0
 have b1:=bc.h1
 have b2:=bc.h2
 have b3:=bc.h3
 have b4:=bc.h4
 have HS1:=hid hs1
 obtain ⟨hca,hpa⟩:=rf_can t hrf
 have HCA:=hid hca
 have HPA:=hid hpa
 clear hs1 hca hpa
 go_enter Tryz.func12,Tryz.ntmps12
 go_wp2_with (fail)
 rw [← hw1]
 clear hw1
 (with_reducible refine (ccheck_ok G t ma ml mc n va vn vc A P w1 hvm1 hv1 hrf h1 h2).mono ?_)
 rintro e w2 ⟨rfl,hk2⟩
 have bc2:=bc.kept hk2
 have fr2:=fr.kept hk2
 have br2:=br.kept hk2
 have hvm2:=hvm1.kept hk2
 have hv2:=hv1.kept hk2
 have hk12:=hk1.tr hk2
 clear b0 b1 b2 b3 b4
 have b0:=bc2.h0
 have b1:=bc2.h1
 have b2:=bc2.h2
 have b3:=bc2.h3
 have b4:=bc2.h4
 go_upto_region 4 with (fail)
 go_cut [5,6] (fun s5 s6 wx=>∃ (bm:Nat) (fa:Option Addr) (fn fc:Nat),s5=.pointer (some ⟨bm,0,none⟩)∧s6=.int .i64 0∧wx.cell? ⟨bm,0,none⟩=some (.int .i64 n)∧wx.cell? ⟨bm,1,none⟩=some (.slice fa fn fc)∧bm < wx.heap.size∧Ro wx w2.heap.size (.slice fa fn fc) (duaL (opG G) A P n)∧Kept w2 wx)
 case first =>
  have hlow2:w.heap.size + 1 < w2.heap.size:=by have:=hk2.size;have:=HS1.out;omega
  have nn2:¬ w2.heap.size=w.heap.size:=by omega
  refine wp_region_noPanic ?_
  refine wp_region_held_drew (S:=fun w'=>w'.cell? ⟨w.heap.size,0,none⟩=some (.int .i64 G.P)∧w'.cell? ⟨w.heap.size,1,none⟩=some (.int .i64 G.M)∧w'.cell? ⟨w.heap.size,2,none⟩=some (.slice ma ml mc)∧w'.cell? ⟨w.heap.size,3,none⟩=some (.int .i64 n)∧w'.cell? ⟨w.heap.size,4,none⟩=some (.slice va vn vc)) (by kernel_rfl) ?_ (fun hHeld=>?_)
  ·first | (simp [*];done) | (simp [go_sem, *];done) | (go_keep;done)
  refine wpAnyH_take (i:=0) (oi:=?oz1) (v:=?vz1) ?hiz1 (by kernel_rfl) (by kernel_rfl) (by kernel_rfl) (fun _ _ _ h=>h) (Or.inl ⟨?hwz1, ?hyz1⟩) (by assumption) ?restz1
  case hiz1=>(simp only [List.getElem?_toArray,List.getElem?_cons_zero];rfl)
  case hwz1=>rfl
  case hyz1=>(intro w hSw;(try dsimp only at hSw);go_simp;with_reducible rfl)
  try simp only [Act.put,List.setIfInBounds_toArray,List.set_cons_zero,List.set_cons_succ]
  refine wpAnyH_take (i:=1) (oi:=?oz2) (v:=?vz2) ?hiz2 (by kernel_rfl) (by kernel_rfl) (by kernel_rfl) (fun _ _ _ h=>h) (Or.inl ⟨?hwz2, ?hyz2⟩) (by assumption) ?restz2
  case hiz2=>(simp only [List.getElem?_toArray,List.getElem?_cons_succ,List.getElem?_cons_zero];rfl)
  case hwz2=>rfl
  case hyz2=>(intro w hSw;(try dsimp only at hSw);go_simp;with_reducible rfl)
  try simp only [Act.put,List.setIfInBounds_toArray,List.set_cons_zero,List.set_cons_succ]
  refine wpAnyH_take (i:=2) (oi:=?oz3) (v:=?vz3) ?hiz3 (by kernel_rfl) (by kernel_rfl) (by kernel_rfl) (fun _ _ _ h=>h) (Or.inl ⟨?hwz3, ?hyz3⟩) (by assumption) ?restz3
  case hiz3=>(simp only [List.getElem?_toArray,List.getElem?_cons_succ,List.getElem?_cons_zero];rfl)
  case hwz3=>rfl
  case hyz3=>(intro w hSw;(try dsimp only at hSw);go_simp;with_reducible rfl)
  try simp only [Act.put,List.setIfInBounds_toArray,List.set_cons_zero,List.set_cons_succ]
  refine wpAnyH_ready (rs:=[3,8]) (by kernel_rfl) (by simp) ?_
  refine AllReadyH.cons (o:=?oAt4) ?hAt4 (fun K hK=>?bAt4) (AllReadyH.cons (o:=?oBt4) ?hBt4 (fun K hK=>?bBt4) AllReadyH.nil)
  case hAt4=>(simp only [List.getElem?_toArray,List.getElem?_cons_succ,List.getElem?_cons_zero];rfl)
  case hBt4=>(simp only [List.getElem?_toArray,List.getElem?_cons_succ,List.getElem?_cons_zero];rfl)
  case bAt4 =>
   go_simp
   go_at_call 32;(with_reducible refine (gen_any G.P G.M ma ml mc n va vn vc _).mono ?_);rintro e w4 ⟨rfl,hk4⟩;have hk4':Kept w2 w4:=(by first | exact hk4 | exact (kept_drew _).tr hk4 | exact (kept_drewN _ _).tr hk4 | exact (kept_alloc _ _).tr hk4 | exact ((kept_drew _).tr (kept_alloc _ _)).tr hk4 | exact ((kept_drewN _ _).tr (kept_alloc _ _)).tr hk4 | exact ((kept_alloc _ _).tr (kept_drew _)).tr hk4 | exact ((kept_alloc _ _).drewN _).tr hk4);have nn4:¬ w4.heap.size=w.heap.size:=(by have q:=hk4'.size;omega);have bc4:=bc2.kept hk4';have b0:=bc4.h0;have b1:=bc4.h1;have b2:=bc4.h2;have b3:=bc4.h3;have b4:=bc4.h4
   try go_wp2_with (fail)
   refine hK.out _ _ ?_ (fun hHeld=>?_)
   ·first | assumption | first | (simp [*];done) | (simp [go_sem, *];done) | (go_keep;done)
   clear hK K
   try simp only [Act.put,List.setIfInBounds_toArray,List.set_cons_zero,List.set_cons_succ]
   refine wpAnyH_ready (rs:=[4,8]) (by kernel_rfl) (by simp) ?_
   refine AllReadyH.cons (o:=?oAt5) ?hAt5 (fun K hK=>?bAt5) (AllReadyH.cons (o:=?oBt5) ?hBt5 (fun K hK=>?bBt5) AllReadyH.nil)
   case hAt5=>(simp only [List.getElem?_toArray,List.getElem?_cons_succ,List.getElem?_cons_zero];rfl)
   case hBt5=>(simp only [List.getElem?_toArray,List.getElem?_cons_succ,List.getElem?_cons_zero];rfl)
   case bAt5 =>
    go_simp
    go_at_call 31;(with_reducible refine (kernel_any G t (.slice ma ml mc) n _ A _ (by first | exact hvm2.kept hk4' | exact (hvm2.kept hk4').kept (kept_drew _) | exact (hvm2.kept hk4').kept (kept_drewN _ _) | exact (hvm2.kept hk4').kept (kept_alloc _ _) | exact (hvm2.kept hk4').kept ((kept_alloc _ _).drewN _)) (by first | exact hv2.kept hk4' | exact (hv2.kept hk4').kept (kept_drew _) | exact (hv2.kept hk4').kept (kept_drewN _ _) | exact (hv2.kept hk4').kept (kept_alloc _ _) | exact (hv2.kept hk4').kept ((kept_alloc _ _).drewN _)) hrf.ri.w h1 (by omega) (by omega)).mono ?_);rintro e w5 ⟨v5,rfl,hr5,hk5⟩;obtain ⟨fa,fc,fe,_,_⟩:=hr5.get;obtain ⟨fn,hfn⟩:∃ x,x=(duaL (opG G) (canL (opG G) A n) (pvL (opG G) A n) n).length:=⟨_,rfl⟩;rw [← hfn] at fe;subst fe;have HFN:=hid hfn;clear hfn;have hk5':Kept w2 w5:=(by first | exact hk4'.tr hk5 | exact (hk4'.drewN _).tr hk5 | exact (hk4'.tr (kept_drew _)).tr hk5 | exact (hk4'.tr (kept_alloc _ _)).tr hk5 | exact (hk4'.tr ((kept_alloc _ _).drewN _)).tr hk5);have bc5:=bc2.kept hk5';have b0:=bc5.h0;have b1:=bc5.h1;have b2:=bc5.h2;have b3:=bc5.h3;have b4:=bc5.h4;rw [HCA.out,HPA.out] at hr5;have HR5:=hid hr5;have HK5:=hid hk5;clear hr5 hk5
    try go_wp2_with (fail)
    refine hK.out _ _ ?_ (fun hHeld=>?_)
    ·first | assumption | first | (simp [*];done) | (simp [go_sem, *];done) | (go_keep;done)
    clear hK K
    try simp only [Act.put,List.setIfInBounds_toArray,List.set_cons_zero,List.set_cons_succ]
    refine wpAnyH_take (i:=5) (oi:=?oz6) (v:=?vz6) ?hiz6 (by kernel_rfl) (by kernel_rfl) (by kernel_rfl) (fun _ _ _ h=>h) (Or.inl ⟨?hwz6, ?hyz6⟩) (by assumption) ?restz6
    case hiz6=>(simp only [List.getElem?_toArray,List.getElem?_cons_succ,List.getElem?_cons_zero];rfl)
    case hwz6=>rfl
    case hyz6=>(intro w hSw;(try dsimp only at hSw);go_simp;with_reducible rfl)
    try simp only [Act.put,List.setIfInBounds_toArray,List.set_cons_zero,List.set_cons_succ]
    refine wpAnyH_take (i:=6) (oi:=?oz7) (v:=?vz7) ?hiz7 (by kernel_rfl) (by kernel_rfl) (by kernel_rfl) (fun _ _ _ h=>h) (Or.inl ⟨?hwz7, ?hyz7⟩) (by assumption) ?restz7
    case hiz7=>(simp only [List.getElem?_toArray,List.getElem?_cons_succ,List.getElem?_cons_zero];rfl)
    case hwz7=>rfl
    case hyz7=>(intro w hSw;(try dsimp only at hSw);go_simp;with_reducible rfl)
    try simp only [Act.put,List.setIfInBounds_toArray,List.set_cons_zero,List.set_cons_succ]
    refine wpAnyH_take (i:=7) (oi:=?oz8) (v:=?vz8) ?hiz8 (by kernel_rfl) (by kernel_rfl) (by kernel_rfl) (fun _ _ _ h=>h) (Or.inl ⟨?hwz8, ?hyz8⟩) (by assumption) ?restz8
    case hiz8=>(simp only [List.getElem?_toArray,List.getElem?_cons_succ,List.getElem?_cons_zero];rfl)
    case hwz8=>rfl
    case hyz8=>(intro w hSw;(try dsimp only at hSw);go_simp;with_reducible rfl)
    try simp only [Act.put,List.setIfInBounds_toArray,List.set_cons_zero,List.set_cons_succ]
    refine wpAnyH_ready (rs:=[8]) (by kernel_rfl) (by simp) ?_
    refine AllReadyH.cons (o:=?oy9) ?hy9 (fun K hK=>?by9) AllReadyH.nil
    case hy9=>(simp only [List.getElem?_toArray,List.getElem?_cons_succ,List.getElem?_cons_zero];rfl)
    go_simp
    refine hK.out _ _ ?_ (fun hHeld=>?_)
    ·first | assumption | first | (simp [*];done) | (simp [go_sem, *];done) | (go_keep;done)
    clear hK K
    try simp only [Act.put,List.setIfInBounds_toArray,List.set_cons_zero,List.set_cons_succ]
    refine wpAnyH_ready (rs:=[9]) (by kernel_rfl) (by simp) ?_
    refine AllReadyH.cons (o:=?oy10) ?hy10 (fun K hK=>?by10) AllReadyH.nil
    case hy10=>(simp only [List.getElem?_toArray,List.getElem?_cons_succ,List.getElem?_cons_zero];rfl)
    go_simp
    refine hK.out _ _ ?_ (fun hHeld=>?_)
    ·first | assumption | first | (simp [*];done) | (simp [go_sem, *];done) | (go_keep;done)
    clear hK K
    try simp only [Act.put,List.setIfInBounds_toArray,List.set_cons_zero,List.set_cons_succ]
    refine wpAnyH_take (i:=10) (oi:=?oz11) (v:=?vz11) ?hiz11 (by kernel_rfl) (by kernel_rfl) (by kernel_rfl) (fun _ _ _ h=>h) (Or.inl ⟨?hwz11, ?hyz11⟩) (by assumption) ?restz11
    case hiz11=>(simp only [List.getElem?_toArray,List.getElem?_cons_succ,List.getElem?_cons_zero];rfl)
    case hwz11=>rfl
    case hyz11=>(intro w hSw;(try dsimp only at hSw);go_simp;with_reducible rfl)
    try simp only [Act.put,List.setIfInBounds_toArray,List.set_cons_zero,List.set_cons_succ]
    refine wpAnyH_done (by kernel_rfl) ?_ _
    refine NoPanic.normal ?_
    go_wp2_with (fail)
    go_meet
    case rel =>
     refine ⟨w5.heap.size,fa,fn,fc,rfl,rfl, ?_, ?_, ?_, ?_, ?_⟩
     ·simp
     ·simp
     ·simp
     ·exact (HR5.out.kept (kept_alloc _ _)).mono hk4'.size
     ·exact hk5'.tr (kept_alloc _ _)
   case bBt5 =>
    go_simp
    refine hK.out _ _ ?_ (fun hHeld=>?_)
    ·first | assumption | first | (simp [*];done) | (simp [go_sem, *];done) | (go_keep;done)
    clear hK K
    try simp only [Act.put,List.setIfInBounds_toArray,List.set_cons_zero,List.set_cons_succ]
    refine wpAnyH_ready (rs:=[4]) (by kernel_rfl) (by simp) ?_
    refine AllReadyH.cons (o:=?oy12) ?hy12 (fun K hK=>?by12) AllReadyH.nil
    case hy12=>(simp only [List.getElem?_toArray,List.getElem?_cons_succ,List.getElem?_cons_zero];rfl)
    go_simp
    go_at_call 31;(with_reducible refine (kernel_any G t (.slice ma ml mc) n _ A _ (by first | exact hvm2.kept hk4' | exact (hvm2.kept hk4').kept (kept_drew _) | exact (hvm2.kept hk4').kept (kept_drewN _ _) | exact (hvm2.kept hk4').kept (kept_alloc _ _) | exact (hvm2.kept hk4').kept ((kept_alloc _ _).drewN _)) (by first | exact hv2.kept hk4' | exact (hv2.kept hk4').kept (kept_drew _) | exact (hv2.kept hk4').kept (kept_drewN _ _) | exact (hv2.kept hk4').kept (kept_alloc _ _) | exact (hv2.kept hk4').kept ((kept_alloc _ _).drewN _)) hrf.ri.w h1 (by omega) (by omega)).mono ?_);rintro e w5 ⟨v5,rfl,hr5,hk5⟩;obtain ⟨fa,fc,fe,_,_⟩:=hr5.get;obtain ⟨fn,hfn⟩:∃ x,x=(duaL (opG G) (canL (opG G) A n) (pvL (opG G) A n) n).length:=⟨_,rfl⟩;rw [← hfn] at fe;subst fe;have HFN:=hid hfn;clear hfn;have hk5':Kept w2 w5:=(by first | exact hk4'.tr hk5 | exact (hk4'.drewN _).tr hk5 | exact (hk4'.tr (kept_drew _)).tr hk5 | exact (hk4'.tr (kept_alloc _ _)).tr hk5 | exact (hk4'.tr ((kept_alloc _ _).drewN _)).tr hk5);have bc5:=bc2.kept hk5';have b0:=bc5.h0;have b1:=bc5.h1;have b2:=bc5.h2;have b3:=bc5.h3;have b4:=bc5.h4;rw [HCA.out,HPA.out] at hr5;have HR5:=hid hr5;have HK5:=hid hk5;clear hr5 hk5;have l5:w4.heap.size < w5.heap.size:=(by have q:=HK5.out.size;simp at q;omega);have a0:w5.cell? ⟨w4.heap.size,0,none⟩=some (.int .i64 0):=(HK5.out.cell' (by simp)).trans (by simp);have a1:w5.cell? ⟨w4.heap.size,1,none⟩=some (.slice none 0 0):=(HK5.out.cell' (by simp)).trans (by simp);have z0:w5.frozen? ⟨w4.heap.size,0,none⟩=false:=(HK5.out.frozen' (by simp)).trans (by simp);have z1:w5.frozen? ⟨w4.heap.size,1,none⟩=false:=(HK5.out.frozen' (by simp)).trans (by simp)
    try go_wp2_with (fail)
    refine hK.out _ _ ?_ (fun hHeld=>?_)
    ·first | assumption | first | (simp [*];done) | (simp [go_sem, *];done) | (go_keep;done)
    clear hK K
    try simp only [Act.put,List.setIfInBounds_toArray,List.set_cons_zero,List.set_cons_succ]
    refine wpAnyH_take (i:=5) (oi:=?oz13) (v:=?vz13) ?hiz13 (by kernel_rfl) (by kernel_rfl) (by kernel_rfl) (fun _ _ _ h=>h) (Or.inl ⟨?hwz13, ?hyz13⟩) (by assumption) ?restz13
    case hiz13=>(simp only [List.getElem?_toArray,List.getElem?_cons_succ,List.getElem?_cons_zero];rfl)
    case hwz13=>rfl
    case hyz13=>(intro w hSw;(try dsimp only at hSw);go_simp;with_reducible rfl)
    try simp only [Act.put,List.setIfInBounds_toArray,List.set_cons_zero,List.set_cons_succ]
    refine wpAnyH_take (i:=6) (oi:=?oz14) (v:=?vz14) ?hiz14 (by kernel_rfl) (by kernel_rfl) (by kernel_rfl) (fun _ _ _ h=>h) (Or.inl ⟨?hwz14, ?hyz14⟩) (by assumption) ?restz14
    case hiz14=>(simp only [List.getElem?_toArray,List.getElem?_cons_succ,List.getElem?_cons_zero];rfl)
    case hwz14=>rfl
    case hyz14=>(intro w hSw;(try dsimp only at hSw);go_simp;with_reducible rfl)
    try simp only [Act.put,List.setIfInBounds_toArray,List.set_cons_zero,List.set_cons_succ]
    refine wpAnyH_take (i:=7) (oi:=?oz15) (v:=?vz15) ?hiz15 (by kernel_rfl) (by kernel_rfl) (by kernel_rfl) (fun _ _ _ h=>h) (Or.inl ⟨?hwz15, ?hyz15⟩) (by assumption) ?restz15
    case hiz15=>(simp only [List.getElem?_toArray,List.getElem?_cons_succ,List.getElem?_cons_zero];rfl)
    case hwz15=>rfl
    case hyz15=>(intro w hSw;(try dsimp only at hSw);go_simp;with_reducible rfl)
    try simp only [Act.put,List.setIfInBounds_toArray,List.set_cons_zero,List.set_cons_succ]
    refine wpAnyH_ready (rs:=[9]) (by kernel_rfl) (by simp) ?_
    refine AllReadyH.cons (o:=?oy16) ?hy16 (fun K hK=>?by16) AllReadyH.nil
    case hy16=>(simp only [List.getElem?_toArray,List.getElem?_cons_succ,List.getElem?_cons_zero];rfl)
    go_simp
    refine hK.out _ _ ?_ (fun hHeld=>?_)
    ·first | assumption | first | (simp [*];done) | (simp [go_sem, *];done) | (go_keep;done)
    clear hK K
    try simp only [Act.put,List.setIfInBounds_toArray,List.set_cons_zero,List.set_cons_succ]
    refine wpAnyH_take (i:=10) (oi:=?oz17) (v:=?vz17) ?hiz17 (by kernel_rfl) (by kernel_rfl) (by kernel_rfl) (fun _ _ _ h=>h) (Or.inl ⟨?hwz17, ?hyz17⟩) (by assumption) ?restz17
    case hiz17=>(simp only [List.getElem?_toArray,List.getElem?_cons_succ,List.getElem?_cons_zero];rfl)
    case hwz17=>rfl
    case hyz17=>(intro w hSw;(try dsimp only at hSw);go_simp;with_reducible rfl)
    try simp only [Act.put,List.setIfInBounds_toArray,List.set_cons_zero,List.set_cons_succ]
    refine wpAnyH_done (by kernel_rfl) ?_ _
    refine NoPanic.normal ?_
    go_wp2_with (fail)
    go_meet
    case rel =>
     refine ⟨w4.heap.size,fa,fn,fc,rfl,rfl, ?_, ?_, ?_, ?_, ?_⟩
     ·exact cell_01.trans (cell_same a0)
     ·exact cell_same (cell_10.trans a1)
     ·simpa [World.setCell] using l5
     ·exact ((HR5.out.set (by simp) _).set (by simp) _).mono (by have:=hk4'.size;simp;omega)
     ·exact set_below _ (set_below _ hk5' hk4'.size) hk4'.size
  case bBt4 =>
   go_simp
   refine hK.out _ _ ?_ (fun hHeld=>?_)
   ·first | assumption | first | (simp [*];done) | (simp [go_sem, *];done) | (go_keep;done)
   clear hK K
   try simp only [Act.put,List.setIfInBounds_toArray,List.set_cons_zero,List.set_cons_succ]
   refine wpAnyH_ready (rs:=[3]) (by kernel_rfl) (by simp) ?_
   refine AllReadyH.cons (o:=?oy18) ?hy18 (fun K hK=>?by18) AllReadyH.nil
   case hy18=>(simp only [List.getElem?_toArray,List.getElem?_cons_succ,List.getElem?_cons_zero];rfl)
   go_simp
   go_at_call 32;(with_reducible refine (gen_any G.P G.M ma ml mc n va vn vc _).mono ?_);rintro e w4 ⟨rfl,hk4⟩;have hk4':Kept w2 w4:=(by first | exact hk4 | exact (kept_drew _).tr hk4 | exact (kept_drewN _ _).tr hk4 | exact (kept_alloc _ _).tr hk4 | exact ((kept_drew _).tr (kept_alloc _ _)).tr hk4 | exact ((kept_drewN _ _).tr (kept_alloc _ _)).tr hk4 | exact ((kept_alloc _ _).tr (kept_drew _)).tr hk4 | exact ((kept_alloc _ _).drewN _).tr hk4);have nn4:¬ w4.heap.size=w.heap.size:=(by have q:=hk4'.size;omega);have bc4:=bc2.kept hk4';have b0:=bc4.h0;have b1:=bc4.h1;have b2:=bc4.h2;have b3:=bc4.h3;have b4:=bc4.h4;have l4:w2.heap.size < w4.heap.size:=(by have q:=hk4.size;simp at q;omega);have a0:w4.cell? ⟨w2.heap.size,0,none⟩=some (.int .i64 0):=(hk4.cell' (by simp)).trans (by simp);have a1:w4.cell? ⟨w2.heap.size,1,none⟩=some (.slice none 0 0):=(hk4.cell' (by simp)).trans (by simp);have z0:w4.frozen? ⟨w2.heap.size,0,none⟩=false:=(hk4.frozen' (by simp)).trans (by simp);have z1:w4.frozen? ⟨w2.heap.size,1,none⟩=false:=(hk4.frozen' (by simp)).trans (by simp)
   try go_wp2_with (fail)
   refine hK.out _ _ ?_ (fun hHeld=>?_)
   ·first | assumption | first | (simp [*];done) | (simp [go_sem, *];done) | (go_keep;done)
   clear hK K
   try simp only [Act.put,List.setIfInBounds_toArray,List.set_cons_zero,List.set_cons_succ]
   refine wpAnyH_ready (rs:=[4]) (by kernel_rfl) (by simp) ?_
   refine AllReadyH.cons (o:=?oy19) ?hy19 (fun K hK=>?by19) AllReadyH.nil
   case hy19=>(simp only [List.getElem?_toArray,List.getElem?_cons_succ,List.getElem?_cons_zero];rfl)
   go_simp
   go_at_call 31;(with_reducible refine (kernel_any G t (.slice ma ml mc) n _ A _ (by first | exact hvm2.kept hk4' | exact (hvm2.kept hk4').kept (kept_drew _) | exact (hvm2.kept hk4').kept (kept_drewN _ _) | exact (hvm2.kept hk4').kept (kept_alloc _ _) | exact (hvm2.kept hk4').kept ((kept_alloc _ _).drewN _)) (by first | exact hv2.kept hk4' | exact (hv2.kept hk4').kept (kept_drew _) | exact (hv2.kept hk4').kept (kept_drewN _ _) | exact (hv2.kept hk4').kept (kept_alloc _ _) | exact (hv2.kept hk4').kept ((kept_alloc _ _).drewN _)) hrf.ri.w h1 (by omega) (by omega)).mono ?_);rintro e w5 ⟨v5,rfl,hr5,hk5⟩;obtain ⟨fa,fc,fe,_,_⟩:=hr5.get;obtain ⟨fn,hfn⟩:∃ x,x=(duaL (opG G) (canL (opG G) A n) (pvL (opG G) A n) n).length:=⟨_,rfl⟩;rw [← hfn] at fe;subst fe;have HFN:=hid hfn;clear hfn;have hk5':Kept w2 w5:=(by first | exact hk4'.tr hk5 | exact (hk4'.drewN _).tr hk5 | exact (hk4'.tr (kept_drew _)).tr hk5 | exact (hk4'.tr (kept_alloc _ _)).tr hk5 | exact (hk4'.tr ((kept_alloc _ _).drewN _)).tr hk5);have bc5:=bc2.kept hk5';have b0:=bc5.h0;have b1:=bc5.h1;have b2:=bc5.h2;have b3:=bc5.h3;have b4:=bc5.h4;rw [HCA.out,HPA.out] at hr5;have HR5:=hid hr5;have HK5:=hid hk5;clear hr5 hk5;have l5:w2.heap.size < w5.heap.size:=Nat.lt_of_lt_of_le l4 HK5.out.size;have a0':w5.cell? ⟨w2.heap.size,0,none⟩=some (.int .i64 0):=(HK5.out.cell' l4).trans a0;have a1':w5.cell? ⟨w2.heap.size,1,none⟩=some (.slice none 0 0):=(HK5.out.cell' l4).trans a1;have z0':w5.frozen? ⟨w2.heap.size,0,none⟩=false:=(HK5.out.frozen' l4).trans z0;have z1':w5.frozen? ⟨w2.heap.size,1,none⟩=false:=(HK5.out.frozen' l4).trans z1
   try go_wp2_with (fail)
   refine hK.out _ _ ?_ (fun hHeld=>?_)
   ·first | assumption | first | (simp [*];done) | (simp [go_sem, *];done) | (go_keep;done)
   clear hK K
   try simp only [Act.put,List.setIfInBounds_toArray,List.set_cons_zero,List.set_cons_succ]
   refine wpAnyH_take (i:=5) (oi:=?oz20) (v:=?vz20) ?hiz20 (by kernel_rfl) (by kernel_rfl) (by kernel_rfl) (fun _ _ _ h=>h) (Or.inl ⟨?hwz20, ?hyz20⟩) (by assumption) ?restz20
   case hiz20=>(simp only [List.getElem?_toArray,List.getElem?_cons_succ,List.getElem?_cons_zero];rfl)
   case hwz20=>rfl
   case hyz20=>(intro w hSw;(try dsimp only at hSw);go_simp;with_reducible rfl)
   try simp only [Act.put,List.setIfInBounds_toArray,List.set_cons_zero,List.set_cons_succ]
   refine wpAnyH_take (i:=6) (oi:=?oz21) (v:=?vz21) ?hiz21 (by kernel_rfl) (by kernel_rfl) (by kernel_rfl) (fun _ _ _ h=>h) (Or.inl ⟨?hwz21, ?hyz21⟩) (by assumption) ?restz21
   case hiz21=>(simp only [List.getElem?_toArray,List.getElem?_cons_succ,List.getElem?_cons_zero];rfl)
   case hwz21=>rfl
   case hyz21=>(intro w hSw;(try dsimp only at hSw);go_simp;with_reducible rfl)
   try simp only [Act.put,List.setIfInBounds_toArray,List.set_cons_zero,List.set_cons_succ]
   refine wpAnyH_take (i:=7) (oi:=?oz22) (v:=?vz22) ?hiz22 (by kernel_rfl) (by kernel_rfl) (by kernel_rfl) (fun _ _ _ h=>h) (Or.inl ⟨?hwz22, ?hyz22⟩) (by assumption) ?restz22
   case hiz22=>(simp only [List.getElem?_toArray,List.getElem?_cons_succ,List.getElem?_cons_zero];rfl)
   case hwz22=>rfl
   case hyz22=>(intro w hSw;(try dsimp only at hSw);go_simp;with_reducible rfl)
   try simp only [Act.put,List.setIfInBounds_toArray,List.set_cons_zero,List.set_cons_succ]
   refine wpAnyH_ready (rs:=[9]) (by kernel_rfl) (by simp) ?_
   refine AllReadyH.cons (o:=?oy23) ?hy23 (fun K hK=>?by23) AllReadyH.nil
   case hy23=>(simp only [List.getElem?_toArray,List.getElem?_cons_succ,List.getElem?_cons_zero];rfl)
   go_simp
   refine hK.out _ _ ?_ (fun hHeld=>?_)
   ·first | assumption | first | (simp [*];done) | (simp [go_sem, *];done) | (go_keep;done)
   clear hK K
   try simp only [Act.put,List.setIfInBounds_toArray,List.set_cons_zero,List.set_cons_succ]
   refine wpAnyH_take (i:=10) (oi:=?oz24) (v:=?vz24) ?hiz24 (by kernel_rfl) (by kernel_rfl) (by kernel_rfl) (fun _ _ _ h=>h) (Or.inl ⟨?hwz24, ?hyz24⟩) (by assumption) ?restz24
   case hiz24=>(simp only [List.getElem?_toArray,List.getElem?_cons_succ,List.getElem?_cons_zero];rfl)
   case hwz24=>rfl
   case hyz24=>(intro w hSw;(try dsimp only at hSw);go_simp;with_reducible rfl)
   try simp only [Act.put,List.setIfInBounds_toArray,List.set_cons_zero,List.set_cons_succ]
   refine wpAnyH_done (by kernel_rfl) ?_ _
   refine NoPanic.normal ?_
   go_wp2_with (fail)
   go_meet
   case rel =>
    refine ⟨w2.heap.size,fa,fn,fc,rfl,rfl, ?_, ?_, ?_, ?_, ?_⟩
    ·exact cell_01.trans (cell_same a0')
    ·exact cell_same (cell_10.trans a1')
    ·simpa [World.setCell] using l5
    ·exact ((HR5.out.set l4 _).set l4 _).mono hk4'.size
    ·exact set_below _ (set_below _ hk5' (Nat.le_refl _)) (Nat.le_refl _)
 case rest =>
  obtain ⟨bm,fa,fn,fc,rfl,rfl,x0,x1,hbm,hr3,hk3⟩:=hcut
  obtain ⟨w3,hw3⟩:∃ x,x=wc:=⟨_,rfl⟩
  rw [← hw3] at x0 x1 hbm hr3 hk3 ⊢
  have bc3:=bc2.kept hk3
  have fr3:=fr2.kept hk3
  have br3:=br2.kept hk3
  have hvm3:=hvm2.kept hk3
  have hk13:=hk12.tr hk3
  clear hw3 b0 b1 b2 b3 b4 hbm
  have b0:=bc3.h0
  have b1:=bc3.h1
  have b2:=bc3.h2
  have HR3:=hid hr3
  clear hr3
  go_wp2_with (fail)
  (with_reducible refine (of_any G.P G.M (.slice ma ml mc) G.mod n fa fn fc w3 hvm3 hml).mono ?_)
  rintro e w4 ⟨a,c,rfl,ho4,hk4⟩
  have fr4:=fr3.kept hk4
  have br4:=br3.kept hk4
  have hkf:=hk13.tr hk4
  clear b0 b1 b2 x0 x1
  have f0:=fr4.2 0
  have f1:=fr4.2 1
  have f2:=fr4.2 2
  have f3:=fr4.2 3
  have f4:=fr4.2 4
  have r0:=br4.2 0 _ rfl
  have r1:=br4.2 1 _ rfl
  have r2:=br4.2 2 _ rfl
  have r3:=br4.2 3 _ rfl
  have r4:=br4.2 4 _ rfl
  have hlow2:w.heap.size + 1 < w2.heap.size:=by have:=hk2.size;have:=HS1.out;omega
  have hlow3:w.heap.size + 1 < w3.heap.size:=by have:=hk3.size;omega
  have HR4:=hid (HR3.out.kept hk4)
  have HO:=hid ho4
  have KF:=hid (fun x0 x1 x2 x3 x4=>set_below (b:=w.heap.size + 1) (i:=4) x0 (set_below (b:=w.heap.size + 1) (i:=3) x1 (set_below (b:=w.heap.size + 1) (i:=2) x2 (set_below (b:=w.heap.size + 1) (i:=1) x3 (set_below (b:=w.heap.size + 1) (i:=0) x4 hkf (by omega)) (by omega)) (by omega)) (by omega)) (by omega))
  obtain ⟨_,_,hfe,_,_⟩:=HR3.out.get
  obtain rfl:fn=(duaL (opG G) A P n).length:=by injection hfe
  clear ho4 hfe
  go_wp2_with (fail)
  refine bodyPost_ret (v:=.tuple #[.agg #[.int .i64 G.P,.int .i64 G.M,.slice a G.mod.length c,.int .i64 n,.slice fa (duaL (opG G) A P n).length fc],.int .i64 0]) ?_ rfl ⟨a,c,fa,fc,rfl, ?_, ?_,KF.out _ _ _ _ _⟩
  ·simp [results,Tryz.results12,go_sem,r0,r1,r2,r3,r4]
  ·exact (own_setLow (own_setLow (own_setLow (own_setLow (own_setLow HO.out hlow3 _) hlow3 _) hlow3 _) hlow3 _) hlow3 _).mono (by omega)
  ·exact (((((HR4.out.set hlow2 _).set hlow2 _).set hlow2 _).set hlow2 _).set hlow2 _).mono (by omega)
def DualOut (G:GFd) (A:List (List Int)) (P:List Nat) (n:Nat) (w:World) (e:Ending) (w':World):Prop :=
 ∃ a c fa fc,e=.returned (.tuple #[.agg #[.int .i64 G.P,.int .i64 G.M,.slice a G.mod.length c,.int .i64 n,.slice fa (duaL (opG G) A P n).length fc],.int .i64 0])∧Sl w' (.slice a G.mod.length c) G.mod∧Rd w' (.slice fa (duaL (opG G) A P n).length fc) (duaL (opG G) A P n)∧Kept w w'
theorem dual_ok (G:GFd) (t:Tabs G) (ma:Option Addr) (ml mc n:Nat) (va:Option Addr) (vn vc:Nat) (A:List (List Int)) (P:List Nat) (w:World) (hvm:Sl w (.slice ma ml mc) G.mod) (hv:Rd w (.slice va vn vc) A) (hrf:Rf G.q A n P) (h1:1≤n) (h2:n≤64) (hml:G.mod.length≤1000) :
  Calls Tryz.prog 12 #[.agg #[.int .i64 G.P,.int .i64 G.M,.slice ma ml mc,.int .i64 n,.slice va vn vc]] w (DualOut G A P n w):=by
 refine (dual_own G t ma ml mc n va vn vc A P w hvm hv hrf h1 h2 hml).mono ?_
 rintro e w' ⟨a,c,fa,fc,rfl,h1,h2,h3⟩
 exact ⟨a,c,fa,fc,rfl,h1.sl,h2.rd,h3⟩
end Go.Proofs.YtoilbeadokallaaGreatDoor
namespace Go.Proofs.YtoilbeadokallaaGreatDoor
open Go.RowKit Cw Cw.Gj
def pts7:List (List Int):=[[0,0,1],[0,1,0],[0,1,1],[1,0,0],[1,0,1],[1,1,0],[1,1,1]]
def p7 (k j:Nat):Int:=(pts7.getD k []).getD j 0
def ld7 (k:Nat):Nat:=[2,1,1,0,0,0,0].getD k 0
def st7 (k i:Nat):List Int:=(List.range 3).map fun j=>if j≤i then p7 k j else 0
theorem p7_zero:∀ k,k < 7→∀ i,i < 3→1≤i→(st7 k i).set i 0=st7 k (i - 1):=by decide
theorem p7_last:∀ k,k < 7→(∀ j,j < 3→ld7 k < j→p7 k j=1)→k=0 ∨ k=2 ∨ k=6:=by decide
set_option synthInstance.maxSize 2000 in
set_option synthInstance.maxHeartbeats 400000 in
theorem p7_next:∀ k,k < 7→∀ i,i < 3→ld7 k < i→(∀ j,j < 3→i < j→p7 k j=1)→p7 k i ≠ 1→k + 1 < 7∧ld7 (k + 1)=ld7 k∧(st7 k i).set i (p7 k i + 1)=pts7.getD (k + 1) []:=by decide
theorem p7_bd:∀ k,k < 7→∀ i,i < 3→0≤p7 k i∧p7 k i≤1:=by decide
theorem p7_full:∀ k,k < 7→st7 k 2=pts7.getD k []:=by decide
theorem p7_get:∀ k,k < 7→∀ i,i < 3→(st7 k i).getD i 0=p7 k i:=by decide
theorem p7_len:∀ k,k < 7→(pts7.getD k []).length=3:=by decide
theorem p7_take:∀ k,k < 7→pts7.take k ++ [pts7.getD k []]=pts7.take (k + 1):=by decide
theorem p7_tlen:∀ k,k≤7→(pts7.take k).length=k:=by decide
def Fst7 (k:Nat):Prop:=k=0 ∨ k=1 ∨ k=3
theorem p7_fst:∀ k,k < 7→(k=0 ∨ k=1 ∨ k=3)→ld7 k < 3∧(List.replicate 3 (0:Int)).set (ld7 k) 1=pts7.getD k []:=by decide
theorem p7_step:∀ k,k < 7→(k=0 ∨ k=2 ∨ k=6)→(k + 1=7∧ld7 k=0) ∨ (k + 1 < 7∧(k + 1=0 ∨ k + 1=1 ∨ k + 1=3)∧ld7 k=ld7 (k + 1) + 1):=by decide
theorem make_rows0 (w:World):∃ w',(Instr.makeSlice 27 (.int .i64 0) (.int .i64 7)).run Tryz.prog w=.ok (.slice (some ⟨w.heap.size,0,none⟩) 0 7) w'∧Mx w' w.heap.size (.slice (some ⟨w.heap.size,0,none⟩) 0 7) [] (fun _=>.slice none 0 0)∧Kept w w':=by
 obtain ⟨i0,hi,hz0,hz1,hz2⟩:=info_parts Tryz.infoSl
 obtain ⟨w',h1,h2,h3⟩:=run_make_own (P:=Tryz.prog) w w.heap.size 27 22 i0 _ 1 Tryz.underlying27 hi hz0 hz1 .i64 .i64 7 (by rw [hz2];decide) (by unfold maxLen;omega) (Nat.le_refl _)
 exact ⟨w',h1,⟨h2,fun i hi=>absurd hi (Nat.not_lt_zero _),fun i k hi=>absurd hi (Nat.not_lt_zero _)⟩,kept_grown h3⟩
def PtsOut (w:World) (e:Ending) (w':World):Prop:=∃ v rv,e=.returned (.tuple #[v,.int .i64 0])∧Mx w' w.heap.size v pts7 rv∧Kept w w'
set_option maxRecDepth 100000 in
set_option maxHeartbeats 8000000 in
theorem points7 (vm:Value) (w:World) (hvm:Sl w vm []) (hF:FieldP 2 1 []) :
  Calls Tryz.prog 303 #[.agg #[.int .i64 2,.int .i64 1,vm],.int .i64 3] w (PtsOut w):=by
 have hk0:=kept_alloc w (.cells #[.int .i64 2,.int .i64 1,vm] 24)
 have hv1:=hvm.kept hk0
 have HF:=hid hF
 clear hvm hF
 go_enter Tryz.func303,Tryz.ntmps303
 go_wp2_with (first
  | (go_at_call 47;(with_reducible refine (new_field 2 1 vm [] _ hv1 HF.out).mono ?_);rintro e w1 ⟨b,G,rfl,hg1,ht,hP,hM,hmod,hk1⟩;have hq:G.q=2:=(by rw [ht.hq,hP,hM];decide))
  | (go_at_call 95;(with_reducible refine (order'_any b G w1 hg1).mono ?_);rintro e w2 ⟨rfl,n2,rfl⟩;rw [hq]))
 obtain ⟨W2,hW2⟩:∃ x,x=w1.drewN n2:=⟨_,rfl⟩
 have hk2:Kept w W2:=by rw [hW2];exact (hk0.tr hk1).tr (kept_drewN _ _)
 rw [← hW2]
 clear hW2 hg1 ht hP hM hmod hk1 hq hk0 hv1
 go_loop [28,9,10] (fun vi vt vp=>∃ k:Nat,k≤3∧vi=.int .i64 k∧vt=.int .i64 (2 ^ k - 1)∧vp=.int .i64 (2 ^ k)) (fun vi _ _=>3 - (intOf vi).toNat)
 case atStart=>exact ⟨0,by omega,rfl,rfl,rfl⟩
 case round =>
  obtain ⟨k,hk3,rfl,rfl,rfl⟩:=hrel
  have hk4:k=0 ∨ k=1 ∨ k=2 ∨ k=3:=by omega
  rcases hk4 with rfl | rfl | rfl | rfl
  ·go_wp2_with (fail)
   go_round
   case rel=>exact ⟨1,by omega,rfl,rfl,rfl⟩
   case measure=>decide
  ·go_wp2_with (fail)
   go_round
   case rel=>exact ⟨2,by omega,rfl,rfl,rfl⟩
   case measure=>decide
  ·go_wp2_with (fail)
   go_round
   case rel=>exact ⟨3,by omega,rfl,rfl,rfl⟩
   case measure=>decide
  ·obtain ⟨W3,hmk,hm3,hk23⟩:=make_rows0 W2
   obtain ⟨X,hX⟩:∃ x,x=W2.heap.size:=⟨_,rfl⟩
   have HX:=hid hX
   have HK3:=hid hk23
   rw [← hX] at hmk hm3
   clear hX hk23
   go_wp2_with (fail)
   clear hmk
   go_loopg [11,12] 8 (fun gk vo vl wr=>∃ k rv,gk=8 - k∧((k=7∧vl=.int .i64 (-1)) ∨ (k < 7∧Hid (Fst7 k)∧vl=.int .i64 (ld7 k)))∧Mx wr X vo (pts7.take k) rv∧Kept W2 wr)
   case atStart=>exact ⟨0,_,rfl,.inr ⟨by omega,hid (.inl rfl),rfl⟩,hm3,HK3.out⟩
   case round =>
    obtain ⟨k,rv,rfl,hc,hmx,hkw⟩:=hrel
    clear hm3
    obtain ⟨wo,hwo⟩:∃ x,x=wr:=⟨_,rfl⟩
    subst hwo
    rcases hc with ⟨rfl,rfl⟩ | ⟨hk7,hfst,rfl⟩
    ·go_wp2_with (fail)
     refine bodyPost_ret (v:=.tuple #[_,.int .i64 0]) ?_ rfl ⟨_,rv,rfl,hmx.mono (by rw [HX.out];exact hk2.size),hk2.tr hkw⟩
     simp [results,Tryz.results303,go_sem]
    ·obtain ⟨hl3,hst⟩:=p7_fst k hk7 hfst.out
     have hmi:∀ w:World,(Instr.makeSlice 22 (.int .i64 3) (.int .i64 3)).run Tryz.prog w=.ok (.slice (some ⟨w.heap.size,0,none⟩) 3 3) (w.alloc (.cells (madeCells #[.int .i64 0] 3) 3)):=fun w=>run_make_ints 3 (by omega) w
     obtain ⟨l,hl⟩:∃ l,l=ld7 k:=⟨_,rfl⟩
     have HLD:=hid hl.symm
     rw [← hl] at hl3 hst ⊢
     have HST:=hid hst
     have hl0:(0:Int)≤(l:Int):=by omega
     clear hl hst
     go_upto_region 20 with (fail)
     obtain ⟨Wn,hWn⟩:∃ x,x=wo.alloc (.cells (madeCells #[.int .i64 0] 3) 3):=⟨_,rfl⟩
     obtain ⟨bw,hbw⟩:∃ x,x=wo.heap.size:=⟨_,rfl⟩
     have hkn:Kept wo Wn:=by rw [hWn];exact kept_alloc _ _
     have hXo:X≤wo.heap.size:=by rw [HX.out];exact hkw.size
     have hon:Own Wn X (.slice (some ⟨bw,0,none⟩) 3 3) (List.replicate 3 0):=by rw [hWn,hbw];exact own_make_ints (by omega) hXo
     rw [← hWn,← hbw]
     have hmn:=hmx.kept hkn
     have HBW:=hid hbw
     have cl:=hon.cell (i:=l) (by simpa using hl3)
     have fl:=hon.frozen l
     clear hWn hbw hmi
     go_wp2_with (fail)
     have hos:Own (Wn.setCell ⟨bw,l,none⟩ (.int .i64 1)) X (.slice (some ⟨bw,0,none⟩) 3 3) (pts7.getD k []):=by rw [← HST.out];exact hon.set l 1
     have hbl:=hon.lt
     have hrn:∀ i,i < k→(rv i).ownBlock ≠ some bw:=fun i hi e=>by
      have h1:=own_blk (hmx.row i (by rw [p7_tlen k (by omega)];exact hi)) e
      have:=HBW.out
      omega
     have hnh:¬ Has _ rv (pts7.take k).length bw:=fun h=>by
      rcases h with h | ⟨i,hi,h⟩
      ·exact row_ne hmn.out hon rfl h
      ·exact hrn i (by rw [p7_tlen k (by omega)] at hi;exact hi) h
     have hms:=hmn.grown (grownBy_setCell Wn bw l (.int .i64 1)) hnh
     obtain ⟨Ws,hWs⟩:∃ x,x=Wn.setCell ⟨bw,l,none⟩ (.int .i64 1):=⟨_,rfl⟩
     have hks:Kept W2 Ws:=by rw [hWs];exact set_below _ (hkw.tr hkn) (by have:=HX.out;have:=hbl.1;omega)
     rw [← hWs] at hos hms ⊢
     clear hWs hon hmn cl fl hnh hkn
     have HKS:=hid hks
     have HFK:=hid (show ld7 k=l from HLD.out)
     clear hks HLD HST hmx hkw
     obtain ⟨k0,hk0⟩:∃ x,x=k:=⟨_,rfl⟩
     have hk07:k0 < 7:=by omega
     go_loopg [11] (8 - k0) (fun gk vo wr=>∃ k rv,gk=8 - k∧k0≤k∧k < 7∧Hid (ld7 k=l)∧Mx wr X vo (pts7.take k) rv∧Own wr X (.slice (some ⟨bw,0,none⟩) 3 3) (pts7.getD k [])∧(∀ i,i < k→(rv i).ownBlock ≠ some bw)∧Kept W2 wr)
     case atStart=>exact ⟨k,rv,by omega,by omega,hk7,HFK,hms,hos,hrn,HKS.out⟩
     case round =>
      clear hms hos hrn HFK HKS hfst
      obtain ⟨k,rv,rfl,hkk,hk7,HLD,hmx,hos,hrn,hkw⟩:=hrel
      obtain ⟨wi,hwi⟩:∃ x,x=wr:=⟨_,rfl⟩
      subst hwi
      have hl3':=p7_len k hk7
      have HOS:=hid hos
      have HMX:=hid hmx
      have HRN:=hid hrn
      have HKW:=hid hkw
      clear hos hmx hrn hkw
      go_upto_region 22 with (first
       | (go_at_call 128;(with_reducible refine (clone_any _ (pts7.getD k []) _ HOS.out.sl (by rw [hl3'];omega)).mono ?_);rintro e w3 ⟨v3,rfl,ho3,hk3⟩;have ho3n:v3 ≠ .slice none 0 0:=(fun e=>by subst e;obtain ⟨_,_,e,_⟩:=ho3.sl;injection e with _ e _;omega);obtain ⟨g3,c3,e3,hg3,hg3'⟩:=ho3.get ho3n;rw [hl3'] at e3;subst e3;clear ho3n;have hm4:=(HMX.out.kept hk3).kept (kept_alloc w3 (.cells #[.slice (some ⟨g3,0,none⟩) 3 c3] 22)))
       | (at_builtin;refine wpList_append_row rfl _ _ rfl X _ _ _ rfl hm4.out ⟨w3.heap.size,0,none⟩ (.slice (some ⟨g3,0,none⟩) 3 c3) rfl (cell_new rfl) rfl (by rw [p7_tlen k (by omega)];omega) (by have:=HKW.out.size;have:=HX.out;have:=hk3.size;simp;omega) ?_;intro v8 w8 o8 hg8))
      have hka:=kept_alloc w3 (.cells #[.slice (some ⟨g3,0,none⟩) 3 c3] 22)
      have hXw:=HX.out
      have hsz:=HKW.out.size
      have htl:=p7_tlen k (by omega)
      have hks8:Kept W2 w8:=Below.grown ((HKW.out.tr hk3).tr hka) hg8 (Nat.le_trans hsz (hk3.tr hka).size) (fun g e=>by rw [← hXw];exact (World.ownsRow.lt hm4.out g e).1)
      have hd4:∀ x,(Value.slice (some ⟨g3,0,none⟩) 3 c3).ownBlock=some x→∀ j,j < (pts7.take k).length→(rv j).ownBlock ≠ some x:=fun x hx j hj e=>by
       have h1:=own_blk (HMX.out.row j hj) e
       have h2:g3=x:=by simpa [Value.ownBlock] using hx
       omega
      have hm8:=Mx.add hm4 ((ho3.kept hka).mono (by omega)) hd4 o8 hg8
      rw [p7_take k hk7] at hm8
      have ho4:=(HOS.out.kept hk3).kept hka
      have ho8:=ho4.grownBy hg8 (.inr fun e=>row_ne hm4.out ho4 rfl e.symm)
      have hr8:∀ i,i < k + 1→((fun i=>if i=(pts7.take k).length then Value.slice (some ⟨g3,0,none⟩) 3 c3 else rv i) i).ownBlock ≠ some bw:=fun i hi e=>by
       have hbw:=HOS.out.lt
       dsimp only at e
       by_cases q:i=(pts7.take k).length
       ·rw [if_pos q] at e
        have h2:g3=bw:=by simpa [Value.ownBlock] using e
        omega
       ·rw [if_neg q] at e
        exact HRN.out i (by omega) e
      obtain ⟨rw8,hrw8⟩:∃ f,f=(fun i=>if i=(pts7.take k).length then Value.slice (some ⟨g3,0,none⟩) 3 c3 else rv i):=⟨_,rfl⟩
      rw [← hrw8] at hm8 hr8
      rw [← p7_full k hk7] at ho8
      clear hrw8 hd4 ho4 hka hm4 o8 hg8 ho3 hg3 hg3' hk3 htl
      have HM8:=hid hm8
      have HO8:=hid ho8
      have HR8:=hid hr8
      have HK8:=hid hks8
      clear hm8 ho8 hr8 hks8
      have hbd:=p7_bd k hk7
      have HBD:=hid hbd
      clear hbd
      go_wp2_with (fail)
      go_loopg [14] 3 (fun gk vi wr=>∃ i:Nat,i < 3∧l≤i∧vi=.int .i64 i∧gk=i + 1∧Hid (∀ j,j < 3→i < j→p7 k j=1)∧Mx wr X v8 (pts7.take (k + 1)) rw8∧Own wr X (.slice (some ⟨bw,0,none⟩) 3 3) (st7 k i)∧Kept W2 wr)
      case atStart=>exact ⟨2,by omega,by omega,rfl,rfl,hid (fun j h1 h2=>by omega),HM8.out,HO8.out,HK8.out⟩
      case round =>
       obtain ⟨i,hi3,hli,rfl,rfl,hones,hmx,hos,hkw⟩:=hrel
       have hc:=hos.cell (i:=i) (by simpa [st7] using hi3)
       rw [p7_get k hk7 i hi3] at hc
       have hf:=hos.frozen i
       have hlb:=hos.lt
       have hi0:(0:Int)≤(i:Int):=by omega
       have hi3':(i:Int) < 3:=by omega
       have hnh:¬ Has v8 rw8 (pts7.take (k + 1)).length bw:=fun h=>by
        rcases h with h | ⟨j,hj,h⟩
        ·exact row_ne hmx.out hos rfl h
        ·exact HR8.out j (by rw [p7_tlen (k + 1) (by omega)] at hj;exact hj) h
       have hst:∀ x,Mx (wr.setCell ⟨bw,i,none⟩ (.int .i64 x)) X v8 (pts7.take (k + 1)) rw8∧Own (wr.setCell ⟨bw,i,none⟩ (.int .i64 x)) X (.slice (some ⟨bw,0,none⟩) 3 3) ((st7 k i).set i x)∧Kept W2 (wr.setCell ⟨bw,i,none⟩ (.int .i64 x)):=fun x=>⟨hmx.grown (grownBy_setCell wr bw i _) hnh,hos.set i x,set_below _ hkw (by have:=HX.out;have:=hlb.1;omega)⟩
       have HST:=hid hst
       have HMX':=hid hmx
       have HOS':=hid hos
       have HKW':=hid hkw
       obtain ⟨z,hz⟩:∃ z,z=p7 k i:=⟨_,rfl⟩
       have hzb:=HBD.out i hi3
       have hnx:=p7_next k hk7 i hi3
       rw [← hz] at hc hzb hnx
       have HNX:=hid hnx
       have HZ:=hid hz
       clear hst hmx hos hkw hnx hz hnh hlb
       by_cases hgt:l < i
       ·have hgt':(l:Int) < (i:Int):=by omega
        by_cases hz1:z=1
        ·subst hz1
         have hw1:IntKind.i64.wrap ((i:Int) - 1)=((i - 1:Nat):Int):=by rw [IntWalk.i64_in _ (by omega)];omega
         go_wp2_with (fail)
         go_roundg i
         case measure=>omega
         case rel =>
          obtain ⟨q1,q2,q3⟩:=HST.out 0
          rw [p7_zero k hk7 i hi3 (by omega)] at q2
          exact ⟨i - 1,by omega,by omega,rfl,by omega,hid (fun j h1 h2=>by
           by_cases e:j=i
           ·rw [e];exact HZ.out.symm
           ·exact hones.out j h1 (by omega)),q1,q2,q3⟩
        ·have hz1':(z == 1)=false:=by simpa using hz1
         have hw1:IntKind.i64.wrap (z + 1)=z + 1:=IntWalk.i64_in _ (by omega)
         have hil:((i:Int) == (l:Int))=false:=by simp;omega
         go_wp2_with (fail)
         go_roundg (8 - (k + 1))
         case measure=>omega
         case rel =>
          obtain ⟨q1,q2,q3⟩:=HST.out (z + 1)
          obtain ⟨n1,n2,n3⟩:=HNX.out (by rw [HLD.out];exact hgt) hones.out hz1
          rw [n3] at q2
          exact ⟨k + 1,rw8,rfl,by omega,n1,hid (n2.trans HLD.out),q1,q2,HR8.out,q3⟩
       ·have hil:i=l:=by omega
        subst hil
        go_wp2_with (fail)
        have hlast:=p7_last k hk7 (fun j h1 h2=>hones.out j h1 (by rw [← HLD.out];exact h2))
        have hstep:=p7_step k hk7 hlast
        go_roundg (8 - (k + 1))
        case measure=>omega
        case rel =>
         refine ⟨k + 1,rw8,rfl, ?_,HMX'.out,HKW'.out⟩
         have hld:=HLD.out
         rcases hstep with ⟨e1,e2⟩ | ⟨e1,e2,e3⟩
         ·exact .inl ⟨e1,by rw [← hld,e2];rfl⟩
         ·exact .inr ⟨e1,hid e2,by rw [← hld,e3];congr 1;omega⟩
end Go.Proofs.YtoilbeadokallaaGreatDoor
