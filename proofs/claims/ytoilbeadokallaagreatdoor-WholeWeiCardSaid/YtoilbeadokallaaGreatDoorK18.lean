/- Lemmas on the way to the row, merged: walks of functions and plain algebra. Conditions: each lemma's own, stated with it. -/
import Derived.Test.YtoilbeadokallaaGreatDoorK17
import Derived.Deep.RegionHeld3
namespace Go.Proofs.YtoilbeadokallaaGreatDoor
open Go.RowKit Cw Cw.Gj
set_option maxHeartbeats 1000000 in
theorem gen_any (x y:Int) (ma:Option Addr) (ml mc:Nat) (n:Int) (a:Option Addr) (m c:Nat) (w:World) :
  Calls Tryz.prog 32 #[.agg #[.int .i64 x,.int .i64 y,.slice ma ml mc,.int .i64 n,.slice a m c]] w fun e w'=>e=.returned (.agg #[.int .i64 n,.slice a m c])∧Kept w w':=by
 have hk:Kept w ((w.alloc (.cells #[.int .i64 x,.int .i64 y,.slice ma ml mc,.int .i64 n,.slice a m c] 29)).alloc (.cells #[.int .i64 n,.slice a m c] 71)):=(kept_alloc _ _).tr (kept_alloc _ _)
 go_enter Tryz.func32,Tryz.ntmps32
 go_wp2_with (fail)
 refine bodyPost_ret (v:=.agg #[.int .i64 n,.slice a m c]) ?_ rfl ⟨rfl,hk⟩
 simp [results,Tryz.results32,go_sem]
theorem length_ok (n:Int) (w:World) (h1:1≤n) (h2:n≤64):Calls Tryz.prog 56 #[.int .i64 n] w fun e w'=>e=.returned (.int .i64 0)∧w'=w:=by
 have t1:decide (n < 1)=false:=by simp;omega
 have t2:decide (64 < n)=false:=by simp;omega
 go_enter Tryz.func56,Tryz.ntmps56
 go_wp2_with (fail)
 go_ret
 exact ⟨rfl,rfl⟩
def OwnOut (P M:Int) (mod:List Int) (w:World) (e:Ending) (w':World):Prop :=
 ∃ a c,e=.returned (.agg #[.int .i64 P,.int .i64 M,.slice a mod.length c])∧Own w' w.heap.size (.slice a mod.length c) mod∧Kept w w'
set_option maxHeartbeats 2000000 in
theorem cown_any (P M:Int) (vm:Value) (mod:List Int) (w:World) (hvm:Sl w vm mod) (hl:mod.length≤1000) :
  Calls Tryz.prog 72 #[.agg #[.int .i64 P,.int .i64 M,vm]] w (OwnOut P M mod w):=by
 obtain ⟨w1,hw1⟩:∃ w1,w1=(w.alloc (.cells #[.int .i64 P,.int .i64 M,vm] 24)).alloc (.cells #[.int .i64 0,.int .i64 0,.slice none 0 0] 24):=⟨_,rfl⟩
 have hk1:Kept w w1:=by rw [hw1];exact (kept_alloc _ _).tr (kept_alloc _ _)
 have bf:BoxF w1 w.heap.size P M vm:=by rw [hw1];exact (boxF_new w _ _ _ _).kept (kept_alloc _ _)
 have ff:w1.frozen? ⟨w.heap.size,2,none⟩=false:=by rw [hw1,Kept.frozen' (kept_alloc _ _) (by simp)];simp
 have br:BoxF w1 (w.heap.size + 1) 0 0 (.slice none 0 0):=by
  rw [hw1]
  have:=boxF_new (w.alloc (.cells #[.int .i64 P,.int .i64 M,vm] 24)) 0 0 (.slice none 0 0) 24
  simpa using this
 have fr:∀ i,w1.frozen? ⟨w.heap.size + 1,i,none⟩=false:=fun i=>by rw [hw1];exact World.frozen?_alloc_at _ _ _ _ (by simp)
 have hs1:w1.heap.size=w.heap.size + 1 + 1:=by rw [hw1];simp
 have hvm1:=hvm.kept hk1
 have b2:=bf.h2
 have HS1:=hid hs1
 clear hs1
 go_enter Tryz.func72,Tryz.ntmps72
 go_wp2_with (fail)
 rw [← hw1]
 clear hw1
 (with_reducible refine (clone_any vm mod w1 hvm1 (by omega)).mono ?_)
 rintro e w2 ⟨v',rfl,ho2,hk2⟩
 obtain ⟨a,c,rfl,_,_⟩:=ho2.sl.lenOf
 have bf2:=bf.kept hk2
 have br2:=br.kept hk2
 have ff2:=(hk2.frozen' bf.lt).trans ff
 have f0:=(hk2.frozen' br.lt).trans (fr 0)
 have f1:=(hk2.frozen' br.lt).trans (fr 1)
 have f2:=(hk2.frozen' br.lt).trans (fr 2)
 have hk12:=hk1.tr hk2
 have hlow:w.heap.size + 1 < w1.heap.size:=by have:=HS1.out;omega
 have hB:w.heap.size≤w1.heap.size:=hk1.size
 have HO:=hid ho2
 clear b2 bf br ff fr ho2 hvm1 hvm
 have b0:=bf2.h0
 have b1:=bf2.h1
 have b2:=bf2.h2
 have r0:=br2.h0
 have r1:=br2.h1
 have r2:=br2.h2
 have hne:¬ w.heap.size=w.heap.size + 1:=by omega
 have KF:=hid (fun x0 x1 x2 x3=>set_below (b:=w.heap.size + 1) (i:=2) x0 (set_below (b:=w.heap.size + 1) (i:=1) x1 (set_below (b:=w.heap.size + 1) (i:=0) x2 (set_below (b:=w.heap.size) (i:=2) x3 hk12 (by omega)) (by omega)) (by omega)) (by omega))
 go_wp2_with (fail)
 refine bodyPost_ret (v:=.agg #[.int .i64 P,.int .i64 M,.slice a mod.length c]) ?_ rfl ⟨a,c,rfl, ?_,KF.out _ _ _ _⟩
 ·simp [results,Tryz.results72,go_sem,r0,r1,r2]
 ·exact (own_setLow (own_setLow (own_setLow (own_setLow HO.out (by omega) _) hlow _) hlow _) hlow _).mono hB
structure BoxC (w:World) (b:Nat) (x y:Int) (vm:Value) (n:Int) (v:Value):Prop where
 lt:b < w.heap.size
 h0:w.cell? ⟨b,0,none⟩=some (.int .i64 x)
 h1:w.cell? ⟨b,1,none⟩=some (.int .i64 y)
 h2:w.cell? ⟨b,2,none⟩=some vm
 h3:w.cell? ⟨b,3,none⟩=some (.int .i64 n)
 h4:w.cell? ⟨b,4,none⟩=some v
theorem BoxC.kept {w w':World} {b:Nat} {x y:Int} {vm:Value} {n:Int} {v:Value} (h:BoxC w b x y vm n v) (k:Kept w w'):BoxC w' b x y vm n v :=
 ⟨k.lt h.lt,(k.cell' h.lt).trans h.h0,(k.cell' h.lt).trans h.h1,(k.cell' h.lt).trans h.h2,(k.cell' h.lt).trans h.h3,(k.cell' h.lt).trans h.h4⟩
theorem boxC_new (w:World) (x y:Int) (vm:Value) (n:Int) (v:Value) (T:TypeId):BoxC (w.alloc (.cells #[.int .i64 x,.int .i64 y,vm,.int .i64 n,v] T)) w.heap.size x y vm n v:=⟨by simp,by simp,by simp,by simp,by simp,by simp⟩
def Fz (w:World) (b:Nat):Prop:=b < w.heap.size∧∀ i,w.frozen? ⟨b,i,none⟩=false
theorem Fz.kept {w w':World} {b:Nat} (h:Fz w b) (k:Kept w w'):Fz w' b:=⟨k.lt h.1,fun i=>(k.frozen' h.1).trans (h.2 i)⟩
theorem fz_new (w:World) (c:Array Value) (T:TypeId) (b:Nat) (hb:b=w.heap.size):Fz (w.alloc (.cells c T)) b:=⟨by rw [hb];simp,fun i=>World.frozen?_alloc_at _ _ _ _ hb⟩
theorem cell_01 {w:World} {b:Nat} {v:Value}:(w.setCell ⟨b,1,none⟩ v).cell? ⟨b,0,none⟩=w.cell? ⟨b,0,none⟩:=by
 apply World.cell?_setCell_other
 simp
theorem cell_10 {w:World} {b:Nat} {v:Value}:(w.setCell ⟨b,0,none⟩ v).cell? ⟨b,1,none⟩=w.cell? ⟨b,1,none⟩:=by
 apply World.cell?_setCell_other
 simp
def Bk (w:World) (b:Nat) (cs:List Value):Prop:=b < w.heap.size∧∀ i u,cs[i]?=some u→w.cell? ⟨b,i,none⟩=some u
theorem Bk.kept {w w':World} {b:Nat} {cs:List Value} (h:Bk w b cs) (k:Kept w w'):Bk w' b cs:=⟨k.lt h.1,fun i u hu=>(k.cell' h.1).trans (h.2 i u hu)⟩
theorem bk_new (w:World) (cs:List Value) (T:TypeId) (b:Nat) (hb:b=w.heap.size):Bk (w.alloc (.cells cs.toArray T)) b cs:=⟨by rw [hb];simp,fun i u hu=>by rw [World.cell?_alloc_at _ _ _ _ hb];simpa using hu⟩
def OfOut (P M:Int) (mod:List Int) (n:Int) (v:Value) (w:World) (e:Ending) (w':World):Prop :=
 ∃ a c,e=.returned (.tuple #[.agg #[.int .i64 P,.int .i64 M,.slice a mod.length c,.int .i64 n,v],.int .i64 0])∧Own w' w.heap.size (.slice a mod.length c) mod∧Kept w w'
set_option maxRecDepth 100000 in
set_option maxHeartbeats 4000000 in
theorem of_any (P M:Int) (vm:Value) (mod:List Int) (n:Int) (va:Option Addr) (vn vc:Nat) (w:World) (hvm:Sl w vm mod) (hl:mod.length≤1000) :
  Calls Tryz.prog 33 #[.agg #[.int .i64 P,.int .i64 M,vm],.agg #[.int .i64 n,.slice va vn vc],.int .i64 0] w (OfOut P M mod n (.slice va vn vc) w):=by
 obtain ⟨w1,hw1⟩:∃ w1,w1=((w.alloc (.cells #[.int .i64 P,.int .i64 M,vm] 24)).alloc (.cells #[.int .i64 n,.slice va vn vc] 71)).alloc (.cells #[.int .i64 0,.int .i64 0,.slice none 0 0,.int .i64 0,.slice none 0 0] 29):=⟨_,rfl⟩
 have hk1:Kept w w1:=by rw [hw1];exact ((kept_alloc _ _).tr (kept_alloc _ _)).tr (kept_alloc _ _)
 have bf:BoxF w1 w.heap.size P M vm:=by rw [hw1];exact ((boxF_new w _ _ _ _).kept (kept_alloc _ _)).kept (kept_alloc _ _)
 have bm:BoxM w1 (w.heap.size + 1) n (.slice va vn vc):=by
  rw [hw1]
  have:=(boxM_new (w.alloc (.cells #[.int .i64 P,.int .i64 M,vm] 24)) n (.slice va vn vc) 71).kept (kept_alloc _ (.cells #[.int .i64 0,.int .i64 0,.slice none 0 0,.int .i64 0,.slice none 0 0] 29))
  simpa using this
 have br:BoxC w1 (w.heap.size + 1 + 1) 0 0 (.slice none 0 0) 0 (.slice none 0 0):=by
  rw [hw1]
  have:=boxC_new ((w.alloc (.cells #[.int .i64 P,.int .i64 M,vm] 24)).alloc (.cells #[.int .i64 n,.slice va vn vc] 71)) 0 0 (.slice none 0 0) 0 (.slice none 0 0) 29
  simpa using this
 have fr:Fz w1 (w.heap.size + 1 + 1):=by rw [hw1];exact fz_new _ _ _ _ (by simp)
 have hs1:w1.heap.size=w.heap.size + 1 + 1 + 1:=by rw [hw1];simp
 have hvm1:=hvm.kept hk1
 have b0:=bf.h0
 have b1:=bf.h1
 have b2:=bf.h2
 have m0:=bm.h0
 have m1:=bm.h1
 have HS1:=hid hs1
 clear hs1
 go_enter Tryz.func33,Tryz.ntmps33
 go_wp2_with (fail)
 rw [← hw1]
 clear hw1
 go_region_held3 (fun w'=>w'.cell? ⟨w.heap.size,0,none⟩=some (.int .i64 P)∧w'.cell? ⟨w.heap.size,1,none⟩=some (.int .i64 M)∧w'.cell? ⟨w.heap.size,2,none⟩=some vm∧w'.cell? ⟨w.heap.size + 1,0,none⟩=some (.int .i64 n)∧w'.cell? ⟨w.heap.size + 1,1,none⟩=some (.slice va vn vc)) (first | (simp [*];done) | (simp [go_sem, *];done))
  ((go_at_call 72;(with_reducible refine (cown_any P M vm mod _ (by first | exact hvm1 | exact hvm1.kept (kept_drew _) | exact hvm1.kept (kept_drewN _ _)) hl).mono ?_);rintro e w2 ⟨a,c,rfl,ho2,hk2⟩;have hk2':Kept w1 w2:=(by first | exact hk2 | exact (kept_drew _).tr hk2 | exact (kept_drewN _ _).tr hk2);have bf2:=bf.kept hk2';have bm2:=bm.kept hk2';have br2:=br.kept hk2';have fr2:=fr.kept hk2';have b0:=bf2.h0;have b1:=bf2.h1;have b2:=bf2.h2;have m0:=bm2.h0;have m1:=bm2.h1;have r0:=br2.h0;have r1:=br2.h1;have r2:=br2.h2;have r3:=br2.h3;have r4:=br2.h4;have f0:=fr2.2 0;have f1:=fr2.2 1;have f2:=fr2.2 2;have f3:=fr2.2 3;have f4:=fr2.2 4))
 all_goals
  have hlow:w.heap.size + 1 + 1 < w1.heap.size:=by have:=HS1.out;omega
  have hB:w.heap.size≤w1.heap.size:=hk1.size
  have HO:Hid (Own w2 w1.heap.size (.slice a mod.length c) mod):=hid (ho2.mono (by simp))
  have KF:=hid (fun x0 x1 x2 x3 x4=>set_below (b:=w.heap.size + 1 + 1) (i:=4) x0 (set_below (b:=w.heap.size + 1 + 1) (i:=3) x1 (set_below (b:=w.heap.size + 1 + 1) (i:=2) x2 (set_below (b:=w.heap.size + 1 + 1) (i:=1) x3 (set_below (b:=w.heap.size + 1 + 1) (i:=0) x4 (hk1.tr hk2') (by omega)) (by omega)) (by omega)) (by omega)) (by omega))
  clear ho2 bf bm br fr hvm1 hvm
  go_wp2_with (fail)
  refine bodyPost_ret (v:=.tuple #[.agg #[.int .i64 P,.int .i64 M,.slice a mod.length c,.int .i64 n,.slice va vn vc],.int .i64 0]) ?_ rfl ⟨a,c,rfl, ?_, ?_⟩
  ·simp [results,Tryz.results33,go_sem,r0,r1,r2,r3,r4]
  ·first
    | exact (own_setLow (own_setLow (own_setLow (own_setLow (own_setLow HO.out hlow _) hlow _) hlow _) hlow _) hlow _).mono hB
    | exact ((own_setLow (own_setLow (own_setLow (own_setLow (own_setLow HO.out hlow _) hlow _) hlow _) hlow _) hlow _).mono hB).drew
  ·first | exact KF.out _ _ _ _ _ | exact (KF.out _ _ _ _ _).drew
structure IsC (w:World) (vm:Value) (mod:List Int) (v:Value) (A:List (List Int)):Prop where
 f:Sl w vm mod
 g:Rd w v A
theorem IsC.kept {w w':World} {vm v:Value} {mod:List Int} {A:List (List Int)} (h:IsC w vm mod v A) (k:Kept w w'):IsC w' vm mod v A:=⟨h.f.kept k,h.g.kept k⟩
end Go.Proofs.YtoilbeadokallaaGreatDoor
namespace Go.Proofs.YtoilbeadokallaaGreatDoor
open Go.RowKit Cw Cw.Gj
def isLet (x:Int):Bool:=decide (97≤x) && decide (x≤122)
def isDig (x:Int):Bool:=decide (48≤x) && decide (x≤57)
def inNam (x:Int):Bool:=isLet x || isDig x || (x == 95)
set_option maxHeartbeats 800000 in
theorem isLetter_any (x:Int) (w:World):Calls Tryz.prog 75 #[.int .u8 x] w fun e w'=>e=.returned (.bool (isLet x))∧w=w':=by
 by_cases h1:97≤x
 ·by_cases h2:x≤122
  ·have HL:Hid (isLet x=true):=hid (by unfold isLet;simp [h1,h2])
   rw [HL.out]
   go_enter Tryz.func75,Tryz.ntmps75
   go_wp2_with (fail)
   go_ret
   exact ⟨by simp [*],rfl⟩
  ·have HL:Hid (isLet x=false):=hid (by unfold isLet;simp [h2])
   rw [HL.out]
   go_enter Tryz.func75,Tryz.ntmps75
   go_wp2_with (fail)
   go_ret
   exact ⟨by simp [*] <;> omega,rfl⟩
 ·have HL:Hid (isLet x=false):=hid (by unfold isLet;simp [h1])
  rw [HL.out]
  go_enter Tryz.func75,Tryz.ntmps75
  go_wp2_with (fail)
  go_ret
  exact ⟨by simp [*] <;> omega,rfl⟩
set_option maxHeartbeats 800000 in
theorem isDigit_any (x:Int) (w:World):Calls Tryz.prog 78 #[.int .u8 x] w fun e w'=>e=.returned (.bool (isDig x))∧w=w':=by
 by_cases h1:48≤x
 ·by_cases h2:x≤57
  ·have HL:Hid (isDig x=true):=hid (by unfold isDig;simp [h1,h2])
   rw [HL.out]
   go_enter Tryz.func78,Tryz.ntmps78
   go_wp2_with (fail)
   go_ret
   exact ⟨by simp [*],rfl⟩
  ·have HL:Hid (isDig x=false):=hid (by unfold isDig;simp [h2])
   rw [HL.out]
   go_enter Tryz.func78,Tryz.ntmps78
   go_wp2_with (fail)
   go_ret
   exact ⟨by simp [*] <;> omega,rfl⟩
 ·have HL:Hid (isDig x=false):=hid (by unfold isDig;simp [h1])
  rw [HL.out]
  go_enter Tryz.func78,Tryz.ntmps78
  go_wp2_with (fail)
  go_ret
  exact ⟨by simp [*] <;> omega,rfl⟩
set_option maxHeartbeats 800000 in
theorem inName_any (x:Int) (w:World):Calls Tryz.prog 77 #[.int .u8 x] w fun e w'=>e=.returned (.bool (inNam x))∧w=w':=by
 cases h1:isLet x with
 | true =>
  have HL:Hid (inNam x=true):=hid (by unfold inNam;rw [h1];rfl)
  have H1:=hid h1
  rw [HL.out]
  clear h1
  go_enter Tryz.func77,Tryz.ntmps77
  go_wp2_with (go_at_call 75;refine (isLetter_any x _).mono ?_;rintro e w' ⟨rfl,rfl⟩;rw [H1.out])
  go_ret
  exact ⟨rfl,rfl⟩
 | false =>
  cases h2:isDig x with
  | true =>
   have HL:Hid (inNam x=true):=hid (by unfold inNam;rw [h1,h2];rfl)
   have H1:=hid h1
   have H2:=hid h2
   rw [HL.out]
   clear h1 h2
   go_enter Tryz.func77,Tryz.ntmps77
   go_wp2_with (first
    | (go_at_call 75;refine (isLetter_any x _).mono ?_;rintro e w' ⟨rfl,rfl⟩;rw [H1.out])
    | (go_at_call 78;refine (isDigit_any x _).mono ?_;rintro e w' ⟨rfl,rfl⟩;rw [H2.out]))
   go_ret
   exact ⟨rfl,rfl⟩
  | false =>
   have HL:Hid (inNam x=(x == 95)):=hid (by unfold inNam;rw [h1,h2];rfl)
   have H1:=hid h1
   have H2:=hid h2
   rw [HL.out]
   clear h1 h2
   go_enter Tryz.func77,Tryz.ntmps77
   go_wp2_with (first
    | (go_at_call 75;refine (isLetter_any x _).mono ?_;rintro e w' ⟨rfl,rfl⟩;rw [H1.out])
    | (go_at_call 78;refine (isDigit_any x _).mono ?_;rintro e w' ⟨rfl,rfl⟩;rw [H2.out]))
   go_ret
   exact ⟨by first | rfl | simp,rfl⟩
end Go.Proofs.YtoilbeadokallaaGreatDoor
namespace Go.Proofs.YtoilbeadokallaaGreatDoor
open Go.RowKit Cw Cw.Gj
set_option maxRecDepth 100000 in
set_option maxHeartbeats 800000 in
theorem while_digit (s:ByteArray) (i j:Nat) (w:World) (hij:i≤j) (hj:j≤s.size) (hs:s.size≤1000) (h1:∀ k (hk:k < s.size),i≤k→k < j→isDig ((s[k]'hk).toNat:Int)=true) (h2:∀ hk:j < s.size,isDig ((s[j]'hk).toNat:Int)=false) :
  Calls Tryz.prog 76 #[.string s,.int .i64 i,.func (.func 78) #[] #[]] w fun e w'=>e=.returned (.int .i64 j)∧w=w':=by
 have H1:=hid h1
 have H2:=hid h2
 clear h1 h2
 go_enter Tryz.func76,Tryz.ntmps76
 go_wp2_with (fail)
 go_loop [1] (fun vi=>∃ k:Nat,i≤k∧k≤j∧vi=.int .i64 k) (fun vi=>s.size - (intOf vi).toNat)
 case atStart=>exact ⟨i,by omega,hij,rfl⟩
 case round =>
  obtain ⟨k,hk1,hk2,rfl⟩:=hrel
  by_cases hlt:k < s.size
  ·have hlt':(k:Int) < (s.size:Int):=by omega
   by_cases e:k=j
   ·have HP:Hid (isDig ((s[k]'hlt).toNat:Int)=false):=hid (by subst e;exact H2.out hlt)
    have HE:=hid e
    clear e
    go_wp2_with (go_at_call 78;refine (isDigit_any _ _).mono ?_;rintro e w' ⟨rfl,rfl⟩;rw [HP.out])
    go_ret
    exact ⟨ret_int (by rw [HE.out]),rfl⟩
   ·have HP:Hid (isDig ((s[k]'hlt).toNat:Int)=true):=hid (H1.out k hlt hk1 (by omega))
    have hkj:k < j:=by omega
    clear e
    go_wp2_with (go_at_call 78;refine (isDigit_any _ _).mono ?_;rintro e w' ⟨rfl,rfl⟩;rw [HP.out])
    go_round
    case rel=>exact ⟨k + 1,by omega,by omega,by go_num⟩
    case measure=>simp [intOf];omega
  ·have hlt':¬ (k:Int) < (s.size:Int):=by omega
   have HE:Hid (k=j):=hid (by omega)
   go_wp2_with (fail)
   go_ret
   exact ⟨ret_int (by rw [HE.out]),rfl⟩
set_option maxRecDepth 100000 in
set_option maxHeartbeats 800000 in
theorem while_name (s:ByteArray) (i j:Nat) (w:World) (hij:i≤j) (hj:j≤s.size) (hs:s.size≤1000) (h1:∀ k (hk:k < s.size),i≤k→k < j→inNam ((s[k]'hk).toNat:Int)=true) (h2:∀ hk:j < s.size,inNam ((s[j]'hk).toNat:Int)=false) :
  Calls Tryz.prog 76 #[.string s,.int .i64 i,.func (.func 77) #[] #[]] w fun e w'=>e=.returned (.int .i64 j)∧w=w':=by
 have H1:=hid h1
 have H2:=hid h2
 clear h1 h2
 go_enter Tryz.func76,Tryz.ntmps76
 go_wp2_with (fail)
 go_loop [1] (fun vi=>∃ k:Nat,i≤k∧k≤j∧vi=.int .i64 k) (fun vi=>s.size - (intOf vi).toNat)
 case atStart=>exact ⟨i,by omega,hij,rfl⟩
 case round =>
  obtain ⟨k,hk1,hk2,rfl⟩:=hrel
  by_cases hlt:k < s.size
  ·have hlt':(k:Int) < (s.size:Int):=by omega
   by_cases e:k=j
   ·have HP:Hid (inNam ((s[k]'hlt).toNat:Int)=false):=hid (by subst e;exact H2.out hlt)
    have HE:=hid e
    clear e
    go_wp2_with (go_at_call 77;refine (inName_any _ _).mono ?_;rintro e w' ⟨rfl,rfl⟩;rw [HP.out])
    go_ret
    exact ⟨ret_int (by rw [HE.out]),rfl⟩
   ·have HP:Hid (inNam ((s[k]'hlt).toNat:Int)=true):=hid (H1.out k hlt hk1 (by omega))
    have hkj:k < j:=by omega
    clear e
    go_wp2_with (go_at_call 77;refine (inName_any _ _).mono ?_;rintro e w' ⟨rfl,rfl⟩;rw [HP.out])
    go_round
    case rel=>exact ⟨k + 1,by omega,by omega,by go_num⟩
    case measure=>simp [intOf];omega
  ·have hlt':¬ (k:Int) < (s.size:Int):=by omega
   have HE:Hid (k=j):=hid (by omega)
   go_wp2_with (fail)
   go_ret
   exact ⟨ret_int (by rw [HE.out]),rfl⟩
end Go.Proofs.YtoilbeadokallaaGreatDoor
