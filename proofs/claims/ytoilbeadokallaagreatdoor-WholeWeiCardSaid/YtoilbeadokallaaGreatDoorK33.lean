/- Lemmas on the way to the row, merged: walks of functions and plain algebra. Conditions: each lemma's own, stated with it. -/
import Derived.Test.YtoilbeadokallaaGreatDoorK19
import Derived.Test.YtoilbeadokallaaGreatDoorK20
import Derived.Test.YtoilbeadokallaaGreatDoorK28
import Derived.Test.YtoilbeadokallaaGreatDoorK32
import Derived.Lib.Builder
import Derived.Lib.AppendStr
import Derived.Lib.Walk
import Derived.Deep.RegionHeld3
import Derived.StillTailTactics
namespace Go.Proofs.YtoilbeadokallaaGreatDoor
open Go.RowKit Cw Cw.Gj
def Shp (E:List Value):Prop:=∃ (k:Int) (s:ByteArray) (n:Int) (l1:Option Addr) (l2 l3:Nat) (m1:Option Addr) (m2 m3:Nat),E=[.int .i64 k,.string s,.int .i64 n,.slice l1 l2 l3,.slice m1 m2 m3]
theorem shp_num (n:Int):Shp (NumC n):=⟨_,_,_,_,_,_,_,_,_,rfl⟩
theorem shp_call (s:ByteArray) (a:Option Addr) (n c:Nat):Shp (CallC s (.slice a n c)):=⟨_,_,_,_,_,_,_,_,_,rfl⟩
theorem callG_shp {Gd:Nat→List Value→World→Prop} {s:ByteArray} {K:Nat} {E:List Value} {w:World} (h:CallG Gd s K E w):Shp E:=by
 obtain ⟨b,cap,fs,rfl,_⟩:=h
 exact shp_call _ _ _ _
theorem CallG.kept {Gd:Nat→List Value→World→Prop} {s:ByteArray} {K:Nat} {E:List Value} {w w':World} (h:CallG Gd s K E w) (hG:∀ j E,Gd j E w→Gd j E w') (k:Kept w w'):CallG Gd s K E w':=by
 obtain ⟨b,cap,fs,h1,h2,h3,h4⟩:=h
 exact ⟨b,cap,fs,h1,h2,h3.kept k,fun i E hE=>⟨(h4 i E hE).1,hG i E (h4 i E hE).2⟩⟩
theorem g2_kept {j:Nat} {E:List Value} {w w':World} (h:G2 j E w) (k:Kept w w'):G2 j E w':=by
 unfold G2 at h ⊢
 by_cases e:j=0
 ·rw [if_pos e] at h ⊢;exact h.kept (fun _ _ q=>q) k
 ·rw [if_neg e] at h ⊢;exact h
theorem g1_shp {j:Nat} {E:List Value} {w:World} (h:G1 j E w):Shp E:=by
 have:E=NumC 2:=h
 rw [this];exact shp_num 2
theorem g2_shp {j:Nat} {E:List Value} {w:World} (h:G2 j E w):Shp E:=by
 unfold G2 at h
 by_cases e:j=0
 ·rw [if_pos e] at h;exact callG_shp h
 ·rw [if_neg e] at h;rw [h];exact shp_num 3
theorem flat_get:∀ {fs:List (List Value)} {i:Nat} {E:List Value},fs[i]?=some E→(∀ F ∈ fs,F.length=5)→∀ j,j < 5→fs.flatten[i * 5 + j]?=E[j]?
 | [],i,E,h,_,_,_=>by simp at h
 | F :: fs,0,E,h,hl,j,hj=>by
  have:F=E:=by simpa using h
  subst this
  have hF:=hl F (by simp)
  rw [List.flatten_cons,Nat.zero_mul,Nat.zero_add,List.getElem?_append_left (by omega)]
 | F :: fs,i + 1,E,h,hl,j,hj=>by
  have h':fs[i]?=some E:=by simpa using h
  have hF:=hl F (by simp)
  rw [List.flatten_cons,List.getElem?_append_right (by omega),show (i + 1) * 5 + j - F.length=i * 5 + j by omega]
  exact flat_get h' (fun G hG=>hl G (List.mem_cons_of_mem _ hG)) j hj
theorem CallG.args {Gd:Nat→List Value→World→Prop} {s:ByteArray} {K:Nat} {E:List Value} {w:World} (h:CallG Gd s K E w) (hs:∀ j E,Gd j E w→Shp E):∃ b cap,E=CallC s (.slice (some ⟨b,0,none⟩) K cap)∧b < w.heap.size ∧
  ∀ j,j < K→∃ (k:Int) (s:ByteArray) (n:Int) (l1:Option Addr) (l2 l3:Nat) (m1:Option Addr) (m2 m3:Nat),Gd j [.int .i64 k,.string s,.int .i64 n,.slice l1 l2 l3,.slice m1 m2 m3] w ∧
   w.cell? ⟨b,j * 5,none⟩=some (.int .i64 k)∧w.cell? ⟨b,j * 5 + 1,none⟩=some (.string s)∧w.cell? ⟨b,j * 5 + 2,none⟩=some (.int .i64 n)∧w.cell? ⟨b,j * 5 + 3,none⟩=some (.slice l1 l2 l3)∧w.cell? ⟨b,j * 5 + 4,none⟩=some (.slice m1 m2 m3):=by
 obtain ⟨b,cap,fs,rfl,h2,h3,h4⟩:=h
 refine ⟨b,cap,rfl,h3.1,fun j hj=>?_⟩
 obtain ⟨F,hF⟩:∃ F,fs[j]?=some F:=⟨_,List.getElem?_eq_getElem (by omega)⟩
 obtain ⟨q1,q2⟩:=h4 j F hF
 obtain ⟨k,s,n,l1,l2,l3,m1,m2,m3,rfl⟩:=hs j F q2
 have hl:∀ F ∈ fs,F.length=5:=fun F hm=>by
  obtain ⟨i,hi⟩:=List.getElem?_of_mem hm
  exact (h4 i F hi).1
 have hc:∀ i u,i < 5→[Value.int .i64 k,.string s,.int .i64 n,.slice l1 l2 l3,.slice m1 m2 m3][i]?=some u→w.cell? ⟨b,j * 5 + i,none⟩=some u:=fun i u hi hu=>h3.2 _ u ((flat_get hF hl i hi).trans hu)
 exact ⟨k,s,n,l1,l2,l3,m1,m2,m3,q2,hc 0 _ (by omega) rfl,hc 1 _ (by omega) rfl,hc 2 _ (by omega) rfl,hc 3 _ (by omega) rfl,hc 4 _ (by omega) rfl⟩
set_option maxHeartbeats 800000 in
theorem isNumber_ok (n:Int) (w:World) (h0:0≤n) (h1:n≤9999999):Calls Tryz.prog 295 #[.int .i64 n] w fun e w'=>e=.returned (.bool true)∧w=w':=by
 go_enter Tryz.func295,Tryz.ntmps295
 go_wp2_with (fail)
 go_ret
 exact ⟨rfl,rfl⟩
structure IsNm (s:ByteArray):Prop where
 ne:s.size ≠ 0
 sz:s.size≤16
 l0:∀ h:0 < s.size,isLet ((s[0]'h).toNat:Int)=true
 all:∀ k (hk:k < s.size),inNam ((s[k]'hk).toNat:Int)=true
set_option maxHeartbeats 2000000 in
theorem isName_ok (s:ByteArray) (w:World) (h:IsNm s):Calls Tryz.prog 296 #[.string s] w fun e w'=>e=.returned (.bool true)∧w=w':=by
 obtain ⟨h1,h2,h3,h4⟩:=h
 have hs0:0 < s.size:=by omega
 have H3:=hid (h3 hs0)
 have HW:=hid (fun W=>while_name s 0 s.size W (Nat.zero_le _) (Nat.le_refl _) (by omega) (fun k hk _ _=>h4 k hk) (fun h=>absurd h (by omega)))
 have hne:s.toList.isEmpty=false:=by
  rw [ByteArray.toList_eq]
  have:s.data.toList.length=s.size:=rfl
  cases hh:s.data.toList with
  | nil=>rw [hh] at this;simp at this;omega
  | cons a l=>rfl
 have h2':(s.size:Int)≤16:=by omega
 clear h3 h4
 go_enter Tryz.func296,Tryz.ntmps296
 go_wp2_with (first
  | (go_at_call 75;refine (isLetter_any _ _).mono ?_;rintro e w' ⟨rfl,rfl⟩;rw [H3.out])
  | (go_at_call 76;refine (HW.out _).mono ?_;rintro e w' ⟨rfl,rfl⟩))
 go_ret
 exact ⟨by simp,rfl⟩
end Go.Proofs.YtoilbeadokallaaGreatDoor
namespace Go.Proofs.YtoilbeadokallaaGreatDoor
open Go.RowKit Cw Cw.Gj
set_option maxRecDepth 100000 in
set_option maxHeartbeats 2000000 in
theorem node_num (n:Int) (w:World) (h0:0≤n) (h1:n≤9999999):Calls Tryz.prog 191 #[.agg #[.int .i64 1,.string ⟨#[]⟩,.int .i64 n,.slice none 0 0,.slice none 0 0]] w fun e w'=>e=.returned (.bool true)∧Kept w w':=by
 have hk:=kept_alloc w (.cells #[.int .i64 1,.string ⟨#[]⟩,.int .i64 n,.slice none 0 0,.slice none 0 0] 50)
 go_enter Tryz.func191,Tryz.ntmps191
 go_wp2_with (fail)
 go_loop [8] (fun vi=>vi=.int .i64 0) (fun _=>0)
 case atStart=>rfl
 case round =>
  obtain rfl:=hrel
  go_wp2_with (go_at_call 295;refine (isNumber_ok _ _ (by omega) (by omega)).mono ?_;rintro e w' ⟨rfl,rfl⟩)
  go_ret
  exact ⟨by simp,hk⟩
set_option maxRecDepth 100000 in
set_option maxHeartbeats 2000000 in
theorem node_call (s:ByteArray) (a:Option Addr) (m c:Nat) (w:World) (h:IsNm s):Calls Tryz.prog 191 #[.agg #[.int .i64 3,.string s,.int .i64 0,.slice none 0 0,.slice a m c]] w fun e w'=>e=.returned (.bool true)∧Kept w w':=by
 have hk:=kept_alloc w (.cells #[.int .i64 3,.string s,.int .i64 0,.slice none 0 0,.slice a m c] 50)
 have H:=hid h
 clear h
 go_enter Tryz.func191,Tryz.ntmps191
 go_wp2_with (fail)
 go_loop [8] (fun vi=>vi=.int .i64 0) (fun _=>0)
 case atStart=>rfl
 case round =>
  obtain rfl:=hrel
  go_wp2_with (go_at_call 296;refine (isName_ok _ _ H.out).mono ?_;rintro e w' ⟨rfl,rfl⟩)
  go_ret
  exact ⟨by simp,hk⟩
set_option maxRecDepth 100000 in
set_option maxHeartbeats 2000000 in
theorem form_num (n:Int) (w:World) (h0:0≤n) (h1:n≤9999999):Calls Tryz.prog 135 #[.agg #[.int .i64 1,.string ⟨#[]⟩,.int .i64 n,.slice none 0 0,.slice none 0 0]] w fun e w'=>e=.returned (.bool true)∧Kept w w':=by
 obtain ⟨W1,hW1⟩:∃ x,x=w.alloc (.cells #[.int .i64 1,.string ⟨#[]⟩,.int .i64 n,.slice none 0 0,.slice none 0 0] 50):=⟨_,rfl⟩
 have hk1:Kept w W1:=by rw [hW1];exact kept_alloc _ _
 have hb1:Bk W1 w.heap.size [.int .i64 1,.string ⟨#[]⟩,.int .i64 n,.slice none 0 0,.slice none 0 0]:=by rw [hW1];exact bk_new w _ _ _ rfl
 have x0:=hb1.2 0 _ rfl
 have x1:=hb1.2 1 _ rfl
 have x2:=hb1.2 2 _ rfl
 have x3:=hb1.2 3 _ rfl
 have x4:=hb1.2 4 _ rfl
 go_enter Tryz.func135,Tryz.ntmps135
 go_wp2_with (fail)
 rw [← hW1]
 clear hW1
 refine (node_num n W1 h0 h1).mono ?_
 rintro e w2 ⟨rfl,hk2⟩
 have y4:=(hb1.kept hk2).2 4 _ rfl
 have hk12:=hk1.tr hk2
 clear x0 x1 x2 x3 x4
 go_wp2_with (fail)
 go_loop [11] (fun vi=>vi=.int .i64 0) (fun _=>0)
 case atStart=>rfl
 case round =>
  obtain rfl:=hrel
  go_wp2_with (fail)
  go_ret
  exact ⟨rfl,hk12⟩
set_option maxRecDepth 100000 in
set_option maxHeartbeats 4000000 in
theorem form_call {Gd:Nat→List Value→World→Prop} {s:ByteArray} {K:Nat} {E:List Value} (w:World) (h:CallG Gd s K E w) (hs:∀ j E w,Gd j E w→Shp E) (hk:∀ j E w w',Gd j E w→Kept w w'→Gd j E w') (hn:IsNm s) (hK:K≤100)
  (hc:∀ j E w,Gd j E w→Calls Tryz.prog 135 #[.agg E.toArray] w fun e w'=>e=.returned (.bool true)∧Kept w w') :
  Calls Tryz.prog 135 #[.agg E.toArray] w fun e w'=>e=.returned (.bool true)∧Kept w w':=by
 obtain ⟨b,cap,rfl,hbl,hargs⟩:=h.args (hs · · w)
 show Calls Tryz.prog 135 #[.agg #[.int .i64 3,.string s,.int .i64 0,.slice none 0 0,.slice (some ⟨b,0,none⟩) K cap]] w _
 obtain ⟨W1,hW1⟩:∃ x,x=w.alloc (.cells #[.int .i64 3,.string s,.int .i64 0,.slice none 0 0,.slice (some ⟨b,0,none⟩) K cap] 50):=⟨_,rfl⟩
 have hk1:Kept w W1:=by rw [hW1];exact kept_alloc _ _
 have hb1:Bk W1 w.heap.size [.int .i64 3,.string s,.int .i64 0,.slice none 0 0,.slice (some ⟨b,0,none⟩) K cap]:=by rw [hW1];exact bk_new w _ _ _ rfl
 have x0:=hb1.2 0 _ rfl
 have x1:=hb1.2 1 _ rfl
 have x2:=hb1.2 2 _ rfl
 have x3:=hb1.2 3 _ rfl
 have x4:=hb1.2 4 _ rfl
 have HA:=hid hargs
 have HK:=hid hk
 have HC:=hid hc
 have HN:=hid hn
 clear hargs hk hc hn h hs
 go_enter Tryz.func135,Tryz.ntmps135
 go_wp2_with (fail)
 rw [← hW1]
 clear hW1
 refine (node_call s _ _ _ W1 HN.out).mono ?_
 rintro e w2 ⟨rfl,hk2⟩
 have y4:=(hb1.kept hk2).2 4 _ rfl
 have hk12:=hk1.tr hk2
 clear x0 x1 x2 x3 x4
 go_wp2_with (fail)
 go_loopw [11] (fun vi wr=>∃ j:Nat,j≤K∧vi=.int .i64 j∧Kept w wr) (fun vi _=>K - (intOf vi).toNat)
 case atStart=>exact ⟨0,Nat.zero_le _,rfl,hk12⟩
 case round =>
  obtain ⟨j,hj,rfl,hkr⟩:=hrel
  by_cases hlt:j < K
  ·obtain ⟨ak,an,av,l1,l2,l3,m1,m2,m3,hG,c0,c1,c2,c3,c4⟩:=HA.out j hlt
   have hG':=hid (HK.out _ _ _ _ hG hkr)
   have d0:=(hkr.cell' hbl).trans c0
   have d1:=(hkr.cell' hbl).trans c1
   have d2:=(hkr.cell' hbl).trans c2
   have d3:=(hkr.cell' hbl).trans c3
   have d4:=(hkr.cell' hbl).trans c4
   have hbr:=hkr.lt hbl
   have hnb:¬ b=wr.heap.size:=by omega
   have ka:=kept_alloc wr (.cells #[.int .i64 ak,.string an,.int .i64 av,.slice l1 l2 l3,.slice m1 m2 m3] 50)
   have HCC:Hid (∀ W,Gd j [.int .i64 ak,.string an,.int .i64 av,.slice l1 l2 l3,.slice m1 m2 m3] W→Calls Tryz.prog 135 #[.agg #[.int .i64 ak,.string an,.int .i64 av,.slice l1 l2 l3,.slice m1 m2 m3]] W fun e w'=>e=.returned (.bool true)∧Kept W w'):=hid (fun W=>HC.out j _ W)
   clear c0 c1 c2 c3 c4 hG
   go_wp2_with (go_at_call 135;refine (HCC.out _ (HK.out _ _ _ _ hG'.out ka)).mono ?_;rintro e w5 ⟨rfl,hk5⟩)
   go_roundw
   case rel=>exact ⟨j + 1,hlt,by go_num,(hkr.tr ka).tr hk5⟩
   case measure=>simp [intOf];omega
  ·go_wp2_with (fail)
   go_ret
   exact ⟨rfl,hkr⟩
def MeasOut (D:Int) (w:World) (e:Ending) (w':World):Prop:=∃ d:Int,0≤d∧d≤D∧e=.returned (.tuple #[.int .i64 d,.bool true])∧Kept w w'
set_option maxRecDepth 100000 in
set_option maxHeartbeats 2000000 in
theorem measure_num (n:Int) (w:World):Calls Tryz.prog 136 #[.agg #[.int .i64 1,.string ⟨#[]⟩,.int .i64 n,.slice none 0 0,.slice none 0 0]] w (MeasOut 1 w):=by
 have hk:=kept_alloc w (.cells #[.int .i64 1,.string ⟨#[]⟩,.int .i64 n,.slice none 0 0,.slice none 0 0] 50)
 go_enter Tryz.func136,Tryz.ntmps136
 go_wp2_with (fail)
 go_loop [2,3,15] (fun v2 v3 vi=>v2=.int .i64 0∧v3=.bool true∧vi=.int .i64 0) (fun _ _ _=>0)
 case atStart=>exact ⟨rfl,by simp,rfl⟩
 case round =>
  obtain ⟨rfl,rfl,rfl⟩:=hrel
  go_wp2_with (fail)
  go_ret2
  exact ⟨_,by omega,by omega,rfl,hk⟩
set_option maxRecDepth 100000 in
set_option maxHeartbeats 4000000 in
theorem measure_call {Gd:Nat→List Value→World→Prop} {s:ByteArray} {K:Nat} {E:List Value} {D:Int} (w:World) (h:CallG Gd s K E w) (hs:∀ j E w,Gd j E w→Shp E) (hk:∀ j E w w',Gd j E w→Kept w w'→Gd j E w') (hK:K≤100) (hD:0≤D∧D≤100)
  (hc:∀ j E w,Gd j E w→Calls Tryz.prog 136 #[.agg E.toArray] w (MeasOut D w)) :
  Calls Tryz.prog 136 #[.agg E.toArray] w (MeasOut (D + 1) w):=by
 obtain ⟨b,cap,rfl,hbl,hargs⟩:=h.args (hs · · w)
 show Calls Tryz.prog 136 #[.agg #[.int .i64 3,.string s,.int .i64 0,.slice none 0 0,.slice (some ⟨b,0,none⟩) K cap]] w _
 obtain ⟨W1,hW1⟩:∃ x,x=w.alloc (.cells #[.int .i64 3,.string s,.int .i64 0,.slice none 0 0,.slice (some ⟨b,0,none⟩) K cap] 50):=⟨_,rfl⟩
 have hk1:Kept w W1:=by rw [hW1];exact kept_alloc _ _
 have hb1:Bk W1 w.heap.size [.int .i64 3,.string s,.int .i64 0,.slice none 0 0,.slice (some ⟨b,0,none⟩) K cap]:=by rw [hW1];exact bk_new w _ _ _ rfl
 have x3:=hb1.2 3 _ rfl
 have x4:=hb1.2 4 _ rfl
 have HA:=hid hargs
 have HK:=hid hk
 have HC:=hid hc
 clear hargs hk hc h hs
 go_enter Tryz.func136,Tryz.ntmps136
 go_wp2_with (fail)
 rw [← hW1]
 clear hW1
 go_loopw [2,3,15] (fun v2 v3 vi wr=>∃ (j:Nat) (dd:Int),j≤K∧vi=.int .i64 j∧v2=.int .i64 dd∧v3=.bool true∧0≤dd∧dd≤D∧Kept w wr) (fun _ _ vi _=>K - (intOf vi).toNat)
 case atStart=>exact ⟨0,0,Nat.zero_le _,rfl,rfl,by simp,Int.le_refl _,hD.1,hk1⟩
 case round =>
  obtain ⟨j,dd,hj,rfl,rfl,rfl,hd0,hd1,hkr⟩:=hrel
  by_cases hlt:j < K
  ·obtain ⟨ak,an,av,l1,l2,l3,m1,m2,m3,hG,c0,c1,c2,c3,c4⟩:=HA.out j hlt
   have hG':=hid (HK.out _ _ _ _ hG hkr)
   have d0:=(hkr.cell' hbl).trans c0
   have d1:=(hkr.cell' hbl).trans c1
   have d2:=(hkr.cell' hbl).trans c2
   have d3:=(hkr.cell' hbl).trans c3
   have d4:=(hkr.cell' hbl).trans c4
   have hbr:=hkr.lt hbl
   have hnb:¬ b=wr.heap.size:=by omega
   have ka:=kept_alloc wr (.cells #[.int .i64 ak,.string an,.int .i64 av,.slice l1 l2 l3,.slice m1 m2 m3] 50)
   have HCC:Hid (∀ W,Gd j [.int .i64 ak,.string an,.int .i64 av,.slice l1 l2 l3,.slice m1 m2 m3] W→Calls Tryz.prog 136 #[.agg #[.int .i64 ak,.string an,.int .i64 av,.slice l1 l2 l3,.slice m1 m2 m3]] W (MeasOut D W)):=hid (fun W=>HC.out j _ W)
   clear c0 c1 c2 c3 c4 hG
   go_wp2_with (go_at_call 136;refine (HCC.out _ (HK.out _ _ _ _ hG'.out ka)).mono ?_;rintro e w5 ⟨d5,g0,g1,rfl,hk5⟩)
   all_goals
    go_roundw
    case rel=>exact ⟨j + 1,_,hlt,by go_num,rfl,rfl,by omega,by omega,(hkr.tr ka).tr hk5⟩
    case measure=>simp [intOf];omega
  ·go_wp2_with (fail)
   go_ret2
   exact ⟨_,by omega,by omega,rfl,hkr⟩
def SizeOut (N:Int) (w:World) (e:Ending) (w':World):Prop:=∃ d:Int,0≤d∧d≤N∧e=.returned (.int .i64 d)∧Kept w w'
set_option maxRecDepth 100000 in
set_option maxHeartbeats 2000000 in
theorem size_num (n:Int) (w:World):Calls Tryz.prog 137 #[.agg #[.int .i64 1,.string ⟨#[]⟩,.int .i64 n,.slice none 0 0,.slice none 0 0]] w (SizeOut 1 w):=by
 have hk:=kept_alloc w (.cells #[.int .i64 1,.string ⟨#[]⟩,.int .i64 n,.slice none 0 0,.slice none 0 0] 50)
 go_enter Tryz.func137,Tryz.ntmps137
 go_wp2_with (fail)
 go_loop [3,9] (fun v3 vi=>v3=.int .i64 1∧vi=.int .i64 0) (fun _ _=>0)
 case atStart=>exact ⟨rfl,rfl⟩
 case round =>
  obtain ⟨rfl,rfl⟩:=hrel
  go_wp2_with (fail)
  go_ret
  exact ⟨_,by omega,by omega,rfl,hk⟩
set_option maxRecDepth 100000 in
set_option maxHeartbeats 4000000 in
theorem size_call {Gd:Nat→List Value→World→Prop} {s:ByteArray} {K:Nat} {E:List Value} {N:Int} (w:World) (h:CallG Gd s K E w) (hs:∀ j E w,Gd j E w→Shp E) (hk:∀ j E w w',Gd j E w→Kept w w'→Gd j E w') (hK:K≤2) (hD:0≤N∧N≤100)
  (hc:∀ j E w,Gd j E w→Calls Tryz.prog 137 #[.agg E.toArray] w (SizeOut N w)) :
  Calls Tryz.prog 137 #[.agg E.toArray] w (SizeOut (2 * N + 1) w):=by
 obtain ⟨b,cap,rfl,hbl,hargs⟩:=h.args (hs · · w)
 show Calls Tryz.prog 137 #[.agg #[.int .i64 3,.string s,.int .i64 0,.slice none 0 0,.slice (some ⟨b,0,none⟩) K cap]] w _
 obtain ⟨W1,hW1⟩:∃ x,x=w.alloc (.cells #[.int .i64 3,.string s,.int .i64 0,.slice none 0 0,.slice (some ⟨b,0,none⟩) K cap] 50):=⟨_,rfl⟩
 have hk1:Kept w W1:=by rw [hW1];exact kept_alloc _ _
 have hb1:Bk W1 w.heap.size [.int .i64 3,.string s,.int .i64 0,.slice none 0 0,.slice (some ⟨b,0,none⟩) K cap]:=by rw [hW1];exact bk_new w _ _ _ rfl
 have x3:=hb1.2 3 _ rfl
 have x4:=hb1.2 4 _ rfl
 have HA:=hid hargs
 have HK:=hid hk
 have HC:=hid hc
 clear hargs hk hc h hs
 go_enter Tryz.func137,Tryz.ntmps137
 go_wp2_with (fail)
 rw [← hW1]
 clear hW1
 go_loopw [3,9] (fun v2 vi wr=>∃ (j:Nat) (dd:Int),j≤K∧vi=.int .i64 j∧v2=.int .i64 dd∧0≤dd∧(j=0→dd≤1)∧(j=1→dd≤N + 1)∧dd≤2 * N + 1∧Kept w wr) (fun _ vi _=>K - (intOf vi).toNat)
 case atStart=>exact ⟨0,1,Nat.zero_le _,rfl,rfl,by omega,by omega,by omega,by omega,hk1⟩
 case round =>
  obtain ⟨j,dd,hj,rfl,rfl,hd0,hd1,hd2,hd3,hkr⟩:=hrel
  have hdN:j < K→dd≤N + 1:=fun h=>by
   rcases Nat.eq_zero_or_pos j with e | e
   ·have:=hd1 e;omega
   ·exact hd2 (by omega)
  have hdN1:j < K→1≤j→dd≤N + 1:=fun h _=>hdN h
  by_cases hlt:j < K
  ·have hdd:=hdN hlt
   have HD1:=hid hd1
   have HD2:=hid hd2
   clear hdN hdN1 hd1 hd2
   obtain ⟨ak,an,av,l1,l2,l3,m1,m2,m3,hG,c0,c1,c2,c3,c4⟩:=HA.out j hlt
   have hG':=hid (HK.out _ _ _ _ hG hkr)
   have d0:=(hkr.cell' hbl).trans c0
   have d1:=(hkr.cell' hbl).trans c1
   have d2:=(hkr.cell' hbl).trans c2
   have d3:=(hkr.cell' hbl).trans c3
   have d4:=(hkr.cell' hbl).trans c4
   have hbr:=hkr.lt hbl
   have hnb:¬ b=wr.heap.size:=by omega
   have ka:=kept_alloc wr (.cells #[.int .i64 ak,.string an,.int .i64 av,.slice l1 l2 l3,.slice m1 m2 m3] 50)
   have HCC:Hid (∀ W,Gd j [.int .i64 ak,.string an,.int .i64 av,.slice l1 l2 l3,.slice m1 m2 m3] W→Calls Tryz.prog 137 #[.agg #[.int .i64 ak,.string an,.int .i64 av,.slice l1 l2 l3,.slice m1 m2 m3]] W (SizeOut N W)):=hid (fun W=>HC.out j _ W)
   clear c0 c1 c2 c3 c4 hG
   go_wp2_with (go_at_call 137;refine (HCC.out _ (HK.out _ _ _ _ hG'.out ka)).mono ?_;rintro e w5 ⟨d5,g0,g1,rfl,hk5⟩)
   go_roundw
   case rel=>exact ⟨j + 1,_,hlt,by go_num,rfl,by omega,by omega,fun e=>(by have:=HD1.out (by omega);omega),by omega,(hkr.tr ka).tr hk5⟩
   case measure=>simp [intOf];omega
  ·clear hdN hdN1 hd1 hd2
   go_wp2_with (fail)
   go_ret
   exact ⟨_,by omega,by omega,rfl,hkr⟩
end Go.Proofs.YtoilbeadokallaaGreatDoor
namespace Go.Proofs.YtoilbeadokallaaGreatDoor
open Go.RowKit Cw Cw.Gj
abbrev IsBld (B b:Nat) (bs:List Value) (w:World):Prop:=Lib.IsBuilder 197 5 B b bs w
structure Oth (b:Nat) (w w':World):Prop where
 size:w.heap.size≤w'.heap.size
 block:∀ i,i < w.heap.size→i ≠ b→(∀ c f,w.heap[i]? ≠ some (.cells c 5 f))→w'.heap[i]?=w.heap[i]?
theorem Oth.refl (b:Nat) (w:World):Oth b w w:=⟨Nat.le_refl _,fun _ _ _ _=>rfl⟩
theorem Oth.tr {b:Nat} {x y z:World} (h:Oth b x y) (k:Oth b y z):Oth b x z :=
 ⟨Nat.le_trans h.size k.size,fun i h1 h2 h3=>by
  have e:=h.block i h1 h2 h3
  rw [k.block i (Nat.lt_of_lt_of_le h1 h.size) h2 (by rw [e];exact h3),e]⟩
theorem Oth.of_kept {b:Nat} {x y:World} (k:Kept x y):Oth b x y:=⟨k.size,fun i h _ _=>k.block i h⟩
theorem Oth.set {b:Nat} (w:World) (k:Nat) (v:Value):Oth b w (w.setCell ⟨b,k,none⟩ v):=⟨by simp [World.setCell],fun _ _ h _=>Below.heap_setCell _ _ _ _ h⟩
theorem Oth.grown {b B n:Nat} {v:Value} {xs:List Value} {w w':World} (ho:w.ownsRow B 5 1 v n xs) (hg:w.grownBy w' v.ownBlock):Oth b w w' :=
 ⟨hg.size,fun i h1 _ h3=>hg.block i h1 (fun e=>by
  rcases ho.2 with ⟨rfl,_⟩ | ⟨g,cap,cur,rfl,_,hgg,_⟩
  ·cases e
  ·have:i=g:=by simpa [Value.ownBlock] using e
   rw [this] at h3
   exact h3 _ _ hgg)⟩
def Nby (w:World) (x:Nat):Prop:=x < w.heap.size∧∀ c f,w.heap[x]? ≠ some (.cells c 5 f)
theorem Oth.nby {b x:Nat} {w w':World} (h:Oth b w w') (k:Nby w x) (hx:x ≠ b):Nby w' x:=⟨Nat.lt_of_lt_of_le k.1 h.size,by rw [h.block x k.1 hx k.2];exact k.2⟩
theorem Oth.bk {b x:Nat} {w w':World} {cs:List Value} (h:Oth b w w') (k:Nby w x) (hx:x ≠ b) (hb:Bk w x cs):Bk w' x cs:=hb.of_blk h.size (h.block x k.1 hx k.2)
theorem nby_new (w:World) (c:Array Value) (T:TypeId) (hT:T ≠ 5) (x:Nat) (hx:x=w.heap.size):Nby (w.alloc (.cells c T)) x:=by
 subst hx
 refine ⟨by simp,fun c' f e=>hT ?_⟩
 have e2:(w.alloc (.cells c T)).heap[w.heap.size]?=some (.cells c T (0,0)):=by
  show (w.heap.push (Obj.cells c T))[w.heap.size]?=_
  simp
 rw [e2] at e
 injection e with e3
 injection e3
theorem Nby.kept {w w':World} {x:Nat} (h:Nby w x) (k:Kept w w'):Nby w' x:=⟨k.lt h.1,by rw [k.block x h.1];exact h.2⟩
theorem Tryz.sizeBld:(Tryz.prog.info? 197).map (fun i=>i.size)=some 2:=by kernel_rfl
theorem Tryz.liesBld:liesAt Tryz.prog Tryz.prog.depth 197 (2 / Tryz.prog.cellsOf 197) 0 197 1=true:=by kernel_rfl
theorem Tryz.infoByte:(Tryz.prog.info? 5).map (fun i=>(i.zero,i.size,i.bytes))=some (some (.int .u8 0),1,1):=by kernel_rfl
theorem Tryz.noEscape_runs (v:Value) (w:World):(callFunc 355 #[v]).run Tryz.prog w=.ok (.value v) w:=by
 rw [run_callFunc_extern Tryz.func355 (by kernel_rfl) (by kernel_rfl) (by kernel_rfl) (e:=Extern.AbiNoEscape.same) (by kernel_rfl),Lib.run_noEscape]
 rfl
set_option maxRecDepth 100000 in
set_option maxHeartbeats 1000000 in
theorem copyCheck_used (b:Nat) (w:World) (h0:w.cell? ⟨b,0,none⟩=some (.pointer (some ⟨b,0,none⟩))) :
  Calls Tryz.prog 297 #[.pointer (some ⟨b,0,none⟩)] w fun e w'=>e=.returned (.tuple #[])∧w'=w:=by
 obtain ⟨j,hj,_⟩:=Option.map_eq_some_iff.1 Tryz.sizeBld
 go_enter Tryz.func297,Tryz.ntmps297
 go_wp2
 rw [Lib.run_neq_ptr_same w _ Tryz.underlying194 hj]
 go_wp2
 go_end0
 exact ⟨rfl,rfl⟩
set_option maxRecDepth 100000 in
set_option maxHeartbeats 1000000 in
theorem copyCheck_fresh (b:Nat) (w:World) (h0:w.cell? ⟨b,0,none⟩=some (.pointer none)) (hsh:w.shape? b=some (197,2)) (hfz:w.frozen? ⟨b,0,none⟩=false) :
  Calls Tryz.prog 297 #[.pointer (some ⟨b,0,none⟩)] w fun e w'=>e=.returned (.tuple #[])∧w'=w.setCell ⟨b,0,none⟩ (.pointer (some ⟨b,0,none⟩)):=by
 obtain ⟨j,hj,hjs⟩:=Option.map_eq_some_iff.1 Tryz.sizeBld
 go_enter Tryz.func297,Tryz.ntmps297
 go_wp2
 rw [Lib.run_to_unsafe w ⟨b,0,none⟩ Tryz.underlying194 Tryz.underlying335 hj (by rw [hjs];decide) hsh (Nat.zero_lt_succ 1)]
 simp only [Result.andThen]
 rw [Oper.upon_value]
 go_wp2
 rw [Tryz.noEscape_runs]
 rw [Oper.upon_value]
 go_wp2
 rw [Lib.run_from_unsafe w ⟨b,0,none⟩ Tryz.underlying335 Tryz.underlying194 hj hsh Tryz.liesBld]
 simp only [Result.andThen]
 rw [Oper.upon_value]
 go_wp2
 go_end0
 exact ⟨rfl,rfl⟩
theorem copyCheck_any (B b:Nat) (bs:List Value) (w:World) (h:IsBld B b bs w) :
  Calls Tryz.prog 297 #[.pointer (some ⟨b,0,none⟩)] w fun e w'=>e=.returned (.tuple #[])∧(Lib.BuilderAt 197 5 B b (.pointer (some ⟨b,0,none⟩)) bs w'∧Below B w w'∧Oth b w w'):=by
 rcases h with h | h
 ·refine (copyCheck_fresh b w h.cell0 h.shape h.frozen0).mono ?_
  rintro e w' ⟨rfl,rfl⟩
  exact ⟨rfl,h.used _,(Below.refl B w).setCell (p:=⟨b,0,none⟩) h.1 _,Oth.set w 0 _⟩
 ·refine (copyCheck_used b w h.cell0).mono ?_
  rintro e w' ⟨rfl,rfl⟩
  exact ⟨rfl,h,Below.refl B _,Oth.refl _ _⟩
set_option maxRecDepth 100000 in
set_option maxHeartbeats 1000000 in
theorem bldLen (B b:Nat) (bs:List Value) (w:World) (h:IsBld B b bs w) :
  Calls Tryz.prog 139 #[.pointer (some ⟨b,0,none⟩)] w fun e w'=>e=.returned (.int .i64 bs.length)∧w=w':=by
 obtain ⟨p,hB,v,hbk,hown,hne⟩:∃ p,Lib.BuilderAt 197 5 B b p bs w:=by
  rcases h with h | h
  ·exact ⟨_,h⟩
  ·exact ⟨_,h⟩
 obtain ⟨ao,cap,rfl⟩:=ownsRow_form hown
 have c1:w.cell? ⟨b,1,none⟩=some (.slice ao bs.length cap):=by rw [Lib.cell_of_heap hbk];rfl
 go_enter Tryz.func139,Tryz.ntmps139
 go_wp2
 go_ret
 exact ⟨rfl,rfl⟩
set_option maxRecDepth 100000 in
set_option maxHeartbeats 2000000 in
theorem bldByte (B b:Nat) (bs:List Value) (c:Int) (w:World) (h:IsBld B b bs w) (hlen:bs.length + 1≤1000000) (hBw:B≤w.heap.size) :
  Calls Tryz.prog 195 #[.pointer (some ⟨b,0,none⟩),.int .u8 c] w fun e w'=>e=.returned .nilIface∧IsBld B b (bs ++ [.int .u8 c]) w'∧Below B w w'∧Oth b w w':=by
 obtain ⟨i0,hi,hz0,hz1,hz2⟩:=info_parts Tryz.infoByte
 go_enter Tryz.func195,Tryz.ntmps195
 go_wp2_with (go_at_call 297;refine (copyCheck_any B b bs _ h).mono ?_)
 rintro e w1 ⟨rfl,h1,hb1,ht1⟩
 obtain ⟨hB,v,hbk,hown,hne⟩:=h1
 have c0:w1.cell? ⟨b,0,none⟩=some (.pointer (some ⟨b,0,none⟩)):=by rw [Lib.cell_of_heap hbk];rfl
 have c1:w1.cell? ⟨b,1,none⟩=some v:=by rw [Lib.cell_of_heap hbk];rfl
 go_wp2_with (at_builtin;refine wpList_append_own _ rfl _ _ 195 rfl B 5 i0 (.int .u8 0) 1 1 Tryz.underlying195 hi hz0 hz1 hz2 rfl (by decide) _ _ _ rfl (hown.alloc _) ⟨w1.heap.size,0,none⟩ 1 1 [.int .u8 c] rfl rfl ?c1 ?c2 ?c3 ?c4 ?c5 ?_)
 case c1 =>
  intro j u hj
  match j,hj with
  | 0,hj=>simp at hj;subst hj;simp [Addr.add]
 case c2=>intro u hu;simp at hu;subst hu;rfl
 case c3=>unfold maxLen;omega
 case c4=>omega
 case c5=>have:=hb1.size;simp;omega
 intro v' w2 hown' hgrow _
 have hlt:b < w1.heap.size:=by
  rcases Nat.lt_or_ge b w1.heap.size with h' | h'
  ·exact h'
  ·simp [Array.getElem?_eq_none h'] at hbk
 have hb2:w2.heap[b]?=some (.cells #[.pointer (some ⟨b,0,none⟩),v] 197 (0,0)):=by
  rw [hgrow.block b (by simp;omega) (fun e=>hne e.symm),Lib.alloc_old w1 _ b hlt]
  exact hbk
 have d0:w2.cell? ⟨b,0,none⟩=some (.pointer (some ⟨b,0,none⟩)):=by rw [Lib.cell_of_heap hb2];rfl
 have d1:w2.cell? ⟨b,1,none⟩=some v:=by rw [Lib.cell_of_heap hb2];rfl
 have f1:w2.frozen? ⟨b,1,none⟩=false:=Lib.frozen_of_heap hb2 1
 obtain ⟨g,cap,rfl⟩:∃ g cap,v'=.slice (some ⟨g,0,none⟩) (bs.length + 1) cap:=by
  rcases hown'.2 with ⟨_,h0⟩ | ⟨g,cap,cur,hv,_⟩
  ·omega
  ·exact ⟨g,cap,hv⟩
 go_wp2
 go_ret
 refine ⟨rfl,.inr ?_, ?_, ?_⟩
 ·exact Lib.BuilderAt.put (T:=197) (e:=5) hB hb2 (bs':=bs ++ [.int .u8 c]) (by simpa using hown') (by decide)
 ·exact ((hb1.alloc (by have:=hb1.size;omega) _).grown hgrow (by have:=hb1.size;simp;omega) (fun k hk=>(hown.lt k hk).1)).setCell (p:=⟨b,1,none⟩) hB _
 ·exact ((ht1.tr (.of_kept (kept_alloc _ _))).tr (Oth.grown (hown.alloc _) hgrow)).tr (Oth.set w2 1 _)
set_option maxRecDepth 100000 in
set_option maxHeartbeats 2000000 in
theorem bldStr (B b:Nat) (bs:List Value) (s:ByteArray) (w:World) (h:IsBld B b bs w) (hlen:bs.length + s.size≤1000000) (hBw:B≤w.heap.size) :
  Calls Tryz.prog 193 #[.pointer (some ⟨b,0,none⟩),.string s] w fun e w'=>e=.returned (.tuple #[.int .i64 s.size,.nilIface])∧IsBld B b (bs ++ Lib.strCells s) w'∧Below B w w'∧Oth b w w':=by
 obtain ⟨i0,hi,hz0,hz1,hz2⟩:=info_parts Tryz.infoByte
 go_enter Tryz.func193,Tryz.ntmps193
 go_wp2_with (go_at_call 297;refine (copyCheck_any B b bs _ h).mono ?_)
 rintro e w1 ⟨rfl,h1,hb1,ht1⟩
 obtain ⟨hB,v,hbk,hown,hne⟩:=h1
 have c0:w1.cell? ⟨b,0,none⟩=some (.pointer (some ⟨b,0,none⟩)):=by rw [Lib.cell_of_heap hbk];rfl
 have c1:w1.cell? ⟨b,1,none⟩=some v:=by rw [Lib.cell_of_heap hbk];rfl
 go_wp2_with (at_builtin;refine Lib.wpList_append_own_string _ rfl _ _ 195 9 rfl B 5 i0 Tryz.underlying195 Tryz.underlying9 hi hz0 hz1 hz2 _ _ _ rfl hown s rfl ?c3 ?c4 ?c5 ?_)
 case c3=>unfold maxLen;omega
 case c4=>omega
 case c5=>have:=hb1.size;omega
 intro v' w2 hown' hgrow _
 have hlt:b < w1.heap.size:=by
  rcases Nat.lt_or_ge b w1.heap.size with h' | h'
  ·exact h'
  ·simp [Array.getElem?_eq_none h'] at hbk
 have hb2:w2.heap[b]?=some (.cells #[.pointer (some ⟨b,0,none⟩),v] 197 (0,0)):=by
  rw [hgrow.block b hlt (fun e=>hne e.symm)]
  exact hbk
 have d0:w2.cell? ⟨b,0,none⟩=some (.pointer (some ⟨b,0,none⟩)):=by rw [Lib.cell_of_heap hb2];rfl
 have d1:w2.cell? ⟨b,1,none⟩=some v:=by rw [Lib.cell_of_heap hb2];rfl
 have f1:w2.frozen? ⟨b,1,none⟩=false:=Lib.frozen_of_heap hb2 1
 obtain ⟨ao,cap,rfl⟩:=ownsRow_form hown'
 go_wp2
 go_ret2
 refine ⟨rfl,.inr ?_, ?_, ?_⟩
 ·exact Lib.BuilderAt.put (T:=197) (e:=5) hB hb2 (bs':=bs ++ Lib.strCells s) (by simpa [Lib.strCells_length] using hown') (by decide)
 ·exact (hb1.grown hgrow (by have:=hb1.size;omega) (fun k hk=>(hown.lt k hk).1)).setCell (p:=⟨b,1,none⟩) hB _
 ·exact (ht1.tr (Oth.grown hown hgrow)).tr (Oth.set w2 1 _)
end Go.Proofs.YtoilbeadokallaaGreatDoor
namespace Go.Proofs.YtoilbeadokallaaGreatDoor
open Go.RowKit Cw Cw.Gj
def WrOut (B b n:Nat) (w:World) (e:Ending) (w':World):Prop:=e=.returned (.tuple #[])∧∃ bs',IsBld B b bs' w'∧bs'.length≤n∧Below B w w'∧Oth b w w'
theorem bld_kept {B b:Nat} {bs:List Value} {w w':World} (h:IsBld B b bs w) (k:Kept w w'):IsBld B b bs w':=by
 have one:∀ p,Lib.BuilderAt 197 5 B b p bs w→Lib.BuilderAt 197 5 B b p bs w':=fun p ⟨h1,v,h2,h3,h4⟩=>by
  have hb:b < w.heap.size:=(Array.getElem?_eq_some_iff.1 h2).1
  refine ⟨h1,v,by rw [k.block b hb];exact h2,World.ownsRow.kept h3 (row:=some w.heap.size) ⟨k.os,k.tape,k.output,k.size,fun i hi _=>k.block i hi⟩ ?_,h4⟩
  cases e:v.ownBlock with
  | none=>exact .inl rfl
  | some x =>
   refine .inr fun q=>?_
   have h5:=(World.ownsRow.lt h3 x e).2
   have h6:x=w.heap.size:=by simpa using q
   omega
 exact h.imp (one _) (one _)
theorem bld_lt {B b:Nat} {bs:List Value} {w:World} (h:IsBld B b bs w):B≤b∧b < w.heap.size:=by
 rcases h with ⟨h1,v,h2,_⟩ | ⟨h1,v,h2,_⟩ <;> exact ⟨h1,(Array.getElem?_eq_some_iff.1 h2).1⟩
theorem WrOut.at {B b n:Nat} {w w1 w':World} {e:Ending} (h:WrOut B b n w1 e w') (k:Kept w w1) (hB:B≤w.heap.size):WrOut B b n w e w':=by
 obtain ⟨h1,bs,h2,h3,h4,h5⟩:=h
 exact ⟨h1,bs,h2,h3,(k.mono hB).trans h4,(Oth.of_kept k).tr h5⟩
theorem dec_one (d:Nat) (h:d < 10):(Lib.decDigits d).length=1:=by
 unfold Lib.decDigits
 rw [dif_pos h]
 rfl
set_option maxRecDepth 100000 in
set_option maxHeartbeats 4000000 in
theorem write_num (B b:Nat) (bs:List Value) (d:Nat) (w:World) (h:IsBld B b bs w) (hd:d < 10) (hl:bs.length≤1000) (hB:B≤w.heap.size) :
  Calls Tryz.prog 138 #[.pointer (some ⟨b,0,none⟩),.agg #[.int .i64 1,.string ⟨#[]⟩,.int .i64 d,.slice none 0 0,.slice none 0 0]] w (WrOut B b (bs.length + 1) w):=by
 obtain ⟨W1,hW1⟩:∃ x,x=(w.alloc (.cells #[.pointer (some ⟨b,0,none⟩)] 194)).alloc (.cells #[.int .i64 1,.string ⟨#[]⟩,.int .i64 d,.slice none 0 0,.slice none 0 0] 50):=⟨_,rfl⟩
 have hk1:Kept w W1:=by rw [hW1];exact (kept_alloc _ _).tr (kept_alloc _ _)
 have hbp:Bk W1 w.heap.size [.pointer (some ⟨b,0,none⟩)]:=by rw [hW1];exact (bk_new w _ _ _ rfl).kept (kept_alloc _ _)
 have hbx:Bk W1 (w.heap.size + 1) [.int .i64 1,.string ⟨#[]⟩,.int .i64 d,.slice none 0 0,.slice none 0 0]:=by rw [hW1];exact bk_new _ [.int .i64 1,.string ⟨#[]⟩,.int .i64 d,.slice none 0 0,.slice none 0 0] _ _ (by simp)
 have hb1:=bld_kept h hk1
 have np:Nby W1 w.heap.size:=by rw [hW1];exact (nby_new w _ _ (by decide) _ rfl).kept (kept_alloc _ _)
 have nx:Nby W1 (w.heap.size + 1):=by rw [hW1];exact nby_new _ _ _ (by decide) _ (by simp)
 have hnp:w.heap.size ≠ b:=by have:=(bld_lt h).2;omega
 have hnx:w.heap.size + 1 ≠ b:=by have:=(bld_lt h).2;omega
 have p0:=hbp.2 0 _ rfl
 have x0:=hbx.2 0 _ rfl
 have x2:=hbx.2 2 _ rfl
 have hl':¬ (bs.length:Int) > 65536:=by omega
 have hB1:B≤W1.heap.size:=Nat.le_trans hB hk1.size
 have HB1:=hid hb1
 have HI:=hid (fun W=>Tryz.strconv_Itoa_small d (by omega) W)
 obtain ⟨sd,hsd⟩:∃ s,s=(⟨(Lib.decDigits d).toArray⟩:ByteArray):=⟨_,rfl⟩
 have hsz:sd.size=1:=by rw [hsd];exact dec_one d hd
 rw [← hsd] at HI
 have HSZ:=hid hsz
 clear hb1 hsd hsz
 go_enter Tryz.func138,Tryz.ntmps138
 go_wp2_with (fail)
 rw [← hW1]
 clear hW1
 refine (bldLen B b bs W1 HB1.out).mono ?_
 rintro e w2 ⟨rfl,rfl⟩
 go_wp2_with (fail)
 go_region_held3 (fun w'=>w'.cell? ⟨w.heap.size,0,none⟩=some (.pointer (some ⟨b,0,none⟩))∧w'.cell? ⟨w.heap.size + 1,2,none⟩=some (.int .i64 d)) (first | (simp [*];done) | (simp [go_sem, *];done))
  (first
   | (go_at_call 194;refine (HI.out _).mono ?_;rintro e w3 ⟨rfl,rfl⟩)
   | (go_at_call 193;refine (bldStr B b bs sd _ (by first | exact HB1.out | exact bld_kept HB1.out (kept_drew _) | exact bld_kept HB1.out (kept_drewN _ _)) (by rw [HSZ.out];omega) (by first | exact hB1 | simpa using hB1)).mono ?_;rintro e w4 ⟨rfl,hi4,hb4,ho4⟩;have ho4':Oth b W1 w4:=(by first | exact ho4 | exact (Oth.of_kept (kept_drew _)).tr ho4 | exact (Oth.of_kept (kept_drewN _ _)).tr ho4);have q0:=(ho4'.bk np hnp hbp).2 0 _ rfl;have q2:=(ho4'.bk nx hnx hbx).2 2 _ rfl;have hb4':Below B W1 w4:=(by first | exact hb4 | exact ((kept_drew W1).mono hB1).trans hb4 | exact ((kept_drewN W1 _).mono hB1).trans hb4)))
 all_goals
  go_wp2_with (fail)
  go_end0
  exact ⟨rfl,_,hi4,by rw [List.length_append,Lib.strCells_length,HSZ.out];exact Nat.le_refl _,(hk1.mono hB).trans hb4',(Oth.of_kept hk1).tr ho4'⟩
set_option maxRecDepth 100000 in
set_option maxHeartbeats 4000000 in
theorem one_any (B b n pb px a K cap j:Nat) (ak:Int) (an:ByteArray) (av:Int) (l1:Option Addr) (l2 l3:Nat) (m1:Option Addr) (m2 m3:Nat) (w:World) (p0:w.cell? ⟨pb,0,none⟩=some (.pointer (some ⟨b,0,none⟩))) (x4:w.cell? ⟨px,4,none⟩=some (.slice (some ⟨a,0,none⟩) K cap)) (hj:j < K) (hB:B≤w.heap.size)
  (c0:w.cell? ⟨a,j * 5,none⟩=some (.int .i64 ak)) (c1:w.cell? ⟨a,j * 5 + 1,none⟩=some (.string an)) (c2:w.cell? ⟨a,j * 5 + 2,none⟩=some (.int .i64 av)) (c3:w.cell? ⟨a,j * 5 + 3,none⟩=some (.slice l1 l2 l3)) (c4:w.cell? ⟨a,j * 5 + 4,none⟩=some (.slice m1 m2 m3))
  (hw:∀ w',Kept w w'→Calls Tryz.prog 138 #[.pointer (some ⟨b,0,none⟩),.agg #[.int .i64 ak,.string an,.int .i64 av,.slice l1 l2 l3,.slice m1 m2 m3]] w' (WrOut B b n w')) :
  Calls Tryz.prog 197 #[.int .i64 j,.pointer (some ⟨pb,0,none⟩),.pointer (some ⟨px,0,none⟩)] w (WrOut B b n w):=by
 have hlt:(j:Int) < (K:Int):=by omega
 have HW:=hid hw
 clear hw
 go_enter Tryz.func197,Tryz.ntmps197
 go_wp2_with (fail)
 go_still_tail 6,(by kernel_rfl)
 go_wp2_with (go_at_call 138;refine (HW.out _ (by first | exact kept_drew _ | exact kept_drewN _ _ | exact Kept.rfl' _)).mono ?_;rintro e w3 ⟨rfl,bs3,i3,n3,b3,o3⟩)
 go_end0
 exact WrOut.at ⟨rfl,bs3,i3,n3,b3,o3⟩ (by first | exact kept_drew _ | exact kept_drewN _ _ | exact Kept.rfl' _) hB
set_option maxRecDepth 100000 in
set_option maxHeartbeats 4000000 in
theorem join_any (B b M K pb px:Nat) (bs:List Value) (w:World) (hi:IsBld B b bs w) (hB:B≤w.heap.size) (p0:Bk w pb [.pointer (some ⟨b,0,none⟩)]) (np:Nby w pb) (hp:pb ≠ b) (hK:K≤2) (hM:M≤100) (hl:bs.length≤1000)
  (one:∀ j,j < K→∀ w' bs',Oth b w w'→Below B w w'→IsBld B b bs' w'→bs'.length≤bs.length + 150→B≤w'.heap.size→Calls Tryz.prog 197 #[.int .i64 j,.pointer (some ⟨pb,0,none⟩),.pointer (some ⟨px,0,none⟩)] w' (WrOut B b (bs'.length + M) w')) :
  Calls Tryz.prog 192 #[.int .i64 K,.func (.func 197) #[] #[.pointer (some ⟨pb,0,none⟩),.pointer (some ⟨px,0,none⟩)],.pointer (some ⟨pb,0,none⟩)] w (WrOut B b (bs.length + 2 * (M + 2)) w):=by
 have H1:=hid one
 have HP:=hid p0
 clear one p0
 go_enter Tryz.func192,Tryz.ntmps192
 go_wp2_with (fail)
 go_loopw [7] (fun vi wr=>∃ (j:Nat) (bs':List Value),j≤K∧vi=.int .i64 j∧IsBld B b bs' wr∧bs'.length≤bs.length + j * (M + 2)∧Oth b w wr∧Below B w wr∧B≤wr.heap.size) (fun vi _=>K - (intOf vi).toNat)
 case atStart=>exact ⟨0,bs,Nat.zero_le _,rfl,hi,by omega,Oth.refl _ _,Below.refl _ _,hB⟩
 case round =>
  obtain ⟨j,bs',hj,rfl,hi',hl',ho',hb',hB'⟩:=hrel
  by_cases hlt:j < K
  ·have e1:(j + 1) * (M + 2)=j * (M + 2) + (M + 2):=Nat.succ_mul _ _
   have e2:bs'.length≤bs.length + 140:=by
    have:j=0 ∨ j=1:=by omega
    rcases this with rfl | rfl <;> omega
   have q0:=(ho'.bk np hp HP.out).2 0 _ rfl
   have HI':=hid hi'
   have HL':=hid hl'
   have HE1:=hid e1
   clear hi' hl' e1
   by_cases j0:j=0
   ·subst j0
    go_wp2_with (go_at_call 197;refine (H1.out 0 hlt _ _ ho' hb' HI'.out (by omega) hB').mono ?_;rintro e w4 ⟨rfl,bs4,i4,n4,b4,o4⟩)
    go_roundw
    case rel=>exact ⟨1,bs4,by omega,rfl,i4,by have:=HL'.out;omega,ho'.tr o4,hb'.trans b4,Nat.le_trans hB' o4.size⟩
    case measure=>simp [intOf];omega
   ·have tj:(0:Int) < (j:Int):=by omega
    go_wp2_with (first
     | (go_at_call 193;refine (bldStr B b bs' ⟨#[44,32]⟩ _ HI'.out (by show _ + 2≤_;omega) hB').mono ?_;rintro e w3 ⟨rfl,i3,b3,o3⟩)
     | (go_at_call 197;refine (H1.out j hlt _ _ (ho'.tr o3) (hb'.trans b3) i3 (by rw [List.length_append,Lib.strCells_length];show _ + 2≤_;omega) (Nat.le_trans hB' o3.size)).mono ?_;rintro e w4 ⟨rfl,bs4,i4,n4,b4,o4⟩))
    go_roundw
    case rel=>exact ⟨j + 1,bs4,by omega,by go_num,i4,by rw [List.length_append,Lib.strCells_length] at n4;have:=HL'.out;have:=HE1.out;have n5:bs4.length≤bs'.length + 2 + M:=n4;omega,(ho'.tr o3).tr o4,(hb'.trans b3).trans b4,Nat.le_trans (Nat.le_trans hB' o3.size) o4.size⟩
    case measure=>simp [intOf];omega
  ·go_wp2_with (fail)
   go_end0
   refine ⟨rfl,bs',hi', ?_,hb',ho'⟩
   have:j=0 ∨ j=1 ∨ j=2:=by omega
   rcases this with rfl | rfl | rfl <;> omega
set_option maxRecDepth 100000 in
set_option maxHeartbeats 8000000 in
theorem write_call {Gd:Nat→List Value→World→Prop} {s:ByteArray} {K:Nat} {E:List Value} (B b M:Nat) (bs:List Value) (w0 w:World) (h:CallG Gd s K E w0) (hs:∀ j E w,Gd j E w→Shp E) (hk0:Kept w0 w) (hB0:w0.heap.size≤B) (hK:K≤2) (hM:M≤100) (hsz:s.size≤16)
  (hi:IsBld B b bs w) (hl:bs.length≤300) (hB:B≤w.heap.size)
  (hc:∀ j E,Gd j E w0→∀ w' bs',Kept w0 w'→IsBld B b bs' w'→bs'.length≤bs.length + 200→B≤w'.heap.size→Calls Tryz.prog 138 #[.pointer (some ⟨b,0,none⟩),.agg E.toArray] w' (WrOut B b (bs'.length + M) w')) :
  Calls Tryz.prog 138 #[.pointer (some ⟨b,0,none⟩),.agg E.toArray] w (WrOut B b (bs.length + 16 + 2 + 2 * (M + 2)) w):=by
 obtain ⟨a,cap,rfl,hal,hargs⟩:=h.args (hs · · w0)
 show Calls Tryz.prog 138 #[.pointer (some ⟨b,0,none⟩),.agg #[.int .i64 3,.string s,.int .i64 0,.slice none 0 0,.slice (some ⟨a,0,none⟩) K cap]] w _
 have hmf:∀ (fn:Fn) (first cap:Array Value) (w:World),(Instr.makeFunc fn first cap).run Tryz.prog w=.ok (.func fn first cap) w:=fun _ _ _ _=>rfl
 obtain ⟨W1,hW1⟩:∃ x,x=(w.alloc (.cells #[.pointer (some ⟨b,0,none⟩)] 194)).alloc (.cells #[.int .i64 3,.string s,.int .i64 0,.slice none 0 0,.slice (some ⟨a,0,none⟩) K cap] 50):=⟨_,rfl⟩
 have hk1:Kept w W1:=by rw [hW1];exact (kept_alloc _ _).tr (kept_alloc _ _)
 have hbp:Bk W1 w.heap.size [.pointer (some ⟨b,0,none⟩)]:=by rw [hW1];exact (bk_new w _ _ _ rfl).kept (kept_alloc _ _)
 have hbx:Bk W1 (w.heap.size + 1) [.int .i64 3,.string s,.int .i64 0,.slice none 0 0,.slice (some ⟨a,0,none⟩) K cap]:=by rw [hW1];exact bk_new _ [.int .i64 3,.string s,.int .i64 0,.slice none 0 0,.slice (some ⟨a,0,none⟩) K cap] _ _ (by simp)
 have hb1:=bld_kept hi hk1
 have np:Nby W1 w.heap.size:=by rw [hW1];exact (nby_new w _ _ (by decide) _ rfl).kept (kept_alloc _ _)
 have nx:Nby W1 (w.heap.size + 1):=by rw [hW1];exact nby_new _ _ _ (by decide) _ (by simp)
 have hnp:w.heap.size ≠ b:=by have:=(bld_lt hi).2;omega
 have hnx:w.heap.size + 1 ≠ b:=by have:=(bld_lt hi).2;omega
 have p0:=hbp.2 0 _ rfl
 have x0:=hbx.2 0 _ rfl
 have hl':¬ (bs.length:Int) > 65536:=by omega
 have hB1:B≤W1.heap.size:=Nat.le_trans hB hk1.size
 have hk01:=hk0.tr hk1
 have HB1:=hid hb1
 have HA:=hid hargs
 have HC:=hid hc
 have HN:=hid np
 have HNX:=hid nx
 clear hb1 hargs hc np nx h hs
 go_enter Tryz.func138,Tryz.ntmps138
 go_wp2_with (fail)
 rw [← hW1]
 clear hW1
 refine (bldLen B b bs W1 HB1.out).mono ?_
 rintro e w2 ⟨rfl,rfl⟩
 have x1:=hbx.2 1 _ rfl
 go_wp2_with (fail)
 refine (bldStr B b bs s W1 HB1.out (by omega) hB1).mono ?_
 rintro e w2 ⟨rfl,i2,b2,o2⟩
 have p2:=(o2.bk HN.out hnp hbp).2 0 _ rfl
 have hB2:=Nat.le_trans hB1 o2.size
 clear p0 x0 x1
 go_wp2_with (fail)
 refine (bldByte B b _ 40 w2 i2 (by rw [List.length_append,Lib.strCells_length];omega) hB2).mono ?_
 rintro e w3 ⟨rfl,i3,b3,o3⟩
 have o13:=o2.tr o3
 have b13:=b2.trans b3
 have hB3:=Nat.le_trans hB2 o3.size
 have hbp3:=o13.bk HN.out hnp hbp
 have hbx3:=o13.bk HNX.out hnx hbx
 have np3:=o13.nby HN.out hnp
 have nx3:=o13.nby HNX.out hnx
 have p3:=hbp3.2 0 _ rfl
 have x3:=hbx3.2 4 _ rfl
 have l3:(bs ++ Lib.strCells s ++ [Value.int .u8 40]).length≤bs.length + 17:=by
  rw [List.length_append,List.length_append,Lib.strCells_length];show _ + 1≤_;omega
 have HJ:=hid (join_any B b M K w.heap.size (w.heap.size + 1) _ w3 i3 hB3 hbp3 np3 hnp hK hM (by omega) (fun j hj w' bs' o' b' i' n' hB'=>by
  obtain ⟨ak,an,av,l1,l2,l3,m1,m2,m3,hG,c0,c1,c2,c3,c4⟩:=HA.out j hj
  have o1':=o13.tr o'
  have k0':Kept w0 w':=hk01.trans ((b13.trans b').mono hB0)
  exact one_any B b _ w.heap.size (w.heap.size + 1) a K cap j ak an av l1 l2 l3 m1 m2 m3 w' ((o'.bk np3 hnp hbp3).2 0 _ rfl) ((o'.bk nx3 hnx hbx3).2 4 _ rfl) hj hB'
   ((k0'.cell' hal).trans c0) ((k0'.cell' hal).trans c1) ((k0'.cell' hal).trans c2) ((k0'.cell' hal).trans c3) ((k0'.cell' hal).trans c4)
   (fun w2' k2'=>HC.out j _ hG w2' bs' (k0'.tr k2') (bld_kept i' k2') (by omega) (Nat.le_trans hB' k2'.size))))
 clear p2
 go_wp2_with (fail)
 refine HJ.out.mono ?_
 rintro e w4 ⟨rfl,bs4,i4,n4,b4,o4⟩
 have o14:=o13.tr o4
 have b14:=b13.trans b4
 have hB4:=Nat.le_trans hB3 o4.size
 have p4:=(o14.bk HN.out hnp hbp).2 0 _ rfl
 have n4':bs4.length≤bs.length + s.size + 1 + 2 * (M + 2):=by
  rw [List.length_append,List.length_append,Lib.strCells_length] at n4;exact n4
 clear p3 x3
 go_wp2_with (fail)
 refine (bldByte B b _ 41 w4 i4 (by omega) hB4).mono ?_
 rintro e w5 ⟨rfl,i5,b5,o5⟩
 go_wp2_with (fail)
 go_end0
 exact ⟨rfl,_,i5,by rw [List.length_append];show _ + 1≤_;omega,(hk1.mono hB).trans (b14.trans b5),(Oth.of_kept hk1).tr (o14.tr o5)⟩
end Go.Proofs.YtoilbeadokallaaGreatDoor
namespace Go.Proofs.YtoilbeadokallaaGreatDoor
open Go.RowKit Cw Cw.Gj
theorem nm_gf:IsNm sGf:=⟨by decide,by decide,by decide,by decide⟩
theorem nm_ham:IsNm sHam:=⟨by decide,by decide,by decide,by decide⟩
theorem g1_eq {j:Nat} {E:List Value} {w:World} (h:G1 j E w):E=NumC 2:=h
theorem g2_cases {j:Nat} {E:List Value} {w:World} (h:G2 j E w):CallG G1 sGf 1 E w ∨ E=NumC 3:=by
 unfold G2 at h
 by_cases e:j=0
 ·rw [if_pos e] at h;exact .inl h
 ·rw [if_neg e] at h;exact .inr h
theorem form_ham {E:List Value} (w:World) (h:CallG G2 sHam 2 E w):Calls Tryz.prog 135 #[.agg E.toArray] w fun e w'=>e=.returned (.bool true)∧Kept w w' :=
 form_call w h (fun _ _ _ q=>g2_shp q) (fun _ _ _ _ q k=>g2_kept q k) nm_ham (by omega) fun j E w q=>by
  rcases g2_cases q with q | q
  ·exact form_call w q (fun _ _ _ q=>g1_shp q) (fun _ _ _ _ q _=>q) nm_gf (by omega) fun j E w q=>by
    rw [g1_eq q];exact form_num 2 w (by omega) (by omega)
  ·rw [q];exact form_num 3 w (by omega) (by omega)
theorem meas_ham {E:List Value} (w:World) (h:CallG G2 sHam 2 E w):Calls Tryz.prog 136 #[.agg E.toArray] w (MeasOut 3 w) :=
 measure_call (D:=2) w h (fun _ _ _ q=>g2_shp q) (fun _ _ _ _ q k=>g2_kept q k) (by omega) (by omega) fun j E w q=>by
  rcases g2_cases q with q | q
  ·exact measure_call (D:=1) w q (fun _ _ _ q=>g1_shp q) (fun _ _ _ _ q _=>q) (by omega) (by omega) fun j E w q=>by
    rw [g1_eq q];exact measure_num 2 w
  ·rw [q];exact (measure_num 3 w).mono fun _ _ ⟨d,h1,h2,h3⟩=>⟨d,h1,by omega,h3⟩
theorem size_ham {E:List Value} (w:World) (h:CallG G2 sHam 2 E w):Calls Tryz.prog 137 #[.agg E.toArray] w (SizeOut 7 w) :=
 size_call (N:=3) w h (fun _ _ _ q=>g2_shp q) (fun _ _ _ _ q k=>g2_kept q k) (by omega) (by omega) fun j E w q=>by
  rcases g2_cases q with q | q
  ·exact size_call (N:=1) w q (fun _ _ _ q=>g1_shp q) (fun _ _ _ _ q _=>q) (by omega) (by omega) fun j E w q=>by
    rw [g1_eq q];exact size_num 2 w
  ·rw [q];exact (size_num 3 w).mono fun _ _ ⟨d,h1,h2,h3⟩=>⟨d,h1,by omega,h3⟩
theorem wr_num (B b:Nat) (bs:List Value) (d:Nat) (w:World) (h:IsBld B b bs w) (hd:d < 10) (hl:bs.length≤500) (hB:B≤w.heap.size) (M:Nat) (hM:1≤M) :
  Calls Tryz.prog 138 #[.pointer (some ⟨b,0,none⟩),.agg (NumC d).toArray] w (WrOut B b (bs.length + M) w) :=
 (write_num B b bs d w h hd (by omega) hB).mono fun _ _ ⟨h1,bs',h2,h3,h4⟩=>⟨h1,bs',h2,by omega,h4⟩
theorem write_ham {E:List Value} (B b:Nat) (w0 w:World) (h:CallG G2 sHam 2 E w0) (hk0:Kept w0 w) (hB0:w0.heap.size≤B) (hi:IsBld B b [] w) (hB:B≤w.heap.size) :
  Calls Tryz.prog 138 #[.pointer (some ⟨b,0,none⟩),.agg E.toArray] w (WrOut B b 1000 w):=by
 refine (write_call B b 50 [] w0 w h (fun _ _ _ q=>g2_shp q) hk0 hB0 (by omega) (by omega) (by decide) hi (by simp) hB fun j E q w' bs' k' i' n' hB'=>?_).mono fun _ _ ⟨h1,bs',h2,h3,h4⟩=>⟨h1,bs',h2,by simp at h3;omega,h4⟩
 rcases g2_cases q with q | q
 ·exact (write_call B b 1 bs' w0 w' q (fun _ _ _ q=>g1_shp q) k' hB0 (by omega) (by omega) (by decide) i' (by simp at n';omega) hB' fun j E q w2 bs2 _ i2 n2 hB2=>by
   rw [g1_eq q];exact wr_num B b bs2 2 w2 i2 (by omega) (by simp at n';omega) hB2 1 (Nat.le_refl _)).mono fun _ _ ⟨h1,bs',h2,h3,h4⟩=>⟨h1,bs',h2,by omega,h4⟩
 ·rw [q];exact wr_num B b bs' 3 w' i' (by omega) (by simp at n';omega) hB' 50 (by omega)
set_option maxRecDepth 100000 in
set_option maxHeartbeats 4000000 in
theorem check_ham {E:List Value} (w:World) (h:CallG G2 sHam 2 E w):Calls Tryz.prog 85 #[.agg E.toArray] w fun e w'=>e=.returned (.int .i64 0)∧Kept w w':=by
 have hE:=h
 obtain ⟨a,cap,_,rfl,_⟩:=hE
 show Calls Tryz.prog 85 #[.agg #[.int .i64 3,.string sHam,.int .i64 0,.slice none 0 0,.slice (some ⟨a,0,none⟩) 2 cap]] w _
 obtain ⟨W1,hW1⟩:∃ x,x=w.alloc (.cells #[.int .i64 3,.string sHam,.int .i64 0,.slice none 0 0,.slice (some ⟨a,0,none⟩) 2 cap] 50):=⟨_,rfl⟩
 have hk1:Kept w W1:=by rw [hW1];exact kept_alloc _ _
 have hb1:Bk W1 w.heap.size [.int .i64 3,.string sHam,.int .i64 0,.slice none 0 0,.slice (some ⟨a,0,none⟩) 2 cap]:=by rw [hW1];exact bk_new w _ _ _ rfl
 have HF:=hid (fun W (k:Kept w W)=>form_ham W (h.kept (fun _ _ q=>g2_kept q k) k))
 have HM:=hid (fun W (k:Kept w W)=>meas_ham W (h.kept (fun _ _ q=>g2_kept q k) k))
 have HS:=hid (fun W (k:Kept w W)=>size_ham W (h.kept (fun _ _ q=>g2_kept q k) k))
 have HW:=hid (fun B b W0 W (k:Kept w W0)=>write_ham B b W0 W (h.kept (fun _ _ q=>g2_kept q k) k))
 obtain ⟨sh,hsh⟩:∃ s,s=sHam:=⟨_,rfl⟩
 unfold CallC at HF HM HS HW
 rw [← hsh] at HF HM HS HW hb1 hW1 ⊢
 clear hsh h
 have x0:=hb1.2 0 _ rfl
 have x1:=hb1.2 1 _ rfl
 have x2:=hb1.2 2 _ rfl
 have x3:=hb1.2 3 _ rfl
 have x4:=hb1.2 4 _ rfl
 go_enter Tryz.func85,Tryz.ntmps85
 go_wp2_with (fail)
 rw [← hW1]
 clear hW1
 refine (HF.out W1 hk1).mono ?_
 rintro e w2 ⟨rfl,hk2⟩
 have hb2:=hb1.kept hk2
 have hk12:=hk1.tr hk2
 clear x0 x1 x2 x3 x4
 have x0:=hb2.2 0 _ rfl
 have x1:=hb2.2 1 _ rfl
 have x2:=hb2.2 2 _ rfl
 have x3:=hb2.2 3 _ rfl
 have x4:=hb2.2 4 _ rfl
 go_wp2_with (fail)
 refine (HM.out w2 hk12).mono ?_
 rintro e w3 ⟨d,d0,d1,rfl,hk3⟩
 have hb3:=hb2.kept hk3
 have hk13:=hk12.tr hk3
 have hd:¬ d > 32:=by omega
 clear x0 x1 x2 x3 x4
 have x0:=hb3.2 0 _ rfl
 have x1:=hb3.2 1 _ rfl
 have x2:=hb3.2 2 _ rfl
 have x3:=hb3.2 3 _ rfl
 have x4:=hb3.2 4 _ rfl
 go_wp2_with (fail)
 refine (HS.out w3 hk13).mono ?_
 rintro e w4 ⟨m,m0,m1,rfl,hk4⟩
 have hb4:=hb3.kept hk4
 have hk14:=hk13.tr hk4
 have hm:¬ m > 1024:=by omega
 clear x0 x1 x2 x3 x4
 have x0:=hb4.2 0 _ rfl
 have x1:=hb4.2 1 _ rfl
 have x2:=hb4.2 2 _ rfl
 have x3:=hb4.2 3 _ rfl
 have x4:=hb4.2 4 _ rfl
 have x5:=hb4.1
 obtain ⟨W5,hW5⟩:∃ x,x=w4.alloc (.cells #[.pointer none,.slice none 0 0] 197):=⟨_,rfl⟩
 have hk5:Kept w4 W5:=by rw [hW5];exact kept_alloc _ _
 have hi5:IsBld w4.heap.size w4.heap.size [] W5:=by
  refine .inl ⟨Nat.le_refl _,.slice none 0 0, ?_,⟨rfl,.inl ⟨rfl,rfl⟩⟩,fun e=>by cases e⟩
  rw [hW5]
  show (w4.heap.push _)[w4.heap.size]?=_
  simp
 have HW5:=hid (HW.out w4.heap.size w4.heap.size w4 W5 hk14 hk5 (Nat.le_refl _) hi5 hk5.size)
 clear hi5
 go_wp2_with (fail)
 rw [← hW5]
 clear hW5
 refine HW5.out.mono ?_
 rintro e w6 ⟨rfl,bs,i6,n6,b6,o6⟩
 have hk6:Kept w4 w6:=hk5.trans b6
 have hk16:=hk14.tr hk6
 have n6':¬ (bs.length:Int) > 65536:=by omega
 clear x0 x1 x2 x3 x4
 go_wp2_with (go_at_call 139;refine (bldLen _ _ _ _ i6).mono ?_;rintro e w7 ⟨rfl,rfl⟩)
 go_ret
 exact ⟨rfl,hk16⟩
end Go.Proofs.YtoilbeadokallaaGreatDoor
namespace Go.Proofs.YtoilbeadokallaaGreatDoor
open Go.RowKit Cw Cw.Gj
theorem tabs_of {P M:Int} {mod:List Int} (h:CheckP P M mod):∃ G,Tabs G∧G.P=P∧G.M=M∧G.mod=mod:=by
 obtain ⟨hs,x,g1,g2,g3⟩:=(field_check P M mod).2 h
 obtain ⟨o1,o2,o3,o4,o5,o6⟩:=ordS_pos hs.1
 obtain ⟨m,rfl⟩:=Int.eq_ofNat_of_zero_le (show 0≤M by omega)
 have e6:ordS P m=P ^ m:=by rw [o6];simp
 have hbd:=powL_bd (p:=P) (by omega) (m:=m) (by omega) mod (x:=x) (by omega) (by rw [← e6];exact g2)
 have hnd:=powL_nodup P m mod x
 have hq0:0≤ordS P m:=by omega
 refine ⟨⟨P,m,ordS P m,mod,powL P m mod x,(List.range (ordS P m).toNat).map fun v:Nat=>(((powL P m mod x).idxOf (v:Int):Nat):Int)⟩,⟨hs,rfl,⟨x,g1,g2,by simpa using g3,by simp⟩,by simp,fun i hi=>?_⟩,rfl,rfl,rfl⟩
 have hi:i < (powL P m mod x).length:=hi
 show ((List.range (ordS P m).toNat).map fun v:Nat=>(((powL P m mod x).idxOf (v:Int):Nat):Int)).getD ((powL P m mod x).getD i 0).toNat 0=i
 have hz:=hbd ((powL P m mod x).getD i 0) (by simp [List.getD,hi])
 obtain ⟨z,hz0⟩:∃ z,z=(powL P m mod x).getD i 0:=⟨_,rfl⟩
 rw [← hz0] at hz ⊢
 rw [← e6] at hz
 have hzl:z.toNat < (ordS P m).toNat:=by omega
 have hzz:((z.toNat:Nat):Int)=z:=by omega
 simp only [List.getD,List.getElem?_map,List.getElem?_range hzl,Option.map_some,Option.getD_some,hzz]
 have e:z=(powL P m mod x)[i]:=by rw [hz0];simp [List.getD,hi]
 rw [e,hnd.idxOf_getElem i hi]
theorem Mx.roTake' {w:World} {B g n cap:Nat} {A:List (List Int)} {rv:Nat→Value} (h:Mx w B (.slice (some ⟨g,0,none⟩) n cap) A rv) {k:Nat} (hk:k≤A.length):Ro w B (.slice (some ⟨g,0,none⟩) k cap) (A.take k):=by
 have hl:(A.take k).length=k:=by simp;omega
 have hcap:k≤cap∧cap≤maxLen:=by
  rcases h.form with ⟨e,_⟩ | ⟨_,_,e,_,_,h3,h4⟩
  ·cases e
  ·cases e;omega
 refine ⟨some ⟨g,0,none⟩,cap,by rw [hl],by omega,⟨hcap.2,fun e=>by cases e⟩,fun _=>⟨g,0,rfl,(h.has_lt (.inl rfl)).1,(h.has_lt (.inl rfl)).2,fun i hi=>?_⟩⟩
 rw [hl] at hi
 refine ⟨rv i,by rw [Nat.zero_add];exact h.cell (by omega), ?_⟩
 rw [row_take hi]
 exact h.row i (by omega)
set_option maxHeartbeats 1000000 in
theorem rElim_nil (o:Cw.Op) (P0 M0:Int) (vm:Value) (cols:Nat) (v:Value) (w:World) (hv:Rd w v []) :
  Calls Tryz.prog 163 #[.agg #[.int .i64 P0,.int .i64 M0,vm],v,.int .i64 cols] w (RElim o [] cols w):=by
 have hk0:=kept_alloc w (.cells #[.int .i64 P0,.int .i64 M0,vm] 24)
 have hv1:=hv.kept hk0
 have HG:Hid (gj o cols 0 [] []=([],[])):=hid (gj_full o cols 0 (Nat.le_refl _))
 go_enter Tryz.func163,Tryz.ntmps163
 go_wp2_with (fail)
 (with_reducible refine (rCopy_any v [] _ hv1 (by simp) (fun i hi=>absurd hi (Nat.not_lt_zero _))).mono ?_)
 rintro e w2 ⟨v',rv0,rfl,hm2,hk2⟩
 obtain ⟨a,cap,rfl⟩:=hm2.lenOf
 have hmm:=hm2.mono hk0.size
 have hkk:=hk0.tr hk2
 simp only [List.length_nil] at *
 go_wp2_with (fail)
 go_loopw [9,10,11] (fun vp vr vc wr=>vp=.slice none 0 0∧vr=.int .i64 0∧vc=.int .i64 0∧wr=w2) (fun _ _ vi _=>0)
 case atStart=>exact ⟨rfl,rfl,rfl,rfl⟩
 case round =>
  obtain ⟨rfl,rfl,rfl,hwr⟩:=hrel
  by_cases hlt:0 < (cols:Int)
  ·go_wp2_with (fail)
   go_ret2
   refine ⟨_,_,rv0,rfl, ?_, ?_, ?_⟩
   ·rw [HG.out];exact hmm
   ·rw [HG.out];exact own_nil _ _
   ·exact hkk
  ·go_wp2_with (fail)
   go_ret2
   refine ⟨_,_,rv0,rfl, ?_, ?_, ?_⟩
   ·rw [HG.out];exact hmm
   ·rw [HG.out];exact own_nil _ _
   ·exact hkk
def RCan (o:Cw.Op) (A:List (List Int)) (cols:Nat) (w:World) (e:Ending) (w':World):Prop :=
 ∃ v' vp,e=.returned (.tuple #[v',vp])∧Ro w' w.heap.size v' (canL o A cols)∧Own w' w.heap.size vp (ints (pvL o A cols))∧Kept w w'
set_option maxHeartbeats 1000000 in
theorem rCanon_any (G:GFd) (t:Tabs G) (P0 M0:Int) (mod:List Int) (vm:Value) (cols:Nat) (v:Value) (A:List (List Int)) (w:World) (ho:Of G P0 M0 mod) (hvm:Sl w vm mod) (hv:Rd w v A) (hw:WF G.q A cols) (hc2:cols≤256) (hn1:A.length≤256) :
  Calls Tryz.prog 112 #[.agg #[.int .i64 P0,.int .i64 M0,vm],v,.int .i64 cols] w (RCan (opG G) A cols w):=by
 have hk0:=kept_alloc w (.cells #[.int .i64 P0,.int .i64 M0,vm] 24)
 have hs1:(w.alloc (.cells #[.int .i64 P0,.int .i64 M0,vm] 24)).heap.size=w.heap.size + 1:=by simp
 have bf:=boxF_new w P0 M0 vm 24
 have hv1:=hv.kept hk0
 have hvm1:=hvm.kept hk0
 have HL:Hid ((gj (opG G) cols 0 A []).2.length≤(gj (opG G) cols 0 A []).1.length):=hid (gj_all t cols 0 (by omega) (ri_start hw)).1.lt
 have HE:∀ w1,Rd w1 v A→Sl w1 vm mod→Calls Tryz.prog 163 #[.agg #[.int .i64 P0,.int .i64 M0,vm],v,.int .i64 cols] w1 (RElim (opG G) A cols w1):=fun w1 h1 h2=>by
  by_cases hA:A=[]
  ·subst hA
   exact rElim_nil (opG G) P0 M0 vm cols v w1 h1
  ·exact rElim_any G t P0 M0 mod vm cols v A w1 ho h2 h1 hw hc2 hn1 hA
 have HE2:=hid HE
 obtain ⟨w1,hw1⟩:∃ w1,w1=w.alloc (.cells #[.int .i64 P0,.int .i64 M0,vm] 24):=⟨_,rfl⟩
 rw [← hw1] at hk0 bf hs1 hv1 hvm1
 have b0:=bf.h0
 have b1:=bf.h1
 have b2:=bf.h2
 clear HE
 go_enter Tryz.func112,Tryz.ntmps112
 go_wp2_with (fail)
 rw [← hw1]
 clear hw1
 (with_reducible refine (HE2.out w1 hv1 hvm1).mono ?_)
 rintro e w2 ⟨v',vp,rv,rfl,hm2,hp2,hk2⟩
 have HM:=hid hm2
 obtain ⟨B,hB⟩:∃ B,B=(gj (opG G) cols 0 A []).1:=⟨_,rfl⟩
 obtain ⟨P,hP⟩:∃ P,P=(gj (opG G) cols 0 A []).2:=⟨_,rfl⟩
 rw [← hB] at hm2 HL
 rw [← hP] at hp2 HL
 have HB:=hid hB
 have HP:=hid hP
 clear hB hP
 have hps:=hp2
 obtain ⟨pa,pc,rfl,hpl,hpm⟩:=hps.sl.lenOf
 unfold maxLen at hpm
 rw [length_ints] at hpl hps ⊢
 have HPS:=hid (hps.mono hk0.size)
 have hPB:=HL.out
 have hkk:=hk0.tr hk2
 clear hps hp2
 rcases hm2.form with ⟨rfl,hB0⟩ | ⟨g,cap,rfl,_,_,hcap,hcm⟩
 ·have hP0:P.length=0:=by rw [hB0] at hPB;simpa using hPB
  have HR:Hid (Ro w2 w.heap.size (.slice none 0 0) (B.take P.length)):=hid (by rw [hP0,List.take_zero];exact ro_nil _ _)
  rw [hP0] at HPS ⊢
  go_wp2_with (fail)
  go_ret2
  refine ⟨_,_,rfl, ?_, ?_,hkk⟩
  ·rw [canL,← HB.out,← HP.out];exact HR.out
  ·rw [pvL,← HP.out];exact HPS.out
 ·have hrd:=(hm2.mono hk0.size).roTake' hPB
  have HR:=hid hrd
  unfold maxLen at hcm
  have hi1:(P.length:Int)≤(cap:Int):=by omega
  clear hrd hm2 HM
  go_wp2_with (fail)
  go_ret2
  refine ⟨_,_,rfl, ?_, ?_,hkk⟩
  ·rw [canL,← HB.out,← HP.out];exact HR.out
  ·rw [pvL,← HP.out];exact HPS.out
theorem tabs_q {P M:Int} {mod:List Int} {G:GFd} (t:Tabs G) (h:G.P=P∧G.M=M∧G.mod=mod):ordS P M=G.q:=by rw [t.hq,h.1,h.2.1]
theorem matP_wf {G:GFd} {P M:Int} {mod:List Int} {n:Nat} {A:List (List Int)} (h:MatP P M mod n A) (hq:ordS P M=G.q):WF G.q A n :=
 ⟨fun i hi=>by have:=h.len i hi;omega,fun i j hi hj=>by have:=h.bd i hi j (by have:=h.len i hi;omega);rw [hq] at this;exact this⟩
def SpP (P M:Int) (mod:List Int) (cols:Int) (A:List (List Int)):Prop:=MatP P M mod cols A∧∀ G,Tabs G→G.P=P→G.M=M→G.mod=mod→canL (opG G) A cols.toNat=A
theorem spP_of {P M:Int} {mod:List Int} {cols:Int} {A:List (List Int)} {G:GFd} (t:Tabs G) (h1:G.P=P) (h2:G.M=M) (h3:G.mod=mod) (hm:MatP P M mod cols A) (hc:canL (opG G) A cols.toNat=A):SpP P M mod cols A :=
 ⟨hm,fun H tH k1 k2 k3=>by rw [opG_eq tH t (by rw [k1,h1]) (by rw [k2,h2]) (by rw [k3,h3])];exact hc⟩
def SChk (P M:Int) (mod:List Int) (cols:Int) (A:List (List Int)) (w:World) (e:Ending) (w':World):Prop:=∃ r:Int,e=.returned (.int .i64 r)∧(r=0 ↔ SpP P M mod cols A)∧Kept w w'
set_option maxHeartbeats 2000000 in
theorem rSCheck_any (P M:Int) (vm:Value) (mod:List Int) (cols:Int) (v:Value) (A:List (List Int)) (w:World) (hvm:Sl w vm mod) (hv:Rd w v A) :
  Calls Tryz.prog 55 #[.agg #[.int .i64 P,.int .i64 M,vm],.agg #[.int .i64 cols,v]] w (SChk P M mod cols A w):=by
 obtain ⟨a,cap,rfl,hcap,hcm,_⟩:=hv.get
 obtain ⟨am,cm,rfl,_,_⟩:=hvm.lenOf
 obtain ⟨nm,hnm⟩:∃ n,n=mod.length:=⟨_,rfl⟩
 rw [← hnm] at hvm ⊢
 clear hnm
 obtain ⟨w1,hw1⟩:∃ w1,w1=(w.alloc (.cells #[.int .i64 P,.int .i64 M,.slice am nm cm] 24)).alloc (.cells #[.int .i64 cols,.slice a A.length cap] 71):=⟨_,rfl⟩
 have hk1:Kept w w1:=by rw [hw1];exact (kept_alloc _ _).tr (kept_alloc _ _)
 have bf:BoxF w1 w.heap.size P M (.slice am nm cm):=by rw [hw1];exact (boxF_new w _ _ _ _).kept (kept_alloc _ _)
 have bm:BoxM w1 (w.heap.size + 1) cols (.slice a A.length cap):=by
  rw [hw1]
  have:=boxM_new (w.alloc (.cells #[.int .i64 P,.int .i64 M,.slice am nm cm] 24)) cols (.slice a A.length cap) 71
  simpa using this
 have hvm1:=hvm.kept hk1
 have hv1:=hv.kept hk1
 have b0:=bf.h0
 have b1:=bf.h1
 have b2:=bf.h2
 have m0:=bm.h0
 have m1:=bm.h1
 go_enter Tryz.func55,Tryz.ntmps55
 go_wp2_with (fail)
 rw [← hw1]
 clear hw1 hvm hv
 (with_reducible refine (rMCheck_any P M (.slice am nm cm) mod cols _ A w1 hvm1 hv1).mono ?_)
 rintro e w2 ⟨r,rfl,hr,hk2⟩
 have hk12:=hk1.tr hk2
 by_cases hr0:r=0
 case neg =>
  have tr:(r != 0)=true:=by simpa using hr0
  have HR:Hid (¬ SpP P M mod cols A):=hid fun q=>hr0 (hr.2 q.1)
  have HR0:=hid hr0
  clear hr0 hr
  go_wp2_with (fail)
  go_ret
  exact ⟨r,rfl,⟨fun e=>absurd e HR0.out,fun e=>absurd e HR.out⟩,hk12⟩
 subst hr0
 have hmp:=hr.1 rfl
 obtain ⟨G,t,h1,h2,h3⟩:=tabs_of hmp.ck
 have hq:=tabs_q t ⟨h1,h2,h3⟩
 obtain ⟨n,rfl⟩:=Int.eq_ofNat_of_zero_le hmp.lo
 have hwf:=matP_wf hmp hq
 have hn1:=hmp.hi
 have hn2:=hmp.n
 have HMP:=hid hmp
 have bf2:=bf.kept hk2
 have bm2:=bm.kept hk2
 have hvm2:=hvm1.kept hk2
 have hv2:=hv1.kept hk2
 clear b0 b1 b2 m0 m1 hr hk1 hk2 hvm1 hv1 bf bm
 have b0:=bf2.h0
 have b1:=bf2.h1
 have b2:=bf2.h2
 have m0:=bm2.h0
 have m1:=bm2.h1
 have HGF:Hid (Of G P M mod):=hid ⟨h1,h2,h3⟩
 clear h1 h2 h3 hq
 go_wp2_with (fail)
 (with_reducible refine (rCanon_any G t P M mod (.slice am nm cm) n _ A w2 HGF.out hvm2 hv2 hwf (by omega) (by omega)).mono ?_)
 rintro e w3 ⟨v',vp,rfl,hr3,hp3,hk3⟩
 have bm3:=bm2.kept hk3
 have hv3:=hv2.kept hk3
 have hr3d:=hr3.rd
 obtain ⟨ca,cc,rfl,_,_⟩:=hr3.get
 have hps:=hp3.sl
 obtain ⟨pa,pc,rfl,_,_⟩:=hps.lenOf
 have hk13:=hk12.tr hk3
 clear m0 m1 hr3 hp3 hps
 have m1:=bm3.h1
 by_cases hc:canL (opG G) A n=A
 ·have HC:Hid (SpP P M mod n A):=hid (spP_of t HGF.out.1 HGF.out.2.1 HGF.out.2.2 HMP.out (by simpa using hc))
  have HCE:=hid hc
  clear hc
  go_wp2_with (fail)
  refine (sameRows_any _ _ _ _ w3 hr3d hv3 true ⟨fun _=>HCE.out,fun _=>rfl⟩).mono ?_
  rintro e w4 ⟨rfl,n4,rfl⟩
  go_wp2_with (fail)
  go_ret
  exact ⟨0,rfl,⟨fun _=>HC.out,fun _=>rfl⟩,hk13.drewN _⟩
 ·have HC:Hid (¬ SpP P M mod n A):=hid fun q=>hc (by simpa using q.2 G t HGF.out.1 HGF.out.2.1 HGF.out.2.2)
  have HCE:=hid hc
  clear hc
  go_wp2_with (fail)
  refine (sameRows_any _ _ _ _ w3 hr3d hv3 false ⟨(fun h=>by cases h),fun h=>absurd h HCE.out⟩).mono ?_
  rintro e w4 ⟨rfl,n4,rfl⟩
  go_wp2_with (fail)
  go_ret
  exact ⟨5,rfl,⟨(fun e=>by cases e),fun e=>absurd e HC.out⟩,hk13.drewN _⟩
def CodeP (P M:Int) (mod:List Int) (n:Int) (A:List (List Int)):Prop:=SpP P M mod n A∧1≤n∧n≤64
def CChk (P M:Int) (mod:List Int) (n:Int) (A:List (List Int)) (w:World) (e:Ending) (w':World):Prop:=∃ r:Int,e=.returned (.int .i64 r)∧(r=0 ↔ CodeP P M mod n A)∧Kept w w'
set_option maxHeartbeats 2000000 in
theorem rCCheck_any (P M:Int) (ma:Option Addr) (ml mc:Nat) (mod:List Int) (n:Int) (va:Option Addr) (vn vc:Nat) (A:List (List Int)) (w:World) (hvm:Sl w (.slice ma ml mc) mod) (hv:Rd w (.slice va vn vc) A) :
  Calls Tryz.prog 21 #[.agg #[.int .i64 P,.int .i64 M,.slice ma ml mc,.int .i64 n,.slice va vn vc]] w (CChk P M mod n A w):=by
 obtain ⟨w1,hw1⟩:∃ w1,w1=w.alloc (.cells #[.int .i64 P,.int .i64 M,.slice ma ml mc,.int .i64 n,.slice va vn vc] 29):=⟨_,rfl⟩
 have hk1:Kept w w1:=by rw [hw1];exact kept_alloc _ _
 have bc:BoxC w1 w.heap.size P M (.slice ma ml mc) n (.slice va vn vc):=by rw [hw1];exact boxC_new _ _ _ _ _ _ _
 have hvm1:=hvm.kept hk1
 have hv1:=hv.kept hk1
 have b0:=bc.h0
 have b1:=bc.h1
 have b2:=bc.h2
 have b3:=bc.h3
 have b4:=bc.h4
 go_enter Tryz.func21,Tryz.ntmps21
 go_wp2_with (fail)
 rw [← hw1]
 clear hw1 hvm hv
 by_cases hck:CheckP P M mod
 case neg =>
  (with_reducible refine (rCheck_any P M (.slice ma ml mc) mod w1 hvm1 1 (.inr ⟨hck,rfl⟩)).mono ?_)
  rintro e w2 ⟨rfl,hk2⟩
  go_wp2_with (fail)
  go_ret
  exact ⟨1,rfl,⟨(fun e=>by cases e),fun q=>absurd q.1.1.ck hck⟩,hk1.tr hk2⟩
 (with_reducible refine (rCheck_any P M (.slice ma ml mc) mod w1 hvm1 0 (.inl ⟨hck,rfl⟩)).mono ?_)
 rintro e w2 ⟨rfl,hk2⟩
 have bc2:=bc.kept hk2
 have hvm2:=hvm1.kept hk2
 have hv2:=hv1.kept hk2
 have hk12:=hk1.tr hk2
 clear b0 b1 b2 b3 b4 hck
 have b0:=bc2.h0
 have b1:=bc2.h1
 have b2:=bc2.h2
 have b3:=bc2.h3
 have b4:=bc2.h4
 by_cases g1:n < 1
 ·go_wp2_with (fail)
  go_ret
  exact ⟨4,rfl,⟨(fun e=>by cases e),fun q=>by have:=q.2.1;omega⟩,hk12⟩
 by_cases g2:n > 64
 ·go_wp2_with (fail)
  go_ret
  exact ⟨4,rfl,⟨(fun e=>by cases e),fun q=>by have:=q.2.2;omega⟩,hk12⟩
 go_wp2_with (fail)
 (with_reducible refine (rSCheck_any P M (.slice ma ml mc) mod n (.slice va vn vc) A w2 hvm2 hv2).mono ?_)
 rintro e w3 ⟨r,rfl,hr,hk3⟩
 go_wp2_with (fail)
 go_ret
 exact ⟨r,rfl,⟨fun e=>⟨hr.1 e,by omega,by omega⟩,fun q=>hr.2 q.1⟩,hk12.tr hk3⟩
theorem codeP_rf {P M:Int} {mod:List Int} {n:Nat} {A:List (List Int)} {G:GFd} (t:Tabs G) (h1:G.P=P) (h2:G.M=M) (h3:G.mod=mod) (h:CodeP P M mod n A):Rf G.q A n (pvL (opG G) A n):=by
 have:=(can_rf t (matP_wf h.1.1 (tabs_q t ⟨h1,h2,h3⟩))).1
 have e:=h.1.2 G t h1 h2 h3
 rw [show ((n:Int)).toNat=n by omega] at e
 rw [e] at this
 exact this
end Go.Proofs.YtoilbeadokallaaGreatDoor
namespace Go.Proofs.YtoilbeadokallaaGreatDoor
open Go.RowKit Cw Cw.Gj
def Few (P M:Int) (mod:List Int) (n:Int) (A:List (List Int)) (m:Int) (w:World) (e:Ending) (w':World):Prop:=∃ r:Bool,e=.returned (.bool r)∧(r=true→CodeP P M mod n A∧n≤m)∧Kept w w'
set_option maxHeartbeats 2000000 in
theorem few_any (P M:Int) (ma:Option Addr) (ml mc:Nat) (mod:List Int) (n:Int) (va:Option Addr) (vc:Nat) (A:List (List Int)) (m:Int) (w:World) (hvm:Sl w (.slice ma ml mc) mod) (hv:Rd w (.slice va A.length vc) A) :
  Calls Tryz.prog 7 #[.agg #[.int .i64 P,.int .i64 M,.slice ma ml mc,.int .i64 n,.slice va A.length vc],.int .i64 m,.int .i64 512] w (Few P M mod n A m w):=by
 obtain ⟨w1,hw1⟩:∃ w1,w1=w.alloc (.cells #[.int .i64 P,.int .i64 M,.slice ma ml mc,.int .i64 n,.slice va A.length vc] 29):=⟨_,rfl⟩
 have hk1:Kept w w1:=by rw [hw1];exact kept_alloc _ _
 have bc:BoxC w1 w.heap.size P M (.slice ma ml mc) n (.slice va A.length vc):=by rw [hw1];exact boxC_new _ _ _ _ _ _ _
 have hvm1:=hvm.kept hk1
 have hv1:=hv.kept hk1
 have hcm:A.length≤maxLen:=by
  obtain ⟨_,_,_,h1,h2,_⟩:=hv.get
  omega
 unfold maxLen at hcm
 have b0:=bc.h0
 have b1:=bc.h1
 have b2:=bc.h2
 have b3:=bc.h3
 have b4:=bc.h4
 go_enter Tryz.func7,Tryz.ntmps7
 go_wp2_with (fail)
 rw [← hw1]
 clear hw1 hvm hv
 (with_reducible refine (rCCheck_any P M ma ml mc mod n va A.length vc A w1 hvm1 hv1).mono ?_)
 rintro e w2 ⟨r,rfl,hr,hk2⟩
 have bc2:=bc.kept hk2
 have hk12:=hk1.tr hk2
 clear b0 b1 b2 b3 b4
 have b0:=bc2.h0
 have b1:=bc2.h1
 have b2:=bc2.h2
 have b3:=bc2.h3
 have b4:=bc2.h4
 by_cases hr0:r=0
 case neg =>
  have tr:(r != 0)=true:=by simpa using hr0
  clear hr
  go_wp2_with (fail)
  go_ret
  exact ⟨false,rfl,fun e=>by (cases e),hk12⟩
 have tr:(r != 0)=false:=by simpa using hr0
 have HC:=hid (hr.1 hr0)
 by_cases hnm:n > m
 ·clear hr hr0
  go_wp2_with (fail)
  go_ret
  exact ⟨false,rfl,fun e=>by (cases e),hk12⟩
 have HCM:Hid (CodeP P M mod n A∧n≤m):=hid ⟨HC.out,by omega⟩
 have ho:=ordS_pos HC.out.1.1.ck.1.1
 obtain ⟨q,hq⟩:∃ q,q=ordS P M:=⟨_,rfl⟩
 have hqb:2≤q∧q≤256:=by
  obtain ⟨G,t,h1,h2,h3⟩:=tabs_of HC.out.1.1.ck
  have e:=tabs_q t ⟨h1,h2,h3⟩
  have:=t.qb
  rw [hq,e]
  omega
 have HQ:Hid (ordS P M=q):=hid hq.symm
 have hA256:=HC.out.1.1.n
 have hn1:=HC.out.2
 clear hr hr0 hq ho
 go_wp2_with (go_at_call 22;(with_reducible refine (rOrder_any P M (.slice ma ml mc) _).mono ?_);rintro e w3 ⟨rfl,k3⟩;rw [HQ.out];have bc3:=bc2.kept k3;have d0:=bc3.h0;have d1:=bc3.h1;have d2:=bc3.h2;have d3:=bc3.h3;have d4:=bc3.h4)
 have hk13:=hk12.tr k3
 go_loop [8,25] (fun vs vi=>∃ (k:Nat) (s:Int),k≤A.length∧vi=.int .i64 k∧vs=.int .i64 s∧0≤s∧s≤512) (fun _ vi=>A.length - (intOf vi).toNat)
 case atStart=>exact ⟨0,1,by omega,rfl,rfl,by omega,by omega⟩
 case round =>
  obtain ⟨k,s,hk,rfl,rfl,s1,s2⟩:=hrel
  have c1:s * q≤512 * 256:=Int.le_trans (Int.mul_le_mul_of_nonneg_right s2 (by omega)) (Int.mul_le_mul_of_nonneg_left (by omega) (by omega))
  have c2:0≤s * q:=Int.mul_nonneg (by omega) (by omega)
  by_cases hlt:k < A.length
  ·have hlt':(k:Int) < (A.length:Int):=by omega
   by_cases hbig:512 < s * q
   ·go_wp2_with (fail)
    go_ret
    exact ⟨false,rfl,fun e=>by (cases e),hk13⟩
   ·go_wp2_with (fail)
    go_round
    case rel=>exact ⟨k + 1,s * q,by omega,by go_num,rfl,by omega,by omega⟩
    case measure=>simp [intOf];omega
  ·have hlt':¬ (k:Int) < (A.length:Int):=by omega
   clear c1 c2
   go_wp2_with (fail)
   obtain ⟨d,hd⟩:∃ d:Int,d=n - A.length:=⟨_,rfl⟩
   try rw [← hd]
   go_loop [9,40] (fun vs vi=>∃ (j:Nat) (s:Int),((j:Int)≤n - A.length ∨ j=0)∧vi=.int .i64 j∧vs=.int .i64 s∧0≤s∧s≤512) (fun _ vi=>((n - A.length) - intOf vi).toNat)
   case atStart=>exact ⟨0,1,.inr rfl,rfl,rfl,by omega,by omega⟩
   case round =>
    obtain ⟨j,s,hj,rfl,rfl,s1,s2⟩:=hrel
    have c1:s * q≤512 * 256:=Int.le_trans (Int.mul_le_mul_of_nonneg_right s2 (by omega)) (Int.mul_le_mul_of_nonneg_left (by omega) (by omega))
    have c2:0≤s * q:=Int.mul_nonneg (by omega) (by omega)
    by_cases hjl:(j:Int) < n - A.length
    ·by_cases hbig:512 < s * q
     ·go_wp2_with (fail)
      go_ret
      exact ⟨false,rfl,fun e=>by (cases e),hk13⟩
     ·go_wp2_with (fail)
      go_round
      case rel=>exact ⟨j + 1,s * q,by omega,by go_num,rfl,by omega,by omega⟩
      case measure=>simp [intOf];omega
    ·go_wp2_with (fail)
     go_ret
     exact ⟨true,rfl,fun _=>HCM.out,hk13⟩
end Go.Proofs.YtoilbeadokallaaGreatDoor
namespace Go.Proofs.YtoilbeadokallaaGreatDoor
open Go.RowKit Cw Cw.Gj
set_option maxHeartbeats 800000 in
theorem wts1_ok (x r:Int) (pr:Nat) (w:World) (hr:w.cell? ⟨pr,0,none⟩=some (.int .i64 r)) (d:Bool) (hd:d=true ↔ r≤x) :
  Calls Tryz.prog 36 #[.int .i64 x,.pointer (some ⟨pr,0,none⟩)] w fun e w'=>e=.returned (.bool d)∧w=w':=by
 obtain rfl:d=decide (x ≥ r):=by
  cases d
  ·simp at hd;simp;omega
  ·simp at hd;simp;omega
 go_enter Tryz.func36,Tryz.ntmps36
 go_wp2_with (fail)
 go_ret
 exact ⟨rfl,rfl⟩
set_option maxHeartbeats 800000 in
theorem ifw_any (v:Value) (l:List Int) (r:Int) (pr:Nat) (w:World) (hv:Sl w v l) (hr:w.cell? ⟨pr,0,none⟩=some (.int .i64 r)) (k:Nat) (hk:k < l.length) (h1:r≤l.getD k 0) (h2:∀ j,j < k→l.getD j 0 < r) :
  Calls Tryz.prog 35 #[v,.func (.func 36) #[] #[.pointer (some ⟨pr,0,none⟩)]] w fun e w'=>e=.returned (.int .i64 k)∧w=w':=by
 obtain ⟨a,cap,rfl,hcap,⟨hcm,_⟩,hc⟩:=hv
 unfold maxLen at hcm
 have H1:=hid h1
 have H2:=hid h2
 clear h1 h2
 go_enter Tryz.func35,Tryz.ntmps35
 go_wp2_with (fail)
 go_loop [8] (fun vi=>∃ j:Nat,j≤k∧vi=.int .i64 j) (fun vi=>l.length - (intOf vi).toNat)
 case atStart=>exact ⟨0,by omega,rfl⟩
 case round =>
  obtain ⟨j,hj,rfl⟩:=hrel
  have hlt:j < l.length:=by omega
  have hlt':(j:Int) < (l.length:Int):=by omega
  obtain ⟨bl,off,rfl,hb,hcell⟩:=hc (by intro e;rw [e] at hlt;simp at hlt)
  have hck:=hcell j hlt
  obtain ⟨z,hz⟩:∃ z,z=l.getD j 0:=⟨_,rfl⟩
  rw [← hz] at hck
  have HZ:=hid hz
  clear hcell hz hc
  by_cases e:j=k
  ·have hd:Hid (r≤z):=hid (by rw [HZ.out,e];exact H1.out)
   have HJ:=hid e
   clear e
   go_wp2_with (fail)
   refine (wts1_ok z r pr w hr true ⟨fun _=>hd.out,fun _=>rfl⟩).mono ?_
   rintro e w' ⟨rfl,rfl⟩
   go_wp2_with (fail)
   go_ret
   exact ⟨ret_int (by rw [HJ.out]),rfl⟩
  ·have hd:Hid (z < r):=hid (by have:=H2.out j (by omega);rw [← HZ.out] at this;omega)
   have HJ:=hid e
   clear e
   go_wp2_with (fail)
   refine (wts1_ok z r pr w hr false ⟨(fun h=>by cases h),fun h=>absurd hd.out (by omega)⟩).mono ?_
   rintro e w' ⟨rfl,rfl⟩
   go_wp2_with (fail)
   go_round
   case rel=>exact ⟨j + 1,by have:=HJ.out;omega,by go_num⟩
   case measure=>simp [intOf];omega
set_option maxHeartbeats 800000 in
theorem wo1_ok (v:Value) (l:List Int) (x:Nat) (px:Nat) (w:World) (hv:Sl w v l) (hx:w.cell? ⟨px,0,none⟩=some (.int .i64 x)) (hxl:x < l.length) (d:Bool) (hd:d=true ↔ l.getD x 0 ≠ 0) :
  Calls Tryz.prog 187 #[v,.pointer (some ⟨px,0,none⟩)] w fun e w'=>e=.returned (.bool d)∧w=w':=by
 obtain ⟨a,cap,rfl,hcap,⟨hcm,_⟩,hc⟩:=hv
 unfold maxLen at hcm
 obtain ⟨bl,off,rfl,hb,hcell⟩:=hc (by intro e;rw [e] at hxl;simp at hxl)
 have hck:=hcell x hxl
 obtain ⟨z,hz⟩:∃ z,z=l.getD x 0:=⟨_,rfl⟩
 rw [← hz] at hck hd
 have hlt':(x:Int) < (l.length:Int):=by omega
 clear hz hcell hc
 obtain rfl:d=(z != 0):=by
  cases d
  ·simp at hd;simp [hd]
  ·simp at hd;simp [hd]
 clear hd
 go_enter Tryz.func187,Tryz.ntmps187
 go_wp2_with (fail)
 go_ret
 exact ⟨rfl,rfl⟩
set_option maxHeartbeats 800000 in
theorem ifr_any (v:Value) (A:List (List Int)) (cols x:Nat) (px:Nat) (w:World) (hv:Rd w v A) (hl:∀ i,i < A.length→(Gj.row A i).length=cols) (hx:w.cell? ⟨px,0,none⟩=some (.int .i64 x)) (hxc:x < cols) (r:Int) (hr:r=if fnd A x 0 < A.length then (fnd A x 0:Int) else -1) :
  Calls Tryz.prog 59 #[v,.func (.func 187) #[] #[.pointer (some ⟨px,0,none⟩)]] w fun e w'=>e=.returned (.int .i64 r)∧w=w':=by
 obtain ⟨a,cap,rfl,hcap,hcm,hb0⟩:=hv.get
 unfold maxLen at hcm
 have HL:=hid hl
 have HR:=hid hr
 clear hl hr
 go_enter Tryz.func59,Tryz.ntmps59
 go_wp2_with (fail)
 go_loop [8] (fun vi=>∃ j:Nat,j≤A.length∧vi=.int .i64 j∧Hid (∀ i,i < j→en A i x=0)) (fun vi=>A.length - (intOf vi).toNat)
 case atStart=>exact ⟨0,by omega,rfl,hid fun i hi=>by omega⟩
 case round =>
  obtain ⟨j,hj,rfl,hlow⟩:=hrel
  by_cases hlt:j < A.length
  ·have hlt':(j:Int) < (A.length:Int):=by omega
   obtain ⟨bb,off,rfl,hbb⟩:=hb0 (by intro e;rw [e] at hlt;simp at hlt)
   obtain ⟨u,u1,u2⟩:=hv.cellAt hlt
   have hlj:=HL.out j hlt
   by_cases e:en A j x=0
   ·have hd:Hid ((Gj.row A j).getD x 0=0):=hid e
    have HE:=hid e
    clear e
    go_wp2_with (fail)
    refine (wo1_ok u (Gj.row A j) x px w u2 hx (by omega) false ⟨(fun h=>by cases h),fun h=>absurd hd.out h⟩).mono ?_
    rintro e w' ⟨rfl,rfl⟩
    go_wp2_with (fail)
    go_round
    case rel=>exact ⟨j + 1,by omega,by go_num,hid fun i hi=>by
     by_cases e:i=j
     ·rw [e];exact HE.out
     ·exact hlow.out i (by omega)⟩
    case measure=>simp [intOf];omega
   ·have hd:Hid ((Gj.row A j).getD x 0 ≠ 0):=hid e
    have hf:=fnd_eq (A:=A) (c:=x) (r:=0) (k:=j) (by omega) (by omega) (fun i _ h=>hlow.out i h) (fun _=>e) (by omega)
    have HF:Hid ((j:Int)=r):=hid (by rw [HR.out,if_pos (hf.1.2 hlt),hf.2 hlt])
    clear e hf
    go_wp2_with (fail)
    refine (wo1_ok u (Gj.row A j) x px w u2 hx (by omega) true ⟨fun _=>hd.out,fun _=>rfl⟩).mono ?_
    rintro e w' ⟨rfl,rfl⟩
    go_wp2_with (fail)
    go_ret
    exact ⟨ret_int HF.out,rfl⟩
  ·have hlt':¬ (j:Int) < (A.length:Int):=by omega
   have hf:=fnd_eq (A:=A) (c:=x) (r:=0) (k:=j) (by omega) (by omega) (fun i _ h=>hlow.out i h) (fun h=>absurd h hlt) (by omega)
   have HF:Hid ((-1:Int)=r):=hid (by rw [HR.out,if_neg (fun h=>hlt (hf.1.1 h))])
   clear hf
   go_wp2_with (fail)
   go_ret
   exact ⟨ret_int HF.out,rfl⟩
end Go.Proofs.YtoilbeadokallaaGreatDoor
