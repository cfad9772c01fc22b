/- Lemmas on the way to the row. Conditions: each lemma's own, stated with it. -/
import Derived.Test.YtoilbeadokallaaGreatDoorK15
import Derived.Test.YtoilbeadokallaaGreatDoorK22
import Derived.Lib.Builder
import Derived.Lib.AppendStr
import Derived.Lib.Walk
import Derived.Deep.RegionHeld3
import Derived.StillTailTactics
set_option maxHeartbeats 8000000
namespace Go.Proofs.YtoilbeadokallaaGreatDoor
section
open Go.RowKit Cw Cw.Gj
def Shp (E:List Value):Prop:=∃ (k:Int) (s:ByteArray) (n:Int) (l1:Option Addr) (l2 l3:Nat) (m1:Option Addr) (m2 m3:Nat),E=[.int .i64 k,.string s,.int .i64 n,.slice l1 l2 l3,.slice m1 m2 m3]
theorem Um (n:Int):Shp (Di n):=⟨_,_,_,_,_,_,_,_,_,rfl⟩
theorem Ye (s:ByteArray) (a:Option Addr) (n c:Nat):Shp (zl s (.slice a n c)):=⟨_,_,_,_,_,_,_,_,_,rfl⟩
theorem Un {Gd:Nat->List Value->World->Prop} {s:ByteArray} {K:Nat} {E:List Value} {w:World} (h:ig Gd s K E w):Shp E:=by
 obtain⟨b,cap,fs,rfl,_⟩:=h;exact Ye _ _ _ _
theorem ig.kept {Gd:Nat->List Value->World->Prop} {s:ByteArray} {K:Nat} {E:List Value} {w w':World} (h:ig Gd s K E w) (hG:∀ j E,Gd j E w->Gd j E w') (k:ay w w'):ig Gd s K E w':=by
 obtain⟨b,cap,fs,h1,h2,h3,h4⟩:=h;exact⟨b,cap,fs,h1,h2,h3.kept k,fun i E hE=>⟨(h4 i E hE).1,hG i E (h4 i E hE).2⟩⟩
theorem kE {j:Nat} {E:List Value} {w w':World} (h:G2 j E w) (k:ay w w'):G2 j E w':=by
 unfold G2 at h ⊢;by_cases e:j=0
 ·rw[zu e] at h ⊢;exact h.kept (fun _ _ q=>q) k
 ·rw[zx e] at h ⊢;exact h
theorem NR {j:Nat} {E:List Value} {w:World} (h:G1 j E w):Shp E:=by
 have:E=Di 2:=h;rw[this];exact Um 2
theorem NS {j:Nat} {E:List Value} {w:World} (h:G2 j E w):Shp E:=by
 unfold G2 at h;by_cases e:j=0
 ·rw[zu e] at h;exact Un h
 ·rw[zx e] at h;rw[h];exact Um 3
theorem flat_get:∀ {fs:List (List Value)} {i:Nat} {E:List Value},fs[i]?=some E->(∀ F∈fs,F.length=5)->∀ j,j<5->fs.flatten[i*5+j]?=E[j]?
 | [],i,E,h,_,_,_=>by simp at h
 |F::fs,0,E,h,hl,j,hj=>by
  have:F=E:=by simpa using h
  subst this;have hF:=hl F (by simp);rw[List.flatten_cons,sF,xQ,yU (by omega)]
 |F::fs,i+1,E,h,hl,j,hj=>by
  have h':fs[i]?=some E:=by simpa using h
  have hF:=hl F (by simp);rw[List.flatten_cons,vW (by omega),show(i+1)*5+j-F.length=i*5+j by omega];exact flat_get h' (fun G hG=>hl G (yJ _ hG)) j hj
theorem ig.args {Gd:Nat->List Value->World->Prop} {s:ByteArray} {K:Nat} {E:List Value} {w:World} (h:ig Gd s K E w) (hs:∀ j E,Gd j E w->Shp E):∃ b cap,E=zl s (.slice (some ⟨b,0,none⟩) K cap)/\b<w.heap.size/\
  ∀ j,j<K->∃ (k:Int) (s:ByteArray) (n:Int) (l1:Option Addr) (l2 l3:Nat) (m1:Option Addr) (m2 m3:Nat),Gd j [.int .i64 k,.string s,.int .i64 n,.slice l1 l2 l3,.slice m1 m2 m3] w/\
   w.cell? ⟨b,j*5,none⟩=some (.int .i64 k)/\w.cell? ⟨b,j*5+1,none⟩=some (.string s)/\w.cell? ⟨b,j*5+2,none⟩=some (.int .i64 n)/\w.cell? ⟨b,j*5+3,none⟩=some (.slice l1 l2 l3)/\w.cell? ⟨b,j*5+4,none⟩=some (.slice m1 m2 m3):=by
 obtain⟨b,cap,fs,rfl,h2,h3,h4⟩:=h;refine⟨b,cap,rfl,h3.1,fun j hj=>?_⟩;obtain⟨F,hF⟩:∃ F,fs[j]?=some F:=⟨_,zq (by omega)⟩
 obtain⟨q1,q2⟩:=h4 j F hF;obtain⟨k,s,n,l1,l2,l3,m1,m2,m3,rfl⟩:=hs j F q2;have hl:∀ F∈fs,F.length=5:=fun F hm=>by
  obtain⟨i,hi⟩:=wS hm;exact(h4 i F hi).1
 have hc:∀ i u,i<5->[Value.int .i64 k,.string s,.int .i64 n,.slice l1 l2 l3,.slice m1 m2 m3][i]?=some u->w.cell? ⟨b,j*5+i,none⟩=some u:=fun i u hi hu=>h3.2 _ u ((flat_get hF hl i hi).trans hu);exact⟨k,s,n,l1,l2,l3,m1,m2,m3,q2,hc 0 _ (by omega) rfl,hc 1 _ (by omega) rfl,hc 2 _ (by omega) rfl,hc 3 _ (by omega) rfl,hc 4 _ (by omega) rfl⟩
theorem Lc (n:Int) (w:World) (h0:0<=n) (h1:n<=9999999):Calls Tryz.prog 295 #[.int .i64 n] w fun e w'=>e=.returned (.bool true)/\w=w':=by
 go_enter Tryz.func295,Tryz.ntmps295;go_wp2_with(fail)
 go_ret;exact⟨rfl,rfl⟩
structure afr (s:ByteArray):Prop where
 ne:s.size≠0
 sz:s.size<=16
 l0:∀ h:0<s.size,isLet ((s[0]'h).toNat:Int)=true
 all:∀ k (hk:k<s.size),qZ ((s[k]'hk).toNat:Int)=true
theorem Uo (s:ByteArray) (w:World) (h:afr s):Calls Tryz.prog 296 #[.string s] w fun e w'=>e=.returned (.bool true)/\w=w':=by
 obtain⟨h1,h2,h3,h4⟩:=h;have hs0:0<s.size:=by omega
 have H3:=hid (h3 hs0);have HW:=hid (fun W=>EJ s 0 s.size W (xZ _) (zy _) (by omega) (fun k hk _ _=>h4 k hk) (fun h=>absurd h (by omega)));have hne:s.toList.isEmpty=false:=by
  rw[ByteArray.toList_eq];have:s.data.toList.length=s.size:=rfl;cases hh:s.data.toList with
  |nil=>rw[hh] at this;simp at this;omega
  |cons a l=>rfl
 have h2':(s.size:Int)<=16:=by omega
 clear h3 h4;go_enter Tryz.func296,Tryz.ntmps296;go_wp2_with(first|(go_at_call 75;refine(eG _ _).mono ?_;rintro e w' ⟨rfl,rfl⟩;rw[H3.out])|(go_at_call 76;refine(HW.out _).mono ?_;rintro e w' ⟨rfl,rfl⟩))
 go_ret;exact⟨by simp,rfl⟩
end
section
set_option maxRecDepth 100000
open Go.RowKit Cw Cw.Gj
theorem Yf (n:Int) (w:World) (h0:0<=n) (h1:n<=9999999):Calls Tryz.prog 191 #[.agg #[.int .i64 1,.string ⟨#[]⟩,.int .i64 n,.slice none 0 0,.slice none 0 0]] w fun e w'=>e=.returned (.bool true)/\ay w w':=by
 have hk:=ah w (.cells #[.int .i64 1,.string ⟨#[]⟩,.int .i64 n,.slice none 0 0,.slice none 0 0] 50);go_enter Tryz.func191,Tryz.ntmps191;go_wp2_with(fail)
 go_loop [8] (fun vi=>vi=.int .i64 0) (fun _=>0)
 case atStart=>rfl
 case round=>
  obtain rfl:=hrel;go_wp2_with(go_at_call 295;refine(Lc _ _ (by omega) (by omega)).mono ?_;rintro e w' ⟨rfl,rfl⟩)
  go_ret;exact⟨by simp,hk⟩
theorem Ur (s:ByteArray) (a:Option Addr) (m c:Nat) (w:World) (h:afr s):Calls Tryz.prog 191 #[.agg #[.int .i64 3,.string s,.int .i64 0,.slice none 0 0,.slice a m c]] w fun e w'=>e=.returned (.bool true)/\ay w w':=by
 have hk:=ah w (.cells #[.int .i64 3,.string s,.int .i64 0,.slice none 0 0,.slice a m c] 50);have H:=hid h;clear h;go_enter Tryz.func191,Tryz.ntmps191;go_wp2_with(fail)
 go_loop [8] (fun vi=>vi=.int .i64 0) (fun _=>0)
 case atStart=>rfl
 case round=>
  obtain rfl:=hrel;go_wp2_with(go_at_call 296;refine(Uo _ _ H.out).mono ?_;rintro e w' ⟨rfl,rfl⟩)
  go_ret;exact⟨by simp,hk⟩
theorem NT (n:Int) (w:World) (h0:0<=n) (h1:n<=9999999):Calls Tryz.prog 135 #[.agg #[.int .i64 1,.string ⟨#[]⟩,.int .i64 n,.slice none 0 0,.slice none 0 0]] w fun e w'=>e=.returned (.bool true)/\ay w w':=by
 obtain⟨W1,hW1⟩:∃ x,x=w.alloc (.cells #[.int .i64 1,.string ⟨#[]⟩,.int .i64 n,.slice none 0 0,.slice none 0 0] 50):=⟨_,rfl⟩
 have hk1:ay w W1:=by rw[hW1];exact ah _ _
 have hb1:Bk W1 w.heap.size [.int .i64 1,.string ⟨#[]⟩,.int .i64 n,.slice none 0 0,.slice none 0 0]:=by rw[hW1];exact aG w _ _ _ rfl
 have x0:=hb1.2 0 _ rfl;have x1:=hb1.2 1 _ rfl;have x2:=hb1.2 2 _ rfl;have x3:=hb1.2 3 _ rfl;have x4:=hb1.2 4 _ rfl;go_enter Tryz.func135,Tryz.ntmps135;go_wp2_with(fail)
 rw[<-hW1];clear hW1;refine(Yf n W1 h0 h1).mono ?_;rintro e w2 ⟨rfl,hk2⟩;have y4:=(hb1.kept hk2).2 4 _ rfl;have hk12:=hk1.tr hk2;clear x0 x1 x2 x3 x4;go_wp2_with(fail)
 go_loop [11] (fun vi=>vi=.int .i64 0) (fun _=>0)
 case atStart=>rfl
 case round=>
  obtain rfl:=hrel;go_wp2_with(fail)
  go_ret;exact⟨rfl,hk12⟩
theorem Jg {Gd:Nat->List Value->World->Prop} {s:ByteArray} {K:Nat} {E:List Value} (w:World) (h:ig Gd s K E w) (hs:∀ j E w,Gd j E w->Shp E) (hk:∀ j E w w',Gd j E w->ay w w'->Gd j E w') (hn:afr s) (hK:K<=100)
  (hc:∀ j E w,Gd j E w->Calls Tryz.prog 135 #[.agg E.toArray] w fun e w'=>e=.returned (.bool true)/\ay w w'):
  Calls Tryz.prog 135 #[.agg E.toArray] w fun e w'=>e=.returned (.bool true)/\ay w w':=by
 obtain⟨b,cap,rfl,hbl,hargs⟩:=h.args (hs · · w);show Calls Tryz.prog 135 #[.agg #[.int .i64 3,.string s,.int .i64 0,.slice none 0 0,.slice (some ⟨b,0,none⟩) K cap]] w _;obtain⟨W1,hW1⟩:∃ x,x=w.alloc (.cells #[.int .i64 3,.string s,.int .i64 0,.slice none 0 0,.slice (some ⟨b,0,none⟩) K cap] 50):=⟨_,rfl⟩
 have hk1:ay w W1:=by rw[hW1];exact ah _ _
 have hb1:Bk W1 w.heap.size [.int .i64 3,.string s,.int .i64 0,.slice none 0 0,.slice (some ⟨b,0,none⟩) K cap]:=by rw[hW1];exact aG w _ _ _ rfl
 have x0:=hb1.2 0 _ rfl;have x1:=hb1.2 1 _ rfl;have x2:=hb1.2 2 _ rfl;have x3:=hb1.2 3 _ rfl;have x4:=hb1.2 4 _ rfl;have HA:=hid hargs;have HK:=hid hk;have HC:=hid hc;have HN:=hid hn;clear hargs hk hc hn h hs;go_enter Tryz.func135,Tryz.ntmps135;go_wp2_with(fail)
 rw[<-hW1];clear hW1;refine(Ur s _ _ _ W1 HN.out).mono ?_;rintro e w2 ⟨rfl,hk2⟩;have y4:=(hb1.kept hk2).2 4 _ rfl;have hk12:=hk1.tr hk2;clear x0 x1 x2 x3 x4;go_wp2_with(fail)
 go_loopw [11] (fun vi wr=>∃ j:Nat,j<=K/\vi=.int .i64 j/\ay w wr) (fun vi _=>K- (intOf vi).toNat)
 case atStart=>exact⟨0,xZ _,rfl,hk12⟩
 case round=>
  obtain⟨j,hj,rfl,hkr⟩:=hrel;by_cases hlt:j<K
  ·obtain⟨ak,an,av,l1,l2,l3,m1,m2,m3,hG,c0,c1,c2,c3,c4⟩:=HA.out j hlt;have hG':=hid (HK.out _ _ _ _ hG hkr);have d0:=(hkr.cell' hbl).trans c0;have d1:=(hkr.cell' hbl).trans c1;have d2:=(hkr.cell' hbl).trans c2;have d3:=(hkr.cell' hbl).trans c3;have d4:=(hkr.cell' hbl).trans c4;have hbr:=hkr.lt hbl;have hnb:¬ b=wr.heap.size:=by omega
   have ka:=ah wr (.cells #[.int .i64 ak,.string an,.int .i64 av,.slice l1 l2 l3,.slice m1 m2 m3] 50);have HCC:Hid (∀ W,Gd j [.int .i64 ak,.string an,.int .i64 av,.slice l1 l2 l3,.slice m1 m2 m3] W->Calls Tryz.prog 135 #[.agg #[.int .i64 ak,.string an,.int .i64 av,.slice l1 l2 l3,.slice m1 m2 m3]] W fun e w'=>e=.returned (.bool true)/\ay W w'):=hid (fun W=>HC.out j _ W);clear c0 c1 c2 c3 c4 hG;go_wp2_with(go_at_call 135;refine(HCC.out _ (HK.out _ _ _ _ hG'.out ka)).mono ?_;rintro e w5 ⟨rfl,hk5⟩)
   go_roundw;case rel=>exact⟨j+1,hlt,by go_num,(hkr.tr ka).tr hk5⟩
   case measure=>simp[intOf];omega
  ·go_wp2_with(fail)
   go_ret;exact⟨rfl,hkr⟩
def Dp (D:Int) (w:World) (e:Ending) (w':World):Prop:=∃ d:Int,0<=d/\d<=D/\e=.returned (.tuple #[.int .i64 d,.bool true])/\ay w w'
theorem Dq (n:Int) (w:World):Calls Tryz.prog 136 #[.agg #[.int .i64 1,.string ⟨#[]⟩,.int .i64 n,.slice none 0 0,.slice none 0 0]] w (Dp 1 w):=by
 have hk:=ah w (.cells #[.int .i64 1,.string ⟨#[]⟩,.int .i64 n,.slice none 0 0,.slice none 0 0] 50);go_enter Tryz.func136,Tryz.ntmps136;go_wp2_with(fail)
 go_loop [2,3,15] (fun v2 v3 vi=>v2=.int .i64 0/\v3=.bool true/\vi=.int .i64 0) (fun _ _ _=>0)
 case atStart=>exact⟨rfl,by simp,rfl⟩
 case round=>
  obtain⟨rfl,rfl,rfl⟩:=hrel;go_wp2_with(fail)
  go_ret2;exact⟨_,by omega,by omega,rfl,hk⟩
theorem AQ {Gd:Nat->List Value->World->Prop} {s:ByteArray} {K:Nat} {E:List Value} {D:Int} (w:World) (h:ig Gd s K E w) (hs:∀ j E w,Gd j E w->Shp E) (hk:∀ j E w w',Gd j E w->ay w w'->Gd j E w') (hK:K<=100) (hD:0<=D/\D<=100)
  (hc:∀ j E w,Gd j E w->Calls Tryz.prog 136 #[.agg E.toArray] w (Dp D w)):
  Calls Tryz.prog 136 #[.agg E.toArray] w (Dp (D+1) w):=by
 obtain⟨b,cap,rfl,hbl,hargs⟩:=h.args (hs · · w);show Calls Tryz.prog 136 #[.agg #[.int .i64 3,.string s,.int .i64 0,.slice none 0 0,.slice (some ⟨b,0,none⟩) K cap]] w _;obtain⟨W1,hW1⟩:∃ x,x=w.alloc (.cells #[.int .i64 3,.string s,.int .i64 0,.slice none 0 0,.slice (some ⟨b,0,none⟩) K cap] 50):=⟨_,rfl⟩
 have hk1:ay w W1:=by rw[hW1];exact ah _ _
 have hb1:Bk W1 w.heap.size [.int .i64 3,.string s,.int .i64 0,.slice none 0 0,.slice (some ⟨b,0,none⟩) K cap]:=by rw[hW1];exact aG w _ _ _ rfl
 have x3:=hb1.2 3 _ rfl;have x4:=hb1.2 4 _ rfl;have HA:=hid hargs;have HK:=hid hk;have HC:=hid hc;clear hargs hk hc h hs;go_enter Tryz.func136,Tryz.ntmps136;go_wp2_with(fail)
 rw[<-hW1];clear hW1
 go_loopw [2,3,15] (fun v2 v3 vi wr=>∃ (j:Nat) (dd:Int),j<=K/\vi=.int .i64 j/\v2=.int .i64 dd/\v3=.bool true/\0<=dd/\dd<=D/\ay w wr) (fun _ _ vi _=>K- (intOf vi).toNat)
 case atStart=>exact⟨0,0,xZ _,rfl,rfl,by simp,rY _,hD.1,hk1⟩
 case round=>
  obtain⟨j,dd,hj,rfl,rfl,rfl,hd0,hd1,hkr⟩:=hrel;by_cases hlt:j<K
  ·obtain⟨ak,an,av,l1,l2,l3,m1,m2,m3,hG,c0,c1,c2,c3,c4⟩:=HA.out j hlt;have hG':=hid (HK.out _ _ _ _ hG hkr);have d0:=(hkr.cell' hbl).trans c0;have d1:=(hkr.cell' hbl).trans c1;have d2:=(hkr.cell' hbl).trans c2;have d3:=(hkr.cell' hbl).trans c3;have d4:=(hkr.cell' hbl).trans c4;have hbr:=hkr.lt hbl;have hnb:¬ b=wr.heap.size:=by omega
   have ka:=ah wr (.cells #[.int .i64 ak,.string an,.int .i64 av,.slice l1 l2 l3,.slice m1 m2 m3] 50);have HCC:Hid (∀ W,Gd j [.int .i64 ak,.string an,.int .i64 av,.slice l1 l2 l3,.slice m1 m2 m3] W->Calls Tryz.prog 136 #[.agg #[.int .i64 ak,.string an,.int .i64 av,.slice l1 l2 l3,.slice m1 m2 m3]] W (Dp D W)):=hid (fun W=>HC.out j _ W);clear c0 c1 c2 c3 c4 hG;go_wp2_with(go_at_call 136;refine(HCC.out _ (HK.out _ _ _ _ hG'.out ka)).mono ?_;rintro e w5 ⟨d5,g0,g1,rfl,hk5⟩)
   all_goals
    go_roundw;case rel=>exact⟨j+1,_,hlt,by go_num,rfl,rfl,by omega,by omega,(hkr.tr ka).tr hk5⟩
    case measure=>simp[intOf];omega
  ·go_wp2_with(fail)
   go_ret2;exact⟨_,by omega,by omega,rfl,hkr⟩
def Dt (N:Int) (w:World) (e:Ending) (w':World):Prop:=∃ d:Int,0<=d/\d<=N/\e=.returned (.int .i64 d)/\ay w w'
theorem NV (n:Int) (w:World):Calls Tryz.prog 137 #[.agg #[.int .i64 1,.string ⟨#[]⟩,.int .i64 n,.slice none 0 0,.slice none 0 0]] w (Dt 1 w):=by
 have hk:=ah w (.cells #[.int .i64 1,.string ⟨#[]⟩,.int .i64 n,.slice none 0 0,.slice none 0 0] 50);go_enter Tryz.func137,Tryz.ntmps137;go_wp2_with(fail)
 go_loop [3,9] (fun v3 vi=>v3=.int .i64 1/\vi=.int .i64 0) (fun _ _=>0)
 case atStart=>exact⟨rfl,rfl⟩
 case round=>
  obtain⟨rfl,rfl⟩:=hrel;go_wp2_with(fail)
  go_ret;exact⟨_,by omega,by omega,rfl,hk⟩
theorem Jh {Gd:Nat->List Value->World->Prop} {s:ByteArray} {K:Nat} {E:List Value} {N:Int} (w:World) (h:ig Gd s K E w) (hs:∀ j E w,Gd j E w->Shp E) (hk:∀ j E w w',Gd j E w->ay w w'->Gd j E w') (hK:K<=2) (hD:0<=N/\N<=100)
  (hc:∀ j E w,Gd j E w->Calls Tryz.prog 137 #[.agg E.toArray] w (Dt N w)):
  Calls Tryz.prog 137 #[.agg E.toArray] w (Dt (2*N+1) w):=by
 obtain⟨b,cap,rfl,hbl,hargs⟩:=h.args (hs · · w);show Calls Tryz.prog 137 #[.agg #[.int .i64 3,.string s,.int .i64 0,.slice none 0 0,.slice (some ⟨b,0,none⟩) K cap]] w _;obtain⟨W1,hW1⟩:∃ x,x=w.alloc (.cells #[.int .i64 3,.string s,.int .i64 0,.slice none 0 0,.slice (some ⟨b,0,none⟩) K cap] 50):=⟨_,rfl⟩
 have hk1:ay w W1:=by rw[hW1];exact ah _ _
 have hb1:Bk W1 w.heap.size [.int .i64 3,.string s,.int .i64 0,.slice none 0 0,.slice (some ⟨b,0,none⟩) K cap]:=by rw[hW1];exact aG w _ _ _ rfl
 have x3:=hb1.2 3 _ rfl;have x4:=hb1.2 4 _ rfl;have HA:=hid hargs;have HK:=hid hk;have HC:=hid hc;clear hargs hk hc h hs;go_enter Tryz.func137,Tryz.ntmps137;go_wp2_with(fail)
 rw[<-hW1];clear hW1
 go_loopw [3,9] (fun v2 vi wr=>∃ (j:Nat) (dd:Int),j<=K/\vi=.int .i64 j/\v2=.int .i64 dd/\0<=dd/\(j=0->dd<=1)/\(j=1->dd<=N+1)/\dd<=2*N+1/\ay w wr) (fun _ vi _=>K- (intOf vi).toNat)
 case atStart=>exact⟨0,1,xZ _,rfl,rfl,by omega,by omega,by omega,by omega,hk1⟩
 case round=>
  obtain⟨j,dd,hj,rfl,rfl,hd0,hd1,hd2,hd3,hkr⟩:=hrel;have hdN:j<K->dd<=N+1:=fun h=>by
   rcases xR j with e|e
   ·have:=hd1 e;omega
   ·exact hd2 (by omega)
  have ajT:j<K->1<=j->dd<=N+1:=fun h _=>hdN h;by_cases hlt:j<K
  ·have hdd:=hdN hlt;have HD1:=hid hd1;have HD2:=hid hd2;clear hdN ajT hd1 hd2;obtain⟨ak,an,av,l1,l2,l3,m1,m2,m3,hG,c0,c1,c2,c3,c4⟩:=HA.out j hlt;have hG':=hid (HK.out _ _ _ _ hG hkr);have d0:=(hkr.cell' hbl).trans c0;have d1:=(hkr.cell' hbl).trans c1;have d2:=(hkr.cell' hbl).trans c2;have d3:=(hkr.cell' hbl).trans c3;have d4:=(hkr.cell' hbl).trans c4;have hbr:=hkr.lt hbl;have hnb:¬ b=wr.heap.size:=by omega
   have ka:=ah wr (.cells #[.int .i64 ak,.string an,.int .i64 av,.slice l1 l2 l3,.slice m1 m2 m3] 50);have HCC:Hid (∀ W,Gd j [.int .i64 ak,.string an,.int .i64 av,.slice l1 l2 l3,.slice m1 m2 m3] W->Calls Tryz.prog 137 #[.agg #[.int .i64 ak,.string an,.int .i64 av,.slice l1 l2 l3,.slice m1 m2 m3]] W (Dt N W)):=hid (fun W=>HC.out j _ W);clear c0 c1 c2 c3 c4 hG;go_wp2_with(go_at_call 137;refine(HCC.out _ (HK.out _ _ _ _ hG'.out ka)).mono ?_;rintro e w5 ⟨d5,g0,g1,rfl,hk5⟩)
   go_roundw;case rel=>exact⟨j+1,_,hlt,by go_num,rfl,by omega,by omega,fun e=>(by have:=HD1.out (by omega);omega),by omega,(hkr.tr ka).tr hk5⟩
   case measure=>simp[intOf];omega
  ·clear hdN ajT hd1 hd2;go_wp2_with(fail)
   go_ret;exact⟨_,by omega,by omega,rfl,hkr⟩
abbrev mM (B b:Nat) (bs:List Value) (w:World):Prop:=Lib.IsBuilder 197 5 B b bs w
structure Oth (b:Nat) (w w':World):Prop where
 size:w.heap.size<=w'.heap.size
 block:∀ i,i<w.heap.size->i≠b->(∀ c f,w.heap[i]? ≠some (.cells c 5 f))->w'.heap[i]?=w.heap[i]?
theorem Oth.refl (b:Nat) (w:World):Oth b w w:=⟨zy _,fun _ _ _ _=>rfl⟩
theorem Oth.tr {b:Nat} {x y z:World} (h:Oth b x y) (k:Oth b y z):Oth b x z:=
 ⟨zJ h.size k.size,fun i h1 h2 h3=>by
  have e:=h.block i h1 h2 h3;rw[k.block i (zZ h1 h.size) h2 (by rw[e];exact h3),e]⟩
theorem Oth.mg {b:Nat} {x y:World} (k:ay x y):Oth b x y:=⟨k.size,fun i h _ _=>k.block i h⟩
theorem Oth.set {b:Nat} (w:World) (k:Nat) (v:Value):Oth b w (w.setCell ⟨b,k,none⟩ v):=⟨by simp[World.setCell],fun _ _ h _=>Below.heap_setCell _ _ _ _ h⟩
theorem Oth.grown {b B n:Nat} {v:Value} {xs:List Value} {w w':World} (ho:w.ownsRow B 5 1 v n xs) (hg:w.grownBy w' v.ownBlock):Oth b w w':=
 ⟨hg.size,fun i h1 _ h3=>hg.block i h1 (fun e=>by
  rcases ho.2 with⟨rfl,_⟩|⟨g,cap,cur,rfl,_,hgg,_⟩
  ·cases e
  ·have:i=g:=by simpa[Value.ownBlock] using e
   rw[this] at h3;exact h3 _ _ hgg)⟩
def Nby (w:World) (x:Nat):Prop:=x<w.heap.size/\∀ c f,w.heap[x]? ≠some (.cells c 5 f)
theorem Oth.nby {b x:Nat} {w w':World} (h:Oth b w w') (k:Nby w x) (hx:x≠b):Nby w' x:=⟨zZ k.1 h.size,by rw[h.block x k.1 hx k.2];exact k.2⟩
theorem Oth.bk {b x:Nat} {w w':World} {cs:List Value} (h:Oth b w w') (k:Nby w x) (hx:x≠b) (hb:Bk w x cs):Bk w' x cs:=hb.aah h.size (h.block x k.1 hx k.2)
theorem Gp (w:World) (c:Array Value) (T:TypeId) (hT:T≠5) (x:Nat) (hx:x=w.heap.size):Nby (w.alloc (.cells c T)) x:=by
 subst hx;refine⟨by simp,fun c' f e=>hT ?_⟩;have e2:(w.alloc (.cells c T)).heap[w.heap.size]?=some (.cells c T (0,0)):=by
  show(w.heap.push (Obj.cells c T))[w.heap.size]?=_;simp
 rw[e2] at e;injection e with e3;injection e3
theorem Nby.kept {w w':World} {x:Nat} (h:Nby w x) (k:ay w w'):Nby w' x:=⟨k.lt h.1,by rw[k.block x h.1];exact h.2⟩
theorem Tryz.sizeBld:(Tryz.prog.info? 197).map (fun i=>i.size)=some 2:=by kernel_rfl
theorem Tryz.liesBld:liesAt Tryz.prog Tryz.prog.depth 197 (2/Tryz.prog.cellsOf 197) 0 197 1=true:=by kernel_rfl
theorem Tryz.infoByte:(Tryz.prog.info? 5).map (fun i=>(i.zero,i.size,i.bytes))=some (some (.int .u8 0),1,1):=by kernel_rfl
theorem Tryz.noEscape_runs (v:Value) (w:World):(callFunc 355 #[v]).run Tryz.prog w=.ok (.value v) w:=by
 rw[run_callFunc_extern Tryz.func355 (by kernel_rfl) (by kernel_rfl) (by kernel_rfl) (e:=Extern.AbiNoEscape.same) (by kernel_rfl),Lib.run_noEscape];rfl
theorem D9 (b:Nat) (w:World) (h0:w.cell? ⟨b,0,none⟩=some (.pointer (some ⟨b,0,none⟩))):
  Calls Tryz.prog 297 #[.pointer (some ⟨b,0,none⟩)] w fun e w'=>e=.returned (.tuple #[])/\w'=w:=by
 obtain⟨j,hj,_⟩:=Option.map_eq_some_iff.1 Tryz.sizeBld;go_enter Tryz.func297,Tryz.ntmps297
 go_wp2
 rw[Lib.run_neq_ptr_same w _ Tryz.underlying194 hj]
 go_wp2
 go_end0
 exact⟨rfl,rfl⟩
theorem Du (b:Nat) (w:World) (h0:w.cell? ⟨b,0,none⟩=some (.pointer none)) (hsh:w.shape? b=some (197,2)) (hfz:w.frozen? ⟨b,0,none⟩=false):
  Calls Tryz.prog 297 #[.pointer (some ⟨b,0,none⟩)] w fun e w'=>e=.returned (.tuple #[])/\w'=w.setCell ⟨b,0,none⟩ (.pointer (some ⟨b,0,none⟩)):=by
 obtain⟨j,hj,hjs⟩:=Option.map_eq_some_iff.1 Tryz.sizeBld;go_enter Tryz.func297,Tryz.ntmps297
 go_wp2
 rw[Lib.run_to_unsafe w ⟨b,0,none⟩ Tryz.underlying194 Tryz.underlying335 hj (by rw[hjs];decide) hsh (Nat.zero_lt_succ 1)];simp only[Result.andThen];rw[Oper.upon_value]
 go_wp2
 rw[Tryz.noEscape_runs];rw[Oper.upon_value]
 go_wp2
 rw[Lib.run_from_unsafe w ⟨b,0,none⟩ Tryz.underlying335 Tryz.underlying194 hj hsh Tryz.liesBld];simp only[Result.andThen];rw[Oper.upon_value]
 go_wp2
 go_end0
 exact⟨rfl,rfl⟩
theorem tC (B b:Nat) (bs:List Value) (w:World) (h:mM B b bs w):
  Calls Tryz.prog 297 #[.pointer (some ⟨b,0,none⟩)] w fun e w'=>e=.returned (.tuple #[])/\(Lib.BuilderAt 197 5 B b (.pointer (some ⟨b,0,none⟩)) bs w'/\Below B w w'/\Oth b w w'):=by
 rcases h with h|h
 ·refine(Du b w h.cell0 h.shape h.frozen0).mono ?_;rintro e w' ⟨rfl,rfl⟩;exact⟨rfl,h.used _,(Below.refl B w).setCell (p:=⟨b,0,none⟩) h.1 _,Oth.set w 0 _⟩
 ·refine(D9 b w h.cell0).mono ?_;rintro e w' ⟨rfl,rfl⟩;exact⟨rfl,h,Below.refl B _,Oth.refl _ _⟩
theorem Us (B b:Nat) (bs:List Value) (w:World) (h:mM B b bs w):
  Calls Tryz.prog 139 #[.pointer (some ⟨b,0,none⟩)] w fun e w'=>e=.returned (.int .i64 bs.length)/\w=w':=by
 obtain⟨p,hB,v,hbk,hown,hne⟩:∃ p,Lib.BuilderAt 197 5 B b p bs w:=by
  rcases h with h|h
  ·exact⟨_,h⟩
  ·exact⟨_,h⟩
 obtain⟨ao,cap,rfl⟩:=dh hown;have c1:w.cell? ⟨b,1,none⟩=some (.slice ao bs.length cap):=by rw[Lib.cell_of_heap hbk];rfl
 go_enter Tryz.func139,Tryz.ntmps139
 go_wp2
 go_ret;exact⟨rfl,rfl⟩
theorem Ut (B b:Nat) (bs:List Value) (c:Int) (w:World) (h:mM B b bs w) (hlen:bs.length+1<=1000000) (hBw:B<=w.heap.size):
  Calls Tryz.prog 195 #[.pointer (some ⟨b,0,none⟩),.int .u8 c] w fun e w'=>e=.returned .nilIface/\mM B b (bs++ [.int .u8 c]) w'/\Below B w w'/\Oth b w w':=by
 obtain⟨i0,hi,hz0,hz1,hz2⟩:=info_parts Tryz.infoByte;go_enter Tryz.func195,Tryz.ntmps195;go_wp2_with(go_at_call 297;refine(tC B b bs _ h).mono ?_)
 rintro e w1 ⟨rfl,h1,hb1,ht1⟩;obtain⟨hB,v,hbk,hown,hne⟩:=h1;have c0:w1.cell? ⟨b,0,none⟩=some (.pointer (some ⟨b,0,none⟩)):=by rw[Lib.cell_of_heap hbk];rfl
 have c1:w1.cell? ⟨b,1,none⟩=some v:=by rw[Lib.cell_of_heap hbk];rfl
 go_wp2_with(at_builtin;refine wpList_append_own _ rfl _ _ 195 rfl B 5 i0 (.int .u8 0) 1 1 Tryz.underlying195 hi hz0 hz1 hz2 rfl (by decide) _ _ _ rfl (hown.alloc _) ⟨w1.heap.size,0,none⟩ 1 1 [.int .u8 c] rfl rfl ?c1 ?c2 ?c3 ?c4 ?c5 ?_)
 case c1=>
  intro j u hj
  match j,hj with
  |0,hj=>simp at hj;subst hj;simp[Addr.add]
 case c2=>intro u hu;simp at hu;subst hu;rfl
 case c3=>unfold maxLen;omega
 case c4=>omega
 case c5=>have:=hb1.size;simp;omega
 intro v' w2 hown' hgrow _;have hlt:b<w1.heap.size:=by
  rcases wR b w1.heap.size with h'|h'
  ·exact h'
  ·simp[tu h'] at hbk
 have hb2:w2.heap[b]?=some (.cells #[.pointer (some ⟨b,0,none⟩),v] 197 (0,0)):=by
  rw[hgrow.block b (by simp;omega) (fun e=>hne e.symm),Lib.alloc_old w1 _ b hlt];exact hbk
 have d0:w2.cell? ⟨b,0,none⟩=some (.pointer (some ⟨b,0,none⟩)):=by rw[Lib.cell_of_heap hb2];rfl
 have d1:w2.cell? ⟨b,1,none⟩=some v:=by rw[Lib.cell_of_heap hb2];rfl
 have f1:w2.frozen? ⟨b,1,none⟩=false:=Lib.frozen_of_heap hb2 1;obtain⟨g,cap,rfl⟩:∃ g cap,v'=.slice (some ⟨g,0,none⟩) (bs.length+1) cap:=by
  rcases hown'.2 with⟨_,h0⟩|⟨g,cap,cur,hv,_⟩
  ·omega
  ·exact⟨g,cap,hv⟩
 go_wp2
 go_ret;refine⟨rfl,.inr ?_, ?_, ?_⟩
 ·exact Lib.BuilderAt.put (T:=197) (e:=5) hB hb2 (bs':=bs++ [.int .u8 c]) (by simpa using hown') (by decide)
 ·exact((hb1.alloc (by have:=hb1.size;omega) _).grown hgrow (by have:=hb1.size;simp;omega) (fun k hk=>(hown.lt k hk).1)).setCell (p:=⟨b,1,none⟩) hB _
 ·exact((ht1.tr (.mg (ah _ _))).tr (Oth.grown (hown.alloc _) hgrow)).tr (Oth.set w2 1 _)
theorem Uu (B b:Nat) (bs:List Value) (s:ByteArray) (w:World) (h:mM B b bs w) (hlen:bs.length+s.size<=1000000) (hBw:B<=w.heap.size):
  Calls Tryz.prog 193 #[.pointer (some ⟨b,0,none⟩),.string s] w fun e w'=>e=.returned (.tuple #[.int .i64 s.size,.nilIface])/\mM B b (bs++Lib.strCells s) w'/\Below B w w'/\Oth b w w':=by
 obtain⟨i0,hi,hz0,hz1,hz2⟩:=info_parts Tryz.infoByte;go_enter Tryz.func193,Tryz.ntmps193;go_wp2_with(go_at_call 297;refine(tC B b bs _ h).mono ?_)
 rintro e w1 ⟨rfl,h1,hb1,ht1⟩;obtain⟨hB,v,hbk,hown,hne⟩:=h1;have c0:w1.cell? ⟨b,0,none⟩=some (.pointer (some ⟨b,0,none⟩)):=by rw[Lib.cell_of_heap hbk];rfl
 have c1:w1.cell? ⟨b,1,none⟩=some v:=by rw[Lib.cell_of_heap hbk];rfl
 go_wp2_with(at_builtin;refine Lib.wpList_append_own_string _ rfl _ _ 195 9 rfl B 5 i0 Tryz.underlying195 Tryz.underlying9 hi hz0 hz1 hz2 _ _ _ rfl hown s rfl ?c3 ?c4 ?c5 ?_)
 case c3=>unfold maxLen;omega
 case c4=>omega
 case c5=>have:=hb1.size;omega
 intro v' w2 hown' hgrow _;have hlt:b<w1.heap.size:=by
  rcases wR b w1.heap.size with h'|h'
  ·exact h'
  ·simp[tu h'] at hbk
 have hb2:w2.heap[b]?=some (.cells #[.pointer (some ⟨b,0,none⟩),v] 197 (0,0)):=by
  rw[hgrow.block b hlt (fun e=>hne e.symm)];exact hbk
 have d0:w2.cell? ⟨b,0,none⟩=some (.pointer (some ⟨b,0,none⟩)):=by rw[Lib.cell_of_heap hb2];rfl
 have d1:w2.cell? ⟨b,1,none⟩=some v:=by rw[Lib.cell_of_heap hb2];rfl
 have f1:w2.frozen? ⟨b,1,none⟩=false:=Lib.frozen_of_heap hb2 1;obtain⟨ao,cap,rfl⟩:=dh hown'
 go_wp2
 go_ret2;refine⟨rfl,.inr ?_, ?_, ?_⟩
 ·exact Lib.BuilderAt.put (T:=197) (e:=5) hB hb2 (bs':=bs++Lib.strCells s) (by simpa[Lib.strCells_length] using hown') (by decide)
 ·exact(hb1.grown hgrow (by have:=hb1.size;omega) (fun k hk=>(hown.lt k hk).1)).setCell (p:=⟨b,1,none⟩) hB _
 ·exact(ht1.tr (Oth.grown hown hgrow)).tr (Oth.set w2 1 _)
def zn (B b n:Nat) (w:World) (e:Ending) (w':World):Prop:=e=.returned (.tuple #[])/\∃ bs',mM B b bs' w'/\bs'.length<=n/\Below B w w'/\Oth b w w'
theorem Gq {B b:Nat} {bs:List Value} {w w':World} (h:mM B b bs w) (k:ay w w'):mM B b bs w':=by
 have one:∀ p,Lib.BuilderAt 197 5 B b p bs w->Lib.BuilderAt 197 5 B b p bs w':=fun p ⟨h1,v,h2,h3,h4⟩=>by
  have hb:b<w.heap.size:=(zL.1 h2).1;refine⟨h1,v,by rw[k.block b hb];exact h2,World.ownsRow.kept h3 (row:=some w.heap.size) ⟨k.os,k.tape,k.output,k.size,fun i hi _=>k.block i hi⟩ ?_,h4⟩;cases e:v.ownBlock with
  |none=>exact .inl rfl
  |some x=>
   refine .inr fun q=>?_;have h5:=(World.ownsRow.lt h3 x e).2;have h6:x=w.heap.size:=by simpa using q
   omega
 exact h.imp (one _) (one _)
theorem NW {B b:Nat} {bs:List Value} {w:World} (h:mM B b bs w):B<=b/\b<w.heap.size:=by
 rcases h with⟨h1,v,h2,_⟩|⟨h1,v,h2,_⟩<;>exact⟨h1,(zL.1 h2).1⟩
theorem zn.at {B b n:Nat} {w w1 w':World} {e:Ending} (h:zn B b n w1 e w') (k:ay w w1) (hB:B<=w.heap.size):zn B b n w e w':=by
 obtain⟨h1,bs,h2,h3,h4,h5⟩:=h;exact⟨h1,bs,h2,h3,(k.mono hB).trans h4,(Oth.mg k).tr h5⟩
theorem acf (d:Nat) (h:d<10):(Lib.decDigits d).length=1:=by
 unfold Lib.decDigits;rw[dif_pos h];rfl
theorem Uw (B b:Nat) (bs:List Value) (d:Nat) (w:World) (h:mM B b bs w) (hd:d<10) (hl:bs.length<=1000) (hB:B<=w.heap.size):
  Calls Tryz.prog 138 #[.pointer (some ⟨b,0,none⟩),.agg #[.int .i64 1,.string ⟨#[]⟩,.int .i64 d,.slice none 0 0,.slice none 0 0]] w (zn B b (bs.length+1) w):=by
 obtain⟨W1,hW1⟩:∃ x,x=(w.alloc (.cells #[.pointer (some ⟨b,0,none⟩)] 194)).alloc (.cells #[.int .i64 1,.string ⟨#[]⟩,.int .i64 d,.slice none 0 0,.slice none 0 0] 50):=⟨_,rfl⟩
 have hk1:ay w W1:=by rw[hW1];exact(ah _ _).tr (ah _ _)
 have hbp:Bk W1 w.heap.size [.pointer (some ⟨b,0,none⟩)]:=by rw[hW1];exact(aG w _ _ _ rfl).kept (ah _ _)
 have hbx:Bk W1 (w.heap.size+1) [.int .i64 1,.string ⟨#[]⟩,.int .i64 d,.slice none 0 0,.slice none 0 0]:=by rw[hW1];exact aG _ [.int .i64 1,.string ⟨#[]⟩,.int .i64 d,.slice none 0 0,.slice none 0 0] _ _ (by simp)
 have hb1:=Gq h hk1;have np:Nby W1 w.heap.size:=by rw[hW1];exact(Gp w _ _ (by decide) _ rfl).kept (ah _ _)
 have nx:Nby W1 (w.heap.size+1):=by rw[hW1];exact Gp _ _ _ (by decide) _ (by simp)
 have hnp:w.heap.size≠b:=by have:=(NW h).2;omega
 have hnx:w.heap.size+1≠b:=by have:=(NW h).2;omega
 have p0:=hbp.2 0 _ rfl;have x0:=hbx.2 0 _ rfl;have x2:=hbx.2 2 _ rfl;have hl':¬ (bs.length:Int) >65536:=by omega
 have hB1:B<=W1.heap.size:=zJ hB hk1.size;have HB1:=hid hb1;have HI:=hid (fun W=>Tryz.strconv_Itoa_small d (by omega) W);obtain⟨sd,hsd⟩:∃ s,s=(⟨(Lib.decDigits d).toArray⟩:ByteArray):=⟨_,rfl⟩
 have hsz:sd.size=1:=by rw[hsd];exact acf d hd
 rw[<-hsd] at HI;have HSZ:=hid hsz;clear hb1 hsd hsz;go_enter Tryz.func138,Tryz.ntmps138;go_wp2_with(fail)
 rw[<-hW1];clear hW1;refine(Us B b bs W1 HB1.out).mono ?_;rintro e w2 ⟨rfl,rfl⟩;go_wp2_with(fail)
 go_region_held3 (fun w'=>w'.cell? ⟨w.heap.size,0,none⟩=some (.pointer (some ⟨b,0,none⟩))/\w'.cell? ⟨w.heap.size+1,2,none⟩=some (.int .i64 d)) ((simp[*];done))
  (first|(go_at_call 194;refine(HI.out _).mono ?_;rintro e w3 ⟨rfl,rfl⟩)|(go_at_call 193;refine(Uu B b bs sd _ (by exact HB1.out) (by rw[HSZ.out];omega) (by exact hB1)).mono ?_;rintro e w4 ⟨rfl,hi4,hb4,ho4⟩;have ah4:Oth b W1 w4:=(by exact(Oth.mg (aC _)).tr ho4);have q0:=(ah4.bk np hnp hbp).2 0 _ rfl;have q2:=(ah4.bk nx hnx hbx).2 2 _ rfl;have alG:Below B W1 w4:=(by exact((aC W1).mono hB1).trans hb4)))
 all_goals
  go_wp2_with(fail)
  go_end0
  exact⟨rfl,_,hi4,by rw[zX,Lib.strCells_length,HSZ.out];exact zy _,(hk1.mono hB).trans alG,(Oth.mg hk1).tr ah4⟩
theorem one_any (B b n pb px a K cap j:Nat) (ak:Int) (an:ByteArray) (av:Int) (l1:Option Addr) (l2 l3:Nat) (m1:Option Addr) (m2 m3:Nat) (w:World) (p0:w.cell? ⟨pb,0,none⟩=some (.pointer (some ⟨b,0,none⟩))) (x4:w.cell? ⟨px,4,none⟩=some (.slice (some ⟨a,0,none⟩) K cap)) (hj:j<K) (hB:B<=w.heap.size)
  (c0:w.cell? ⟨a,j*5,none⟩=some (.int .i64 ak)) (c1:w.cell? ⟨a,j*5+1,none⟩=some (.string an)) (c2:w.cell? ⟨a,j*5+2,none⟩=some (.int .i64 av)) (c3:w.cell? ⟨a,j*5+3,none⟩=some (.slice l1 l2 l3)) (c4:w.cell? ⟨a,j*5+4,none⟩=some (.slice m1 m2 m3))
  (hw:∀ w',ay w w'->Calls Tryz.prog 138 #[.pointer (some ⟨b,0,none⟩),.agg #[.int .i64 ak,.string an,.int .i64 av,.slice l1 l2 l3,.slice m1 m2 m3]] w' (zn B b n w')):
  Calls Tryz.prog 197 #[.int .i64 j,.pointer (some ⟨pb,0,none⟩),.pointer (some ⟨px,0,none⟩)] w (zn B b n w):=by
 have hlt:(j:Int)< (K:Int):=by omega
 have HW:=hid hw;clear hw;go_enter Tryz.func197,Tryz.ntmps197;go_wp2_with(fail)
 go_still_tail 6,(by kernel_rfl)
 go_wp2_with(go_at_call 138;refine(HW.out _ (by exact aC _)).mono ?_;rintro e w3 ⟨rfl,bs3,i3,n3,b3,o3⟩)
 go_end0
 exact zn.at ⟨rfl,bs3,i3,n3,b3,o3⟩ (by exact aC _) hB
theorem Yg (B b M K pb px:Nat) (bs:List Value) (w:World) (hi:mM B b bs w) (hB:B<=w.heap.size) (p0:Bk w pb [.pointer (some ⟨b,0,none⟩)]) (np:Nby w pb) (hp:pb≠b) (hK:K<=2) (hM:M<=100) (hl:bs.length<=1000)
  (one:∀ j,j<K->∀ w' bs',Oth b w w'->Below B w w'->mM B b bs' w'->bs'.length<=bs.length+150->B<=w'.heap.size->Calls Tryz.prog 197 #[.int .i64 j,.pointer (some ⟨pb,0,none⟩),.pointer (some ⟨px,0,none⟩)] w' (zn B b (bs'.length+M) w')):
  Calls Tryz.prog 192 #[.int .i64 K,.func (.func 197) #[] #[.pointer (some ⟨pb,0,none⟩),.pointer (some ⟨px,0,none⟩)],.pointer (some ⟨pb,0,none⟩)] w (zn B b (bs.length+2*(M+2)) w):=by
 have H1:=hid one;have HP:=hid p0;clear one p0;go_enter Tryz.func192,Tryz.ntmps192;go_wp2_with(fail)
 go_loopw [7] (fun vi wr=>∃ (j:Nat) (bs':List Value),j<=K/\vi=.int .i64 j/\mM B b bs' wr/\bs'.length<=bs.length+j*(M+2)/\Oth b w wr/\Below B w wr/\B<=wr.heap.size) (fun vi _=>K- (intOf vi).toNat)
 case atStart=>exact⟨0,bs,xZ _,rfl,hi,by omega,Oth.refl _ _,Below.refl _ _,hB⟩
 case round=>
  obtain⟨j,bs',hj,rfl,hi',hl',ho',hb',hB'⟩:=hrel;by_cases hlt:j<K
  ·have e1:(j+1)*(M+2)=j*(M+2)+(M+2):=Nat.succ_mul _ _;have e2:bs'.length<=bs.length+140:=by
    have:j=0∨j=1:=by omega
    rcases this with rfl|rfl<;>omega
   have q0:=(ho'.bk np hp HP.out).2 0 _ rfl;have HI':=hid hi';have HL':=hid hl';have HE1:=hid e1;clear hi' hl' e1;by_cases j0:j=0
   ·subst j0;go_wp2_with(go_at_call 197;refine(H1.out 0 hlt _ _ ho' hb' HI'.out (by omega) hB').mono ?_;rintro e w4 ⟨rfl,bs4,i4,n4,b4,o4⟩)
    go_roundw;case rel=>exact⟨1,bs4,by omega,rfl,i4,by have:=HL'.out;omega,ho'.tr o4,hb'.trans b4,zJ hB' o4.size⟩
    case measure=>simp[intOf];omega
   ·have tj:(0:Int)< (j:Int):=by omega
    go_wp2_with(first|(go_at_call 193;refine(Uu B b bs' ⟨#[44,32]⟩ _ HI'.out (by show _+2<=_;omega) hB').mono ?_;rintro e w3 ⟨rfl,i3,b3,o3⟩)|(go_at_call 197;refine(H1.out j hlt _ _ (ho'.tr o3) (hb'.trans b3) i3 (by rw[zX,Lib.strCells_length];show _+2<=_;omega) (zJ hB' o3.size)).mono ?_;rintro e w4 ⟨rfl,bs4,i4,n4,b4,o4⟩))
    go_roundw;case rel=>exact⟨j+1,bs4,by omega,by go_num,i4,by rw[zX,Lib.strCells_length] at n4;have:=HL'.out;have:=HE1.out;have n5:bs4.length<=bs'.length+2+M:=n4;omega,(ho'.tr o3).tr o4,(hb'.trans b3).trans b4,zJ (zJ hB' o3.size) o4.size⟩
    case measure=>simp[intOf];omega
  ·go_wp2_with(fail)
   go_end0
   refine⟨rfl,bs',hi', ?_,hb',ho'⟩;have:j=0∨j=1∨j=2:=by omega
   rcases this with rfl|rfl|rfl<;>omega
theorem ER {Gd:Nat->List Value->World->Prop} {s:ByteArray} {K:Nat} {E:List Value} (B b M:Nat) (bs:List Value) (w0 w:World) (h:ig Gd s K E w0) (hs:∀ j E w,Gd j E w->Shp E) (hk0:ay w0 w) (hB0:w0.heap.size<=B) (hK:K<=2) (hM:M<=100) (hsz:s.size<=16)
  (hi:mM B b bs w) (hl:bs.length<=300) (hB:B<=w.heap.size)
  (hc:∀ j E,Gd j E w0->∀ w' bs',ay w0 w'->mM B b bs' w'->bs'.length<=bs.length+200->B<=w'.heap.size->Calls Tryz.prog 138 #[.pointer (some ⟨b,0,none⟩),.agg E.toArray] w' (zn B b (bs'.length+M) w')):
  Calls Tryz.prog 138 #[.pointer (some ⟨b,0,none⟩),.agg E.toArray] w (zn B b (bs.length+16+2+2*(M+2)) w):=by
 obtain⟨a,cap,rfl,hal,hargs⟩:=h.args (hs · · w0);show Calls Tryz.prog 138 #[.pointer (some ⟨b,0,none⟩),.agg #[.int .i64 3,.string s,.int .i64 0,.slice none 0 0,.slice (some ⟨a,0,none⟩) K cap]] w _;have hmf:∀ (fn:Fn) (first cap:Array Value) (w:World),(Instr.makeFunc fn first cap).run Tryz.prog w=.ok (.func fn first cap) w:=fun _ _ _ _=>rfl;obtain⟨W1,hW1⟩:∃ x,x=(w.alloc (.cells #[.pointer (some ⟨b,0,none⟩)] 194)).alloc (.cells #[.int .i64 3,.string s,.int .i64 0,.slice none 0 0,.slice (some ⟨a,0,none⟩) K cap] 50):=⟨_,rfl⟩
 have hk1:ay w W1:=by rw[hW1];exact(ah _ _).tr (ah _ _)
 have hbp:Bk W1 w.heap.size [.pointer (some ⟨b,0,none⟩)]:=by rw[hW1];exact(aG w _ _ _ rfl).kept (ah _ _)
 have hbx:Bk W1 (w.heap.size+1) [.int .i64 3,.string s,.int .i64 0,.slice none 0 0,.slice (some ⟨a,0,none⟩) K cap]:=by rw[hW1];exact aG _ [.int .i64 3,.string s,.int .i64 0,.slice none 0 0,.slice (some ⟨a,0,none⟩) K cap] _ _ (by simp)
 have hb1:=Gq hi hk1;have np:Nby W1 w.heap.size:=by rw[hW1];exact(Gp w _ _ (by decide) _ rfl).kept (ah _ _)
 have nx:Nby W1 (w.heap.size+1):=by rw[hW1];exact Gp _ _ _ (by decide) _ (by simp)
 have hnp:w.heap.size≠b:=by have:=(NW hi).2;omega
 have hnx:w.heap.size+1≠b:=by have:=(NW hi).2;omega
 have p0:=hbp.2 0 _ rfl;have x0:=hbx.2 0 _ rfl;have hl':¬ (bs.length:Int) >65536:=by omega
 have hB1:B<=W1.heap.size:=zJ hB hk1.size;have aad:=hk0.tr hk1;have HB1:=hid hb1;have HA:=hid hargs;have HC:=hid hc;have HN:=hid np;have HNX:=hid nx;clear hb1 hargs hc np nx h hs;go_enter Tryz.func138,Tryz.ntmps138;go_wp2_with(fail)
 rw[<-hW1];clear hW1;refine(Us B b bs W1 HB1.out).mono ?_;rintro e w2 ⟨rfl,rfl⟩;have x1:=hbx.2 1 _ rfl;go_wp2_with(fail)
 refine(Uu B b bs s W1 HB1.out (by omega) hB1).mono ?_;rintro e w2 ⟨rfl,i2,b2,o2⟩;have p2:=(o2.bk HN.out hnp hbp).2 0 _ rfl;have hB2:=zJ hB1 o2.size;clear p0 x0 x1;go_wp2_with(fail)
 refine(Ut B b _ 40 w2 i2 (by rw[zX,Lib.strCells_length];omega) hB2).mono ?_;rintro e w3 ⟨rfl,i3,b3,o3⟩;have o13:=o2.tr o3;have b13:=b2.trans b3;have hB3:=zJ hB2 o3.size;have ah5:=o13.bk HN.out hnp hbp;have adv:=o13.bk HNX.out hnx hbx;have np3:=o13.nby HN.out hnp;have nx3:=o13.nby HNX.out hnx;have p3:=ah5.2 0 _ rfl;have x3:=adv.2 4 _ rfl;have l3:(bs++Lib.strCells s++ [Value.int .u8 40]).length<=bs.length+17:=by
  rw[zX,zX,Lib.strCells_length];show _+1<=_;omega
 have HJ:=hid (Yg B b M K w.heap.size (w.heap.size+1) _ w3 i3 hB3 ah5 np3 hnp hK hM (by omega) (fun j hj w' bs' o' b' i' n' hB'=>by
  obtain⟨ak,an,av,l1,l2,l3,m1,m2,m3,hG,c0,c1,c2,c3,c4⟩:=HA.out j hj;have o1':=o13.tr o';have k0':ay w0 w':=aad.trans ((b13.trans b').mono hB0);exact one_any B b _ w.heap.size (w.heap.size+1) a K cap j ak an av l1 l2 l3 m1 m2 m3 w' ((o'.bk np3 hnp ah5).2 0 _ rfl) ((o'.bk nx3 hnx adv).2 4 _ rfl) hj hB'
   ((k0'.cell' hal).trans c0) ((k0'.cell' hal).trans c1) ((k0'.cell' hal).trans c2) ((k0'.cell' hal).trans c3) ((k0'.cell' hal).trans c4)
   (fun w2' k2'=>HC.out j _ hG w2' bs' (k0'.tr k2') (Gq i' k2') (by omega) (zJ hB' k2'.size))))
 clear p2;go_wp2_with(fail)
 refine HJ.out.mono ?_;rintro e w4 ⟨rfl,bs4,i4,n4,b4,o4⟩;have o14:=o13.tr o4;have b14:=b13.trans b4;have hB4:=zJ hB3 o4.size;have p4:=(o14.bk HN.out hnp hbp).2 0 _ rfl;have n4':bs4.length<=bs.length+s.size+1+2*(M+2):=by
  rw[zX,zX,Lib.strCells_length] at n4;exact n4
 clear p3 x3;go_wp2_with(fail)
 refine(Ut B b _ 41 w4 i4 (by omega) hB4).mono ?_;rintro e w5 ⟨rfl,i5,b5,o5⟩;go_wp2_with(fail)
 go_end0
 exact⟨rfl,_,i5,by rw[zX];show _+1<=_;omega,(hk1.mono hB).trans (b14.trans b5),(Oth.mg hk1).tr (o14.tr o5)⟩
end
section
open Go.RowKit Cw Cw.Gj
theorem ah6:afr sGf:=⟨by decide,by decide,by decide,by decide⟩
theorem afs:afr kX:=⟨by decide,by decide,by decide,by decide⟩
theorem Yh {j:Nat} {E:List Value} {w:World} (h:G1 j E w):E=Di 2:=h
theorem Bq {j:Nat} {E:List Value} {w:World} (h:G2 j E w):ig G1 sGf 1 E w∨E=Di 3:=by
 unfold G2 at h;by_cases e:j=0
 ·rw[zu e] at h;exact .inl h
 ·rw[zx e] at h;exact .inr h
theorem Yi {E:List Value} (w:World) (h:ig G2 kX 2 E w):Calls Tryz.prog 135 #[.agg E.toArray] w fun e w'=>e=.returned (.bool true)/\ay w w':=
 Jg w h (fun _ _ _ q=>NS q) (fun _ _ _ _ q k=>kE q k) afs (by omega) fun j E w q=>by
  rcases Bq q with q|q
  ·exact Jg w q (fun _ _ _ q=>NR q) (fun _ _ _ _ q _=>q) ah6 (by omega) fun j E w q=>by
    rw[Yh q];exact NT 2 w (by omega) (by omega)
  ·rw[q];exact NT 3 w (by omega) (by omega)
theorem Yj {E:List Value} (w:World) (h:ig G2 kX 2 E w):Calls Tryz.prog 136 #[.agg E.toArray] w (Dp 3 w):=
 AQ (D:=2) w h (fun _ _ _ q=>NS q) (fun _ _ _ _ q k=>kE q k) (by omega) (by omega) fun j E w q=>by
  rcases Bq q with q|q
  ·exact AQ (D:=1) w q (fun _ _ _ q=>NR q) (fun _ _ _ _ q _=>q) (by omega) (by omega) fun j E w q=>by
    rw[Yh q];exact Dq 2 w
  ·rw[q];exact(Dq 3 w).mono fun _ _ ⟨d,h1,h2,h3⟩=>⟨d,h1,by omega,h3⟩
theorem Yk {E:List Value} (w:World) (h:ig G2 kX 2 E w):Calls Tryz.prog 137 #[.agg E.toArray] w (Dt 7 w):=
 Jh (N:=3) w h (fun _ _ _ q=>NS q) (fun _ _ _ _ q k=>kE q k) (by omega) (by omega) fun j E w q=>by
  rcases Bq q with q|q
  ·exact Jh (N:=1) w q (fun _ _ _ q=>NR q) (fun _ _ _ _ q _=>q) (by omega) (by omega) fun j E w q=>by
    rw[Yh q];exact NV 2 w
  ·rw[q];exact(NV 3 w).mono fun _ _ ⟨d,h1,h2,h3⟩=>⟨d,h1,by omega,h3⟩
theorem aan (B b:Nat) (bs:List Value) (d:Nat) (w:World) (h:mM B b bs w) (hd:d<10) (hl:bs.length<=500) (hB:B<=w.heap.size) (M:Nat) (hM:1<=M):
  Calls Tryz.prog 138 #[.pointer (some ⟨b,0,none⟩),.agg (Di d).toArray] w (zn B b (bs.length+M) w):=
 (Uw B b bs d w h hd (by omega) hB).mono fun _ _ ⟨h1,bs',h2,h3,h4⟩=>⟨h1,bs',h2,by omega,h4⟩
theorem Ux {E:List Value} (B b:Nat) (w0 w:World) (h:ig G2 kX 2 E w0) (hk0:ay w0 w) (hB0:w0.heap.size<=B) (hi:mM B b [] w) (hB:B<=w.heap.size):
  Calls Tryz.prog 138 #[.pointer (some ⟨b,0,none⟩),.agg E.toArray] w (zn B b 1000 w):=by
 refine(ER B b 50 [] w0 w h (fun _ _ _ q=>NS q) hk0 hB0 (by omega) (by omega) (by decide) hi (by simp) hB fun j E q w' bs' k' i' n' hB'=>?_).mono fun _ _ ⟨h1,bs',h2,h3,h4⟩=>⟨h1,bs',h2,by simp at h3;omega,h4⟩
 rcases Bq q with q|q
 ·exact(ER B b 1 bs' w0 w' q (fun _ _ _ q=>NR q) k' hB0 (by omega) (by omega) (by decide) i' (by simp at n';omega) hB' fun j E q w2 bs2 _ i2 n2 hB2=>by
   rw[Yh q];exact aan B b bs2 2 w2 i2 (by omega) (by simp at n';omega) hB2 1 (zy _)).mono fun _ _ ⟨h1,bs',h2,h3,h4⟩=>⟨h1,bs',h2,by omega,h4⟩
 ·rw[q];exact aan B b bs' 3 w' i' (by omega) (by simp at n';omega) hB' 50 (by omega)
set_option maxRecDepth 100000 in
theorem Uy {E:List Value} (w:World) (h:ig G2 kX 2 E w):Calls Tryz.prog 85 #[.agg E.toArray] w fun e w'=>e=.returned (.int .i64 0)/\ay w w':=by
 have hE:=h;obtain⟨a,cap,_,rfl,_⟩:=hE;show Calls Tryz.prog 85 #[.agg #[.int .i64 3,.string kX,.int .i64 0,.slice none 0 0,.slice (some ⟨a,0,none⟩) 2 cap]] w _;obtain⟨W1,hW1⟩:∃ x,x=w.alloc (.cells #[.int .i64 3,.string kX,.int .i64 0,.slice none 0 0,.slice (some ⟨a,0,none⟩) 2 cap] 50):=⟨_,rfl⟩
 have hk1:ay w W1:=by rw[hW1];exact ah _ _
 have hb1:Bk W1 w.heap.size [.int .i64 3,.string kX,.int .i64 0,.slice none 0 0,.slice (some ⟨a,0,none⟩) 2 cap]:=by rw[hW1];exact aG w _ _ _ rfl
 have HF:=hid (fun W (k:ay w W)=>Yi W (h.kept (fun _ _ q=>kE q k) k));have HM:=hid (fun W (k:ay w W)=>Yj W (h.kept (fun _ _ q=>kE q k) k));have HS:=hid (fun W (k:ay w W)=>Yk W (h.kept (fun _ _ q=>kE q k) k));have HW:=hid (fun B b W0 W (k:ay w W0)=>Ux B b W0 W (h.kept (fun _ _ q=>kE q k) k));obtain⟨sh,hsh⟩:∃ s,s=kX:=⟨_,rfl⟩
 unfold zl at HF HM HS HW;rw[<-hsh] at HF HM HS HW hb1 hW1 ⊢;clear hsh h;have x0:=hb1.2 0 _ rfl;have x1:=hb1.2 1 _ rfl;have x2:=hb1.2 2 _ rfl;have x3:=hb1.2 3 _ rfl;have x4:=hb1.2 4 _ rfl;go_enter Tryz.func85,Tryz.ntmps85;go_wp2_with(fail)
 rw[<-hW1];clear hW1;refine(HF.out W1 hk1).mono ?_;rintro e w2 ⟨rfl,hk2⟩;have hb2:=hb1.kept hk2;have hk12:=hk1.tr hk2;clear x0 x1 x2 x3 x4;have x0:=hb2.2 0 _ rfl;have x1:=hb2.2 1 _ rfl;have x2:=hb2.2 2 _ rfl;have x3:=hb2.2 3 _ rfl;have x4:=hb2.2 4 _ rfl;go_wp2_with(fail)
 refine(HM.out w2 hk12).mono ?_;rintro e w3 ⟨d,d0,d1,rfl,hk3⟩;have hb3:=hb2.kept hk3;have Bj:=hk12.tr hk3;have hd:¬ d>32:=by omega
 clear x0 x1 x2 x3 x4;have x0:=hb3.2 0 _ rfl;have x1:=hb3.2 1 _ rfl;have x2:=hb3.2 2 _ rfl;have x3:=hb3.2 3 _ rfl;have x4:=hb3.2 4 _ rfl;go_wp2_with(fail)
 refine(HS.out w3 Bj).mono ?_;rintro e w4 ⟨m,m0,m1,rfl,hk4⟩;have hb4:=hb3.kept hk4;have qG:=Bj.tr hk4;have hm:¬ m>1024:=by omega
 clear x0 x1 x2 x3 x4;have x0:=hb4.2 0 _ rfl;have x1:=hb4.2 1 _ rfl;have x2:=hb4.2 2 _ rfl;have x3:=hb4.2 3 _ rfl;have x4:=hb4.2 4 _ rfl;have x5:=hb4.1;obtain⟨W5,hW5⟩:∃ x,x=w4.alloc (.cells #[.pointer none,.slice none 0 0] 197):=⟨_,rfl⟩
 have hk5:ay w4 W5:=by rw[hW5];exact ah _ _
 have hi5:mM w4.heap.size w4.heap.size [] W5:=by
  refine .inl ⟨zy _,.slice none 0 0, ?_,⟨rfl,.inl ⟨rfl,rfl⟩⟩,fun e=>by cases e⟩;rw[hW5];show(w4.heap.push _)[w4.heap.size]?=_;simp
 have HW5:=hid (HW.out w4.heap.size w4.heap.size w4 W5 qG hk5 (zy _) hi5 hk5.size);clear hi5;go_wp2_with(fail)
 rw[<-hW5];clear hW5;refine HW5.out.mono ?_;rintro e w6 ⟨rfl,bs,i6,n6,b6,o6⟩;have hk6:ay w4 w6:=hk5.trans b6;have alH:=qG.tr hk6;have n6':¬ (bs.length:Int) >65536:=by omega
 clear x0 x1 x2 x3 x4;go_wp2_with(go_at_call 139;refine(Us _ _ _ _ i6).mono ?_;rintro e w7 ⟨rfl,rfl⟩)
 go_ret;exact⟨rfl,alH⟩
end
end Go.Proofs.YtoilbeadokallaaGreatDoor
