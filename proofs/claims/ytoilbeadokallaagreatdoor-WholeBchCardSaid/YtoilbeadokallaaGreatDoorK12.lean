/- The walk of eliminate. Conditions: the field lies in memory with its tables; the rows are the call's own. -/
import Derived.Test.YtoilbeadokallaaGreatDoorK08
import Derived.Test.YtoilbeadokallaaGreatDoorK11
import Derived.Deep.DeepCutAuto
import Derived.Deep.CutBlock
import Derived.BigQuiet
import Derived.Deep.QuietTactic
set_option maxHeartbeats 8000000
namespace Go.Proofs.YtoilbeadokallaaGreatDoor
section
set_option maxRecDepth 100000
open Go.RowKit Cw Cw.Gj
def bQ (P:List Nat):List Int:=P.map fun(i:Nat)=>(i:Int)
structure El (w0 wr:World) (b h:Nat) (v1 v2:Value) (A B:List (List Int)) (s1 s2:Nat->Value):Prop where
 kept:ay w0 wr
 m:M2 wr w0.heap.size v1 v2 A B s1 s2
 b0:wr.cell? ⟨h,0,none⟩=some (.pointer (some ⟨b,0,none⟩))
 b1:wr.cell? ⟨h+1,0,none⟩=some v1
 b2:wr.cell? ⟨h+1+1,0,none⟩=some v2
 lt:h+2<wr.heap.size
 h0:w0.heap.size<=h
 sep:∀ x,S2 v1 v2 s1 s2 A.length B.length x->x<h∨h+2<x
theorem S2.bd {w:World} {B0:Nat} {v1 v2:Value} {A B:List (List Int)} {s1 s2:Nat->Value} (h:M2 w B0 v1 v2 A B s1 s2) {x:Nat} (hx:S2 v1 v2 s1 s2 A.length B.length x):B0<=x/\x<w.heap.size:=by
 rcases hx with q|q
 ·exact h.m1.has_lt q
 ·exact h.m2.has_lt q
theorem M2.kept {w w':World} {B0:Nat} {v1 v2:Value} {A B:List (List Int)} {s1 s2:Nat->Value} (h:M2 w B0 v1 v2 A B s1 s2) (k:ay w w'):M2 w' B0 v1 v2 A B s1 s2:=⟨h.m1.kept k,h.m2.kept k,h.ap⟩
section
variable {w0 wr wx:World} {b h:Nat} {v1 v2:Value} {A B:List (List Int)} {s1 s2:Nat->Value}
theorem El.go (e:El w0 wr b h v1 v2 A B s1 s2) (k:ay wr wx):El w0 wx b h v1 v2 A B s1 s2:=
 ⟨e.kept.tr k,e.m.kept k,(k.cell' (by have:=e.lt;omega)).trans e.b0,(k.cell' (by have:=e.lt;omega)).trans e.b1,(k.cell' e.lt).trans e.b2,k.lt e.lt,e.h0,e.sep⟩
theorem El.sep' (e:El w0 wr b h v1 v2 A B s1 s2) {x:Nat} (h1:h<=x) (h2:x<=h+2):¬ S2 v1 v2 s1 s2 A.length B.length x:=fun q=>by have:=e.sep x q;omega
theorem El.new (e:El w0 wr b h v1 v2 A B s1 s2) {x:Nat} (hx:wr.heap.size<=x):¬ S2 v1 v2 s1 s2 A.length B.length x:=fun q=>by have:=(S2.bd e.m q).2;omega
theorem El.step {A' B':List (List Int)} {e':Ending} (e:El w0 wr b h v1 v2 A B s1 s2) (hl1:A'.length=A.length) (hl2:B'.length=B.length) (k:Xr wr w0.heap.size v1 v2 s1 s2 A.length B.length A' B' e' wx):
  ∃ t1 t2,El w0 wx b h v1 v2 A' B' t1 t2/\Fr (S2 v1 v2 s1 s2 A.length B.length) wr wx/\∀ x,S2 v1 v2 t1 t2 A'.length B'.length x->S2 v1 v2 s1 s2 A.length B.length x∨wr.heap.size<=x:=by
 obtain⟨_,t1,t2,k1,k2,k3⟩:=k;have hlt:=e.lt;refine⟨t1,t2,⟨k2.old e.kept fun x q=>(S2.bd e.m q).1,k1,(k2.cell (by omega) (e.sep' (by omega) (by omega))).trans e.b0,(k2.cell (by omega) (e.sep' (by omega) (by omega))).trans e.b1,(k2.cell (by omega) (e.sep' (by omega) (by omega))).trans e.b2,zZ hlt k2.size,e.h0,fun x q=>?_⟩,k2,fun x q=>?_⟩
 ·rw[hl1,hl2] at q;rcases k3 x q with q|q
  ·exact e.sep x q
  ·omega
 ·rw[hl1,hl2] at q;exact k3 x q
end
def Pv (wr:World) (B0 h:Nat) (v1 v2:Value) (n1 n2:Nat) (s1 s2:Nat->Value) (vp:Value) (P:List Nat):Prop:=
 Own wr B0 vp (bQ P)/\∀ g,vp.ownBlock=some g->h+2<g/\¬ S2 v1 v2 s1 s2 n1 n2 g
theorem Pv.kept {wr wx:World} {B0 h:Nat} {v1 v2:Value} {n1 n2:Nat} {s1 s2:Nat->Value} {vp:Value} {P:List Nat} (e:Pv wr B0 h v1 v2 n1 n2 s1 s2 vp P) (k:ay wr wx):Pv wx B0 h v1 v2 n1 n2 s1 s2 vp P:=⟨e.1.kept k,e.2⟩
theorem Pv.step {wr wx:World} {B0 h:Nat} {v1 v2:Value} {n1 n2:Nat} {s1 s2 t1 t2:Nat->Value} {vp:Value} {P:List Nat} (e:Pv wr B0 h v1 v2 n1 n2 s1 s2 vp P) (k:Fr (S2 v1 v2 s1 s2 n1 n2) wr wx) (hs:∀ x,S2 v1 v2 t1 t2 n1 n2 x->S2 v1 v2 s1 s2 n1 n2 x∨wr.heap.size<=x):Pv wx B0 h v1 v2 n1 n2 t1 t2 vp P:=by
 refine⟨?_,fun g hg=>⟨(e.2 g hg).1,fun q=>?_⟩⟩
 ·rcases e.1.form with⟨rfl,e2⟩|⟨g,cap,rfl,_,hg,_⟩
  ·rw[e2];exact bZ _ _
  ·exact e.1.of_block (k.block g hg (e.2 g rfl).2)
 ·rcases hs g q with q|q
  ·exact(e.2 g hg).2 q
  ·have:=aN e.1 hg;omega
theorem gQ {w:World} {a:Addr} {u v:Value} (h:w.cell? a=some u):(w.setCell a v).cell? a=some v:=by
 apply World.cell?_setCell_same;exact h
structure KS (wa wx:World) (pk:Nat) (A:List (List Int)) (r c k:Nat):Prop where
 gb:wa.grownBy wx (some pk)
 cell:wx.cell? ⟨pk,0,none⟩=some (.int .i64 k)
 fz:wx.frozen? ⟨pk,0,none⟩=false
 ge:r<=k
 le:k<=A.length
 low:∀ i,r<=i->i<k->en A i c=0
def KE (A:List (List Int)) (c k:Nat):Prop:=k<A.length->en A k c≠0
structure At (wx:World) (pa r:Nat) (v1 v2:Value) (n1 n2:Nat) (t1 t2:Nat->Value):Prop where
 cell:wx.cell? ⟨pa,0,none⟩=some (.int .i64 r)
 lt:pa<wx.heap.size
 no:¬ S2 v1 v2 t1 t2 n1 n2 pa
theorem At.kept {wx wy:World} {pa r:Nat} {v1 v2:Value} {n1 n2:Nat} {t1 t2:Nat->Value} (e:At wx pa r v1 v2 n1 n2 t1 t2) (k:ay wx wy):At wy pa r v1 v2 n1 n2 t1 t2:=⟨(k.cell' e.lt).trans e.cell,k.lt e.lt,e.no⟩
theorem At.step {wx wy:World} {pa r:Nat} {v1 v2:Value} {n1 n2:Nat} {s1 s2 t1 t2:Nat->Value} (e:At wx pa r v1 v2 n1 n2 s1 s2) (k:Fr (S2 v1 v2 s1 s2 n1 n2) wx wy) (hs:∀ x,S2 v1 v2 t1 t2 n1 n2 x->S2 v1 v2 s1 s2 n1 n2 x∨wx.heap.size<=x):At wy pa r v1 v2 n1 n2 t1 t2:=
 ⟨(k.cell e.lt e.no).trans e.cell,zZ e.lt k.size,fun q=>by
  rcases hs pa q with q|q
  ·exact e.no q
  ·have:=e.lt;omega⟩
theorem KH {w0 wr wx:World} {b h at0 r n1 n2:Nat} {v1 v2 vp:Value} {A B A' B':List (List Int)} {P:List Nat} {s1 s2:Nat->Value} {e':Ending} (e:El w0 wr b h v1 v2 A B s1 s2) (p:Pv wr w0.heap.size h v1 v2 n1 n2 s1 s2 vp P) (a:At wr at0 r v1 v2 n1 n2 s1 s2)
  (hA:A.length=n1) (hB:B.length=n2) (hl1:A'.length=A.length) (hl2:B'.length=B.length) (k:Xr wr w0.heap.size v1 v2 s1 s2 A.length B.length A' B' e' wx):
  ∃ t1 t2,El w0 wx b h v1 v2 A' B' t1 t2/\Pv wx w0.heap.size h v1 v2 n1 n2 t1 t2 vp P/\At wx at0 r v1 v2 n1 n2 t1 t2:=by
 obtain⟨t1,t2,k1,k2,k3⟩:=e.step hl1 hl2 k;subst hA;subst hB;rw[hl1,hl2] at k3;exact⟨t1,t2,k1,p.step k2 k3,a.step k2 k3⟩
theorem aeQ {w0 wr wx:World} {b h n1 n2 g' m cp:Nat} {v1 v2 vp:Value} {A B:List (List Int)} {P Q:List Nat} {s1 s2:Nat->Value} (e:El w0 wr b h v1 v2 A B s1 s2) (p:Pv wr w0.heap.size h v1 v2 n1 n2 s1 s2 vp P) (hA:A.length=n1) (hB:B.length=n2)
  (k:wr.grownBy wx vp.ownBlock) (ho:Own wx w0.heap.size (.slice (some ⟨g',0,none⟩) m cp) (bQ Q)) (hg:vp.ownBlock=some g'∨wr.heap.size<=g'):
  El w0 wx b h v1 v2 A B s1 s2/\Pv wx w0.heap.size h v1 v2 n1 n2 s1 s2 (.slice (some ⟨g',0,none⟩) m cp) Q:=by
 subst hA;subst hB;obtain⟨x,hx,hx1,hx2,hx3⟩:∃ x,wr.grownBy wx (some x)/\w0.heap.size<=x/\h+2<x/\¬ S2 v1 v2 s1 s2 A.length B.length x:=by
  cases q:vp.ownBlock with
  |none=>rw[q] at k;exact⟨wr.heap.size,⟨k.os,k.tape,k.output,k.size,fun i hi _=>k.block i hi (by simp)⟩,e.kept.size,e.lt,e.new (zy _)⟩
  |some g=>rw[q] at k;exact⟨g,k,(aN p.1 q).1,(p.2 g q).1,(p.2 g q).2⟩
 have hlt:=e.lt;refine⟨⟨aH e.kept hx hx1 e.kept.size,⟨e.m.m1.grown hx (fun q=>hx3 (.inl q)),e.m.m2.grown hx (fun q=>hx3 (.inr q)),e.m.ap⟩,(aZ hx (by omega) (by omega)).trans e.b0,(aZ hx (by omega) (by omega)).trans e.b1,(aZ hx (by omega) (by omega)).trans e.b2,zZ hlt hx.size,e.h0,e.sep⟩,ho,fun g q=>?_⟩;have q':g'=g:=by simpa[Value.ownBlock] using q
 subst q';rcases hg with q|q
 ·exact p.2 _ q
 ·exact⟨by omega,e.new q⟩
theorem aeR {o:Cw.Op} {m c:Nat} {A B:List (List Int)} {P:List Nat} (h:¬ fnd A c P.length<A.length):gjP o (m+1) c A B P=gjP o m (c+1) A B P:=by rw[gjP,zx h]
theorem abJ {o:Cw.Op} {m c:Nat} {A B:List (List Int)} {P:List Nat} (h:fnd A c P.length<A.length):gjP o (m+1) c A B P=gjP o m (c+1) (pv2 o A A P.length (fnd A c P.length) c) (pv2 o A B P.length (fnd A c P.length) c) (P++ [c]):=by rw[gjP,zu h]
def KI (w0:World) (o:Cw.Op) (cols:Nat) (v1 v2:Value) (A1 A2:List (List Int)) (e:Ending) (w':World):Prop:=
 ∃ vp d s1 s2,e=.returned (.tuple #[vp,.int .i64 d])/\ay w0 w'/\M2 w' w0.heap.size v1 v2 (gjP o cols 0 A1 A2 []).1 (gjP o cols 0 A1 A2 []).2.1 s1 s2/\Own w' w0.heap.size vp (bQ (gjP o cols 0 A1 A2 []).2.2)
theorem qX (b:Nat) (G:GFd) (t:aK G) (cols IK g1 c1:Nat) (v2:Value) (A1 A2:List (List Int)) (r1 r2:Nat->Value) (w0 w:World) (hg:dW w0 b G) (hk0:ay w0 w) (hm:M2 w w0.heap.size (.slice (some ⟨g1,0,none⟩) A1.length c1) v2 A1 A2 r1 r2) (hw:WF G.q A1 cols) (hL2:Ln A2 IK) (hn:A2=[]∨A2.length=A1.length)
  (hc1:1<=cols) (hc2:cols<=256) (hn1:A1.length<=256) (hd1:1<=IK) (hd2:IK<=256):
  Calls Tryz.prog 131 #[.pointer (some ⟨b,0,none⟩),.slice (some ⟨g1,0,none⟩) A1.length c1,.int .i64 cols,v2] w (KI w0 (opG G) cols (.slice (some ⟨g1,0,none⟩) A1.length c1) v2 A1 A2):=by
 have hmf:∀ (fn:Fn) (first cap:Array Value) (w:World),(Instr.makeFunc fn first cap).run Tryz.prog w=.ok (.func fn first cap) w:=fun _ _ _ _=>rfl;obtain⟨a2,c2,e2⟩:=hm.m2.lenOf;obtain⟨w1,hw1⟩:∃ w1,w1=((w.alloc (.cells #[.pointer (some ⟨b,0,none⟩)] 55)).alloc (.cells #[.slice (some ⟨g1,0,none⟩) A1.length c1] 27)).alloc (.cells #[v2] 27):=⟨_,rfl⟩
 have hk1:ay w w1:=by rw[hw1];exact((ah _ _).tr (ah _ _)).tr (ah _ _)
 obtain⟨h,hh⟩:∃ h,h=w.heap.size:=⟨_,rfl⟩
 have hel:El w0 w1 b h (.slice (some ⟨g1,0,none⟩) A1.length c1) v2 A1 A2 r1 r2:=by
  refine⟨hk0.tr hk1,hm.kept hk1, ?_, ?_, ?_, ?_,by rw[hh];exact hk0.size,fun x q=>?_⟩
  ·rw[hw1,ay.cell' (ah _ _) (by rw[hh];simp;omega),ay.cell' (ah _ _) (by rw[hh];simp)];exact aU hh.symm
  ·rw[hw1,ay.cell' (ah _ _) (by rw[hh];simp)];exact aU (by rw[hh];simp)
  ·rw[hw1];exact aU (by rw[hh];simp)
  ·rw[hw1,hh];simp
  ·have:=(S2.bd hm q).2;omega
 subst e2;go_enter Tryz.func131,Tryz.ntmps131;go_wp2_with(fail)
 rw[<-hw1,<-hh];have hgj:Hid (gjP (opG G) (cols-0) 0 A1 A2 []=gjP (opG G) cols 0 A1 A2 []):=hid rfl;have hpv:Pv w1 w0.heap.size h (.slice (some ⟨g1,0,none⟩) A1.length c1) (.slice a2 A2.length c2) A1.length A2.length r1 r2 (.slice none 0 0) []:=⟨bZ _ _,fun g e=>by cases e⟩
 have hri:=jC hw;have HK:=hid hk1;clear hw1 hh hk1 hm hk0 hw
 go_loopw [10,12,13] (fun vd vp vc wr=>∃ (c:Nat) (d:Int) (A B:List (List Int)) (P:List Nat) (pa:Option Addr) (pc:Nat) (s1 s2:Nat->Value),c<=cols/\vp=.slice pa P.length pc/\vc=.int .i64 c/\vd=.int .i64 d/\El w0 wr b h (.slice (some ⟨g1,0,none⟩) A1.length c1) (.slice a2 A2.length c2) A B s1 s2/\
   Pv wr w0.heap.size h (.slice (some ⟨g1,0,none⟩) A1.length c1) (.slice a2 A2.length c2) A1.length A2.length s1 s2 (.slice pa P.length pc) P/\RI G.q A cols c P/\Hid (A.length=A1.length)/\Hid (B.length=A2.length)/\Ln B IK/\Hid (gjP (opG G) (cols-c) c A B P=gjP (opG G) cols 0 A1 A2 [])) (fun _ _ vc _=>cols- (intOf vc).toNat)
 case atStart=>exact⟨0,1,A1,A2,[],none,0,r1,r2,by omega,rfl,rfl,rfl,hel,hpv,hri,hid rfl,hid rfl,hL2,hgj⟩
 case round=>
  obtain⟨c,d,A,B,P,pa,pc,s1,s2,hcc,rfl,rfl,rfl,he,hp,hr,hA,hB,hLB,hgP⟩:=hrel;clear hel hpv hri hgj hL2;have hb1:=he.b1;have hb2:=he.b2;have hb0:=he.b0;have hPn:=hr.lt;by_cases hlt:c<cols;case neg=>
   have hce:c=cols:=by omega
   subst hce;have HG:=hid hgP;clear hgP;go_wp2_with(fail)
   go_ret2;refine⟨_,_,s1,s2,rfl,he.kept, ?_⟩;have e1:gjP (opG G) (c-c) c A B P=(A,B,P):=by rw[uH];rfl
   rw[<-HG.out.out,e1];exact⟨he.m,hp.1⟩
  by_cases hfull:P.length<A1.length;case neg=>
   go_wp2_with(fail)
   go_ret2;refine⟨_,_,s1,s2,rfl,he.kept, ?_⟩;have e1:gjP (opG G) (cols-c) c A B P=(A,B,P):=Bf _ _ _ (by have:=hA.out;omega);rw[<-hgP.out,e1];exact⟨he.m,hp.1⟩
  go_upto_block 2 with(fail)
  obtain⟨wa,hwa⟩:∃ wa,wa=(wr.alloc (.cells #[.int .i64 P.length] 3)).alloc (.cells #[.int .i64 P.length] 3):=⟨_,rfl⟩
  have hka:ay wr wa:=by rw[hwa];exact(ah _ _).tr (ah _ _)
  obtain⟨at0,hat⟩:∃ x,x=wr.heap.size:=⟨_,rfl⟩
  have ca:wa.cell? ⟨at0,0,none⟩=some (.int .i64 P.length):=by rw[hwa,ay.cell' (ah _ _) (by rw[hat];simp)];exact aU hat.symm
  have ck:wa.cell? ⟨at0+1,0,none⟩=some (.int .i64 P.length):=by rw[hwa];exact aU (by rw[hat];simp)
  have hfz:wa.frozen? ⟨at0+1,0,none⟩=false:=by rw[hwa,hat];simp
  have hsa:at0+1<wa.heap.size:=by rw[hwa,hat];simp
  have hea:=he.go hka;have hpa:=hp.kept hka;have hnew:∀ x,at0<=x->¬ S2 (.slice (some ⟨g1,0,none⟩) A1.length c1) (.slice a2 A2.length c2) s1 s2 A.length B.length x:=fun x hx=>he.new (by omega);have hSh:h+1+1<at0:=by have:=he.lt;omega
  rw[<-hwa,<-hat];have HAT:=hid hat;clear hwa hat hb0 hb1 hb2
  go_cut [] (fun wx=>∃ k:Nat,KS wa wx (at0+1) A P.length c k/\KE A c k)
  case first=>
   go_wp2_with(fail)
   go_loopw [] (fun wx=>∃ k:Nat,KS wa wx (at0+1) A P.length c k) (fun wx=>A1.length- (intOf ((wx.cell? ⟨at0+1,0,none⟩).getD (.int .i64 0))).toNat)
   case atStart=>exact⟨P.length,World.grownBy.refl _ _,ck,hfz,zy _,hPn,fun i h1 h2=>by omega⟩
   case round=>
    obtain⟨k,hks⟩:=hrel;have hkx:=aH hka hks.gb (by have:=HAT.out;omega) hka.size;have hex:=he.go hkx;have ckx:=hks.cell;have fkx:=hks.fz;have hb1:=hex.b1;have HAo:=hA.out;by_cases hk:k<A.length
    ·obtain⟨bk,ck2,e1,_⟩:=hex.m.m1.og hk (by intro e;have:=hr.wf k hk;rw[e] at this;simp at this;omega);have x1:=hex.m.m1.cell hk;have x2:=hex.m.m1.row k hk;rw[hr.wf k hk] at e1;rw[e1] at x1 x2;have x3:=x2.cell (i:=c) (by rw[hr.wf k hk];exact hlt);obtain⟨z,hz⟩:∃ z,z=(Gj.row A k).getD c 0:=⟨_,rfl⟩
     rw[<-hz] at x3;have HZ:Hid (en A k c=z):=hid hz.symm;have hkk:(k:Int)< (A1.length:Int):=by omega
     have hcl:(c:Int)< (cols:Int):=by omega
     have HKS:=hid hks;clear hz hks x2 e1 HAo;by_cases hz0:z=0
     ·have tz:(z==0)=true:=by simpa using hz0
      have HZ0:=hid hz0;clear hz0;go_wp2_with(fail)
      have cs:=gQ (v:=.int .i64 ((k:Int)+1)) ckx;go_roundw;case rel=>
       refine⟨k+1,aQ HKS.out.gb 0 _,cs,(by rw[World.frozen?_setCell];exact fkx),Nat.le_succ_of_le HKS.out.ge,hk,fun i h1 h2=>?_⟩;by_cases e:i=k
       ·rw[e,HZ.out];exact HZ0.out
       ·exact HKS.out.low i h1 (by omega)
      case measure=>
       rw[cs,ckx];simp[intOf];omega
     ·have tz:(z==0)=false:=by simpa using hz0
      have HZ0:=hid hz0;clear hz0;go_wp2_with(fail)
      go_meet;case rel=>exact⟨k,HKS.out,fun _=>by rw[HZ.out];exact HZ0.out⟩
    ·have hkk:¬ (k:Int)< (A1.length:Int):=by omega
     have HKS:=hid hks;clear hks;go_wp2_with(fail)
     go_meet;case rel=>exact⟨k,HKS.out,fun h=>absurd h hk⟩
  case rest=>
   obtain⟨k,hks,hke⟩:=hcut;obtain⟨wx,hwx⟩:∃ x,x=wc:=⟨_,rfl⟩
   rw[<-hwx] at hks ⊢;clear hwx;have hkx:=aH hka hks.gb (by have:=HAT.out;omega) hka.size;have hex:=he.go hkx;have hpx:=hp.kept hkx;have ckx:=hks.cell;have cax:=(aZ (o:=0) hks.gb (x:=at0) (by omega) (by omega)).trans ca;have anv:=hks.gb.size;have hfe:=Nq hks.ge hks.le hks.low hke hPn;have hkle:=hks.le;have akR:=hks.ge;have HKS:=hid hks;have HKE:=hid hke;clear hks hke ca ck hea hpa he hp;have HAo:=hA.out;by_cases hkn:k=A.length
   ·have hno:¬ fnd A c P.length<A.length:=fun q=>by have:=hfe.1.1 q;omega
    have HR:=hid (hr.none hno);have HG:Hid (gjP (opG G) (cols- (c+1)) (c+1) A B P=gjP (opG G) cols 0 A1 A2 []):=hid (by
     rw[<-hgP.out,show cols-c=cols- (c+1)+1 by omega,aeR hno])
    have tk:((k:Int)==(A1.length:Int))=true:=by simp;omega
    have hb1:=hex.b1;clear hfe hno hkn hkle akR HAo;go_wp2_with(fail)
    go_roundw;case rel=>exact⟨c+1,d,A,B,P,pa,pc,s1,s2,by omega,rfl,by go_num,rfl,hex,hpx,HR.out,hA,hB,hLB,HG⟩
    case measure=>simp[intOf];omega
   have hkA:k<A.length:=by omega
   have aji:=hfe.2 hkA;have tk:((k:Int)==(A1.length:Int))=false:=by simp;omega
   have hb1:=hex.b1;clear hfe;have hBn:B=[]∨B.length=A.length:=by
    rcases hn with e|e
    ·left;have:=hB.out;rw[e] at this;exact zO this
    ·right;rw[hB.out,hA.out,e]
   have ajj:At wx at0 P.length (.slice (some ⟨g1,0,none⟩) A1.length c1) (.slice a2 A2.length c2) A1.length A2.length s1 s2:=⟨cax,by omega,by have:=hnew at0 (zy _);rw[hA.out,hB.out] at this;exact this⟩
   go_upto_if 58 with(fail)
   go_cut [10] (fun vd wx=>∃ (d2:Int) (t1 t2:Nat->Value),vd=.int .i64 d2/\El w0 wx b h (.slice (some ⟨g1,0,none⟩) A1.length c1) (.slice a2 A2.length c2) (dS A P.length k) (dS B P.length k) t1 t2/\
    Pv wx w0.heap.size h (.slice (some ⟨g1,0,none⟩) A1.length c1) (.slice a2 A2.length c2) A1.length A2.length t1 t2 (.slice pa P.length pc) P/\At wx at0 P.length (.slice (some ⟨g1,0,none⟩) A1.length c1) (.slice a2 A2.length c2) A1.length A2.length t1 t2)
   case first=>
    by_cases hkr:k=P.length
    ·have tz:((k:Int) != (P.length:Int))=false:=by simp;omega
     have HKR:=hid hkr;clear hkr;go_wp2_with(fail)
     go_meet;case rel=>exact⟨d,s1,s2,rfl,by rw[HKR.out,CJ,CJ];exact hex,hpx,ajj⟩
    ·have tz:((k:Int) != (P.length:Int))=true:=by simp;omega
     have ahH:P.length≠k:=fun e=>hkr e.symm;have HKR:=hid ahH;have hb2:=hex.b2;have q2:=And.intro hex.lt (hex.sep' (x:=h+1+1) (by omega) (by omega));have qk:=And.intro (show at0+1<wx.heap.size by omega) (hnew (at0+1) (by omega));have qa:=And.intro (show at0<wx.heap.size by omega) (hnew at0 (zy _));have hPA:P.length<A.length:=by omega
     clear hkr ahH;go_wp2_with(fail)
     refine(SV (h+1) (h+1+1) _ _ A B s1 s2 wx (at0+1) at0 k P.length hb1 hb2 ckx cax w0.heap.size hex.m hBn hkA hPA HKR.out q2 qk qa).mono ?_;intro e w2 ho;obtain rfl:=ho.1;obtain⟨t1,t2,el2,aeS,at2⟩:=KH hex hpx ajj hA.out hB.out (aT _ _ _) (aT _ _ _) ho;have hb0:=el2.b0;have hg2:=hg.kept el2.kept;clear ho;go_wp2_with(go_at_call 71;refine(y7 b G d _ hg2 t).mono ?_;rintro e w3 ⟨rfl,m1,rfl⟩)
     go_meet;case rel=>exact⟨iE G d,t1,t2,rfl,el2.go (aB _ _),aeS.kept (aB _ _),at2.kept (aB _ _)⟩
   case rest=>
    obtain⟨d2,t1,t2,rfl,el,pv,att⟩:=hcut;obtain⟨wy,hwy⟩:∃ x,x=wc:=⟨_,rfl⟩
    rw[<-hwy] at el pv att ⊢;have hPA:P.length<A.length:=by omega
    obtain⟨S,hS⟩:∃ S,S=dS A P.length k:=⟨_,rfl⟩
    obtain⟨T,hT⟩:∃ T,T=dS B P.length k:=⟨_,rfl⟩
    have hwS:WF G.q S cols:=by rw[hS];exact SI hr.w hPA hkA
    have hSl:S.length=A.length:=by rw[hS];exact aT _ _ _
    have hTl:T.length=B.length:=by rw[hT];exact aT _ _ _
    have hLT:Ln T IK:=by
     rw[hT];refine aeO hLB (fun e=>?_) (fun e=>?_)
     ·rcases hBn with q|q
      ·exact absurd q e
      ·omega
     ·rcases hBn with q|q
      ·exact absurd q e
      ·omega
    have hxk:en S P.length c=en A k c:=by rw[hS,ji hPA,zu rfl]
    rw[<-hS,<-hT] at el;have hPS:P.length<S.length:=by omega
    have hrow:(Gj.row S P.length).length=cols:=hwS.wf _ hPS;obtain⟨br,cr,e1,_⟩:=el.m.m1.og hPS (by intro e;rw[e] at hrow;simp at hrow;omega);have x1:=el.m.m1.cell hPS;have x2:=el.m.m1.row _ hPS;rw[hrow] at e1;rw[e1] at x1 x2;have x3:=x2.cell (i:=c) (by rw[hrow];exact hlt);have hxb:=hwS.bd P.length c hPS hlt;obtain⟨x,hx⟩:∃ x,x=en S P.length c:=⟨_,rfl⟩
    have hx3:wy.cell? ⟨br,c,none⟩=some (.int .i64 x):=by rw[hx];exact x3
    rw[<-hx] at hxb hxk;have hx0:inn G.q x≠0:=by rw[bI hxb,hxk];exact HKE.out hkA
    have hb0:=el.b0;have hb1:=el.b1;have hat:=att.cell;have hgw:=hg.kept el.kept;have hcl:(c:Int)< (cols:Int):=by omega
    have hPl:(P.length:Int)< (A1.length:Int):=by omega
    have HX:=hid hx;have HX0:=hid hx0;have HS:=hid hS;have HT:=hid hT;have HSl:=hid hSl;have HTl:=hid hTl;have HPI:=hid aji;have HXK:=hid hxk;have E1:=hid e1;clear hx hx0 hS hT hSl hTl hwy x2 x3 e1 hrow hxk aji HAo;go_upto_region 15 with(fail)
    go_quiet((go_at_call 94;refine Calls.quiet_of (mul_any b G d2 x _ (hgw.drewN _) t)));go_upto_region 16 with(fail)
    obtain⟨wz,hwz⟩:∃ x,x=wy.drewN nq:=⟨_,rfl⟩
    rw[<-hwz];have hkz:ay wy wz:=by rw[hwz];exact aB _ _
    have elz:=el.go hkz;have pvz:=pv.kept hkz;have atz:=att.kept hkz;clear hwz;have x1z:=elz.m.m1.cell hPS;have x3z:wz.cell? ⟨br,c,none⟩=some (.int .i64 x):=(hkz.cell' (aN (el.m.m1.row _ hPS) (by rw[E1.out];rfl)).2).trans hx3;rw[E1.out] at x1z;have hgz:=hg.kept elz.kept;clear el pv att hkz hb0 hb1 hat hgw x1 hx3;have hb0:=elz.b0;have hb1:=elz.b1;have hat:=atz.cell;have y1:=World.new_ne wz _ hb0;have y2:=World.new_ne wz _ hb1;have y3:=World.new_ne wz _ hat;have y4:=World.new_ne wz _ x1z;have y5:=World.new_ne wz _ x3z
    go_cut [16,17] (fun s16 s17 wx=>∃ at1:Nat,s16=.pointer (some ⟨at1,0,none⟩)/\s17=.int .i64 0/\wx.cell? ⟨at1,0,none⟩=some (.int .i64 (fG G x))/\at1<wx.heap.size/\wz.heap.size<=at1/\ay wz wx)
    case first=>
     have cz:∀ n,((wz.drewN n).alloc (.cells #[.int .i64 0] 3)).cell? ⟨wz.heap.size,0,none⟩=some (.int .i64 0):=fun n=>aU (by simp);have fz:∀ n,((wz.drewN n).alloc (.cells #[.int .i64 0] 3)).frozen? ⟨wz.heap.size,0,none⟩=false:=fun n=>World.frozen?_alloc_at _ _ _ _ (by simp);have CZ:=hid cz;have CZ2:Hid (∀ n,((wz.alloc (.cells #[.int .i64 0] 3)).drewN n).cell? ⟨wz.heap.size,0,none⟩=some (.int .i64 0)):=hid fun n=>by simp
     refine wp_region_noPanic ?_;refine wp_region_held_drew (S:=fun w'=>w'.cell? ⟨h,0,none⟩=some (.pointer (some ⟨b,0,none⟩))/\w'.cell? ⟨h+1,0,none⟩=some (.slice (some ⟨g1,0,none⟩) A1.length c1)/\w'.cell? ⟨at0,0,none⟩=some (.int .i64 P.length)/\w'.cell? ⟨g1,P.length,none⟩=some (.slice (some ⟨br,0,none⟩) cols cr)/\w'.cell? ⟨br,c,none⟩=some (.int .i64 x)) (by kernel_rfl) ?_ (fun hHeld=>?_)
     ·(go_keep;done)
     refine tkH 0 ?_;try simp only[bU]
     refine tkH 1 ?_;try simp only[bU]
     refine tkH 2 ?_;try simp only[bU]
     refine tkH 3 ?_;try simp only[bU]
     refine tkH 4 ?_;try simp only[bU]
     refine tkH 5 ?_;try simp only[bU]
     refine tkH 6 ?_;try simp only[bU]
     refine tkH 7 ?_;try simp only[bU]
     refine wpAnyH_ready (rs:=[8,12]) (by kernel_rfl) (by simp) ?_;refine AllReadyH.cons (o:=?anw) ?akS (fun K hK=>?akT) (AllReadyH.cons (o:=?anx) ?akU (fun K hK=>?akV) AllReadyH.nil);case akS=>(simp only[yX,yt,yZ];rfl)
     case akU=>(simp only[yX,yt,yZ];rfl)
     case akT=>
      go_simp;go_at_call 178;(with_reducible refine(pX b G x _ (by exact hgz.drew) t HX0.out).mono ?_);rintro e w5 ⟨rfl,n5,rfl⟩;try go_wp2_with(fail)
      refine hK.out _ _ ?_ (fun hHeld=>?_)
      ·assumption
      clear hK K;try simp only[bU]
      refine tkH 9 ?_;try simp only[bU]
      refine tkH 10 ?_;try simp only[bU]
      refine tkH 11 ?_;try simp only[bU]
      refine rdH 12 (fun K hK=>?_);go_simp;refine hK.out _ _ ?_ (fun hHeld=>?_)
      ·(go_keep;done)
      clear hK K;try simp only[bU]
      refine rdH 13 (fun K hK=>?_);go_simp;refine hK.out _ _ ?_ (fun hHeld=>?_)
      ·(go_keep;done)
      clear hK K;try simp only[bU]
      refine tkH 14 ?_;try simp only[bU]
      refine wpAnyH_done (by kernel_rfl) ?_ _;refine NoPanic.normal ?_;go_wp2_with(fail)
      go_meet;case rel=>exact⟨wz.heap.size,rfl,rfl,by exact gQ (CZ.out _),by(simp;done),zy _,by exact Below.setCell ((aB _ _).tr (ah _ _)) (p:=⟨wz.heap.size,0,none⟩) (zy _) _⟩
     case akV=>
      go_simp;refine hK.out _ _ ?_ (fun hHeld=>?_)
      ·(go_keep;done)
      clear hK K;try simp only[bU]
      refine rdH 8 (fun K hK=>?_);go_simp;go_at_call 178;(with_reducible refine(pX b G x _ (by exact(hgz.kept (ah _ _)).drew) t HX0.out).mono ?_);rintro e w5 ⟨rfl,n5,rfl⟩;try go_wp2_with(fail)
      refine hK.out _ _ ?_ (fun hHeld=>?_)
      ·assumption
      clear hK K;try simp only[bU]
      refine tkH 9 ?_;try simp only[bU]
      refine tkH 10 ?_;try simp only[bU]
      refine tkH 11 ?_;try simp only[bU]
      refine rdH 13 (fun K hK=>?_);go_simp;refine hK.out _ _ ?_ (fun hHeld=>?_)
      ·(go_keep;done)
      clear hK K;try simp only[bU]
      refine tkH 14 ?_;try simp only[bU]
      refine wpAnyH_done (by kernel_rfl) ?_ _;refine NoPanic.normal ?_;go_wp2_with(fail)
      go_meet;case rel=>exact⟨wz.heap.size,rfl,rfl,by exact gQ (CZ.out _),by(simp;done),zy _,by exact Below.setCell ((aB _ _).tr (ah _ _)) (p:=⟨wz.heap.size,0,none⟩) (zy _) _⟩
    case rest=>
     obtain⟨at1,rfl,rfl,ci,hai,hai2,hkw⟩:=hcut;obtain⟨wv,hwv⟩:∃ x,x=wc:=⟨_,rfl⟩
     rw[<-hwv] at ci hai hkw ⊢;have elv:=elz.go hkw;have pvv:=pvz.kept hkw;have atv:=atz.kept hkw;have hnv:¬ S2 (.slice (some ⟨g1,0,none⟩) A1.length c1) (.slice a2 A2.length c2) t1 t2 S.length T.length at1:=elz.new hai2;have hSA:S.length=A1.length:=by rw[HSl.out,hA.out]
     have hTA:T.length=A2.length:=by rw[HTl.out,hB.out]
     have hTn:T=[]∨T.length=S.length:=by
      rcases hBn with q|q
      ·left;have:=HTl.out;rw[q] at this;exact zO this
      ·right;rw[HTl.out,HSl.out,q]
     have HIV:Hid ((opG G).inv (en S P.length c)=fG G x):=hid (by rw[<-HX.out];rfl);obtain⟨iv,hiv⟩:∃ iv,iv=fG G x:=⟨_,rfl⟩
     rw[<-hiv] at ci HIV;have HSA:=hid hSA;have HTA:=hid hTA;clear hwv hkw hb0 hb1 hat y1 y2 y3 y4 y5 x1z x3z hgz elz pvz atz hSA hTA hiv;have hb0:=elv.b0;have hb1:=elv.b1;have hat:=atv.cell;go_upto_if 92 with(fail)
     go_cut [] (fun wx=>∃ (t1 t2:Nat->Value),El w0 wx b h (.slice (some ⟨g1,0,none⟩) A1.length c1) (.slice a2 A2.length c2) (scR (opG G) S S P.length c) (scR (opG G) S T P.length c) t1 t2/\Pv wx w0.heap.size h (.slice (some ⟨g1,0,none⟩) A1.length c1) (.slice a2 A2.length c2) A1.length A2.length t1 t2 (.slice pa P.length pc) P/\At wx at0 P.length (.slice (some ⟨g1,0,none⟩) A1.length c1) (.slice a2 A2.length c2) A1.length A2.length t1 t2)
     case first=>
      by_cases hi1:iv=1
      ·have tz:(iv != 1)=false:=by simpa using hi1
       have HI:=hid hi1;clear hi1;go_wp2_with(fail)
       go_meet;case rel=>exact⟨t1,t2,by rw[Ky (by rw[HIV.out,HI.out]),Ky (by rw[HIV.out,HI.out])];exact elv,pvv,atv⟩
      ·have tz:(iv != 1)=true:=by simpa using hi1
       have HI:=hid hi1;clear hi1;have hb2:=elv.b2;have q2:=And.intro elv.lt (elv.sep' (x:=h+1+1) (by omega) (by omega));have qg:=And.intro (show h<wv.heap.size by have:=elv.lt;omega) (elv.sep' (x:=h) (by omega) (by omega));have qi:=And.intro hai hnv;have qa:=And.intro atv.lt (show¬S2 (.slice (some ⟨g1,0,none⟩) A1.length c1) (.slice a2 A2.length c2) t1 t2 S.length T.length at0 by rw[HSA.out,HTA.out];exact atv.no);have hr1:(Gj.row S P.length).length<=1000:=by rw[hwS.wf _ hPS];omega
       have hr2:(Gj.row T P.length).length<=1000:=by
        by_cases q:P.length<T.length
        ·rw[hLT _ q];omega
        ·rw[Kv (by omega)];simp
       go_wp2_with(fail)
       refine(Xt b G (h+1) (h+1+1) _ _ S T t1 t2 w0 wv t h at1 at0 P.length iv hg elv.kept hb1 hb2 hb0 ci hat elv.m hTn hPS hr1 hr2 q2 qg qi qa).mono ?_;intro e w2 ho;obtain rfl:=ho.1;have HO:Hid (Xr wv w0.heap.size (.slice (some ⟨g1,0,none⟩) A1.length c1) (.slice a2 A2.length c2) t1 t2 S.length T.length (scR (opG G) S S P.length c) (scR (opG G) S T P.length c) (.returned (.tuple #[])) w2):=hid (by
        rw[SH (by rw[HIV.out];exact HI.out),SH (by rw[HIV.out];exact HI.out),HIV.out];exact ho)
       obtain⟨u1,u2,el2,aeS,at2⟩:=KH elv pvv atv HSA.out HTA.out (fB _ _ _ _ _) (fB _ _ _ _ _) HO.out;clear ho hr1 hr2 q2 qg qi qa;go_wp2_with(fail)
       go_meet;case rel=>exact⟨u1,u2,el2,aeS,at2⟩
     case rest=>
      obtain⟨u1,u2,el,pv,att⟩:=hcut;obtain⟨S',hS'⟩:∃ X,X=scR (opG G) S S P.length c:=⟨_,rfl⟩
      obtain⟨T',hT'⟩:∃ X,X=scR (opG G) S T P.length c:=⟨_,rfl⟩
      rw[<-hS',<-hT'] at el;have ajk:S'.length=A1.length:=by rw[hS',fB];exact HSA.out
      have ajl:T'.length=A2.length:=by rw[hT',fB];exact HTA.out
      have akW:Ln S' cols:=by rw[hS'];exact SK hwS.wf
      have ajm:Ln T' IK:=by rw[hT'];exact SK hLT
      have HS':=hid hS';have HT':=hid hT';have ahI:=hid ajk;have Wq:=hid ajl;have ajn:P.length<A1.length:=hfull;clear hS' hT' ajk ajl elv pvv atv hb0 hb1 hat ci;have hb1:=el.b1;go_wp2_with(fail)
      go_loopw [98] (fun vi wx=>∃ (i:Nat) (t1 t2:Nat->Value),i<=A1.length/\vi=.int .i64 i/\El w0 wx b h (.slice (some ⟨g1,0,none⟩) A1.length c1) (.slice a2 A2.length c2) (st2 (opG G) S' S' P.length c i) (st2 (opG G) S' T' P.length c i) t1 t2/\Pv wx w0.heap.size h (.slice (some ⟨g1,0,none⟩) A1.length c1) (.slice a2 A2.length c2) A1.length A2.length t1 t2 (.slice pa P.length pc) P/\At wx at0 P.length (.slice (some ⟨g1,0,none⟩) A1.length c1) (.slice a2 A2.length c2) A1.length A2.length t1 t2) (fun vi _=>A1.length- (intOf vi).toNat)
      case atStart=>exact⟨0,u1,u2,by omega,rfl,by rw[FT,FT];exact el,pv,att⟩
      case round=>
       obtain⟨i,t1,t2,hi,rfl,elr,pvr,atr⟩:=hrel;clear el pv att hb1;by_cases hin:i<A1.length
       ·have hX1:(st2 (opG G) S' S' P.length c i).length=A1.length:=by rw[bK];exact ahI.out
        have hX2:(st2 (opG G) S' T' P.length c i).length=A2.length:=by rw[bK];exact Wq.out
        have hiS:i<S'.length:=by rw[ahI.out];exact hin
        have ajo:P.length<S'.length:=by rw[ahI.out];exact ajn
        have ajp:Ln (st2 (opG G) S' S' P.length c i) cols:=Ns akW (fun _=>ajo);have ajq:Ln (st2 (opG G) S' T' P.length c i) IK:=Ns ajm (fun e=>by
         rw[Wq.out];rcases hn with q|q
         ·rw[q] at Wq;exact absurd (zO Wq.out) e
         ·omega)
        have aeT:Gj.row (st2 (opG G) S' S' P.length c i) i=Gj.row S' i:=by rw[jo hiS,zx (by omega)]
        have hiX:i< (st2 (opG G) S' S' P.length c i).length:=by rw[hX1];exact hin
        have hri:=ajp i hiX;obtain⟨bi,ci2,e1,_⟩:=elr.m.m1.og hiX (by intro e;rw[e] at hri;simp at hri;omega);have x1:=elr.m.m1.cell hiX;have x2:=elr.m.m1.row i hiX;rw[hri] at e1;rw[e1] at x1 x2;have x3:=x2.cell (i:=c) (by rw[hri];exact hlt);rw[aeT] at x3;obtain⟨z,hz⟩:∃ z,z=(Gj.row S' i).getD c 0:=⟨_,rfl⟩
        rw[<-hz] at x3;have HZ:Hid (en S' i c=z):=hid hz.symm;have hb0:=elr.b0;have hb1:=elr.b1;have hat:=atr.cell;have hin':(i:Int)< (A1.length:Int):=by omega
        have agJ:=hid hX1;have agK:=hid hX2;have ahJ:=hid hri;have hkI:=ah wr (.cells #[.int .i64 i] 3);have f1:=(hkI.cell' (o:=0) (show h+1<wr.heap.size by have:=elr.lt;omega)).trans hb1;have f2:=(hkI.cell' (o:=i) (World.ownsRow.lt elr.m.m1.out g1 rfl).2).trans x1;have f3:=(hkI.cell' (o:=c) (aN x2 rfl).2).trans x3;have f4:(wr.alloc (.cells #[.int .i64 i] 3)).cell? ⟨wr.heap.size,0,none⟩=some (.int .i64 i):=aU rfl;clear hz x2 e1 hX1 hX2 hri aeT hkI;obtain⟨wb,hwb⟩:∃ x,x=(wr.alloc (.cells #[.int .i64 i] 3)).alloc (.cells #[.int .i64 z] 3):=⟨_,rfl⟩
        have hkb:ay wr wb:=by rw[hwb];exact(ah _ _).tr (ah _ _)
        obtain⟨ai,hai⟩:∃ x,x=wr.heap.size:=⟨_,rfl⟩
        have cI:wb.cell? ⟨ai,0,none⟩=some (.int .i64 i):=by rw[hwb,ay.cell' (ah _ _) (by rw[hai];simp)];exact aU hai.symm
        have cX:wb.cell? ⟨ai+1,0,none⟩=some (.int .i64 z):=by rw[hwb];exact aU (by rw[hai];simp)
        have hsb:ai+1<wb.heap.size:=by rw[hwb,hai];simp
        have elb:=elr.go hkb;have pvb:=pvr.kept hkb;have atb:=atr.kept hkb;have d0:=elb.b0;have d1:=elb.b1;have d2:=elb.b2;have dat:=atb.cell;have hnI:∀ x,ai<=x->¬ S2 (.slice (some ⟨g1,0,none⟩) A1.length c1) (.slice a2 A2.length c2) t1 t2 (st2 (opG G) S' S' P.length c i).length (st2 (opG G) S' T' P.length c i).length x:=fun x hx=>elr.new (by rw[<-hai];exact hx);by_cases hir:i=P.length
        ·have tz:((i:Int) != (P.length:Int))=false:=by simp;omega
         have HS1:Hid (st2 (opG G) S' S' P.length c (i+1)=st2 (opG G) S' S' P.length c i):=hid (oU (.inl hir));have HS2:Hid (st2 (opG G) S' T' P.length c (i+1)=st2 (opG G) S' T' P.length c i):=hid (oU (.inl hir));clear hir;go_upto_region 23 with(fail)
         rw[<-hwb,<-hai];clear hwb x1 x3 hb0 hb1 hat hai f1 f2 f3 f4;go_wp2_with(fail)
         go_roundw;case rel=>exact⟨i+1,t1,t2,by omega,by go_num,by rw[HS1.out,HS2.out];exact elb,pvb,atb⟩
         case measure=>simp[intOf];omega
        have tz:((i:Int) != (P.length:Int))=true:=by simp;omega
        by_cases hz0:z=0
        ·have tz2:(z != 0)=false:=by simpa using hz0
         have HS1:Hid (st2 (opG G) S' S' P.length c (i+1)=st2 (opG G) S' S' P.length c i):=hid (oU (.inr (by rw[HZ.out];exact hz0)));have HS2:Hid (st2 (opG G) S' T' P.length c (i+1)=st2 (opG G) S' T' P.length c i):=hid (oU (.inr (by rw[HZ.out];exact hz0)));clear hir hz0;go_upto_region 23 with(fail)
         rw[<-hwb,<-hai];clear hwb x1 x3 hb0 hb1 hat hai f1 f2 f3 f4;go_wp2_with(fail)
         go_roundw;case rel=>exact⟨i+1,t1,t2,by omega,by go_num,by rw[HS1.out,HS2.out];exact elb,pvb,atb⟩
         case measure=>simp[intOf];omega
        have tz2:(z != 0)=true:=by simpa using hz0
        have HIR:=hid hir;have HZ0:=hid hz0;have hXn:st2 (opG G) S' T' P.length c i=[]∨(st2 (opG G) S' T' P.length c i).length=(st2 (opG G) S' S' P.length c i).length:=by
         rcases hn with q|q
         ·left;have:=agK.out;rw[q] at this;exact zO this
         ·right;rw[agK.out,agJ.out,q]
        have hPX:P.length< (st2 (opG G) S' S' P.length c i).length:=by rw[agJ.out];exact ajn
        have hr1:Gj.row (st2 (opG G) S' S' P.length c i) i≠ []/\(Gj.row (st2 (opG G) S' S' P.length c i) i).length<=1000/\(Gj.row (st2 (opG G) S' S' P.length c i) P.length).length=(Gj.row (st2 (opG G) S' S' P.length c i) i).length:=by
         refine⟨fun e=>?_, ?_, ?_⟩
         ·have:=ahJ.out;rw[e] at this;simp at this;omega
         ·rw[ahJ.out];omega
         ·rw[ahJ.out,ajp _ hPX]
        have hr2:st2 (opG G) S' T' P.length c i≠ []->Gj.row (st2 (opG G) S' T' P.length c i) i≠ []/\(Gj.row (st2 (opG G) S' T' P.length c i) i).length<=1000/\(Gj.row (st2 (opG G) S' T' P.length c i) P.length).length=(Gj.row (st2 (opG G) S' T' P.length c i) i).length:=fun q=>by
         have hl:(st2 (opG G) S' T' P.length c i).length=(st2 (opG G) S' S' P.length c i).length:=hXn.resolve_left q;have h1:=ajq i (by omega);have h2:=ajq P.length (by omega);refine⟨fun e=>?_, ?_, ?_⟩
         ·rw[e] at h1;simp at h1;omega
         ·rw[h1];omega
         ·rw[h1,h2]
        have q2:=And.intro elb.lt (elb.sep' (x:=h+1+1) (by omega) (by omega));have qg:=And.intro (show h<wb.heap.size by have:=elb.lt;omega) (elb.sep' (x:=h) (by omega) (by omega));have qi:=And.intro (show ai<wb.heap.size by omega) (hnI ai (zy _));have qx:=And.intro hsb (hnI (ai+1) (by omega));have qa:=And.intro atb.lt (show¬S2 (.slice (some ⟨g1,0,none⟩) A1.length c1) (.slice a2 A2.length c2) t1 t2 (st2 (opG G) S' S' P.length c i).length (st2 (opG G) S' T' P.length c i).length at0 by rw[agJ.out,agK.out];exact atb.no);have HO:∀ w2,Xr wb w0.heap.size (.slice (some ⟨g1,0,none⟩) A1.length c1) (.slice a2 A2.length c2) t1 t2 (st2 (opG G) S' S' P.length c i).length (st2 (opG G) S' T' P.length c i).length ((st2 (opG G) S' S' P.length c i).set i (iP (opG G) (iE G z) (Gj.row (st2 (opG G) S' S' P.length c i) P.length) (Gj.row (st2 (opG G) S' S' P.length c i) i))) ((st2 (opG G) S' T' P.length c i).set i (iP (opG G) (iE G z) (Gj.row (st2 (opG G) S' T' P.length c i) P.length) (Gj.row (st2 (opG G) S' T' P.length c i) i))) (.returned (.tuple #[])) w2->
          ∃ u1 u2,El w0 w2 b h (.slice (some ⟨g1,0,none⟩) A1.length c1) (.slice a2 A2.length c2) (st2 (opG G) S' S' P.length c (i+1)) (st2 (opG G) S' T' P.length c (i+1)) u1 u2/\Pv w2 w0.heap.size h (.slice (some ⟨g1,0,none⟩) A1.length c1) (.slice a2 A2.length c2) A1.length A2.length u1 u2 (.slice pa P.length pc) P/\At w2 at0 P.length (.slice (some ⟨g1,0,none⟩) A1.length c1) (.slice a2 A2.length c2) A1.length A2.length u1 u2:=fun w2 ho=>by
         have e1:(st2 (opG G) S' S' P.length c i).set i (iP (opG G) (iE G z) (Gj.row (st2 (opG G) S' S' P.length c i) P.length) (Gj.row (st2 (opG G) S' S' P.length c i) i))=st2 (opG G) S' S' P.length c (i+1):=by
          rw[<-HZ.out];exact CG ajo hiS HIR.out (by rw[HZ.out];exact HZ0.out)
         have e2:(st2 (opG G) S' T' P.length c i).set i (iP (opG G) (iE G z) (Gj.row (st2 (opG G) S' T' P.length c i) P.length) (Gj.row (st2 (opG G) S' T' P.length c i) i))=st2 (opG G) S' T' P.length c (i+1):=by
          rcases hn with q|q
          ·have:T'=[]:=by have:=Wq.out;rw[q] at this;exact zO this
           rw[this];rfl
          ·rw[<-HZ.out];exact CG (by rw[Wq.out];omega) (by rw[Wq.out];omega) HIR.out (by rw[HZ.out];exact HZ0.out)
         rw[e1,e2] at ho;exact KH elb pvb atb agJ.out agK.out (by rw[bK,bK]) (by rw[bK,bK]) ho
        have HOO:=hid HO;clear HO hir hz0;go_upto_region 23 with(fail)
        rw[<-hwb,<-hai];clear hwb x1 x3 hb0 hb1 hat hai f1 f2 f3 f4;go_wp2_with(fail)
        refine(Xu b G (h+1) (h+1+1) _ _ _ _ t1 t2 w0 wb t h ai (ai+1) at0 i P.length z hg elb.kept d1 d2 d0 cI cX dat elb.m hXn hiX hPX HIR.out hr1 hr2 q2 qg qi qx qa).mono ?_;intro e w2 ho;obtain rfl:=ho.1;obtain⟨u1,u2,el2,aeS,at2⟩:=HOO.out w2 ho;clear ho hr1 hr2 q2 qg qi qx qa;go_wp2_with(fail)
        go_roundw;case rel=>exact⟨i+1,u1,u2,by omega,by go_num,el2,aeS,at2⟩
        case measure=>simp[intOf];omega
       ·have hie:i=A1.length:=by omega
        have HP:Hid (st2 (opG G) S' S' P.length c i=pv2 (opG G) A A P.length (fnd A c P.length) c):=hid (by
         rw[hie,HPI.out,pv2,HS'.out,HS.out,hA.out])
        have HQ:Hid (st2 (opG G) S' T' P.length c i=pv2 (opG G) A B P.length (fnd A c P.length) c):=hid (by
         rw[hie,HPI.out,pv2,HS'.out,HT'.out,HS.out,HT.out];rcases hBn with q|q
         ·rw[q];rfl
         ·rw[q,hA.out])
        rw[HP.out,HQ.out] at elr;have hfk:fnd A c P.length<A.length:=by rw[HPI.out];exact hkA
        have HR:Hid (RI G.q (pv2 (opG G) A A P.length (fnd A c P.length) c) cols (c+1) (P++ [c])):=hid (by rw[FU (by omega)];exact hr.step t hlt hfk);have HG:Hid (gjP (opG G) (cols- (c+1)) (c+1) (pv2 (opG G) A A P.length (fnd A c P.length) c) (pv2 (opG G) A B P.length (fnd A c P.length) c) (P++ [c])=gjP (opG G) cols 0 A1 A2 []):=hid (by
         rw[<-hgP.out,show cols-c=cols- (c+1)+1 by omega,abJ hfk])
        have HLQ:Ln (pv2 (opG G) A B P.length (fnd A c P.length) c) IK:=by
         rw[<-HQ.out];exact Ns ajm (fun e=>by
          rw[Wq.out];rcases hn with q|q
          ·rw[q] at Wq;exact absurd (zO Wq.out) e
          ·omega)
        have aeU:(bQ P).length=P.length:=by simp[bQ]
        have aeV:P.length<=256:=by omega
        have hlA:(pv2 (opG G) A A P.length (fnd A c P.length) c).length=A1.length:=by rw[dX];exact hA.out
        have hlB:(pv2 (opG G) A B P.length (fnd A c P.length) c).length=A2.length:=by rw[dX];exact hB.out
        have hkw:=ah wr (.cells #[.int .i64 c] 3);have elw:=elr.go hkw;have pvw:=pvr.kept hkw;have hin':¬ (i:Int)< (A1.length:Int):=by omega
        have HPL:=hid aeU;have HIE:=hid hie;clear hie aeU;go_wp2_with(at_builtin;refine dn rfl _ _ rfl w0.heap.size _ (bQ P) rfl pvw.1 ⟨wr.heap.size,0,none⟩ c rfl (aU rfl) (by rw[HPL.out];omega) elw.kept.size ?_;intro g' cap' w7 o7 hg7 hd7;rw[HPL.out] at o7 ⊢)
        have HIN:Hid (bQ P++ [(c:Int)]=bQ (P++ [c])):=hid (by simp[bQ]);rw[HIN.out] at o7;obtain⟨elx,pvx⟩:=aeQ elw pvw hlA hlB hg7 o7 hd7;clear o7 hg7 hd7;go_roundw;case rel=>exact⟨c+1,_,_,_,P++ [c],some ⟨g',0,none⟩,cap',t1,t2,by omega,by simp,by go_num,rfl,elx,by simpa using pvx,HR.out,hid hlA,hid hlB,HLQ,HG⟩
        case measure=>simp[intOf];omega
theorem D7 (b:Nat) (G:GFd) (cols:Nat) (v1:Value) (w0 w:World) (hk0:ay w0 w) (r1:Nat->Value) (hm:Mx w w0.heap.size v1 [] r1) (hc1:1<=cols):
  Calls Tryz.prog 131 #[.pointer (some ⟨b,0,none⟩),v1,.int .i64 cols,.slice none 0 0] w (KI w0 (opG G) cols v1 (.slice none 0 0) [] []):=by
 have hmf:∀ (fn:Fn) (first cap:Array Value) (w:World),(Instr.makeFunc fn first cap).run Tryz.prog w=.ok (.func fn first cap) w:=fun _ _ _ _=>rfl;obtain⟨a1,c1,e1⟩:=hm.lenOf;subst e1;obtain⟨w1,hw1⟩:∃ w1,w1=((w.alloc (.cells #[.pointer (some ⟨b,0,none⟩)] 55)).alloc (.cells #[.slice a1 0 c1] 27)).alloc (.cells #[.slice none 0 0] 27):=⟨_,rfl⟩
 have hk1:ay w w1:=by rw[hw1];exact((ah _ _).tr (ah _ _)).tr (ah _ _)
 have hb1:w1.cell? ⟨w.heap.size+1,0,none⟩=some (.slice a1 0 c1):=by
  rw[hw1,ay.cell' (ah _ _) (by simp)];exact aU (by simp)
 have e0:gjP (opG G) cols 0 [] [] []=([],[],[]):=Bf _ _ _ (zy _);have E0:=hid e0;have HM:=hid (hm.kept hk1);have hkk:=hk0.tr hk1;clear e0 hm hk1 hk0;simp only[xP] at*;go_enter Tryz.func131,Tryz.ntmps131;go_wp2_with(fail)
 rw[<-hw1];clear hw1;obtain⟨h,hh⟩:∃ h,h=w.heap.size:=⟨_,rfl⟩
 rw[<-hh] at hb1 ⊢;clear hh;refine wp_loop_rounds 1 ?_;rw[rounds_succ];go_wp2_with(fail)
 go_ret2;refine⟨_,_,r1,fun _=>.slice none 0 0,rfl,hkk, ?_⟩;rw[E0.out];exact⟨⟨HM.out,qR _ _,fun x _ hy=>by
  rcases hy with q|⟨i,hi,_⟩
  ·cases q
  ·exact absurd hi (yw _)⟩,bZ _ _⟩
end
end Go.Proofs.YtoilbeadokallaaGreatDoor
