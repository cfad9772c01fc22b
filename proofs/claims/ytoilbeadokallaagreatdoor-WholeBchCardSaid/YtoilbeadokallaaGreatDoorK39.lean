/- The walks of mindist.Distance and of alive. Conditions of the first: the code is one and lies in memory; the sets of Family are information sets whose columns have inverses. -/
import Derived.Test.YtoilbeadokallaaGreatDoorK27
import Derived.Test.YtoilbeadokallaaGreatDoorK37
set_option maxHeartbeats 4000000
namespace Go.Proofs.YtoilbeadokallaaGreatDoor
section
set_option maxRecDepth 100000
open Go.RowKit Cw Cw.Gj
def afS (G:GFd) (A:List (List Int)) (n:Nat) (w:World) (e:Ending) (w':World):Prop:=
 ay w w'/\∃ steps:List (List Nat×Nat),DX (opG G) A n [] steps/\
  ((∃ best,Lp (opG G) A.length G.q.toNat n (DY G A n steps) (rkR steps) 1 ([],0) (some best)/\e=.returned (.tuple #[.int .i64 (wt best:Nat),.int .i64 0]))∨
   (Lp (opG G) A.length G.q.toNat n (DY G A n steps) (rkR steps) 1 ([],0) none/\e=.returned (.tuple #[.int .i64 0,.int .i64 8])))
theorem AU (G:GFd) (t:aK G) (n:Nat) (ma:Option Addr) (ml mc:Nat) (va:Option Addr) (vc:Nat) (A:List (List Int)) (P:List Nat) (w:World) (h:CdM w G n ma ml mc va vc A P) (hA:0<A.length)
  (Qj:∀ steps,DX (opG G) A n [] steps->steps≠ []/\∀ p∈steps,GU G A n p.1/\p.2<=A.length):
  Calls Tryz.prog 11 #[cdV G n ma ml mc va A.length vc] w (afS G A n w):=by
 show Calls Tryz.prog 11 #[.agg #[.int .i64 G.P,.int .i64 G.M,.slice ma ml mc,.int .i64 n,.slice va A.length vc]] w _;obtain⟨W1,hW1⟩:∃ x,x=w.alloc (.cells #[.int .i64 G.P,.int .i64 G.M,.slice ma ml mc,.int .i64 n,.slice va A.length vc] 29):=⟨_,rfl⟩
 have hk1:ay w W1:=by rw[hW1];exact ah _ _
 have bx:Bk W1 w.heap.size [.int .i64 G.P,.int .i64 G.M,.slice ma ml mc,.int .i64 n,.slice va A.length vc]:=by rw[hW1];exact aG w [.int .i64 G.P,.int .i64 G.M,.slice ma ml mc,.int .i64 n,.slice va A.length vc] _ _ rfl
 have HR:=hid (run_any G t n ma ml mc va vc A P W1 (h.kept hk1) hA Qj);unfold cdV at HR;obtain⟨K,hK⟩:∃ x,x=A.length:=⟨_,rfl⟩
 rw[<-hK] at bx HR ⊢;rw[<-hK] at hW1;have HKK:=hid hK;have HK1:=hid hk1;have x0:=bx.2 0 _ rfl;have x1:=bx.2 1 _ rfl;have x2:=bx.2 2 _ rfl;have x3:=bx.2 3 _ rfl;have x4:=bx.2 4 _ rfl;clear h Qj bx hk1 hK hA;go_enter Tryz.func11,Tryz.ntmps11;go_upto_region 1 with(fail)
 rw[<-hW1];clear hW1;go_upto_region 2 with(go_at_call 29;(with_reducible refine HR.out.mono ?_);rintro e w2 ⟨hk2,steps,hfr,hx⟩;have HK2:=hid hk2;have HFR:=hid hfr;clear hk2 hfr;rcases hx with⟨best,vo,bv,hr,rfl,hs,hl⟩|⟨hr,rfl⟩)
 ·have HRN:=hid hr;have HW:=hid (jH bv best w2 hs (by omega));obtain⟨D,hD⟩:∃ x,x=wt best:=⟨_,rfl⟩
  rw[<-hD] at HW;have HD:=hid hD;clear hr hs hl hD;go_wp2_with(go_at_call 30;(with_reducible refine HW.out.mono ?_);rintro e w' ⟨rfl,hw⟩;subst w')
  refine bodyPost_ret (v:=.tuple #[.int .i64 D,.int .i64 0]) ?_ rfl ⟨HK1.out.tr HK2.out,steps,HFR.out,.inl ⟨best,HRN.out,by rw[HD.out]⟩⟩;simp[results,Tryz.results11,go_sem]
 ·have HRN:=hid hr;have HW:=hid (jH (.slice none 0 0) [] w2 (bZ w2 0).sl (by simp));rw[show((wt []:Nat):Int)=0 from rfl] at HW;clear hr;go_wp2_with(go_at_call 30;(with_reducible refine HW.out.mono ?_);rintro e w' ⟨rfl,hw⟩;subst w')
  refine bodyPost_ret (v:=.tuple #[.int .i64 0,.int .i64 8]) ?_ rfl ⟨HK1.out.tr HK2.out,steps,HFR.out,.inr ⟨HRN.out,rfl⟩⟩;simp[results,Tryz.results11,go_sem]
theorem afT:Rf 2 lH 7 [0,1,2,3]:=
 ⟨⟨by decide,fun i k h1 h2=>(by decide:∀ i,i<4->∀ k,k<7->0<=en lH i k/\en lH i k<2) i h1 k h2,by decide,by decide,
  fun i j h1 h2=>(by decide:∀ i,i<4->∀ j,j<4->i<j->[0,1,2,3].getD i 0< [0,1,2,3].getD j 0) i (by have:j<4:=h2;omega) j h2 h1,by decide,
  fun i j h1 h2 h3=>(by decide:∀ i,i<4->∀ j,j<4->j≠i->en lH j ([0,1,2,3].getD i 0)=0) i h1 j h2 h3,
  fun i k h1 h2=>(by decide:∀ i,i<4->∀ k,k< [0,1,2,3].getD i 0->en lH i k=0) i h1 k h2,
  fun i k h1 h2 _=>absurd h1 (by have h3:i<4:=h2;have:[0,1,2,3].length=4:=rfl;omega)⟩,rfl⟩
theorem Vk {G:GFd} (t:aK G) (h1:G.P=2) (h2:G.M=1) (hq:G.q=2):GU G lH 7 [0,1,2,3]/\GU G lH 7 [0,4,5,6]:=by
 unfold GU;rw[SL t h1 h2,hq];refine⟨⟨⟨by decide,fun i hi=>(by decide:∀ i,i<3->[0,1,2,3].getD i 0< [0,1,2,3].getD (i+1) 0) i (by have:i+1<4:=hi;omega)⟩,by decide,by decide,by decide,⟨by decide,fun i k h1 h2=>?_⟩,by decide⟩,⟨⟨by decide,fun i hi=>(by decide:∀ i,i<3->[0,4,5,6].getD i 0< [0,4,5,6].getD (i+1) 0) i (by have:i+1<4:=hi;omega)⟩,by decide,by decide,by decide,⟨by decide,fun i k h1 h2=>?_⟩,by decide⟩⟩
 ·exact(by decide:∀ i,i<4->∀ k,k<4->0<=en (AX op2 (dM lH [0,1,2,3])).1 i k/\en (AX op2 (dM lH [0,1,2,3])).1 i k<2) i h1 k h2
 ·exact(by decide:∀ i,i<4->∀ k,k<4->0<=en (AX op2 (dM lH [0,4,5,6])).1 i k/\en (AX op2 (dM lH [0,4,5,6])).1 i k<2) i h1 k h2
theorem Jt (ma:Option Addr) (mc:Nat) (va:Option Addr) (vc:Nat) (w:World) (hm:Sl w (.slice ma 0 mc) []) (hv:Rd w (.slice va 4 vc) lH):
  Calls Tryz.prog 11 #[.agg #[.int .i64 2,.int .i64 1,.slice ma 0 mc,.int .i64 7,.slice va 4 vc]] w fun e w'=>e=.returned (.tuple #[.int .i64 3,.int .i64 0])/\ay w w':=by
 obtain⟨G,t,hP,hM,hmod⟩:=Gv ((jK 2 1 []).1 field2);have hop:=SL t hP hM;have hq:G.q=2:=by
  have:=t.qb.2.2.2.2.2.2;rw[this,hP,hM];rfl
 have afM:=Vk t hP hM hq;have h:CdM w G 7 ma 0 mc va vc lH [0,1,2,3]:=⟨by rw[hmod];exact hm,hv,by rw[hq];exact afT,by omega,by omega⟩
 have hd:=AU G t 7 ma 0 mc va vc lH [0,1,2,3] w h (by decide) (fun steps hs=>by
  rw[hop] at hs;rw[UW steps hs];refine⟨by simp,fun p hp=>?_⟩;have:p=([0,1,2,3],4)∨p=([0,4,5,6],3):=by simpa using hp
  rcases this with rfl|rfl
  ·exact⟨afM.1,by decide⟩
  ·exact⟨afM.2,by decide⟩)
 unfold cdV at hd;rw[hP,hM] at hd;refine hd.mono ?_;rintro e w' ⟨hk,steps,hs,hx⟩;rw[hop] at hs;have e1:=UW steps hs;have e2:DY G lH 7 steps=[lH,UL]:=by
  rw[e1];unfold DY;rw[hop];show[Dx op2 lH 7 [0,1,2,3],Dx op2 lH 7 [0,4,5,6]]=_;rw[YH.1,YI.1]
 have e3:rkR steps=[4,3]:=by rw[e1];rfl
 have e4:G.q.toNat=2:=by rw[hq];rfl
 rw[hop,e2,e3,e4] at hx;rcases hx with⟨best,hr,rfl⟩|⟨hr,_⟩
 ·have:=UM _ hr;have e5:best=[0,0,1,0,1,1,0]:=wW this;subst e5;exact⟨rfl,hk⟩
 ·have:=UM _ hr;cases this
theorem Y5 (sh:ByteArray) (hsh:sh=kX) (w:World):Calls Tryz.prog 16 #[.string txt] w fun e w'=>∃ b cap,e=.returned (.tuple #[.agg #[.int .i64 3,.string sh,.int .i64 0,.slice none 0 0,.slice (some ⟨b,0,none⟩) 2 cap],.int .i64 0,.int .i64 0])/\
  Frs (ig G2 kX 2) w.heap.size [.int .i64 3,.string sh,.int .i64 0,.slice none 0 0,.slice (some ⟨b,0,none⟩) 2 cap] w'/\ay w w':=by
 refine(Ue w).mono ?_;rintro e w' ⟨u0,u1,u2,u3,u4,rfl,hfr,hk⟩;obtain⟨S,hS,hG⟩:=id hfr;obtain⟨b,cap,fs,hE,_⟩:=hG w' (zy _) (fun _ _=>rfl);unfold zl at hE;rw[<-hsh] at hE;injection hE with h0 hE;injection hE with h1 hE;injection hE with h2 hE;injection hE with h3 hE;injection hE with h4 hE;subst h0 h1 h2 h3 h4;exact⟨b,cap,rfl,hfr,hk⟩
theorem alive_any (w:World):Calls Tryz.prog 5 #[] w fun e w'=>e=.returned (.bool true)/\ay w w':=by
 obtain⟨sh,hsh⟩:∃ s,s=kX:=⟨_,rfl⟩
 have HPA:=hid (Y5 sh hsh w);obtain⟨G,t,hP,hM,hmod⟩:=Gv ((jK 2 1 []).1 field2);have hD:=YC t hP hM hmod;have HCO:=hid (fun(E:List Value) (w':World) (hE:ig G2 kX 2 E w')=>acw lH hD E w' hE);clear hP hM hmod hD t hsh;go_enter Tryz.func5,Tryz.ntmps5;go_upto_region 2 with(go_at_call 16;refine HPA.out.mono ?_;rintro e w2 ⟨b,cap,rfl,hfr,hk2⟩;have HFR:=hid hfr;have HK2:=hid hk2;clear hfr hk2)
 obtain⟨W3,hW3⟩:∃ x,x=w2.alloc (.cells #[.int .i64 3,.string sh,.int .i64 0,.slice none 0 0,.slice (some ⟨b,0,none⟩) 2 cap] 50):=⟨_,rfl⟩
 obtain⟨b3,hb3⟩:∃ x,x=w2.heap.size:=⟨_,rfl⟩
 rw[<-hW3,<-hb3];have hk3:ay w2 W3:=by rw[hW3];exact ah _ _
 have bx3:Bk W3 b3 [.int .i64 3,.string sh,.int .i64 0,.slice none 0 0,.slice (some ⟨b,0,none⟩) 2 cap]:=by rw[hW3];exact aG w2 [.int .i64 3,.string sh,.int .i64 0,.slice none 0 0,.slice (some ⟨b,0,none⟩) 2 cap] _ _ hb3
 have hcg:ig G2 kX 2 [.int .i64 3,.string sh,.int .i64 0,.slice none 0 0,.slice (some ⟨b,0,none⟩) 2 cap] W3:=by
  obtain⟨S,hS,hG⟩:=HFR.out;exact hG W3 hk3.size (fun b hb=>hk3.block b (hS b hb).2)
 have HC:=hid (HCO.out _ W3 hcg);have x0:=bx3.2 0 _ rfl;have x1:=bx3.2 1 _ rfl;have x2:=bx3.2 2 _ rfl;have x3:=bx3.2 3 _ rfl;have x4:=bx3.2 4 _ rfl;have HK3:=hid (HK2.out.tr hk3);clear hW3 hb3 hk3 bx3 hcg;go_upto_region 3 with(go_at_call 17;refine HC.out.mono ?_;rintro e w4 ⟨a,c,fa,fc,rfl,ho,hr,hk4⟩;have HO:=hid (show Own w4 W3.heap.size (.slice a 0 c) [] from ho);have HR:=hid (show Ro w4 W3.heap.size (.slice fa 4 fc) lH from hr);have HK4:=hid hk4;clear ho hr hk4;rw[show lH.length=4 from rfl])
 obtain⟨W5,hW5⟩:∃ x,x=w4.alloc (.cells #[.int .i64 2,.int .i64 1,.slice a 0 c,.int .i64 7,.slice fa 4 fc] 29):=⟨_,rfl⟩
 obtain⟨b5,hb5⟩:∃ x,x=w4.heap.size:=⟨_,rfl⟩
 rw[<-hW5,<-hb5];have hk5:ay w4 W5:=by rw[hW5];exact ah _ _
 have bx5:Bk W5 b5 [.int .i64 2,.int .i64 1,.slice a 0 c,.int .i64 7,.slice fa 4 fc]:=by rw[hW5];exact aG w4 [.int .i64 2,.int .i64 1,.slice a 0 c,.int .i64 7,.slice fa 4 fc] _ _ hb5
 have HDI:=hid (Jt a c fa fc W5 (HO.out.sl.kept hk5) (HR.out.rd.kept hk5));have HB5:=hid bx5;have HK5:=hid (HK3.out.tr (HK4.out.tr hk5));clear x0 x1 x2 x3 x4 hW5 hb5 hk5;have x0:=bx5.2 0 _ rfl;have x1:=bx5.2 1 _ rfl;have x2:=bx5.2 2 _ rfl;have x3:=bx5.2 3 _ rfl;have x4:=bx5.2 4 _ rfl;have l5:=bx5.1;clear bx5;go_upto_region 4 with(go_at_call 11;(with_reducible refine HDI.out.mono ?_);rintro e w6 ⟨rfl,hk6⟩;have HK6:=hid hk6;clear hk6)
 have hb6:=HB5.out.kept HK6.out;clear x0 x1 x2 x3 x4;have x3:=hb6.2 3 _ rfl;have x4:=hb6.2 4 _ rfl;have l6:=hb6.1;clear hb6;go_wp2_with(fail)
 go_ret;exact⟨rfl,HK5.out.tr HK6.out⟩
end
end Go.Proofs.YtoilbeadokallaaGreatDoor
