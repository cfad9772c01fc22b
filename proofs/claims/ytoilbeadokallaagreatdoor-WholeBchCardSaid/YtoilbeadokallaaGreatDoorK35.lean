/- The walk of infoset.Systematic at an information set. Conditions: the code is one and lies in memory; the set is an information set, its columns have an inverse. -/
import Derived.Test.YtoilbeadokallaaGreatDoorK30
import Derived.Test.YtoilbeadokallaaGreatDoorK34
namespace Go.Proofs.YtoilbeadokallaaGreatDoor
section
open Go.RowKit Cw Cw.Gj
theorem acR {A:List (List Int)} {n:Nat} {S:List Nat} {q:Int} (hw:WF q A n) (hS:∀ i,i<S.length->S.getD i 0<n):WF q (dM A S) S.length:=by
 have hlen:(dM A S).length=A.length:=by simp[dM]
 refine⟨fun i hi=>?_,fun i k hi hk=>?_⟩
 ·rw[hlen] at hi;rw[Dz hi,yx]
 ·rw[hlen] at hi;have e:en (dM A S) i k=en A i (S.getD k 0):=by
   unfold en;rw[Dz hi];simp[List.getD,hk]
  rw[e];exact hw.bd i _ hi (hS k hk)
set_option maxRecDepth 100000 in
set_option maxHeartbeats 4000000 in
theorem Eb (G:GFd) (t:aK G) (n:Nat) (ma:Option Addr) (ml mc:Nat) (va:Option Addr) (vc:Nat) (A:List (List Int)) (P:List Nat) (l:List Nat) (v:Value) (w:World) (h:CdM w G n ma ml mc va vc A P) (hv:Sl w v (bQ l)) (hl:adF l n) (hA:0<A.length)
  (h1:(bV (opG G) A l [] []).length=A.length) (h2:l.length=A.length) (hinv:(AX (opG G) (dM A l)).2.length=A.length) (hwf:WF G.q (AX (opG G) (dM A l)).1 A.length) (hil:(AX (opG G) (dM A l)).1.length=A.length):
  Calls Tryz.prog 65 #[cdV G n ma ml mc va A.length vc,v] w fun e w'=>∃ v' rv,e=.returned (.tuple #[.agg #[.int .i64 n,v'],.int .i64 0])/\Mx w' w.heap.size v' (Dx (opG G) A n l) rv/\ay w w':=by
 show Calls Tryz.prog 65 #[.agg #[.int .i64 G.P,.int .i64 G.M,.slice ma ml mc,.int .i64 n,.slice va A.length vc],v] w _;have hle:=h.rf.le;have hn2:=h.n2;obtain⟨W1,hW1⟩:∃ x,x=(w.alloc (.cells #[.int .i64 G.P,.int .i64 G.M,.slice ma ml mc,.int .i64 n,.slice va A.length vc] 29)).alloc (.cells #[.int .i64 0,.slice none 0 0] 71):=⟨_,rfl⟩
 obtain⟨s,hs⟩:∃ s,s=w.heap.size:=⟨_,rfl⟩
 have hk1:ay w W1:=by rw[hW1];exact(ah _ _).tr (ah _ _)
 have bx:Bk W1 s [.int .i64 G.P,.int .i64 G.M,.slice ma ml mc,.int .i64 n,.slice va A.length vc]:=by rw[hW1];exact(aG _ [.int .i64 G.P,.int .i64 G.M,.slice ma ml mc,.int .i64 n,.slice va A.length vc] _ _ hs).kept (ah _ _)
 have br:Bk W1 (s+1) [.int .i64 0,.slice none 0 0]:=by rw[hW1];exact aG _ [.int .i64 0,.slice none 0 0] _ _ (by simp[hs])
 have fr:Fz W1 (s+1):=by rw[hW1];exact bD _ _ _ _ (by simp[hs])
 have hs1:W1.heap.size=s+1+1:=by rw[hW1,hs];simp
 have HIS:=hid (PK G t n ma ml mc va vc A P l v W1 (h.kept hk1) (hv.kept hk1) hl hA h1 h2);unfold cdV at HIS;obtain⟨sa,sc,rfl,_,_⟩:=hv.lenOf;obtain⟨K,hK⟩:∃ x,x=A.length:=⟨_,rfl⟩
 have hX:(dM A l).length=K:=by rw[hK];simp[dM]
 have HCW:=hid (acR h.rf.ri.w hl.b);rw[aI,h2,<-hK] at HIS ⊢;rw[h2,<-hK] at HCW;rw[<-hK] at hinv hwf hil hA hle bx;have x0:=bx.2 0 _ rfl;have x1:=bx.2 1 _ rfl;have x2:=bx.2 2 _ rfl;have x3:=bx.2 3 _ rfl;have x4:=bx.2 4 _ rfl;have HH:=hid h;have HV:=hid hv;have HL:=hid hl;have HK1:=hid hk1;have HBX:=hid bx;have HBR:=hid br;have HFR:=hid fr;have HS:=hid hs;have HS1:=hid hs1;have HKK:=hid hK;have HX:=hid hX;have HLK:Hid (l.length=K):=hid (h2.trans hK.symm);have HIV:=hid hinv;have HWF:=hid hwf;have HIL:=hid hil;have Vb:K<=256:=by omega
 clear h1 h2 hv h hl hk1 bx br fr hs1 hX hinv hwf hil hle;rw[<-hK] at hW1;clear hK;go_enter Tryz.func65,Tryz.ntmps65;go_upto_region 1 with(fail)
 rw[<-hW1,<-hs];clear hW1 hs;go_upto_region 2 with(go_at_call 120;refine HIS.out.mono ?_;rintro e w2 ⟨rfl,hk2⟩)
 have HK2:=hid hk2;have hb2:=HBX.out.kept hk2;clear x0 x1 x2 x3 x4 hk2;have x3:=hb2.2 3 _ rfl;have x4:=hb2.2 4 _ rfl;clear hb2;go_upto_region 7 with(fail)
 obtain⟨W3,hW3⟩:∃ x,x=w2.alloc (.cells #[.int .i64 n,.slice va K vc] 71):=⟨_,rfl⟩
 obtain⟨bm,hbm⟩:∃ x,x=w2.heap.size:=⟨_,rfl⟩
 rw[<-hW3,<-hbm];have hk3:ay w2 W3:=by rw[hW3];exact ah _ _
 have mx:Bk W3 bm [.int .i64 n,.slice va K vc]:=by rw[hW3];exact aG _ [.int .i64 n,.slice va K vc] _ _ hbm
 have HK3:=hid (HK2.out.tr hk3);have HMX:=hid mx;have hb3:=HBX.out.kept HK3.out;clear x3 x4;have x0:=hb3.2 0 _ rfl;have x1:=hb3.2 1 _ rfl;have x2:=hb3.2 2 _ rfl;have m0:=mx.2 0 _ rfl;have m1:=mx.2 1 _ rfl;have HCO:=hid (LK G t (.slice ma ml mc) n _ A l _ W3 (HH.out.f.kept (HK1.out.tr HK3.out)) (HH.out.g.kept (HK1.out.tr HK3.out)) HH.out.rf.ri.w (by omega) (by rw[<-HKK.out];exact Vb) (HV.out.kept (HK1.out.tr HK3.out)) HL.out.b (by rw[HLK.out];exact Vb));rw[aI,HLK.out,<-HKK.out] at HCO;clear hk3 mx hb3 hW3 hbm;go_upto_region 10 with(go_at_call 121;(with_reducible refine HCO.out.mono ?_);rintro e w4 ⟨v4,rv4,rfl,hm4,hk4⟩;obtain⟨a4,c4,e4⟩:=hm4.lenOf;rw[HX.out] at e4;subst e4)
 obtain⟨W5,hW5⟩:∃ x,x=w4.alloc (.cells #[.int .i64 K,.slice a4 K c4] 71):=⟨_,rfl⟩
 obtain⟨bp,hbp⟩:∃ x,x=w4.heap.size:=⟨_,rfl⟩
 rw[<-hW5,<-hbp];have hk5:ay w4 W5:=by rw[hW5];exact ah _ _
 have mp:Bk W5 bp [.int .i64 K,.slice a4 K c4]:=by rw[hW5];exact aG _ [.int .i64 K,.slice a4 K c4] _ _ hbp
 have HK5:=hid (HK3.out.tr (hk4.tr hk5));have al5:=hid (hk4.tr hk5);have hb5:=HBX.out.kept HK5.out;clear x0 x1 x2 m0 m1;have x0:=hb5.2 0 _ rfl;have x1:=hb5.2 1 _ rfl;have x2:=hb5.2 2 _ rfl;have p0:=mp.2 0 _ rfl;have p1:=mp.2 1 _ rfl;have HIN:=hid (LJ G t (.slice ma ml mc) (.slice a4 K c4) (dM A l) W5 (HH.out.f.kept (HK1.out.tr HK5.out)) (hm4.rd.kept hk5) (by rw[HX.out];exact HCW.out) (by rw[HX.out];exact hA) (by rw[HX.out];exact Vb) (by rw[HX.out];exact HIV.out));rw[HX.out] at HIN;clear hk4 hk5 mp hb5 hW5 hbp hm4;go_upto_region 13 with(go_at_call 122;(with_reducible refine HIN.out.mono ?_);rintro e w6 ⟨v6,rv6,rfl,hm6,hk6⟩;obtain⟨a6,c6,e6⟩:=hm6.lenOf;rw[HIL.out] at e6;subst e6)
 obtain⟨W7,hW7⟩:∃ x,x=w6.alloc (.cells #[.int .i64 K,.slice a6 K c6] 71):=⟨_,rfl⟩
 obtain⟨bi,hbi⟩:∃ x,x=w6.heap.size:=⟨_,rfl⟩
 rw[<-hW7,<-hbi];have hk7:ay w6 W7:=by rw[hW7];exact ah _ _
 have mi:Bk W7 bi [.int .i64 K,.slice a6 K c6]:=by rw[hW7];exact aG _ [.int .i64 K,.slice a6 K c6] _ _ hbi
 have HK7:=hid (HK5.out.tr (hk6.tr hk7));have hb7:=HBX.out.kept HK7.out;have hm7:=HMX.out.kept (al5.out.tr (hk6.tr hk7));clear x0 x1 x2 p0 p1;have x0:=hb7.2 0 _ rfl;have x1:=hb7.2 1 _ rfl;have x2:=hb7.2 2 _ rfl;have i0:=mi.2 0 _ rfl;have i1:=mi.2 1 _ rfl;have m0:=hm7.2 0 _ rfl;have m1:=hm7.2 1 _ rfl;have HMU:=hid (Y2 G t (.slice ma ml mc) n (.slice a6 K c6) _ (AX (opG G) (dM A l)).1 A W7 (HH.out.f.kept (HK1.out.tr HK7.out)) (hm6.rd.kept hk7) (HH.out.g.kept (HK1.out.tr HK7.out)) (by rw[<-HKK.out];exact HWF.out) HH.out.rf.ri.w (by omega) (by rw[HIL.out];exact Vb) (by rw[<-HKK.out];exact Vb));rw[<-HKK.out] at HMU;clear hk6 hk7 mi hb7 hm7 hW7 hbi hm6;obtain⟨R,hR⟩:∃ x,x=mulL (opG G) (AX (opG G) (dM A l)).1 A n:=⟨_,rfl⟩
 have HR:Hid (R=Dx (opG G) A n l):=hid hR;rw[<-hR] at HMU;clear hR;have lr:s+1<W7.heap.size:=by have:=HK7.out.size;have:=HS1.out;omega
 go_wp2_with(go_at_call 123;(with_reducible refine HMU.out.mono ?_);rintro e w8 ⟨v8,rv8,rfl,hm8,hk8⟩;obtain⟨a8,c8,e8⟩:=hm8.lenOf;subst e8;have HM8:=hid hm8;have HK8:=hid hk8;have hb8:=HBR.out.kept (HK7.out.tr hk8);have hf8:=HFR.out.kept (HK7.out.tr hk8);have HB8:=hid hb8;have z0:=hb8.2 0 _ rfl;have z1:=hb8.2 1 _ rfl;have f0:=hf8.2 0;have f1:=hf8.2 1;have l8:s+1<w8.heap.size:=hb8.1;clear hm8 hk8 hb8 hf8)
 refine bodyPost_ret (aF rfl rfl (mF ((HB8.out.set 0 _).set 1 _))) rfl ⟨_,rv8,rfl, ?_, ?_⟩
 ·rw[<-HR.out];exact(HM8.out.grown (aQ (aj _ _ 0 _) 1 _) (fun q=>by have:=(HM8.out.has_lt q).1;omega)).mono (by have:=(HK1.out.tr HK7.out).size;omega)
 ·have hk:ay w w8:=(HK1.out.tr HK7.out).tr HK8.out;have hle:w.heap.size<=s+1:=by have:=HS.out;omega
  exact aA _ (aA _ hk hle) hle
end
end Go.Proofs.YtoilbeadokallaaGreatDoor
