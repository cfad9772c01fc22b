/- The walk of mean at the Hamming code's call. Conditions: none. Printed by gen/mean.py. -/
import Derived.Test.YtoilbeadokallaaGreatDoorK24
import Derived.Laws.EntriesVeiled
namespace Go.Proofs.YtoilbeadokallaaGreatDoor
section
open Go.RowKit Cw Cw.Gj
theorem Bk.Ui {w:World} {b:Nat} {u0 u1 u2 u3 u4 u5 u6 u7 u8 u9 u10 u11 u12 u13 u14 u15 u16 u17 u18 u19:Value} (h:Bk w b [u0,u1,u2,u3,u4,u5,u6,u7,u8,u9,u10,u11,u12,u13,u14,u15,u16,u17,u18,u19]) (v0 v1 v2 v3 v4 v5 v6 v7 v8 v9:Value):Bk ((((((((((w.setCell ⟨b,0,none⟩ v0).setCell ⟨b,1,none⟩ v1).setCell ⟨b,2,none⟩ v2).setCell ⟨b,3,none⟩ v3).setCell ⟨b,4,none⟩ v4).setCell ⟨b,5,none⟩ v5).setCell ⟨b,6,none⟩ v6).setCell ⟨b,7,none⟩ v7).setCell ⟨b,8,none⟩ v8).setCell ⟨b,9,none⟩ v9) b [v0,v1,v2,v3,v4,v5,v6,v7,v8,v9,u10,u11,u12,u13,u14,u15,u16,u17,u18,u19]:=((((((((((h.set 0 v0).set 1 v1).set 2 v2).set 3 v3).set 4 v4).set 5 v5).set 6 v6).set 7 v7).set 8 v8).set 9 v9)
theorem Uj (w:World) (b:Nat) (v0 v1 v2 v3 v4 v5 v6 v7 v8 v9:Value):w.grownBy ((((((((((w.setCell ⟨b,0,none⟩ v0).setCell ⟨b,1,none⟩ v1).setCell ⟨b,2,none⟩ v2).setCell ⟨b,3,none⟩ v3).setCell ⟨b,4,none⟩ v4).setCell ⟨b,5,none⟩ v5).setCell ⟨b,6,none⟩ v6).setCell ⟨b,7,none⟩ v7).setCell ⟨b,8,none⟩ v8).setCell ⟨b,9,none⟩ v9) (some b):=(aQ (aQ (aQ (aQ (aQ (aQ (aQ (aQ (aQ (aj w b 0 v0) 1 v1) 2 v2) 3 v3) 4 v4) 5 v5) 6 v6) 7 v7) 8 v8) 9 v9)
theorem Fz.Ui {w:World} {b:Nat} (h:Fz w b) (v0 v1 v2 v3 v4 v5 v6 v7 v8 v9:Value):Fz ((((((((((w.setCell ⟨b,0,none⟩ v0).setCell ⟨b,1,none⟩ v1).setCell ⟨b,2,none⟩ v2).setCell ⟨b,3,none⟩ v3).setCell ⟨b,4,none⟩ v4).setCell ⟨b,5,none⟩ v5).setCell ⟨b,6,none⟩ v6).setCell ⟨b,7,none⟩ v7).setCell ⟨b,8,none⟩ v8).setCell ⟨b,9,none⟩ v9) b:=((((((((((h.oth _ _).oth _ _).oth _ _).oth _ _).oth _ _).oth _ _).oth _ _).oth _ _).oth _ _).oth _ _)
theorem Bk.Uk {w:World} {b:Nat} {u0 u1 u2 u3 u4 u5 u6 u7 u8 u9 u10 u11 u12 u13 u14 u15 u16 u17 u18 u19:Value} (h:Bk w b [u0,u1,u2,u3,u4,u5,u6,u7,u8,u9,u10,u11,u12,u13,u14,u15,u16,u17,u18,u19]) (v0 v1 v2 v3 v4 v5 v6 v7 v8 v9:Value):Bk ((((((((((w.setCell ⟨b,10,none⟩ v0).setCell ⟨b,11,none⟩ v1).setCell ⟨b,12,none⟩ v2).setCell ⟨b,13,none⟩ v3).setCell ⟨b,14,none⟩ v4).setCell ⟨b,15,none⟩ v5).setCell ⟨b,16,none⟩ v6).setCell ⟨b,17,none⟩ v7).setCell ⟨b,18,none⟩ v8).setCell ⟨b,19,none⟩ v9) b [u0,u1,u2,u3,u4,u5,u6,u7,u8,u9,v0,v1,v2,v3,v4,v5,v6,v7,v8,v9]:=((((((((((h.set 10 v0).set 11 v1).set 12 v2).set 13 v3).set 14 v4).set 15 v5).set 16 v6).set 17 v7).set 18 v8).set 19 v9)
theorem Ul (w:World) (b:Nat) (v0 v1 v2 v3 v4 v5 v6 v7 v8 v9:Value):w.grownBy ((((((((((w.setCell ⟨b,10,none⟩ v0).setCell ⟨b,11,none⟩ v1).setCell ⟨b,12,none⟩ v2).setCell ⟨b,13,none⟩ v3).setCell ⟨b,14,none⟩ v4).setCell ⟨b,15,none⟩ v5).setCell ⟨b,16,none⟩ v6).setCell ⟨b,17,none⟩ v7).setCell ⟨b,18,none⟩ v8).setCell ⟨b,19,none⟩ v9) (some b):=(aQ (aQ (aQ (aQ (aQ (aQ (aQ (aQ (aQ (aj w b 10 v0) 11 v1) 12 v2) 13 v3) 14 v4) 15 v5) 16 v6) 17 v7) 18 v8) 19 v9)
theorem Fz.Uk {w:World} {b:Nat} (h:Fz w b) (v0 v1 v2 v3 v4 v5 v6 v7 v8 v9:Value):Fz ((((((((((w.setCell ⟨b,10,none⟩ v0).setCell ⟨b,11,none⟩ v1).setCell ⟨b,12,none⟩ v2).setCell ⟨b,13,none⟩ v3).setCell ⟨b,14,none⟩ v4).setCell ⟨b,15,none⟩ v5).setCell ⟨b,16,none⟩ v6).setCell ⟨b,17,none⟩ v7).setCell ⟨b,18,none⟩ v8).setCell ⟨b,19,none⟩ v9) b:=((((((((((h.oth _ _).oth _ _).oth _ _).oth _ _).oth _ _).oth _ _).oth _ _).oth _ _).oth _ _).oth _ _)
structure MhR (W4:World) (gv:Nat) (V:List Value) (wr:World):Prop where
 k:W4.grownBy wr (some gv)
 v:Bk wr gv V
 f:Fz wr gv
set_option maxRecDepth 100000 in
set_option maxHeartbeats 8000000 in
theorem Yd (D:List (List Int)) (t g cap g1 cap1 p:Nat) (b2:ByteArray) (low:Value) (w:World) (hE:Bk w g (zl b2 (.slice (some ⟨g1,0,none⟩) 1 cap1)++Di 3))
  (hR:∀ W,ay w W->Calls Tryz.prog 148 #[.agg #[.map (some t)],.agg #[.int .i64 3,.string kX,.int .i64 0,.slice none 0 0,.slice (some ⟨g,0,none⟩) 2 cap],.bool false] W
   (fun e w'=>e=.returned (.tuple #[.agg #[.string ⟨#[70,78]⟩,.func (.func 301) #[] #[.pointer (some ⟨p,0,none⟩)],low],.int .i64 0])/\ay W w'))
  (hlow:∃ f a c,low=.func f a c)
  (hA:∀ W,ay w W->Calls Tryz.prog 149 #[.agg #[.map (some t)],.agg #[.int .i64 3,.string b2,.int .i64 0,.slice none 0 0,.slice (some ⟨g1,0,none⟩) 1 cap1],.int .u8 70] W (Dl W))
  (hF:∀ W v a c,ay w W->Bk W v (Qk 2 1 (.slice a 0 c)++gU 3)->Sl W (.slice a 0 c) []->Calls Tryz.prog 301 #[.slice (some ⟨v,0,none⟩) 2 2,.pointer (some ⟨p,0,none⟩)] W (aam D W)):
  Calls Tryz.prog 87 #[.agg #[.map (some t)],.agg #[.int .i64 3,.string kX,.int .i64 0,.slice none 0 0,.slice (some ⟨g,0,none⟩) 2 cap],.bool false] w (aam D w):=by
 obtain⟨lf,la,lc,rfl⟩:=hlow;have HA:=hid hA;clear hA;obtain⟨sg,hsg⟩:∃ s,s=kX:=⟨_,rfl⟩
 rw[<-hsg] at hR ⊢;clear hsg;obtain⟨W1,hW1⟩:∃ x,x=((w.alloc (.cells #[.map (some t)] 150)).alloc (.cells #[.int .i64 3,.string sg,.int .i64 0,.slice none 0 0,.slice (some ⟨g,0,none⟩) 2 cap] 50)).alloc (.cells #[.int .i64 0,.int .i64 0,.slice none 0 0,.int .i64 0,.int .i64 0,.slice none 0 0,.int .i64 0,.slice none 0 0,.int .i64 0,.slice none 0 0] 91):=⟨_,rfl⟩
 have hk1:ay w W1:=by rw[hW1];exact((ah _ _).tr (ah _ _)).tr (ah _ _)
 have hbk:Bk W1 w.heap.size [.map (some t)]:=by rw[hW1];exact((aG w [.map (some t)] _ _ rfl).kept (ah _ _)).kept (ah _ _)
 have hbx:Bk W1 (w.heap.size+1) [.int .i64 3,.string sg,.int .i64 0,.slice none 0 0,.slice (some ⟨g,0,none⟩) 2 cap]:=by rw[hW1];exact(aG (w.alloc (.cells #[.map (some t)] 150)) [.int .i64 3,.string sg,.int .i64 0,.slice none 0 0,.slice (some ⟨g,0,none⟩) 2 cap] _ _ (by simp)).kept (ah _ _)
 have hbr:Bk W1 (w.heap.size+1+1) (gU 0):=by rw[hW1];exact aG _ (gU 0) _ _ (by simp)
 have hfr:Fz W1 (w.heap.size+1+1):=by rw[hW1];exact bD _ _ _ _ (by simp)
 have hz1:W1.heap.size=w.heap.size+1+1+1:=by rw[hW1];simp
 have x0:=hbk.2 0 _ rfl;have y0:=hbx.2 0 _ rfl;have y1:=hbx.2 1 _ rfl;have y2:=hbx.2 2 _ rfl;have y3:=hbx.2 3 _ rfl;have y4:=hbx.2 4 _ rfl;have HR:=hid hR;have HF:=hid hF;have HE:=hid hE;have HBK:=hid hbk;have HBX:=hid hbx;have HBR:=hid hbr;have HFR:=hid hfr;have HK:=hid hk1;have HZ:=hid hz1;clear hR hF hE hbk hbx hbr hfr hk1 hz1;go_enter Tryz.func87,Tryz.ntmps87;go_upto_region 1 with(fail)
 rw[<-hW1];clear hW1;go_wp2_with(fail)
 refine(HR.out _ HK.out).mono ?_;rintro e w2 ⟨rfl,hk2⟩;have hbk2:=HBK.out.kept hk2;have hbx2:=HBX.out.kept hk2;have ku:=HK.out.tr hk2;have he2:=HE.out.kept ku;clear x0 y0 y1 y2 y3 y4;have x0:=hbk2.2 0 _ rfl;have y0:=hbx2.2 0 _ rfl;have y1:=hbx2.2 1 _ rfl;have y2:=hbx2.2 2 _ rfl;have y3:=hbx2.2 3 _ rfl;have y4:=hbx2.2 4 _ rfl;have ahZ:=hid hbk2;have Yb:=hid hbx2;have HE2:=hid he2;have ah0:=hid ku;have HK2:=hid hk2;clear hbk2 hbx2 he2 ku hk2;have hl2:w.heap.size+1<w2.heap.size:=by have:=HK2.out.size;have:=HZ.out;omega
 have hn2:¬ w.heap.size+1=w2.heap.size:=by omega
 have hmk:=Pn;go_upto_region 5 with(fail)
 obtain⟨W4,hW4⟩:∃ x,x=(w2.alloc (.cells #[.string ⟨#[70,78]⟩,.func (.func 301) #[] #[.pointer (some ⟨p,0,none⟩)],.func lf la lc] 202)).alloc (.cells (gU 0++gU 0).toArray 91):=⟨_,rfl⟩
 have oJ:ay w2 W4:=by rw[hW4];exact(ah _ _).tr (ah _ _)
 have hr4:Bk W4 w2.heap.size [.string ⟨#[70,78]⟩,.func (.func 301) #[] #[.pointer (some ⟨p,0,none⟩)],.func lf la lc]:=by rw[hW4];exact(aG w2 [.string ⟨#[70,78]⟩,.func (.func 301) #[] #[.pointer (some ⟨p,0,none⟩)],.func lf la lc] _ _ rfl).kept (ah _ _)
 obtain⟨gv,hgv⟩:∃ x,x=w2.heap.size+1:=⟨_,rfl⟩
 obtain⟨gr,hgr⟩:∃ x,x=w2.heap.size:=⟨_,rfl⟩
 have hv4:Bk W4 gv (gU 0++gU 0):=by rw[hW4];exact aG _ (gU 0++gU 0) _ _ (by rw[hgv];simp)
 have ah1:Fz W4 gv:=by rw[hW4];exact bD _ _ _ _ (by rw[hgv];simp)
 rw[<-hW4,<-hgv,<-hgr];rw[<-hgr] at hr4;have hgw:w.heap.size+1<gr:=by omega
 have HGG:Hid (gv=gr+1):=hid (by omega);have HX4:=hid (Yb.out.kept oJ);have HK4:=hid (ahZ.out.kept oJ);have HE4:=hid (HE2.out.kept oJ);have HKA:=hid (ah0.out.tr oJ);have y4:=HX4.out.2 4 _ rfl;have HKB:=hid (HK2.out.tr oJ);clear x0 y0 y1 y2 y3 hW4 hgr hgv oJ hn2 hl2 hmk;go_wp2_with(fail)
 have ah2:w.heap.size<=gv:=by have:=HGG.out;omega
 have ajQ:w.heap.size≠gv:=by have:=HGG.out;omega
 have Wv:g≠gv:=by have:=HGG.out;have:=HE.out.1;omega
 have ah3:gr≠gv:=by have:=HGG.out;omega
 have ajR:w.heap.size+1+1≠gv:=by have:=HGG.out;omega
 have hM0:=HE4.out;have HM0:=hid hM0;clear y4
 go_loopg [31] 3 (fun gk vi wr=>(gk=3/\vi=.int .i64 0/\wr=W4)∨(gk=2/\vi=.int .i64 1/\∃ a c,Sl wr (.slice a 0 c) []/\MhR W4 gv (Qk 2 1 (.slice a 0 c)++gU 0) wr)∨(gk=1/\vi=.int .i64 2/\∃ a c,Sl wr (.slice a 0 c) []/\MhR W4 gv (Qk 2 1 (.slice a 0 c)++gU 3) wr))
 case atStart=>exact .inl ⟨rfl,rfl,rfl⟩
 case round=>
  rcases hrel with⟨rfl,rfl,rfl⟩|⟨rfl,rfl,a,c,hs,hM⟩|⟨rfl,rfl,a,c,hs,hM⟩
  ·have hM:MhR wr gv (gU 0++gU 0) wr:=⟨World.grownBy.refl _ _,hv4,ah1⟩
   have c0:=(hM0.gb hM.k Wv).2 0 _ rfl;have c1:=(hM0.gb hM.k Wv).2 1 _ rfl;have c2:=(hM0.gb hM.k Wv).2 2 _ rfl;have c3:=(hM0.gb hM.k Wv).2 3 _ rfl;have c4:=(hM0.gb hM.k Wv).2 4 _ rfl;go_upto_region 8 with(fail)
   obtain⟨W5,hW5⟩:∃ x,x=wr.alloc (.cells #[.int .i64 3,.string b2,.int .i64 0,.slice none 0 0,.slice (some ⟨g1,0,none⟩) 1 cap1] 50):=⟨_,rfl⟩
   have EO:ay wr W5:=by rw[hW5];exact ah _ _
   obtain⟨gy,hgy⟩:∃ x,x=wr.heap.size:=⟨_,rfl⟩
   have hy5:Bk W5 gy (zl b2 (.slice (some ⟨g1,0,none⟩) 1 cap1)):=by rw[hW5];exact aG _ (zl b2 (.slice (some ⟨g1,0,none⟩) 1 cap1)) _ _ hgy
   rw[<-hW5,<-hgy];clear hW5 hgy c0 c1 c2 c3 c4;have hv5:=hM.v.kept EO;have hf5:=hM.f.kept EO;have hr5:=(hr4.gb hM.k ah3).kept EO;have c0:=hy5.2 0 _ rfl;have c1:=hy5.2 1 _ rfl;have c2:=hy5.2 2 _ rfl;have c3:=hy5.2 3 _ rfl;have c4:=hy5.2 4 _ rfl;have x0:=((HK4.out.gb hM.k ajQ).kept EO).2 0 _ rfl;have r0:=hr5.2 0 _ rfl;have ajS:=hid (ay.tr (aH HKA.out hM.k ah2 HKA.out.size) EO);have HM:=hid hM;clear hM hr5
   go_region_law((go_simp;go_at_call 149;refine(HA.out _ (by exact ajS.out.tr (aC _))).mono ?_;rintro e w6 ⟨a,c,rfl,hs6,hk6⟩;have Po:ay W5 w6:=(by exact(aC _).tr hk6);have hv6:=hv5.kept Po;have hf6:=hf5.kept Po;unfold Qk;unfold gU at hv6;have z0:=hv6.2 0 _ rfl;have f0:=hf6.2 0;have z1:=hv6.2 1 _ rfl;have f1:=hf6.2 1;have z2:=hv6.2 2 _ rfl;have f2:=hf6.2 2;have z3:=hv6.2 3 _ rfl;have f3:=hf6.2 3;have z4:=hv6.2 4 _ rfl;have f4:=hf6.2 4;have z5:=hv6.2 5 _ rfl;have f5:=hf6.2 5;have z6:=hv6.2 6 _ rfl;have f6:=hf6.2 6;have z7:=hv6.2 7 _ rfl;have f7:=hf6.2 7;have z8:=hv6.2 8 _ rfl;have f8:=hf6.2 8;have z9:=hv6.2 9 _ rfl;have f9:=hf6.2 9))
   all_goals
    have hM7:MhR wr gv (Qk 2 1 (.slice a 0 c)++gU 0) _:=⟨bJ (bJ HM.out.k EO) Po|>.trans (Uj w6 gv (.int .i64 2) (.int .i64 1) (.slice a 0 c) (.int .i64 0) (.int .i64 0) (.slice none 0 0) (.int .i64 0) (.slice none 0 0) (.int .i64 0) (.slice none 0 0)),hv6.Ui _ _ _ _ _ _ _ _ _ _,hf6.Ui _ _ _ _ _ _ _ _ _ _⟩
    have HM7:=hid hM7;have HS:=hid hs6;clear hM7 hs6;go_wp2_with(fail)
    go_roundg 2
    case measure=>omega
    case rel=>exact .inr (.inl ⟨rfl,rfl,a,c,EN HS.out,HM7.out⟩)
  ·have HS:=hid hs;clear hs;have c0:=(hM0.gb hM.k Wv).2 5 _ rfl;have c1:=(hM0.gb hM.k Wv).2 6 _ rfl;have c2:=(hM0.gb hM.k Wv).2 7 _ rfl;have c3:=(hM0.gb hM.k Wv).2 8 _ rfl;have c4:=(hM0.gb hM.k Wv).2 9 _ rfl;go_upto_region 8 with(fail)
   obtain⟨W5,hW5⟩:∃ x,x=wr.alloc (.cells #[.int .i64 1,.string ⟨#[]⟩,.int .i64 3,.slice none 0 0,.slice none 0 0] 50):=⟨_,rfl⟩
   have EO:ay wr W5:=by rw[hW5];exact ah _ _
   obtain⟨gy,hgy⟩:∃ x,x=wr.heap.size:=⟨_,rfl⟩
   have hy5:Bk W5 gy (Di 3):=by rw[hW5];exact aG _ (Di 3) _ _ hgy
   rw[<-hW5,<-hgy];clear hW5 hgy c0 c1 c2 c3 c4;have hv5:=hM.v.kept EO;have hf5:=hM.f.kept EO;have hr5:=(hr4.gb hM.k ah3).kept EO;have c0:=hy5.2 0 _ rfl;have c1:=hy5.2 1 _ rfl;have c2:=hy5.2 2 _ rfl;have c3:=hy5.2 3 _ rfl;have c4:=hy5.2 4 _ rfl;have x0:=((HK4.out.gb hM.k ajQ).kept EO).2 0 _ rfl;have r0:=hr5.2 0 _ rfl;have ajS:=hid (ay.tr (aH HKA.out hM.k ah2 HKA.out.size) EO);have HM:=hid hM;clear hM hr5;have afp:=hid (fun W=>arg_num t 3 W);unfold Di gU at afp
   go_region_law((go_simp;go_at_call 149;refine(afp.out _).mono ?_;rintro e w6 ⟨rfl,hk6⟩;have Po:ay W5 w6:=(by exact(aC _).tr hk6);have hv6:=hv5.kept Po;have hf6:=hf5.kept Po;unfold Qk gU at hv6;have z0:=hv6.2 10 _ rfl;have f0:=hf6.2 10;have z1:=hv6.2 11 _ rfl;have f1:=hf6.2 11;have z2:=hv6.2 12 _ rfl;have f2:=hf6.2 12;have z3:=hv6.2 13 _ rfl;have f3:=hf6.2 13;have z4:=hv6.2 14 _ rfl;have f4:=hf6.2 14;have z5:=hv6.2 15 _ rfl;have f5:=hf6.2 15;have z6:=hv6.2 16 _ rfl;have f6:=hf6.2 16;have z7:=hv6.2 17 _ rfl;have f7:=hf6.2 17;have z8:=hv6.2 18 _ rfl;have f8:=hf6.2 18;have z9:=hv6.2 19 _ rfl;have f9:=hf6.2 19))
   all_goals
    have hM7:MhR W4 gv (Qk 2 1 (.slice a 0 c)++gU 3) _:=⟨bJ (bJ HM.out.k EO) Po|>.trans (Ul w6 gv (.int .i64 0) (.int .i64 0) (.slice none 0 0) (.int .i64 0) (.int .i64 0) (.slice none 0 0) (.int .i64 0) (.slice none 0 0) (.int .i64 3) (.slice none 0 0)),hv6.Uk _ _ _ _ _ _ _ _ _ _,hf6.Uk _ _ _ _ _ _ _ _ _ _⟩
    have HM7:=hid hM7;clear hM7;go_wp2_with(fail)
    go_roundg 1
    case measure=>omega
    case rel=>exact .inr (.inr ⟨rfl,rfl,a,c,EN HS.out,HM7.out⟩)
  ·have r1:=(hr4.gb hM.k ah3).2 1 _ rfl;have HM:=hid hM;have HS:=hid hs;have HKK:=hid (aH HKA.out hM.k ah2 HKA.out.size);obtain⟨ld,hld⟩:∃ x,x=D.length:=⟨_,rfl⟩
   have HLD:=hid hld;clear hM hs hld;go_wp2_with(fail)
   refine(HF.out _ gv a c HKK.out HM.out.v HS.out).mono ?_;rintro e w8 ⟨a',c',fa,fc,rfl,ho8,hr8,hk8⟩;rw[<-HLD.out];have hb8:=((HBR.out.kept HKB.out).gb HM.out.k ajR).kept hk8;have hf8:=((HFR.out.kept HKB.out).gb HM.out.k ajR).kept hk8;unfold agS;unfold gU at hb8;have z0:=hb8.2 0 _ rfl;have f0:=hf8.2 0;have z1:=hb8.2 1 _ rfl;have f1:=hf8.2 1;have z2:=hb8.2 2 _ rfl;have f2:=hf8.2 2;have z3:=hb8.2 3 _ rfl;have f3:=hf8.2 3;have z4:=hb8.2 4 _ rfl;have f4:=hf8.2 4;have z5:=hb8.2 5 _ rfl;have f5:=hf8.2 5;have z6:=hb8.2 6 _ rfl;have f6:=hf8.2 6;have z7:=hb8.2 7 _ rfl;have f7:=hf8.2 7;have z8:=hb8.2 8 _ rfl;have f8:=hf8.2 8;have z9:=hb8.2 9 _ rfl;have f9:=hf8.2 9;have HO:=hid ho8;have HRR:=hid hr8;have HK8:=hid (ay.tr HKK.out hk8);have HB8:=hid hb8;have hlow:w.heap.size+1+1<wr.heap.size:=by have:=HM.out.k.size;have:=HKB.out.size;have:=HZ.out;omega
   clear ho8 hr8 hk8 hb8 hf8;go_wp2_with(fail)
   have hk8:=HK8.out;have hld:=HLD.out;subst hld;refine bodyPost_ret (aF rfl rfl (gZ (HB8.out.Dk _ _ _ _ _ _ _ _ _ _))) rfl ⟨a',c',fa,fc,rfl, ?_, ?_, ?_⟩
   ·exact(Dn HO.out hlow _ _ _ _ _ _ _ _ _ _).mono (by omega)
   ·exact(HRR.out.Dk hlow _ _ _ _ _ _ _ _ _ _).mono (by omega)
   ·exact aH hk8 (mJ _ _ _ _ _ _ _ _ _ _ _ _) (by omega) hk8.size
end
end Go.Proofs.YtoilbeadokallaaGreatDoor
