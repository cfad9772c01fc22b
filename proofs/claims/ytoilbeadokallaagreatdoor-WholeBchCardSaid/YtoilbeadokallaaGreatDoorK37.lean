/- The walk of mindist.run. Conditions: the code is one and lies in memory; the sets of Family are information sets whose columns have inverses. -/
import Derived.Test.YtoilbeadokallaaGreatDoorK36
namespace Go.Proofs.YtoilbeadokallaaGreatDoor
section
open Go.RowKit Cw Cw.Gj
def GU (G:GFd) (A:List (List Int)) (n:Nat) (S:List Nat):Prop:=
 adF S n/\(bV (opG G) A S [] []).length=A.length/\S.length=A.length/\(AX (opG G) (dM A S)).2.length=A.length/\WF G.q (AX (opG G) (dM A S)).1 A.length/\(AX (opG G) (dM A S)).1.length=A.length
def DY (G:GFd) (A:List (List Int)) (n:Nat) (l:List (List Nat×Nat)):List (List (List Int)):=l.map fun p=>Dx (opG G) A n p.1
def rkR (l:List (List Nat×Nat)):List Int:=bQ (l.map (·.2))
def al6 (G:GFd) (A:List (List Int)) (n:Nat) (w:World) (e:Ending) (w':World):Prop:=
 ay w w'/\∃ steps:List (List Nat×Nat),DX (opG G) A n [] steps/\
  ((∃ best vo bv,Lp (opG G) A.length G.q.toNat n (DY G A n steps) (rkR steps) 1 ([],0) (some best)/\e=.returned (.tuple #[vo,bv,.int .i64 0])/\Sl w' bv best/\best.length<=64)∨
   (Lp (opG G) A.length G.q.toNat n (DY G A n steps) (rkR steps) 1 ([],0) none/\e=.returned (.tuple #[.slice none 0 0,.slice none 0 0,.int .i64 8])))
theorem SrM.al7 {w w1 w2:World} {bs b:Nat} {c1 c2 c3 c4 c5 vgs bv v':Value} {s:List Int×Int} (h:SrM w bs b c1 c2 c3 c4 c5 vgs bv s) (k:ay w w1) (hg:w1.grownBy w2 vgs.ownBlock) (hn:vgs.ownBlock≠some bs) (hb:bv.ownBlock=none∨bv.ownBlock≠vgs.ownBlock):SrM (w2.setCell ⟨bs,6,none⟩ v') bs b c1 c2 c3 c4 c5 v' bv s:=
 ⟨((h.bk.kept k).gbo hg hn).set 6 _,fE ((h.fz.kept k).gbo hg hn) _ _ _,((h.own.kept k).grownBy hg hb).grownBy (aj _ bs 6 _) (.inr fun e=>by have:=(aN h.own e).1;omega),h.len⟩
theorem SrM.gbo {w w':World} {bs b:Nat} {c1 c2 c3 c4 c5 c6 bv:Value} {s:List Int×Int} (h:SrM w bs b c1 c2 c3 c4 c5 c6 bv s) {x:Option Nat} (hg:w.grownBy w' x) (hn:x≠some bs) (hb:bv.ownBlock=none∨bv.ownBlock≠x):SrM w' bs b c1 c2 c3 c4 c5 c6 bv s:=⟨h.bk.gbo hg hn,h.fz.gbo hg hn,h.own.grownBy hg hb,h.len⟩
theorem GV (w:World) (u0 u1 u2 u3:Value) (T:TypeId):(w.alloc (.cells #[u0,u1,u2,u3] T)).cell? ((⟨w.heap.size,0,none⟩:Addr).add 0)=some u0/\(w.alloc (.cells #[u0,u1,u2,u3] T)).cell? ((⟨w.heap.size,0,none⟩:Addr).add 1)=some u1/\(w.alloc (.cells #[u0,u1,u2,u3] T)).cell? ((⟨w.heap.size,0,none⟩:Addr).add 2)=some u2/\(w.alloc (.cells #[u0,u1,u2,u3] T)).cell? ((⟨w.heap.size,0,none⟩:Addr).add 3)=some u3:=by
 refine⟨?_, ?_, ?_, ?_⟩<;> (rw[Addr.add_lit,World.cell?_alloc_at _ _ _ _ rfl];rfl)
theorem GX {a b c:World} {g:Nat} {x:Option Nat} (h:a.grownBy b (some g)) (k:b.grownBy c x) (hx:∀ j,x=some j->a.heap.size<=j∨g=j):a.grownBy c (some g):=World.grownBy.andThen h k fun j e=>(hx j e).imp id fun e=>by rw[e]
theorem uD {α β:Type} {l:List α} {f:α->β} {i:Nat} {p:α} (h:l[i]?=some p):(l.take (i+1)).map f=(l.take i).map f++ [f p]:=by
 obtain⟨h1,h2⟩:=zN.1 h;rw[yV h1,xq,h2];rfl
set_option maxRecDepth 100000 in
set_option maxHeartbeats 16000000 in
theorem run_any (G:GFd) (t:aK G) (n:Nat) (ma:Option Addr) (ml mc:Nat) (va:Option Addr) (vc:Nat) (A:List (List Int)) (P:List Nat) (w:World) (h:CdM w G n ma ml mc va vc A P) (hA:0<A.length)
  (Qj:∀ steps,DX (opG G) A n [] steps->steps≠ []/\∀ p∈steps,GU G A n p.1/\p.2<=A.length):
  Calls Tryz.prog 29 #[cdV G n ma ml mc va A.length vc] w (al6 G A n w):=by
 show Calls Tryz.prog 29 #[.agg #[.int .i64 G.P,.int .i64 G.M,.slice ma ml mc,.int .i64 n,.slice va A.length vc]] w _;obtain⟨W1,hW1⟩:∃ x,x=w.alloc (.cells #[.int .i64 G.P,.int .i64 G.M,.slice ma ml mc,.int .i64 n,.slice va A.length vc] 29):=⟨_,rfl⟩
 obtain⟨bc,hbc⟩:∃ x,x=w.heap.size:=⟨_,rfl⟩
 have hk1:ay w W1:=by rw[hW1];exact ah _ _
 have bx:Bk W1 bc [.int .i64 G.P,.int .i64 G.M,.slice ma ml mc,.int .i64 n,.slice va A.length vc]:=by rw[hW1];exact aG w [.int .i64 G.P,.int .i64 G.M,.slice ma ml mc,.int .i64 n,.slice va A.length vc] _ _ hbc
 have hn1:=h.n1;have hn2:=h.n2;have hle:=h.rf.le;obtain⟨K,hK⟩:∃ x,x=A.length:=⟨_,rfl⟩
 have HC1:=hid (h.kept hk1);have HCK:=hid (sD G t ma ml mc n va A.length vc A P W1 HC1.out.f HC1.out.g HC1.out.rf hn1 hn2);rw[<-hK] at bx HCK hle hA ⊢;have HKK:=hid hK;have HBX:=hid bx;have HK1:=hid hk1;have HBC:=hid hbc;have ahU:=hid Qj;have x0:=bx.2 0 _ rfl;have x1:=bx.2 1 _ rfl;have x2:=bx.2 2 _ rfl;have x3:=bx.2 3 _ rfl;have x4:=bx.2 4 _ rfl;have tK:(((K:Nat):Int)==0)=false:=by simp;omega
 have aj9:K<=64:=by omega
 rw[<-hK] at hW1;clear h bx hk1 hle hK Qj;go_enter Tryz.func29,Tryz.ntmps29;go_upto_region 1 with(fail)
 rw[<-hW1,<-hbc];clear hW1 hbc;go_upto_region 2 with(go_at_call 23;(with_reducible refine HCK.out.mono ?_);rintro e w2 ⟨rfl,hk2⟩)
 have hb2:=HBX.out.kept hk2;clear x0 x1 x2 x3 x4;have x0:=hb2.2 0 _ rfl;have x1:=hb2.2 1 _ rfl;have x2:=hb2.2 2 _ rfl;have x4:=hb2.2 4 _ rfl;have HNW:=hid (fA G.P G.M (.slice ma ml mc) G.mod w2 (HC1.out.f.kept hk2) t.field);have HK2:=hid hk2;clear hb2 hk2;go_upto_region 7 with(go_at_call 47;(with_reducible refine HNW.out.mono ?_);rintro e w3 ⟨b,H,rfl,hg3,tH,hP,hM,hmod,hk3⟩)
 have HF:=hid (show opG H=opG G/\H.q=G.q from⟨EG tH t hP hM hmod,by rw[tH.hq,t.hq,hP,hM]⟩);have HK3:=hid (HK2.out.tr hk3);have HG3:=hid hg3;have HFA:=hid (PW G t n ma ml mc va vc A P w3 (HC1.out.kept HK3.out) (by rw[<-HKK.out];exact hA));unfold cdV at HFA;rw[<-HKK.out] at HFA;have hb3:=HBX.out.kept HK3.out;clear hP hM hmod x0 x1 x2 x4 hk3 hg3;have x0:=hb3.2 0 _ rfl;have x1:=hb3.2 1 _ rfl;have x2:=hb3.2 2 _ rfl;have x3:=hb3.2 3 _ rfl;have x4:=hb3.2 4 _ rfl;clear hb3;go_upto_region 10 with(go_at_call 64;(with_reducible refine HFA.out.mono ?_);rintro e w4 ⟨v4,steps,rfl,ag1,aaj,hk4⟩)
 obtain⟨adH,akb⟩:=ahU.out _ aaj;have afK:=YP aaj;obtain⟨gf,cf,hv4⟩:∃ g c,v4=.slice (some ⟨g,0,none⟩) steps.length c:=by
  rcases ag1.own.form with⟨_,e⟩|⟨g,c,e,_⟩
  ·rw[e] at adH;exact absurd rfl adH
  ·exact⟨g,c,e⟩
 subst hv4;obtain⟨Ms,hMs⟩:∃ x,x=steps.length:=⟨_,rfl⟩
 have hM1:1<=Ms:=by
  rw[hMs];rcases steps with _|⟨_,_⟩
  ·exact absurd rfl adH
  ·simp
 have hM2:Ms<=64:=by rw[hMs];simp at afK;omega
 rw[<-hMs] at ag1 ⊢;have HMS:=hid hMs;have al8:=hid ag1;have adI:=hid aaj;have aiE:=hid akb;have HK4:=hid (HK3.out.tr hk4);have HG4:=hid (HG3.out.kept hk4);have hb4:=HBX.out.kept HK4.out;clear ag1 aaj akb hk4 x0 x1 x2 x3 x4 adH afK hMs;have x0:=hb4.2 0 _ rfl;have x1:=hb4.2 1 _ rfl;have x2:=hb4.2 2 _ rfl;have x3:=hb4.2 3 _ rfl;have x4:=hb4.2 4 _ rfl;have l4:=hb4.1;clear hb4;go_upto_region 13 with(fail)
 obtain⟨W5,hW5⟩:∃ x,x=w4.alloc (.cells #[.pointer (some ⟨b,0,none⟩),.int .i64 G.P,.int .i64 G.M,.slice ma ml mc,.int .i64 n,.slice va K vc,.slice none 0 0,.slice none 0 0,.int .i64 0] 121):=⟨_,rfl⟩
 obtain⟨bs,hbs⟩:∃ x,x=w4.heap.size:=⟨_,rfl⟩
 rw[<-hW5,<-hbs];have hk5:ay w4 W5:=by rw[hW5];exact ah _ _
 have s5:SrM W5 bs b (.int .i64 G.P) (.int .i64 G.M) (.slice ma ml mc) (.int .i64 n) (.slice va K vc) (.slice none 0 0) (.slice none 0 0) ([],0):=
  ⟨by rw[hW5];exact aG w4 [.pointer (some ⟨b,0,none⟩),.int .i64 G.P,.int .i64 G.M,.slice ma ml mc,.int .i64 n,.slice va K vc,.slice none 0 0,.slice none 0 0,.int .i64 0] _ _ hbs,by rw[hW5];exact bD _ _ _ _ hbs,bZ _ _,by simp⟩
 have HS5:=hid s5;have HK5:=hid hk5;have HBS:=hid hbs;have aob:bc<bs:=by rw[hbs];exact l4
 have afL:w4.heap.size<=bs:=by rw[hbs];exact zy _
 have hsz5:W5.heap.size=bs+1:=by rw[hW5,hbs];simp
 have akc:=hid hsz5;clear hW5 hbs s5 hk5 x0 x1 x2 x3 x4 l4 hsz5;obtain⟨o,ho⟩:∃ o,o=opG G:=⟨_,rfl⟩
 go_wp2_with(fail)
 go_loopw [55,10] (fun vi vr wr=>∃ (vr' vgs:Value) (gv:Nat->Value) (rv:Nat->Nat->Value) (i:Nat),vr'=vr/\i<=Ms/\vi=.int .i64 i/\SrM wr bs b (.int .i64 G.P) (.int .i64 G.M) (.slice ma ml mc) (.int .i64 n) (.slice va K vc) vgs (.slice none 0 0) ([],0)/\
   GnM wr (bs+1) vgs gv rv (DY G A n ((steps.map (·.2)).take i))/\Own wr (bs+1) vr' (rkR ((steps.map (·.2)).take i))/\Hid (∀ x,afJ gv rv (DY G A n ((steps.map (·.2)).take i)) x->vr'.ownBlock≠some x)/\W5.grownBy wr (some bs)) (fun vi _ _=>Ms- (intOf vi).toNat)
 case atStart=>exact⟨_,_,_,_,0,rfl,by omega,rfl,HS5.out,acS _ _,bZ _ _,hid (fun x _ e=>by cases e),World.grownBy.refl _ _⟩
 case round=>
  obtain⟨vr,vgs,gv,rv,i,rfl,hi,rfl,hsr,hgn,hor,HND,hgr⟩:=hrel;have aiF:ay w4 wr:=aH HK5.out hgr afL HK5.out.size;have HSR:=hid hsr;have HGN:=hid hgn;have HOR:=hid hor;have HGR:=hid hgr;have aaC:=hid aiF;have hb4:=HBX.out.kept (HK4.out.tr aiF);clear hsr hgn hor hgr;by_cases hlt:i<Ms
  ·have hlt':(i:Int)< (Ms:Int):=by omega
   have hi0:(0:Int)<=(i:Int):=by omega
   have x0:=hb4.2 0 _ rfl;have x1:=hb4.2 1 _ rfl;have x2:=hb4.2 2 _ rfl;have x3:=hb4.2 3 _ rfl;have x4:=hb4.2 4 _ rfl;have lb4:=hb4.1;obtain⟨p,hp⟩:∃ p,steps[i]?=some p:=by
    have:i<steps.length:=by rw[<-HMS.out];exact hlt
    exact⟨steps[i],by simp[this]⟩
   have hfr:=al8.out.kept aiF;obtain⟨d0,d1⟩:=hfr.own.cells hp;have hpm:p∈steps:=xU hp;have hset:=(hfr.row p hpm).sl;obtain⟨afM,hrk⟩:=aiE.out _ (yY.2 ⟨p,hpm,rfl⟩);have aoc:gf<wr.heap.size:=by
    have:=(World.ownsRow.lt hfr.own gf rfl).2;exact this
   have HP:=hid hp;have afN:=hid hset;have aaD:=hid afM;have HRK:=hid hrk;clear hb4 hfr hpm hset afM hrk hp;obtain⟨pv,hpv⟩:∃ x,x=p.1:=⟨_,rfl⟩
   obtain⟨pS,hpS⟩:∃ x,x=p.2.1:=⟨_,rfl⟩
   obtain⟨pr,hpr⟩:∃ x,x=p.2.2:=⟨_,rfl⟩
   have HPE:Hid (p.2=(pS,pr)):=hid (by rw[hpS,hpr]);rw[<-hpv] at d0;rw[<-hpr] at d1;rw[<-hpv,<-hpS] at afN;rw[<-hpS] at aaD;rw[<-hpr] at HRK;clear hpv hpS hpr;obtain⟨pa,pc,ep,_,_⟩:=afN.out.lenOf;have HSK:Hid (pS.length=K):=hid (aaD.out.2.2.1.trans HKK.out.symm);rw[aI,HSK.out] at ep;subst ep;obtain⟨Gs,hGs⟩:∃ x,x=DY G A n ((steps.map (·.2)).take i):=⟨_,rfl⟩
   obtain⟨gl,hgl⟩:∃ x,x=Gs.length:=⟨_,rfl⟩
   have al9:gl<=64:=by rw[hgl,hGs];simp[DY];omega
   rw[<-hGs] at HGN HND;obtain⟨rk,hrk⟩:∃ x,x=rkR ((steps.map (·.2)).take i):=⟨_,rfl⟩
   rw[<-hrk] at HOR;have aiG:rk.length<=64:=by rw[hrk];simp[rkR,bQ];omega
   have ama:=hid hrk;have HGS:=hid hGs;have HGL:=hid hgl;clear hgl hGs hrk;go_upto_region 17 with(fail)
   obtain⟨W6,hW6⟩:∃ x,x=wr.alloc (.cells #[.slice pa K pc,.int .i64 pr] 123):=⟨_,rfl⟩
   obtain⟨xb,hxb⟩:∃ x,x=wr.heap.size:=⟨_,rfl⟩
   rw[<-hW6,<-hxb];have hk6:ay wr W6:=by rw[hW6];exact ah _ _
   have bx6:Bk W6 xb [.slice pa K pc,.int .i64 pr]:=by rw[hW6];exact aG wr [.slice pa K pc,.int .i64 pr] _ _ hxb
   have HSY:=hid (Eb G t n ma ml mc va vc A P pS (.slice pa K pc) W6 (HC1.out.kept ((HK4.out.tr aaC.out).tr hk6)) (afN.out.kept hk6) aaD.out.1 (by rw[<-HKK.out];exact hA) aaD.out.2.1 aaD.out.2.2.1 aaD.out.2.2.2.1 aaD.out.2.2.2.2.1 aaD.out.2.2.2.2.2);unfold cdV at HSY;rw[<-HKK.out] at HSY;have hb6:=HBX.out.kept ((HK4.out.tr aaC.out).tr hk6);have HB6:=hid bx6;have HK6:=hid hk6;have HXB:=hid hxb;have aod:bs<xb:=by rw[hxb];exact HSR.out.bk.1
   clear x0 x1 x2 x3 x4 d0 d1 hk6 hW6 hxb;have x0:=hb6.2 0 _ rfl;have x1:=hb6.2 1 _ rfl;have x2:=hb6.2 2 _ rfl;have x3:=hb6.2 3 _ rfl;have x4:=hb6.2 4 _ rfl;have y0:=bx6.2 0 _ rfl;have lb6:=hb6.1;have lx6:=bx6.1;clear hb6 bx6;obtain⟨C,hC⟩:∃ x,x=Dx (opG G) A n pS:=⟨_,rfl⟩
   rw[<-hC] at HSY;have HCE:=hid hC;clear hC;go_upto_region 18 with(go_at_call 65;(with_reducible refine HSY.out.mono ?_);rintro e w7 ⟨v7,rv7,rfl,hm7,hk7⟩;obtain⟨a7,c7,e7⟩:=hm7.lenOf;subst e7;have HM7:=hid hm7;have HK7:=hid hk7;clear hm7 hk7)
   go_upto_region 20 with(fail)
   obtain⟨W8,hW8⟩:∃ x,x=w7.alloc (.cells #[.int .i64 n,.slice a7 C.length c7] 71):=⟨_,rfl⟩
   obtain⟨mb,hmb⟩:∃ x,x=w7.heap.size:=⟨_,rfl⟩
   rw[<-hW8,<-hmb];have hk8:ay w7 W8:=by rw[hW8];exact ah _ _
   have bm8:Bk W8 mb [.int .i64 n,.slice a7 C.length c7]:=by rw[hW8];exact aG w7 [.int .i64 n,.slice a7 C.length c7] _ _ hmb
   have ag2:=hid (HK6.out.tr (HK7.out.tr hk8));have adJ:=hid (HSR.out.kept ag2.out);have ag3:=hid (HGN.out.kept ag2.out);have akd:=hid (HOR.out.kept ag2.out);have HM8:=hid ((HM7.out.kept hk8).mono (show bs+1<=W6.heap.size by omega));have HB8:=hid (HB6.out.kept (HK7.out.tr hk8));clear x0 x1 x2 x3 x4 y0 hW8 hmb hk8;have z6:=adJ.out.bk.2 6 _ rfl;have g6:=adJ.out.fz.2 6;have m1:=bm8.2 1 _ rfl;have ls8:bs<W8.heap.size:=adJ.out.bk.1;have lm8:mb<W8.heap.size:=bm8.1;clear bm8
   go_region_law((refine AY rfl (.tmp 73) (.tmp 76) rfl (bs+1) vgs gl ((List.range gl).map gv) rfl (by rw[HGL.out];exact(ag3.out.kept (ah _ _)).own) ⟨W8.heap.size,0,none⟩ (.slice a7 C.length c7) rfl (by exact aU rfl) rfl (by omega) (by simp;omega) ?_;intro w9 v10 w10 e9 o10 Vd;obtain⟨a10,c10,e10⟩:=dh o10;subst e10;have k89:ay W8 w9:=(by rw[e9];exact(ah _ _).tr (aC _));clear e9;have hnv:vgs.ownBlock≠some bs:=(fun e=>by have:=(ag3.out.lt (.inl e)).1;omega);have y6:=((adJ.out.bk.kept k89).gbo Vd hnv).2 6 _ rfl;have u6:=((adJ.out.fz.kept k89).gbo Vd hnv).2 6))
   all_goals
    obtain⟨W11,ag4⟩:∃ x,x=w10.setCell ⟨bs,6,none⟩ (.slice a10 (gl+1) c10):=⟨_,rfl⟩
    rw[<-ag4];have h11:SrM W11 bs b (.int .i64 G.P) (.int .i64 G.M) (.slice ma ml mc) (.int .i64 n) (.slice va K vc) (.slice a10 (gl+1) c10) (.slice none 0 0) ([],0):=by rw[ag4];exact adJ.out.al7 k89 Vd hnv (.inl rfl)
    have ag5:=(ag3.out.kept k89).add (HM8.out.kept k89) (by rw[<-HGL.out];exact o10) Vd;have aiH:=ag5.grown (aj w10 bs 6 (.slice a10 (gl+1) c10)) (fun e=>by have:=(ag5.lt (.inl e)).1;omega) (fun e=>by have:=(ag5.lt (.inr e)).1;omega);have aiI:Own w10 (bs+1) vr rk:=(akd.out.kept k89).grownBy Vd (by
     cases e:vr.ownBlock with
     |none=>exact .inl rfl
     |some x=>exact .inr fun e2=>DC (ag3.out.kept k89).own (akd.out.kept k89) (by decide) e e2.symm)
    have aiJ:=aiI.grownBy (aj w10 bs 6 (.slice a10 (gl+1) c10)) (.inr fun e=>by have:=(aN aiI e).1;omega);have aiK:=aQ (GX (bJ HGR.out (ag2.out.tr k89)) Vd (fun j e=>.inl (by have:=(HGN.out.lt (.inl e)).1;have:=akc.out;omega))) 6 (.slice a10 (gl+1) c10);have ag6:=((HB8.out.kept k89).gbo Vd (fun e=>by have:=(HGN.out.lt (.inl e)).2;have:=HXB.out;omega)).gb (aj w10 bs 6 (.slice a10 (gl+1) c10)) (show xb≠bs by omega);rw[<-ag4] at aiH aiJ aiK ag6;have afO:∀ x,afJ (fun j=>if j=Gs.length then .slice a7 C.length c7 else gv j) (fun j=>if j=Gs.length then rv7 else rv j) (Gs++ [C]) x->vr.ownBlock≠some x:=by
     rintro x ⟨j,hj,e⟩ e2;have hj':j<Gs.length+1:=by simpa using hj
     by_cases q:j=Gs.length
     ·simp only[q,if_true] at e;have e3:(Gs++ [C]).getD Gs.length []=C:=by simp[List.getD]
      rw[e3] at e;have h1:=(HM7.out.has_lt e).1;have h2:=(aN HOR.out e2).2;have h3:=HK6.out.size;omega
     ·simp only[q,if_false] at e;have e3:(Gs++ [C]).getD j []=Gs.getD j []:=by simp[List.getD,yU (show j<Gs.length by omega)]
      rw[e3] at e;exact HND.out x ⟨j,by omega,e⟩ e2
    have H11:=hid h11;have ake:=hid aiH;have ag7:=hid aiJ;have amb:=hid aiK;have akf:=hid afO;have x1:=ag6.2 1 _ rfl;have aoe:xb<W11.heap.size:=ag6.1;have amc:bs<W11.heap.size:=h11.bk.1;clear ag4 h11 ag5 aiH aiI aiJ aiK ag6 afO o10 Vd k89 hnv y6 u6 z6 g6 m1;go_wp2_with(at_builtin;refine dn rfl _ _ rfl (bs+1) vr rk rfl (ag7.out.kept (ah _ _)) ⟨W11.heap.size,0,none⟩ pr rfl (aU rfl) (by omega) (by simp;omega) ?_;intro g12 c12 w12 o12 LM akg)
    have hku:=ah W11 (.cells #[.int .i64 pr] 3);have hvb:vr.ownBlock≠some bs:=fun e=>by have:=(aN ag7.out e).1;omega
    have h12:=(H11.out.kept hku).gbo LM hvb (.inl rfl);have akh:GnM w12 (bs+1) (.slice a10 (gl+1) c10) (fun j=>if j=Gs.length then .slice a7 C.length c7 else gv j) (fun j=>if j=Gs.length then rv7 else rv j) (Gs++ [C]):=by
     have hgk:=ake.out.kept hku;cases q:vr.ownBlock with
     |none=>
      rw[q] at LM;exact hgk.kept ⟨LM.os,LM.tape,LM.output,LM.size,fun j hj=>LM.block j hj (by simp)⟩
     |some y=>
      rw[q] at LM;exact hgk.grown LM (DC hgk.own (ag7.out.kept hku) (by decide) q) (fun e=>akf.out y e q)
    have aki:=GX (bJ amb.out hku) LM (fun j e=>.inl (by have:=(aN ag7.out e).1;have:=akc.out;omega));have akj:∀ x,afJ (fun j=>if j=Gs.length then .slice a7 C.length c7 else gv j) (fun j=>if j=Gs.length then rv7 else rv j) (Gs++ [C]) x->(Value.slice (some ⟨g12,0,none⟩) (rk.length+1) c12).ownBlock≠some x:=fun x hx e=>by
     have e':g12=x:=by simpa[Value.ownBlock] using e
     rcases akg with q|q
     ·exact akf.out x hx (by rw[q,e'])
     ·have h1:=(ake.out.lt (.inr hx)).2;simp at q;omega
    have H12:=hid h12;have amd:=hid akh;have ame:=hid aki;have amf:=hid akj;have amg:=hid o12;clear hku hvb h12 akh aki akj o12 LM akg;have hsn:(steps.map (·.2))[i]?=some (pS,pr):=by rw[yM,HP.out];simp[HPE.out]
    have e1:DY G A n ((steps.map (·.2)).take (i+1))=Gs++ [C]:=by
     unfold DY;rw[uD hsn,HGS.out,HCE.out];rfl
    have e2:rkR ((steps.map (·.2)).take (i+1))=rk++ [(pr:Int)]:=by
     unfold rkR;rw[uD hsn,ama.out];simp[bQ,rkR]
    have E1:=hid e1;have E2:=hid e2;clear hsn e1 e2;go_roundw;case rel=>exact⟨_,_,_,_,i+1,rfl,by omega,by go_num,H12.out,by rw[E1.out];exact amd.out,by rw[E2.out];exact amg.out,by rw[E1.out];exact amf,ame.out⟩
    case measure=>simp[intOf];omega
  ·have hiM:i=Ms:=by omega
   have htk:=wQ (l:=steps.map (fun p:Value×List Nat×Nat=>p.2)) (i:=i) (by rw[yx,<-HMS.out];omega);rw[htk] at HGN HND HOR;obtain⟨Gs,hGs⟩:∃ x,x=DY G A n (steps.map (·.2)):=⟨_,rfl⟩
   obtain⟨rk,hrk⟩:∃ x,x=rkR (steps.map (·.2)):=⟨_,rfl⟩
   have afP:Gs.length=Ms:=by rw[hGs,HMS.out];simp[DY]
   have aiG:rk.length=Ms:=by rw[hrk,HMS.out];simp[rkR,bQ]
   have HRB:Hid (∀ r∈rk,0<=r/\r<=(K:Int)):=hid (fun r hr=>by
    rw[hrk] at hr;unfold rkR bQ at hr;obtain⟨q,hq,rfl⟩:=yY.1 hr;obtain⟨p,hp,rfl⟩:=yY.1 hq;have:=(aiE.out p hp).2;have:=HKK.out;omega)
   obtain⟨st,hst⟩:∃ st:List (List Nat×Nat),st=steps.map fun p=>p.2:=⟨_,rfl⟩
   have HGB:Hid (∀ j,j<Ms->(Gs.getD j []).length<=64/\∀ q,q< (Gs.getD j []).length->(Gj.row (Gs.getD j []) q).length=n):=hid (fun j hj=>by
    have hj':j<st.length:=by rw[hst,yx,<-HMS.out];exact hj
    have e:Gs.getD j []=Dx (opG G) A n (st[j]'hj').1:=by
     rw[hGs,<-hst];unfold DY;simp only[List.getD,yM,zq hj',sK,zU]
    have hST:=aiE.out;rw[<-hst] at hST;have h1:=(hST _ (zF hj')).1;have hl:(Dx (opG G) A n (st[j]'hj').1).length=K:=by
     unfold Dx mulL;rw[yx,h1.2.2.2.2.2,<-HKK.out]
    rw[e];refine⟨by rw[hl];exact aj9,fun q hq=>?_⟩;unfold Dx at hq ⊢;have hq':q< (AX (opG G) (dM A (st[j]'hj').1)).1.length:=by simpa[mulL] using hq
    rw[GR hq'];exact Bv _ _ _ _ _)
   clear hst;rw[<-hGs] at HGN HND;rw[<-hrk] at HOR;obtain⟨gg,gc,amh⟩:∃ g c,vgs=.slice (some ⟨g,0,none⟩) Ms c:=by
    rcases HGN.out.form with⟨_,e⟩|⟨g,c,e,_⟩
    ·rw[e] at afP;simp at afP;omega
    ·rw[afP] at e;exact⟨g,c,e⟩
   subst amh;have HGS:=hid hGs;have HRK:=hid hrk;have aiL:=hid afP;have akk:=hid aiG;obtain⟨Q,hQ⟩:∃ x,x=G.q.toNat:=⟨_,rfl⟩
   have HQ:=hid hQ;obtain⟨Ws,hWs⟩:∃ y,y=wr:=⟨_,rfl⟩
   subst hWs;have aof:bs<Ws.heap.size:=HSR.out.bk.1;clear hiM htk hGs hrk afP aiG hQ hb4;go_wp2_with(fail)
   clear hi hlt
   go_loopw [16,15] (fun vw ami wx=>∃ (vo' bv:Value) (wd m:Nat) (s:List Int×Int) (cs:List Value),vo'=ami/\1<=wd/\wd<=K+1/\vw=.int .i64 wd/\SrM wx bs b (.int .i64 G.P) (.int .i64 G.M) (.slice ma ml mc) (.int .i64 n) (.slice va K vc) (.slice (some ⟨gg,0,none⟩) Ms gc) bv s/\wx.ownsRow Ws.heap.size 129 4 vo' m cs/\m+1<=wd/\
    Hid (∀ r,Lp (opG G) K Q n Gs rk wd s r->Lp (opG G) K Q n Gs rk 1 ([],0) r)/\Ws.grownBy wx (some bs)) (fun vw _ _=>K+1- (intOf vw).toNat)
   case atStart=>exact⟨_,_,1,0,([],0),[],rfl,by omega,by omega,rfl,HSR.out,⟨rfl,.inl ⟨rfl,rfl⟩⟩,by omega,hid (fun r h=>h),World.grownBy.refl _ _⟩
   case round=>
    obtain⟨vo,bv,wd,m,s,cs,rfl,amj,hwd2,rfl,hsr,hor,hm,HRN,hgr⟩:=hrel;have hkw:ay w4 wr:=aH aaC.out hgr afL aaC.out.size;have hbx:=HBX.out.kept (HK4.out.tr hkw);have x3:=hbx.2 3 _ rfl;have x4:=hbx.2 4 _ rfl;have lbc:=hbx.1;have aiM:=hid hsr;have akl:=hid hor;have amk:=hid hgr;have HKW:=hid hkw;by_cases hwk:wd<=K
    ·have c1:decide (wd<=K)=true:=by simp;omega
     have HMO:=hid (Y0 b H tH bs _ _ _ _ bv va K vc (some ⟨gg,0,none⟩) Ms gc s wd wr (HG4.out.kept hkw) hsr amj hwk aj9 hM1 hM2);rw[HF.out.2,<-HQ.out] at HMO;clear hsr hor hgr hkw hbx;go_upto_region 28 with(go_at_call 66;(with_reducible refine HMO.out.mono ?_);rintro e w9 ⟨hk9,he⟩;have HK9:=hid hk9;clear hk9;rcases he with⟨x,rfl⟩|⟨hno,rfl⟩)
     ·clear x3 x4;have hbx:=HBX.out.kept (HK4.out.tr (HKW.out.tr HK9.out));have x3:=hbx.2 3 _ rfl;have x4:=hbx.2 4 _ rfl;have aog:=hbx.1;have hs9:=aiM.out.kept HK9.out;have z6:=hs9.bk.2 6 _ rfl;have ls9:bs<w9.heap.size:=hs9.bk.1;have HS9:=hid hs9;have aml:=hid (bJ amk.out HK9.out);clear hs9 hbx;go_wp2_with(fail)
      obtain⟨wo,hwo⟩:∃ y,y=wr:=⟨_,rfl⟩
      subst hwo
      go_loopw [107] (fun vi wx=>∃ (bv':Value) (j:Nat) (s':List Int×Int),j<=Ms/\vi=.int .i64 j/\SrM wx bs b (.int .i64 G.P) (.int .i64 G.M) (.slice ma ml mc) (.int .i64 n) (.slice va K vc) (.slice (some ⟨gg,0,none⟩) Ms gc) bv' s'/\Hid ((Gs.drop j).foldl (fun s B=>zD (opG G) Q B wd (List.replicate n 0) 0 true s) s'=Aa (opG G) Q n wd Gs s)/\w9.grownBy wx (some bs)) (fun vi _=>Ms- (intOf vi).toNat)
      case atStart=>exact⟨bv,0,s,by omega,rfl,HS9.out,hid rfl,World.grownBy.refl _ _⟩
      case round=>
       obtain⟨bv',j,s',hj,rfl,hsx,HGE,hgx⟩:=hrel;have HSX:=hid hsx;have HGX:=hid hgx;have afQ:=hid (aO aml.out hgx);have hkx:ay w4 wr:=aH aaC.out afQ.out afL aaC.out.size;have HKX:=hid hkx;have hbx:=HBX.out.kept (HK4.out.tr hkx);clear x3 x4 z6;have x3:=hbx.2 3 _ rfl;have x4:=hbx.2 4 _ rfl;have lbx:=hbx.1;clear hsx hgx hkx hbx;by_cases hjl:j<Ms
       ·have aiu:(j:Int)< (Ms:Int):=by omega
        have hj0:(0:Int)<=(j:Int):=by omega
        obtain⟨C,hC⟩:∃ x,x=Gs.getD j []:=⟨_,rfl⟩
        have hjG:j<Gs.length:=by rw[aiL.out];exact hjl
        have lsx:bs<wr.heap.size:=HSX.out.bk.1;have ag8:=HGN.out.grown afQ.out (fun e=>by have:=(HGN.out.lt (.inl e)).1;omega) (fun e=>by have:=(HGN.out.lt (.inr e)).1;omega);have hcg:=ag8.cell hjG;have acT:=ag8.row j hjG;have lgg:gg<wr.heap.size:=(ag8.lt (.inl rfl)).2;rw[<-hC] at acT;have hCb:=HGB.out j hjl;rw[<-hC] at hCb;have HSU:Hid (∀ (vw:Value) (w':World),ay wr w'->Own w' (bs+1) vw (List.replicate n 0)->Calls Tryz.prog 67 #[.pointer (some ⟨bs,0,none⟩),gv j,vw,.int .i64 0,.int .i64 wd,.bool true] w' (aip w' bs b (.int .i64 G.P) (.int .i64 G.M) (.slice ma ml mc) (.int .i64 n) (.slice va K vc) (.slice (some ⟨gg,0,none⟩) Ms gc) (zD (opG H) H.q.toNat C wd (List.replicate n 0) 0 true s'))):=hid (fun vw w' hk' hv=>YZ b H tH bs (.int .i64 G.P) (.int .i64 G.M) (.slice ma ml mc) (.int .i64 n) (.slice va K vc) (.slice (some ⟨gg,0,none⟩) Ms gc) (gv j) C (rv j) n w4 HG4.out afL (by omega) hn2 hCb.2 hCb.1 wd vw (List.replicate n 0) 0 true bv' s' w' (by omega) (by omega) (HKX.out.tr hk') (HSX.out.kept hk') (acT.kept hk') hv (by simp) (fun q hq=>by rw[HF.out.2];have:=t.qb.1;simp[List.getD,hq];omega));have hnx:Hid (Aa (opG G) Q n wd Gs s=(Gs.drop (j+1)).foldl (fun s B=>zD (opG G) Q B wd (List.replicate n 0) 0 true s) (zD (opG G) Q C wd (List.replicate n 0) 0 true s')):=hid (by
         rw[<-HGE.out,yP hjG,sJ];have e:Gs[j]=C:=by rw[hC];simp[List.getD,hjG]
         rw[e])
        obtain⟨gj,hgj⟩:∃ x,x=gv j:=⟨_,rfl⟩
        obtain⟨s2,hs2⟩:∃ x,x=zD (opG G) Q C wd (List.replicate n 0) 0 true s':=⟨_,rfl⟩
        rw[<-hgj] at hcg HSU;rw[HF.out.1,HF.out.2,<-HQ.out,<-hs2] at HSU;rw[<-hs2] at hnx;clear hC ag8 acT hCb hgj hs2;go_wp2_with(first|(at_make;refine aJ rfl _ _ rfl n _ _ rfl rfl rfl rfl (by omega) ?_;intro w5 ho5 hk5)|(go_at_call 67;(with_reducible refine(HSU.out _ _ hk5 (ho5.mono (by omega))).mono ?_);rintro e w6 ⟨rfl,bv6,hs6,hg6⟩))
        have HS6:=hid hs6;have HG6:=hid (aO (bJ HGX.out hk5) hg6);clear hs6 hg6 hk5 ho5;go_roundw;case rel=>exact⟨bv6,j+1,s2,by omega,by go_num,HS6.out,hid hnx.out.symm,HG6.out⟩
        case measure=>simp[intOf];omega
       ·have hjM:j=Ms:=by omega
        have hge:s'=Aa (opG G) Q n wd Gs s:=by
         have:=HGE.out;rw[hjM,xW (by rw[aiL.out];exact zy _)] at this;exact this
        have ag9:=hid hge;have akm:Own wr (bs+1) vr rk:=HOR.out.grownBy afQ.out (.inr fun e=>by have:=(aN HOR.out e).1;omega);have HFL:=hid (UK (K:Int) (wd:Int) vr rk wr akm.sl (by omega) (by omega) (by omega) (by omega) (by rw[akk.out];exact hM2) HRB.out);have hfb:=Dw (k:=(K:Int)) (w:=(wd:Int)) (by omega) (by omega) (by omega) rk HRB.out;rw[akk.out] at hfb;obtain⟨fl,hfl⟩:∃ x,x=jy (K:Int) (wd:Int) rk:=⟨_,rfl⟩
        rw[<-hfl] at HFL hfb;have HFE:=hid hfl;have aha:=World.ownsRow.kept akl.out (aO (bW HK9.out) HGX.out) (.inr fun e=>by have:=(World.ownsRow.lt akl.out bs e).1;omega);clear hjM hge hfl akm;go_upto_region 38 with(go_at_call 68;(with_reducible refine HFL.out.mono ?_);rintro e w' ⟨rfl,hw⟩;subst w')
        have HOK:Hid (∀ w',ay wr w'->w'.ownsRow Ws.heap.size 129 4 vo m cs):=hid (fun w' k=>World.ownsRow.kept aha (bW (g:=wr.heap.size) k) (.inr fun e=>by have:=(World.ownsRow.lt aha _ e).2;omega));have HVO:Hid (∀ x,vo.ownBlock=some x->Ws.heap.size<=x):=hid (fun x e=>(World.ownsRow.lt aha x e).1);have akn:=hid (fun w' (k:ay wr w')=>jH bv' s'.1 w' ((HSX.out.kept k).own.sl) (by have:=HSX.out.len;omega));obtain⟨D,hD⟩:∃ x,x=wt s'.1:=⟨_,rfl⟩
        rw[<-hD] at akn;have HD:=hid hD;have hDb:D<=64:=by rw[hD];exact zJ (afw _) HSX.out.len
        clear hD aha x3 x4;have x7:=HSX.out.bk.2 7 _ rfl;have x8:=HSX.out.bk.2 8 _ rfl;have lsx:bs<wr.heap.size:=HSX.out.bk.1;have lws:Ws.heap.size<=wr.heap.size:=afQ.out.size
        go_region_law(first|(go_simp;go_at_call 30;(with_reducible refine(akn.out _ (by exact aC _)).mono ?_);rintro e w' ⟨rfl,hw⟩;subst w')|(refine Ad rfl (.tmp 131) (.tmp 144) rfl Ws.heap.size vo m cs rfl (by exact HOK.out _ ((ah _ _).tr (aC _))) ⟨wr.heap.size,0,none⟩ wd s'.2 D fl rfl (by exact(GV _ _ _ _ _ _).1) (by exact(GV _ _ _ _ _ _).2.1) (by exact(GV _ _ _ _ _ _).2.2.1) (by exact(GV _ _ _ _ _ _).2.2.2) (by omega) (by simp;omega) ?_;intro w12 v12 w13 cs' e12 o12 LM;have k12:ay wr w12:=(by rw[e12];exact(ah _ _).tr (aC _));clear e12))
        all_goals
         have adK:=(HSX.out.kept k12).gbo LM (fun e=>by have:=HVO.out _ e;omega) (by
          cases e:bv'.ownBlock with
          |none=>exact .inl rfl
          |some x=>exact .inr fun e2=>DC (HOK.out _ k12) (HSX.out.kept k12).own (by decide) e e2.symm)
         have aiN:=GX (bJ afQ.out k12) LM (fun j e=>.inl (HVO.out j e));have aiO:=hid adK;have amm:=hid aiN;have Bj:ay w4 w13:=aH aaC.out aiN afL aaC.out.size;have Ac:=hid Bj;have amn:=HBX.out.kept (HK4.out.tr Bj);have HWT:=hid (jH bv' s'.1 w13 adK.own.sl (by have:=adK.len;omega));rw[<-HD.out] at HWT;have O12:=hid o12;clear x7 x8 k12 LM Bj o12;have x7:=adK.bk.2 7 _ rfl;have aoh:bs<w13.heap.size:=adK.bk.1;clear adK aiN amn;by_cases hst:(D:Int)<fl
         ·have c2:decide ((D:Int)<fl)=true:=by simpa using hst
          have HST:=hid hst;clear hst;go_upto_region 40 with(go_at_call 30;(with_reducible refine HWT.out.mono ?_);rintro e w' ⟨rfl,hw⟩;subst w')
          go_quiet(fail);go_wp2_with(fail)
          refine bodyPost_ret (v:=.tuple #[v12,bv',.int .i64 0]) ?_ rfl ⟨(HK1.out.tr (HK4.out.tr Ac.out)).drewN _,steps.map (fun p:Value×List Nat×Nat=>p.2),adI.out,.inl ⟨s'.1,v12,bv', ?_,rfl,(aiO.out.own.kept (aB _ _)).sl,aiO.out.len⟩⟩
          ·simp[results,Tryz.results29,go_sem]
          ·rw[<-HKK.out,<-HQ.out,<-HGS.out,<-HRK.out,ag9.out];exact HRN.out _ (.stop wd s hwk (by rw[<-ag9.out,<-HD.out,<-HFE.out];exact HST.out))
         ·have c2:decide ((D:Int)<fl)=false:=by simpa using hst
          have HST:=hid hst;clear hst;go_wp2_with(go_at_call 30;(with_reducible refine HWT.out.mono ?_);rintro e w' ⟨rfl,hw⟩;subst w')
          go_roundw;case rel=>exact⟨v12,bv',wd+1,m+1,s',cs',rfl,by omega,by omega,by go_num,aiO.out,O12.out,by omega,hid (fun r hr=>HRN.out r (.next wd s r hwk (by rw[<-ag9.out,<-HD.out,<-HFE.out];have:=HST.out;omega) (by rw[<-ag9.out];exact hr))),amm.out⟩
          case measure=>simp[intOf];omega
     ·have HNO:=hid hno;clear hno;go_wp2_with(fail)
      refine bodyPost_ret (v:=.tuple #[.slice none 0 0,.slice none 0 0,.int .i64 8]) ?_ rfl ⟨HK1.out.tr (HK4.out.tr (HKW.out.tr HK9.out)),steps.map (fun p:Value×List Nat×Nat=>p.2),adI.out,.inr ⟨?_,rfl⟩⟩
      ·simp[results,Tryz.results29,go_sem]
      ·rw[<-HKK.out,<-HQ.out,<-HGS.out,<-HRK.out];exact HRN.out none (.big wd s hwk (by rw[aiL.out];exact HNO.out))
    ·have c1:decide (wd<=K)=false:=by simp;omega
     have x7:=hsr.bk.2 7 _ rfl;have ls:bs<wr.heap.size:=hsr.bk.1;clear hsr hor hgr hkw hbx;go_upto_region 40 with(fail)
     go_quiet(fail);go_wp2_with(fail)
     refine bodyPost_ret (v:=.tuple #[vo,bv,.int .i64 0]) ?_ rfl ⟨(HK1.out.tr (HK4.out.tr HKW.out)).drewN _,steps.map (fun p:Value×List Nat×Nat=>p.2),adI.out,.inl ⟨s.1,vo,bv, ?_,rfl,(aiM.out.own.kept (aB _ _)).sl,aiM.out.len⟩⟩
     ·simp[results,Tryz.results29,go_sem]
     ·rw[<-HKK.out,<-HQ.out,<-HGS.out,<-HRK.out];exact HRN.out _ (.done wd s (by omega))
end
end Go.Proofs.YtoilbeadokallaaGreatDoor
