/- Lemmas on the way to the row. Conditions: each lemma's own, stated with it. -/
import Derived.Test.YtoilbeadokallaaGreatDoorK17
import Derived.Test.YtoilbeadokallaaGreatDoorK19
set_option maxHeartbeats 8000000
namespace Go.Proofs.YtoilbeadokallaaGreatDoor
section
open Go.RowKit Cw Cw.Gj
theorem oI {w:World} {ops:Array Oper} {o:Oper} {a:Act} {K:Act->World->Prop} {Q:Exit->Act->World->Prop} {E:Prop} (hgd:o.guard=none) (s x:Operand)
  (ho:o.op=.call {callee:=.builtin .append,args:=#[s,x],argTypes:=#[22,22]}) (B:Nat) (v:Value) (xs:List Int) (hs:a.eval s=v) (hown:Own w B v xs)
  (ad:Addr) (y:Int) (hx:a.eval x=.slice (some ad) 1 1) (hc:w.cell? ad=some (.int .i64 y)) (hlen:xs.length+1<=1000000) (hB:B<=w.heap.size)
  (h:∀ v' w',Own w' B v' (xs++ [y])->w.grownBy w' v.ownBlock->(v'.ownBlock=v.ownBlock∨v'.ownBlock=some w.heap.size)->K (a.put o.dst v') w'):
  if Region.wanted o (yielded ops a.tmps)=true then Oper.wp Tryz.prog o a w K Q else E:=by
 rw[zu (by simp[Region.wanted,hgd])];obtain⟨i0,hi,hz0,hz1,hz2⟩:=info_parts Tryz.infoInt;obtain⟨v',w',hr,h2,h3,_,h5⟩:=run_append_own_at (P:=Tryz.prog) w B 22 o.type 3 i0 _ 1 8 Tryz.underlying22 hi hz0 hz1 hz2 rfl (by decide) v xs.length _ hown ad 1 1 [.int .i64 y] rfl
  (fun j u hu=>by
   match j with
   |0=>
    have e:u=.int .i64 y:=by simpa using hu.symm
    rw[e];have:ad.add 0=ad:=by cases ad;simp[Addr.add]
    rw[this];exact hc
   |j+1=>simp at hu) (fun u hu=>by rw[zH.1 hu];rfl) (by unfold maxLen;omega) (by omega) hB
 unfold Oper.wp execOp;simp only[ho,resolve,invoke,builtin,Sem.run_bind,Sem.run_pure,Result.andThen_ok,uQ,uN,rZ,hs,hx,hr];refine h v' w' ?_ h3 h5;unfold Own;rw[zX,xq];exact h2
section
variable {w w6:World} {B:Nat} {A:List (List Int)} {rv:Nat->Value}
theorem Mx.app {g n cap:Nat} (h:Mx w B (.slice (some ⟨g,0,none⟩) n cap) A rv) {i:Nat} (hi:i<A.length) {u:Value} {l:List Int} (hg:w.grownBy w6 (rv i).ownBlock) (hu:Own w6 B u l) (hd:u.ownBlock=(rv i).ownBlock∨ ∃ y,u.ownBlock=some y/\w.heap.size<=y):
  Mx (w6.setCell ⟨g,i,none⟩ u) B (.slice (some ⟨g,0,none⟩) n cap) (A.set i l) (fun j=>if j=i then u else rv j):=by
 have hn:n=A.length:=by
  rcases h.form with⟨e,_⟩|⟨_,_,e,_⟩
  ·cases e
  ·cases e;rfl
 subst hn;have ho:w6.ownsRow B 22 1 (.slice (some ⟨g,0,none⟩) A.length cap) A.length ((List.range A.length).map rv):=World.ownsRow.kept h.out hg (.inr fun e=>row_ne h.out (h.row i hi) e.symm rfl);have hr:∀ j,j<A.length->j≠i->Own w6 B (rv j) (Gj.row A j):=fun j hj hji=>(h.row j hj).grownBy hg (by
  cases e:(rv j).ownBlock with
  |none=>exact .inl rfl
  |some x=>exact .inr fun e2=>h.dis j i hj hi hji x e e2.symm)
 have hd':∀ x,u.ownBlock=some x->∀ j,j<A.length->j≠i->(rv j).ownBlock≠some x:=fun x hx j hj hji e=>by
  rcases hd with q|⟨y,q1,q2⟩
  ·rw[hx] at q;exact h.dis j i hj hi hji x e q.symm
  ·rw[hx] at q1;have:=aN (h.row j hj) e;have e3:x=y:=by simpa using q1
   omega
 have hg2:=aj w6 g i u;have hne:∀ x xs,Own w6 B x xs->x.ownBlock=none∨x.ownBlock≠some g:=fun x xs k=>by
  cases e:x.ownBlock with
  |none=>exact .inl rfl
  |some y=>exact .inr fun e2=>row_ne ho k (by rw[e];exact e2) rfl
 refine⟨?_,fun j hj=>?_,fun j m hj hm hjm x h1 h2=>?_⟩
 ·rw[zI];have:=(World.ownsRow.stored ho i u).1;have e:((List.range A.length).map rv).set i u=(List.range A.length).map (fun j=>if j=i then u else rv j):=by
   refine zM (by simp) fun j h1 h2=>?_;rw[xO];simp;by_cases e:i=j
   ·rw[zu e,zu e.symm]
   ·rw[zx e,zx (fun g=>e g.symm)]
  rw[e] at this;exact this
 ·have hj':j<A.length:=by simpa using hj
  rw[oh hi];by_cases e:j=i
  ·rw[zu e,zu e];exact hu.grownBy hg2 (hne _ _ hu)
  ·rw[zx e,zx e];exact(hr j hj' e).grownBy hg2 (hne _ _ (hr j hj' e))
 ·have hj':j<A.length:=by simpa using hj
  have hm':m<A.length:=by simpa using hm
  by_cases e:j=i
  ·rw[zu e] at h1;rw[zx (by omega)] at h2;exact hd' x h1 m hm' (by omega) h2
  ·rw[zx e] at h1;by_cases e2:m=i
   ·rw[zu e2] at h2;exact hd' x h2 j hj' e h1
   ·rw[zx e2] at h2;exact h.dis j m hj' hm' hjm x h1 h2
end
theorem Bk.mG {w:World} {b:Nat} {u0 u1 u2 u3 u4:Value} (h:Bk w b [u0,u1,u2,u3,u4]) (v0 v1 v2 v3 v4:Value):Bk (((((w.setCell ⟨b,0,none⟩ v0).setCell ⟨b,1,none⟩ v1).setCell ⟨b,2,none⟩ v2).setCell ⟨b,3,none⟩ v3).setCell ⟨b,4,none⟩ v4) b [v0,v1,v2,v3,v4]:=((((h.set 0 v0).set 1 v1).set 2 v2).set 3 v3).set 4 v4
theorem cZ (w:World) (b:Nat) (v0 v1 v2 v3 v4:Value):w.grownBy (((((w.setCell ⟨b,0,none⟩ v0).setCell ⟨b,1,none⟩ v1).setCell ⟨b,2,none⟩ v2).setCell ⟨b,3,none⟩ v3).setCell ⟨b,4,none⟩ v4) (some b):=aQ (aQ (aQ (aQ (aj w b 0 v0) 1 v1) 2 v2) 3 v3) 4 v4
theorem jE {w:World} {B b:Nat} {v:Value} {xs:List Int} (h:Own w B v xs) (hb:b<B) (v0 v1 v2 v3 v4:Value):Own (((((w.setCell ⟨b,0,none⟩ v0).setCell ⟨b,1,none⟩ v1).setCell ⟨b,2,none⟩ v2).setCell ⟨b,3,none⟩ v3).setCell ⟨b,4,none⟩ v4) B v xs:=aV (aV (aV (aV (aV h hb _) hb _) hb _) hb _) hb _
theorem Ro.mG {w:World} {B b:Nat} {v:Value} {A:List (List Int)} (h:Ro w B v A) (hb:b<B) (v0 v1 v2 v3 v4:Value):Ro (((((w.setCell ⟨b,0,none⟩ v0).setCell ⟨b,1,none⟩ v1).setCell ⟨b,2,none⟩ v2).setCell ⟨b,3,none⟩ v3).setCell ⟨b,4,none⟩ v4) B v A:=((((h.set hb _).set hb _).set hb _).set hb _).set hb _
def TU (G:GFd) (A:List (List Int)) (n:Nat) (w:World) (e:Ending) (w':World):Prop:=
 ∃ a c fa fc,e=.returned (.tuple #[.agg #[.int .i64 G.P,.int .i64 G.M,.slice a G.mod.length c,.int .i64 n,.slice fa (oQ (opG G) A n).length fc],.int .i64 0])/\Own w' w.heap.size (.slice a G.mod.length c) G.mod/\Ro w' w.heap.size (.slice fa (oQ (opG G) A n).length fc) (oQ (opG G) A n)/\ay w w'
set_option maxRecDepth 100000 in
theorem NQ (G:GFd) (t:aK G) (vm:Value) (n:Nat) (va:Option Addr) (vn vc:Nat) (A:List (List Int)) (w:World) (hvm:Sl w vm G.mod) (hv:Rd w (.slice va vn vc) A) (hw:WF G.q A n) (h1:1<=n) (h2:n<=64) (hl:A.length<=256) (hml:G.mod.length<=1000):
  Calls Tryz.prog 108 #[.agg #[.int .i64 G.P,.int .i64 G.M,vm],.agg #[.int .i64 n,.slice va vn vc]] w (TU G A n w):=by
 obtain⟨w1,hw1⟩:∃ w1,w1=((w.alloc (.cells #[.int .i64 G.P,.int .i64 G.M,vm] 24)).alloc (.cells #[.int .i64 n,.slice va vn vc] 71)).alloc (.cells #[.int .i64 0,.int .i64 0,.slice none 0 0,.int .i64 0,.slice none 0 0] 29):=⟨_,rfl⟩
 have hk1:ay w w1:=by rw[hw1];exact((ah _ _).tr (ah _ _)).tr (ah _ _)
 have bf:nJ w1 w.heap.size G.P G.M vm:=by rw[hw1];exact((aS w _ _ _ _).kept (ah _ _)).kept (ah _ _)
 have bm:BoxM w1 (w.heap.size+1) n (.slice va vn vc):=by
  rw[hw1];have:=(gX (w.alloc (.cells #[.int .i64 G.P,.int .i64 G.M,vm] 24)) n (.slice va vn vc) 71).kept (ah _ (.cells #[.int .i64 0,.int .i64 0,.slice none 0 0,.int .i64 0,.slice none 0 0] 29));simpa using this
 have br:Bk w1 (w.heap.size+1+1) [.int .i64 0,.int .i64 0,.slice none 0 0,.int .i64 0,.slice none 0 0]:=by rw[hw1];exact aG _ [.int .i64 0,.int .i64 0,.slice none 0 0,.int .i64 0,.slice none 0 0] _ _ (by simp)
 have fr:Fz w1 (w.heap.size+1+1):=by rw[hw1];exact bD _ _ _ _ (by simp)
 have hs1:w1.heap.size=w.heap.size+1+1+1:=by rw[hw1];simp
 have gG:=hvm.kept hk1;have hv1:=hv.kept hk1;have b0:=bf.h0;have b1:=bf.h1;have b2:=bf.h2;have m0:=bm.h0;have m1:=bm.h1;have HS1:=hid hs1;have HW:=hid hw;clear hs1 hvm hv hw;go_enter Tryz.func108,Tryz.ntmps108;go_upto_region 1 with(fail)
 rw[<-hw1];clear hw1;go_wp2_with(fail)
 (with_reducible refine(qY G t vm n (.slice va vn vc) A w1 gG hv1 HW.out h1 (by omega) hl).mono ?_)
 rintro e w2 ⟨v',pv,rfl,hr2,_,hk2⟩;obtain⟨ra,rc,re,_,_⟩:=hr2.get;obtain⟨rl,hrl⟩:∃ x,x=(oQ (opG G) A n).length:=⟨_,rfl⟩
 rw[<-hrl] at re;subst re;have bf2:=bf.kept hk2;have bm2:=bm.kept hk2;have br2:=br.kept hk2;have fr2:=fr.kept hk2;have Hu:=gG.kept hk2;have hk12:=hk1.tr hk2;have HR2:=hid hr2;have HRL:=hid hrl;have hlow:w.heap.size+1+1<w2.heap.size:=by have:=HS1.out;have:=hk2.size;omega
 have hlow1:w.heap.size+1<w2.heap.size:=by omega
 have hlow0:w.heap.size<w2.heap.size:=by omega
 have hn1:¬ w.heap.size+1=w2.heap.size:=by omega
 have hn0:¬ w.heap.size=w2.heap.size:=by omega
 clear b0 b1 b2 m0 m1 hr2 hrl bf bm br fr;have b0:=bf2.h0;have b1:=bf2.h1;have b2:=bf2.h2;have m0:=bm2.h0;go_wp2_with((go_at_call 56;refine(IQ n _ (by omega) (by omega)).mono ?_;rintro e w3 ⟨rfl,rfl⟩))
 (with_reducible refine(aac G.P G.M vm G.mod n ra rl rc _ (Hu.kept (ah w2 _)) hml).mono ?_)
 rintro e w4 ⟨a,c,rfl,ho4,hk4⟩;have oJ:=(ah w2 (.cells #[.int .i64 n,.slice ra rl rc] 71)).tr hk4;have br4:=br2.kept oJ;have fr4:=fr2.kept oJ;have hkf:=hk12.tr oJ;have z0:=br4.2 0 _ rfl;have z1:=br4.2 1 _ rfl;have z2:=br4.2 2 _ rfl;have z3:=br4.2 3 _ rfl;have z4:=br4.2 4 _ rfl;have f0:=fr4.2 0;have f1:=fr4.2 1;have f2:=fr4.2 2;have f3:=fr4.2 3;have f4:=fr4.2 4;have HO:=hid ho4;have HR:=hid (HR2.out.kept oJ);have HB:=hid br4;have HK:=hid hkf;have HS4:Hid (w2.heap.size+1=(w2.alloc (.cells #[.int .i64 n,.slice ra rl rc] 71)).heap.size):=hid (by simp);clear ho4 br4 fr4 oJ hk4 hkf;go_wp2_with(fail)
 have hs4:=HS4.out;have hrl:=HRL.out;subst hrl;refine bodyPost_ret (aF rfl rfl (bT (HB.out.mG _ _ _ _ _))) rfl ⟨a,c,ra,rc,rfl, ?_, ?_, ?_⟩
 ·exact(jE HO.out (by omega) _ _ _ _ _).mono (by omega)
 ·exact(HR.out.mG (by have:=HS1.out;omega) _ _ _ _ _).mono (by have:=HS1.out;omega)
 ·exact aH HK.out (cZ _ _ _ _ _ _ _) (by omega) HK.out.size
def co7 (i j:Nat):List Int:=(List.range j).map fun a=>p7 a i
def DU (i j:Nat):List (List Int):=(List.range 3).map fun a=>if a<i then co7 a 7 else if a=i then co7 a j else[]
theorem X0:∀ i,i<3->∀ j,j<7->Gj.row (DU i j) i=co7 i j:=by decide
theorem X4:∀ i,i<3->∀ j,j<7->(DU i j).set i (co7 i j++ [p7 j i])=DU i (j+1):=by decide
theorem TV:∀ i,i<3->DU i 7=DU (i+1) 0:=by decide
theorem Bo (i j:Nat):(DU i j).length=3:=by simp[DU]
theorem TW:List.replicate 3 ([]:List Int)=DU 0 0:=by decide
theorem KY (i j:Nat):(co7 i j).length=j:=by simp[co7]
theorem X5:∀ j,j<7->(Gj.row qH j).length=3/\∀ i,i<3->(Gj.row qH j).getD i 0=p7 j i:=by decide
theorem Mx.glt {w:World} {B g n cap:Nat} {A:List (List Int)} {rv:Nat->Value} (h:Mx w B (.slice (some ⟨g,0,none⟩) n cap) A rv):B<=g/\g<w.heap.size:=by
 rcases h.form with⟨e,_⟩|⟨_,_,e,h1,h2,_⟩
 ·cases e
 ·cases e;exact⟨h1,h2⟩
theorem TY {w:World} {B g n cap m:Nat} {rv:Nat->Value} (h:w.ownsRow B 22 1 (.slice (some ⟨g,0,none⟩) n cap) m ((List.range m).map rv)) {i:Nat} (hi:i<m):w.cell? ⟨g,i,none⟩=some (rv i)/\w.frozen? ⟨g,i,none⟩=false:=by
 have hn:n=m:=by
  obtain⟨_,h|⟨_,_,_,e,_⟩⟩:=h
  ·cases h.1
  ·cases e;rfl
 subst hn;have:=World.ownsRow.cellAt h i (by omega);exact⟨by simpa[hi] using this,World.ownsRow.frozenAt h i⟩
theorem wf7:WF (dw 2 1) (DU 3 0) 7:=by
 have h:dw 2 1=2:=by decide
 rw[h];exact⟨fun i hi=>(show∀ i,i<3->(Gj.row (DU 3 0) i).length=7 by decide) i (by simpa[DU] using hi),fun i j hi hj=>(show∀ i,i<3->∀ j,j<7->0<=en (DU 3 0) i j/\en (DU 3 0) i j<2 by decide) i (by simpa[DU] using hi) j hj⟩
structure adA (W:World) (X g c:Nat) (i j:Nat) (wr:World) (rv:Nat->Value):Prop where
 m:Mx wr X (.slice (some ⟨g,0,none⟩) 3 c) (DU i j) rv
 k:W.grownBy wr (some g)
 r:∀ a,a<3->∀ y,(rv a).ownBlock=some y->W.heap.size<=y
theorem adA.next {W wr w6:World} {g c i j:Nat} {rv:Nat->Value} {u:Value} (h:adA W g g c i j wr rv) (hi:i<3) (hj:j<7) (hgr:wr.grownBy w6 (rv i).ownBlock) (ho:Own w6 g u (co7 i j++ [p7 j i])) (hd:u.ownBlock=(rv i).ownBlock∨ ∃ y,u.ownBlock=some y/\wr.heap.size<=y):
  adA W g g c i (j+1) (w6.setCell ⟨g,i,none⟩ u) (fun a=>if a=i then u else rv a):=by
 have hm:=h.m.app (by rw[Bo];exact hi) hgr ho hd;rw[X4 i hi j hj] at hm;refine⟨hm,aO (h.k.andThen hgr fun y e=>.inl (h.r i hi y e)) (aj _ _ _ _),fun a ha y e=>?_⟩;by_cases q:a=i
 ·rw[zu q] at e;rcases hd with r|⟨x,r1,r2⟩
  ·exact h.r i hi y (r▸e)
  ·rw[r1] at e;have:x=y:=by simpa using e
   have:=h.k.size;omega
 ·rw[zx q] at e;exact h.r a ha y e
def afk (G:GFd) (A:List (List Int)) (w:World) (e:Ending) (w':World):Prop:=TU G A 7 w e w'
set_option maxRecDepth 100000 in
theorem X6 (G:GFd) (t:aK G) (hP:G.P=2) (hM:G.M=1) (hmod:G.mod=[]) (A:List (List Int)) (hA:A=DU 3 0) (vm:Value) (w:World) (hvm:Sl w vm []):
  Calls Tryz.prog 211 #[.agg #[.int .i64 2,.int .i64 1,vm],.int .i64 3] w (afk G A w):=by
 have HAA:=hid hA;have HLA:Hid (A.length<=256):=hid (by rw[hA];decide);clear hA;obtain⟨W1,hW1⟩:∃ x,x=(w.alloc (.cells #[.int .i64 2,.int .i64 1,vm] 24)).alloc (.cells #[.int .i64 0,.int .i64 0,.slice none 0 0,.int .i64 0,.slice none 0 0] 29):=⟨_,rfl⟩
 have hk1:ay w W1:=by rw[hW1];exact(ah _ _).tr (ah _ _)
 have bf:nJ W1 w.heap.size 2 1 vm:=by rw[hW1];exact(aS w _ _ _ _).kept (ah _ _)
 have br:Bk W1 (w.heap.size+1) [.int .i64 0,.int .i64 0,.slice none 0 0,.int .i64 0,.slice none 0 0]:=by rw[hW1];exact aG _ [.int .i64 0,.int .i64 0,.slice none 0 0,.int .i64 0,.slice none 0 0] _ _ (by simp)
 have fr:Fz W1 (w.heap.size+1):=by rw[hW1];exact bD _ _ _ _ (by simp)
 have hs1:W1.heap.size=w.heap.size+1+1:=by rw[hW1];simp
 have hv1:=hvm.kept hk1;have hF:fD 2 1 []:=by have:=t.field;rw[hP,hM,hmod] at this;exact this
 have b0:=bf.h0;have b1:=bf.h1;have b2:=bf.h2;have HS1:=hid hs1;have HF:=hid hF;have HG:=hid (show G.P=2/\G.M=1/\G.mod=[] from⟨hP,hM,hmod⟩);have HV:=hid hv1;clear hs1 hvm hF hP hM hmod hv1;go_enter Tryz.func211,Tryz.ntmps211;go_upto_region 1 with(fail)
 rw[<-hW1];clear hW1;go_wp2_with(fail)
 refine(ab2 vm W1 HV.out HF.out).mono ?_;rintro e w2 ⟨vp,rp,rfl,hmp,hk2⟩;obtain⟨gp,cp,rfl,hgp,anR,hcp,hcm⟩:=hmp.get (by simp[qH]);rw[show qH.length=7 from rfl] at hmp hcp ⊢;have HMP:=hid hmp;have HK2:=hid hk2;clear hmp hk2;go_wp2_with((refine jl rfl _ _ rfl 3 _ _ rfl rfl rfl rfl (by omega) ?_;intro w3 hm3 hk3))
 obtain⟨g,hg⟩:∃ x,x=w2.heap.size:=⟨_,rfl⟩
 obtain⟨bm,hbm⟩:∃ x,x=w3.heap.size:=⟨_,rfl⟩
 obtain⟨W4,hW4⟩:∃ x,x=w3.alloc (.cells #[.int .i64 7,.slice (some ⟨w2.heap.size,0,none⟩) 3 3] 71):=⟨_,rfl⟩
 have ab6:ay w3 W4:=by rw[hW4];exact ah _ _
 have bm4:Bk W4 bm [.int .i64 7,.slice (some ⟨w2.heap.size,0,none⟩) 3 3]:=by rw[hW4];exact aG w3 [.int .i64 7,.slice (some ⟨w2.heap.size,0,none⟩) 3 3] _ _ hbm
 have fm4:Fz W4 bm:=by rw[hW4,hbm];exact bD _ _ _ _ rfl
 rw[<-hW4,<-hbm,<-hg];rw[<-hg] at bm4;have hm4:=hm3.kept ab6;rw[<-hg,TW] at hm4;have oJ:=hk3.tr ab6;have hgl:=hm4.glt.2;have hgb:g<bm:=by
  have h1:=hm3.glt.2;omega
 have ajH:=HMP.out.kept oJ;have hpn:¬ Has (.slice (some ⟨gp,0,none⟩) 7 cp) rp qH.length g:=fun h=>by
  have:=(HMP.out.has_lt (by simpa[Has] using h)).2;omega
 have hS0:adA W4 g g 3 0 0 W4 (fun _=>.slice none 0 0):=⟨hm4,World.grownBy.refl _ _,fun a _ y e=>by cases e⟩
 have HBM:=hid bm4;have HFM:=hid fm4;have ajI:=hid ajH;have HPN:=hid hpn;have HKB:=hid (HK2.out.tr oJ);have HBF:=hid bf;have HGE:=hid hg;have HBR:=hid br;have HFR:=hid fr;have hb4:bm<W4.heap.size:=bm4.1;clear bm4 fm4 ajH hpn ab6 oJ hm3 hm4 bf br fr hW4 hbm b0 b1 b2 hk3 hg
 go_loopg [30] 4 (fun gk vi wr=>∃ i rv,i<=3/\gk=4-i/\vi=.int .i64 i/\adA W4 g g 3 i 0 wr rv)
 case atStart=>exact⟨0,_,by omega,rfl,rfl,hS0⟩
 case round=>
  obtain⟨i,rv,hi3,rfl,rfl,hS⟩:=hrel;clear hS0;obtain⟨wo,hwo⟩:∃ x,x=wr:=⟨_,rfl⟩
  subst hwo;by_cases hi:i<3
  ·have hi':(i:Int)<3:=by omega
   have hi0:(0:Int)<=(i:Int):=by omega
   go_wp2_with(fail)
   go_loopg [35] 8 (fun gk vj wr=>∃ j rv,j<=7/\gk=8-j/\vj=.int .i64 j/\adA W4 g g 3 i j wr rv)
   case atStart=>exact⟨0,rv,by omega,rfl,rfl,hS⟩
   case round=>
    clear hS;obtain⟨j,rv,hj7,rfl,rfl,hS⟩:=hrel;by_cases hj:j<7
    ·have hj':(j:Int)<7:=by omega
     have hj0:(0:Int)<=(j:Int):=by omega
     have hmp:=ajI.out.grown hS.k HPN.out;have bm5:=HBM.out.gb hS.k (Nat.ne_of_gt hgb);obtain⟨l3,hpi⟩:=X5 j hj;obtain⟨bp,cq,hrp,hbp,alv,hcq,alx⟩:=ajI.out.og (i:=j) (by simpa[qH] using hj) (fun e=>by rw[e] at l3;cases l3);rw[l3] at hrp;have q1:=hmp.cell (i:=j) (by simpa[qH] using hj);rw[hrp] at q1;have hrow:=hmp.row j (by simpa[qH] using hj);rw[hrp] at hrow;have q2:=hrow.cell (i:=i) (by rw[l3];exact hi);rw[hpi i hi] at q2;obtain⟨z,hz⟩:∃ z,z=p7 j i:=⟨_,rfl⟩
     rw[<-hz] at q2;have q3:=bm5.2 1 _ rfl;have q4:=hS.m.cell (i:=i) (by rw[Bo];exact hi);have q5:=hS.m.frozen i;have hown:=hS.m.row i (by rw[Bo];exact hi);rw[X0 i hi j hj] at hown;obtain⟨ri,hri⟩:∃ x,x=rv i:=⟨_,rfl⟩
     rw[<-hri] at q4 hown;obtain⟨ra,rc,hre⟩:=dh hown;rw[KY] at hre;subst hre;have anS:=hrow.lt.2;have anT:=bm5.1;have hgr:=hS.m.glt.2;have n1:¬ bp=wr.heap.size:=by omega
     have n2:¬ bm=wr.heap.size:=by omega
     have n3:¬ g=wr.heap.size:=by omega
     have HS:=hid hS;have HRI:=hid hri;have HZ:=hid hz;have HNB:Hid ((Value.slice ra j rc).ownBlock≠some bm):=hid (fun e=>by
      have:=HS.out.r i hi bm (by rw[<-HRI.out];exact e);omega)
     have HOWN:=hid hown;have aly:=hid hrow;have adB:=hid bm5;clear hmp hrp l3 hpi hrow hown hri hz bm5 hS hbp alv hcq alx;go_wp2_with(fail)
     go_region_law((refine oI rfl (.tmp 46) (.tmp 51) rfl g _ (co7 i j) rfl (by exact(HOWN.out.kept (ah _ _)).drew) ⟨wr.heap.size,0,none⟩ z rfl (by exact aU rfl) (by rw[KY];omega) (by simp;omega) ?_;intro v6 w6 o6 hg6 hl6;obtain⟨a6,c6,e6⟩:=dh o6;rw[zX,KY] at e6;subst e6;have Qh:=Dj (Gm wr _ _ _ (by exact Or.inr rfl)) hg6;have ho6:=TY (World.ownsRow.kept HS.out.m.out Qh (.inr fun e=>row_ne HS.out.m.out HOWN.out e.symm rfl)) (i:=i) (by rw[Bo];exact hi);obtain⟨y1,y2⟩:=ho6;have y3:=(adB.out.gbo Qh HNB.out).2 1 _ rfl;have adz:=hl6.imp id (fun e=>(⟨_,e,by simp⟩:∃ y,Value.ownBlock (.slice a6 (j+ [z].length) c6)=some y/\wr.heap.size<=y))))
     all_goals
      have hnx:=hid (HS.out.next hi hj (by rw[<-HRI.out];exact Qh) (by rw[<-HZ.out];exact o6) (by rw[<-HRI.out];exact adz));clear hg6 hl6 y1 y2 y3 o6 Qh adz;go_wp2_with(fail)
      go_roundg (8- (j+1))
      case measure=>omega
      case rel=>exact⟨j+1,_,by omega,rfl,by go_num,hnx.out⟩
    ·have hj8:j=7:=by omega
     subst hj8;have HS:=hid hS;clear hS;go_wp2_with(fail)
     go_roundg (4- (i+1))
     case measure=>omega
     case rel=>exact⟨i+1,rv,by omega,rfl,by go_num,⟨by rw[<-TV i hi];exact HS.out.m,HS.out.k,HS.out.r⟩⟩
  ·have hi8:i=3:=by omega
   subst hi8;have hbm:=HBM.out.gb hS.k (Nat.ne_of_gt hgb);have hlw:=HS1.out;have hgw:w.heap.size+1<g:=by have:=HK2.out.size;have:=HGE.out;omega
   have c0:=(aZ (o:=0) hS.k (HKB.out.lt HBF.out.lt) (by omega)).trans ((HKB.out.cell' HBF.out.lt).trans HBF.out.h0);have c1:=(aZ (o:=1) hS.k (HKB.out.lt HBF.out.lt) (by omega)).trans ((HKB.out.cell' HBF.out.lt).trans HBF.out.h1);have c2:=(aZ (o:=2) hS.k (HKB.out.lt HBF.out.lt) (by omega)).trans ((HKB.out.cell' HBF.out.lt).trans HBF.out.h2);have d0:=hbm.2 0 _ rfl;have d1:=hbm.2 1 _ rfl;have hko:ay W1 wo:=aH HKB.out hS.k (by have:=HK2.out.size;have:=HGE.out;omega) HKB.out.size;have hmA:Mx wo g (.slice (some ⟨g,0,none⟩) 3 3) A rv:=by rw[HAA.out];exact hS.m
   have hnew:=NQ G t vm 7 (some ⟨g,0,none⟩) 3 3 A wo (by rw[HG.out.2.2];exact HV.out.kept hko) hmA.rd (by rw[t.hq,HG.out.1,HG.out.2.1,HAA.out];exact wf7) (by omega) (by omega) HLA.out (by rw[HG.out.2.2];decide);rw[HG.out.1,HG.out.2.1] at hnew;have HN:=hid hnew;have hb5:=HBR.out.kept hko;have hf5:=HFR.out.kept hko;have HKO:=hid (hk1.tr hko);have anU:=hS.m.glt.2;clear hbm hnew hko hS hmA;go_wp2_with(fail)
   refine HN.out.mono ?_;rintro e w9 ⟨a,c,fa,fc,rfl,ho9,hr9,hk9⟩;have hb9:=hb5.kept hk9;have hf9:=hf5.kept hk9;have HK9:=hid (HKO.out.tr hk9);have HO:=hid ho9;have HR:=hid hr9;have z0:=hb9.2 0 _ rfl;have f0:=hf9.2 0;have z1:=hb9.2 1 _ rfl;have f1:=hf9.2 1;have z2:=hb9.2 2 _ rfl;have f2:=hf9.2 2;have z3:=hb9.2 3 _ rfl;have f3:=hf9.2 3;have z4:=hb9.2 4 _ rfl;have f4:=hf9.2 4;have HB:=hid hb9;obtain⟨lf,hlf⟩:∃ x,x=(oQ (opG G) A 7).length:=⟨_,rfl⟩
   have HLF:=hid hlf;rw[<-hlf];clear hb5 hf5 hb9 hf9 ho9 hr9 hk9 c0 c1 c2 d0 d1 hlf;go_wp2_with(fail)
   have hlf:=HLF.out;subst hlf;refine bodyPost_ret (aF rfl rfl (bT (HB.out.mG _ _ _ _ _))) rfl ⟨a,c,fa,fc,rfl, ?_, ?_, ?_⟩
   ·exact(jE HO.out (by omega) _ _ _ _ _).mono (by omega)
   ·exact(HR.out.mG (by omega) _ _ _ _ _).mono (by omega)
   ·exact aH HK9.out (cZ _ _ _ _ _ _ _) (by omega) HK9.out.size
end
end Go.Proofs.YtoilbeadokallaaGreatDoor
