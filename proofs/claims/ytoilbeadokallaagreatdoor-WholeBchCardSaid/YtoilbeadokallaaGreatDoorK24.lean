/- Lemmas on the way to the row. Conditions: each lemma's own, stated with it. -/
import Derived.Test.YtoilbeadokallaaGreatDoorK20
import Derived.Test.YtoilbeadokallaaGreatDoorK23
import Derived.Laws.EntriesVeiled
set_option maxHeartbeats 4000000
namespace Go.Proofs.YtoilbeadokallaaGreatDoor
section
open Go.RowKit Cw Cw.Gj
set_option maxRecDepth 100000 in
theorem Yc (G:GFd) (t:aK G) (hP:G.P=2) (hM:G.M=1) (hmod:G.mod=[]) (A L:List (List Int)) (P:List Nat) (hA:A=DU 3 0) (hL:L=oQ (opG G) A 7) (hPv:P=pvL (opG G) A 7) (vm:Value) (w:World) (hvm:Sl w vm []):
  Calls Tryz.prog 209 #[.agg #[.int .i64 2,.int .i64 1,vm],.int .i64 3] w (TK G L P 7 w):=by
 obtain⟨W1,hW1⟩:∃ x,x=(w.alloc (.cells #[.int .i64 2,.int .i64 1,vm] 24)).alloc (.cells #[.int .i64 0,.int .i64 0,.slice none 0 0,.int .i64 0,.slice none 0 0] 29):=⟨_,rfl⟩
 have hk1:ay w W1:=by rw[hW1];exact(ah _ _).tr (ah _ _)
 have bf:nJ W1 w.heap.size 2 1 vm:=by rw[hW1];exact(aS w _ _ _ _).kept (ah _ _)
 have br:Bk W1 (w.heap.size+1) [.int .i64 0,.int .i64 0,.slice none 0 0,.int .i64 0,.slice none 0 0]:=by rw[hW1];exact aG _ [.int .i64 0,.int .i64 0,.slice none 0 0,.int .i64 0,.slice none 0 0] _ _ (by simp)
 have fr:Fz W1 (w.heap.size+1):=by rw[hW1];exact bD _ _ _ _ (by simp)
 have hs1:W1.heap.size=w.heap.size+1+1:=by rw[hW1];simp
 have hv1:=hvm.kept hk1;have b0:=bf.h0;have b1:=bf.h1;have b2:=bf.h2;have HS1:=hid hs1;have HV:=hid hv1;have hrf:=Nr t (A:=A) (cols:=7) (by rw[t.hq,hP,hM,hA];exact wf7);rw[<-hL,<-hPv] at hrf;have HRF:Hid (Rf G.q L 7 P):=hid hrf.1;have HML:Hid (G.mod.length<=1000):=hid (by rw[hmod];decide);have HA:=hid hA;have HL:=hid hL;have HG:=hid (show G.P=2/\G.M=1/\G.mod=[] from⟨hP,hM,hmod⟩);clear hs1 hvm hv1 hrf hA hL hPv hP hM hmod;go_enter Tryz.func209,Tryz.ntmps209;go_upto_region 1 with(fail)
 rw[<-hW1];clear hW1;go_wp2_with(fail)
 refine(X6 G t HG.out.1 HG.out.2.1 HG.out.2.2 A HA.out vm W1 HV.out).mono ?_;rintro e w2 ⟨a,c,fa,fc,rfl,ho2,hr2,hk2⟩;rw[<-HL.out] at hr2 ⊢;have HO2:=hid ho2;have HR2:=hid hr2;have HK2:=hid hk2;have HB2:=hid (br.kept hk2);have HF2:=hid (fr.kept hk2);obtain⟨lm,hlm⟩:∃ x,x=G.mod.length:=⟨_,rfl⟩
 obtain⟨lf,hlf⟩:∃ x,x=L.length:=⟨_,rfl⟩
 have HLM:=hid hlm;have HLF:=hid hlf;rw[<-hlm,<-hlf];clear ho2 hr2 hk2 br fr b0 b1 b2 hlm hlf;go_wp2_with(fail)
 have hd:=XR G t a lm c 7 fa lf fc L P (w2.alloc (.cells #[.int .i64 G.P,.int .i64 G.M,.slice a lm c,.int .i64 7,.slice fa lf fc] 29)) (by rw[HLM.out];exact HO2.out.sl.kept (ah _ _)) (by rw[HLF.out];exact HR2.out.rd.kept (ah _ _)) HRF.out (by omega) (by omega) HML.out;refine hd.mono ?_;rintro e w4 ⟨a',c',fa',fc',rfl,ho4,hr4,hk4⟩;have oJ:=(ah w2 (.cells #[.int .i64 G.P,.int .i64 G.M,.slice a lm c,.int .i64 7,.slice fa lf fc] 29)).tr hk4;have hb9:=HB2.out.kept oJ;have hf9:=HF2.out.kept oJ;have HB:=hid hb9;have HO:=hid ho4;have HR:=hid hr4;have HK:=hid ((hk1.tr HK2.out).tr oJ);have z0:=hb9.2 0 _ rfl;have z1:=hb9.2 1 _ rfl;have z2:=hb9.2 2 _ rfl;have z3:=hb9.2 3 _ rfl;have z4:=hb9.2 4 _ rfl;have f0:=hf9.2 0;have f1:=hf9.2 1;have f2:=hf9.2 2;have f3:=hf9.2 3;have f4:=hf9.2 4;obtain⟨ld,hld⟩:∃ x,x=(OO (opG G) L P 7).length:=⟨_,rfl⟩
 obtain⟨ln,hln⟩:∃ x,x=G.mod.length:=⟨_,rfl⟩
 have HLD:=hid hld;have HLN:=hid hln;rw[<-hld,<-hln];have HSW:Hid (W1.heap.size<=w2.heap.size):=hid HK2.out.size;clear hd ho4 hr4 hk4 oJ hb9 hf9 hld hln;go_wp2_with(fail)
 have hld:=HLD.out;have hln:=HLN.out;have hsw:=HSW.out;have hs1:=HS1.out;subst hld;subst hln;have hal:(w2.alloc (.cells #[.int .i64 G.P,.int .i64 G.M,.slice a lm c,.int .i64 7,.slice fa lf fc] 29)).heap.size=w2.heap.size+1:=by simp
 refine bodyPost_ret (aF rfl rfl (bT (HB.out.mG _ _ _ _ _))) rfl ⟨a',c',fa',fc',rfl, ?_, ?_, ?_⟩
 ·exact(jE HO.out (by omega) _ _ _ _ _).mono (by omega)
 ·exact(HR.out.mG (by omega) _ _ _ _ _).mono (by omega)
 ·exact aH HK.out (cZ _ _ _ _ _ _ _) (by omega) HK.out.size
end
section
set_option maxRecDepth 100000
open Go.RowKit Cw Cw.Gj
def afq (D:List (List Int)) (w:World) (e:Ending) (w':World):Prop:=
 ∃ a c fa fc,e=.returned (.tuple #[.agg #[.int .i64 2,.int .i64 1,.slice a 0 c,.int .i64 7,.slice fa D.length fc],.int .i64 0])/\Own w' w.heap.size (.slice a 0 c) []/\Ro w' w.heap.size (.slice fa D.length fc) D/\ay w w'
def IsD (D:List (List Int)):Prop:=∃ G,aK G/\G.P=2/\G.M=1/\G.mod=[]/\D=OO (opG G) (oQ (opG G) (DU 3 0) 7) (pvL (opG G) (DU 3 0) 7) 7
theorem Uh (D:List (List Int)) (hD:IsD D) (vm:Value) (w:World) (hvm:Sl w vm []):Calls Tryz.prog 209 #[.agg #[.int .i64 2,.int .i64 1,vm],.int .i64 3] w (afq D w):=by
 obtain⟨G,t,hP,hM,hmod,hD⟩:=hD;obtain⟨A,hA⟩:∃ A,A=DU 3 0:=⟨_,rfl⟩
 rw[<-hA] at hD;obtain⟨L,hL⟩:∃ L,L=oQ (opG G) A 7:=⟨_,rfl⟩
 obtain⟨P,hPv⟩:∃ P,P=pvL (opG G) A 7:=⟨_,rfl⟩
 rw[<-hL,<-hPv] at hD;refine(Yc G t hP hM hmod A L P hA hL hPv vm w hvm).mono ?_;rintro e w' ⟨a,c,fa,fc,rfl,ho,hr,hk⟩;rw[<-hD] at hr ⊢;rw[hmod] at ho ⊢;rw[hP,hM];exact⟨a,c,fa,fc,rfl,ho,hr,hk⟩
theorem Px (D:List (List Int)) (hD:IsD D) (v q:Nat) (fa0:Option Addr) (fc0:Nat) (w:World) (hb:Bk w v (Qk 2 1 (.slice fa0 0 fc0)++gU 3)) (hs:Sl w (.slice fa0 0 fc0) []) (hq:w.cell? ⟨q,0,none⟩=some (.func (.func 209) #[] #[])):
  Calls Tryz.prog 299 #[.slice (some ⟨v,0,none⟩) 2 2,.pointer (some ⟨q,0,none⟩)] w (afq D w):=by
 obtain⟨W1,hW1⟩:∃ x,x=w.alloc (.cells #[.int .i64 0,.int .i64 0,.slice none 0 0,.int .i64 0,.slice none 0 0] 29):=⟨_,rfl⟩
 have hk1:ay w W1:=by rw[hW1];exact ah _ _
 have br:Bk W1 w.heap.size [.int .i64 0,.int .i64 0,.slice none 0 0,.int .i64 0,.slice none 0 0]:=by rw[hW1];exact aG w [.int .i64 0,.int .i64 0,.slice none 0 0,.int .i64 0,.slice none 0 0] _ _ rfl
 have fr:Fz W1 w.heap.size:=by rw[hW1];exact bD _ _ _ _ rfl
 have hs1:w.heap.size<W1.heap.size:=by rw[hW1];simp
 have cq:=(hk1.cell' (cell_lt hq)).trans hq;have hb1:=hb.kept hk1;have c0:=hb1.2 0 _ rfl;have c1:=hb1.2 1 _ rfl;have c2:=hb1.2 2 _ rfl;have c18:=hb1.2 18 _ rfl;have HS:=hid (hs.kept hk1);have HBR:=hid br;have HFR:=hid fr;have HD:=hid hD;have HK1:=hid hk1;obtain⟨ld,hld⟩:∃ x,x=D.length:=⟨_,rfl⟩
 have HLD:=hid hld;have HHC:Hid (∀ W,ay W1 W->Calls Tryz.prog 209 #[.agg #[.int .i64 2,.int .i64 1,.slice fa0 0 fc0],.int .i64 3] W (afq D W)):=hid (fun W k=>Uh D HD.out _ W (HS.out.kept k));clear hq hb hs hb1 br fr hD hk1;go_enter Tryz.func299,Tryz.ntmps299;go_upto_region 1 with(fail)
 rw[<-hW1];clear hW1
 go_region_law((go_simp;go_at_call 209;(with_reducible refine(HHC.out _ (by exact aC _)).mono ?_);rintro e w2 ⟨a,c,fa,fc,rfl,ho2,hr2,hk2⟩;rw[<-HLD.out];have hk12:ay W1 w2:=(by exact(aC _).tr hk2);have hb2:=HBR.out.kept hk12;have hf2:=HFR.out.kept hk12;have HO:Hid (Own w2 W1.heap.size (.slice a 0 c) []):=hid (by exact ho2);have HR:Hid (Ro w2 W1.heap.size (.slice fa D.length fc) D):=hid (by exact hr2);have HB:=hid hb2;have z0:=hb2.2 0 _ rfl;have z1:=hb2.2 1 _ rfl;have z2:=hb2.2 2 _ rfl;have z3:=hb2.2 3 _ rfl;have z4:=hb2.2 4 _ rfl;have f0:=hf2.2 0;have f1:=hf2.2 1;have f2:=hf2.2 2;have f3:=hf2.2 3;have f4:=hf2.2 4))
 all_goals
  have HK:=hid (HK1.out.tr hk12);clear ho2 hr2 hb2 hf2 hk2;go_wp2_with(fail)
  have hld:=HLD.out;subst hld;refine bodyPost_ret (aF rfl rfl (bT (HB.out.mG _ _ _ _ _))) rfl ⟨a,c,fa,fc,rfl, ?_, ?_, ?_⟩
  ·exact(jE HO.out hs1 _ _ _ _ _).mono (by omega)
  ·exact(HR.out.mG hs1 _ _ _ _ _).mono (by omega)
  ·exact aH HK.out (cZ _ _ _ _ _ _ _) (by omega) HK.out.size
def aam (D:List (List Int)) (w:World) (e:Ending) (w':World):Prop:=
 ∃ a c fa fc,e=.returned (.tuple #[.agg (agS 2 1 (.slice a 0 c) 7 (.slice fa D.length fc)).toArray,.int .i64 0])/\Own w' w.heap.size (.slice a 0 c) []/\Ro w' w.heap.size (.slice fa D.length fc) D/\ay w w'
theorem Dn {w:World} {B b:Nat} {v:Value} {xs:List Int} (h:Own w B v xs) (hb:b<B) (v0 v1 v2 v3 v4 v5 v6 v7 v8 v9:Value):Own ((((((((((w.setCell ⟨b,0,none⟩ v0).setCell ⟨b,1,none⟩ v1).setCell ⟨b,2,none⟩ v2).setCell ⟨b,3,none⟩ v3).setCell ⟨b,4,none⟩ v4).setCell ⟨b,5,none⟩ v5).setCell ⟨b,6,none⟩ v6).setCell ⟨b,7,none⟩ v7).setCell ⟨b,8,none⟩ v8).setCell ⟨b,9,none⟩ v9) B v xs:=aV (aV (aV (aV (aV (jE h hb _ _ _ _ _) hb _) hb _) hb _) hb _) hb _
theorem Ro.Dk {w:World} {B b:Nat} {v:Value} {A:List (List Int)} (h:Ro w B v A) (hb:b<B) (v0 v1 v2 v3 v4 v5 v6 v7 v8 v9:Value):Ro ((((((((((w.setCell ⟨b,0,none⟩ v0).setCell ⟨b,1,none⟩ v1).setCell ⟨b,2,none⟩ v2).setCell ⟨b,3,none⟩ v3).setCell ⟨b,4,none⟩ v4).setCell ⟨b,5,none⟩ v5).setCell ⟨b,6,none⟩ v6).setCell ⟨b,7,none⟩ v7).setCell ⟨b,8,none⟩ v8).setCell ⟨b,9,none⟩ v9) B v A:=(((((h.mG hb _ _ _ _ _).set hb _).set hb _).set hb _).set hb _).set hb _
theorem Jf (D:List (List Int)) (hD:IsD D) (v p q:Nat) (fa0:Option Addr) (fc0:Nat) (w:World) (hb:Bk w v (Qk 2 1 (.slice fa0 0 fc0)++gU 3)) (hs:Sl w (.slice fa0 0 fc0) []) (hp:w.cell? ⟨p,0,none⟩=some (.func (.func 299) #[] #[.pointer (some ⟨q,0,none⟩)])) (hq:w.cell? ⟨q,0,none⟩=some (.func (.func 209) #[] #[])):
  Calls Tryz.prog 301 #[.slice (some ⟨v,0,none⟩) 2 2,.pointer (some ⟨p,0,none⟩)] w (aam D w):=by
 obtain⟨W1,hW1⟩:∃ x,x=w.alloc (.cells #[.int .i64 0,.int .i64 0,.slice none 0 0,.int .i64 0,.int .i64 0,.slice none 0 0,.int .i64 0,.slice none 0 0,.int .i64 0,.slice none 0 0] 91):=⟨_,rfl⟩
 have hk1:ay w W1:=by rw[hW1];exact ah _ _
 have br:Bk W1 w.heap.size (gU 0):=by rw[hW1];exact aG w (gU 0) _ _ rfl
 have fr:Fz W1 w.heap.size:=by rw[hW1];exact bD _ _ _ _ rfl
 have hs1:w.heap.size<W1.heap.size:=by rw[hW1];simp
 have cp:=(hk1.cell' (cell_lt hp)).trans hp;have TS:=hid (Px D hD v q fa0 fc0 W1 (hb.kept hk1) (hs.kept hk1) ((hk1.cell' (cell_lt hq)).trans hq));obtain⟨ld,hld⟩:∃ x,x=D.length:=⟨_,rfl⟩
 have HLD:=hid hld;clear hp hb hq hs hD hld;go_enter Tryz.func301,Tryz.ntmps301;go_upto_region 1 with(fail)
 rw[<-hW1];clear hW1;go_wp2_with(fail)
 refine TS.out.mono ?_;rintro e w2 ⟨a,c,fa,fc,rfl,ho2,hr2,hk2⟩;rw[<-HLD.out];have hs2:w.heap.size<w2.heap.size:=zZ hs1 hk2.size;have hn2:¬ w.heap.size=w2.heap.size:=by omega
 have hb2:=br.kept hk2;have hf2:=fr.kept hk2;unfold gU at hb2;have z0:=hb2.2 0 _ rfl;have f0:=hf2.2 0;have z1:=hb2.2 1 _ rfl;have f1:=hf2.2 1;have z2:=hb2.2 2 _ rfl;have f2:=hf2.2 2;have z3:=hb2.2 3 _ rfl;have f3:=hf2.2 3;have z4:=hb2.2 4 _ rfl;have f4:=hf2.2 4;have z5:=hb2.2 5 _ rfl;have f5:=hf2.2 5;have z6:=hb2.2 6 _ rfl;have f6:=hf2.2 6;have z7:=hb2.2 7 _ rfl;have f7:=hf2.2 7;have z8:=hb2.2 8 _ rfl;have f8:=hf2.2 8;have z9:=hb2.2 9 _ rfl;have f9:=hf2.2 9;have HB:=hid hb2;have HO:=hid ho2;have HR:=hid hr2;have HK:=hid (hk1.tr hk2);clear hb2 hf2 ho2 hr2 hk2 br fr;go_wp2_with(fail)
 have hld:=HLD.out;subst hld;refine bodyPost_ret (aF rfl rfl (gZ ((HB.out.Dk _ _ _ _ _ _ _ _ _ _).kept (ah _ _)))) rfl ⟨a,c,fa,fc,rfl, ?_, ?_, ?_⟩
 ·exact((Dn HO.out hs1 _ _ _ _ _ _ _ _ _ _).mono (by omega)).kept (ah _ _)
 ·exact((HR.out.Dk hs1 _ _ _ _ _ _ _ _ _ _).mono (by omega)).kept (ah _ _)
 ·exact ay.tr (aH HK.out (mJ _ _ _ _ _ _ _ _ _ _ _ _) (zy _) HK.out.size) (ah _ _)
end
end Go.Proofs.YtoilbeadokallaaGreatDoor
