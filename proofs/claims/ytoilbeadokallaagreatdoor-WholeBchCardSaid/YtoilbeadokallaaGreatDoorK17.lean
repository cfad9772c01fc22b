/- Lemmas on the way to the row. Conditions: each lemma's own, stated with it. -/
import Derived.Test.YtoilbeadokallaaGreatDoorK07
import Derived.Test.YtoilbeadokallaaGreatDoorK08
import Derived.Test.YtoilbeadokallaaGreatDoorK13
import Derived.Test.YtoilbeadokallaaGreatDoorK16
import Derived.Deep.LoopGhost
import Derived.Maps.RangeRun
import Derived.Maps.OwnOps
import Derived.Laws.EntriesVeiled
set_option maxHeartbeats 8000000
namespace Go.Proofs.YtoilbeadokallaaGreatDoor
section
set_option maxRecDepth 100000
open Go.RowKit Cw Cw.Gj
theorem TI (v v':Value) (l:List Int) (w:World) (hv:Sl w v l) (hv':Sl w v' l):
  Calls Tryz.prog 165 #[v,v'] w fun e w'=>e=.returned (.bool true)/\∃ m,w'=w.drewN m:=by
 obtain⟨a,cap,rfl,hcap,⟨hcm,_⟩,hc⟩:=hv;obtain⟨a',cap',rfl,hcap',⟨hcm',_⟩,hc'⟩:=hv';unfold maxLen at hcm hcm';have tL:((l.length:Int) != (l.length:Int))=false:=by simp
 go_enter Tryz.func165,Tryz.ntmps165;go_wp2_with(fail)
 go_loopw [13,5] (fun vi _ wr=>∃ k:Nat,k<=l.length/\vi=.int .i64 k/\∃ n,wr=w.drewN n) (fun vi _ _=>l.length- (intOf vi).toNat)
 case atStart=>exact⟨0,by omega,rfl,0,rfl⟩
 case round=>
  obtain⟨k,hkl,rfl,n,rfl⟩:=hrel;by_cases hlt:k<l.length
  ·obtain⟨b,off,rfl,hb,hcell⟩:=hc (by intro e;rw[e] at hlt;simp at hlt);obtain⟨b',off',rfl,hb',hcell'⟩:=hc' (by intro e;rw[e] at hlt;simp at hlt);have e0:=hcell k hlt;have e1:=hcell' k hlt;obtain⟨z,hz⟩:∃ z,z=l.getD k 0:=⟨_,rfl⟩
   rw[<-hz] at e0 e1;have tz:(z != z)=false:=by simp
   clear hc hc' hz hcell hcell';go_wp2_with(fail)
   go_quiet(fail);go_wp2_with(fail)
   go_roundw;case rel=>exact⟨k+1,by omega,by go_num,by exact⟨_,rfl⟩⟩
   case measure=>simp[intOf];omega
  ·go_wp2_with(fail)
   go_ret;exact⟨rfl,_,rfl⟩
theorem F7 (v v':Value) (A:List (List Int)) (w:World) (hv:Rd w v A) (hv':Rd w v' A):
  Calls Tryz.prog 164 #[v,v',.func (.func 165) #[] #[]] w fun e w'=>e=.returned (.bool true)/\∃ m,w'=w.drewN m:=by
 obtain⟨a,cap,rfl,hcap,hcm,hb0⟩:=hv.get;obtain⟨a',cap',rfl,hcap',hcm',ae7⟩:=hv'.get;unfold maxLen at hcm hcm';have tL:((A.length:Int) != (A.length:Int))=false:=by simp
 go_enter Tryz.func164,Tryz.ntmps164;go_wp2_with(fail)
 go_loopw [17,7,8,9] (fun vi _ _ _ wr=>∃ k:Nat,k<=A.length/\vi=.int .i64 k/\∃ n,wr=w.drewN n) (fun vi _ _ _ _=>A.length- (intOf vi).toNat)
 case atStart=>exact⟨0,by omega,rfl,0,rfl⟩
 case round=>
  obtain⟨k,hkl,rfl,n,rfl⟩:=hrel;by_cases hlt:k<A.length
  ·obtain⟨bb,off,rfl,hbb⟩:=hb0 (by intro e;rw[e] at hlt;simp at hlt);obtain⟨bb',off',rfl,agL⟩:=ae7 (by intro e;rw[e] at hlt;simp at hlt);obtain⟨u,u1,u2⟩:=hv.cellAt hlt;obtain⟨u',u1',u2'⟩:=hv'.cellAt hlt;go_wp2_with(go_at_call 165;(with_reducible refine(TI u u' _ _ (u2.kept (aB w n)) (u2'.kept (aB w n))).mono ?_);rintro e w' ⟨rfl,m1,rfl⟩)
   go_roundw;case rel=>exact⟨k+1,by omega,by go_num,by exact⟨_,rfl⟩⟩
   case measure=>simp[intOf];omega
  ·go_wp2_with(fail)
   go_ret;exact⟨rfl,_,rfl⟩
def ahO (cols:Nat) (v:Value) (w:World) (e:Ending) (w':World):Prop:=
 ∃ b pa pn pc,e=.returned (.tuple #[.agg #[.pointer (some ⟨b,0,none⟩),.int .i64 cols,v,.slice pa pn pc],.int .i64 0])/\ay w w'
theorem XQ (G:GFd) (t:aK G) (vm:Value) (cols:Nat) (va:Option Addr) (vn vc:Nat) (A:List (List Int)) (P:List Nat) (w:World) (hvm:Sl w vm G.mod) (hv:Rd w (.slice va vn vc) A) (hrf:Rf G.q A cols P) (hc1:1<=cols) (hc2:cols<=256) (hn:A.length<=256):
  Calls Tryz.prog 114 #[.agg #[.int .i64 G.P,.int .i64 G.M,vm],.agg #[.int .i64 cols,.slice va vn vc]] w (ahO cols (.slice va vn vc) w):=by
 obtain⟨w1,hw1⟩:∃ w1,w1=((w.alloc (.cells #[.int .i64 G.P,.int .i64 G.M,vm] 24)).alloc (.cells #[.int .i64 cols,.slice va vn vc] 71)).alloc (.cells #[.pointer none,.int .i64 0,.slice none 0 0,.slice none 0 0] 171):=⟨_,rfl⟩
 have hk1:ay w w1:=by rw[hw1];exact((ah _ _).tr (ah _ _)).tr (ah _ _)
 have bf:nJ w1 w.heap.size G.P G.M vm:=by rw[hw1];exact((aS w _ _ _ _).kept (ah _ _)).kept (ah _ _)
 have bm:BoxM w1 (w.heap.size+1) cols (.slice va vn vc):=by
  rw[hw1];have:=(gX (w.alloc (.cells #[.int .i64 G.P,.int .i64 G.M,vm] 24)) cols (.slice va vn vc) 71).kept (ah _ (.cells #[.pointer none,.int .i64 0,.slice none 0 0,.slice none 0 0] 171));simpa using this
 have fr:Fz w1 (w.heap.size+1+1):=by rw[hw1];exact bD _ _ _ _ (by simp)
 have br:Bk w1 (w.heap.size+1+1) [.pointer none,.int .i64 0,.slice none 0 0,.slice none 0 0]:=by rw[hw1];exact aG _ _ _ _ (by simp)
 have hs1:w1.heap.size=w.heap.size+1+1+1:=by rw[hw1];simp
 have gG:=hvm.kept hk1;have hv1:=hv.kept hk1;have b0:=bf.h0;have b1:=bf.h1;have b2:=bf.h2;have m0:=bm.h0;have m1:=bm.h1;have HS1:=hid hs1;obtain⟨hca,hpa⟩:=SE t hrf;have HCA:=hid hca;have hwf:=hrf.ri.w;clear hs1 hca hpa;go_enter Tryz.func114,Tryz.ntmps114;go_wp2_with(fail)
 rw[<-hw1];clear hw1
 (with_reducible refine(qY G t vm cols _ A w1 gG hv1 hwf hc1 hc2 hn).mono ?_)
 rintro e w2 ⟨v',pv,rfl,hr2,hp2,hk2⟩;rw[HCA.out] at hr2;have hrd:=hr2.rd;obtain⟨ra,rc,rfl,_,_⟩:=hrd.get;obtain⟨pa,pc,rfl,_,_⟩:=hp2.sl.lenOf;obtain⟨pn,hpn⟩:∃ n,n=(bQ (pvL (opG G) A cols)).length:=⟨_,rfl⟩
 rw[<-hpn];have bf2:=bf.kept hk2;have bm2:=bm.kept hk2;have fr2:=fr.kept hk2;have br2:=br.kept hk2;have hv2:=hv1.kept hk2;have hk12:=hk1.tr hk2;have Hu:=gG.kept hk2;clear hpn hp2 b0 b1 b2 m0 m1 bf bm fr br hr2;have hka:=ah w2 (.cells #[.int .i64 cols,.slice ra A.length rc] 71);have bf3:=bf2.kept hka;have bm3:=bm2.kept hka;have m1:=bm3.h1;have x1:=(gX w2 cols (.slice ra A.length rc) 71).h1;have hvA:=hv2.kept hka;have hrA:=hrd.kept hka;have ak9:=Hu.kept hka;have hfl:=t.field;have b0:=bf3.h0;have b1:=bf3.h1;have b2:=bf3.h2;go_wp2_with(fail)
 (with_reducible refine(F7 _ _ A _ hrA hvA).mono ?_)
 rintro e w3 ⟨rfl,n3,rfl⟩;go_wp2_with(fail)
 (with_reducible refine(fA G.P G.M vm G.mod _ (ak9.kept (aB _ n3)) hfl).mono ?_)
 rintro e w4 ⟨b,H,rfl,_,_,_,_,_,hk4⟩;have qG:=(hka.drewN n3).tr hk4;have bm4:=bm2.kept qG;have fr4:=fr2.kept qG;have br4:=br2.kept qG;have hkf:=hk12.tr qG;clear b0 b1 b2 m1 x1 bf3 bm3 hk4 hka;have m0:=bm4.h0;have m1:=bm4.h1;have f0:=fr4.2 0;have f1:=fr4.2 1;have f2:=fr4.2 2;have f3:=fr4.2 3;have r0:=br4.2 0 _ rfl;have r1:=br4.2 1 _ rfl;have r2:=br4.2 2 _ rfl;have r3:=br4.2 3 _ rfl;have KF:=hid (fun x0 x1 x2 x3=>aA (b:=w.heap.size+1+1) (i:=3) x0 (aA (b:=w.heap.size+1+1) (i:=2) x1 (aA (b:=w.heap.size+1+1) (i:=1) x2 (aA (b:=w.heap.size+1+1) (i:=0) x3 hkf (by omega)) (by omega)) (by omega)) (by omega));go_wp2_with(fail)
 refine bodyPost_ret (v:=.tuple #[.agg #[.pointer (some ⟨b,0,none⟩),.int .i64 cols,.slice va vn vc,.slice pa pn pc],.int .i64 0]) ?_ rfl ⟨b,pa,pn,pc,rfl,KF.out _ _ _ _⟩;simp[results,Tryz.results114,go_sem,r0,r1,r2,r3]
theorem TJ (G:GFd) (t:aK G) (vm:Value) (cols:Nat) (va:Option Addr) (vn vc:Nat) (A:List (List Int)) (P:List Nat) (w:World) (hvm:Sl w vm G.mod) (hv:Rd w (.slice va vn vc) A) (hrf:Rf G.q A cols P) (hc1:1<=cols) (hc2:cols<=256) (hn:A.length<=256):
  Calls Tryz.prog 57 #[.agg #[.int .i64 G.P,.int .i64 G.M,vm],.agg #[.int .i64 cols,.slice va vn vc]] w fun e w'=>e=.returned (.int .i64 0)/\ay w w':=by
 have hk1:ay w ((w.alloc (.cells #[.int .i64 G.P,.int .i64 G.M,vm] 24)).alloc (.cells #[.int .i64 cols,.slice va vn vc] 71)):=(ah _ _).tr (ah _ _);have gG:=hvm.kept hk1;have hv1:=hv.kept hk1;go_enter Tryz.func57,Tryz.ntmps57;go_wp2_with(fail)
 (with_reducible refine(XQ G t vm cols va vn vc A P _ gG hv1 hrf hc1 hc2 hn).mono ?_)
 rintro e w2 ⟨b,pa,pn,pc,rfl,hk2⟩;have hk3:=(hk1.tr hk2).tr (ah w2 (.cells #[.pointer (some ⟨b,0,none⟩),.int .i64 cols,.slice va vn vc,.slice pa pn pc] 171));go_wp2_with(fail)
 go_ret;exact⟨rfl,hk3⟩
end
end Go.Proofs.YtoilbeadokallaaGreatDoor
namespace Cw
namespace Gj
theorem Rf.aaf {q:Int} {A:List (List Int)} {cols:Nat} {P:List Nat} (h:Rf q A cols P):∀ i,i<P.length->i<=P.getD i 0
 |0,_=>xZ _
 |i+1,hi=>by
  have h1:=Rf.aaf h i (by omega);have h2:=h.ri.inc i (i+1) (by omega) hi;omega
theorem Rf.le {q:Int} {A:List (List Int)} {cols:Nat} {P:List Nat} (h:Rf q A cols P):A.length<=cols:=by
 rw[h.len];refine vI fun g=>?_;have h1:=h.aaf cols g;have h2:=h.ri.pc cols g;omega
end Gj
end Cw
namespace Go.Proofs.YtoilbeadokallaaGreatDoor
open Go.RowKit Cw Cw.Gj
set_option maxRecDepth 100000 in
theorem sD (G:GFd) (t:aK G) (ma:Option Addr) (ml mc n:Nat) (va:Option Addr) (vn vc:Nat) (A:List (List Int)) (P:List Nat) (w:World) (hvm:Sl w (.slice ma ml mc) G.mod) (hv:Rd w (.slice va vn vc) A) (hrf:Rf G.q A n P) (h1:1<=n) (h2:n<=64):
  Calls Tryz.prog 23 #[.agg #[.int .i64 G.P,.int .i64 G.M,.slice ma ml mc,.int .i64 n,.slice va vn vc]] w fun e w'=>e=.returned (.int .i64 0)/\ay w w':=by
 have hle:=hrf.le;obtain⟨w1,hw1⟩:∃ w1,w1=w.alloc (.cells #[.int .i64 G.P,.int .i64 G.M,.slice ma ml mc,.int .i64 n,.slice va vn vc] 29):=⟨_,rfl⟩
 have hk1:ay w w1:=by rw[hw1];exact ah _ _
 have bc:SX w1 w.heap.size G.P G.M (.slice ma ml mc) n (.slice va vn vc):=by rw[hw1];exact mD _ _ _ _ _ _ _
 have gG:=hvm.kept hk1;have hv1:=hv.kept hk1;have b0:=bc.h0;have b1:=bc.h1;have b2:=bc.h2;have b3:=bc.h3;have b4:=bc.h4;go_enter Tryz.func23,Tryz.ntmps23;go_wp2_with(fail)
 rw[<-hw1];clear hw1
 (with_reducible refine(check_any G.P G.M (.slice ma ml mc) G.mod w1 gG 0 (.inl ⟨t.field,rfl⟩)).mono ?_)
 rintro e w2 ⟨rfl,hk2⟩;have bc2:=bc.kept hk2;have Hu:=gG.kept hk2;have hv2:=hv1.kept hk2;have hk12:=hk1.tr hk2;clear b0 b1 b2 b3 b4;have b0:=bc2.h0;have b1:=bc2.h1;have b2:=bc2.h2;have b3:=bc2.h3;have b4:=bc2.h4;go_wp2_with(go_at_call 56;(with_reducible refine(IQ n _ (by omega) (by omega)).mono ?_);rintro e w3 ⟨rfl,h3⟩;obtain rfl:=h3.symm)
 go_region_held3 (fun w'=>w'.cell? ⟨w.heap.size,0,none⟩=some (.int .i64 G.P)/\w'.cell? ⟨w.heap.size,1,none⟩=some (.int .i64 G.M)/\w'.cell? ⟨w.heap.size,2,none⟩=some (.slice ma ml mc)/\w'.cell? ⟨w.heap.size,3,none⟩=some (.int .i64 n)/\w'.cell? ⟨w.heap.size,4,none⟩=some (.slice va vn vc)) ((simp[*];done))
  (first|(go_at_call 32;(with_reducible refine(KJ G.P G.M ma ml mc n va vn vc _).mono ?_);rintro e w4 ⟨rfl,hk4⟩;have fZ:ay w2 w4:=(by exact(aC _).tr hk4);have bc4:=bc2.kept fZ;have b0:=bc4.h0;have b1:=bc4.h1;have b2:=bc4.h2;have b3:=bc4.h3;have b4:=bc4.h4)|(go_at_call 57;(with_reducible refine(TJ G t (.slice ma ml mc) n va vn vc A P _ (by exact Hu.kept fZ) (by exact hv2.kept fZ) hrf h1 (by omega) (by omega)).mono ?_);rintro e w5 ⟨rfl,hk5⟩;have zk:ay w2 w5:=(by exact fZ.tr hk5);have bc5:=bc2.kept zk;have b0:=bc5.h0;have b1:=bc5.h1;have b2:=bc5.h2;have b3:=bc5.h3;have b4:=bc5.h4))
 all_goals
  go_wp2_with(fail)
  go_ret;exact⟨rfl,by exact hk12.tr zk⟩
def TK (G:GFd) (A:List (List Int)) (P:List Nat) (n:Nat) (w:World) (e:Ending) (w':World):Prop:=
 ∃ a c fa fc,e=.returned (.tuple #[.agg #[.int .i64 G.P,.int .i64 G.M,.slice a G.mod.length c,.int .i64 n,.slice fa (OO (opG G) A P n).length fc],.int .i64 0])/\Own w' w.heap.size (.slice a G.mod.length c) G.mod/\Ro w' w.heap.size (.slice fa (OO (opG G) A P n).length fc) (OO (opG G) A P n)/\ay w w'
set_option maxRecDepth 100000 in
theorem XR (G:GFd) (t:aK G) (ma:Option Addr) (ml mc n:Nat) (va:Option Addr) (vn vc:Nat) (A:List (List Int)) (P:List Nat) (w:World) (hvm:Sl w (.slice ma ml mc) G.mod) (hv:Rd w (.slice va vn vc) A) (hrf:Rf G.q A n P) (h1:1<=n) (h2:n<=64) (hml:G.mod.length<=1000):
  Calls Tryz.prog 12 #[.agg #[.int .i64 G.P,.int .i64 G.M,.slice ma ml mc,.int .i64 n,.slice va vn vc]] w (TK G A P n w):=by
 have hle:=hrf.le;obtain⟨w1,hw1⟩:∃ w1,w1=(w.alloc (.cells #[.int .i64 G.P,.int .i64 G.M,.slice ma ml mc,.int .i64 n,.slice va vn vc] 29)).alloc (.cells #[.int .i64 0,.int .i64 0,.slice none 0 0,.int .i64 0,.slice none 0 0] 29):=⟨_,rfl⟩
 have hk1:ay w w1:=by rw[hw1];exact(ah _ _).tr (ah _ _)
 have bc:SX w1 w.heap.size G.P G.M (.slice ma ml mc) n (.slice va vn vc):=by rw[hw1];exact(mD _ _ _ _ _ _ _).kept (ah _ _)
 have fr:Fz w1 (w.heap.size+1):=by rw[hw1];exact bD _ _ _ _ (by simp)
 have br:Bk w1 (w.heap.size+1) [.int .i64 0,.int .i64 0,.slice none 0 0,.int .i64 0,.slice none 0 0]:=by rw[hw1];exact aG _ _ _ _ (by simp)
 have hs1:w1.heap.size=w.heap.size+1+1:=by rw[hw1];simp
 have gG:=hvm.kept hk1;have hv1:=hv.kept hk1;have b0:=bc.h0;have b1:=bc.h1;have b2:=bc.h2;have b3:=bc.h3;have b4:=bc.h4;have HS1:=hid hs1;obtain⟨hca,hpa⟩:=SE t hrf;have HCA:=hid hca;have HPA:=hid hpa;clear hs1 hca hpa;go_enter Tryz.func12,Tryz.ntmps12;go_wp2_with(fail)
 rw[<-hw1];clear hw1
 (with_reducible refine(sD G t ma ml mc n va vn vc A P w1 gG hv1 hrf h1 h2).mono ?_)
 rintro e w2 ⟨rfl,hk2⟩;have bc2:=bc.kept hk2;have fr2:=fr.kept hk2;have br2:=br.kept hk2;have Hu:=gG.kept hk2;have hv2:=hv1.kept hk2;have hk12:=hk1.tr hk2;clear b0 b1 b2 b3 b4;have b0:=bc2.h0;have b1:=bc2.h1;have b2:=bc2.h2;have b3:=bc2.h3;have b4:=bc2.h4;go_upto_region 4 with(fail)
 go_cut [5,6] (fun s5 s6 wx=>∃ (bm:Nat) (fa:Option Addr) (fn fc:Nat),s5=.pointer (some ⟨bm,0,none⟩)/\s6=.int .i64 0/\wx.cell? ⟨bm,0,none⟩=some (.int .i64 n)/\wx.cell? ⟨bm,1,none⟩=some (.slice fa fn fc)/\bm<wx.heap.size/\Ro wx w2.heap.size (.slice fa fn fc) (OO (opG G) A P n)/\ay w2 wx)
 case first=>
  have hlow2:w.heap.size+1<w2.heap.size:=by have:=hk2.size;have:=HS1.out;omega
  have nn2:¬ w2.heap.size=w.heap.size:=by omega
  refine wp_region_noPanic ?_;refine wp_region_held_drew (S:=fun w'=>w'.cell? ⟨w.heap.size,0,none⟩=some (.int .i64 G.P)/\w'.cell? ⟨w.heap.size,1,none⟩=some (.int .i64 G.M)/\w'.cell? ⟨w.heap.size,2,none⟩=some (.slice ma ml mc)/\w'.cell? ⟨w.heap.size,3,none⟩=some (.int .i64 n)/\w'.cell? ⟨w.heap.size,4,none⟩=some (.slice va vn vc)) (by kernel_rfl) ?_ (fun hHeld=>?_)
  ·(simp[*];done)
  refine tkH 0 ?_;try simp only[bU]
  refine tkH 1 ?_;try simp only[bU]
  refine tkH 2 ?_;try simp only[bU]
  refine wpAnyH_ready (rs:=[3,8]) (by kernel_rfl) (by simp) ?_;refine AllReadyH.cons (o:=?anE) ?ala (fun K hK=>?alb) (AllReadyH.cons (o:=?anF) ?alc (fun K hK=>?ald) AllReadyH.nil);case ala=>(simp only[yX,yt,yZ];rfl)
  case alc=>(simp only[yX,yt,yZ];rfl)
  case alb=>
   go_simp;go_at_call 32;(with_reducible refine(KJ G.P G.M ma ml mc n va vn vc _).mono ?_);rintro e w4 ⟨rfl,hk4⟩;have fZ:ay w2 w4:=(by exact(aC _).tr hk4);have nn4:¬ w4.heap.size=w.heap.size:=(by have q:=fZ.size;omega);have bc4:=bc2.kept fZ;have b0:=bc4.h0;have b1:=bc4.h1;have b2:=bc4.h2;have b3:=bc4.h3;have b4:=bc4.h4;try go_wp2_with(fail)
   refine hK.out _ _ ?_ (fun hHeld=>?_)
   ·(simp[*];done)
   clear hK K;try simp only[bU]
   refine wpAnyH_ready (rs:=[4,8]) (by kernel_rfl) (by simp) ?_;refine AllReadyH.cons (o:=?anG) ?hAt5 (fun K hK=>?ale) (AllReadyH.cons (o:=?anH) ?alf (fun K hK=>?alg) AllReadyH.nil);case hAt5=>(simp only[yX,yt,yZ];rfl)
   case alf=>(simp only[yX,yt,yZ];rfl)
   case ale=>
    go_simp;go_at_call 31;(with_reducible refine(zf G t (.slice ma ml mc) n _ A _ (by exact Hu.kept fZ) (by exact hv2.kept fZ) hrf.ri.w h1 (by omega) (by omega)).mono ?_);rintro e w5 ⟨v5,rfl,hr5,hk5⟩;obtain⟨fa,fc,fe,_,_⟩:=hr5.get;obtain⟨fn,hfn⟩:∃ x,x=(OO (opG G) (oQ (opG G) A n) (pvL (opG G) A n) n).length:=⟨_,rfl⟩;rw[<-hfn] at fe;subst fe;have HFN:=hid hfn;clear hfn;have zk:ay w2 w5:=(by exact fZ.tr hk5);have bc5:=bc2.kept zk;have b0:=bc5.h0;have b1:=bc5.h1;have b2:=bc5.h2;have b3:=bc5.h3;have b4:=bc5.h4;rw[HCA.out,HPA.out] at hr5;have HR5:=hid hr5;have HK5:=hid hk5;clear hr5 hk5;try go_wp2_with(fail)
    refine hK.out _ _ ?_ (fun hHeld=>?_)
    ·(simp[*];done)
    clear hK K;try simp only[bU]
    refine tkH 5 ?_;try simp only[bU]
    refine tkH 6 ?_;try simp only[bU]
    refine tkH 7 ?_;try simp only[bU]
    refine rdH 8 (fun K hK=>?_);go_simp;refine hK.out _ _ ?_ (fun hHeld=>?_)
    ·(go_keep;done)
    clear hK K;try simp only[bU]
    refine rdH 9 (fun K hK=>?_);go_simp;refine hK.out _ _ ?_ (fun hHeld=>?_)
    ·(go_keep;done)
    clear hK K;try simp only[bU]
    refine tkH 10 ?_;try simp only[bU]
    refine wpAnyH_done (by kernel_rfl) ?_ _;refine NoPanic.normal ?_;go_wp2_with(fail)
    go_meet;case rel=>
     refine⟨w5.heap.size,fa,fn,fc,rfl,rfl, ?_, ?_, ?_, ?_, ?_⟩
     ·simp
     ·simp
     ·simp
     ·exact(HR5.out.kept (ah _ _)).mono fZ.size
     ·exact zk.tr (ah _ _)
   case alg=>
    go_simp;refine hK.out _ _ ?_ (fun hHeld=>?_)
    ·(go_keep;done)
    clear hK K;try simp only[bU]
    refine rdH 4 (fun K hK=>?_);go_simp;go_at_call 31;(with_reducible refine(zf G t (.slice ma ml mc) n _ A _ (by exact(Hu.kept fZ).kept (ah _ _)) (by exact(hv2.kept fZ).kept (ah _ _)) hrf.ri.w h1 (by omega) (by omega)).mono ?_);rintro e w5 ⟨v5,rfl,hr5,hk5⟩;obtain⟨fa,fc,fe,_,_⟩:=hr5.get;obtain⟨fn,hfn⟩:∃ x,x=(OO (opG G) (oQ (opG G) A n) (pvL (opG G) A n) n).length:=⟨_,rfl⟩;rw[<-hfn] at fe;subst fe;have HFN:=hid hfn;clear hfn;have zk:ay w2 w5:=(by exact(fZ.tr (ah _ _)).tr hk5);have bc5:=bc2.kept zk;have b0:=bc5.h0;have b1:=bc5.h1;have b2:=bc5.h2;have b3:=bc5.h3;have b4:=bc5.h4;rw[HCA.out,HPA.out] at hr5;have HR5:=hid hr5;have HK5:=hid hk5;clear hr5 hk5;have l5:w4.heap.size<w5.heap.size:=(by have q:=HK5.out.size;simp at q;omega);have a0:w5.cell? ⟨w4.heap.size,0,none⟩=some (.int .i64 0):=(HK5.out.cell' (by simp)).trans (by simp);have a1:w5.cell? ⟨w4.heap.size,1,none⟩=some (.slice none 0 0):=(HK5.out.cell' (by simp)).trans (by simp);have z0:w5.frozen? ⟨w4.heap.size,0,none⟩=false:=(HK5.out.frozen' (by simp)).trans (by simp);have z1:w5.frozen? ⟨w4.heap.size,1,none⟩=false:=(HK5.out.frozen' (by simp)).trans (by simp);try go_wp2_with(fail)
    refine hK.out _ _ ?_ (fun hHeld=>?_)
    ·(simp[*];done)
    clear hK K;try simp only[bU]
    refine tkH 5 ?_;try simp only[bU]
    refine tkH 6 ?_;try simp only[bU]
    refine tkH 7 ?_;try simp only[bU]
    refine rdH 9 (fun K hK=>?_);go_simp;refine hK.out _ _ ?_ (fun hHeld=>?_)
    ·(simp[go_sem, *];done)
    clear hK K;try simp only[bU]
    refine tkH 10 ?_;try simp only[bU]
    refine wpAnyH_done (by kernel_rfl) ?_ _;refine NoPanic.normal ?_;go_wp2_with(fail)
    go_meet;case rel=>
     refine⟨w4.heap.size,fa,fn,fc,rfl,rfl, ?_, ?_, ?_, ?_, ?_⟩
     ·exact SY.trans (gQ a0)
     ·exact gQ (S9.trans a1)
     ·simpa[World.setCell] using l5
     ·exact((HR5.out.set (by simp) _).set (by simp) _).mono (by have:=fZ.size;simp;omega)
     ·exact aA _ (aA _ zk fZ.size) fZ.size
  case ald=>
   go_simp;refine hK.out _ _ ?_ (fun hHeld=>?_)
   ·(go_keep;done)
   clear hK K;try simp only[bU]
   refine rdH 3 (fun K hK=>?_);go_simp;go_at_call 32;(with_reducible refine(KJ G.P G.M ma ml mc n va vn vc _).mono ?_);rintro e w4 ⟨rfl,hk4⟩;have fZ:ay w2 w4:=(by exact((aC _).tr (ah _ _)).tr hk4);have nn4:¬ w4.heap.size=w.heap.size:=(by have q:=fZ.size;omega);have bc4:=bc2.kept fZ;have b0:=bc4.h0;have b1:=bc4.h1;have b2:=bc4.h2;have b3:=bc4.h3;have b4:=bc4.h4;have l4:w2.heap.size<w4.heap.size:=(by have q:=hk4.size;simp at q;omega);have a0:w4.cell? ⟨w2.heap.size,0,none⟩=some (.int .i64 0):=(hk4.cell' (by simp)).trans (by simp);have a1:w4.cell? ⟨w2.heap.size,1,none⟩=some (.slice none 0 0):=(hk4.cell' (by simp)).trans (by simp);have z0:w4.frozen? ⟨w2.heap.size,0,none⟩=false:=(hk4.frozen' (by simp)).trans (by simp);have z1:w4.frozen? ⟨w2.heap.size,1,none⟩=false:=(hk4.frozen' (by simp)).trans (by simp);try go_wp2_with(fail)
   refine hK.out _ _ ?_ (fun hHeld=>?_)
   ·(simp[*];done)
   clear hK K;try simp only[bU]
   refine rdH 4 (fun K hK=>?_);go_simp;go_at_call 31;(with_reducible refine(zf G t (.slice ma ml mc) n _ A _ (by exact Hu.kept fZ) (by exact hv2.kept fZ) hrf.ri.w h1 (by omega) (by omega)).mono ?_);rintro e w5 ⟨v5,rfl,hr5,hk5⟩;obtain⟨fa,fc,fe,_,_⟩:=hr5.get;obtain⟨fn,hfn⟩:∃ x,x=(OO (opG G) (oQ (opG G) A n) (pvL (opG G) A n) n).length:=⟨_,rfl⟩;rw[<-hfn] at fe;subst fe;have HFN:=hid hfn;clear hfn;have zk:ay w2 w5:=(by exact fZ.tr hk5);have bc5:=bc2.kept zk;have b0:=bc5.h0;have b1:=bc5.h1;have b2:=bc5.h2;have b3:=bc5.h3;have b4:=bc5.h4;rw[HCA.out,HPA.out] at hr5;have HR5:=hid hr5;have HK5:=hid hk5;clear hr5 hk5;have l5:w2.heap.size<w5.heap.size:=zZ l4 HK5.out.size;have a0':w5.cell? ⟨w2.heap.size,0,none⟩=some (.int .i64 0):=(HK5.out.cell' l4).trans a0;have a1':w5.cell? ⟨w2.heap.size,1,none⟩=some (.slice none 0 0):=(HK5.out.cell' l4).trans a1;have z0':w5.frozen? ⟨w2.heap.size,0,none⟩=false:=(HK5.out.frozen' l4).trans z0;have z1':w5.frozen? ⟨w2.heap.size,1,none⟩=false:=(HK5.out.frozen' l4).trans z1;try go_wp2_with(fail)
   refine hK.out _ _ ?_ (fun hHeld=>?_)
   ·(simp[*];done)
   clear hK K;try simp only[bU]
   refine tkH 5 ?_;try simp only[bU]
   refine tkH 6 ?_;try simp only[bU]
   refine tkH 7 ?_;try simp only[bU]
   refine rdH 9 (fun K hK=>?_);go_simp;refine hK.out _ _ ?_ (fun hHeld=>?_)
   ·(simp[go_sem, *];done)
   clear hK K;try simp only[bU]
   refine tkH 10 ?_;try simp only[bU]
   refine wpAnyH_done (by kernel_rfl) ?_ _;refine NoPanic.normal ?_;go_wp2_with(fail)
   go_meet;case rel=>
    refine⟨w2.heap.size,fa,fn,fc,rfl,rfl, ?_, ?_, ?_, ?_, ?_⟩
    ·exact SY.trans (gQ a0')
    ·exact gQ (S9.trans a1')
    ·simpa[World.setCell] using l5
    ·exact((HR5.out.set l4 _).set l4 _).mono fZ.size
    ·exact aA _ (aA _ zk (zy _)) (zy _)
 case rest=>
  obtain⟨bm,fa,fn,fc,rfl,rfl,x0,x1,hbm,hr3,hk3⟩:=hcut;obtain⟨w3,hw3⟩:∃ x,x=wc:=⟨_,rfl⟩
  rw[<-hw3] at x0 x1 hbm hr3 hk3 ⊢;have bc3:=bc2.kept hk3;have fr3:=fr2.kept hk3;have br3:=br2.kept hk3;have alh:=Hu.kept hk3;have Bj:=hk12.tr hk3;clear hw3 b0 b1 b2 b3 b4 hbm;have b0:=bc3.h0;have b1:=bc3.h1;have b2:=bc3.h2;have HR3:=hid hr3;clear hr3;go_wp2_with(fail)
  (with_reducible refine(aac G.P G.M (.slice ma ml mc) G.mod n fa fn fc w3 alh hml).mono ?_)
  rintro e w4 ⟨a,c,rfl,ho4,hk4⟩;have fr4:=fr3.kept hk4;have br4:=br3.kept hk4;have hkf:=Bj.tr hk4;clear b0 b1 b2 x0 x1;have f0:=fr4.2 0;have f1:=fr4.2 1;have f2:=fr4.2 2;have f3:=fr4.2 3;have f4:=fr4.2 4;have r0:=br4.2 0 _ rfl;have r1:=br4.2 1 _ rfl;have r2:=br4.2 2 _ rfl;have r3:=br4.2 3 _ rfl;have r4:=br4.2 4 _ rfl;have hlow2:w.heap.size+1<w2.heap.size:=by have:=hk2.size;have:=HS1.out;omega
  have TL:w.heap.size+1<w3.heap.size:=by have:=hk3.size;omega
  have HR4:=hid (HR3.out.kept hk4);have HO:=hid ho4;have KF:=hid (fun x0 x1 x2 x3 x4=>aA (b:=w.heap.size+1) (i:=4) x0 (aA (b:=w.heap.size+1) (i:=3) x1 (aA (b:=w.heap.size+1) (i:=2) x2 (aA (b:=w.heap.size+1) (i:=1) x3 (aA (b:=w.heap.size+1) (i:=0) x4 hkf (by omega)) (by omega)) (by omega)) (by omega)) (by omega));obtain⟨_,_,hfe,_,_⟩:=HR3.out.get;obtain rfl:fn=(OO (opG G) A P n).length:=by injection hfe
  clear ho4 hfe;go_wp2_with(fail)
  refine bodyPost_ret (v:=.tuple #[.agg #[.int .i64 G.P,.int .i64 G.M,.slice a G.mod.length c,.int .i64 n,.slice fa (OO (opG G) A P n).length fc],.int .i64 0]) ?_ rfl ⟨a,c,fa,fc,rfl, ?_, ?_,KF.out _ _ _ _ _⟩
  ·simp[results,Tryz.results12,go_sem,r0,r1,r2,r3,r4]
  ·exact(aV (aV (aV (aV (aV HO.out TL _) TL _) TL _) TL _) TL _).mono (by omega)
  ·exact(((((HR4.out.set hlow2 _).set hlow2 _).set hlow2 _).set hlow2 _).set hlow2 _).mono (by omega)
end Go.Proofs.YtoilbeadokallaaGreatDoor
namespace Go.Proofs.YtoilbeadokallaaGreatDoor
section
open Go.RowKit Cw Cw.Gj
def qH:List (List Int):=[[0,0,1],[0,1,0],[0,1,1],[1,0,0],[1,0,1],[1,1,0],[1,1,1]]
def p7 (k j:Nat):Int:=(qH.getD k []).getD j 0
def ld7 (k:Nat):Nat:=[2,1,1,0,0,0,0].getD k 0
def st7 (k i:Nat):List Int:=(List.range 3).map fun j=>if j<=i then p7 k j else 0
theorem abV:∀ k,k<7->∀ i,i<3->1<=i->(st7 k i).set i 0=st7 k (i-1):=by decide
theorem abW:∀ k,k<7->(∀ j,j<3->ld7 k<j->p7 k j=1)->k=0∨k=2∨k=6:=by decide
set_option synthInstance.maxSize 2000 in
set_option synthInstance.maxHeartbeats 400000 in
theorem abX:∀ k,k<7->∀ i,i<3->ld7 k<i->(∀ j,j<3->i<j->p7 k j=1)->p7 k i≠1->k+1<7/\ld7 (k+1)=ld7 k/\(st7 k i).set i (p7 k i+1)=qH.getD (k+1) []:=by decide
theorem ahP:∀ k,k<7->∀ i,i<3->0<=p7 k i/\p7 k i<=1:=by decide
theorem abY:∀ k,k<7->st7 k 2=qH.getD k []:=by decide
theorem afa:∀ k,k<7->∀ i,i<3->(st7 k i).getD i 0=p7 k i:=by decide
theorem afb:∀ k,k<7->(qH.getD k []).length=3:=by decide
theorem abZ:∀ k,k<7->qH.take k++ [qH.getD k []]=qH.take (k+1):=by decide
theorem Df:∀ k,k<=7->(qH.take k).length=k:=by decide
def ali (k:Nat):Prop:=k=0∨k=1∨k=3
theorem afc:∀ k,k<7->(k=0∨k=1∨k=3)->ld7 k<3/\(List.replicate 3 (0:Int)).set (ld7 k) 1=qH.getD k []:=by decide
theorem ab1:∀ k,k<7->(k=0∨k=2∨k=6)->(k+1=7/\ld7 k=0)∨(k+1<7/\(k+1=0∨k+1=1∨k+1=3)/\ld7 k=ld7 (k+1)+1):=by decide
theorem O8 (w:World):∃ w',(Instr.makeSlice 27 (.int .i64 0) (.int .i64 7)).run Tryz.prog w=.ok (.slice (some ⟨w.heap.size,0,none⟩) 0 7) w'/\Mx w' w.heap.size (.slice (some ⟨w.heap.size,0,none⟩) 0 7) [] (fun _=>.slice none 0 0)/\ay w w':=by
 obtain⟨i0,hi,hz0,hz1,hz2⟩:=info_parts Tryz.infoSl;obtain⟨w',h1,h2,h3⟩:=run_make_own (P:=Tryz.prog) w w.heap.size 27 22 i0 _ 1 Tryz.underlying27 hi hz0 hz1 .i64 .i64 7 (by rw[hz2];decide) (by unfold maxLen;omega) (zy _);exact⟨w',h1,⟨h2,fun i hi=>absurd hi (yw _),fun i k hi=>absurd hi (yw _)⟩,oK h3⟩
def afd (w:World) (e:Ending) (w':World):Prop:=∃ v rv,e=.returned (.tuple #[v,.int .i64 0])/\Mx w' w.heap.size v qH rv/\ay w w'
set_option maxRecDepth 100000 in
theorem ab2 (vm:Value) (w:World) (hvm:Sl w vm []) (hF:fD 2 1 []):
  Calls Tryz.prog 303 #[.agg #[.int .i64 2,.int .i64 1,vm],.int .i64 3] w (afd w):=by
 have hk0:=ah w (.cells #[.int .i64 2,.int .i64 1,vm] 24);have hv1:=hvm.kept hk0;have HF:=hid hF;clear hvm hF;go_enter Tryz.func303,Tryz.ntmps303;go_wp2_with(first|(go_at_call 47;(with_reducible refine(fA 2 1 vm [] _ hv1 HF.out).mono ?_);rintro e w1 ⟨b,G,rfl,hg1,ht,hP,hM,hmod,hk1⟩;have hq:G.q=2:=(by rw[ht.hq,hP,hM];decide))|(go_at_call 95;(with_reducible refine(kS b G w1 hg1).mono ?_);rintro e w2 ⟨rfl,n2,rfl⟩;rw[hq]))
 obtain⟨W2,hW2⟩:∃ x,x=w1.drewN n2:=⟨_,rfl⟩
 have hk2:ay w W2:=by rw[hW2];exact(hk0.tr hk1).tr (aB _ _)
 rw[<-hW2];clear hW2 hg1 ht hP hM hmod hk1 hq hk0 hv1
 go_loop [28,9,10] (fun vi vt vp=>∃ k:Nat,k<=3/\vi=.int .i64 k/\vt=.int .i64 (2^k-1)/\vp=.int .i64 (2^k)) (fun vi _ _=>3- (intOf vi).toNat)
 case atStart=>exact⟨0,by omega,rfl,rfl,rfl⟩
 case round=>
  obtain⟨k,hk3,rfl,rfl,rfl⟩:=hrel;have hk4:k=0∨k=1∨k=2∨k=3:=by omega
  rcases hk4 with rfl|rfl|rfl|rfl
  ·go_wp2_with(fail)
   go_round;case rel=>exact⟨1,by omega,rfl,rfl,rfl⟩
   case measure=>decide
  ·go_wp2_with(fail)
   go_round;case rel=>exact⟨2,by omega,rfl,rfl,rfl⟩
   case measure=>decide
  ·go_wp2_with(fail)
   go_round;case rel=>exact⟨3,by omega,rfl,rfl,rfl⟩
   case measure=>decide
  ·obtain⟨W3,hmk,hm3,Qg⟩:=O8 W2;obtain⟨X,hX⟩:∃ x,x=W2.heap.size:=⟨_,rfl⟩
   have HX:=hid hX;have HK3:=hid Qg;rw[<-hX] at hmk hm3;clear hX Qg;go_wp2_with(fail)
   clear hmk
   go_loopg [11,12] 8 (fun gk vo vl wr=>∃ k rv,gk=8-k/\((k=7/\vl=.int .i64 (-1))∨(k<7/\Hid (ali k)/\vl=.int .i64 (ld7 k)))/\Mx wr X vo (qH.take k) rv/\ay W2 wr)
   case atStart=>exact⟨0,_,rfl,.inr ⟨by omega,hid (.inl rfl),rfl⟩,hm3,HK3.out⟩
   case round=>
    obtain⟨k,rv,rfl,hc,hmx,hkw⟩:=hrel;clear hm3;obtain⟨wo,hwo⟩:∃ x,x=wr:=⟨_,rfl⟩
    subst hwo;rcases hc with⟨rfl,rfl⟩|⟨hk7,afe,rfl⟩
    ·go_wp2_with(fail)
     refine bodyPost_ret (v:=.tuple #[_,.int .i64 0]) ?_ rfl ⟨_,rv,rfl,hmx.mono (by rw[HX.out];exact hk2.size),hk2.tr hkw⟩;simp[results,Tryz.results303,go_sem]
    ·obtain⟨hl3,hst⟩:=afc k hk7 afe.out;have hmi:∀ w:World,(Instr.makeSlice 22 (.int .i64 3) (.int .i64 3)).run Tryz.prog w=.ok (.slice (some ⟨w.heap.size,0,none⟩) 3 3) (w.alloc (.cells (madeCells #[.int .i64 0] 3) 3)):=fun w=>qJ 3 (by omega) w;obtain⟨l,hl⟩:∃ l,l=ld7 k:=⟨_,rfl⟩
     have HLD:=hid hl.symm;rw[<-hl] at hl3 hst ⊢;have HST:=hid hst;have hl0:(0:Int)<=(l:Int):=by omega
     clear hl hst;go_upto_region 20 with(fail)
     obtain⟨Wn,hWn⟩:∃ x,x=wo.alloc (.cells (madeCells #[.int .i64 0] 3) 3):=⟨_,rfl⟩
     obtain⟨bw,hbw⟩:∃ x,x=wo.heap.size:=⟨_,rfl⟩
     have hkn:ay wo Wn:=by rw[hWn];exact ah _ _
     have hXo:X<=wo.heap.size:=by rw[HX.out];exact hkw.size
     have hon:Own Wn X (.slice (some ⟨bw,0,none⟩) 3 3) (List.replicate 3 0):=by rw[hWn,hbw];exact jA (by omega) hXo
     rw[<-hWn,<-hbw];have hmn:=hmx.kept hkn;have HBW:=hid hbw;have cl:=hon.cell (i:=l) (by simpa using hl3);have fl:=hon.frozen l;clear hWn hbw hmi;go_wp2_with(fail)
     have hos:Own (Wn.setCell ⟨bw,l,none⟩ (.int .i64 1)) X (.slice (some ⟨bw,0,none⟩) 3 3) (qH.getD k []):=by rw[<-HST.out];exact hon.set l 1
     have hbl:=hon.lt;have hrn:∀ i,i<k->(rv i).ownBlock≠some bw:=fun i hi e=>by
      have h1:=aN (hmx.row i (by rw[Df k (by omega)];exact hi)) e;have:=HBW.out;omega
     have hnh:¬ Has _ rv (qH.take k).length bw:=fun h=>by
      rcases h with h|⟨i,hi,h⟩
      ·exact row_ne hmn.out hon rfl h
      ·exact hrn i (by rw[Df k (by omega)] at hi;exact hi) h
     have hms:=hmn.grown (aj Wn bw l (.int .i64 1)) hnh;obtain⟨Ws,hWs⟩:∃ x,x=Wn.setCell ⟨bw,l,none⟩ (.int .i64 1):=⟨_,rfl⟩
     have hks:ay W2 Ws:=by rw[hWs];exact aA _ (hkw.tr hkn) (by have:=HX.out;have:=hbl.1;omega)
     rw[<-hWs] at hos hms ⊢;clear hWs hon hmn cl fl hnh hkn;have HKS:=hid hks;have HFK:=hid (show ld7 k=l from HLD.out);clear hks HLD HST hmx hkw;obtain⟨k0,hk0⟩:∃ x,x=k:=⟨_,rfl⟩
     have anI:k0<7:=by omega
     go_loopg [11] (8-k0) (fun gk vo wr=>∃ k rv,gk=8-k/\k0<=k/\k<7/\Hid (ld7 k=l)/\Mx wr X vo (qH.take k) rv/\Own wr X (.slice (some ⟨bw,0,none⟩) 3 3) (qH.getD k [])/\(∀ i,i<k->(rv i).ownBlock≠some bw)/\ay W2 wr)
     case atStart=>exact⟨k,rv,by omega,by omega,hk7,HFK,hms,hos,hrn,HKS.out⟩
     case round=>
      clear hms hos hrn HFK HKS afe;obtain⟨k,rv,rfl,hkk,hk7,HLD,hmx,hos,hrn,hkw⟩:=hrel;obtain⟨wi,hwi⟩:∃ x,x=wr:=⟨_,rfl⟩
      subst hwi;have ajw:=afb k hk7;have HOS:=hid hos;have HMX:=hid hmx;have HRN:=hid hrn;have HKW:=hid hkw;clear hos hmx hrn hkw;go_upto_region 22 with(first|(go_at_call 128;(with_reducible refine(clone_any _ (qH.getD k []) _ HOS.out.sl (by rw[ajw];omega)).mono ?_);rintro e w3 ⟨v3,rfl,ho3,hk3⟩;have ajx:v3≠ .slice none 0 0:=(fun e=>by subst e;obtain⟨_,_,e,_⟩:=ho3.sl;injection e with _ e _;omega);obtain⟨g3,c3,e3,hg3,hg3'⟩:=ho3.get ajx;rw[ajw] at e3;subst e3;clear ajx;have hm4:=(HMX.out.kept hk3).kept (ah w3 (.cells #[.slice (some ⟨g3,0,none⟩) 3 c3] 22)))|(at_builtin;refine dD rfl _ _ rfl X _ _ _ rfl hm4.out ⟨w3.heap.size,0,none⟩ (.slice (some ⟨g3,0,none⟩) 3 c3) rfl (aU rfl) rfl (by rw[Df k (by omega)];omega) (by have:=HKW.out.size;have:=HX.out;have:=hk3.size;simp;omega) ?_;intro v8 w8 o8 hg8))
      have hka:=ah w3 (.cells #[.slice (some ⟨g3,0,none⟩) 3 c3] 22);have hXw:=HX.out;have hsz:=HKW.out.size;have htl:=Df k (by omega);have ajy:ay W2 w8:=Below.grown ((HKW.out.tr hk3).tr hka) hg8 (zJ hsz (hk3.tr hka).size) (fun g e=>by rw[<-hXw];exact(World.ownsRow.lt hm4.out g e).1);have hd4:∀ x,(Value.slice (some ⟨g3,0,none⟩) 3 c3).ownBlock=some x->∀ j,j< (qH.take k).length->(rv j).ownBlock≠some x:=fun x hx j hj e=>by
       have h1:=aN (HMX.out.row j hj) e;have h2:g3=x:=by simpa[Value.ownBlock] using hx
       omega
      have hm8:=Mx.add hm4 ((ho3.kept hka).mono (by omega)) hd4 o8 hg8;rw[abZ k hk7] at hm8;have ho4:=(HOS.out.kept hk3).kept hka;have ho8:=ho4.grownBy hg8 (.inr fun e=>row_ne hm4.out ho4 rfl e.symm);have hr8:∀ i,i<k+1->((fun i=>if i=(qH.take k).length then Value.slice (some ⟨g3,0,none⟩) 3 c3 else rv i) i).ownBlock≠some bw:=fun i hi e=>by
       have hbw:=HOS.out.lt;dsimp only at e;by_cases q:i=(qH.take k).length
       ·rw[zu q] at e;have h2:g3=bw:=by simpa[Value.ownBlock] using e
        omega
       ·rw[zx q] at e;exact HRN.out i (by omega) e
      obtain⟨rw8,ajz⟩:∃ f,f=(fun i=>if i=(qH.take k).length then Value.slice (some ⟨g3,0,none⟩) 3 c3 else rv i):=⟨_,rfl⟩
      rw[<-ajz] at hm8 hr8;rw[<-abY k hk7] at ho8;clear ajz hd4 ho4 hka hm4 o8 hg8 ho3 hg3 hg3' hk3 htl;have HM8:=hid hm8;have HO8:=hid ho8;have HR8:=hid hr8;have HK8:=hid ajy;clear hm8 ho8 hr8 ajy;have hbd:=ahP k hk7;have HBD:=hid hbd;clear hbd;go_wp2_with(fail)
      go_loopg [14] 3 (fun gk vi wr=>∃ i:Nat,i<3/\l<=i/\vi=.int .i64 i/\gk=i+1/\Hid (∀ j,j<3->i<j->p7 k j=1)/\Mx wr X v8 (qH.take (k+1)) rw8/\Own wr X (.slice (some ⟨bw,0,none⟩) 3 3) (st7 k i)/\ay W2 wr)
      case atStart=>exact⟨2,by omega,by omega,rfl,rfl,hid (fun j h1 h2=>by omega),HM8.out,HO8.out,HK8.out⟩
      case round=>
       obtain⟨i,hi3,hli,rfl,rfl,ab3,hmx,hos,hkw⟩:=hrel;have hc:=hos.cell (i:=i) (by simpa[st7] using hi3);rw[afa k hk7 i hi3] at hc;have hf:=hos.frozen i;have hlb:=hos.lt;have hi0:(0:Int)<=(i:Int):=by omega
       have anJ:(i:Int)<3:=by omega
       have hnh:¬ Has v8 rw8 (qH.take (k+1)).length bw:=fun h=>by
        rcases h with h|⟨j,hj,h⟩
        ·exact row_ne hmx.out hos rfl h
        ·exact HR8.out j (by rw[Df (k+1) (by omega)] at hj;exact hj) h
       have hst:∀ x,Mx (wr.setCell ⟨bw,i,none⟩ (.int .i64 x)) X v8 (qH.take (k+1)) rw8/\Own (wr.setCell ⟨bw,i,none⟩ (.int .i64 x)) X (.slice (some ⟨bw,0,none⟩) 3 3) ((st7 k i).set i x)/\ay W2 (wr.setCell ⟨bw,i,none⟩ (.int .i64 x)):=fun x=>⟨hmx.grown (aj wr bw i _) hnh,hos.set i x,aA _ hkw (by have:=HX.out;have:=hlb.1;omega)⟩
       have HST:=hid hst;have alj:=hid hmx;have anK:=hid hos;have alk:=hid hkw;obtain⟨z,hz⟩:∃ z,z=p7 k i:=⟨_,rfl⟩
       have hzb:=HBD.out i hi3;have hnx:=abX k hk7 i hi3;rw[<-hz] at hc hzb hnx;have HNX:=hid hnx;have HZ:=hid hz;clear hst hmx hos hkw hnx hz hnh hlb;by_cases hgt:l<i
       ·have anL:(l:Int)< (i:Int):=by omega
        by_cases hz1:z=1
        ·subst hz1;have hw1:IntKind.i64.wrap ((i:Int)-1)=((i-1:Nat):Int):=by rw[IntWalk.i64_in _ (by omega)];omega
         go_wp2_with(fail)
         go_roundg i
         case measure=>omega
         case rel=>
          obtain⟨q1,q2,q3⟩:=HST.out 0;rw[abV k hk7 i hi3 (by omega)] at q2;exact⟨i-1,by omega,by omega,rfl,by omega,hid (fun j h1 h2=>by
           by_cases e:j=i
           ·rw[e];exact HZ.out.symm
           ·exact ab3.out j h1 (by omega)),q1,q2,q3⟩
        ·have hz1':(z==1)=false:=by simpa using hz1
         have hw1:IntKind.i64.wrap (z+1)=z+1:=IntWalk.i64_in _ (by omega);have hil:((i:Int)==(l:Int))=false:=by simp;omega
         go_wp2_with(fail)
         go_roundg (8- (k+1))
         case measure=>omega
         case rel=>
          obtain⟨q1,q2,q3⟩:=HST.out (z+1);obtain⟨n1,n2,n3⟩:=HNX.out (by rw[HLD.out];exact hgt) ab3.out hz1;rw[n3] at q2;exact⟨k+1,rw8,rfl,by omega,n1,hid (n2.trans HLD.out),q1,q2,HR8.out,q3⟩
       ·have hil:i=l:=by omega
        subst hil;go_wp2_with(fail)
        have hlast:=abW k hk7 (fun j h1 h2=>ab3.out j h1 (by rw[<-HLD.out];exact h2));have hstep:=ab1 k hk7 hlast
        go_roundg (8- (k+1))
        case measure=>omega
        case rel=>
         refine⟨k+1,rw8,rfl, ?_,alj.out,alk.out⟩;have hld:=HLD.out;rcases hstep with⟨e1,e2⟩|⟨e1,e2,e3⟩
         ·exact .inl ⟨e1,by rw[<-hld,e2];rfl⟩
         ·exact .inr ⟨e1,hid e2,by rw[<-hld,e3];congr 1;omega⟩
end
section
open Go.RowKit Go.MapKept
open Go.ChangeMaps (setBlock)
def ents (l:List (ByteArray×Value)):List MapEntry:=l.zipIdx.map fun p=>⟨.string p.1.1,p.1.2,p.2⟩
def iy (w:World) (b:Nat) (l:List (ByteArray×Value)):Prop:=w.heap[b]?=some (.map (ents l).toArray l.length)
theorem TM (l:List (ByteArray×Value)) (s:ByteArray) (v:Value):ents (l++ [(s,v)])=ents l++ [⟨.string s,v,l.length⟩]:=by
 unfold ents;rw[List.zipIdx_append,xq];simp
theorem jD {l:List (ByteArray×Value)} {x:MapEntry}:x∈ents l↔ ∃ (i:Nat) (s:ByteArray) (v:Value),l[i]?=some (s,v)/\x=⟨.string s,v,i⟩:=by
 unfold ents;rw[yY];constructor
 ·rintro⟨⟨⟨s,v⟩,i⟩,h1,rfl⟩;exact⟨i,s,v,tY.1 h1,rfl⟩
 ·rintro⟨i,s,v,h1,rfl⟩;exact⟨((s,v),i),tY.2 h1,rfl⟩
theorem iy.lt {w:World} {b:Nat} {l:List (ByteArray×Value)} (h:iy w b l):b<w.heap.size:=(zL.1 h).1
theorem iy.kept {w w':World} {b:Nat} {l:List (ByteArray×Value)} (h:iy w b l) (k:ay w w'):iy w' b l:=by unfold iy;rw[k.block b h.lt];exact h
theorem iy.gbo {w w':World} {b:Nat} {row:Option Nat} {l:List (ByteArray×Value)} (h:iy w b l) (g:w.grownBy w' row) (hb:some b≠row):iy w' b l:=by unfold iy;rw[g.block b h.lt hb];exact h
theorem oG (w:World) (b:Nat) (hb:b=w.heap.size):iy (w.alloc (.map #[] 0)) b []:=by
 subst hb;show(w.heap.push _)[w.heap.size]?=_;simp;rfl
theorem Dh (w:World) (b:Nat) (o:Obj):w.grownBy (setBlock w b o) (some b):=
 ⟨rfl,rfl,rfl,by simp[setBlock],fun i _ hn=>by
  have:b≠i:=fun e=>hn (by rw[e]);simp[setBlock,this]⟩
theorem TN {w:World} {b:Nat} {o:Obj} (h:w.heap[b]?=some o) (l:List (ByteArray×Value)):iy (setBlock w b (.map (ents l).toArray l.length)) b l:=by
 have hlt:b<w.heap.size:=(zL.1 h).1;unfold iy setBlock;simp[hlt]
theorem F8 (l:List (ByteArray×Value)):∀ x∈(ents l).toArray.toList,IsKey .string x.key:=fun x hx=>by
 obtain⟨i,s,v,_,rfl⟩:=jD.1 (by simpa using hx);trivial
section
variable {P:Program} {t kt et:TypeId} {w:World} {b:Nat} {l:List (ByteArray×Value)} {s:ByteArray}
theorem bg (ht:P.underlying t=some (.map kt et)) (hk:P.underlying kt=some .string) (h:iy w b l) (hs:∀ p∈l,p.1≠s) (v:Value):
  ∃ w',(Instr.mapUpdate t (.map (some b)) (.string s) v).run P w=.ok () w'/\iy w' b (l++ [(s,v)])/\w.grownBy w' (some b):=by
 refine⟨setBlock w b (.map (ents (l++ [(s,v)])).toArray (l++ [(s,v)]).length), ?_,TN h _,Dh _ _ _⟩;have hkey:IsKey .string (.string s):=trivial;have hb:w.heap[b]?=some (.map (ents l).toArray l.length):=h;rcases findNow_spec hkey (ents l).toArray.toList 0 (F8 l) with⟨h1,_⟩|⟨j,e,h1,h2,h3⟩
 ·simp[Instr.mapUpdate,run_underlying ht,Go.MapKept.run_getObj_map hb,Go.MapKept.run_checkKey hk hkey,Go.MapKept.run_findKey hk h1,Go.MapKept.run_setObj_map _ hb,Result.andThen,setBlock,TM]
 ·exfalso;have hm:e∈ents l:=by
   have:=xU h2;simpa using this
  obtain⟨i,s',v',q1,rfl⟩:=jD.1 hm;have:s'=s:=by simpa using h3
  exact hs (s',v') (xU q1) this
theorem NI (ht:P.underlying t=some (.map kt et)) (hk:P.underlying kt=some .string) (h:iy w b l) {v:Value} (hv:(s,v)∈l) (hu:∀ v',(s,v')∈l->v'=v):
  (Instr.lookup t (.map (some b)) (.string s) false).run P w=.ok v w:=by
 have hkey:IsKey .string (.string s):=trivial;have hb:w.heap[b]?=some (.map (ents l).toArray l.length):=h;rcases findNow_spec hkey (ents l).toArray.toList 0 (F8 l) with⟨h1,h2⟩|⟨j,e,h1,h2,h3⟩
 ·exfalso;obtain⟨i,hi⟩:=wS hv;exact h2 ⟨.string s,v,i⟩ (by simpa using jD.2 ⟨i,s,v,hi,rfl⟩) rfl
 ·have hm:e∈ents l:=by
   have:=xU h2;simpa using this
  obtain⟨i,s',v',q1,rfl⟩:=jD.1 hm;have hs:s'=s:=by simpa using h3
  subst hs;have hvv:=hu v' (xU q1);subst hvv;simp[Instr.lookup,run_underlying ht,Go.MapKept.run_getObj_map hb,Go.MapKept.run_checkKey hk hkey,Go.MapKept.run_findKey hk h1,Result.andThen]
theorem KR (ht:P.underlying t=some (.map kt et)) (hk:P.underlying kt=some .string) (h:iy w b l) (hs:∀ p∈l,p.1≠s) {z:Value} (hz:∀ w,(zeroValue et).run P w=.ok z w):
  (Instr.lookup t (.map (some b)) (.string s) false).run P w=.ok z w:=by
 have hkey:IsKey .string (.string s):=trivial;have hb:w.heap[b]?=some (.map (ents l).toArray l.length):=h;rcases findNow_spec hkey (ents l).toArray.toList 0 (F8 l) with⟨h1,_⟩|⟨j,e,h1,h2,h3⟩
 ·simp[Instr.lookup,run_underlying ht,Go.MapKept.run_getObj_map hb,Go.MapKept.run_checkKey hk hkey,Go.MapKept.run_findKey hk h1,hz,Result.andThen]
 ·exfalso;have hm:e∈ents l:=by
   have:=xU h2;simpa using this
  obtain⟨i,s',v',q1,rfl⟩:=jD.1 hm;have:s'=s:=by simpa using h3
  exact hs (s',v') (xU q1) this
end
section
variable {P:Program} {w:World} {ops:Array Oper} {rest:List Oper} {o:Oper} {a:Act} {Q:Exit->Act->World->Prop} {t kt et:TypeId} {b:Nat} {l:List (ByteArray×Value)} {s:ByteArray}
end
end
section
set_option maxRecDepth 100000
open Go.RowKit Cw Cw.Gj
def NJ (f:Nat) (s:ByteArray) (mean low:Value) (w:World) (e:Ending) (w':World):Prop:=
 ∃ p,e=.returned (.agg #[.string s,.func (.func f) #[] #[.pointer (some ⟨p,0,none⟩)],low])/\w'.cell? ⟨p,0,none⟩=some mean/\w.heap.size<=p/\p<w'.heap.size/\ay w w'
def KT (g:Nat) (s:ByteArray) (mean low:Value) (w:World) (e:Ending) (w':World):Prop:=
 ∃ p q,e=.returned (.agg #[.string s,.func (.func 301) #[] #[.pointer (some ⟨p,0,none⟩)],low])/\w'.cell? ⟨p,0,none⟩=some (.func (.func g) #[] #[.pointer (some ⟨q,0,none⟩)])/\w'.cell? ⟨q,0,none⟩=some mean/\w.heap.size<=p/\p<w'.heap.size/\w.heap.size<=q/\q<w'.heap.size/\ay w w'
theorem bn (s:ByteArray) (fn:Fn) (fa fc:Array Value) (ln:Fn) (la lc:Array Value) (w:World):
  Calls Tryz.prog 204 #[.string s,.func fn fa fc,.func ln la lc] w (NJ 301 s (.func fn fa fc) (.func ln la lc) w):=by
 have hmf:∀ (fn:Fn) (first cap:Array Value) (w:World),(Instr.makeFunc fn first cap).run Tryz.prog w=.ok (.func fn first cap) w:=fun _ _ _ _=>rfl;have hk:ay w ((w.alloc (.cells #[.func fn fa fc] 256)).alloc (.cells #[.string s,.func (.func 301) #[] #[.pointer (some ⟨w.heap.size,0,none⟩)],(.func ln la lc)] 202)):=(ah _ _).tr (ah _ _);go_enter Tryz.func204,Tryz.ntmps204;go_wp2_with(fail)
 refine bodyPost_ret (dQ rfl rfl (je (aG _ [.string s,.func (.func 301) #[] #[.pointer (some ⟨w.heap.size,0,none⟩)],(.func ln la lc)] _ _ (by simp)))) rfl ⟨w.heap.size,rfl, ?_,zy _,by simp;omega,hk⟩;simp
theorem AO (s:ByteArray) (fn:Fn) (fa fc:Array Value) (w:World):
  Calls Tryz.prog 140 #[.string s,.func fn fa fc] w (NJ 198 s (.func fn fa fc) .nilFunc w):=by
 have hmf:∀ (fn:Fn) (first cap:Array Value) (w:World),(Instr.makeFunc fn first cap).run Tryz.prog w=.ok (.func fn first cap) w:=fun _ _ _ _=>rfl;have hk:ay w ((w.alloc (.cells #[.func fn fa fc] 207)).alloc (.cells #[.string s,.func (.func 198) #[] #[.pointer (some ⟨w.heap.size,0,none⟩)],.nilFunc] 202)):=(ah _ _).tr (ah _ _);go_enter Tryz.func140,Tryz.ntmps140;go_wp2_with(fail)
 refine bodyPost_ret (dQ rfl rfl (je (aG _ [.string s,.func (.func 198) #[] #[.pointer (some ⟨w.heap.size,0,none⟩)],.nilFunc] _ _ (by simp)))) rfl ⟨w.heap.size,rfl, ?_,zy _,by simp;omega,hk⟩;simp
theorem kV (fn:Fn) (fa fc:Array Value) (ln:Fn) (la lc:Array Value) (w:World):
  Calls Tryz.prog 200 #[.func fn fa fc,.func ln la lc] w (KT 299 ⟨#[70,78]⟩ (.func fn fa fc) (.func ln la lc) w):=by
 have hmf:∀ (fn:Fn) (first cap:Array Value) (w:World),(Instr.makeFunc fn first cap).run Tryz.prog w=.ok (.func fn first cap) w:=fun _ _ _ _=>rfl;obtain⟨W1,hW1⟩:∃ x,x=(w.alloc (.cells #[.func fn fa fc] 254)).alloc (.cells #[.string ⟨#[]⟩,.nilFunc,.nilFunc] 202):=⟨_,rfl⟩
 have hk1:ay w W1:=by rw[hW1];exact(ah _ _).tr (ah _ _)
 have hb0:Bk W1 w.heap.size [.func fn fa fc]:=by rw[hW1];exact(aG w [.func fn fa fc] _ _ rfl).kept (ah _ _)
 have hb1:Bk W1 (w.heap.size+1) [.string ⟨#[]⟩,.nilFunc,.nilFunc]:=by rw[hW1];exact aG _ [.string ⟨#[]⟩,.nilFunc,.nilFunc] _ _ (by simp)
 have hf1:Fz W1 (w.heap.size+1):=by rw[hW1];exact bD _ _ _ _ (by simp)
 have hz1:W1.heap.size=w.heap.size+1+1:=by rw[hW1];simp
 have HZ:=hid hz1;clear hz1;go_enter Tryz.func200,Tryz.ntmps200;go_wp2_with(fail)
 rw[<-hW1];clear hW1;refine(bn ⟨#[70,78]⟩ (.func 299) #[] #[.pointer (some ⟨w.heap.size,0,none⟩)] ln la lc W1).mono ?_;rintro e w2 ⟨p,rfl,cp,p1,p2,hk2⟩;have F9:=hb0.kept hk2;have hb2:=hb1.kept hk2;have hf2:=hf1.kept hk2;have x0:=hb2.2 0 _ rfl;have x1:=hb2.2 1 _ rfl;have x2:=hb2.2 2 _ rfl;have e0:=hf2.2 0;have e1:=hf2.2 1;have e2:=hf2.2 2;have hk12:=hk1.tr hk2;have hpz:p≠w.heap.size+1:=by have:=HZ.out;omega
 go_wp2_with(fail)
 refine bodyPost_ret (dQ rfl rfl (je (((hb2.set 0 _).set 1 _).set 2 _))) rfl ⟨p,w.heap.size,rfl, ?_, ?_, ?_, ?_,zy _, ?_, ?_⟩
 ·rw[aZ (aQ (aQ (aj w2 (w.heap.size+1) 0 _) 1 _) 2 _) p2 hpz];exact cp
 ·rw[aZ (aQ (aQ (aj w2 (w.heap.size+1) 0 _) 1 _) 2 _) F9.1 (by omega)];exact F9.2 0 _ rfl
 ·have:=HZ.out;omega
 ·simpa[World.setCell] using p2
 ·simpa[World.setCell] using F9.1
 ·exact aA _ (aA _ (aA _ hk12 (by omega)) (by omega)) (by omega)
theorem jO (fn:Fn) (fa fc:Array Value) (ln:Fn) (la lc:Array Value) (w:World):
  Calls Tryz.prog 237 #[.func fn fa fc,.func ln la lc] w (KT 318 ⟨#[67]⟩ (.func fn fa fc) (.func ln la lc) w):=by
 have hmf:∀ (fn:Fn) (first cap:Array Value) (w:World),(Instr.makeFunc fn first cap).run Tryz.prog w=.ok (.func fn first cap) w:=fun _ _ _ _=>rfl;obtain⟨W1,hW1⟩:∃ x,x=(w.alloc (.cells #[.func fn fa fc] 43)).alloc (.cells #[.string ⟨#[]⟩,.nilFunc,.nilFunc] 202):=⟨_,rfl⟩
 have hk1:ay w W1:=by rw[hW1];exact(ah _ _).tr (ah _ _)
 have hb0:Bk W1 w.heap.size [.func fn fa fc]:=by rw[hW1];exact(aG w [.func fn fa fc] _ _ rfl).kept (ah _ _)
 have hb1:Bk W1 (w.heap.size+1) [.string ⟨#[]⟩,.nilFunc,.nilFunc]:=by rw[hW1];exact aG _ [.string ⟨#[]⟩,.nilFunc,.nilFunc] _ _ (by simp)
 have hf1:Fz W1 (w.heap.size+1):=by rw[hW1];exact bD _ _ _ _ (by simp)
 have hz1:W1.heap.size=w.heap.size+1+1:=by rw[hW1];simp
 have HZ:=hid hz1;clear hz1;go_enter Tryz.func237,Tryz.ntmps237;go_wp2_with(fail)
 rw[<-hW1];clear hW1;refine(bn ⟨#[67]⟩ (.func 318) #[] #[.pointer (some ⟨w.heap.size,0,none⟩)] ln la lc W1).mono ?_;rintro e w2 ⟨p,rfl,cp,p1,p2,hk2⟩;have F9:=hb0.kept hk2;have hb2:=hb1.kept hk2;have hf2:=hf1.kept hk2;have x0:=hb2.2 0 _ rfl;have x1:=hb2.2 1 _ rfl;have x2:=hb2.2 2 _ rfl;have e0:=hf2.2 0;have e1:=hf2.2 1;have e2:=hf2.2 2;have hk12:=hk1.tr hk2;have hpz:p≠w.heap.size+1:=by have:=HZ.out;omega
 go_wp2_with(fail)
 refine bodyPost_ret (dQ rfl rfl (je (((hb2.set 0 _).set 1 _).set 2 _))) rfl ⟨p,w.heap.size,rfl, ?_, ?_, ?_, ?_,zy _, ?_, ?_⟩
 ·rw[aZ (aQ (aQ (aj w2 (w.heap.size+1) 0 _) 1 _) 2 _) p2 hpz];exact cp
 ·rw[aZ (aQ (aQ (aj w2 (w.heap.size+1) 0 _) 1 _) 2 _) F9.1 (by omega)];exact F9.2 0 _ rfl
 ·have:=HZ.out;omega
 ·simpa[World.setCell] using p2
 ·simpa[World.setCell] using F9.1
 ·exact aA _ (aA _ (aA _ hk12 (by omega)) (by omega)) (by omega)
theorem pF (fn:Fn) (fa fc:Array Value) (ln:Fn) (la lc:Array Value) (w:World):
  Calls Tryz.prog 240 #[.func fn fa fc,.func ln la lc] w (KT 319 ⟨#[67,76]⟩ (.func fn fa fc) (.func ln la lc) w):=by
 have hmf:∀ (fn:Fn) (first cap:Array Value) (w:World),(Instr.makeFunc fn first cap).run Tryz.prog w=.ok (.func fn first cap) w:=fun _ _ _ _=>rfl;obtain⟨W1,hW1⟩:∃ x,x=(w.alloc (.cells #[.func fn fa fc] 272)).alloc (.cells #[.string ⟨#[]⟩,.nilFunc,.nilFunc] 202):=⟨_,rfl⟩
 have hk1:ay w W1:=by rw[hW1];exact(ah _ _).tr (ah _ _)
 have hb0:Bk W1 w.heap.size [.func fn fa fc]:=by rw[hW1];exact(aG w [.func fn fa fc] _ _ rfl).kept (ah _ _)
 have hb1:Bk W1 (w.heap.size+1) [.string ⟨#[]⟩,.nilFunc,.nilFunc]:=by rw[hW1];exact aG _ [.string ⟨#[]⟩,.nilFunc,.nilFunc] _ _ (by simp)
 have hf1:Fz W1 (w.heap.size+1):=by rw[hW1];exact bD _ _ _ _ (by simp)
 have hz1:W1.heap.size=w.heap.size+1+1:=by rw[hW1];simp
 have HZ:=hid hz1;clear hz1;go_enter Tryz.func240,Tryz.ntmps240;go_wp2_with(fail)
 rw[<-hW1];clear hW1;refine(bn ⟨#[67,76]⟩ (.func 319) #[] #[.pointer (some ⟨w.heap.size,0,none⟩)] ln la lc W1).mono ?_;rintro e w2 ⟨p,rfl,cp,p1,p2,hk2⟩;have F9:=hb0.kept hk2;have hb2:=hb1.kept hk2;have hf2:=hf1.kept hk2;have x0:=hb2.2 0 _ rfl;have x1:=hb2.2 1 _ rfl;have x2:=hb2.2 2 _ rfl;have e0:=hf2.2 0;have e1:=hf2.2 1;have e2:=hf2.2 2;have hk12:=hk1.tr hk2;have hpz:p≠w.heap.size+1:=by have:=HZ.out;omega
 go_wp2_with(fail)
 refine bodyPost_ret (dQ rfl rfl (je (((hb2.set 0 _).set 1 _).set 2 _))) rfl ⟨p,w.heap.size,rfl, ?_, ?_, ?_, ?_,zy _, ?_, ?_⟩
 ·rw[aZ (aQ (aQ (aj w2 (w.heap.size+1) 0 _) 1 _) 2 _) p2 hpz];exact cp
 ·rw[aZ (aQ (aQ (aj w2 (w.heap.size+1) 0 _) 1 _) 2 _) F9.1 (by omega)];exact F9.2 0 _ rfl
 ·have:=HZ.out;omega
 ·simpa[World.setCell] using p2
 ·simpa[World.setCell] using F9.1
 ·exact aA _ (aA _ (aA _ hk12 (by omega)) (by omega)) (by omega)
theorem Gf (fn:Fn) (fa fc:Array Value) (ln:Fn) (la lc:Array Value) (w:World):
  Calls Tryz.prog 250 #[.func fn fa fc,.func ln la lc] w (KT 330 ⟨#[67,70]⟩ (.func fn fa fc) (.func ln la lc) w):=by
 have hmf:∀ (fn:Fn) (first cap:Array Value) (w:World),(Instr.makeFunc fn first cap).run Tryz.prog w=.ok (.func fn first cap) w:=fun _ _ _ _=>rfl;obtain⟨W1,hW1⟩:∃ x,x=(w.alloc (.cells #[.func fn fa fc] 274)).alloc (.cells #[.string ⟨#[]⟩,.nilFunc,.nilFunc] 202):=⟨_,rfl⟩
 have hk1:ay w W1:=by rw[hW1];exact(ah _ _).tr (ah _ _)
 have hb0:Bk W1 w.heap.size [.func fn fa fc]:=by rw[hW1];exact(aG w [.func fn fa fc] _ _ rfl).kept (ah _ _)
 have hb1:Bk W1 (w.heap.size+1) [.string ⟨#[]⟩,.nilFunc,.nilFunc]:=by rw[hW1];exact aG _ [.string ⟨#[]⟩,.nilFunc,.nilFunc] _ _ (by simp)
 have hf1:Fz W1 (w.heap.size+1):=by rw[hW1];exact bD _ _ _ _ (by simp)
 have hz1:W1.heap.size=w.heap.size+1+1:=by rw[hW1];simp
 have HZ:=hid hz1;clear hz1;go_enter Tryz.func250,Tryz.ntmps250;go_wp2_with(fail)
 rw[<-hW1];clear hW1;refine(bn ⟨#[67,70]⟩ (.func 330) #[] #[.pointer (some ⟨w.heap.size,0,none⟩)] ln la lc W1).mono ?_;rintro e w2 ⟨p,rfl,cp,p1,p2,hk2⟩;have F9:=hb0.kept hk2;have hb2:=hb1.kept hk2;have hf2:=hf1.kept hk2;have x0:=hb2.2 0 _ rfl;have x1:=hb2.2 1 _ rfl;have x2:=hb2.2 2 _ rfl;have e0:=hf2.2 0;have e1:=hf2.2 1;have e2:=hf2.2 2;have hk12:=hk1.tr hk2;have hpz:p≠w.heap.size+1:=by have:=HZ.out;omega
 go_wp2_with(fail)
 refine bodyPost_ret (dQ rfl rfl (je (((hb2.set 0 _).set 1 _).set 2 _))) rfl ⟨p,w.heap.size,rfl, ?_, ?_, ?_, ?_,zy _, ?_, ?_⟩
 ·rw[aZ (aQ (aQ (aj w2 (w.heap.size+1) 0 _) 1 _) 2 _) p2 hpz];exact cp
 ·rw[aZ (aQ (aQ (aj w2 (w.heap.size+1) 0 _) 1 _) 2 _) F9.1 (by omega)];exact F9.2 0 _ rfl
 ·have:=HZ.out;omega
 ·simpa[World.setCell] using p2
 ·simpa[World.setCell] using F9.1
 ·exact aA _ (aA _ (aA _ hk12 (by omega)) (by omega)) (by omega)
theorem two_any (fn:Fn) (fa fc:Array Value) (ln:Fn) (la lc:Array Value) (w:World):
  Calls Tryz.prog 257 #[.func fn fa fc,.func ln la lc] w (KT 334 ⟨#[67,67]⟩ (.func fn fa fc) (.func ln la lc) w):=by
 have hmf:∀ (fn:Fn) (first cap:Array Value) (w:World),(Instr.makeFunc fn first cap).run Tryz.prog w=.ok (.func fn first cap) w:=fun _ _ _ _=>rfl;obtain⟨W1,hW1⟩:∃ x,x=(w.alloc (.cells #[.func fn fa fc] 277)).alloc (.cells #[.string ⟨#[]⟩,.nilFunc,.nilFunc] 202):=⟨_,rfl⟩
 have hk1:ay w W1:=by rw[hW1];exact(ah _ _).tr (ah _ _)
 have hb0:Bk W1 w.heap.size [.func fn fa fc]:=by rw[hW1];exact(aG w [.func fn fa fc] _ _ rfl).kept (ah _ _)
 have hb1:Bk W1 (w.heap.size+1) [.string ⟨#[]⟩,.nilFunc,.nilFunc]:=by rw[hW1];exact aG _ [.string ⟨#[]⟩,.nilFunc,.nilFunc] _ _ (by simp)
 have hf1:Fz W1 (w.heap.size+1):=by rw[hW1];exact bD _ _ _ _ (by simp)
 have hz1:W1.heap.size=w.heap.size+1+1:=by rw[hW1];simp
 have HZ:=hid hz1;clear hz1;go_enter Tryz.func257,Tryz.ntmps257;go_wp2_with(fail)
 rw[<-hW1];clear hW1;refine(bn ⟨#[67,67]⟩ (.func 334) #[] #[.pointer (some ⟨w.heap.size,0,none⟩)] ln la lc W1).mono ?_;rintro e w2 ⟨p,rfl,cp,p1,p2,hk2⟩;have F9:=hb0.kept hk2;have hb2:=hb1.kept hk2;have hf2:=hf1.kept hk2;have x0:=hb2.2 0 _ rfl;have x1:=hb2.2 1 _ rfl;have x2:=hb2.2 2 _ rfl;have e0:=hf2.2 0;have e1:=hf2.2 1;have e2:=hf2.2 2;have hk12:=hk1.tr hk2;have hpz:p≠w.heap.size+1:=by have:=HZ.out;omega
 go_wp2_with(fail)
 refine bodyPost_ret (dQ rfl rfl (je (((hb2.set 0 _).set 1 _).set 2 _))) rfl ⟨p,w.heap.size,rfl, ?_, ?_, ?_, ?_,zy _, ?_, ?_⟩
 ·rw[aZ (aQ (aQ (aj w2 (w.heap.size+1) 0 _) 1 _) 2 _) p2 hpz];exact cp
 ·rw[aZ (aQ (aQ (aj w2 (w.heap.size+1) 0 _) 1 _) 2 _) F9.1 (by omega)];exact F9.2 0 _ rfl
 ·have:=HZ.out;omega
 ·simpa[World.setCell] using p2
 ·simpa[World.setCell] using F9.1
 ·exact aA _ (aA _ (aA _ hk12 (by omega)) (by omega)) (by omega)
def agN (v:Value):Prop:=∃ (s:ByteArray) (f1:Fn) (a1 c1:Array Value) (f2:Fn) (a2 c2:Array Value),v=.agg #[.string s,.func f1 a1 c1,.func f2 a2 c2]
theorem NJ.v {f:Nat} {s:ByteArray} {mean low:Value} {w w':World} {e:Ending} (h:NJ f s mean low w e w'):∃ V p,e=.returned V/\V=.agg #[.string s,.func (.func f) #[] #[.pointer (some ⟨p,0,none⟩)],low]/\w'.cell? ⟨p,0,none⟩=some mean/\w.heap.size<=p/\p<w'.heap.size/\ay w w':=by
 obtain⟨p,h1,h2⟩:=h;exact⟨_,p,h1,rfl,h2⟩
theorem KT.v {g:Nat} {s:ByteArray} {mean low:Value} {w w':World} {e:Ending} (h:KT g s mean low w e w'):∃ V p q,e=.returned V/\V=.agg #[.string s,.func (.func 301) #[] #[.pointer (some ⟨p,0,none⟩)],low]/\w'.cell? ⟨p,0,none⟩=some (.func (.func g) #[] #[.pointer (some ⟨q,0,none⟩)])/\w'.cell? ⟨q,0,none⟩=some mean/\w.heap.size<=p/\p<w'.heap.size/\w.heap.size<=q/\q<w'.heap.size/\ay w w':=by
 obtain⟨p,q,h1,h2⟩:=h;exact⟨_,p,q,h1,rfl,h2⟩
structure O9 (w0 w:World) (b:Nat) (ks:List ByteArray) (l:List (ByteArray×Value)):Prop where
 m:iy w b l
 ks:l.map (·.1)=ks
 rows:∀ p∈l,agN p.2
 k:ay w0 w
 nb:w0.heap.size<=b
theorem O9.kept {w0 w w':World} {b:Nat} {ks:List ByteArray} {l:List (ByteArray×Value)} (h:O9 w0 w b ks l) (k:ay w w'):O9 w0 w' b ks l:=⟨h.m.kept k,h.ks,h.rows,h.k.tr k,h.nb⟩
theorem O9.fresh {w0 w:World} {b:Nat} {ks:List ByteArray} {l:List (ByteArray×Value)} (h:O9 w0 w b ks l) {s:ByteArray} (hs:s ∉ ks):∀ p∈l,p.1≠s:=fun p hp e=>hs (by rw[<-h.ks,yY];exact⟨p,hp,e⟩)
theorem O9.ins {w0 w w':World} {b:Nat} {ks:List ByteArray} {l:List (ByteArray×Value)} (h:O9 w0 w b ks l) {s:ByteArray} {v:Value} (m:iy w' b (l++ [(s,v)])) (g:w.grownBy w' (some b)) (hv:agN v):O9 w0 w' b (ks++ [s]) (l++ [(s,v)]):=
 ⟨m,by rw[xq,h.ks];rfl,fun p hp=>by
  rcases yQ.1 hp with q|q
  ·exact h.rows p q
  ·rw[zH.1 q];exact hv,aH h.k g h.nb h.k.size,h.nb⟩
def XT (b:Nat) (v:Value) (w:World):Prop:=∃ p q,v=.agg #[.string ⟨#[70,78]⟩,.func (.func 301) #[] #[.pointer (some ⟨p,0,none⟩)],.func (.func 210) #[] #[]]/\
 w.cell? ⟨p,0,none⟩=some (.func (.func 299) #[] #[.pointer (some ⟨q,0,none⟩)])/\w.cell? ⟨q,0,none⟩=some (.func (.func 209) #[] #[])/\p<w.heap.size/\q<w.heap.size/\p≠b/\q≠b/\b<=p/\b<=q
theorem XT.kept {b:Nat} {v:Value} {w w':World} (h:XT b v w) (k:ay w w'):XT b v w':=by
 obtain⟨p,q,h1,h2,h3,h4,h5,h6⟩:=h;exact⟨p,q,h1,(k.cell' h4).trans h2,(k.cell' h5).trans h3,k.lt h4,k.lt h5,h6⟩
theorem XT.gb {b:Nat} {v:Value} {w w':World} (h:XT b v w) (g:w.grownBy w' (some b)):XT b v w':=by
 obtain⟨p,q,h1,h2,h3,h4,h5,h6,h7,h8⟩:=h;exact⟨p,q,h1,by rw[aZ g h4 h6];exact h2,by rw[aZ g h5 h7];exact h3,zZ h4 g.size,zZ h5 g.size,h6,h7,h8⟩
def NK (ks:List ByteArray) (H:Nat->List (ByteArray×Value)->World->Prop) (w:World) (e:Ending) (w':World):Prop:=
 ∃ b l,e=.returned (.map (some b))/\O9 w w' b ks l/\H b l w'
def iV:ByteArray:=⟨#[104,97,109,109,105,110,103]⟩
def ahQ (b:Nat) (l:List (ByteArray×Value)) (w:World):Prop:=∃ v,(iV,v)∈l/\XT b v w
def eH:List ByteArray:=[⟨#[122,101,114,111]⟩,⟨#[119,104,111,108,101]⟩,⟨#[109,97,116,114,105,120]⟩,⟨#[114,101,112]⟩,⟨#[112,97,114,105,116,121]⟩,⟨#[104,97,109,109,105,110,103]⟩,⟨#[115,105,109,112,108,101,120]⟩,⟨#[114,109]⟩,⟨#[114,101,115,105,100,117,101]⟩,⟨#[103,111,108,97,121]⟩]
theorem I5 (w:World):Calls Tryz.prog 144 #[] w (NK eH ahQ w):=by
 have hmm:=@run_makeMap Tryz.prog;have hmf:∀ (fn:Fn) (first cap:Array Value) (w:World),(Instr.makeFunc fn first cap).run Tryz.prog w=.ok (.func fn first cap) w:=fun _ _ _ _=>rfl;have f0:O9 w (w.alloc (.map #[] 0)) w.heap.size [] []:=⟨oG _ _ rfl,rfl,fun p hp=>(by cases hp),ah _ _,zy _⟩
 go_enter Tryz.func144,Tryz.ntmps144;go_wp2_with(fail)
 refine(kV _ _ _ _ _ _ _).mono ?_;intro e v1 h;obtain⟨V1,p1,q1,rfl,hV1,c1,d1,l1,m1,n1,r1,k1⟩:=h.v;have g1:=f0.kept k1;obtain⟨w1,x1,i1,j1⟩:=bg Tryz.underlying209 Tryz.underlying9 g1.m (s:=⟨#[122,101,114,111]⟩) (g1.fresh (by simp)) V1;have f1:=g1.ins i1 j1 ⟨_,_,_,_,_,_,_,hV1⟩;clear f0 g1 i1 j1 hV1;go_wp2_with(fail)
 clear x1;refine(kV _ _ _ _ _ _ _).mono ?_;intro e v2 h;obtain⟨V2,p2,q2,rfl,hV2,c2,d2,l2,m2,n2,r2,k2⟩:=h.v;have g2:=f1.kept k2;obtain⟨w2,x2,i2,j2⟩:=bg Tryz.underlying209 Tryz.underlying9 g2.m (s:=⟨#[119,104,111,108,101]⟩) (g2.fresh (by simp)) V2;have f2:=g2.ins i2 j2 ⟨_,_,_,_,_,_,_,hV2⟩;clear f1 g2 i2 j2 hV2;go_wp2_with(fail)
 clear x2;refine(bn _ _ _ _ _ _ _ _).mono ?_;intro e v3 h;obtain⟨V3,p3,rfl,hV3,c3,l3,m3,k3⟩:=h.v;have g3:=f2.kept k3;obtain⟨w3,x3,i3,j3⟩:=bg Tryz.underlying209 Tryz.underlying9 g3.m (s:=⟨#[109,97,116,114,105,120]⟩) (g3.fresh (by simp)) V3;have f3:=g3.ins i3 j3 ⟨_,_,_,_,_,_,_,hV3⟩;clear f2 g3 i3 j3 hV3;go_wp2_with(fail)
 clear x3;refine(kV _ _ _ _ _ _ _).mono ?_;intro e v4 h;obtain⟨V4,p4,q4,rfl,hV4,c4,d4,l4,m4,n4,r4,k4⟩:=h.v;have g4:=f3.kept k4;obtain⟨w4,x4,i4,j4⟩:=bg Tryz.underlying209 Tryz.underlying9 g4.m (s:=⟨#[114,101,112]⟩) (g4.fresh (by simp)) V4;have f4:=g4.ins i4 j4 ⟨_,_,_,_,_,_,_,hV4⟩;clear f3 g4 i4 j4 hV4;go_wp2_with(fail)
 clear x4;refine(kV _ _ _ _ _ _ _).mono ?_;intro e v5 h;obtain⟨V5,p5,q5,rfl,hV5,c5,d5,l5,m5,n5,r5,k5⟩:=h.v;have g5:=f4.kept k5;obtain⟨w5,x5,i5,j5⟩:=bg Tryz.underlying209 Tryz.underlying9 g5.m (s:=⟨#[112,97,114,105,116,121]⟩) (g5.fresh (by simp)) V5;have f5:=g5.ins i5 j5 ⟨_,_,_,_,_,_,_,hV5⟩;clear f4 g5 i5 j5 hV5;go_wp2_with(fail)
 clear x5;refine(kV _ _ _ _ _ _ _).mono ?_;intro e v6 h;obtain⟨V6,p6,q6,rfl,hV6,c6,d6,l6,m6,n6,r6,k6⟩:=h.v;have g6:=f5.kept k6;obtain⟨w6,x6,i6,j6⟩:=bg Tryz.underlying209 Tryz.underlying9 g6.m (s:=⟨#[104,97,109,109,105,110,103]⟩) (g6.fresh (by simp)) V6;have f6:=g6.ins i6 j6 ⟨_,_,_,_,_,_,_,hV6⟩;have hw6:XT w.heap.size V6 w6:=XT.gb ⟨p6,q6,hV6,c6,d6,m6,r6,by have:=f5.m.lt;omega,by have:=f5.m.lt;omega,by have:=f5.m.lt;omega,by have:=f5.m.lt;omega⟩ j6;clear f5 g6 i6 j6 hV6;go_wp2_with(fail)
 clear x6;refine(kV _ _ _ _ _ _ _).mono ?_;intro e v7 h;obtain⟨V7,p7,q7,rfl,hV7,c7,d7,l7,m7,n7,r7,k7⟩:=h.v;have g7:=f6.kept k7;have hv7:=hw6.kept k7;obtain⟨w7,x7,i7,j7⟩:=bg Tryz.underlying209 Tryz.underlying9 g7.m (s:=⟨#[115,105,109,112,108,101,120]⟩) (g7.fresh (by simp)) V7;have f7:=g7.ins i7 j7 ⟨_,_,_,_,_,_,_,hV7⟩;have hw7:=hv7.gb j7;clear hv7 hw6;clear f6 g7 i7 j7 hV7;go_wp2_with(fail)
 clear x7;refine(bn _ _ _ _ _ _ _ _).mono ?_;intro e v8 h;obtain⟨V8,p8,rfl,hV8,c8,l8,m8,k8⟩:=h.v;have g8:=f7.kept k8;have hv8:=hw7.kept k8;obtain⟨w8,x8,i8,j8⟩:=bg Tryz.underlying209 Tryz.underlying9 g8.m (s:=⟨#[114,109]⟩) (g8.fresh (by simp)) V8;have f8:=g8.ins i8 j8 ⟨_,_,_,_,_,_,_,hV8⟩;have hw8:=hv8.gb j8;clear hv8 hw7;clear f7 g8 i8 j8 hV8;go_wp2_with(fail)
 clear x8;refine(bn _ _ _ _ _ _ _ _).mono ?_;intro e v9 h;obtain⟨V9,p9,rfl,hV9,c9,l9,m9,k9⟩:=h.v;have g9:=f8.kept k9;have hv9:=hw8.kept k9;obtain⟨w9,x9,i9,j9⟩:=bg Tryz.underlying209 Tryz.underlying9 g9.m (s:=⟨#[114,101,115,105,100,117,101]⟩) (g9.fresh (by simp)) V9;have f9:=g9.ins i9 j9 ⟨_,_,_,_,_,_,_,hV9⟩;have hw9:=hv9.gb j9;clear hv9 hw8;clear f8 g9 i9 j9 hV9;go_wp2_with(fail)
 clear x9;refine(bn _ _ _ _ _ _ _ _).mono ?_;intro e v10 h;obtain⟨V10,p10,rfl,aff,c10,l10,m10,k10⟩:=h.v;have g10:=f9.kept k10;have ajA:=hw9.kept k10;obtain⟨w10,x10,i10,j10⟩:=bg Tryz.underlying209 Tryz.underlying9 g10.m (s:=⟨#[103,111,108,97,121]⟩) (g10.fresh (by simp)) V10;have f10:=g10.ins i10 j10 ⟨_,_,_,_,_,_,_,aff⟩;have alm:=ajA.gb j10;clear ajA hw9;clear f9 g10 i10 j10 aff;go_wp2_with(fail)
 clear x10;go_ret;exact⟨_,_,rfl,f10,⟨_,by simp[iV],alm⟩⟩
def fV:List ByteArray:=[⟨#[99,121,99,108,105,99]⟩,⟨#[98,99,104]⟩,⟨#[114,115]⟩,⟨#[103,114,115]⟩,⟨#[97,108,116,101,114,110,97,110,116]⟩,⟨#[103,111,112,112,97]⟩]
theorem Gg (w:World):Calls Tryz.prog 145 #[] w (NK fV (fun _ _ _=>True) w):=by
 have hmm:=@run_makeMap Tryz.prog;have hmf:∀ (fn:Fn) (first cap:Array Value) (w:World),(Instr.makeFunc fn first cap).run Tryz.prog w=.ok (.func fn first cap) w:=fun _ _ _ _=>rfl;have f0:O9 w ((w.alloc (.cells #[.func (.func 220) #[] #[]] 261)).alloc (.map #[] 0)) (w.heap.size+1) [] []:=⟨oG _ _ (by simp),rfl,fun p hp=>(by cases hp),(ah _ _).tr (ah _ _),by omega⟩
 go_enter Tryz.func145,Tryz.ntmps145;go_wp2_with(fail)
 refine(bn _ _ _ _ _ _ _ _).mono ?_;intro e v1 h;obtain⟨V1,p1,rfl,hV1,c1,l1,m1,k1⟩:=h.v;have g1:=f0.kept k1;obtain⟨w1,x1,i1,j1⟩:=bg Tryz.underlying209 Tryz.underlying9 g1.m (s:=⟨#[99,121,99,108,105,99]⟩) (g1.fresh (by simp)) V1;have f1:=g1.ins i1 j1 ⟨_,_,_,_,_,_,_,hV1⟩;clear f0 g1 i1 j1 hV1;go_wp2_with(fail)
 clear x1;refine(bn _ _ _ _ _ _ _ _).mono ?_;intro e v2 h;obtain⟨V2,p2,rfl,hV2,c2,l2,m2,k2⟩:=h.v;have g2:=f1.kept k2;obtain⟨w2,x2,i2,j2⟩:=bg Tryz.underlying209 Tryz.underlying9 g2.m (s:=⟨#[98,99,104]⟩) (g2.fresh (by simp)) V2;have f2:=g2.ins i2 j2 ⟨_,_,_,_,_,_,_,hV2⟩;clear f1 g2 i2 j2 hV2;go_wp2_with(fail)
 clear x2;refine(bn _ _ _ _ _ _ _ _).mono ?_;intro e v3 h;obtain⟨V3,p3,rfl,hV3,c3,l3,m3,k3⟩:=h.v;have g3:=f2.kept k3;obtain⟨w3,x3,i3,j3⟩:=bg Tryz.underlying209 Tryz.underlying9 g3.m (s:=⟨#[114,115]⟩) (g3.fresh (by simp)) V3;have f3:=g3.ins i3 j3 ⟨_,_,_,_,_,_,_,hV3⟩;clear f2 g3 i3 j3 hV3;go_wp2_with(fail)
 clear x3;refine(bn _ _ _ _ _ _ _ _).mono ?_;intro e v4 h;obtain⟨V4,p4,rfl,hV4,c4,l4,m4,k4⟩:=h.v;have g4:=f3.kept k4;obtain⟨w4,x4,i4,j4⟩:=bg Tryz.underlying209 Tryz.underlying9 g4.m (s:=⟨#[103,114,115]⟩) (g4.fresh (by simp)) V4;have f4:=g4.ins i4 j4 ⟨_,_,_,_,_,_,_,hV4⟩;clear f3 g4 i4 j4 hV4;go_wp2_with(fail)
 clear x4;refine(bn _ _ _ _ _ _ _ _).mono ?_;intro e v5 h;obtain⟨V5,p5,rfl,hV5,c5,l5,m5,k5⟩:=h.v;have g5:=f4.kept k5;obtain⟨w5,x5,i5,j5⟩:=bg Tryz.underlying209 Tryz.underlying9 g5.m (s:=⟨#[97,108,116,101,114,110,97,110,116]⟩) (g5.fresh (by simp)) V5;have f5:=g5.ins i5 j5 ⟨_,_,_,_,_,_,_,hV5⟩;clear f4 g5 i5 j5 hV5;go_wp2_with(fail)
 clear x5;refine(bn _ _ _ _ _ _ _ _).mono ?_;intro e v6 h;obtain⟨V6,p6,rfl,hV6,c6,l6,m6,k6⟩:=h.v;have g6:=f5.kept k6;obtain⟨w6,x6,i6,j6⟩:=bg Tryz.underlying209 Tryz.underlying9 g6.m (s:=⟨#[103,111,112,112,97]⟩) (g6.fresh (by simp)) V6;have f6:=g6.ins i6 j6 ⟨_,_,_,_,_,_,_,hV6⟩;clear f5 g6 i6 j6 hV6;go_wp2_with(fail)
 clear x6;go_ret;exact⟨_,_,rfl,f6,trivial⟩
def jf:List ByteArray:=[⟨#[100,117,97,108]⟩,⟨#[104,117,108,108]⟩,⟨#[112,117,110,99,116,117,114,101]⟩,⟨#[115,104,111,114,116,101,110]⟩,⟨#[115,117,98,99,111,100,101]⟩,⟨#[112,101,114,109,117,116,101]⟩,⟨#[101,120,112,117,114,103,97,116,101]⟩,⟨#[97,117,103,109,101,110,116]⟩,⟨#[101,120,116,101,110,100]⟩,⟨#[115,117,98,102,105,101,108,100]⟩,⟨#[116,114,97,99,101]⟩,⟨#[108,105,102,116]⟩,⟨#[105,110,116,101,114,108,101,97,118,101]⟩]
theorem I7 (w:World):Calls Tryz.prog 146 #[] w (NK jf (fun _ _ _=>True) w):=by
 have hmm:=@run_makeMap Tryz.prog;have hmf:∀ (fn:Fn) (first cap:Array Value) (w:World),(Instr.makeFunc fn first cap).run Tryz.prog w=.ok (.func fn first cap) w:=fun _ _ _ _=>rfl;have f0:O9 w (w.alloc (.map #[] 0)) w.heap.size [] []:=⟨oG _ _ rfl,rfl,fun p hp=>(by cases hp),ah _ _,zy _⟩
 go_enter Tryz.func146,Tryz.ntmps146;go_wp2_with(fail)
 refine(jO _ _ _ _ _ _ _).mono ?_;intro e v1 h;obtain⟨V1,p1,q1,rfl,hV1,c1,d1,l1,m1,n1,r1,k1⟩:=h.v;have g1:=f0.kept k1;obtain⟨w1,x1,i1,j1⟩:=bg Tryz.underlying209 Tryz.underlying9 g1.m (s:=⟨#[100,117,97,108]⟩) (g1.fresh (by simp)) V1;have f1:=g1.ins i1 j1 ⟨_,_,_,_,_,_,_,hV1⟩;clear f0 g1 i1 j1 hV1;go_wp2_with(fail)
 clear x1;refine(jO _ _ _ _ _ _ _).mono ?_;intro e v2 h;obtain⟨V2,p2,q2,rfl,hV2,c2,d2,l2,m2,n2,r2,k2⟩:=h.v;have g2:=f1.kept k2;obtain⟨w2,x2,i2,j2⟩:=bg Tryz.underlying209 Tryz.underlying9 g2.m (s:=⟨#[104,117,108,108]⟩) (g2.fresh (by simp)) V2;have f2:=g2.ins i2 j2 ⟨_,_,_,_,_,_,_,hV2⟩;clear f1 g2 i2 j2 hV2;go_wp2_with(fail)
 clear x2;refine(pF _ _ _ _ _ _ _).mono ?_;intro e v3 h;obtain⟨V3,p3,q3,rfl,hV3,c3,d3,l3,m3,n3,r3,k3⟩:=h.v;have g3:=f2.kept k3;obtain⟨w3,x3,i3,j3⟩:=bg Tryz.underlying209 Tryz.underlying9 g3.m (s:=⟨#[112,117,110,99,116,117,114,101]⟩) (g3.fresh (by simp)) V3;have f3:=g3.ins i3 j3 ⟨_,_,_,_,_,_,_,hV3⟩;clear f2 g3 i3 j3 hV3;go_wp2_with(fail)
 clear x3;refine(pF _ _ _ _ _ _ _).mono ?_;intro e v4 h;obtain⟨V4,p4,q4,rfl,hV4,c4,d4,l4,m4,n4,r4,k4⟩:=h.v;have g4:=f3.kept k4;obtain⟨w4,x4,i4,j4⟩:=bg Tryz.underlying209 Tryz.underlying9 g4.m (s:=⟨#[115,104,111,114,116,101,110]⟩) (g4.fresh (by simp)) V4;have f4:=g4.ins i4 j4 ⟨_,_,_,_,_,_,_,hV4⟩;clear f3 g4 i4 j4 hV4;go_wp2_with(fail)
 clear x4;refine(pF _ _ _ _ _ _ _).mono ?_;intro e v5 h;obtain⟨V5,p5,q5,rfl,hV5,c5,d5,l5,m5,n5,r5,k5⟩:=h.v;have g5:=f4.kept k5;obtain⟨w5,x5,i5,j5⟩:=bg Tryz.underlying209 Tryz.underlying9 g5.m (s:=⟨#[115,117,98,99,111,100,101]⟩) (g5.fresh (by simp)) V5;have f5:=g5.ins i5 j5 ⟨_,_,_,_,_,_,_,hV5⟩;clear f4 g5 i5 j5 hV5;go_wp2_with(fail)
 clear x5;refine(pF _ _ _ _ _ _ _).mono ?_;intro e v6 h;obtain⟨V6,p6,q6,rfl,hV6,c6,d6,l6,m6,n6,r6,k6⟩:=h.v;have g6:=f5.kept k6;obtain⟨w6,x6,i6,j6⟩:=bg Tryz.underlying209 Tryz.underlying9 g6.m (s:=⟨#[112,101,114,109,117,116,101]⟩) (g6.fresh (by simp)) V6;have f6:=g6.ins i6 j6 ⟨_,_,_,_,_,_,_,hV6⟩;clear f5 g6 i6 j6 hV6;go_wp2_with(fail)
 clear x6;refine(jO _ _ _ _ _ _ _).mono ?_;intro e v7 h;obtain⟨V7,p7,q7,rfl,hV7,c7,d7,l7,m7,n7,r7,k7⟩:=h.v;have g7:=f6.kept k7;obtain⟨w7,x7,i7,j7⟩:=bg Tryz.underlying209 Tryz.underlying9 g7.m (s:=⟨#[101,120,112,117,114,103,97,116,101]⟩) (g7.fresh (by simp)) V7;have f7:=g7.ins i7 j7 ⟨_,_,_,_,_,_,_,hV7⟩;clear f6 g7 i7 j7 hV7;go_wp2_with(fail)
 clear x7;refine(jO _ _ _ _ _ _ _).mono ?_;intro e v8 h;obtain⟨V8,p8,q8,rfl,hV8,c8,d8,l8,m8,n8,r8,k8⟩:=h.v;have g8:=f7.kept k8;obtain⟨w8,x8,i8,j8⟩:=bg Tryz.underlying209 Tryz.underlying9 g8.m (s:=⟨#[97,117,103,109,101,110,116]⟩) (g8.fresh (by simp)) V8;have f8:=g8.ins i8 j8 ⟨_,_,_,_,_,_,_,hV8⟩;clear f7 g8 i8 j8 hV8;go_wp2_with(fail)
 clear x8;refine(jO _ _ _ _ _ _ _).mono ?_;intro e v9 h;obtain⟨V9,p9,q9,rfl,hV9,c9,d9,l9,m9,n9,r9,k9⟩:=h.v;have g9:=f8.kept k9;obtain⟨w9,x9,i9,j9⟩:=bg Tryz.underlying209 Tryz.underlying9 g9.m (s:=⟨#[101,120,116,101,110,100]⟩) (g9.fresh (by simp)) V9;have f9:=g9.ins i9 j9 ⟨_,_,_,_,_,_,_,hV9⟩;clear f8 g9 i9 j9 hV9;go_wp2_with(fail)
 clear x9;refine(Gf _ _ _ _ _ _ _).mono ?_;intro e v10 h;obtain⟨V10,p10,q10,rfl,aff,c10,d10,l10,m10,n10,r10,k10⟩:=h.v;have g10:=f9.kept k10;obtain⟨w10,x10,i10,j10⟩:=bg Tryz.underlying209 Tryz.underlying9 g10.m (s:=⟨#[115,117,98,102,105,101,108,100]⟩) (g10.fresh (by simp)) V10;have f10:=g10.ins i10 j10 ⟨_,_,_,_,_,_,_,aff⟩;clear f9 g10 i10 j10 aff;go_wp2_with(fail)
 clear x10;refine(Gf _ _ _ _ _ _ _).mono ?_;intro e v11 h;obtain⟨V11,p11,q11,rfl,ajB,c11,d11,l11,m11,n11,r11,k11⟩:=h.v;have g11:=f10.kept k11;obtain⟨w11,x11,i11,j11⟩:=bg Tryz.underlying209 Tryz.underlying9 g11.m (s:=⟨#[116,114,97,99,101]⟩) (g11.fresh (by simp)) V11;have f11:=g11.ins i11 j11 ⟨_,_,_,_,_,_,_,ajB⟩;clear f10 g11 i11 j11 ajB;go_wp2_with(fail)
 clear x11;refine(Gf _ _ _ _ _ _ _).mono ?_;intro e v12 h;obtain⟨V12,p12,q12,rfl,ajC,c12,d12,l12,m12,n12,r12,k12⟩:=h.v;have g12:=f11.kept k12;obtain⟨w12,x12,i12,j12⟩:=bg Tryz.underlying209 Tryz.underlying9 g12.m (s:=⟨#[108,105,102,116]⟩) (g12.fresh (by simp)) V12;have f12:=g12.ins i12 j12 ⟨_,_,_,_,_,_,_,ajC⟩;clear f11 g12 i12 j12 ajC;go_wp2_with(fail)
 clear x12;refine(bn _ _ _ _ _ _ _ _).mono ?_;intro e v13 h;obtain⟨V13,p13,rfl,ajD,c13,l13,m13,k13⟩:=h.v;have g13:=f12.kept k13;obtain⟨w13,x13,i13,j13⟩:=bg Tryz.underlying209 Tryz.underlying9 g13.m (s:=⟨#[105,110,116,101,114,108,101,97,118,101]⟩) (g13.fresh (by simp)) V13;have f13:=g13.ins i13 j13 ⟨_,_,_,_,_,_,_,ajD⟩;clear f12 g13 i13 j13 ajD;go_wp2_with(fail)
 clear x13;go_ret;exact⟨_,_,rfl,f13,trivial⟩
def jY:List ByteArray:=[⟨#[106,111,105,110]⟩,⟨#[109,101,101,116]⟩,⟨#[115,117,109]⟩,⟨#[112,108,111,116,107,105,110]⟩,⟨#[106,117,120,116,97,112,111,115,101]⟩,⟨#[112,114,111,100,117,99,116]⟩,⟨#[99,111,110,99,97,116]⟩,⟨#[120]⟩]
theorem I8 (w:World):Calls Tryz.prog 147 #[] w (NK jY (fun _ _ _=>True) w):=by
 have hmm:=@run_makeMap Tryz.prog;have hmf:∀ (fn:Fn) (first cap:Array Value) (w:World),(Instr.makeFunc fn first cap).run Tryz.prog w=.ok (.func fn first cap) w:=fun _ _ _ _=>rfl;have f0:O9 w (w.alloc (.map #[] 0)) w.heap.size [] []:=⟨oG _ _ rfl,rfl,fun p hp=>(by cases hp),ah _ _,zy _⟩
 go_enter Tryz.func147,Tryz.ntmps147;go_wp2_with(fail)
 refine(two_any _ _ _ _ _ _ _).mono ?_;intro e v1 h;obtain⟨V1,p1,q1,rfl,hV1,c1,d1,l1,m1,n1,r1,k1⟩:=h.v;have g1:=f0.kept k1;obtain⟨w1,x1,i1,j1⟩:=bg Tryz.underlying209 Tryz.underlying9 g1.m (s:=⟨#[106,111,105,110]⟩) (g1.fresh (by simp)) V1;have f1:=g1.ins i1 j1 ⟨_,_,_,_,_,_,_,hV1⟩;clear f0 g1 i1 j1 hV1;go_wp2_with(fail)
 clear x1;refine(two_any _ _ _ _ _ _ _).mono ?_;intro e v2 h;obtain⟨V2,p2,q2,rfl,hV2,c2,d2,l2,m2,n2,r2,k2⟩:=h.v;have g2:=f1.kept k2;obtain⟨w2,x2,i2,j2⟩:=bg Tryz.underlying209 Tryz.underlying9 g2.m (s:=⟨#[109,101,101,116]⟩) (g2.fresh (by simp)) V2;have f2:=g2.ins i2 j2 ⟨_,_,_,_,_,_,_,hV2⟩;clear f1 g2 i2 j2 hV2;go_wp2_with(fail)
 clear x2;refine(two_any _ _ _ _ _ _ _).mono ?_;intro e v3 h;obtain⟨V3,p3,q3,rfl,hV3,c3,d3,l3,m3,n3,r3,k3⟩:=h.v;have g3:=f2.kept k3;obtain⟨w3,x3,i3,j3⟩:=bg Tryz.underlying209 Tryz.underlying9 g3.m (s:=⟨#[115,117,109]⟩) (g3.fresh (by simp)) V3;have f3:=g3.ins i3 j3 ⟨_,_,_,_,_,_,_,hV3⟩;clear f2 g3 i3 j3 hV3;go_wp2_with(fail)
 clear x3;refine(two_any _ _ _ _ _ _ _).mono ?_;intro e v4 h;obtain⟨V4,p4,q4,rfl,hV4,c4,d4,l4,m4,n4,r4,k4⟩:=h.v;have g4:=f3.kept k4;obtain⟨w4,x4,i4,j4⟩:=bg Tryz.underlying209 Tryz.underlying9 g4.m (s:=⟨#[112,108,111,116,107,105,110]⟩) (g4.fresh (by simp)) V4;have f4:=g4.ins i4 j4 ⟨_,_,_,_,_,_,_,hV4⟩;clear f3 g4 i4 j4 hV4;go_wp2_with(fail)
 clear x4;refine(two_any _ _ _ _ _ _ _).mono ?_;intro e v5 h;obtain⟨V5,p5,q5,rfl,hV5,c5,d5,l5,m5,n5,r5,k5⟩:=h.v;have g5:=f4.kept k5;obtain⟨w5,x5,i5,j5⟩:=bg Tryz.underlying209 Tryz.underlying9 g5.m (s:=⟨#[106,117,120,116,97,112,111,115,101]⟩) (g5.fresh (by simp)) V5;have f5:=g5.ins i5 j5 ⟨_,_,_,_,_,_,_,hV5⟩;clear f4 g5 i5 j5 hV5;go_wp2_with(fail)
 clear x5;refine(two_any _ _ _ _ _ _ _).mono ?_;intro e v6 h;obtain⟨V6,p6,q6,rfl,hV6,c6,d6,l6,m6,n6,r6,k6⟩:=h.v;have g6:=f5.kept k6;obtain⟨w6,x6,i6,j6⟩:=bg Tryz.underlying209 Tryz.underlying9 g6.m (s:=⟨#[112,114,111,100,117,99,116]⟩) (g6.fresh (by simp)) V6;have f6:=g6.ins i6 j6 ⟨_,_,_,_,_,_,_,hV6⟩;clear f5 g6 i6 j6 hV6;go_wp2_with(fail)
 clear x6;refine(bn _ _ _ _ _ _ _ _).mono ?_;intro e v7 h;obtain⟨V7,p7,rfl,hV7,c7,l7,m7,k7⟩:=h.v;have g7:=f6.kept k7;obtain⟨w7,x7,i7,j7⟩:=bg Tryz.underlying209 Tryz.underlying9 g7.m (s:=⟨#[99,111,110,99,97,116]⟩) (g7.fresh (by simp)) V7;have f7:=g7.ins i7 j7 ⟨_,_,_,_,_,_,_,hV7⟩;clear f6 g7 i7 j7 hV7;go_wp2_with(fail)
 clear x7;refine(bn _ _ _ _ _ _ _ _).mono ?_;intro e v8 h;obtain⟨V8,p8,rfl,hV8,c8,l8,m8,k8⟩:=h.v;have g8:=f7.kept k8;obtain⟨w8,x8,i8,j8⟩:=bg Tryz.underlying209 Tryz.underlying9 g8.m (s:=⟨#[120]⟩) (g8.fresh (by simp)) V8;have f8:=g8.ins i8 j8 ⟨_,_,_,_,_,_,_,hV8⟩;clear f7 g8 i8 j8 hV8;go_wp2_with(fail)
 clear x8;go_ret;exact⟨_,_,rfl,f8,trivial⟩
end
end Go.Proofs.YtoilbeadokallaaGreatDoor
