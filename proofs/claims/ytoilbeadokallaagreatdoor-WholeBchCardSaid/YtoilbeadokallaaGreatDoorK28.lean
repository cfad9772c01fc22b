/- Lemmas on the way to the row. Conditions: each lemma's own, stated with it. -/
import Derived.Test.YtoilbeadokallaaGreatDoorK08
import Derived.Test.YtoilbeadokallaaGreatDoorK11
import Derived.Test.YtoilbeadokallaaGreatDoorK15
import Derived.Test.YtoilbeadokallaaGreatDoorK25
import Derived.Test.YtoilbeadokallaaGreatDoorK26
import Derived.Test.YtoilbeadokallaaGreatDoorK27
import Derived.Laws.EntriesVeiled
import Derived.Sort.OwnSorted
set_option maxHeartbeats 4000000
namespace Go.Proofs.YtoilbeadokallaaGreatDoor
section
open Go.RowKit Cw Cw.Gj
theorem Uf.gf {t:Nat} {w:World} (h:Uf t w):∃ A p1 p2:Nat,Bk w A [.string ⟨#[78]⟩,.func (.func 198) #[] #[.pointer (some ⟨p1,0,none⟩)],.nilFunc,.string ⟨#[78,78,76]⟩,.func (.func 198) #[] #[.pointer (some ⟨p2,0,none⟩)],.nilFunc]/\w.cell? ⟨p1,0,none⟩=some (.func (.func 141) #[] #[])/\p1<w.heap.size/\
  ∀ w',ay w w'->(Instr.lookup 147 (.map (some t)) (.string sGf) false).run Tryz.prog w'=.ok (.slice (some ⟨A,0,none⟩) 2 2) w':=by
 obtain⟨l,h1,h2,⟨A,p1,p2,h3,h4,h5,h6⟩,_⟩:=h;exact⟨A,p1,p2,h4,h5,h6,fun w' k=>NI Tryz.underlying147 Tryz.underlying9 (h1.kept k) h3 (fun v' hv=>Jc h2 h3 hv)⟩
theorem Uf.ham {t:Nat} {w:World} (h:Uf t w):∃ A c p q:Nat,Bk w A [.string ⟨#[70,78]⟩,.func (.func 301) #[] #[.pointer (some ⟨p,0,none⟩)],.func (.func 210) #[] #[]]/\
  w.cell? ⟨p,0,none⟩=some (.func (.func 299) #[] #[.pointer (some ⟨q,0,none⟩)])/\w.cell? ⟨q,0,none⟩=some (.func (.func 209) #[] #[])/\p<w.heap.size/\q<w.heap.size/\
  ∀ w',ay w w'->(Instr.lookup 147 (.map (some t)) (.string kX) false).run Tryz.prog w'=.ok (.slice (some ⟨A,0,none⟩) 1 c) w':=by
 obtain⟨l,h1,h2,_,⟨A,c,p,q,g1,g2,g3,g4,g5,g6⟩⟩:=h;exact⟨A,c,p,q,g2,g3,g4,g5,g6,fun w' k=>NI Tryz.underlying147 Tryz.underlying9 (h1.kept k) g1 (fun v' hv=>Jc h2 g1 hv)⟩
theorem Pz (t g cap:Nat) (w:World) (hT:Uf t w) (hE:Bk w g (Di 2)):
  Calls Tryz.prog 87 #[.agg #[.map (some t)],.agg #[.int .i64 3,.string sGf,.int .i64 0,.slice none 0 0,.slice (some ⟨g,0,none⟩) 1 cap],.bool true] w (Dl w):=by
 obtain⟨A,p1,p2,h1,h2,h3,h4⟩:=hT.gf;exact ace t g cap p1 w hE (fun W k=>Ug t sGf 1 2 2 cap A g true ⟨#[78]⟩ _ #[] _ .nilFunc _ W (fun w' k'=>h4 w' (k.tr k')) (h1.kept k) (by omega) (by omega) (.inl ⟨rfl,rfl⟩) rfl)
  (fun W v k hv=>Gn v p1 W hv ((k.cell' h3).trans h2))
theorem acv (D:List (List Int)) (hD:IsD D) (t:Nat) (E:List Value) (w:World) (hT:Uf t w) (hE:ig G2 kX 2 E w):
  Calls Tryz.prog 87 #[.agg #[.map (some t)],.agg E.toArray,.bool false] w (aam D w):=by
 obtain⟨A,c,p,q,h1,h2,h3,h4,h5,h6⟩:=hT.ham;obtain⟨b,cap,fs,rfl,hl,hb,hf⟩:=hE;obtain⟨f0,f1,rfl⟩:∃ f0 f1,fs=[f0,f1]:=by
  match fs,hl with
  | [f0,f1],_=>exact⟨f0,f1,rfl⟩
 obtain⟨_,hg⟩:=hf 0 f0 rfl;obtain⟨_,hn⟩:=hf 1 f1 rfl;obtain⟨b1,cap1,gs,rfl,hgl,hgb,hgf⟩:ig G1 sGf 1 f0 w:=hg;obtain⟨g0,rfl⟩:∃ g0,gs=[g0]:=by
  match gs,hgl with
  | [g0],_=>exact⟨g0,rfl⟩
 obtain⟨_,rfl⟩:_/\g0=Di 2:=hgf 0 g0 rfl;have hn':f1=Di 3:=hn;subst hn';have hgb':Bk w b1 (Di 2):=by simpa using hgb
 have hb':Bk w b (zl sGf (.slice (some ⟨b1,0,none⟩) 1 cap1)++Di 3):=by simpa using hb
 exact Yd D t b cap b1 cap1 p sGf (.func (.func 210) #[] #[]) w hb'
  (fun W k=>Ug t kX 2 1 c cap A b false ⟨#[70,78]⟩ _ #[] _ _ [] W (fun w' k'=>h6 w' (k.tr k')) (h1.kept k) (by omega) (by omega) (.inr ⟨_,_,_,rfl,rfl⟩) rfl)
  ⟨_,_,_,rfl⟩
  (fun W k=>acd t sGf b1 1 cap1 W (fun W' k'=>Pz t b1 cap1 W' (hT.kept (k.tr k')) (hgb'.kept (k.tr k'))))
  (fun W v a cc k hv hs=>Jf D hD v p q a cc W hv hs ((k.cell' h4).trans h2) ((k.cell' h5).trans h3))
set_option maxRecDepth 100000 in
theorem YB (D:List (List Int)) (hD:IsD D) (E:List Value) (w:World) (hE:ig G2 kX 2 E w):Calls Tryz.prog 43 #[.agg E.toArray,.bool false] w (aam D w):=by
 have hE0:=hE;obtain⟨b,cap,fs,rfl,_,_,_⟩:=hE0;obtain⟨sh,hsh⟩:∃ s,s=kX:=⟨_,rfl⟩
 have HE:=hid hE;clear hE;show Calls Tryz.prog 43 #[.agg #[.int .i64 3,.string kX,.int .i64 0,.slice none 0 0,.slice (some ⟨b,0,none⟩) 2 cap],.bool false] w (aam D w);have hEx:∀ W,ay w W->Calls Tryz.prog 85 #[.agg #[.int .i64 3,.string kX,.int .i64 0,.slice none 0 0,.slice (some ⟨b,0,none⟩) 2 cap]] W fun e w'=>e=.returned (.int .i64 0)/\ay W w':=fun W k=>Uy W (HE.out.kept (fun _ _ q=>kE q k) k);have hMx:∀ W t,ay w W->Uf t W->Calls Tryz.prog 87 #[.agg #[.map (some t)],.agg #[.int .i64 3,.string kX,.int .i64 0,.slice none 0 0,.slice (some ⟨b,0,none⟩) 2 cap],.bool false] W (aam D W):=fun W t k hT=>acv D hD t _ W hT (HE.out.kept (fun _ _ q=>kE q k) k);rw[<-hsh] at hEx hMx ⊢;have HX:=hid hEx;have HM:=hid hMx;obtain⟨ld,hld⟩:∃ x,x=D.length:=⟨_,rfl⟩
 have HLD:=hid hld;clear hEx hMx hsh HE hD hld;obtain⟨W1,hW1⟩:∃ x,x=(w.alloc (.cells #[.int .i64 3,.string sh,.int .i64 0,.slice none 0 0,.slice (some ⟨b,0,none⟩) 2 cap] 50)).alloc (.cells #[.int .i64 0,.int .i64 0,.slice none 0 0,.int .i64 0,.int .i64 0,.slice none 0 0,.int .i64 0,.slice none 0 0,.int .i64 0,.slice none 0 0] 91):=⟨_,rfl⟩
 have hk1:ay w W1:=by rw[hW1];exact(ah _ _).tr (ah _ _)
 have hbx:Bk W1 w.heap.size [.int .i64 3,.string sh,.int .i64 0,.slice none 0 0,.slice (some ⟨b,0,none⟩) 2 cap]:=by rw[hW1];exact(aG w [.int .i64 3,.string sh,.int .i64 0,.slice none 0 0,.slice (some ⟨b,0,none⟩) 2 cap] _ _ rfl).kept (ah _ _)
 have br:Bk W1 (w.heap.size+1) (gU 0):=by rw[hW1];exact aG _ (gU 0) _ _ (by simp)
 have fr:Fz W1 (w.heap.size+1):=by rw[hW1];exact bD _ _ _ _ (by simp)
 have hs1:w.heap.size+1<W1.heap.size:=by rw[hW1];simp
 have y0:=hbx.2 0 _ rfl;have y1:=hbx.2 1 _ rfl;have y2:=hbx.2 2 _ rfl;have y3:=hbx.2 3 _ rfl;have y4:=hbx.2 4 _ rfl;have HBX:=hid hbx;have HBR:=hid br;have HFR:=hid fr;have HK:=hid hk1;clear hbx br fr hk1;go_enter Tryz.func43,Tryz.ntmps43;go_upto_region 1 with(fail)
 rw[<-hW1];clear hW1;go_wp2_with(fail)
 refine(HX.out W1 HK.out).mono ?_;rintro e w2 ⟨rfl,hk2⟩;have hb2:=HBX.out.kept hk2;clear y0 y1 y2 y3 y4;have y0:=hb2.2 0 _ rfl;have y1:=hb2.2 1 _ rfl;have y2:=hb2.2 2 _ rfl;have y3:=hb2.2 3 _ rfl;have y4:=hb2.2 4 _ rfl;have HB2:=hid hb2;have HK2:=hid hk2;clear hb2 hk2;go_upto_region 4 with(fail)
 go_region_law(first|(go_simp;go_at_call 86;(with_reducible refine(table_any _).mono ?_);intro e w3 htab;obtain⟨t,rfl,hT,hk3⟩:=htab.g;clear htab;have Qg:ay w2 w3:=(by exact(aC _).tr hk3);have hb3:=HB2.out.kept Qg;have q0:=hb3.2 0 _ rfl;have q1:=hb3.2 1 _ rfl;have q2:=hb3.2 2 _ rfl;have q3:=hb3.2 3 _ rfl;have q4:=hb3.2 4 _ rfl)|(go_simp;go_at_call 87;(with_reducible refine(HM.out _ t (by exact(HK.out.tr HK2.out).tr Qg) (by exact hT)).mono ?_);rintro e w4 ⟨a,c,fa,fc,rfl,ho4,hr4,hk4⟩;rw[<-HLD.out];have ab6:ay w3 w4:=(by exact hk4);have HO:Hid (Own w4 w3.heap.size (.slice a 0 c) []):=hid (by exact ho4);have HR:Hid (Ro w4 w3.heap.size (.slice fa D.length fc) D):=hid (by exact hr4);have hb4:=((HBR.out.kept HK2.out).kept Qg).kept ab6;have hf4:=((HFR.out.kept HK2.out).kept Qg).kept ab6;unfold agS;unfold gU at hb4;have HB:=hid hb4;have z0:=hb4.2 0 _ rfl;have f0:=hf4.2 0;have z1:=hb4.2 1 _ rfl;have f1:=hf4.2 1;have z2:=hb4.2 2 _ rfl;have f2:=hf4.2 2;have z3:=hb4.2 3 _ rfl;have f3:=hf4.2 3;have z4:=hb4.2 4 _ rfl;have f4:=hf4.2 4;have z5:=hb4.2 5 _ rfl;have f5:=hf4.2 5;have z6:=hb4.2 6 _ rfl;have f6:=hf4.2 6;have z7:=hb4.2 7 _ rfl;have f7:=hf4.2 7;have z8:=hb4.2 8 _ rfl;have f8:=hf4.2 8;have z9:=hb4.2 9 _ rfl;have f9:=hf4.2 9))
 all_goals
  have HKF:=hid (((HK.out.tr HK2.out).tr Qg).tr ab6);have hsz3:W1.heap.size<=w3.heap.size:=(HK2.out.tr Qg).size;clear ho4 hr4 hb4 hf4 hk4;go_wp2_with(fail)
  have hld:=HLD.out;subst hld;refine bodyPost_ret (aF rfl rfl (gZ (HB.out.Dk _ _ _ _ _ _ _ _ _ _))) rfl ⟨a,c,fa,fc,rfl, ?_, ?_, ?_⟩
  ·exact(Dn HO.out (by omega) _ _ _ _ _ _ _ _ _ _).mono (by omega)
  ·exact(HR.out.Dk (by omega) _ _ _ _ _ _ _ _ _ _).mono (by omega)
  ·exact aH HKF.out (mJ _ _ _ _ _ _ _ _ _ _ _ _) (by omega) HKF.out.size
set_option maxRecDepth 100000 in
theorem acw (D:List (List Int)) (hD:IsD D) (E:List Value) (w:World) (hE:ig G2 kX 2 E w):Calls Tryz.prog 17 #[.agg E.toArray] w (afq D w):=by
 have hE0:=hE;obtain⟨b,cap,fs,rfl,_,_,_⟩:=hE0;obtain⟨sh,hsh⟩:∃ s,s=kX:=⟨_,rfl⟩
 show Calls Tryz.prog 17 #[.agg #[.int .i64 3,.string kX,.int .i64 0,.slice none 0 0,.slice (some ⟨b,0,none⟩) 2 cap]] w (afq D w);have hSx:∀ W,ay w W->Calls Tryz.prog 43 #[.agg #[.int .i64 3,.string kX,.int .i64 0,.slice none 0 0,.slice (some ⟨b,0,none⟩) 2 cap],.bool false] W (aam D W):=fun W k=>YB D hD _ W (hE.kept (fun _ _ q=>kE q k) k);rw[<-hsh] at hSx ⊢;have HX:=hid hSx;obtain⟨ld,hld⟩:∃ x,x=D.length:=⟨_,rfl⟩
 have HLD:=hid hld;clear hSx hsh hE hD hld;obtain⟨W1,hW1⟩:∃ x,x=(w.alloc (.cells #[.int .i64 3,.string sh,.int .i64 0,.slice none 0 0,.slice (some ⟨b,0,none⟩) 2 cap] 50)).alloc (.cells #[.int .i64 0,.int .i64 0,.slice none 0 0,.int .i64 0,.slice none 0 0] 29):=⟨_,rfl⟩
 have hk1:ay w W1:=by rw[hW1];exact(ah _ _).tr (ah _ _)
 have hbx:Bk W1 w.heap.size [.int .i64 3,.string sh,.int .i64 0,.slice none 0 0,.slice (some ⟨b,0,none⟩) 2 cap]:=by rw[hW1];exact(aG w [.int .i64 3,.string sh,.int .i64 0,.slice none 0 0,.slice (some ⟨b,0,none⟩) 2 cap] _ _ rfl).kept (ah _ _)
 have br:Bk W1 (w.heap.size+1) [.int .i64 0,.int .i64 0,.slice none 0 0,.int .i64 0,.slice none 0 0]:=by rw[hW1];exact aG _ [.int .i64 0,.int .i64 0,.slice none 0 0,.int .i64 0,.slice none 0 0] _ _ (by simp)
 have fr:Fz W1 (w.heap.size+1):=by rw[hW1];exact bD _ _ _ _ (by simp)
 have hs1:w.heap.size+1<W1.heap.size:=by rw[hW1];simp
 have y0:=hbx.2 0 _ rfl;have y1:=hbx.2 1 _ rfl;have y2:=hbx.2 2 _ rfl;have y3:=hbx.2 3 _ rfl;have y4:=hbx.2 4 _ rfl;go_enter Tryz.func17,Tryz.ntmps17;go_upto_region 1 with(fail)
 rw[<-hW1];clear hW1;go_wp2_with(fail)
 refine(HX.out W1 hk1).mono ?_;rintro e w2 ⟨a,c,fa,fc,rfl,ho2,hr2,hk2⟩;rw[<-HLD.out];unfold agS;have hb2:=br.kept hk2;have hf2:=fr.kept hk2;have hlt:w.heap.size+1<w2.heap.size:=zZ hs1 hk2.size;have hne:¬ w.heap.size+1=w2.heap.size:=by omega
 have hne':¬ w2.heap.size=w.heap.size+1:=by omega
 have z0:=hb2.2 0 _ rfl;have z1:=hb2.2 1 _ rfl;have z2:=hb2.2 2 _ rfl;have z3:=hb2.2 3 _ rfl;have z4:=hb2.2 4 _ rfl;have f0:=hf2.2 0;have f1:=hf2.2 1;have f2:=hf2.2 2;have f3:=hf2.2 3;have f4:=hf2.2 4;have HB:=hid hb2;have HO:=hid ho2;have HR:=hid hr2;have HK:=hid (hk1.tr hk2);clear hb2 hf2 ho2 hr2 hk2 br fr hbx y0 y1 y2 y3 y4;go_wp2_with(fail)
 have hld:=HLD.out;subst hld;refine bodyPost_ret (aF rfl rfl (bT ((HB.out.mG _ _ _ _ _).kept (ah _ _)))) rfl ⟨a,c,fa,fc,rfl, ?_, ?_, ?_⟩
 ·exact((jE HO.out hs1 _ _ _ _ _).mono (by omega)).kept (ah _ _)
 ·exact((HR.out.mG hs1 _ _ _ _ _).mono (by omega)).kept (ah _ _)
 ·exact ay.tr (aH HK.out (cZ _ _ _ _ _ _ _) (by omega) HK.out.size) (ah _ _)
def lH:List (List Int):=[[1,0,0,0,0,1,1],[0,1,0,0,1,0,1],[0,0,1,0,1,1,0],[0,0,0,1,1,1,1]]
theorem acy:OO op2 (oQ op2 (DU 3 0) 7) (pvL op2 (DU 3 0) 7) 7=lH:=by decide
theorem YC {G:GFd} (t:aK G) (hP:G.P=2) (hM:G.M=1) (hmod:G.mod=[]):IsD lH:=⟨G,t,hP,hM,hmod,by rw[SL t hP hM,acy]⟩
def wt (l:List Int):Nat:=(l.filter (· ≠0)).length
theorem UG {l:List Int} {k:Nat} (h:k<l.length):wt (l.take (k+1))=wt (l.take k)+(if l.getD k 0=0 then 0 else 1):=by
 have e:l.getD k 0=l[k]:=by simp[List.getD,h]
 rw[yV h,e];unfold wt;rw[wV,zX];by_cases q:l[k]=0
 ·simp[q]
 ·simp[q]
theorem afw (l:List Int):wt l<=l.length:=vT _ _
theorem jH (v:Value) (l:List Int) (w:World) (hv:Sl w v l) (hl:l.length<=1000000):Calls Tryz.prog 30 #[v] w fun e w'=>e=.returned (.int .i64 (wt l))/\w'=w:=by
 obtain⟨a,cap,rfl,hcap,⟨hcm,hc0⟩,hc⟩:=hv;unfold maxLen at hcm;have HC:=hid hc;clear hc hc0;go_enter Tryz.func30,Tryz.ntmps30;go_wp2_with(fail)
 go_loop [8,3] (fun vi vn=>∃ k:Nat,k<=l.length/\vi=.int .i64 k/\vn=.int .i64 (wt (l.take k):Nat)) (fun vi _=>l.length- (intOf vi).toNat)
 case atStart=>exact⟨0,by omega,rfl,rfl⟩
 case round=>
  obtain⟨k,hk,rfl,rfl⟩:=hrel;by_cases hlt:k<l.length
  ·obtain⟨b,off,rfl,hb,hcell⟩:=HC.out (fun e=>by subst e;simp at hlt);have hx:=hcell k hlt;have hlt':(k:Int)< (l.length:Int):=by omega
   have hk0:(0:Int)<=(k:Int):=by omega
   have hw:=UG hlt;have hwb:=afw (l.take k);rw[yF] at hwb;obtain⟨x,hxx⟩:∃ x,x=l.getD k 0:=⟨_,rfl⟩
   rw[<-hxx] at hx hw;have HXX:=hid hxx;have HW:=hid hw;obtain⟨u,hu⟩:∃ u,u=wt (l.take k):=⟨_,rfl⟩
   rw[<-hu] at hwb HW ⊢;clear hcell hxx hw hu;by_cases hx0:x=0
   ·have tx:(x != 0)=false:=by simpa using hx0
    have HX0:=hid hx0;clear hx0;go_wp2_with(fail)
    go_round;case rel=>exact⟨k+1,by omega,by go_num,by rw[HW.out,zu HX0.out];rfl⟩
    case measure=>simp[intOf];omega
   ·have tx:(x != 0)=true:=by simpa using hx0
    have HX0:=hid hx0;clear hx0;go_wp2_with(fail)
    go_round;case rel=>exact⟨k+1,by omega,by go_num,by rw[HW.out,zx HX0.out];go_num⟩
    case measure=>simp[intOf];omega
  ·have hk':k=l.length:=by omega
   subst hk';rw[wu];go_wp2_with(fail)
   go_ret;exact⟨rfl,rfl⟩
def jP (A:List (List Int)) (i:Nat):List Int:=(List.range A.length).map fun j=>en A j i
def Ll (A:List (List Int)) (i k:Nat):List Int:=(List.range A.length).map fun j=>if j<k then en A j i else 0
theorem UH (A:List (List Int)) (i:Nat):Ll A i 0=List.replicate A.length 0:=by
 refine zM (by simp[Ll]) fun j h1 h2=>?_;simp[Ll]
theorem UJ (A:List (List Int)) (i:Nat):Ll A i A.length=jP A i:=by
 refine zM (by simp[Ll,jP]) fun j h1 h2=>?_;have:j<A.length:=by simpa[Ll] using h1
 simp[Ll,jP,this]
theorem YD {A:List (List Int)} {i k:Nat}:(Ll A i k).set k (en A k i)=Ll A i (k+1):=by
 refine zM (by simp[Ll]) fun j h1 h2=>?_;rw[xO];by_cases e:k=j
 ·subst e;simp[Ll]
 ·have:(j<k)=(j<k+1):=by rw[eq_iff_iff];omega
  simp[Ll,e,this]
theorem YE (A:List (List Int)) (i k:Nat):(Ll A i k).length=A.length:=by simp[Ll]
set_option maxRecDepth 100000 in
theorem PD (P M:Int) (vm:Value) (n:Int) (va:Option Addr) (vc:Nat) (A:List (List Int)) (i:Nat) (w:World) (hv:Rd w (.slice va A.length vc) A) (hi:∀ k,k<A.length->i< (Gj.row A k).length) (hl:A.length<=1000):
  Calls Tryz.prog 170 #[.agg #[.int .i64 P,.int .i64 M,vm,.int .i64 n,.slice va A.length vc],.int .i64 i] w fun e w'=>∃ v,e=.returned v/\Own w' w.heap.size v (jP A i)/\ay w w':=by
 obtain⟨W1,hW1⟩:∃ x,x=w.alloc (.cells #[.int .i64 P,.int .i64 M,vm,.int .i64 n,.slice va A.length vc] 29):=⟨_,rfl⟩
 have hk1:ay w W1:=by rw[hW1];exact ah _ _
 have bx:Bk W1 w.heap.size [.int .i64 P,.int .i64 M,vm,.int .i64 n,.slice va A.length vc]:=by rw[hW1];exact aG w [.int .i64 P,.int .i64 M,vm,.int .i64 n,.slice va A.length vc] _ _ rfl
 have hv1:=hv.kept hk1;have x4:=bx.2 4 _ rfl;have HBX:=hid bx;have HI:=hid hi;have hs1:w.heap.size<=W1.heap.size:=hk1.size;clear hv hi bx;go_enter Tryz.func170,Tryz.ntmps170;go_upto_region 1 with(fail)
 rw[<-hW1];clear hW1;go_wp2_with(at_make;refine aJ rfl _ _ rfl A.length _ _ rfl rfl rfl rfl (by omega) ?_;intro w2 ho2 hk2;have x4:=(HBX.out.kept hk2).2 4 _ rfl)
 obtain⟨g,hg⟩:∃ g,g=W1.heap.size:=⟨_,rfl⟩
 rw[<-hg] at ho2 ⊢;rw[<-UH A i] at ho2;have HV:=hid hv1;have HK2:=hid hk2;have HG:=hid hg;have HO:=hid ho2;clear hv1 hk2 hg ho2
 go_loopg [15] (A.length+1) (fun gk vi wr=>∃ k,k<=A.length/\gk=A.length+1-k/\vi=.int .i64 k/\Own wr g (.slice (some ⟨g,0,none⟩) A.length A.length) (Ll A i k)/\ay W1 wr)
 case atStart=>exact⟨0,by omega,rfl,rfl,HO.out,HK2.out⟩
 case round=>
  obtain⟨k,hk,rfl,rfl,ho,hkr⟩:=hrel;by_cases hlt:k<A.length
  ·have hlt':(k:Int)< (A.length:Int):=by omega
   have hvr:=HV.out.kept hkr;have hget:=hvr.get;obtain⟨a,cap,e,_,_,hne⟩:=hget;obtain⟨b,off,e2,hb⟩:=hne (fun e=>by subst e;simp at hlt);cases e
   subst e2;obtain⟨u,hu,hsu⟩:=hvr.cellAt hlt;obtain⟨ua,uc,rfl,aif,⟨hum,_⟩,huc⟩:=hsu;unfold maxLen at hum;obtain⟨ub,uo,rfl,hub,hcell⟩:=huc (fun e=>by have:=HI.out k hlt;rw[e] at this;simp at this);have hx:=hcell i (HI.out k hlt);have hil:(i:Int)< ((Gj.row A k).length:Int):=by have:=HI.out k hlt;omega
   obtain⟨x,hxx⟩:∃ x,x=(Gj.row A k).getD i 0:=⟨_,rfl⟩
   obtain⟨rl,hrl⟩:∃ x,x=(Gj.row A k).length:=⟨_,rfl⟩
   rw[<-hxx] at hx;rw[<-hrl] at hu hil aif;have hcg:=ho.cell (i:=k) (by rw[YE];exact hlt);have hfg:=ho.frozen k;have hk0:(0:Int)<=(k:Int):=by omega
   have hi0:(0:Int)<=(i:Int):=by omega
   have HXX:=hid hxx;have HO2:=hid ho;have HKR:=hid hkr;have hgl:=ho.lt.1;clear hcell huc hxx hrl hvr ho hkr hne;go_wp2_with(fail)
   go_roundg (A.length+1- (k+1))
   case measure=>omega
   case rel=>
    have h2:=HO2.out.set k x;have e3:x=en A k i:=HXX.out;rw[e3,YD] at h2;rw[e3];exact⟨k+1,by omega,rfl,by go_num,h2,aA _ HKR.out (xK HG.out.symm)⟩
  ·have hk':k=A.length:=by omega
   subst hk';rw[UJ] at ho;go_wp2_with(fail)
   go_ret;exact⟨_,rfl,ho.mono (by rw[HG.out];exact hs1),hk1.tr hkr⟩
structure CdM (w:World) (G:GFd) (n:Nat) (ma:Option Addr) (ml mc:Nat) (va:Option Addr) (vc:Nat) (A:List (List Int)) (P:List Nat):Prop where
 f:Sl w (.slice ma ml mc) G.mod
 g:Rd w (.slice va A.length vc) A
 rf:Rf G.q A n P
 n1:1<=n
 n2:n<=64
theorem CdM.kept {w w':World} {G:GFd} {n:Nat} {ma:Option Addr} {ml mc:Nat} {va:Option Addr} {vc:Nat} {A:List (List Int)} {P:List Nat} (h:CdM w G n ma ml mc va vc A P) (k:ay w w'):CdM w' G n ma ml mc va vc A P:=⟨h.f.kept k,h.g.kept k,h.rf,h.n1,h.n2⟩
def cdV (G:GFd) (n:Nat) (ma:Option Addr) (ml mc:Nat) (va:Option Addr) (vn vc:Nat):Value:=.agg #[.int .i64 G.P,.int .i64 G.M,.slice ma ml mc,.int .i64 n,.slice va vn vc]
set_option maxRecDepth 100000 in
theorem NZ (G:GFd) (t:aK G) (n:Nat) (ma:Option Addr) (ml mc:Nat) (va:Option Addr) (vc:Nat) (A:List (List Int)) (P:List Nat) (w:World) (h:CdM w G n ma ml mc va vc A P):
  Calls Tryz.prog 118 #[cdV G n ma ml mc va A.length vc] w fun e w'=>∃ b H,e=.returned (.tuple #[.pointer (some ⟨b,0,none⟩),.int .i64 0])/\dW w' b H/\aK H/\opG H=opG G/\H.q=G.q/\ay w w':=by
 show Calls Tryz.prog 118 #[.agg #[.int .i64 G.P,.int .i64 G.M,.slice ma ml mc,.int .i64 n,.slice va A.length vc]] w _;obtain⟨W1,hW1⟩:∃ x,x=w.alloc (.cells #[.int .i64 G.P,.int .i64 G.M,.slice ma ml mc,.int .i64 n,.slice va A.length vc] 29):=⟨_,rfl⟩
 have hk1:ay w W1:=by rw[hW1];exact ah _ _
 have bx:Bk W1 w.heap.size [.int .i64 G.P,.int .i64 G.M,.slice ma ml mc,.int .i64 n,.slice va A.length vc]:=by rw[hW1];exact aG w [.int .i64 G.P,.int .i64 G.M,.slice ma ml mc,.int .i64 n,.slice va A.length vc] _ _ rfl
 have hc1:=hid (h.kept hk1);have x0:=bx.2 0 _ rfl;have x1:=bx.2 1 _ rfl;have x2:=bx.2 2 _ rfl;have x3:=bx.2 3 _ rfl;have x4:=bx.2 4 _ rfl;have HCK:=hid (sD G t ma ml mc n va A.length vc A P W1 hc1.out.f hc1.out.g hc1.out.rf hc1.out.n1 hc1.out.n2);have HBX:=hid bx;clear bx h;go_enter Tryz.func118,Tryz.ntmps118;go_upto_region 1 with(fail)
 rw[<-hW1];clear hW1;go_wp2_with(fail)
 (with_reducible refine HCK.out.mono ?_)
 rintro e w2 ⟨rfl,hk2⟩;have bx2:=HBX.out.kept hk2;clear x0 x1 x2 x3 x4;have x0:=bx2.2 0 _ rfl;have x1:=bx2.2 1 _ rfl;have x2:=bx2.2 2 _ rfl;have HNW:=hid (fA G.P G.M (.slice ma ml mc) G.mod w2 (hc1.out.f.kept hk2) t.field);clear bx2;go_wp2_with(fail)
 (with_reducible refine HNW.out.mono ?_)
 rintro e w3 ⟨b,H,rfl,hg3,tH,hP,hM,hmod,hk3⟩;have HF:=hid (show opG H=opG G/\H.q=G.q from⟨EG tH t hP hM hmod,by rw[tH.hq,t.hq,hP,hM]⟩);clear hP hM hmod;go_wp2_with(fail)
 refine bodyPost_ret (v:=.tuple #[.pointer (some ⟨b,0,none⟩),.int .i64 0]) ?_ rfl ⟨b,H,rfl,hg3,tH,HF.out.1,HF.out.2,(hk1.tr hk2).tr hk3⟩;simp[results,Tryz.results118,go_sem]
def Ql (o:Cw.Op) (x:Int) (rw v:List Int):List Int:=(List.range v.length).map fun j=>o.add (v.getD j 0) (o.neg (o.mul x (rw.getD j 0)))
def dV (o:Cw.Op):List (List Int)->List Nat->List Int->List Int
 |r::rs,p::ps,v=>dV o rs ps (if v.getD p 0=0 then v else Ql o (v.getD p 0) r v)
 |_,_,v=>v
def mO (v:List Int):Option Nat:=(List.range v.length).find? fun j=>v.getD j 0≠0
def kY (o:Cw.Op) (rs:List (List Int)) (ps:List Nat) (v:List Int):List (List Int) ×List Nat×Bool:=
 let u:=dV o rs ps v
 match mO u with
 |none=>(rs,ps,false)
 |some k=>(rs++ [u.map fun y=>o.mul (o.inv (u.getD k 0)) y],ps++ [k],true)
def bV (o:Cw.Op) (A:List (List Int)):List Nat->List (List Int)->List Nat->List Nat
 | [],_,_=>[]
 |i::is,rs,ps=>
  let r:=kY o rs ps (jP A i)
  if r.2.2 then i::bV o A is r.1 r.2.1 else bV o A is rs ps
def nG (n:Nat) (used:List Nat):List Nat:=(List.range n).filter (fun i=>!used.contains i)++(List.range n).filter (fun i=>used.contains i)
def mP (used set:List Nat):Nat:=(set.filter fun i=>!used.contains i).length
def jy (k w:Int) (l:List Int):Int:=(l.map fun r=>max 0 (w+1- (k-r))).sum
theorem Lm {k w:Int} {l:List Int} {i:Nat} (h:i<l.length):jy k w (l.take (i+1))=jy k w (l.take i)+max 0 (w+1- (k-l.getD i 0)):=by
 have e:l.getD i 0=l[i]:=by simp[List.getD,h]
 rw[yV h,e];unfold jy;rw[xq,List.sum_append];simp
theorem Dw {k w:Int} (hk:0<=k) (hk2:k<=64) (hw2:w<=k):∀ (l:List Int),(∀ r∈l,0<=r/\r<=k)->0<=jy k w l/\jy k w l<=65*l.length
 | [],_=>by simp[jy]
 |r::l,h=>by
  have h1:=Dw hk hk2 hw2 l (fun x hx=>h x (yJ _ hx));have h2:=h r xJ;have e:jy k w (r::l)=max 0 (w+1- (k-r))+jy k w l:=by simp[jy]
  rw[e,yG];omega
theorem UK (k wd:Int) (v:Value) (l:List Int) (w:World) (hv:Sl w v l) (hk:0<=k) (hk2:k<=64) (hw:0<=wd) (hw2:wd<=k) (hl:l.length<=64) (hr:∀ r∈l,0<=r/\r<=k):
  Calls Tryz.prog 68 #[.int .i64 k,v,.int .i64 wd] w fun e w'=>e=.returned (.tuple #[.int .i64 (jy k wd l),.int .i64 0])/\w'=w:=by
 obtain⟨a,cap,rfl,hcap,⟨hcm,hc0⟩,hc⟩:=hv;unfold maxLen at hcm;have HC:=hid hc;have HR:=hid hr;have t1:decide (k<0)=false:=by simp;omega
 have t2:decide (64<k)=false:=by simp;omega
 have t3:decide (wd<0)=false:=by simp;omega
 have t4:decide (k<wd)=false:=by simp;omega
 have t5:decide ((64:Int)< (l.length:Int))=false:=by simp;omega
 clear hc hc0 hr;go_enter Tryz.func68,Tryz.ntmps68;go_wp2_with(fail)
 go_loop [33,8] (fun vi vn=>∃ i:Nat,i<=l.length/\vi=.int .i64 i/\vn=.int .i64 (jy k wd (l.take i))) (fun vi _=>l.length- (intOf vi).toNat)
 case atStart=>exact⟨0,by omega,rfl,rfl⟩
 case round=>
  obtain⟨i,hi,rfl,rfl⟩:=hrel;by_cases hlt:i<l.length
  ·obtain⟨b,off,rfl,hb,hcell⟩:=HC.out (fun e=>by subst e;simp at hlt);have hx:=hcell i hlt;have hlt':(i:Int)< (l.length:Int):=by omega
   have hi0:(0:Int)<=(i:Int):=by omega
   have hw:=Lm (k:=k) (w:=wd) hlt;have hb1:=Dw (w:=wd) hk hk2 hw2 (l.take i) (fun r hr=>HR.out r (uU hr));rw[yF] at hb1;have hxb:0<=l.getD i 0/\l.getD i 0<=k:=HR.out _ (by simp[List.getD,hlt]);obtain⟨x,hxx⟩:∃ x,x=l.getD i 0:=⟨_,rfl⟩
   rw[<-hxx] at hx hw hxb;have HW:=hid hw;obtain⟨u,hu⟩:∃ u,u=jy k wd (l.take i):=⟨_,rfl⟩
   rw[<-hu] at hb1 HW ⊢;have s1:decide (x<0)=false:=by simp;omega
   have s2:decide (k<x)=false:=by simp;omega
   have q1:IntKind.i64.wrap (wd+1)=wd+1:=IntWalk.i64_in _ (by omega);have q2:IntKind.i64.wrap (k-x)=k-x:=IntWalk.i64_in _ (by omega);have q3:IntKind.i64.wrap (wd+1- (k-x))=wd+1- (k-x):=IntWalk.i64_in _ (by omega);clear hcell hxx hw hu;go_wp2_with(fail)
   go_round;case rel=>exact⟨i+1,by omega,by go_num,by rw[HW.out]⟩
   case measure=>simp[intOf];omega
  ·have hk':i=l.length:=by omega
   subst hk';rw[wu];go_wp2_with(fail)
   refine bodyPost_ret (v:=.tuple #[.int .i64 (jy k wd l),.int .i64 0]) ?_ rfl ⟨rfl,rfl⟩;simp[results,Tryz.results68,go_sem]
def alN (q:Int) (k:Nat) (m:Int) (w:World) (e:Ending) (w':World):Prop:=
 w'=w/\((e=.returned (.tuple #[.int .i64 (q^k),.int .i64 0])/\1<=q^k/\q^k<=m)∨(e=.returned (.tuple #[.int .i64 0,.int .i64 8])/\q≠1))
theorem acz (q:Int) (k:Nat) (m:Int) (w:World) (hq:1<=q) (hq2:q<=1000) (hk:k<=1000) (hm:1<=m) (hm2:m<=1000000000):Calls Tryz.prog 125 #[.int .i64 q,.int .i64 k,.int .i64 m] w (alN q k m w):=by
 have t1:decide (q<0)=false:=by simp;omega
 have t2:decide (m<0)=false:=by simp;omega
 have t3:(q==0)=false:=by simp;omega
 have t4:(m==0)=false:=by simp;omega
 have t5:decide ((k:Int)<0)=false:=by simp
 have hmq:m.tdiv q=m/q:=Int.tdiv_eq_ediv_of_nonneg (by omega);have hd0:0<=m/q:=xI (by omega) (by omega);have hd1:m/q<=m:=wJ _ (by omega);have hwd:IntKind.i64.wrap (m/q)=m/q:=IntWalk.i64_in _ (by omega);go_enter Tryz.func125,Tryz.ntmps125;go_wp2_with(fail)
 go_loop [1,8] (fun vk vo=>∃ (i:Nat) (o:Int),i<=k/\vk=.int .i64 ((k-i:Nat):Int)/\vo=.int .i64 o/\o=q^i/\1<=o/\o<=m) (fun vk _=>(intOf vk).toNat)
 case atStart=>exact⟨0,1,by omega,rfl,rfl,by simp,by omega,by omega⟩
 case round=>
  obtain⟨i,o,hi,rfl,rfl,ho,ho1,ho2⟩:=hrel;have HO:=hid ho;clear ho;have hx:i<k->1<q->m/q<o∨(o<=m/q/\1<=o*q/\o*q<=m):=fun _ h1=>by
   by_cases h:m/q<o
   ·exact .inl h
   ·have h2:o<=m/q:=by omega
    have h3:o*q<=m:=(uI (by omega)).1 h2;have h4:1*1<=o*q:=Int.mul_le_mul ho1 (by omega) (by omega) (by omega);exact .inr ⟨h2,by omega,h3⟩
  have HX:=hid hx;clear hx;by_cases hlt:i<k
  ·have c1:decide ((0:Int)< ((k-i:Nat):Int))=true:=by simp;omega
   by_cases h1:1<q
   ·have c2:decide (1<q)=true:=by simpa using h1
    rcases HX.out hlt h1 with h|⟨h,h3,h4⟩
    ·have c3:decide (m/q<o)=true:=by simpa using h
     have hn1:q≠1:=by omega
     have HN:=hid hn1;clear hn1 h h1;go_wp2_with(fail)
     refine bodyPost_ret (v:=.tuple #[.int .i64 0,.int .i64 8]) ?_ rfl ⟨rfl,.inr ⟨rfl,HN.out⟩⟩;simp[results,Tryz.results125,go_sem]
    ·have c3:decide (m/q<o)=false:=by simpa using h
     have hw1:IntKind.i64.wrap (o*q)=o*q:=IntWalk.i64_in _ (by omega);have hw2:IntKind.i64.wrap (((k-i:Nat):Int)-1)=((k- (i+1):Nat):Int):=by rw[IntWalk.i64_in _ (by omega)];omega
     clear h h1;go_wp2_with(fail)
     go_round;case rel=>exact⟨i+1,o*q,by omega,rfl,rfl,by rw[HO.out,xY],h3,h4⟩
     case measure=>simp[intOf];omega
   ·have hq1:q=1:=by omega
    have c2:decide (1<q)=false:=by simp;omega
    have HQ:=hid hq1;clear h1 hq1;go_wp2_with(fail)
    have ho:o=q^k:=by rw[HO.out,HQ.out,Int.one_pow,Int.one_pow]
    refine bodyPost_ret (v:=.tuple #[.int .i64 o,.int .i64 0]) ?_ rfl ⟨rfl,.inl ⟨by rw[ho],by omega,by omega⟩⟩;simp[results,Tryz.results125,go_sem]
  ·have hik:i=k:=by omega
   have c1:decide ((0:Int)< ((k-i:Nat):Int))=false:=by simp;omega
   have ho:Hid (o=q^k):=hid (by rw[<-hik];exact HO.out);clear hik;go_wp2_with(fail)
   have ho:=ho.out;refine bodyPost_ret (v:=.tuple #[.int .i64 o,.int .i64 0]) ?_ rfl ⟨rfl,.inl ⟨by rw[ho],by omega,by omega⟩⟩;simp[results,Tryz.results125,go_sem]
theorem AV {w:World} {ops:Array Oper} {o:Oper} {a:Act} {K:Act->World->Prop} {Q:Exit->Act->World->Prop} {E:Prop} (hgd:o.guard=none) (s x:Operand)
  (ho:o.op=.call {callee:=.builtin .append,args:=#[s,x],argTypes:=#[27,27]}) (B:Nat) (v:Value) (m:Nat) (rs:List Value) (hs:a.eval s=v) (hown:w.ownsRow B 22 1 v m rs)
  (ad:Addr) (y:Value) (hx:a.eval x=.slice (some ad) 1 1) (hc:w.cell? ad=some y) (hy:y.oneCell'=true) (hlen:m+1<=1000000) (hB:B<=w.heap.size)
  (h:∀ v' w',w'.ownsRow B 22 1 v' (m+1) (rs++ [y])->w.grownBy w' v.ownBlock->(v'.ownBlock=v.ownBlock∨v'.ownBlock=some w.heap.size)->K (a.put o.dst v') w'):
  if Region.wanted o (yielded ops a.tmps)=true then Oper.wp Tryz.prog o a w K Q else E:=by
 rw[zu (by simp[Region.wanted,hgd])];obtain⟨i0,hi,hz0,hz1,hz2⟩:=info_parts Tryz.infoSl;obtain⟨v',w',hr,h2,h3,_,h5⟩:=run_append_own_at (P:=Tryz.prog) w B 27 o.type 22 i0 _ 1 24 Tryz.underlying27 hi hz0 hz1 hz2 rfl (by decide) v m rs hown ad 1 1 [y] rfl
  (fun j u hu=>by
   match j with
   |0=>
    have e:u=y:=by simpa using hu.symm
    rw[e];have:ad.add 0=ad:=by cases ad;simp[Addr.add]
    rw[this];exact hc
   |j+1=>simp at hu) (fun u hu=>by rw[zH.1 hu];exact hy) (by unfold maxLen;omega) (by omega) hB
 unfold Oper.wp execOp;simp only[ho,resolve,invoke,builtin,Sem.run_bind,Sem.run_pure,Result.andThen_ok,uQ,uN,rZ,hs,hx,hr];exact h v' w' h2 h3 h5
def DW (v:List Int):Int:=match mO v with|none=>-1|some k=>k
theorem mQ {v:List Int} {k:Nat} (h:mO v=some k):k<v.length/\v.getD k 0≠0/\∀ j,j<k->v.getD j 0=0:=by
 unfold mO at h;rw[List.find?_range_eq_some] at h;obtain⟨h1,h2,h3⟩:=h;exact⟨by simpa using h2,by simpa using h1,fun j hj=>by simpa using h3 j hj⟩
theorem ug {v:List Int} (h:mO v=none):∀ j,j<v.length->v.getD j 0=0:=fun j hj=>by
 unfold mO at h;rw[List.find?_range_eq_none] at h;simpa using h j hj
theorem aaq (x:Int) (w:World):Calls Tryz.prog 291 #[.int .i64 x] w fun e w'=>e=.returned (.bool (x != 0))/\w=w':=by
 go_enter Tryz.func291,Tryz.ntmps291;go_wp2_with(fail)
 go_ret;exact⟨rfl,rfl⟩
theorem afx (v:Value) (l:List Int) (w:World) (hv:Sl w v l):
  Calls Tryz.prog 35 #[v,.func (.func 291) #[] #[]] w fun e w'=>e=.returned (.int .i64 (DW l))/\w=w':=by
 obtain⟨a,cap,rfl,hcap,⟨hcm,_⟩,hc⟩:=hv;unfold maxLen at hcm;go_enter Tryz.func35,Tryz.ntmps35;go_wp2_with(fail)
 go_loop [8] (fun vi=>∃ j:Nat,j<=l.length/\vi=.int .i64 j/\Hid (∀ i,i<j->l.getD i 0=0)) (fun vi=>l.length- (intOf vi).toNat)
 case atStart=>exact⟨0,by omega,rfl,hid (fun i hi=>absurd hi (yw _))⟩
 case round=>
  obtain⟨j,hj,rfl,hz0⟩:=hrel;by_cases hlt:j<l.length
  ·have hlt':(j:Int)< (l.length:Int):=by omega
   obtain⟨bl,off,rfl,hb,hcell⟩:=hc (by intro e;rw[e] at hlt;simp at hlt);have hck:=hcell j hlt;obtain⟨z,hz⟩:∃ z,z=l.getD j 0:=⟨_,rfl⟩
   rw[<-hz] at hck;have HZ:=hid hz;clear hcell hz hc;by_cases e:z=0
   ·have tz:(z != 0)=false:=by simpa using e
    have HE:=hid e;clear e;go_wp2_with(fail)
    refine(aaq z w).mono ?_;rintro e w' ⟨rfl,rfl⟩;go_wp2_with(fail)
    go_round;case rel=>exact⟨j+1,by omega,by go_num,hid (fun i hi=>by
     by_cases q:i=j
     ·rw[q,<-HZ.out];exact HE.out
     ·exact hz0.out i (by omega))⟩
    case measure=>simp[intOf];omega
   ·have tz:(z != 0)=true:=by simpa using e
    have hf:Hid (DW l=j):=hid (by
     unfold DW;cases q:mO l with
     |none=>exact absurd (HZ.out.trans (ug q j hlt)) e
     |some k=>
      obtain⟨h1,h2,h3⟩:=mQ q;show(k:Int)=j;rcases xX k j with r|r|r
      ·exact absurd (hz0.out k r) h2
      ·rw[r]
      ·exact absurd (HZ.out.trans (h3 j r)) e)
    clear e;go_wp2_with(fail)
    refine(aaq z w).mono ?_;rintro e w' ⟨rfl,rfl⟩;go_wp2_with(fail)
    go_ret;exact⟨aW hf.out.symm,rfl⟩
  ·have hf:Hid (DW l=-1):=hid (by
    unfold DW;cases q:mO l with
    |none=>rfl
    |some k=>
     obtain⟨h1,h2,_⟩:=mQ q;exact absurd (hz0.out k (by omega)) h2)
   clear hc;go_wp2_with(fail)
   go_ret;exact⟨aW hf.out.symm,rfl⟩
theorem aar (x:Int) (w:World):Calls Tryz.prog 177 #[.int .i64 x] w fun e w'=>e=.returned (.bool (x != 0))/\w=w':=by
 go_enter Tryz.func177,Tryz.ntmps177;go_wp2_with(fail)
 go_ret;exact⟨rfl,rfl⟩
theorem N7 (v:Value) (l:List Int) (w:World) (hv:Sl w v l):
  Calls Tryz.prog 35 #[v,.func (.func 177) #[] #[]] w fun e w'=>e=.returned (.int .i64 (DW l))/\w=w':=by
 obtain⟨a,cap,rfl,hcap,⟨hcm,_⟩,hc⟩:=hv;unfold maxLen at hcm;go_enter Tryz.func35,Tryz.ntmps35;go_wp2_with(fail)
 go_loop [8] (fun vi=>∃ j:Nat,j<=l.length/\vi=.int .i64 j/\Hid (∀ i,i<j->l.getD i 0=0)) (fun vi=>l.length- (intOf vi).toNat)
 case atStart=>exact⟨0,by omega,rfl,hid (fun i hi=>absurd hi (yw _))⟩
 case round=>
  obtain⟨j,hj,rfl,hz0⟩:=hrel;by_cases hlt:j<l.length
  ·have hlt':(j:Int)< (l.length:Int):=by omega
   obtain⟨bl,off,rfl,hb,hcell⟩:=hc (by intro e;rw[e] at hlt;simp at hlt);have hck:=hcell j hlt;obtain⟨z,hz⟩:∃ z,z=l.getD j 0:=⟨_,rfl⟩
   rw[<-hz] at hck;have HZ:=hid hz;clear hcell hz hc;by_cases e:z=0
   ·have tz:(z != 0)=false:=by simpa using e
    have HE:=hid e;clear e;go_wp2_with(fail)
    refine(aar z w).mono ?_;rintro e w' ⟨rfl,rfl⟩;go_wp2_with(fail)
    go_round;case rel=>exact⟨j+1,by omega,by go_num,hid (fun i hi=>by
     by_cases q:i=j
     ·rw[q,<-HZ.out];exact HE.out
     ·exact hz0.out i (by omega))⟩
    case measure=>simp[intOf];omega
   ·have tz:(z != 0)=true:=by simpa using e
    have hf:Hid (DW l=j):=hid (by
     unfold DW;cases q:mO l with
     |none=>exact absurd (HZ.out.trans (ug q j hlt)) e
     |some k=>
      obtain⟨h1,h2,h3⟩:=mQ q;show(k:Int)=j;rcases xX k j with r|r|r
      ·exact absurd (hz0.out k r) h2
      ·rw[r]
      ·exact absurd (HZ.out.trans (h3 j r)) e)
    clear e;go_wp2_with(fail)
    refine(aar z w).mono ?_;rintro e w' ⟨rfl,rfl⟩;go_wp2_with(fail)
    go_ret;exact⟨aW hf.out.symm,rfl⟩
  ·have hf:Hid (DW l=-1):=hid (by
    unfold DW;cases q:mO l with
    |none=>rfl
    |some k=>
     obtain⟨h1,h2,_⟩:=mQ q;exact absurd (hz0.out k (by omega)) h2)
   clear hc;go_wp2_with(fail)
   go_ret;exact⟨aW hf.out.symm,rfl⟩
def chO (m most:Nat):Nat->Option Nat
 |0=>some 1
 |i+1=>match chO m most i with
  |none=>none
  |some o=>if most<o*(m+(i+1)) / (i+1) then none else some (o*(m+(i+1)) / (i+1))
def prO (most:Int):List Int->Int->Option Int
 | [],out=>if most<out then none else some out
 |x::l,out=>if most/x<out then none else prO most l (out*x)
def cmpL:List Int->List Int->Int
 | [],[]=>0
 | [],_::_=>-1
 |_::_,[]=>1
 |a::s,b::t=>if a<b then-1 else if b<a then 1 else cmpL s t
def fC (o:Cw.Op) (w:List Int):List Int:=w.map fun y=>o.mul (o.inv (w.getD ((mO w).getD 0) 0)) y
def mV (o:Cw.Op) (w:List Int) (s:List Int×Int):List Int×Int:=
 if wt w=0∨(0<wt s.1/\wt s.1<wt w) then(s.1,IntKind.i64.wrap (s.2+1)) else
  if wt s.1=0∨wt w<wt s.1∨cmpL (fC o w) s.1<0 then(fC o w,IntKind.i64.wrap (s.2+1)) else(s.1,IntKind.i64.wrap (s.2+1))
def Wx (o:Cw.Op) (r w:List Int) (rec:List Int->List Int×Int->List Int×Int):Nat->Nat->List Int×Int->List Int×Int
 |0,_,s=>s
 |f+1,a,s=>Wx o r w rec f (a+1) (rec (iP o a r w) s)
def YF (o:Cw.Op) (q:Nat) (B:List (List Int)) (w:List Int) (alone:Bool) (rec:Nat->List Int->List Int×Int->List Int×Int):Nat->Nat->List Int×Int->List Int×Int
 |0,_,s=>s
 |f+1,i,s=>YF o q B w alone rec f (i+1) (Wx o (Gj.row B i) w (rec (i+1)) (if alone then min 1 (q-1) else q-1) 1 s)
def zD (o:Cw.Op) (q:Nat) (B:List (List Int)):Nat->List Int->Nat->Bool->List Int×Int->List Int×Int
 |0,w,_,_,s=>mV o w s
 |n+1,w,first,alone,s=>YF o q B w alone (fun i v s=>zD o q B n v i false s) (B.length-n-first) first s
def Aa (o:Cw.Op) (q n w:Nat) (Gs:List (List (List Int))) (s:List Int×Int):List Int×Int:=Gs.foldl (fun s B=>zD o q B w (List.replicate n 0) 0 true s) s
def prR (most:Int) (l:List Int):Option Int:=if most<0 then none else prO most l 1
def chR (n k most:Nat):Option Nat:=if n<k then some 0 else chO (n-min k (n-k)) most (min k (n-k))
def YG (k q g:Nat) (words:Int) (w:Nat):Prop:=q=2/\∃ n,chR k w 65536=some n/\prR (IntKind.i64.wrap (65536-words)) [(g:Int),(n:Int),1]≠none
inductive Lp (o:Cw.Op) (k q n:Nat) (Gs:List (List (List Int))) (rk:List Int):Nat->List Int×Int->Option (List Int)->Prop
 |big (w:Nat) (s:List Int×Int) (hw:w<=k) (h:¬ YG k q Gs.length s.2 w):Lp o k q n Gs rk w s none
 |stop (w:Nat) (s:List Int×Int) (hw:w<=k) (h:(wt (Aa o q n w Gs s).1:Int)<jy k w rk):Lp o k q n Gs rk w s (some (Aa o q n w Gs s).1)
 |next (w:Nat) (s:List Int×Int) (r:Option (List Int)) (hw:w<=k) (h:¬ (wt (Aa o q n w Gs s).1:Int)<jy k w rk) (hr:Lp o k q n Gs rk (w+1) (Aa o q n w Gs s) r):Lp o k q n Gs rk w s r
 |done (w:Nat) (s:List Int×Int) (hw:k<w):Lp o k q n Gs rk w s (some s.1)
def dM (A:List (List Int)) (S:List Nat):List (List Int):=A.map fun r=>S.map fun j=>r.getD j 0
def jF (n:Nat):List (List Int):=(List.range n).map fun i=>(List.replicate n 0).set i 1
def acA (o:Cw.Op) (B:List (List Int)) (cols:Nat) (x:List Int):List Int:=(List.range x.length).foldl (fun v i=>if x.getD i 0=0 then v else iP o (x.getD i 0) (Gj.row B i) v) (List.replicate cols 0)
def mulL (o:Cw.Op) (X B:List (List Int)) (cols:Nat):List (List Int):=X.map (acA o B cols)
def AX (o:Cw.Op) (X:List (List Int)):List (List Int) ×List Nat:=((gjP o X.length 0 X (jF X.length) []).2.1,(gjP o X.length 0 X (jF X.length) []).2.2)
def Dx (o:Cw.Op) (A:List (List Int)) (n:Nat) (S:List Nat):List (List Int):=mulL o (AX o (dM A S)).1 A n
theorem YH:Dx op2 lH 7 [0,1,2,3]=lH/\(AX op2 (dM lH [0,1,2,3])).2.length=4:=by decide
def UL:List (List Int):=[[1,1,1,0,0,0,0],[0,1,1,1,1,0,0],[0,1,0,1,0,1,0],[0,0,1,1,0,0,1]]
theorem YI:Dx op2 lH 7 [0,4,5,6]=UL/\(AX op2 (dM lH [0,4,5,6])).2.length=4:=by decide
theorem more1:YG 4 2 2 0 1:=⟨rfl,4,by decide,by decide⟩
theorem aas:Aa op2 2 7 1 [lH,UL] ([],0)=([0,0,1,0,1,1,0],8):=by decide
theorem more2:YG 4 2 2 8 2:=⟨rfl,6,by decide,by decide⟩
theorem aat:Aa op2 2 7 2 [lH,UL] ([0,0,1,0,1,1,0],8)=([0,0,1,0,1,1,0],20):=by decide
theorem UM (r:Option (List Int)) (h:Lp op2 4 2 7 [lH,UL] [4,3] 1 ([],0) r):r=some [0,0,1,0,1,1,0]:=by
 cases h with
 |big _ _ _ h=>exact absurd more1 h
 |stop _ _ _ h=>rw[aas] at h;exact absurd h (by decide)
 |next _ _ _ _ _ h=>
  rw[aas] at h;cases h with
  |big _ _ _ h=>exact absurd more2 h
  |stop=>rw[aat]
  |next _ _ _ _ h=>exact absurd (by rw[aat];decide) h
  |done _ _ h=>exact absurd h (by decide)
 |done _ _ h=>exact absurd h (by decide)
end
section
open Go.RowKit Go.Sort Cw Cw.Gj
def mW (l:List Int):List Int:=l.mergeSort fun x y=>decide (x<=y)
theorem Jk (l:List Int):(mW l).length=l.length:=by simp[mW]
theorem PE {w:World} {g:Nat} {cur:Array Value} {e:TypeId} {l:List Int} (hb:w.heap[g]?=some (.cells cur e (0,0))) (ht:cur.toList.take l.length=l.map (Value.int .i64)):Holds (Value.int .i64) w g 0 l.toArray:=by
 intro j hj;have hj':j<l.length:=by simpa using hj
 refine⟨?_,by simp[World.frozen?,hb]⟩;have h1:(cur.toList.take l.length)[j]?=(l.map (Value.int .i64))[j]?:=by rw[ht]
 rw[wX hj'] at h1;simp only[World.cell?,hb,xQ];simp only[Option.isSome_none,Bool.false_eq_true,if_false];rw[<-Array.getElem?_toList,h1];simp[hj']
theorem PG {w:World} {g n:Nat} {os:Array Obj} {cur:Array Value} {e:TypeId} {fr:Nat×Nat} (d:Array Int) (hb:w.heap[g]?=some (.cells cur e fr)):
  (grow (putRow (Value.int .i64) (Sort.ahead w n) g 0 d) os).heap[g]?=some (.cells (putCells (Value.int .i64) 0 d cur) e fr):=by
 have hg:g<w.heap.size:=(zL.1 hb).1;rw[heap_grow_old _ _ (by simpa using hg)];simp[putRow,mapBlock,Sort.ahead,Array.getElem?_modify,hb,onCells]
theorem Gw {w:World} {g n:Nat} {os:Array Obj} (d:Array Int):w.grownBy (grow (putRow (Value.int .i64) (Sort.ahead w n) g 0 d) os) (some g):=by
 refine⟨rfl,rfl,rfl,by simp,fun k hk hne=>?_⟩;rw[heap_grow_old _ _ (by simpa using hk)];have:g≠k:=fun e=>hne (by rw[e]);simp[putRow,mapBlock,Sort.ahead,Array.getElem?_modify,this]
theorem UN (cur:Array Value) (ts:List Int) (h:ts.length<=cur.size):(putCells (Value.int .i64) 0 ts.toArray cur).toList.take ts.length=ts.map (Value.int .i64):=by
 apply List.ext_getElem?;intro j;by_cases hj:j<ts.length
 ·rw[wX hj,Array.getElem?_toList];simp[putCells,hj,show j<cur.size by omega]
 ·rw[List.getElem?_take_eq_none (by omega),zT (by simp;omega)]
theorem Gx (v:Value) (l:List Int) (B:Nat) (w:World) (hv:Own w B v l) (hl:l.length<=1000000):
  Calls Tryz.prog 103 #[v] w fun e w'=>e=.returned (.tuple #[])/\Own w' B v (mW l)/\((w'=w/\v.ownBlock=none)∨ ∃ g,v.ownBlock=some g/\w.grownBy w' (some g)):=by
 obtain⟨h0,h⟩:=hv;rcases h with⟨rfl,hn⟩|⟨g,cap,cur,rfl,hbase,hb,h1,h2,h3,h4⟩
 ·have e:l=[]:=zO hn;subst e;refine(Any.slices_Sort_int_none Tryz.laysSort none 0 w).mono ?_;rintro e w' ⟨rfl,rfl⟩;exact⟨rfl,by unfold mW;simp;exact bZ _ _,.inl ⟨rfl,rfl⟩⟩
 ·refine(Any.slices_Sort_int Tryz.laysSort g 0 cap l w (PE hb (by simpa using h4)) (zL.1 hb).1 (by omega)).mono ?_;rintro e w' ⟨rfl,n,os,rfl⟩;refine⟨rfl, ?_,.inr ⟨g,rfl,Gw _⟩⟩;have hlen:(mW l).length=l.length:=Jk l;refine⟨by simp,.inr ⟨g,cap,_,by rw[hlen],hbase,PG _ hb,by rw[hlen];exact h1,h2,by simp[putCells,h3], ?_⟩⟩;rw[uX];have:=UN cur (mW l) (by rw[hlen];omega);simpa[mW] using this
end
section
open Go.RowKit Cw Cw.Gj
theorem N8 (o:Cw.Op) (x:Int) (r v:List Int):(Ql o x r v).length=v.length:=by simp[Ql]
theorem Gy {o:Cw.Op} {x:Int} {r v:List Int} {j:Nat} (h:j<v.length):(Ql o x r v).getD j 0=o.add (v.getD j 0) (o.neg (o.mul x (r.getD j 0))):=by simp[Ql,List.getD,h]
theorem UO {o:Cw.Op} {rs:List (List Int)} {ps:List Nat} {i:Nat} (h:i<rs.length) (hl:ps.length=rs.length) (v:List Int):
  dV o (rs.drop i) (ps.drop i) v=dV o (rs.drop (i+1)) (ps.drop (i+1)) (if v.getD (ps.getD i 0) 0=0 then v else Ql o (v.getD (ps.getD i 0) 0) (Gj.row rs i) v):=by
 have h':i<ps.length:=by omega
 rw[yP h,yP h',dV];have e1:ps.getD i 0=ps[i]:=by simp[List.getD,h']
 have e2:Gj.row rs i=rs[i]:=by simp[Gj.row,List.getD,h]
 rw[e1,e2]
theorem YJ {o:Cw.Op} {rs:List (List Int)} {ps:List Nat} {i:Nat} (h:rs.length<=i) (v:List Int):dV o (rs.drop i) (ps.drop i) v=v:=by
 rw[xW h,dV];intro r rs p ps e;cases e
theorem Lr {o:Cw.Op} {rs:List (List Int)} {ps:List Nat} {v:List Int} (h:DW (dV o rs ps v)<0):kY o rs ps v=(rs,ps,false):=by
 unfold DW at h;unfold kY;cases q:mO (dV o rs ps v) with
 |none=>simp[q]
 |some k=>rw[q] at h;exact absurd h (by simp)
theorem Gz {o:Cw.Op} {rs:List (List Int)} {ps:List Nat} {v:List Int} (h:¬ DW (dV o rs ps v)<0):∃ k:Nat,DW (dV o rs ps v)=k/\k< (dV o rs ps v).length/\(dV o rs ps v).getD k 0≠0/\
  kY o rs ps v=(rs++ [(dV o rs ps v).map fun y=>o.mul (o.inv ((dV o rs ps v).getD k 0)) y],ps++ [k],true):=by
 cases q:mO (dV o rs ps v) with
 |none=>exact absurd (by simp[DW,q]) h
 |some k=>
  obtain⟨h1,h2,_⟩:=mQ q;exact⟨k,by simp[DW,q],h1,h2,by simp[kY,q]⟩
def BaS (bb:Nat) (vr:Value) (rv:Nat->Value) (n:Nat) (vp:Value) (x:Nat):Prop:=x=bb∨Has vr rv n x∨vp.ownBlock=some x
structure BaM (w:World) (B0 bb b:Nat) (rs:List (List Int)) (ps:List Nat) (vr:Value) (rv:Nat->Value) (vp:Value):Prop where
 bk:Bk w bb [.pointer (some ⟨b,0,none⟩),vr,vp]
 fz:Fz w bb
 lo:B0<=bb
 m:Mx w B0 vr rs rv
 p:Own w B0 vp (bQ ps)
 n1:¬ Has vr rv rs.length bb
 n2:vp.ownBlock≠some bb
 n3:∀ x,Has vr rv rs.length x->vp.ownBlock≠some x
theorem BaM.kept {w w':World} {B0 bb b:Nat} {rs:List (List Int)} {ps:List Nat} {vr:Value} {rv:Nat->Value} {vp:Value} (h:BaM w B0 bb b rs ps vr rv vp) (k:ay w w'):BaM w' B0 bb b rs ps vr rv vp:=
 ⟨h.bk.kept k,h.fz.kept k,h.lo,h.m.kept k,h.p.kept k,h.n1,h.n2,h.n3⟩
theorem BaM.lt {w:World} {B0 bb b:Nat} {rs:List (List Int)} {ps:List Nat} {vr:Value} {rv:Nat->Value} {vp:Value} (h:BaM w B0 bb b rs ps vr rv vp) {x:Nat} (hx:BaS bb vr rv rs.length vp x):B0<=x/\x<w.heap.size:=by
 rcases hx with rfl|hx|hx
 ·exact⟨h.lo,h.bk.1⟩
 ·exact h.m.has_lt hx
 ·exact aN h.p hx
theorem BaM.grown {w w':World} {B0 bb b:Nat} {rs:List (List Int)} {ps:List Nat} {vr:Value} {rv:Nat->Value} {vp:Value} (h:BaM w B0 bb b rs ps vr rv vp) {x:Nat} (hg:w.grownBy w' (some x)) (hx:¬ BaS bb vr rv rs.length vp x):BaM w' B0 bb b rs ps vr rv vp:=by
 have e:bb≠x:=fun e=>hx (.inl e.symm);refine⟨h.bk.gb hg e,h.fz.gb hg e,h.lo,h.m.grown hg (fun q=>hx (.inr (.inl q))),h.p.grownBy hg ?_,h.n1,h.n2,h.n3⟩;cases q:vp.ownBlock with
 |none=>exact .inl rfl
 |some y=>exact .inr fun e2=>hx (.inr (.inr (by rw[q];exact e2)))
theorem aii {S:Nat->Prop} {a b c:World} {g:Nat} (h:a.grownBy b (some g)) (k:Fr S b c) (hg:S g):Fr S a c:=
 ⟨k.os.trans h.os,k.tape.trans h.tape,k.output.trans h.output,zJ h.size k.size,fun i hi hn=>(k.block i (zZ hi h.size) hn).trans (h.block i hi (fun e=>hn (by cases e;exact hg)))⟩
theorem aau {S:Nat->Prop} {a b:World} {x:Option Nat} (h:a.grownBy b x) (hg:∀ g,x=some g->S g):Fr S a b:=⟨h.os,h.tape,h.output,h.size,fun i hi hn=>h.block i hi (fun e=>hn (hg i e.symm))⟩
section
variable {w w4 w5 w6:World} {B0 bb b:Nat} {rs:List (List Int)} {ps:List Nat} {vr:Value} {rv:Nat->Value} {vp:Value}
theorem kZ {w:World} {ops:Array Oper} {o:Oper} {a:Act} {K:Act->World->Prop} {Q:Exit->Act->World->Prop} {E:Prop} (hgd:o.guard=none) (s x:Operand)
  (ho:o.op=.call {callee:=.builtin .append,args:=#[s,x],argTypes:=#[27,27]}) (B:Nat) (v:Value) (m:Nat) (rs:List Value) (hs:a.eval s=v) (hown:w.ownsRow B 22 1 v m rs)
  (ad:Addr) (y:Value) (hx:a.eval x=.slice (some ad) 1 1) (hc:w.cell? ad=some y) (hy:y.oneCell'=true) (hlen:m+1<=1000000) (hB:B<=w.heap.size)
  (h:∀ w5 v' w',w5=w->w'.ownsRow B 22 1 v' (m+1) (rs++ [y])->w5.grownBy w' v.ownBlock->(v'.ownBlock=v.ownBlock∨v'.ownBlock=some w5.heap.size)->K (a.put o.dst v') w'):
  if Region.wanted o (yielded ops a.tmps)=true then Oper.wp Tryz.prog o a w K Q else E:=
 AV hgd s x ho B v m rs hs hown ad y hx hc hy hlen hB fun v' w' h1 h2 h3=>h w v' w' rfl h1 h2 h3
theorem BaM.addRow (h:BaM w B0 bb b rs ps vr rv vp) (k:ay w w5) {u v6:Value} {l:List Int} (ho:Own w5 w.heap.size u l)
  (o6:w6.ownsRow B0 22 1 v6 (rs.length+1) ((List.range rs.length).map rv++ [u])) (hg:w5.grownBy w6 vr.ownBlock) (hd:v6.ownBlock=vr.ownBlock∨v6.ownBlock=some w5.heap.size):
  BaM (w6.setCell ⟨bb,1,none⟩ v6) B0 bb b (rs++ [l]) ps v6 (fun i=>if i=rs.length then u else rv i) vp/\(∀ x,BaS bb v6 (fun i=>if i=rs.length then u else rv i) (rs++ [l]).length vp x->BaS bb vr rv rs.length vp x∨w.heap.size<=x)/\
   Fr (BaS bb vr rv rs.length vp) w (w6.setCell ⟨bb,1,none⟩ v6):=by
 have hB:B0<=w.heap.size:=Nat.le_of_lt (Nat.lt_of_le_of_lt h.lo h.bk.1);have hnew:∀ x,Has v6 (fun i=>if i=rs.length then u else rv i) (rs.length+1) x->Has vr rv rs.length x∨w.heap.size<=x:=fun x hx=>by
  rcases hx with e|⟨i,hi,e⟩
  ·rcases hd with q|q
   ·exact .inl (.inl (by rw[<-q];exact e))
   ·rw[q] at e;have:w5.heap.size=x:=by simpa using e
    exact .inr (by have:=k.size;omega)
  ·by_cases q:i=rs.length
   ·simp only[q,if_true] at e;exact .inr (aN ho e).1
   ·simp only[q,if_false] at e;exact .inl (.inr ⟨i,by omega,e⟩)
 have hol:∀ {g:Nat},Has vr rv rs.length g->B0<=g/\g<w.heap.size:=fun hg=>h.m.has_lt hg;have hpl:=fun x e=>(aN h.p (g:=x) e)
 have m6:=(h.m.kept k).add (ho.mono hB) (fun x hx j hj e=>by
  have h1:=aN ho hx;have h2:=hol (.inr ⟨j,hj,e⟩);omega) o6 hg
 have nbb:¬ Has v6 (fun i=>if i=rs.length then u else rv i) (rs.length+1) bb:=fun q=>by
  rcases hnew _ q with q|q
  ·exact h.n1 q
  ·have:=h.bk.1;omega
 have gs:=aj w6 bb 1 v6;have hvp:∀ x,vp.ownBlock=none∨vp.ownBlock≠some x∨vp.ownBlock=some x:=fun x=>by
  by_cases q:vp.ownBlock=some x
  ·exact .inr (.inr q)
  ·exact .inr (.inl q)
 have p6:Own w6 B0 vp (bQ ps):=(h.p.kept k).grownBy hg (by
  cases q:vp.ownBlock with
  |none=>exact .inl rfl
  |some y=>exact .inr fun e=>h.n3 y (.inl e.symm) q)
 have nvr:vr.ownBlock≠some bb:=fun e=>h.n1 (.inl e);refine⟨⟨((h.bk.kept k).gbo hg nvr).set 1 v6, ?_,h.lo, ?_, ?_, ?_,h.n2,fun x hx=>?_⟩,fun x hx=>?_, ?_⟩
 ·exact⟨by have:=((h.fz.kept k).gbo hg nvr).1;simpa using this,fun i=>by rw[World.frozen?_setCell];exact((h.fz.kept k).gbo hg nvr).2 i⟩
 ·exact m6.grown gs (by rw[zX];exact nbb)
 ·exact p6.grownBy gs (by
   cases q:vp.ownBlock with
   |none=>exact .inl rfl
   |some y=>exact .inr fun e=>h.n2 (q.trans e))
 ·rw[zX];exact nbb
 ·rw[zX] at hx;intro e;rcases hnew x hx with q|q
  ·exact h.n3 x q e
  ·have:=(hpl x e).2;omega
 ·rw[zX] at hx;rcases hx with rfl|hx|hx
  ·exact .inl (.inl rfl)
  ·rcases hnew x hx with q|q
   ·exact .inl (.inr (.inl q))
   ·exact .inr q
  ·exact .inl (.inr (.inr hx))
 ·have f1:Fr (BaS bb vr rv rs.length vp) w5 (w6.setCell ⟨bb,1,none⟩ v6):=(aau hg (fun g e=>.inr (.inl (.inl e)))).tr (Fr.OT (S:=BaS bb vr rv rs.length vp) gs (.inl rfl)) (fun _ _ q=>q);exact(Fr.mg (BaS bb vr rv rs.length vp) k).tr f1 (fun _ _ q=>q)
theorem BaM.YK (h:BaM w B0 bb b rs ps vr rv vp) (k:ay w w5) {v6:Value} {p:Nat}
  (o6:Own w6 B0 v6 (bQ ps++ [(p:Int)])) (hg:w5.grownBy w6 vp.ownBlock) (hd:vp.ownBlock=v6.ownBlock∨ ∃ y,v6.ownBlock=some y/\w5.heap.size<=y):
  BaM (w6.setCell ⟨bb,2,none⟩ v6) B0 bb b rs (ps++ [p]) vr rv v6/\(∀ x,BaS bb vr rv rs.length v6 x->BaS bb vr rv rs.length vp x∨w.heap.size<=x)/\
   Fr (BaS bb vr rv rs.length vp) w (w6.setCell ⟨bb,2,none⟩ v6):=by
 have hol:∀ {g:Nat},Has vr rv rs.length g->B0<=g/\g<w.heap.size:=fun hg=>h.m.has_lt hg;have hnew:∀ x,v6.ownBlock=some x->vp.ownBlock=some x∨w.heap.size<=x:=fun x e=>by
  rcases hd with q|⟨y,q,hy⟩
  ·exact .inl (q.trans e)
  ·rw[q] at e;have:y=x:=by simpa using e
   exact .inr (by have:=k.size;omega)
 have gs:=aj w6 bb 2 v6;have nv6:v6.ownBlock≠some bb:=fun e=>by
  rcases hnew _ e with q|q
  ·exact h.n2 q
  ·have:=h.bk.1;omega
 have m6:Mx w6 B0 vr rs rv:=by
  cases q:vp.ownBlock with
  |none=>
   rw[q] at hg;exact(h.m.kept k).kept ⟨hg.os,hg.tape,hg.output,hg.size,fun i hi=>hg.block i hi (by simp)⟩
  |some y=>
   rw[q] at hg;exact(h.m.kept k).grown hg (fun e=>h.n3 y e q)
 refine⟨⟨((h.bk.kept k).gbo hg h.n2).set 2 v6, ?_,h.lo,m6.grown gs h.n1, ?_,h.n1,nv6,fun x hx e=>?_⟩,fun x hx=>?_, ?_⟩
 ·exact⟨by have:=((h.fz.kept k).gbo hg h.n2).1;simpa using this,fun i=>by rw[World.frozen?_setCell];exact((h.fz.kept k).gbo hg h.n2).2 i⟩
 ·have e:bQ (ps++ [p])=bQ ps++ [(p:Int)]:=by simp[bQ]
  rw[e];exact o6.grownBy gs (by
   cases q:v6.ownBlock with
   |none=>exact .inl rfl
   |some y=>exact .inr fun e=>nv6 (q.trans e))
 ·rcases hnew x e with q|q
  ·exact h.n3 x hx q
  ·have:=hol hx;omega
 ·rcases hx with rfl|hx|hx
  ·exact .inl (.inl rfl)
  ·exact .inl (.inr (.inl hx))
  ·rcases hnew x hx with q|q
   ·exact .inl (.inr (.inr q))
   ·exact .inr q
 ·have f1:Fr (BaS bb vr rv rs.length vp) w5 (w6.setCell ⟨bb,2,none⟩ v6):=(aau hg (fun g e=>.inr (.inr e))).tr (Fr.OT (S:=BaS bb vr rv rs.length vp) gs (.inl rfl)) (fun _ _ q=>q);exact(Fr.mg (BaS bb vr rv rs.length vp) k).tr f1 (fun _ _ q=>q)
end
end
end Go.Proofs.YtoilbeadokallaaGreatDoor
