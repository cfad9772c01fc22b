/- Lemmas on the way to the row. Conditions: each lemma's own, stated with it. -/
import Derived.Test.YtoilbeadokallaaGreatDoorK07
import Derived.Test.YtoilbeadokallaaGreatDoorK08
import Derived.Test.YtoilbeadokallaaGreatDoorK12
import Derived.Deep.RegionHeld3
set_option maxHeartbeats 4000000
namespace Go.Proofs.YtoilbeadokallaaGreatDoor
section
open Go.RowKit Cw Cw.Gj
def Ro (w:World) (B:Nat) (v:Value) (A:List (List Int)):Prop:=
 ∃ (a:Option Addr) (cap:Nat),v=.slice a A.length cap/\A.length<=cap/\(cap<=maxLen/\(a=none->cap=0))/\
  (A≠ []->∃ b off,a=some ⟨b,off,none⟩/\B<=b/\b<w.heap.size/\∀ i,i<A.length->∃ u,w.cell? ⟨b,off+i,none⟩=some u/\Own w B u (Gj.row A i))
theorem Ro.rd {w:World} {B:Nat} {v:Value} {A:List (List Int)} (h:Ro w B v A):Rd w v A:=by
 obtain⟨a,cap,h1,h2,h3,h4⟩:=h;refine⟨a,cap,h1,h2,h3,fun hx=>?_⟩;obtain⟨b,off,e,_,hb,hc⟩:=h4 hx;exact⟨b,off,e,hb,fun i hi=>by
  obtain⟨u,u1,u2⟩:=hc i hi;exact⟨u,u1,u2.sl⟩⟩
theorem Ro.kept {w w':World} {B:Nat} {v:Value} {A:List (List Int)} (h:Ro w B v A) (k:ay w w'):Ro w' B v A:=by
 obtain⟨a,cap,h1,h2,h3,h4⟩:=h;refine⟨a,cap,h1,h2,h3,fun hx=>?_⟩;obtain⟨b,off,e,hB,hb,hc⟩:=h4 hx;exact⟨b,off,e,hB,k.lt hb,fun i hi=>by
  obtain⟨u,u1,u2⟩:=hc i hi;exact⟨u,(k.cell' hb).trans u1,u2.kept k⟩⟩
theorem Ro.mono {w:World} {B B':Nat} {v:Value} {A:List (List Int)} (h:Ro w B v A) (hB:B'<=B):Ro w B' v A:=by
 obtain⟨a,cap,h1,h2,h3,h4⟩:=h;refine⟨a,cap,h1,h2,h3,fun hx=>?_⟩;obtain⟨b,off,e,hb0,hb,hc⟩:=h4 hx;exact⟨b,off,e,zJ hB hb0,hb,fun i hi=>by
  obtain⟨u,u1,u2⟩:=hc i hi;exact⟨u,u1,u2.mono hB⟩⟩
theorem aV {w:World} {B b i:Nat} {v:Value} {xs:List Int} (h:Own w B v xs) (hb:b<B) (x:Value):Own (w.setCell ⟨b,i,none⟩ x) B v xs:=h.setOther ⟨b,i,none⟩ x (fun g n c e=>by
 subst e;have:=h.lt.1;show g≠b;omega)
theorem Ro.set {w:World} {B b i:Nat} {v:Value} {A:List (List Int)} (h:Ro w B v A) (hb:b<B) (x:Value):Ro (w.setCell ⟨b,i,none⟩ x) B v A:=by
 obtain⟨a,cap,h1,h2,h3,h4⟩:=h;refine⟨a,cap,h1,h2,h3,fun hx=>?_⟩;obtain⟨c,off,e,hB,hc0,hc⟩:=h4 hx;exact⟨c,off,e,hB,by simpa[World.setCell] using hc0,fun j hj=>by
  obtain⟨u,u1,u2⟩:=hc j hj;exact⟨u,(World.cell?_of_block (w:=w) (a:=⟨c,off+j,none⟩) (Below.heap_setCell _ _ _ _ (by show c≠b;omega))).trans u1,aV u2 hb x⟩⟩
theorem aeW (w:World) (B:Nat):Ro w B (.slice none 0 0) []:=⟨none,0,rfl,zy _,⟨xZ _,fun _=>rfl⟩,fun h=>absurd rfl h⟩
theorem Ro.get {w:World} {B:Nat} {v:Value} {A:List (List Int)} (h:Ro w B v A):∃ a cap,v=.slice a A.length cap/\A.length<=cap/\cap<=maxLen:=by
 obtain⟨a,cap,h1,h2,⟨h3,_⟩,_⟩:=h;exact⟨a,cap,h1,h2,h3⟩
theorem Mx.aeX {w:World} {B g n cap:Nat} {A:List (List Int)} {rv:Nat->Value} (h:Mx w B (.slice (some ⟨g,0,none⟩) n cap) A rv) {k:Nat} (hk:k<=A.length):Ro w B (.slice (some ⟨g,0,none⟩) k k) (A.take k):=by
 have hl:(A.take k).length=k:=by simp;omega
 have hcap:k<=maxLen:=by
  rcases h.form with⟨e,_⟩|⟨_,_,e,_,_,h3,h4⟩
  ·cases e
  ·cases e;omega
 refine⟨some ⟨g,0,none⟩,k,by rw[hl],by omega,⟨hcap,fun e=>by cases e⟩,fun _=>⟨g,0,rfl,(h.has_lt (.inl rfl)).1,(h.has_lt (.inl rfl)).2,fun i hi=>?_⟩⟩;rw[hl] at hi;refine⟨rv i,by rw[xQ];exact h.cell (by omega), ?_⟩;rw[Bd hi];exact h.row i (by omega)
theorem aI (P:List Nat):(bQ P).length=P.length:=by simp[bQ]
theorem ahK {v:Value} {rv:Nat->Value} {n x:Nat}:Has v rv n x->¬ Has (.slice none 0 0) (fun _=>.slice none 0 0) 0 x:=fun _ q=>by
 rcases q with q|⟨i,hi,_⟩
 ·cases q
 ·exact absurd hi (yw _)
theorem Xv (b:Nat) (G:GFd) (t:aK G) (cols:Nat) (v1:Value) (A1:List (List Int)) (r1:Nat->Value) (w0 w:World) (hg:dW w0 b G) (hk0:ay w0 w) (hm:Mx w w0.heap.size v1 A1 r1) (hw:WF G.q A1 cols) (hc1:1<=cols) (hc2:cols<=256) (hn1:A1.length<=256):
  Calls Tryz.prog 131 #[.pointer (some ⟨b,0,none⟩),v1,.int .i64 cols,.slice none 0 0] w (KI w0 (opG G) cols v1 (.slice none 0 0) A1 []):=by
 by_cases hA:A1=[]
 ·subst hA;exact D7 b G cols v1 w0 w hk0 r1 hm hc1
 ·obtain⟨g,cap,rfl,_⟩:=hm.get hA;exact qX b G t cols 1 g cap (.slice none 0 0) A1 [] r1 (fun _=>.slice none 0 0) w0 w hg hk0 ⟨hm,qR _ _,fun x=>ahK⟩ hw (fun i hi=>absurd hi (yw _)) (.inl rfl) hc1 hc2 hn1 (zy _) (by omega)
theorem CS (b:Nat) (G:GFd) (t:aK G) (cols:Nat) (v:Value) (A:List (List Int)) (w:World) (hg:dW w b G) (hv:Rd w v A) (hw:WF G.q A cols) (hc1:1<=cols) (hc2:cols<=256) (hn:A.length<=256):
  Calls Tryz.prog 70 #[.pointer (some ⟨b,0,none⟩),v,.int .i64 cols] w fun e w'=>∃ v' pv,e=.returned (.tuple #[v',pv])/\Ro w' w.heap.size v' (oQ (opG G) A cols)/\Own w' w.heap.size pv (bQ (pvL (opG G) A cols))/\ay w w':=by
 have hcl:∀ i,i<A.length->(Gj.row A i).length<=1000:=fun i hi=>by rw[hw.wf i hi];omega
 have HCL:=hid hcl;have hri:=(Ar t cols 0 (by omega) (jC hw)).1.lt;rw[(Ar t cols 0 (by omega) (jC hw)).2.1] at hri;obtain⟨e1,e2⟩:=IJ (opG G) cols 0 A [] [];have HE1:=hid e1;have HE2:=hid e2;have HL:Hid ((gj (opG G) cols 0 A []).2.length<=(gj (opG G) cols 0 A []).1.length):=hid (Ar t cols 0 (by omega) (jC hw)).1.lt;obtain⟨np,hnp⟩:∃ np,np=(gj (opG G) cols 0 A []).2.length:=⟨_,rfl⟩
 rw[<-hnp] at hri;have HNP:=hid hnp;clear hcl e1 e2 hnp;go_enter Tryz.func70,Tryz.ntmps70;go_wp2_with(fail)
 refine(EH v A w hv hn HCL.out).mono ?_;rintro e w1 ⟨v1,rv,rfl,hob,hm,hk1⟩;obtain⟨g,cap,rfl,hcap,hcm⟩:∃ g cap,v1=.slice (some ⟨g,0,none⟩) A.length cap/\A.length<=cap/\cap<=maxLen:=by
  rcases hm.form with⟨e,_⟩|⟨g,cap,e,_,_,h3,h4⟩
  ·rw[e] at hob;exact absurd rfl hob
  ·exact⟨g,cap,e,h3,h4⟩
 unfold maxLen at hcm;clear hob;go_wp2_with(fail)
 refine(Xv b G t cols _ A rv w w1 hg hk1 hm hw hc1 hc2 hn).mono ?_;rintro e w2 ⟨vp,d,s1,s2,rfl,hk2,hm2,hp2⟩;rw[HE1.out] at hm2;rw[HE2.out] at hp2;have hps:=hp2;obtain⟨pa,pc,rfl,_,_⟩:=hps.sl.lenOf;have hrd:=hm2.m1.aeX HL.out;rw[aI] at hps ⊢;rw[<-HNP.out] at hps hrd ⊢;have HRD:=hid hrd;have HPS:=hid hps;clear hrd hps hm2 hp2;have hi1:(np:Int)<=(cap:Int):=by omega
 go_wp2_with(fail)
 go_ret2;exact⟨_,_,rfl,by rw[oQ,<-HNP.out];exact HRD.out,by rw[pvL];exact HPS.out,hk2⟩
theorem FX (G:GFd) (t:aK G) (vm:Value) (bm cols:Nat) (v:Value) (A:List (List Int)) (w:World) (hvm:Sl w vm G.mod) (hbm:bm<w.heap.size)
  (m0:w.cell? ⟨bm,0,none⟩=some (.int .i64 cols)) (m1:w.cell? ⟨bm,1,none⟩=some v) (hv:Rd w v A) (hw:WF G.q A cols) (hc:cols<=256) (hn:A.length<=256):
  Calls Tryz.prog 69 #[.agg #[.int .i64 G.P,.int .i64 G.M,vm],.slice (some ⟨bm,0,none⟩) 1 1] w fun e w'=>∃ b H,e=.returned (.tuple #[.pointer (some ⟨b,0,none⟩),.int .i64 0])/\dW w' b H/\aK H/\opG H=opG G/\H.q=G.q/\ay w w':=
 (Xp G.P G.M vm G.mod bm cols v A w hvm t.field hbm m0 m1 hv (fun H hH h1 h2 h3=>by rw[show H.q=G.q by rw[hH.hq,t.hq,h1,h2]];exact hw) hc hn).mono fun _ _ ⟨b,H,he,h1,h2,h3,h4,h5,h6⟩=>
  ⟨b,H,he,h1,h2,EG h2 t h3 h4 h5,by rw[h2.hq,t.hq,h3,h4],h6⟩
structure adx (w:World) (b:Nat):Prop where
 lt:b<w.heap.size
 c0:w.cell? ⟨b,0,none⟩=some (.int .i64 0)
 c1:w.cell? ⟨b,1,none⟩=some (.slice none 0 0)
 f0:w.frozen? ⟨b,0,none⟩=false
 f1:w.frozen? ⟨b,1,none⟩=false
theorem adx.kept {w w':World} {b:Nat} (h:adx w b) (k:ay w w'):adx w' b:=
 ⟨k.lt h.lt,(k.cell' h.lt).trans h.c0,(k.cell' h.lt).trans h.c1,(k.frozen' h.lt).trans h.f0,(k.frozen' h.lt).trans h.f1⟩
structure BoxM (w:World) (b:Nat) (n:Int) (v:Value):Prop where
 lt:b<w.heap.size
 h0:w.cell? ⟨b,0,none⟩=some (.int .i64 n)
 h1:w.cell? ⟨b,1,none⟩=some v
theorem BoxM.kept {w w':World} {b:Nat} {n:Int} {v:Value} (h:BoxM w b n v) (k:ay w w'):BoxM w' b n v:=⟨k.lt h.lt,(k.cell' h.lt).trans h.h0,(k.cell' h.lt).trans h.h1⟩
theorem gX (w:World) (n:Int) (v:Value) (T:TypeId):BoxM (w.alloc (.cells #[.int .i64 n,v] T)) w.heap.size n v:=⟨by simp,by simp,by simp⟩
theorem Nw (w:World) (T:TypeId):adx (w.alloc (.cells #[.int .i64 0,.slice none 0 0] T)) w.heap.size:=⟨by simp,by simp,by simp,by simp,by simp⟩
theorem aA {w W:World} {b i:Nat} (x:Value) (h:ay w W) (hb:w.heap.size<=b):ay w (W.setCell ⟨b,i,none⟩ x):=Below.setCell h (p:=⟨b,i,none⟩) hb x
def aeY (o:Cw.Op) (A:List (List Int)) (cols:Nat) (w:World) (e:Ending) (w':World):Prop:=
 ∃ v' pv,e=.returned (.tuple #[.agg #[.int .i64 cols,v'],pv,.int .i64 0])/\Ro w' w.heap.size v' (oQ o A cols)/\Own w' w.heap.size pv (bQ (pvL o A cols))/\ay w w'
set_option maxRecDepth 100000 in
theorem qY (G:GFd) (t:aK G) (vm:Value) (cols:Nat) (v:Value) (A:List (List Int)) (w:World) (hvm:Sl w vm G.mod) (hv:Rd w v A) (hw:WF G.q A cols) (hc1:1<=cols) (hc2:cols<=256) (hn:A.length<=256):
  Calls Tryz.prog 159 #[.agg #[.int .i64 G.P,.int .i64 G.M,vm],.agg #[.int .i64 cols,v]] w (aeY (opG G) A cols w):=by
 obtain⟨va,vc,rfl,_,_⟩:=hv.get;obtain⟨w1,hw1⟩:∃ w1,w1=((w.alloc (.cells #[.int .i64 G.P,.int .i64 G.M,vm] 24)).alloc (.cells #[.int .i64 cols,.slice va A.length vc] 71)).alloc (.cells #[.int .i64 0,.slice none 0 0] 71):=⟨_,rfl⟩
 have hk1:ay w w1:=by rw[hw1];exact((ah _ _).tr (ah _ _)).tr (ah _ _)
 have bf:nJ w1 w.heap.size G.P G.M vm:=by rw[hw1];exact((aS w _ _ _ _).kept (ah _ _)).kept (ah _ _)
 have bm:BoxM w1 (w.heap.size+1) cols (.slice va A.length vc):=by
  rw[hw1];have:=(gX (w.alloc (.cells #[.int .i64 G.P,.int .i64 G.M,vm] 24)) cols (.slice va A.length vc) 71).kept (ah _ (.cells #[.int .i64 0,.slice none 0 0] 71));simpa using this
 have br:adx w1 (w.heap.size+1+1):=by
  rw[hw1];have:=Nw ((w.alloc (.cells #[.int .i64 G.P,.int .i64 G.M,vm] 24)).alloc (.cells #[.int .i64 cols,.slice va A.length vc] 71)) 71;simpa using this
 have gG:=hvm.kept hk1;have hv1:=hv.kept hk1;have hkb:=ah w1 (.cells #[.int .i64 cols,.slice va A.length vc] 71);have b0:=bf.h0;have b1:=bf.h1;have b2:=bf.h2;have m0:=bm.h0;have m1:=bm.h1;have hsz1:w1.heap.size< (w1.alloc (.cells #[.int .i64 cols,.slice va A.length vc] 71)).heap.size:=by simp
 have x0:=(gX w1 cols (.slice va A.length vc) 71).h0;have x1:=(gX w1 cols (.slice va A.length vc) 71).h1;have hs1:w1.heap.size=w.heap.size+1+1+1:=by rw[hw1];simp
 rw[hs1] at x0 x1 hsz1;have HS1:=hid hs1;clear hs1;go_enter Tryz.func159,Tryz.ntmps159;go_wp2_with(fail)
 rw[<-hw1];clear hw1
 (with_reducible refine(FX G t vm (w.heap.size+1+1+1) cols _ A _ (gG.kept hkb) hsz1 x0 x1 (hv1.kept hkb) hw hc2 hn).mono ?_)
 rintro e w2 ⟨b,H,rfl,hg2,tH,hop,hq,hk2⟩;have hk12:=hkb.tr hk2;have bm2:=bm.kept hk12;have br2:=br.kept hk12;have hv2:=hv1.kept hk12;have hwH:WF H.q A cols:=by rw[hq];exact hw
 have HOP:=hid hop;clear hop hq x0 x1 b0 b1 b2 m0 m1 hkb hk2;have m0:=bm2.h0;have m1:=bm2.h1;go_wp2_with(fail)
 (with_reducible refine(CS b H tH cols _ A w2 hg2 hv2 hwH hc1 hc2 hn).mono ?_)
 rintro e w3 ⟨v',pv,rfl,hr3,hp3,hk3⟩;obtain⟨ra,rc,re,_,_⟩:=hr3.get;obtain⟨rl,hrl⟩:∃ n,n=(oQ (opG H) A cols).length:=⟨_,rfl⟩
 rw[<-hrl] at re;subst re;have bm3:=bm2.kept hk3;have br3:=br2.kept hk3;have Bj:=hk12.tr hk3;have hfin:=hk1.tr Bj;have HR:=hid hr3;have HP:=hid hp3;have HRL:=hid hrl;clear m0 m1 bm bm2 br br2 bf hv1 gG hsz1 hrl hr3 hp3;have m0:=bm3.h0;have m1:=bm3.h1;have r0:=br3.c0;have r1:=br3.c1;have f0:=br3.f0;have f1:=br3.f1;have kf:=fun x y=>aA (b:=w.heap.size+1+1) (i:=1) y (aA (b:=w.heap.size+1+1) (i:=0) x hfin (by omega)) (by omega);have KF:=hid kf;have hlow:w.heap.size+1+1<w2.heap.size:=by have:=hk12.size;have:=HS1.out;omega
 have hB:w.heap.size<=w2.heap.size:=(hk1.tr hk12).size;clear kf;go_wp2_with(fail)
 refine bodyPost_ret (v:=.tuple #[.agg #[.int .i64 cols,.slice ra rl rc],pv,.int .i64 0]) ?_ rfl ⟨_,_,rfl, ?_, ?_,KF.out _ _⟩
 ·simp[results,Tryz.results159,go_sem,r0,r1]
 ·rw[<-HOP.out];exact((HR.out.set hlow _).set hlow _).mono hB
 ·rw[<-HOP.out];exact(aV (aV HP.out hlow _) hlow _).mono hB
theorem oW {P:List Nat} {c:Nat}:(c:Int)∈bQ P↔c∈P:=by
 unfold bQ;rw[yY];constructor
 ·rintro⟨x,h1,h2⟩;have:x=c:=by omega
  rw[<-this];exact h1
 ·exact fun h=>⟨c,h,rfl⟩
theorem ints_at {P:List Nat} {i:Nat} (h:i<P.length):(bQ P).getD i 0=(P.getD i 0:Nat):=by
 unfold bQ;simp[List.getD,h]
def IL (o:Cw.Op) (R:List (List Int)) (P:List Nat) (cols c:Nat):List (List Int):=((List.range c).filter fun c=>decide (c ∉ P)).map (kv o R P cols)
theorem Xw {o:Cw.Op} {R:List (List Int)} {P:List Nat} {cols c:Nat} (h:c∈P):IL o R P cols (c+1)=IL o R P cols c:=by
 unfold IL;rw[xu,wV];simp[h]
theorem abK {o:Cw.Op} {R:List (List Int)} {P:List Nat} {cols c:Nat} (h:c ∉ P):IL o R P cols (c+1)=IL o R P cols c++ [kv o R P cols c]:=by
 unfold IL;rw[xu,wV];simp[h]
theorem Ny (o:Cw.Op) (R:List (List Int)) (P:List Nat) (cols c:Nat):(IL o R P cols c).length<=c:=by
 unfold IL;rw[yx];exact zJ (vT _ _) (by simp)
def aeZ (o:Cw.Op) (A:List (List Int)) (cols:Nat) (w:World) (e:Ending) (w':World):Prop:=
 ∃ v',e=.returned (.tuple #[.agg #[.int .i64 cols,v'],.int .i64 0])/\Ro w' w.heap.size v' (OO o (oQ o A cols) (pvL o A cols) cols)/\ay w w'
theorem Ro.cellAt {w:World} {B b off cap n:Nat} {A:List (List Int)} (h:Ro w B (.slice (some ⟨b,off,none⟩) n cap) A) {i:Nat} (hi:i<A.length):b<w.heap.size/\∃ u,w.cell? ⟨b,off+i,none⟩=some u/\Own w B u (Gj.row A i):=by
 obtain⟨a,c,e,_,_,h4⟩:=h;obtain⟨b',off',e2,_,hb,hc⟩:=h4 (by intro e;rw[e] at hi;simp at hi);cases e
 cases e2
 exact⟨hb,hc i hi⟩
theorem Ro.addr {w:World} {B:Nat} {a:Option Addr} {n cap:Nat} {A:List (List Int)} (h:Ro w B (.slice a n cap) A) (hA:A≠ []):∃ b off,a=some ⟨b,off,none⟩:=by
 obtain⟨a',c,e,_,_,h4⟩:=h;obtain⟨b',off',e2,_⟩:=h4 hA;cases e
 exact⟨b',off',e2⟩
set_option maxRecDepth 100000 in
theorem zf (G:GFd) (t:aK G) (vm:Value) (cols:Nat) (v:Value) (A:List (List Int)) (w:World) (hvm:Sl w vm G.mod) (hv:Rd w v A) (hw:WF G.q A cols) (hc1:1<=cols) (hc2:cols<=256) (hn:A.length<=256):
  Calls Tryz.prog 31 #[.agg #[.int .i64 G.P,.int .i64 G.M,vm],.agg #[.int .i64 cols,v]] w (aeZ (opG G) A cols w):=by
 obtain⟨va,vc,rfl,_,_⟩:=hv.get;obtain⟨w1,hw1⟩:∃ w1,w1=((w.alloc (.cells #[.int .i64 G.P,.int .i64 G.M,vm] 24)).alloc (.cells #[.int .i64 cols,.slice va A.length vc] 71)).alloc (.cells #[.int .i64 0,.slice none 0 0] 71):=⟨_,rfl⟩
 have hk1:ay w w1:=by rw[hw1];exact((ah _ _).tr (ah _ _)).tr (ah _ _)
 have bf:nJ w1 w.heap.size G.P G.M vm:=by rw[hw1];exact((aS w _ _ _ _).kept (ah _ _)).kept (ah _ _)
 have bm:BoxM w1 (w.heap.size+1) cols (.slice va A.length vc):=by
  rw[hw1];have:=(gX (w.alloc (.cells #[.int .i64 G.P,.int .i64 G.M,vm] 24)) cols (.slice va A.length vc) 71).kept (ah _ (.cells #[.int .i64 0,.slice none 0 0] 71));simpa using this
 have br:adx w1 (w.heap.size+1+1):=by
  rw[hw1];have:=Nw ((w.alloc (.cells #[.int .i64 G.P,.int .i64 G.M,vm] 24)).alloc (.cells #[.int .i64 cols,.slice va A.length vc] 71)) 71;simpa using this
 have gG:=hvm.kept hk1;have hv1:=hv.kept hk1;have hkb:=ah w1 (.cells #[.int .i64 cols,.slice va A.length vc] 71);have b0:=bf.h0;have b1:=bf.h1;have b2:=bf.h2;have m0:=bm.h0;have m1:=bm.h1;have hsz1:w1.heap.size< (w1.alloc (.cells #[.int .i64 cols,.slice va A.length vc] 71)).heap.size:=by simp
 have x0:=(gX w1 cols (.slice va A.length vc) 71).h0;have x1:=(gX w1 cols (.slice va A.length vc) 71).h1;have hs1:w1.heap.size=w.heap.size+1+1+1:=by rw[hw1];simp
 rw[hs1] at x0 x1 hsz1;have HS1:=hid hs1;clear hs1;go_enter Tryz.func31,Tryz.ntmps31;go_wp2_with(fail)
 rw[<-hw1];clear hw1
 (with_reducible refine(FX G t vm (w.heap.size+1+1+1) cols _ A _ (gG.kept hkb) hsz1 x0 x1 (hv1.kept hkb) hw hc2 hn).mono ?_)
 rintro e w2 ⟨b,H,rfl,hg2,tH,hop,hq,hk2⟩;have hk12:=hkb.tr hk2;have bm2:=bm.kept hk12;have br2:=br.kept hk12;have hv2:=hv1.kept hk12;have hwH:WF H.q A cols:=by rw[hq];exact hw
 have HOP:=hid hop;clear hop hq x0 x1 b0 b1 b2 m0 m1 hkb hk2;have m0:=bm2.h0;have m1:=bm2.h1;have hkt:=hk1.tr hk12;have hlow:w.heap.size+1+1<w2.heap.size:=by have:=hk12.size;have:=HS1.out;omega
 go_wp2_with(fail)
 (with_reducible refine(CS b H tH cols _ A w2 hg2 hv2 hwH hc1 hc2 hn).mono ?_)
 rintro e w3 ⟨v',pv,rfl,hr3,hp3,hk3⟩;obtain⟨hrf,hrl,_⟩:=Nr tH hwH;obtain⟨R,hR⟩:∃ R,R=oQ (opG H) A cols:=⟨_,rfl⟩
 obtain⟨P,hP⟩:∃ P,P=pvL (opG H) A cols:=⟨_,rfl⟩
 rw[<-hR,<-hP] at hrf;rw[<-hR] at hr3 hrl;rw[<-hP] at hp3;obtain⟨ra,rc,rfl,_,hrc⟩:=hr3.get;obtain⟨pa,pc,rfl,_,hpc⟩:=hp3.sl.lenOf;unfold maxLen at hrc hpc;rw[aI] at hp3 ⊢;have hRP:=hrf.len;have aeV:P.length<=256:=by omega
 have hg3:=hg2.kept hk3;have bm3:=bm2.kept hk3;have br3:=br2.kept hk3;have akX:=hkt.tr hk3;have HR:=hid hR;have HP:=hid hP;have HRP:=hid hRP;have HRF:=hid hrf;have HOH:Hid (opG H=opG G):=HOP;clear m0 m1 bm bm2 br br2 bf hv1 gG hsz1 hR hP hRP hrf hrl hk12 hv2 hk1;have m0:=bm3.h0;have m1:=bm3.h1;go_wp2_with(fail)
 go_loopw [10,37] (fun vo vi wr=>∃ (c:Nat) (oa:Option Addr) (oc:Nat) (rv:Nat->Value),c<=cols/\vi=.int .i64 c/\vo=.slice oa (IL (opG H) R P cols c).length oc/\Mx wr w3.heap.size (.slice oa (IL (opG H) R P cols c).length oc) (IL (opG H) R P cols c) rv/\ay w3 wr) (fun _ vi _=>cols- (intOf vi).toNat)
 case atStart=>exact⟨0,none,0,_,by omega,rfl,rfl,qR _ _,ay.rfl' _⟩
 case round=>
  obtain⟨c,oa,oc,rv,hc,rfl,rfl,hmx,hkr⟩:=hrel;obtain⟨wo,hwo⟩:∃ x,x=wr:=⟨_,rfl⟩
  rw[<-hwo] at hmx hkr ⊢;clear hwo;have bmr:=bm3.kept hkr;have brr:=br3.kept hkr;have hgr:=hg3.kept hkr;have hpr:=hp3.kept hkr;have hrr:=hr3.kept hkr;clear m0 m1;have m0:=bmr.h0;have m1:=bmr.h1;by_cases hlt:c<cols
  ·have hlt':(c:Int)< (cols:Int):=by omega
   by_cases hcP:c∈P
   ·have HC:=hid (oW.2 hcP);have HK:Hid (IL (opG H) R P cols (c+1)=IL (opG H) R P cols c):=hid (Xw hcP);clear hcP;go_wp2_with(go_at_call 37;(with_reducible refine(oq _ (bQ P) c _ hpr.sl HC.out).mono ?_);rintro e w4 ⟨rfl,rfl⟩)
    go_roundw;case rel=>exact⟨c+1,oa,oc,rv,by omega,by go_num,by rw[HK.out],by rw[HK.out];exact hmx,hkr⟩
    case measure=>simp[intOf];omega
   ·have HC:Hid ((c:Int) ∉ bQ P):=hid (fun q=>hcP (oW.1 q));have HK:Hid (IL (opG H) R P cols (c+1)=IL (opG H) R P cols c++ [kv (opG H) R P cols c]):=hid (abK hcP);have hkl:=Ny (opG H) R P cols c;obtain⟨C,hC⟩:∃ C,C=IL (opG H) R P cols c:=⟨_,rfl⟩
    rw[<-hC] at hmx HK hkl ⊢;have HCC:=hid hC;clear hcP hC;go_upto_region 10 with(go_at_call 37;(with_reducible refine(lV _ (bQ P) c _ hpr.sl HC.out).mono ?_);rintro e w4 ⟨rfl,rfl⟩)
    have akY:Hid (kvS (opG H) R P cols c 0=(List.replicate cols 0).set c 1):=hid rfl;go_wp2_with(at_make;refine aJ rfl _ _ rfl cols _ _ rfl rfl rfl rfl (by omega) ?_;intro w4 ho4 hk4;have cs4:=ho4.cell (i:=c) (by simpa using hlt);have fs4:=ho4.frozen c;have anz:=hk4.size)
    have ho5:=ho4.set c 1;rw[<-akY.out] at ho5;have hk5:=aA (b:=wo.heap.size) (i:=c) (.int .i64 1) hk4 (zy _);have HRL:Hid (∀ i,i<R.length->(Gj.row R i).length=cols):=hid fun i hi=>HRF.out.ri.wf i hi;have HPL:Hid (∀ i,i<P.length->P.getD i 0<cols):=hid HRF.out.ri.pc;clear ho4 hk4 cs4 fs4
    go_loopw [51,13,14] (fun vi _ _ wx=>∃ i:Nat,i<=P.length/\vi=.int .i64 i/\Own wx wo.heap.size (.slice (some ⟨wo.heap.size,0,none⟩) cols cols) (kvS (opG H) R P cols c i)/\ay wo wx) (fun vi _ _ _=>P.length- (intOf vi).toNat)
    case atStart=>exact⟨0,by omega,rfl,ho5,hk5⟩
    case round=>
     obtain⟨i,hi,rfl,hox,hkx⟩:=hrel;clear ho5 hk5;have hpx:=hpr.kept hkx;have hrx:=hrr.kept hkx;have hgx:=hgr.kept hkx;have bmx:=bmr.kept hkx;by_cases hip:i<P.length
     ·have akZ:(i:Int)< (P.length:Int):=by omega
      have hiR:i<R.length:=by rw[HRP.out];exact hip
      obtain⟨gp,rfl⟩:∃ gp,pa=some ⟨gp,0,none⟩:=by
       rcases hpx.form with⟨e,e2⟩|⟨g,cp,e,_⟩
       ·exfalso;have:(bQ P).length=0:=by rw[e2];rfl
        rw[aI] at this;omega
       ·injection e with e1 _ _;exact⟨g,e1⟩
      have c1:=hpx.cell (i:=i) (by rw[aI];exact hip);rw[ints_at hip] at c1;obtain⟨p,hp⟩:∃ p,p=P.getD i 0:=⟨_,rfl⟩
      rw[<-hp] at c1;have hpc:=HPL.out i hip;rw[<-hp] at hpc;obtain⟨bR,oR,rfl⟩:=hrx.addr (by intro e;rw[e] at hiR;simp at hiR);obtain⟨_,u,u1,u2⟩:=hrx.cellAt hiR;obtain⟨bu,cu,rfl⟩:∃ bu cu,u=.slice (some ⟨bu,0,none⟩) cols cu:=by
       rcases u2.form with⟨_,e2⟩|⟨g,cp,e,_⟩
       ·have:=HRL.out i hiR;rw[e2] at this;simp at this;omega
       ·exact⟨g,cp,by rw[e,HRL.out i hiR]⟩
      have u3:=u2.cell (i:=c) (by rw[HRL.out i hiR];exact hlt);obtain⟨z,hz⟩:∃ z,z=(Gj.row R i).getD c 0:=⟨_,rfl⟩
      rw[<-hz] at u3;have HST:Hid (kvS (opG H) R P cols c (i+1)=(kvS (opG H) R P cols c i).set p (iE H z)):=hid (by rw[kvS,<-hp,hz];rfl);have hp':(p:Int)< (cols:Int):=by omega
      have anA:(i:Int)< (R.length:Int):=by omega
      have cx:=hox.cell (i:=p) (by rw[oV];exact hpc);have fx:=hox.frozen p;clear hp hz u2;go_wp2_with(go_at_call 71;(with_reducible refine(y7 b H z _ hgx tH).mono ?_);rintro e w6 ⟨rfl,n6,rfl⟩)
      have ho6:=(hox.drewN n6).set p (iE H z);rw[<-HST.out] at ho6;have hk6:=aA (b:=wo.heap.size) (i:=p) (.int .i64 (iE H z)) (hkx.drewN n6) (zy _);go_roundw;case rel=>exact⟨i+1,by omega,by go_num,ho6,hk6⟩
      case measure=>simp[intOf];omega
     ·have hie:i=P.length:=by omega
      have HKV:Hid (kvS (opG H) R P cols c i=kv (opG H) R P cols c):=hid (by rw[hie];rfl);rw[HKV.out] at hox;have ak0:=hmx.kept hkx;have hk7:=ah wr (.cells #[.slice (some ⟨wo.heap.size,0,none⟩) cols cols] 22);have hm7:=ak0.kept hk7;have ho7:=hox.kept hk7;have hs3:w3.heap.size<=wo.heap.size:=hkr.size;have hsx:=hkx.size;have akZ:¬ (i:Int)< (P.length:Int):=by omega
      have m0':=bmx.h0;have m1':=bmx.h1;clear hie m0 m1;go_wp2_with(at_builtin;refine dD rfl _ _ rfl w3.heap.size _ C.length _ rfl hm7.out ⟨wr.heap.size,0,none⟩ (.slice (some ⟨wo.heap.size,0,none⟩) cols cols) rfl (aU rfl) rfl (by omega) (by simp;omega) ?_;intro v8 w8 o8 hg8)
      have hm8:=hm7.add (ho7.mono hs3) (fun x hx j hj e2=>by
       have h1:wo.heap.size=x:=by simpa[Value.ownBlock] using hx
       have h2:=aN (hmx.row j hj) e2;omega) o8 hg8
      have hk8:ay w3 w8:=(((hkr.tr hkx).tr hk7).grown hg8 (by simp;omega) (fun k e=>by
       have:=World.ownsRow.lt hm7.out k e;exact this.1))
      rw[<-HK.out] at hm8;obtain⟨oa8,oc8,rfl⟩:=hm8.lenOf;clear o8 hg8 hm7 ho7;go_roundw;case rel=>exact⟨c+1,oa8,oc8,_,by omega,by go_num,rfl,hm8,hk8⟩
      case measure=>simp[intOf];omega
  ·have hce:c=cols:=by omega
   have hlt':¬ (c:Int)< (cols:Int):=by omega
   have HKC:Hid (IL (opG H) R P cols c=Xo (opG H) R P cols):=hid (by rw[hce];rfl);rw[HKC.out] at hmx ⊢;have hwK:=abG tH HRF.out;have hnK:(Xo (opG H) R P cols).length<=256:=by
    have:=Ny (opG H) R P cols c;rw[HKC.out] at this;omega
   have hrK:=hmx.rd;have hkf:=akX.tr hkr;clear hce;go_wp2_with(fail)
   (with_reducible refine(CS b H tH cols _ _ wo hgr hrK hwK hc1 hc2 hnK).mono ?_)
   rintro e w9 ⟨v9,pv9,rfl,hr9,hp9,hk9⟩;obtain⟨fa,fc,fe,_,_⟩:=hr9.get;obtain⟨fl,hfl⟩:∃ n,n=(oQ (opG H) (Xo (opG H) R P cols) cols).length:=⟨_,rfl⟩
   rw[<-hfl] at fe;subst fe;have br9:=brr.kept hk9;have bm9:=bmr.kept hk9;have HR9:=hid hr9;have ae0:w.heap.size+1+1<wo.heap.size:=zZ hlow ((hk3.tr hkr).size);have hBr:w.heap.size<=wo.heap.size:=hkf.size;have KF:=hid (fun x y=>aA (b:=w.heap.size+1+1) (i:=1) y (aA (b:=w.heap.size+1+1) (i:=0) x (hkf.tr hk9) (by omega)) (by omega));clear m0 m1 hr9 hp9 hfl;have m0:=bm9.h0;have r0:=br9.c0;have r1:=br9.c1;have f0:=br9.f0;have f1:=br9.f1;go_wp2_with(fail)
   refine bodyPost_ret (v:=.tuple #[.agg #[.int .i64 cols,.slice fa fl fc],.int .i64 0]) ?_ rfl ⟨_,rfl, ?_,KF.out _ _⟩
   ·simp[results,Tryz.results31,go_sem,r0,r1]
   ·rw[<-HOH.out,<-HR.out,<-HP.out];exact((HR9.out.set ae0 _).set ae0 _).mono hBr
theorem KJ (x y:Int) (ma:Option Addr) (ml mc:Nat) (n:Int) (a:Option Addr) (m c:Nat) (w:World):
  Calls Tryz.prog 32 #[.agg #[.int .i64 x,.int .i64 y,.slice ma ml mc,.int .i64 n,.slice a m c]] w fun e w'=>e=.returned (.agg #[.int .i64 n,.slice a m c])/\ay w w':=by
 have hk:ay w ((w.alloc (.cells #[.int .i64 x,.int .i64 y,.slice ma ml mc,.int .i64 n,.slice a m c] 29)).alloc (.cells #[.int .i64 n,.slice a m c] 71)):=(ah _ _).tr (ah _ _);go_enter Tryz.func32,Tryz.ntmps32;go_wp2_with(fail)
 refine bodyPost_ret (v:=.agg #[.int .i64 n,.slice a m c]) ?_ rfl ⟨rfl,hk⟩;simp[results,Tryz.results32,go_sem]
theorem IQ (n:Int) (w:World) (h1:1<=n) (h2:n<=64):Calls Tryz.prog 56 #[.int .i64 n] w fun e w'=>e=.returned (.int .i64 0)/\w'=w:=by
 have t1:decide (n<1)=false:=by simp;omega
 have t2:decide (64<n)=false:=by simp;omega
 go_enter Tryz.func56,Tryz.ntmps56;go_wp2_with(fail)
 go_ret;exact⟨rfl,rfl⟩
def ae1 (P M:Int) (mod:List Int) (w:World) (e:Ending) (w':World):Prop:=
 ∃ a c,e=.returned (.agg #[.int .i64 P,.int .i64 M,.slice a mod.length c])/\Own w' w.heap.size (.slice a mod.length c) mod/\ay w w'
theorem Xx (P M:Int) (vm:Value) (mod:List Int) (w:World) (hvm:Sl w vm mod) (hl:mod.length<=1000):
  Calls Tryz.prog 72 #[.agg #[.int .i64 P,.int .i64 M,vm]] w (ae1 P M mod w):=by
 obtain⟨w1,hw1⟩:∃ w1,w1=(w.alloc (.cells #[.int .i64 P,.int .i64 M,vm] 24)).alloc (.cells #[.int .i64 0,.int .i64 0,.slice none 0 0] 24):=⟨_,rfl⟩
 have hk1:ay w w1:=by rw[hw1];exact(ah _ _).tr (ah _ _)
 have bf:nJ w1 w.heap.size P M vm:=by rw[hw1];exact(aS w _ _ _ _).kept (ah _ _)
 have ff:w1.frozen? ⟨w.heap.size,2,none⟩=false:=by rw[hw1,ay.frozen' (ah _ _) (by simp)];simp
 have br:nJ w1 (w.heap.size+1) 0 0 (.slice none 0 0):=by
  rw[hw1];have:=aS (w.alloc (.cells #[.int .i64 P,.int .i64 M,vm] 24)) 0 0 (.slice none 0 0) 24;simpa using this
 have fr:∀ i,w1.frozen? ⟨w.heap.size+1,i,none⟩=false:=fun i=>by rw[hw1];exact World.frozen?_alloc_at _ _ _ _ (by simp)
 have hs1:w1.heap.size=w.heap.size+1+1:=by rw[hw1];simp
 have gG:=hvm.kept hk1;have b2:=bf.h2;have HS1:=hid hs1;clear hs1;go_enter Tryz.func72,Tryz.ntmps72;go_wp2_with(fail)
 rw[<-hw1];clear hw1
 (with_reducible refine(clone_any vm mod w1 gG (by omega)).mono ?_)
 rintro e w2 ⟨v',rfl,ho2,hk2⟩;obtain⟨a,c,rfl,_,_⟩:=ho2.sl.lenOf;have bf2:=bf.kept hk2;have br2:=br.kept hk2;have ff2:=(hk2.frozen' bf.lt).trans ff;have f0:=(hk2.frozen' br.lt).trans (fr 0);have f1:=(hk2.frozen' br.lt).trans (fr 1);have f2:=(hk2.frozen' br.lt).trans (fr 2);have hk12:=hk1.tr hk2;have hlow:w.heap.size+1<w1.heap.size:=by have:=HS1.out;omega
 have hB:w.heap.size<=w1.heap.size:=hk1.size;have HO:=hid ho2;clear b2 bf br ff fr ho2 gG hvm;have b0:=bf2.h0;have b1:=bf2.h1;have b2:=bf2.h2;have r0:=br2.h0;have r1:=br2.h1;have r2:=br2.h2;have hne:¬ w.heap.size=w.heap.size+1:=by omega
 have KF:=hid (fun x0 x1 x2 x3=>aA (b:=w.heap.size+1) (i:=2) x0 (aA (b:=w.heap.size+1) (i:=1) x1 (aA (b:=w.heap.size+1) (i:=0) x2 (aA (b:=w.heap.size) (i:=2) x3 hk12 (by omega)) (by omega)) (by omega)) (by omega));go_wp2_with(fail)
 refine bodyPost_ret (v:=.agg #[.int .i64 P,.int .i64 M,.slice a mod.length c]) ?_ rfl ⟨a,c,rfl, ?_,KF.out _ _ _ _⟩
 ·simp[results,Tryz.results72,go_sem,r0,r1,r2]
 ·exact(aV (aV (aV (aV HO.out (by omega) _) hlow _) hlow _) hlow _).mono hB
structure SX (w:World) (b:Nat) (x y:Int) (vm:Value) (n:Int) (v:Value):Prop where
 lt:b<w.heap.size
 h0:w.cell? ⟨b,0,none⟩=some (.int .i64 x)
 h1:w.cell? ⟨b,1,none⟩=some (.int .i64 y)
 h2:w.cell? ⟨b,2,none⟩=some vm
 h3:w.cell? ⟨b,3,none⟩=some (.int .i64 n)
 h4:w.cell? ⟨b,4,none⟩=some v
theorem SX.kept {w w':World} {b:Nat} {x y:Int} {vm:Value} {n:Int} {v:Value} (h:SX w b x y vm n v) (k:ay w w'):SX w' b x y vm n v:=
 ⟨k.lt h.lt,(k.cell' h.lt).trans h.h0,(k.cell' h.lt).trans h.h1,(k.cell' h.lt).trans h.h2,(k.cell' h.lt).trans h.h3,(k.cell' h.lt).trans h.h4⟩
theorem mD (w:World) (x y:Int) (vm:Value) (n:Int) (v:Value) (T:TypeId):SX (w.alloc (.cells #[.int .i64 x,.int .i64 y,vm,.int .i64 n,v] T)) w.heap.size x y vm n v:=⟨by simp,by simp,by simp,by simp,by simp,by simp⟩
def Fz (w:World) (b:Nat):Prop:=b<w.heap.size/\∀ i,w.frozen? ⟨b,i,none⟩=false
theorem Fz.kept {w w':World} {b:Nat} (h:Fz w b) (k:ay w w'):Fz w' b:=⟨k.lt h.1,fun i=>(k.frozen' h.1).trans (h.2 i)⟩
theorem bD (w:World) (c:Array Value) (T:TypeId) (b:Nat) (hb:b=w.heap.size):Fz (w.alloc (.cells c T)) b:=⟨by rw[hb];simp,fun i=>World.frozen?_alloc_at _ _ _ _ hb⟩
theorem SY {w:World} {b:Nat} {v:Value}:(w.setCell ⟨b,1,none⟩ v).cell? ⟨b,0,none⟩=w.cell? ⟨b,0,none⟩:=by
 apply World.cell?_setCell_other;simp
theorem S9 {w:World} {b:Nat} {v:Value}:(w.setCell ⟨b,0,none⟩ v).cell? ⟨b,1,none⟩=w.cell? ⟨b,1,none⟩:=by
 apply World.cell?_setCell_other;simp
def Bk (w:World) (b:Nat) (cs:List Value):Prop:=b<w.heap.size/\∀ i u,cs[i]?=some u->w.cell? ⟨b,i,none⟩=some u
theorem Bk.kept {w w':World} {b:Nat} {cs:List Value} (h:Bk w b cs) (k:ay w w'):Bk w' b cs:=⟨k.lt h.1,fun i u hu=>(k.cell' h.1).trans (h.2 i u hu)⟩
theorem aG (w:World) (cs:List Value) (T:TypeId) (b:Nat) (hb:b=w.heap.size):Bk (w.alloc (.cells cs.toArray T)) b cs:=⟨by rw[hb];simp,fun i u hu=>by rw[World.cell?_alloc_at _ _ _ _ hb];simpa using hu⟩
def ahL (P M:Int) (mod:List Int) (n:Int) (v:Value) (w:World) (e:Ending) (w':World):Prop:=
 ∃ a c,e=.returned (.tuple #[.agg #[.int .i64 P,.int .i64 M,.slice a mod.length c,.int .i64 n,v],.int .i64 0])/\Own w' w.heap.size (.slice a mod.length c) mod/\ay w w'
set_option maxRecDepth 100000 in
theorem aac (P M:Int) (vm:Value) (mod:List Int) (n:Int) (va:Option Addr) (vn vc:Nat) (w:World) (hvm:Sl w vm mod) (hl:mod.length<=1000):
  Calls Tryz.prog 33 #[.agg #[.int .i64 P,.int .i64 M,vm],.agg #[.int .i64 n,.slice va vn vc],.int .i64 0] w (ahL P M mod n (.slice va vn vc) w):=by
 obtain⟨w1,hw1⟩:∃ w1,w1=((w.alloc (.cells #[.int .i64 P,.int .i64 M,vm] 24)).alloc (.cells #[.int .i64 n,.slice va vn vc] 71)).alloc (.cells #[.int .i64 0,.int .i64 0,.slice none 0 0,.int .i64 0,.slice none 0 0] 29):=⟨_,rfl⟩
 have hk1:ay w w1:=by rw[hw1];exact((ah _ _).tr (ah _ _)).tr (ah _ _)
 have bf:nJ w1 w.heap.size P M vm:=by rw[hw1];exact((aS w _ _ _ _).kept (ah _ _)).kept (ah _ _)
 have bm:BoxM w1 (w.heap.size+1) n (.slice va vn vc):=by
  rw[hw1];have:=(gX (w.alloc (.cells #[.int .i64 P,.int .i64 M,vm] 24)) n (.slice va vn vc) 71).kept (ah _ (.cells #[.int .i64 0,.int .i64 0,.slice none 0 0,.int .i64 0,.slice none 0 0] 29));simpa using this
 have br:SX w1 (w.heap.size+1+1) 0 0 (.slice none 0 0) 0 (.slice none 0 0):=by
  rw[hw1];have:=mD ((w.alloc (.cells #[.int .i64 P,.int .i64 M,vm] 24)).alloc (.cells #[.int .i64 n,.slice va vn vc] 71)) 0 0 (.slice none 0 0) 0 (.slice none 0 0) 29;simpa using this
 have fr:Fz w1 (w.heap.size+1+1):=by rw[hw1];exact bD _ _ _ _ (by simp)
 have hs1:w1.heap.size=w.heap.size+1+1+1:=by rw[hw1];simp
 have gG:=hvm.kept hk1;have b0:=bf.h0;have b1:=bf.h1;have b2:=bf.h2;have m0:=bm.h0;have m1:=bm.h1;have HS1:=hid hs1;clear hs1;go_enter Tryz.func33,Tryz.ntmps33;go_wp2_with(fail)
 rw[<-hw1];clear hw1
 go_region_held3 (fun w'=>w'.cell? ⟨w.heap.size,0,none⟩=some (.int .i64 P)/\w'.cell? ⟨w.heap.size,1,none⟩=some (.int .i64 M)/\w'.cell? ⟨w.heap.size,2,none⟩=some vm/\w'.cell? ⟨w.heap.size+1,0,none⟩=some (.int .i64 n)/\w'.cell? ⟨w.heap.size+1,1,none⟩=some (.slice va vn vc)) (first|(simp[*];done)|(simp[go_sem, *];done))
  ((go_at_call 72;(with_reducible refine(Xx P M vm mod _ (by exact gG.kept (aC _)) hl).mono ?_);rintro e w2 ⟨a,c,rfl,ho2,hk2⟩;have ae2:ay w1 w2:=(by exact(aC _).tr hk2);have bf2:=bf.kept ae2;have bm2:=bm.kept ae2;have br2:=br.kept ae2;have fr2:=fr.kept ae2;have b0:=bf2.h0;have b1:=bf2.h1;have b2:=bf2.h2;have m0:=bm2.h0;have m1:=bm2.h1;have r0:=br2.h0;have r1:=br2.h1;have r2:=br2.h2;have r3:=br2.h3;have r4:=br2.h4;have f0:=fr2.2 0;have f1:=fr2.2 1;have f2:=fr2.2 2;have f3:=fr2.2 3;have f4:=fr2.2 4))
 all_goals
  have hlow:w.heap.size+1+1<w1.heap.size:=by have:=HS1.out;omega
  have hB:w.heap.size<=w1.heap.size:=hk1.size;have HO:Hid (Own w2 w1.heap.size (.slice a mod.length c) mod):=hid (ho2.mono (by simp));have KF:=hid (fun x0 x1 x2 x3 x4=>aA (b:=w.heap.size+1+1) (i:=4) x0 (aA (b:=w.heap.size+1+1) (i:=3) x1 (aA (b:=w.heap.size+1+1) (i:=2) x2 (aA (b:=w.heap.size+1+1) (i:=1) x3 (aA (b:=w.heap.size+1+1) (i:=0) x4 (hk1.tr ae2) (by omega)) (by omega)) (by omega)) (by omega)) (by omega));clear ho2 bf bm br fr gG hvm;go_wp2_with(fail)
  refine bodyPost_ret (v:=.tuple #[.agg #[.int .i64 P,.int .i64 M,.slice a mod.length c,.int .i64 n,.slice va vn vc],.int .i64 0]) ?_ rfl ⟨a,c,rfl, ?_, ?_⟩
  ·simp[results,Tryz.results33,go_sem,r0,r1,r2,r3,r4]
  ·exact(aV (aV (aV (aV (aV HO.out hlow _) hlow _) hlow _) hlow _) hlow _).mono hB
  ·exact KF.out _ _ _ _ _
def isLet (x:Int):Bool:=decide (97<=x) &&decide (x<=122)
def nI (x:Int):Bool:=decide (48<=x) &&decide (x<=57)
def qZ (x:Int):Bool:=isLet x||nI x||(x==95)
theorem eG (x:Int) (w:World):Calls Tryz.prog 75 #[.int .u8 x] w fun e w'=>e=.returned (.bool (isLet x))/\w=w':=by
 by_cases h1:97<=x
 ·by_cases h2:x<=122
  ·have HL:Hid (isLet x=true):=hid (by unfold isLet;simp[h1,h2]);rw[HL.out];go_enter Tryz.func75,Tryz.ntmps75;go_wp2_with(fail)
   go_ret;exact⟨by simp[*],rfl⟩
  ·have HL:Hid (isLet x=false):=hid (by unfold isLet;simp[h2]);rw[HL.out];go_enter Tryz.func75,Tryz.ntmps75;go_wp2_with(fail)
   go_ret;exact⟨by simp[*]<;>omega,rfl⟩
 ·have HL:Hid (isLet x=false):=hid (by unfold isLet;simp[h1]);rw[HL.out];go_enter Tryz.func75,Tryz.ntmps75;go_wp2_with(fail)
  go_ret;exact⟨by simp[*]<;>omega,rfl⟩
theorem iQ (x:Int) (w:World):Calls Tryz.prog 78 #[.int .u8 x] w fun e w'=>e=.returned (.bool (nI x))/\w=w':=by
 by_cases h1:48<=x
 ·by_cases h2:x<=57
  ·have HL:Hid (nI x=true):=hid (by unfold nI;simp[h1,h2]);rw[HL.out];go_enter Tryz.func78,Tryz.ntmps78;go_wp2_with(fail)
   go_ret;exact⟨by simp[*],rfl⟩
  ·have HL:Hid (nI x=false):=hid (by unfold nI;simp[h2]);rw[HL.out];go_enter Tryz.func78,Tryz.ntmps78;go_wp2_with(fail)
   go_ret;exact⟨by simp[*]<;>omega,rfl⟩
 ·have HL:Hid (nI x=false):=hid (by unfold nI;simp[h1]);rw[HL.out];go_enter Tryz.func78,Tryz.ntmps78;go_wp2_with(fail)
  go_ret;exact⟨by simp[*]<;>omega,rfl⟩
theorem EI (x:Int) (w:World):Calls Tryz.prog 77 #[.int .u8 x] w fun e w'=>e=.returned (.bool (qZ x))/\w=w':=by
 cases h1:isLet x with
 |true=>
  have HL:Hid (qZ x=true):=hid (by unfold qZ;rw[h1];rfl);have H1:=hid h1;rw[HL.out];clear h1;go_enter Tryz.func77,Tryz.ntmps77;go_wp2_with(go_at_call 75;refine(eG x _).mono ?_;rintro e w' ⟨rfl,rfl⟩;rw[H1.out])
  go_ret;exact⟨rfl,rfl⟩
 |false=>
  cases h2:nI x with
  |true=>
   have HL:Hid (qZ x=true):=hid (by unfold qZ;rw[h1,h2];rfl);have H1:=hid h1;have H2:=hid h2;rw[HL.out];clear h1 h2;go_enter Tryz.func77,Tryz.ntmps77;go_wp2_with(first|(go_at_call 75;refine(eG x _).mono ?_;rintro e w' ⟨rfl,rfl⟩;rw[H1.out])|(go_at_call 78;refine(iQ x _).mono ?_;rintro e w' ⟨rfl,rfl⟩;rw[H2.out]))
   go_ret;exact⟨rfl,rfl⟩
  |false=>
   have HL:Hid (qZ x=(x==95)):=hid (by unfold qZ;rw[h1,h2];rfl);have H1:=hid h1;have H2:=hid h2;rw[HL.out];clear h1 h2;go_enter Tryz.func77,Tryz.ntmps77;go_wp2_with(first|(go_at_call 75;refine(eG x _).mono ?_;rintro e w' ⟨rfl,rfl⟩;rw[H1.out])|(go_at_call 78;refine(iQ x _).mono ?_;rintro e w' ⟨rfl,rfl⟩;rw[H2.out]))
   go_ret;exact⟨by rfl,rfl⟩
end
section
set_option maxRecDepth 100000
open Go.RowKit Cw Cw.Gj
theorem KL (s:ByteArray) (i j:Nat) (w:World) (hij:i<=j) (hj:j<=s.size) (hs:s.size<=1000) (h1:∀ k (hk:k<s.size),i<=k->k<j->nI ((s[k]'hk).toNat:Int)=true) (h2:∀ hk:j<s.size,nI ((s[j]'hk).toNat:Int)=false):
  Calls Tryz.prog 76 #[.string s,.int .i64 i,.func (.func 78) #[] #[]] w fun e w'=>e=.returned (.int .i64 j)/\w=w':=by
 have H1:=hid h1;have H2:=hid h2;clear h1 h2;go_enter Tryz.func76,Tryz.ntmps76;go_wp2_with(fail)
 go_loop [1] (fun vi=>∃ k:Nat,i<=k/\k<=j/\vi=.int .i64 k) (fun vi=>s.size- (intOf vi).toNat)
 case atStart=>exact⟨i,by omega,hij,rfl⟩
 case round=>
  obtain⟨k,hk1,hk2,rfl⟩:=hrel;by_cases hlt:k<s.size
  ·have hlt':(k:Int)< (s.size:Int):=by omega
   by_cases e:k=j
   ·have HP:Hid (nI ((s[k]'hlt).toNat:Int)=false):=hid (by subst e;exact H2.out hlt);have HE:=hid e;clear e;go_wp2_with(go_at_call 78;refine(iQ _ _).mono ?_;rintro e w' ⟨rfl,rfl⟩;rw[HP.out])
    go_ret;exact⟨aW (by rw[HE.out]),rfl⟩
   ·have HP:Hid (nI ((s[k]'hlt).toNat:Int)=true):=hid (H1.out k hlt hk1 (by omega));have hkj:k<j:=by omega
    clear e;go_wp2_with(go_at_call 78;refine(iQ _ _).mono ?_;rintro e w' ⟨rfl,rfl⟩;rw[HP.out])
    go_round;case rel=>exact⟨k+1,by omega,by omega,by go_num⟩
    case measure=>simp[intOf];omega
  ·have hlt':¬ (k:Int)< (s.size:Int):=by omega
   have HE:Hid (k=j):=hid (by omega);go_wp2_with(fail)
   go_ret;exact⟨aW (by rw[HE.out]),rfl⟩
theorem EJ (s:ByteArray) (i j:Nat) (w:World) (hij:i<=j) (hj:j<=s.size) (hs:s.size<=1000) (h1:∀ k (hk:k<s.size),i<=k->k<j->qZ ((s[k]'hk).toNat:Int)=true) (h2:∀ hk:j<s.size,qZ ((s[j]'hk).toNat:Int)=false):
  Calls Tryz.prog 76 #[.string s,.int .i64 i,.func (.func 77) #[] #[]] w fun e w'=>e=.returned (.int .i64 j)/\w=w':=by
 have H1:=hid h1;have H2:=hid h2;clear h1 h2;go_enter Tryz.func76,Tryz.ntmps76;go_wp2_with(fail)
 go_loop [1] (fun vi=>∃ k:Nat,i<=k/\k<=j/\vi=.int .i64 k) (fun vi=>s.size- (intOf vi).toNat)
 case atStart=>exact⟨i,by omega,hij,rfl⟩
 case round=>
  obtain⟨k,hk1,hk2,rfl⟩:=hrel;by_cases hlt:k<s.size
  ·have hlt':(k:Int)< (s.size:Int):=by omega
   by_cases e:k=j
   ·have HP:Hid (qZ ((s[k]'hlt).toNat:Int)=false):=hid (by subst e;exact H2.out hlt);have HE:=hid e;clear e;go_wp2_with(go_at_call 77;refine(EI _ _).mono ?_;rintro e w' ⟨rfl,rfl⟩;rw[HP.out])
    go_ret;exact⟨aW (by rw[HE.out]),rfl⟩
   ·have HP:Hid (qZ ((s[k]'hlt).toNat:Int)=true):=hid (H1.out k hlt hk1 (by omega));have hkj:k<j:=by omega
    clear e;go_wp2_with(go_at_call 77;refine(EI _ _).mono ?_;rintro e w' ⟨rfl,rfl⟩;rw[HP.out])
    go_round;case rel=>exact⟨k+1,by omega,by omega,by go_num⟩
    case measure=>simp[intOf];omega
  ·have hlt':¬ (k:Int)< (s.size:Int):=by omega
   have HE:Hid (k=j):=hid (by omega);go_wp2_with(fail)
   go_ret;exact⟨aW (by rw[HE.out]),rfl⟩
end
end Go.Proofs.YtoilbeadokallaaGreatDoor
