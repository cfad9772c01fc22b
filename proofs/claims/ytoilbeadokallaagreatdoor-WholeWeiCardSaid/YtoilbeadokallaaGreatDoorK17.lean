/- Lemmas on the way to the row, merged: walks of functions and plain algebra. Conditions: each lemma's own, stated with it. -/
import Derived.Test.YtoilbeadokallaaGreatDoorK05
import Derived.Test.YtoilbeadokallaaGreatDoorK10
import Derived.Test.YtoilbeadokallaaGreatDoorK16
namespace Go.Proofs.YtoilbeadokallaaGreatDoor
open Go.RowKit Cw Cw.Gj
def Ro (w:World) (B:Nat) (v:Value) (A:List (List Int)):Prop :=
 ∃ (a:Option Addr) (cap:Nat),v=.slice a A.length cap∧A.length≤cap∧(cap≤maxLen∧(a=none→cap=0)) ∧
  (A ≠ []→∃ b off,a=some ⟨b,off,none⟩∧B≤b∧b < w.heap.size∧∀ i,i < A.length→∃ u,w.cell? ⟨b,off + i,none⟩=some u∧Own w B u (Gj.row A i))
theorem Ro.rd {w:World} {B:Nat} {v:Value} {A:List (List Int)} (h:Ro w B v A):Rd w v A:=by
 obtain ⟨a,cap,h1,h2,h3,h4⟩:=h
 refine ⟨a,cap,h1,h2,h3,fun hx=>?_⟩
 obtain ⟨b,off,e,_,hb,hc⟩:=h4 hx
 exact ⟨b,off,e,hb,fun i hi=>by
  obtain ⟨u,u1,u2⟩:=hc i hi
  exact ⟨u,u1,u2.sl⟩⟩
theorem Ro.kept {w w':World} {B:Nat} {v:Value} {A:List (List Int)} (h:Ro w B v A) (k:Kept w w'):Ro w' B v A:=by
 obtain ⟨a,cap,h1,h2,h3,h4⟩:=h
 refine ⟨a,cap,h1,h2,h3,fun hx=>?_⟩
 obtain ⟨b,off,e,hB,hb,hc⟩:=h4 hx
 exact ⟨b,off,e,hB,k.lt hb,fun i hi=>by
  obtain ⟨u,u1,u2⟩:=hc i hi
  exact ⟨u,(k.cell' hb).trans u1,u2.kept k⟩⟩
theorem Ro.mono {w:World} {B B':Nat} {v:Value} {A:List (List Int)} (h:Ro w B v A) (hB:B'≤B):Ro w B' v A:=by
 obtain ⟨a,cap,h1,h2,h3,h4⟩:=h
 refine ⟨a,cap,h1,h2,h3,fun hx=>?_⟩
 obtain ⟨b,off,e,hb0,hb,hc⟩:=h4 hx
 exact ⟨b,off,e,Nat.le_trans hB hb0,hb,fun i hi=>by
  obtain ⟨u,u1,u2⟩:=hc i hi
  exact ⟨u,u1,u2.mono hB⟩⟩
theorem own_setLow {w:World} {B b i:Nat} {v:Value} {xs:List Int} (h:Own w B v xs) (hb:b < B) (x:Value):Own (w.setCell ⟨b,i,none⟩ x) B v xs:=h.setOther ⟨b,i,none⟩ x (fun g n c e=>by
 subst e
 have:=h.lt.1
 show g ≠ b
 omega)
theorem Ro.set {w:World} {B b i:Nat} {v:Value} {A:List (List Int)} (h:Ro w B v A) (hb:b < B) (x:Value):Ro (w.setCell ⟨b,i,none⟩ x) B v A:=by
 obtain ⟨a,cap,h1,h2,h3,h4⟩:=h
 refine ⟨a,cap,h1,h2,h3,fun hx=>?_⟩
 obtain ⟨c,off,e,hB,hc0,hc⟩:=h4 hx
 exact ⟨c,off,e,hB,by simpa [World.setCell] using hc0,fun j hj=>by
  obtain ⟨u,u1,u2⟩:=hc j hj
  exact ⟨u,(World.cell?_of_block (w:=w) (a:=⟨c,off + j,none⟩) (Below.heap_setCell _ _ _ _ (by show c ≠ b;omega))).trans u1,own_setLow u2 hb x⟩⟩
theorem ro_nil (w:World) (B:Nat):Ro w B (.slice none 0 0) []:=⟨none,0,rfl,Nat.le_refl _,⟨Nat.zero_le _,fun _=>rfl⟩,fun h=>absurd rfl h⟩
theorem Ro.get {w:World} {B:Nat} {v:Value} {A:List (List Int)} (h:Ro w B v A):∃ a cap,v=.slice a A.length cap∧A.length≤cap∧cap≤maxLen:=by
 obtain ⟨a,cap,h1,h2,⟨h3,_⟩,_⟩:=h
 exact ⟨a,cap,h1,h2,h3⟩
theorem Mx.roTake {w:World} {B g n cap:Nat} {A:List (List Int)} {rv:Nat→Value} (h:Mx w B (.slice (some ⟨g,0,none⟩) n cap) A rv) {k:Nat} (hk:k≤A.length):Ro w B (.slice (some ⟨g,0,none⟩) k k) (A.take k):=by
 have hl:(A.take k).length=k:=by simp;omega
 have hcap:k≤maxLen:=by
  rcases h.form with ⟨e,_⟩ | ⟨_,_,e,_,_,h3,h4⟩
  ·cases e
  ·cases e;omega
 refine ⟨some ⟨g,0,none⟩,k,by rw [hl],by omega,⟨hcap,fun e=>by cases e⟩,fun _=>⟨g,0,rfl,(h.has_lt (.inl rfl)).1,(h.has_lt (.inl rfl)).2,fun i hi=>?_⟩⟩
 rw [hl] at hi
 refine ⟨rv i,by rw [Nat.zero_add];exact h.cell (by omega), ?_⟩
 rw [row_take hi]
 exact h.row i (by omega)
theorem Mx.ro {w:World} {B:Nat} {v:Value} {A:List (List Int)} {rv:Nat→Value} (h:Mx w B v A rv):Ro w B v A:=by
 rcases h.form with ⟨rfl,rfl⟩ | ⟨g,cap,rfl,hB,hg,h3,h4⟩
 ·exact ro_nil w B
 ·exact ⟨_,cap,rfl,h3,⟨h4,fun e=>by cases e⟩,fun _=>⟨g,0,rfl,hB,hg,fun i hi=>⟨rv i,by rw [Nat.zero_add];exact h.cell hi,h.row i hi⟩⟩⟩
theorem length_ints (P:List Nat):(ints P).length=P.length:=by simp [ints]
theorem nodis {v:Value} {rv:Nat→Value} {n x:Nat}:Has v rv n x→¬ Has (.slice none 0 0) (fun _=>.slice none 0 0) 0 x:=fun _ q=>by
 rcases q with q | ⟨i,hi,_⟩
 ·cases q
 ·exact absurd hi (Nat.not_lt_zero _)
theorem elim_one (b:Nat) (G:GFd) (t:Tabs G) (cols:Nat) (v1:Value) (A1:List (List Int)) (r1:Nat→Value) (w0 w:World) (hg:IsGF w0 b G) (hk0:Kept w0 w) (hm:Mx w w0.heap.size v1 A1 r1) (hw:WF G.q A1 cols) (hc1:1≤cols) (hc2:cols≤256) (hn1:A1.length≤256) :
  Calls Tryz.prog 131 #[.pointer (some ⟨b,0,none⟩),v1,.int .i64 cols,.slice none 0 0] w (ElimOut w0 (opG G) cols v1 (.slice none 0 0) A1 []):=by
 by_cases hA:A1=[]
 ·subst hA
  exact eliminate_none b G cols v1 w0 w hk0 r1 hm hc1
 ·obtain ⟨g,cap,rfl,_⟩:=hm.get hA
  exact eliminate_pos b G t cols 1 g cap (.slice none 0 0) A1 [] r1 (fun _=>.slice none 0 0) w0 w hg hk0 ⟨hm,mx_nil _ _,fun x=>nodis⟩ hw (fun i hi=>absurd hi (Nat.not_lt_zero _)) (.inl rfl) hc1 hc2 hn1 (Nat.le_refl _) (by omega)
set_option maxHeartbeats 1000000 in
theorem canon_any (b:Nat) (G:GFd) (t:Tabs G) (cols:Nat) (v:Value) (A:List (List Int)) (w:World) (hg:IsGF w b G) (hv:Rd w v A) (hw:WF G.q A cols) (hc1:1≤cols) (hc2:cols≤256) (hn:A.length≤256) :
  Calls Tryz.prog 70 #[.pointer (some ⟨b,0,none⟩),v,.int .i64 cols] w fun e w'=>∃ v' pv,e=.returned (.tuple #[v',pv])∧Ro w' w.heap.size v' (canL (opG G) A cols)∧Own w' w.heap.size pv (ints (pvL (opG G) A cols))∧Kept w w':=by
 have hcl:∀ i,i < A.length→(Gj.row A i).length≤1000:=fun i hi=>by rw [hw.wf i hi];omega
 have HCL:=hid hcl
 have hri:=(gj_all t cols 0 (by omega) (ri_start hw)).1.lt
 rw [(gj_all t cols 0 (by omega) (ri_start hw)).2.1] at hri
 obtain ⟨e1,e2⟩:=gjP_gj (opG G) cols 0 A [] []
 have HE1:=hid e1
 have HE2:=hid e2
 have HL:Hid ((gj (opG G) cols 0 A []).2.length≤(gj (opG G) cols 0 A []).1.length):=hid (gj_all t cols 0 (by omega) (ri_start hw)).1.lt
 obtain ⟨np,hnp⟩:∃ np,np=(gj (opG G) cols 0 A []).2.length:=⟨_,rfl⟩
 rw [← hnp] at hri
 have HNP:=hid hnp
 clear hcl e1 e2 hnp
 go_enter Tryz.func70,Tryz.ntmps70
 go_wp2_with (fail)
 refine (mclone_any v A w hv hn HCL.out).mono ?_
 rintro e w1 ⟨v1,rv,rfl,hob,hm,hk1⟩
 obtain ⟨g,cap,rfl,hcap,hcm⟩:∃ g cap,v1=.slice (some ⟨g,0,none⟩) A.length cap∧A.length≤cap∧cap≤maxLen:=by
  rcases hm.form with ⟨e,_⟩ | ⟨g,cap,e,_,_,h3,h4⟩
  ·rw [e] at hob;exact absurd rfl hob
  ·exact ⟨g,cap,e,h3,h4⟩
 unfold maxLen at hcm
 clear hob
 go_wp2_with (fail)
 refine (elim_one b G t cols _ A rv w w1 hg hk1 hm hw hc1 hc2 hn).mono ?_
 rintro e w2 ⟨vp,d,s1,s2,rfl,hk2,hm2,hp2⟩
 rw [HE1.out] at hm2
 rw [HE2.out] at hp2
 have hps:=hp2
 obtain ⟨pa,pc,rfl,_,_⟩:=hps.sl.lenOf
 have hrd:=hm2.m1.roTake HL.out
 rw [length_ints] at hps ⊢
 rw [← HNP.out] at hps hrd ⊢
 have HRD:=hid hrd
 have HPS:=hid hps
 clear hrd hps hm2 hp2
 have hi1:(np:Int)≤(cap:Int):=by omega
 go_wp2_with (fail)
 go_ret2
 exact ⟨_,_,rfl,by rw [canL,← HNP.out];exact HRD.out,by rw [pvL];exact HPS.out,hk2⟩
end Go.Proofs.YtoilbeadokallaaGreatDoor
namespace Go.Proofs.YtoilbeadokallaaGreatDoor
open Go.RowKit Cw Cw.Gj
theorem open_op (G:GFd) (t:Tabs G) (vm:Value) (bm cols:Nat) (v:Value) (A:List (List Int)) (w:World) (hvm:Sl w vm G.mod) (hbm:bm < w.heap.size)
  (m0:w.cell? ⟨bm,0,none⟩=some (.int .i64 cols)) (m1:w.cell? ⟨bm,1,none⟩=some v) (hv:Rd w v A) (hw:WF G.q A cols) (hc:cols≤256) (hn:A.length≤256) :
  Calls Tryz.prog 69 #[.agg #[.int .i64 G.P,.int .i64 G.M,vm],.slice (some ⟨bm,0,none⟩) 1 1] w fun e w'=>∃ b H,e=.returned (.tuple #[.pointer (some ⟨b,0,none⟩),.int .i64 0])∧IsGF w' b H∧Tabs H∧opG H=opG G∧H.q=G.q∧Kept w w' :=
 (open1_ok G.P G.M vm G.mod bm cols v A w hvm t.field hbm m0 m1 hv (fun H hH h1 h2 h3=>by rw [show H.q=G.q by rw [hH.hq,t.hq,h1,h2]];exact hw) hc hn).mono fun _ _ ⟨b,H,he,h1,h2,h3,h4,h5,h6⟩ =>
  ⟨b,H,he,h1,h2,opG_eq h2 t h3 h4 h5,by rw [h2.hq,t.hq,h3,h4],h6⟩
structure Res2 (w:World) (b:Nat):Prop where
 lt:b < w.heap.size
 c0:w.cell? ⟨b,0,none⟩=some (.int .i64 0)
 c1:w.cell? ⟨b,1,none⟩=some (.slice none 0 0)
 f0:w.frozen? ⟨b,0,none⟩=false
 f1:w.frozen? ⟨b,1,none⟩=false
theorem Res2.kept {w w':World} {b:Nat} (h:Res2 w b) (k:Kept w w'):Res2 w' b :=
 ⟨k.lt h.lt,(k.cell' h.lt).trans h.c0,(k.cell' h.lt).trans h.c1,(k.frozen' h.lt).trans h.f0,(k.frozen' h.lt).trans h.f1⟩
structure BoxM (w:World) (b:Nat) (n:Int) (v:Value):Prop where
 lt:b < w.heap.size
 h0:w.cell? ⟨b,0,none⟩=some (.int .i64 n)
 h1:w.cell? ⟨b,1,none⟩=some v
theorem BoxM.kept {w w':World} {b:Nat} {n:Int} {v:Value} (h:BoxM w b n v) (k:Kept w w'):BoxM w' b n v:=⟨k.lt h.lt,(k.cell' h.lt).trans h.h0,(k.cell' h.lt).trans h.h1⟩
theorem boxM_new (w:World) (n:Int) (v:Value) (T:TypeId):BoxM (w.alloc (.cells #[.int .i64 n,v] T)) w.heap.size n v:=⟨by simp,by simp,by simp⟩
theorem res2_new (w:World) (T:TypeId):Res2 (w.alloc (.cells #[.int .i64 0,.slice none 0 0] T)) w.heap.size:=⟨by simp,by simp,by simp,by simp,by simp⟩
theorem set_below {w W:World} {b i:Nat} (x:Value) (h:Kept w W) (hb:w.heap.size≤b):Kept w (W.setCell ⟨b,i,none⟩ x):=Below.setCell h (p:=⟨b,i,none⟩) hb x
def CanOut (o:Cw.Op) (A:List (List Int)) (cols:Nat) (w:World) (e:Ending) (w':World):Prop :=
 ∃ v' pv,e=.returned (.tuple #[.agg #[.int .i64 cols,v'],pv,.int .i64 0])∧Ro w' w.heap.size v' (canL o A cols)∧Own w' w.heap.size pv (ints (pvL o A cols))∧Kept w w'
set_option maxRecDepth 100000 in
set_option maxHeartbeats 2000000 in
theorem canonical_any (G:GFd) (t:Tabs G) (vm:Value) (cols:Nat) (v:Value) (A:List (List Int)) (w:World) (hvm:Sl w vm G.mod) (hv:Rd w v A) (hw:WF G.q A cols) (hc1:1≤cols) (hc2:cols≤256) (hn:A.length≤256) :
  Calls Tryz.prog 159 #[.agg #[.int .i64 G.P,.int .i64 G.M,vm],.agg #[.int .i64 cols,v]] w (CanOut (opG G) A cols w):=by
 obtain ⟨va,vc,rfl,_,_⟩:=hv.get
 obtain ⟨w1,hw1⟩:∃ w1,w1=((w.alloc (.cells #[.int .i64 G.P,.int .i64 G.M,vm] 24)).alloc (.cells #[.int .i64 cols,.slice va A.length vc] 71)).alloc (.cells #[.int .i64 0,.slice none 0 0] 71):=⟨_,rfl⟩
 have hk1:Kept w w1:=by rw [hw1];exact ((kept_alloc _ _).tr (kept_alloc _ _)).tr (kept_alloc _ _)
 have bf:BoxF w1 w.heap.size G.P G.M vm:=by rw [hw1];exact ((boxF_new w _ _ _ _).kept (kept_alloc _ _)).kept (kept_alloc _ _)
 have bm:BoxM w1 (w.heap.size + 1) cols (.slice va A.length vc):=by
  rw [hw1]
  have:=(boxM_new (w.alloc (.cells #[.int .i64 G.P,.int .i64 G.M,vm] 24)) cols (.slice va A.length vc) 71).kept (kept_alloc _ (.cells #[.int .i64 0,.slice none 0 0] 71))
  simpa using this
 have br:Res2 w1 (w.heap.size + 1 + 1):=by
  rw [hw1]
  have:=res2_new ((w.alloc (.cells #[.int .i64 G.P,.int .i64 G.M,vm] 24)).alloc (.cells #[.int .i64 cols,.slice va A.length vc] 71)) 71
  simpa using this
 have hvm1:=hvm.kept hk1
 have hv1:=hv.kept hk1
 have hkb:=kept_alloc w1 (.cells #[.int .i64 cols,.slice va A.length vc] 71)
 have b0:=bf.h0
 have b1:=bf.h1
 have b2:=bf.h2
 have m0:=bm.h0
 have m1:=bm.h1
 have hsz1:w1.heap.size < (w1.alloc (.cells #[.int .i64 cols,.slice va A.length vc] 71)).heap.size:=by simp
 have x0:=(boxM_new w1 cols (.slice va A.length vc) 71).h0
 have x1:=(boxM_new w1 cols (.slice va A.length vc) 71).h1
 have hs1:w1.heap.size=w.heap.size + 1 + 1 + 1:=by rw [hw1];simp
 rw [hs1] at x0 x1 hsz1
 have HS1:=hid hs1
 clear hs1
 go_enter Tryz.func159,Tryz.ntmps159
 go_wp2_with (fail)
 rw [← hw1]
 clear hw1
 (with_reducible refine (open_op G t vm (w.heap.size + 1 + 1 + 1) cols _ A _ (hvm1.kept hkb) hsz1 x0 x1 (hv1.kept hkb) hw hc2 hn).mono ?_)
 rintro e w2 ⟨b,H,rfl,hg2,tH,hop,hq,hk2⟩
 have hk12:=hkb.tr hk2
 have bm2:=bm.kept hk12
 have br2:=br.kept hk12
 have hv2:=hv1.kept hk12
 have hwH:WF H.q A cols:=by rw [hq];exact hw
 have HOP:=hid hop
 clear hop hq x0 x1 b0 b1 b2 m0 m1 hkb hk2
 have m0:=bm2.h0
 have m1:=bm2.h1
 go_wp2_with (fail)
 (with_reducible refine (canon_any b H tH cols _ A w2 hg2 hv2 hwH hc1 hc2 hn).mono ?_)
 rintro e w3 ⟨v',pv,rfl,hr3,hp3,hk3⟩
 obtain ⟨ra,rc,re,_,_⟩:=hr3.get
 obtain ⟨rl,hrl⟩:∃ n,n=(canL (opG H) A cols).length:=⟨_,rfl⟩
 rw [← hrl] at re
 subst re
 have bm3:=bm2.kept hk3
 have br3:=br2.kept hk3
 have hk13:=hk12.tr hk3
 have hfin:=hk1.tr hk13
 have HR:=hid hr3
 have HP:=hid hp3
 have HRL:=hid hrl
 clear m0 m1 bm bm2 br br2 bf hv1 hvm1 hsz1 hrl hr3 hp3
 have m0:=bm3.h0
 have m1:=bm3.h1
 have r0:=br3.c0
 have r1:=br3.c1
 have f0:=br3.f0
 have f1:=br3.f1
 have kf:=fun x y=>set_below (b:=w.heap.size + 1 + 1) (i:=1) y (set_below (b:=w.heap.size + 1 + 1) (i:=0) x hfin (by omega)) (by omega)
 have KF:=hid kf
 have hlow:w.heap.size + 1 + 1 < w2.heap.size:=by have:=hk12.size;have:=HS1.out;omega
 have hB:w.heap.size≤w2.heap.size:=(hk1.tr hk12).size
 clear kf
 go_wp2_with (fail)
 refine bodyPost_ret (v:=.tuple #[.agg #[.int .i64 cols,.slice ra rl rc],pv,.int .i64 0]) ?_ rfl ⟨_,_,rfl, ?_, ?_,KF.out _ _⟩
 ·simp [results,Tryz.results159,go_sem,r0,r1]
 ·rw [← HOP.out]
  exact ((HR.out.set hlow _).set hlow _).mono hB
 ·rw [← HOP.out]
  exact (own_setLow (own_setLow HP.out hlow _) hlow _).mono hB
end Go.Proofs.YtoilbeadokallaaGreatDoor
namespace Go.Proofs.YtoilbeadokallaaGreatDoor
open Go.RowKit Cw Cw.Gj
theorem mem_ints {P:List Nat} {c:Nat}:(c:Int) ∈ ints P ↔ c ∈ P:=by
 unfold ints
 rw [List.mem_map]
 constructor
 ·rintro ⟨x,h1,h2⟩
  have:x=c:=by omega
  rw [← this];exact h1
 ·exact fun h=>⟨c,h,rfl⟩
theorem ints_at {P:List Nat} {i:Nat} (h:i < P.length):(ints P).getD i 0=(P.getD i 0:Nat):=by
 unfold ints
 simp [List.getD,h]
def kerC (o:Cw.Op) (R:List (List Int)) (P:List Nat) (cols c:Nat):List (List Int):=((List.range c).filter fun c=>decide (c ∉ P)).map (kv o R P cols)
theorem kerC_yes {o:Cw.Op} {R:List (List Int)} {P:List Nat} {cols c:Nat} (h:c ∈ P):kerC o R P cols (c + 1)=kerC o R P cols c:=by
 unfold kerC
 rw [List.range_succ,List.filter_append]
 simp [h]
theorem kerC_no {o:Cw.Op} {R:List (List Int)} {P:List Nat} {cols c:Nat} (h:c ∉ P):kerC o R P cols (c + 1)=kerC o R P cols c ++ [kv o R P cols c]:=by
 unfold kerC
 rw [List.range_succ,List.filter_append]
 simp [h]
theorem kerC_len (o:Cw.Op) (R:List (List Int)) (P:List Nat) (cols c:Nat):(kerC o R P cols c).length≤c:=by
 unfold kerC
 rw [List.length_map]
 exact Nat.le_trans (List.length_filter_le _ _) (by simp)
def KerOut (o:Cw.Op) (A:List (List Int)) (cols:Nat) (w:World) (e:Ending) (w':World):Prop :=
 ∃ v',e=.returned (.tuple #[.agg #[.int .i64 cols,v'],.int .i64 0])∧Ro w' w.heap.size v' (duaL o (canL o A cols) (pvL o A cols) cols)∧Kept w w'
theorem Ro.cellAt {w:World} {B b off cap n:Nat} {A:List (List Int)} (h:Ro w B (.slice (some ⟨b,off,none⟩) n cap) A) {i:Nat} (hi:i < A.length):b < w.heap.size∧∃ u,w.cell? ⟨b,off + i,none⟩=some u∧Own w B u (Gj.row A i):=by
 obtain ⟨a,c,e,_,_,h4⟩:=h
 obtain ⟨b',off',e2,_,hb,hc⟩:=h4 (by intro e;rw [e] at hi;simp at hi)
 cases e
 cases e2
 exact ⟨hb,hc i hi⟩
theorem Ro.addr {w:World} {B:Nat} {a:Option Addr} {n cap:Nat} {A:List (List Int)} (h:Ro w B (.slice a n cap) A) (hA:A ≠ []):∃ b off,a=some ⟨b,off,none⟩:=by
 obtain ⟨a',c,e,_,_,h4⟩:=h
 obtain ⟨b',off',e2,_⟩:=h4 hA
 cases e
 exact ⟨b',off',e2⟩
set_option maxRecDepth 100000 in
set_option maxHeartbeats 4000000 in
theorem kernel_any (G:GFd) (t:Tabs G) (vm:Value) (cols:Nat) (v:Value) (A:List (List Int)) (w:World) (hvm:Sl w vm G.mod) (hv:Rd w v A) (hw:WF G.q A cols) (hc1:1≤cols) (hc2:cols≤256) (hn:A.length≤256) :
  Calls Tryz.prog 31 #[.agg #[.int .i64 G.P,.int .i64 G.M,vm],.agg #[.int .i64 cols,v]] w (KerOut (opG G) A cols w):=by
 obtain ⟨va,vc,rfl,_,_⟩:=hv.get
 obtain ⟨w1,hw1⟩:∃ w1,w1=((w.alloc (.cells #[.int .i64 G.P,.int .i64 G.M,vm] 24)).alloc (.cells #[.int .i64 cols,.slice va A.length vc] 71)).alloc (.cells #[.int .i64 0,.slice none 0 0] 71):=⟨_,rfl⟩
 have hk1:Kept w w1:=by rw [hw1];exact ((kept_alloc _ _).tr (kept_alloc _ _)).tr (kept_alloc _ _)
 have bf:BoxF w1 w.heap.size G.P G.M vm:=by rw [hw1];exact ((boxF_new w _ _ _ _).kept (kept_alloc _ _)).kept (kept_alloc _ _)
 have bm:BoxM w1 (w.heap.size + 1) cols (.slice va A.length vc):=by
  rw [hw1]
  have:=(boxM_new (w.alloc (.cells #[.int .i64 G.P,.int .i64 G.M,vm] 24)) cols (.slice va A.length vc) 71).kept (kept_alloc _ (.cells #[.int .i64 0,.slice none 0 0] 71))
  simpa using this
 have br:Res2 w1 (w.heap.size + 1 + 1):=by
  rw [hw1]
  have:=res2_new ((w.alloc (.cells #[.int .i64 G.P,.int .i64 G.M,vm] 24)).alloc (.cells #[.int .i64 cols,.slice va A.length vc] 71)) 71
  simpa using this
 have hvm1:=hvm.kept hk1
 have hv1:=hv.kept hk1
 have hkb:=kept_alloc w1 (.cells #[.int .i64 cols,.slice va A.length vc] 71)
 have b0:=bf.h0
 have b1:=bf.h1
 have b2:=bf.h2
 have m0:=bm.h0
 have m1:=bm.h1
 have hsz1:w1.heap.size < (w1.alloc (.cells #[.int .i64 cols,.slice va A.length vc] 71)).heap.size:=by simp
 have x0:=(boxM_new w1 cols (.slice va A.length vc) 71).h0
 have x1:=(boxM_new w1 cols (.slice va A.length vc) 71).h1
 have hs1:w1.heap.size=w.heap.size + 1 + 1 + 1:=by rw [hw1];simp
 rw [hs1] at x0 x1 hsz1
 have HS1:=hid hs1
 clear hs1
 go_enter Tryz.func31,Tryz.ntmps31
 go_wp2_with (fail)
 rw [← hw1]
 clear hw1
 (with_reducible refine (open_op G t vm (w.heap.size + 1 + 1 + 1) cols _ A _ (hvm1.kept hkb) hsz1 x0 x1 (hv1.kept hkb) hw hc2 hn).mono ?_)
 rintro e w2 ⟨b,H,rfl,hg2,tH,hop,hq,hk2⟩
 have hk12:=hkb.tr hk2
 have bm2:=bm.kept hk12
 have br2:=br.kept hk12
 have hv2:=hv1.kept hk12
 have hwH:WF H.q A cols:=by rw [hq];exact hw
 have HOP:=hid hop
 clear hop hq x0 x1 b0 b1 b2 m0 m1 hkb hk2
 have m0:=bm2.h0
 have m1:=bm2.h1
 have hkt:=hk1.tr hk12
 have hlow:w.heap.size + 1 + 1 < w2.heap.size:=by have:=hk12.size;have:=HS1.out;omega
 go_wp2_with (fail)
 (with_reducible refine (canon_any b H tH cols _ A w2 hg2 hv2 hwH hc1 hc2 hn).mono ?_)
 rintro e w3 ⟨v',pv,rfl,hr3,hp3,hk3⟩
 obtain ⟨hrf,hrl,_⟩:=can_rf tH hwH
 obtain ⟨R,hR⟩:∃ R,R=canL (opG H) A cols:=⟨_,rfl⟩
 obtain ⟨P,hP⟩:∃ P,P=pvL (opG H) A cols:=⟨_,rfl⟩
 rw [← hR,← hP] at hrf
 rw [← hR] at hr3 hrl
 rw [← hP] at hp3
 obtain ⟨ra,rc,rfl,_,hrc⟩:=hr3.get
 obtain ⟨pa,pc,rfl,_,hpc⟩:=hp3.sl.lenOf
 unfold maxLen at hrc hpc
 rw [length_ints] at hp3 ⊢
 have hRP:=hrf.len
 have hP256:P.length≤256:=by omega
 have hg3:=hg2.kept hk3
 have bm3:=bm2.kept hk3
 have br3:=br2.kept hk3
 have hkt3:=hkt.tr hk3
 have HR:=hid hR
 have HP:=hid hP
 have HRP:=hid hRP
 have HRF:=hid hrf
 have HOH:Hid (opG H=opG G):=HOP
 clear m0 m1 bm bm2 br br2 bf hv1 hvm1 hsz1 hR hP hRP hrf hrl hk12 hv2 hk1
 have m0:=bm3.h0
 have m1:=bm3.h1
 go_wp2_with (fail)
 go_loopw [10,37] (fun vo vi wr=>∃ (c:Nat) (oa:Option Addr) (oc:Nat) (rv:Nat→Value),c≤cols∧vi=.int .i64 c∧vo=.slice oa (kerC (opG H) R P cols c).length oc∧Mx wr w3.heap.size (.slice oa (kerC (opG H) R P cols c).length oc) (kerC (opG H) R P cols c) rv∧Kept w3 wr) (fun _ vi _=>cols - (intOf vi).toNat)
 case atStart=>exact ⟨0,none,0,_,by omega,rfl,rfl,mx_nil _ _,Kept.rfl' _⟩
 case round =>
  obtain ⟨c,oa,oc,rv,hc,rfl,rfl,hmx,hkr⟩:=hrel
  obtain ⟨wo,hwo⟩:∃ x,x=wr:=⟨_,rfl⟩
  rw [← hwo] at hmx hkr ⊢
  clear hwo
  have bmr:=bm3.kept hkr
  have brr:=br3.kept hkr
  have hgr:=hg3.kept hkr
  have hpr:=hp3.kept hkr
  have hrr:=hr3.kept hkr
  clear m0 m1
  have m0:=bmr.h0
  have m1:=bmr.h1
  by_cases hlt:c < cols
  ·have hlt':(c:Int) < (cols:Int):=by omega
   by_cases hcP:c ∈ P
   ·have HC:=hid (mem_ints.2 hcP)
    have HK:Hid (kerC (opG H) R P cols (c + 1)=kerC (opG H) R P cols c):=hid (kerC_yes hcP)
    clear hcP
    go_wp2_with (go_at_call 37;(with_reducible refine (contains_yes _ (ints P) c _ hpr.sl HC.out).mono ?_);rintro e w4 ⟨rfl,rfl⟩)
    go_roundw
    case rel=>exact ⟨c + 1,oa,oc,rv,by omega,by go_num,by rw [HK.out],by rw [HK.out];exact hmx,hkr⟩
    case measure=>simp [intOf];omega
   ·have HC:Hid ((c:Int) ∉ ints P):=hid (fun q=>hcP (mem_ints.1 q))
    have HK:Hid (kerC (opG H) R P cols (c + 1)=kerC (opG H) R P cols c ++ [kv (opG H) R P cols c]):=hid (kerC_no hcP)
    have hkl:=kerC_len (opG H) R P cols c
    obtain ⟨C,hC⟩:∃ C,C=kerC (opG H) R P cols c:=⟨_,rfl⟩
    rw [← hC] at hmx HK hkl ⊢
    have HCC:=hid hC
    clear hcP hC
    go_upto_region 10 with (go_at_call 37;(with_reducible refine (contains_no _ (ints P) c _ hpr.sl HC.out).mono ?_);rintro e w4 ⟨rfl,rfl⟩)
    have hk0c:Hid (kvS (opG H) R P cols c 0=(List.replicate cols 0).set c 1):=hid rfl
    go_wp2_with (at_make;refine wpList_make_ints rfl _ _ rfl cols _ _ rfl rfl rfl rfl (by omega) ?_;intro w4 ho4 hk4;have cs4:=ho4.cell (i:=c) (by simpa using hlt);have fs4:=ho4.frozen c;have hsz4:=hk4.size)
    have ho5:=ho4.set c 1
    rw [← hk0c.out] at ho5
    have hk5:=set_below (b:=wo.heap.size) (i:=c) (.int .i64 1) hk4 (Nat.le_refl _)
    have HRL:Hid (∀ i,i < R.length→(Gj.row R i).length=cols):=hid fun i hi=>HRF.out.ri.wf i hi
    have HPL:Hid (∀ i,i < P.length→P.getD i 0 < cols):=hid HRF.out.ri.pc
    clear ho4 hk4 cs4 fs4
    go_loopw [51,13,14] (fun vi _ _ wx=>∃ i:Nat,i≤P.length∧vi=.int .i64 i∧Own wx wo.heap.size (.slice (some ⟨wo.heap.size,0,none⟩) cols cols) (kvS (opG H) R P cols c i)∧Kept wo wx) (fun vi _ _ _=>P.length - (intOf vi).toNat)
    case atStart=>exact ⟨0,by omega,rfl,ho5,hk5⟩
    case round =>
     obtain ⟨i,hi,rfl,hox,hkx⟩:=hrel
     clear ho5 hk5
     have hpx:=hpr.kept hkx
     have hrx:=hrr.kept hkx
     have hgx:=hgr.kept hkx
     have bmx:=bmr.kept hkx
     by_cases hip:i < P.length
     ·have hip':(i:Int) < (P.length:Int):=by omega
      have hiR:i < R.length:=by rw [HRP.out];exact hip
      obtain ⟨gp,rfl⟩:∃ gp,pa=some ⟨gp,0,none⟩:=by
       rcases hpx.form with ⟨e,e2⟩ | ⟨g,cp,e,_⟩
       ·exfalso
        have:(ints P).length=0:=by rw [e2];rfl
        rw [length_ints] at this;omega
       ·injection e with e1 _ _;exact ⟨g,e1⟩
      have c1:=hpx.cell (i:=i) (by rw [length_ints];exact hip)
      rw [ints_at hip] at c1
      obtain ⟨p,hp⟩:∃ p,p=P.getD i 0:=⟨_,rfl⟩
      rw [← hp] at c1
      have hpc:=HPL.out i hip
      rw [← hp] at hpc
      obtain ⟨bR,oR,rfl⟩:=hrx.addr (by intro e;rw [e] at hiR;simp at hiR)
      obtain ⟨_,u,u1,u2⟩:=hrx.cellAt hiR
      obtain ⟨bu,cu,rfl⟩:∃ bu cu,u=.slice (some ⟨bu,0,none⟩) cols cu:=by
       rcases u2.form with ⟨_,e2⟩ | ⟨g,cp,e,_⟩
       ·have:=HRL.out i hiR;rw [e2] at this;simp at this;omega
       ·exact ⟨g,cp,by rw [e,HRL.out i hiR]⟩
      have u3:=u2.cell (i:=c) (by rw [HRL.out i hiR];exact hlt)
      obtain ⟨z,hz⟩:∃ z,z=(Gj.row R i).getD c 0:=⟨_,rfl⟩
      rw [← hz] at u3
      have HST:Hid (kvS (opG H) R P cols c (i + 1)=(kvS (opG H) R P cols c i).set p (negG H z)):=hid (by rw [kvS,← hp,hz];rfl)
      have hp':(p:Int) < (cols:Int):=by omega
      have hiR':(i:Int) < (R.length:Int):=by omega
      have cx:=hox.cell (i:=p) (by rw [length_kvS];exact hpc)
      have fx:=hox.frozen p
      clear hp hz u2
      go_wp2_with (go_at_call 71;(with_reducible refine (neg_any b H z _ hgx tH).mono ?_);rintro e w6 ⟨rfl,n6,rfl⟩)
      have ho6:=(hox.drewN n6).set p (negG H z)
      rw [← HST.out] at ho6
      have hk6:=set_below (b:=wo.heap.size) (i:=p) (.int .i64 (negG H z)) (hkx.drewN n6) (Nat.le_refl _)
      go_roundw
      case rel=>exact ⟨i + 1,by omega,by go_num,ho6,hk6⟩
      case measure=>simp [intOf];omega
     ·have hie:i=P.length:=by omega
      have HKV:Hid (kvS (opG H) R P cols c i=kv (opG H) R P cols c):=hid (by rw [hie];rfl)
      rw [HKV.out] at hox
      have hmxx:=hmx.kept hkx
      have hk7:=kept_alloc wr (.cells #[.slice (some ⟨wo.heap.size,0,none⟩) cols cols] 22)
      have hm7:=hmxx.kept hk7
      have ho7:=hox.kept hk7
      have hs3:w3.heap.size≤wo.heap.size:=hkr.size
      have hsx:=hkx.size
      have hip':¬ (i:Int) < (P.length:Int):=by omega
      have m0':=bmx.h0
      have m1':=bmx.h1
      clear hie m0 m1
      go_wp2_with (at_builtin;refine wpList_append_row rfl _ _ rfl w3.heap.size _ C.length _ rfl hm7.out ⟨wr.heap.size,0,none⟩ (.slice (some ⟨wo.heap.size,0,none⟩) cols cols) rfl (cell_new rfl) rfl (by omega) (by simp;omega) ?_;intro v8 w8 o8 hg8)
      have hm8:=hm7.add (ho7.mono hs3) (fun x hx j hj e2=>by
       have h1:wo.heap.size=x:=by simpa [Value.ownBlock] using hx
       have h2:=own_blk (hmx.row j hj) e2
       omega) o8 hg8
      have hk8:Kept w3 w8:=(((hkr.tr hkx).tr hk7).grown hg8 (by simp;omega) (fun k e=>by
       have:=World.ownsRow.lt hm7.out k e
       exact this.1))
      rw [← HK.out] at hm8
      obtain ⟨oa8,oc8,rfl⟩:=hm8.lenOf
      clear o8 hg8 hm7 ho7
      go_roundw
      case rel=>exact ⟨c + 1,oa8,oc8,_,by omega,by go_num,rfl,hm8,hk8⟩
      case measure=>simp [intOf];omega
  ·have hce:c=cols:=by omega
   have hlt':¬ (c:Int) < (cols:Int):=by omega
   have HKC:Hid (kerC (opG H) R P cols c=kerL (opG H) R P cols):=hid (by rw [hce];rfl)
   rw [HKC.out] at hmx ⊢
   have hwK:=kerL_wf tH HRF.out
   have hnK:(kerL (opG H) R P cols).length≤256:=by
    have:=kerC_len (opG H) R P cols c
    rw [HKC.out] at this
    omega
   have hrK:=hmx.rd
   have hkf:=hkt3.tr hkr
   clear hce
   go_wp2_with (fail)
   (with_reducible refine (canon_any b H tH cols _ _ wo hgr hrK hwK hc1 hc2 hnK).mono ?_)
   rintro e w9 ⟨v9,pv9,rfl,hr9,hp9,hk9⟩
   obtain ⟨fa,fc,fe,_,_⟩:=hr9.get
   obtain ⟨fl,hfl⟩:∃ n,n=(canL (opG H) (kerL (opG H) R P cols) cols).length:=⟨_,rfl⟩
   rw [← hfl] at fe
   subst fe
   have br9:=brr.kept hk9
   have bm9:=bmr.kept hk9
   have HR9:=hid hr9
   have hlow9:w.heap.size + 1 + 1 < wo.heap.size:=Nat.lt_of_lt_of_le hlow ((hk3.tr hkr).size)
   have hBr:w.heap.size≤wo.heap.size:=hkf.size
   have KF:=hid (fun x y=>set_below (b:=w.heap.size + 1 + 1) (i:=1) y (set_below (b:=w.heap.size + 1 + 1) (i:=0) x (hkf.tr hk9) (by omega)) (by omega))
   clear m0 m1 hr9 hp9 hfl
   have m0:=bm9.h0
   have r0:=br9.c0
   have r1:=br9.c1
   have f0:=br9.f0
   have f1:=br9.f1
   go_wp2_with (fail)
   refine bodyPost_ret (v:=.tuple #[.agg #[.int .i64 cols,.slice fa fl fc],.int .i64 0]) ?_ rfl ⟨_,rfl, ?_,KF.out _ _⟩
   ·simp [results,Tryz.results31,go_sem,r0,r1]
   ·rw [← HOH.out,← HR.out,← HP.out]
    exact ((HR9.out.set hlow9 _).set hlow9 _).mono hBr
end Go.Proofs.YtoilbeadokallaaGreatDoor
