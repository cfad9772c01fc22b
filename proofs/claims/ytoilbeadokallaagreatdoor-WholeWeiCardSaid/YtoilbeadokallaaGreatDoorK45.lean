/- The walk of mindist.run. Conditions: the code is one and lies in memory; the sets of Family are information sets whose columns have inverses. -/
import Derived.Test.YtoilbeadokallaaGreatDoorK44
namespace Go.Proofs.YtoilbeadokallaaGreatDoor
open Go.RowKit Cw Cw.Gj
def SysOk (G:GFd) (A:List (List Int)) (n:Nat) (S:List Nat):Prop :=
 AscL S n∧(greedyL (opG G) A S [] []).length=A.length∧S.length=A.length∧(invL (opG G) (colsL A S)).2.length=A.length∧WF G.q (invL (opG G) (colsL A S)).1 A.length∧(invL (opG G) (colsL A S)).1.length=A.length
def sysR (G:GFd) (A:List (List Int)) (n:Nat) (l:List (List Nat × Nat)):List (List (List Int)):=l.map fun p=>sysL (opG G) A n p.1
def rkR (l:List (List Nat × Nat)):List Int:=ints (l.map (·.2))
def RunX (G:GFd) (A:List (List Int)) (n:Nat) (w:World) (e:Ending) (w':World):Prop :=
 Kept w w'∧∃ steps:List (List Nat × Nat),FamR (opG G) A n [] steps ∧
  ((∃ best vo bv,RunO (opG G) A.length G.q.toNat n (sysR G A n steps) (rkR steps) 1 ([],0) (some best)∧e=.returned (.tuple #[vo,bv,.int .i64 0])∧Sl w' bv best∧best.length≤64) ∨
   (RunO (opG G) A.length G.q.toNat n (sysR G A n steps) (rkR steps) 1 ([],0) none∧e=.returned (.tuple #[.slice none 0 0,.slice none 0 0,.int .i64 8])))
theorem SrM.gens {w w1 w2:World} {bs b:Nat} {c1 c2 c3 c4 c5 vgs bv v':Value} {s:List Int × Int} (h:SrM w bs b c1 c2 c3 c4 c5 vgs bv s) (k:Kept w w1) (hg:w1.grownBy w2 vgs.ownBlock) (hn:vgs.ownBlock ≠ some bs) (hb:bv.ownBlock=none ∨ bv.ownBlock ≠ vgs.ownBlock):SrM (w2.setCell ⟨bs,6,none⟩ v') bs b c1 c2 c3 c4 c5 v' bv s :=
 ⟨((h.bk.kept k).gbo hg hn).set 6 _,fz_set ((h.fz.kept k).gbo hg hn) _ _ _,((h.own.kept k).grownBy hg hb).grownBy (grownBy_setCell _ bs 6 _) (.inr fun e=>by have:=(own_blk h.own e).1;omega),h.len⟩
theorem SrM.gbo {w w':World} {bs b:Nat} {c1 c2 c3 c4 c5 c6 bv:Value} {s:List Int × Int} (h:SrM w bs b c1 c2 c3 c4 c5 c6 bv s) {x:Option Nat} (hg:w.grownBy w' x) (hn:x ≠ some bs) (hb:bv.ownBlock=none ∨ bv.ownBlock ≠ x):SrM w' bs b c1 c2 c3 c4 c5 c6 bv s:=⟨h.bk.gbo hg hn,h.fz.gbo hg hn,h.own.grownBy hg hb,h.len⟩
theorem box4_at (w:World) (u0 u1 u2 u3:Value) (T:TypeId):(w.alloc (.cells #[u0,u1,u2,u3] T)).cell? ((⟨w.heap.size,0,none⟩:Addr).add 0)=some u0∧(w.alloc (.cells #[u0,u1,u2,u3] T)).cell? ((⟨w.heap.size,0,none⟩:Addr).add 1)=some u1∧(w.alloc (.cells #[u0,u1,u2,u3] T)).cell? ((⟨w.heap.size,0,none⟩:Addr).add 2)=some u2∧(w.alloc (.cells #[u0,u1,u2,u3] T)).cell? ((⟨w.heap.size,0,none⟩:Addr).add 3)=some u3:=by
 refine ⟨?_, ?_, ?_, ?_⟩ <;> (rw [Addr.add_lit,World.cell?_alloc_at _ _ _ _ rfl];rfl)
theorem gb_fresh {a b c:World} {g:Nat} {x:Option Nat} (h:a.grownBy b (some g)) (k:b.grownBy c x) (hx:∀ j,x=some j→a.heap.size≤j ∨ g=j):a.grownBy c (some g):=World.grownBy.andThen h k fun j e=>(hx j e).imp id fun e=>by rw [e]
theorem map_take_next {α β:Type} {l:List α} {f:α→β} {i:Nat} {p:α} (h:l[i]?=some p):(l.take (i + 1)).map f=(l.take i).map f ++ [f p]:=by
 obtain ⟨h1,h2⟩:=List.getElem?_eq_some_iff.1 h
 rw [List.take_succ_eq_append_getElem h1,List.map_append,h2]
 rfl
set_option maxRecDepth 100000 in
set_option maxHeartbeats 16000000 in
theorem run_any (G:GFd) (t:Tabs G) (n:Nat) (ma:Option Addr) (ml mc:Nat) (va:Option Addr) (vc:Nat) (A:List (List Int)) (P:List Nat) (w:World) (h:CdM w G n ma ml mc va vc A P) (hA:0 < A.length)
  (hfam:∀ steps,FamR (opG G) A n [] steps→steps ≠ []∧∀ p ∈ steps,SysOk G A n p.1∧p.2≤A.length) :
  Calls Tryz.prog 29 #[cdV G n ma ml mc va A.length vc] w (RunX G A n w):=by
 show Calls Tryz.prog 29 #[.agg #[.int .i64 G.P,.int .i64 G.M,.slice ma ml mc,.int .i64 n,.slice va A.length vc]] w _
 obtain ⟨W1,hW1⟩:∃ x,x=w.alloc (.cells #[.int .i64 G.P,.int .i64 G.M,.slice ma ml mc,.int .i64 n,.slice va A.length vc] 29):=⟨_,rfl⟩
 obtain ⟨bc,hbc⟩:∃ x,x=w.heap.size:=⟨_,rfl⟩
 have hk1:Kept w W1:=by rw [hW1];exact kept_alloc _ _
 have bx:Bk W1 bc [.int .i64 G.P,.int .i64 G.M,.slice ma ml mc,.int .i64 n,.slice va A.length vc]:=by rw [hW1];exact bk_new w [.int .i64 G.P,.int .i64 G.M,.slice ma ml mc,.int .i64 n,.slice va A.length vc] _ _ hbc
 have hn1:=h.n1
 have hn2:=h.n2
 have hle:=h.rf.le
 obtain ⟨K,hK⟩:∃ x,x=A.length:=⟨_,rfl⟩
 have HC1:=hid (h.kept hk1)
 have HCK:=hid (ccheck_ok G t ma ml mc n va A.length vc A P W1 HC1.out.f HC1.out.g HC1.out.rf hn1 hn2)
 rw [← hK] at bx HCK hle hA ⊢
 have HKK:=hid hK
 have HBX:=hid bx
 have HK1:=hid hk1
 have HBC:=hid hbc
 have HFAM:=hid hfam
 have x0:=bx.2 0 _ rfl
 have x1:=bx.2 1 _ rfl
 have x2:=bx.2 2 _ rfl
 have x3:=bx.2 3 _ rfl
 have x4:=bx.2 4 _ rfl
 have tK:(((K:Nat):Int) == 0)=false:=by simp;omega
 have hK64:K≤64:=by omega
 rw [← hK] at hW1
 clear h bx hk1 hle hK hfam
 go_enter Tryz.func29,Tryz.ntmps29
 go_upto_region 1 with (fail)
 rw [← hW1,← hbc]
 clear hW1 hbc
 go_upto_region 2 with (go_at_call 23;(with_reducible refine HCK.out.mono ?_);rintro e w2 ⟨rfl,hk2⟩)
 have hb2:=HBX.out.kept hk2
 clear x0 x1 x2 x3 x4
 have x0:=hb2.2 0 _ rfl
 have x1:=hb2.2 1 _ rfl
 have x2:=hb2.2 2 _ rfl
 have x4:=hb2.2 4 _ rfl
 have HNW:=hid (new_field G.P G.M (.slice ma ml mc) G.mod w2 (HC1.out.f.kept hk2) t.field)
 have HK2:=hid hk2
 clear hb2 hk2
 go_upto_region 7 with (go_at_call 47;(with_reducible refine HNW.out.mono ?_);rintro e w3 ⟨b,H,rfl,hg3,tH,hP,hM,hmod,hk3⟩)
 have HF:=hid (show opG H=opG G∧H.q=G.q from ⟨opG_eq tH t hP hM hmod,by rw [tH.hq,t.hq,hP,hM]⟩)
 have HK3:=hid (HK2.out.tr hk3)
 have HG3:=hid hg3
 have HFA:=hid (family_any G t n ma ml mc va vc A P w3 (HC1.out.kept HK3.out) (by rw [← HKK.out];exact hA))
 unfold cdV at HFA
 rw [← HKK.out] at HFA
 have hb3:=HBX.out.kept HK3.out
 clear hP hM hmod x0 x1 x2 x4 hk3 hg3
 have x0:=hb3.2 0 _ rfl
 have x1:=hb3.2 1 _ rfl
 have x2:=hb3.2 2 _ rfl
 have x3:=hb3.2 3 _ rfl
 have x4:=hb3.2 4 _ rfl
 clear hb3
 go_upto_region 10 with (go_at_call 64;(with_reducible refine HFA.out.mono ?_);rintro e w4 ⟨v4,steps,rfl,hfm4,hfr4,hk4⟩)
 obtain ⟨hne4,hst4⟩:=HFAM.out _ hfr4
 have hlen4:=famR_len hfr4
 obtain ⟨gf,cf,hv4⟩:∃ g c,v4=.slice (some ⟨g,0,none⟩) steps.length c:=by
  rcases hfm4.own.form with ⟨_,e⟩ | ⟨g,c,e,_⟩
  ·rw [e] at hne4;exact absurd rfl hne4
  ·exact ⟨g,c,e⟩
 subst hv4
 obtain ⟨Ms,hMs⟩:∃ x,x=steps.length:=⟨_,rfl⟩
 have hM1:1≤Ms:=by
  rw [hMs]
  rcases steps with _ | ⟨_,_⟩
  ·exact absurd rfl hne4
  ·simp
 have hM2:Ms≤64:=by rw [hMs];simp at hlen4;omega
 rw [← hMs] at hfm4 ⊢
 have HMS:=hid hMs
 have HFM4:=hid hfm4
 have HFR4:=hid hfr4
 have HST4:=hid hst4
 have HK4:=hid (HK3.out.tr hk4)
 have HG4:=hid (HG3.out.kept hk4)
 have hb4:=HBX.out.kept HK4.out
 clear hfm4 hfr4 hst4 hk4 x0 x1 x2 x3 x4 hne4 hlen4 hMs
 have x0:=hb4.2 0 _ rfl
 have x1:=hb4.2 1 _ rfl
 have x2:=hb4.2 2 _ rfl
 have x3:=hb4.2 3 _ rfl
 have x4:=hb4.2 4 _ rfl
 have l4:=hb4.1
 clear hb4
 go_upto_region 13 with (fail)
 obtain ⟨W5,hW5⟩:∃ x,x=w4.alloc (.cells #[.pointer (some ⟨b,0,none⟩),.int .i64 G.P,.int .i64 G.M,.slice ma ml mc,.int .i64 n,.slice va K vc,.slice none 0 0,.slice none 0 0,.int .i64 0] 121):=⟨_,rfl⟩
 obtain ⟨bs,hbs⟩:∃ x,x=w4.heap.size:=⟨_,rfl⟩
 rw [← hW5,← hbs]
 have hk5:Kept w4 W5:=by rw [hW5];exact kept_alloc _ _
 have s5:SrM W5 bs b (.int .i64 G.P) (.int .i64 G.M) (.slice ma ml mc) (.int .i64 n) (.slice va K vc) (.slice none 0 0) (.slice none 0 0) ([],0) :=
  ⟨by rw [hW5];exact bk_new w4 [.pointer (some ⟨b,0,none⟩),.int .i64 G.P,.int .i64 G.M,.slice ma ml mc,.int .i64 n,.slice va K vc,.slice none 0 0,.slice none 0 0,.int .i64 0] _ _ hbs,by rw [hW5];exact fz_new _ _ _ _ hbs,own_nil _ _,by simp⟩
 have HS5:=hid s5
 have HK5:=hid hk5
 have HBS:=hid hbs
 have hbc4:bc < bs:=by rw [hbs];exact l4
 have hw45:w4.heap.size≤bs:=by rw [hbs];exact Nat.le_refl _
 have hsz5:W5.heap.size=bs + 1:=by rw [hW5,hbs];simp
 have HSZ5:=hid hsz5
 clear hW5 hbs s5 hk5 x0 x1 x2 x3 x4 l4 hsz5
 obtain ⟨o,ho⟩:∃ o,o=opG G:=⟨_,rfl⟩
 go_wp2_with (fail)
 go_loopw [55,10] (fun vi vr wr=>∃ (vr' vgs:Value) (gv:Nat→Value) (rv:Nat→Nat→Value) (i:Nat),vr'=vr∧i≤Ms∧vi=.int .i64 i∧SrM wr bs b (.int .i64 G.P) (.int .i64 G.M) (.slice ma ml mc) (.int .i64 n) (.slice va K vc) vgs (.slice none 0 0) ([],0) ∧
   GnM wr (bs + 1) vgs gv rv (sysR G A n ((steps.map (·.2)).take i))∧Own wr (bs + 1) vr' (rkR ((steps.map (·.2)).take i))∧Hid (∀ x,HasG gv rv (sysR G A n ((steps.map (·.2)).take i)) x→vr'.ownBlock ≠ some x)∧W5.grownBy wr (some bs)) (fun vi _ _=>Ms - (intOf vi).toNat)
 case atStart=>exact ⟨_,_,_,_,0,rfl,by omega,rfl,HS5.out,gnm_nil _ _,own_nil _ _,hid (fun x _ e=>by cases e),World.grownBy.refl _ _⟩
 case round =>
  obtain ⟨vr,vgs,gv,rv,i,rfl,hi,rfl,hsr,hgn,hor,HND,hgr⟩:=hrel
  have hk4r:Kept w4 wr:=gb_below HK5.out hgr hw45 HK5.out.size
  have HSR:=hid hsr
  have HGN:=hid hgn
  have HOR:=hid hor
  have HGR:=hid hgr
  have HK4R:=hid hk4r
  have hb4:=HBX.out.kept (HK4.out.tr hk4r)
  clear hsr hgn hor hgr
  by_cases hlt:i < Ms
  ·have hlt':(i:Int) < (Ms:Int):=by omega
   have hi0:(0:Int)≤(i:Int):=by omega
   have x0:=hb4.2 0 _ rfl
   have x1:=hb4.2 1 _ rfl
   have x2:=hb4.2 2 _ rfl
   have x3:=hb4.2 3 _ rfl
   have x4:=hb4.2 4 _ rfl
   have lb4:=hb4.1
   obtain ⟨p,hp⟩:∃ p,steps[i]?=some p:=by
    have:i < steps.length:=by rw [← HMS.out];exact hlt
    exact ⟨steps[i],by simp [this]⟩
   have hfr:=HFM4.out.kept hk4r
   obtain ⟨d0,d1⟩:=hfr.own.cells hp
   have hpm:p ∈ steps:=List.mem_of_getElem? hp
   have hset:=(hfr.row p hpm).sl
   obtain ⟨hsys,hrk⟩:=HST4.out _ (List.mem_map.2 ⟨p,hpm,rfl⟩)
   have hgfl:gf < wr.heap.size:=by
    have:=(World.ownsRow.lt hfr.own gf rfl).2
    exact this
   have HP:=hid hp
   have HSET:=hid hset
   have HSYS:=hid hsys
   have HRK:=hid hrk
   clear hb4 hfr hpm hset hsys hrk hp
   obtain ⟨pv,hpv⟩:∃ x,x=p.1:=⟨_,rfl⟩
   obtain ⟨pS,hpS⟩:∃ x,x=p.2.1:=⟨_,rfl⟩
   obtain ⟨pr,hpr⟩:∃ x,x=p.2.2:=⟨_,rfl⟩
   have HPE:Hid (p.2=(pS,pr)):=hid (by rw [hpS,hpr])
   rw [← hpv] at d0
   rw [← hpr] at d1
   rw [← hpv,← hpS] at HSET
   rw [← hpS] at HSYS
   rw [← hpr] at HRK
   clear hpv hpS hpr
   obtain ⟨pa,pc,ep,_,_⟩:=HSET.out.lenOf
   have HSK:Hid (pS.length=K):=hid (HSYS.out.2.2.1.trans HKK.out.symm)
   rw [length_ints,HSK.out] at ep
   subst ep
   obtain ⟨Gs,hGs⟩:∃ x,x=sysR G A n ((steps.map (·.2)).take i):=⟨_,rfl⟩
   obtain ⟨gl,hgl⟩:∃ x,x=Gs.length:=⟨_,rfl⟩
   have hgl64:gl≤64:=by rw [hgl,hGs];simp [sysR];omega
   rw [← hGs] at HGN HND
   obtain ⟨rk,hrk⟩:∃ x,x=rkR ((steps.map (·.2)).take i):=⟨_,rfl⟩
   rw [← hrk] at HOR
   have hrkl:rk.length≤64:=by rw [hrk];simp [rkR,ints];omega
   have HRKE:=hid hrk
   have HGS:=hid hGs
   have HGL:=hid hgl
   clear hgl hGs hrk
   go_upto_region 17 with (fail)
   obtain ⟨W6,hW6⟩:∃ x,x=wr.alloc (.cells #[.slice pa K pc,.int .i64 pr] 123):=⟨_,rfl⟩
   obtain ⟨xb,hxb⟩:∃ x,x=wr.heap.size:=⟨_,rfl⟩
   rw [← hW6,← hxb]
   have hk6:Kept wr W6:=by rw [hW6];exact kept_alloc _ _
   have bx6:Bk W6 xb [.slice pa K pc,.int .i64 pr]:=by rw [hW6];exact bk_new wr [.slice pa K pc,.int .i64 pr] _ _ hxb
   have HSY:=hid (systematic_any G t n ma ml mc va vc A P pS (.slice pa K pc) W6 (HC1.out.kept ((HK4.out.tr HK4R.out).tr hk6)) (HSET.out.kept hk6) HSYS.out.1 (by rw [← HKK.out];exact hA) HSYS.out.2.1 HSYS.out.2.2.1 HSYS.out.2.2.2.1 HSYS.out.2.2.2.2.1 HSYS.out.2.2.2.2.2)
   unfold cdV at HSY
   rw [← HKK.out] at HSY
   have hb6:=HBX.out.kept ((HK4.out.tr HK4R.out).tr hk6)
   have HB6:=hid bx6
   have HK6:=hid hk6
   have HXB:=hid hxb
   have hbsx:bs < xb:=by rw [hxb];exact HSR.out.bk.1
   clear x0 x1 x2 x3 x4 d0 d1 hk6 hW6 hxb
   have x0:=hb6.2 0 _ rfl
   have x1:=hb6.2 1 _ rfl
   have x2:=hb6.2 2 _ rfl
   have x3:=hb6.2 3 _ rfl
   have x4:=hb6.2 4 _ rfl
   have y0:=bx6.2 0 _ rfl
   have lb6:=hb6.1
   have lx6:=bx6.1
   clear hb6 bx6
   obtain ⟨C,hC⟩:∃ x,x=sysL (opG G) A n pS:=⟨_,rfl⟩
   rw [← hC] at HSY
   have HCE:=hid hC
   clear hC
   go_upto_region 18 with (go_at_call 65;(with_reducible refine HSY.out.mono ?_);rintro e w7 ⟨v7,rv7,rfl,hm7,hk7⟩;obtain ⟨a7,c7,e7⟩:=hm7.lenOf;subst e7;have HM7:=hid hm7;have HK7:=hid hk7;clear hm7 hk7)
   go_upto_region 20 with (fail)
   obtain ⟨W8,hW8⟩:∃ x,x=w7.alloc (.cells #[.int .i64 n,.slice a7 C.length c7] 71):=⟨_,rfl⟩
   obtain ⟨mb,hmb⟩:∃ x,x=w7.heap.size:=⟨_,rfl⟩
   rw [← hW8,← hmb]
   have hk8:Kept w7 W8:=by rw [hW8];exact kept_alloc _ _
   have bm8:Bk W8 mb [.int .i64 n,.slice a7 C.length c7]:=by rw [hW8];exact bk_new w7 [.int .i64 n,.slice a7 C.length c7] _ _ hmb
   have HKR8:=hid (HK6.out.tr (HK7.out.tr hk8))
   have HSR8:=hid (HSR.out.kept HKR8.out)
   have HGN8:=hid (HGN.out.kept HKR8.out)
   have HOR8:=hid (HOR.out.kept HKR8.out)
   have HM8:=hid ((HM7.out.kept hk8).mono (show bs + 1≤W6.heap.size by omega))
   have HB8:=hid (HB6.out.kept (HK7.out.tr hk8))
   clear x0 x1 x2 x3 x4 y0 hW8 hmb hk8
   have z6:=HSR8.out.bk.2 6 _ rfl
   have g6:=HSR8.out.fz.2 6
   have m1:=bm8.2 1 _ rfl
   have ls8:bs < W8.heap.size:=HSR8.out.bk.1
   have lm8:mb < W8.heap.size:=bm8.1
   clear bm8
   go_region_law (first
    | (refine step_append_gens rfl (.tmp 73) (.tmp 76) rfl (bs + 1) vgs gl ((List.range gl).map gv) rfl (by rw [HGL.out];first | exact (HGN8.out.kept (kept_alloc _ _)).own | exact ((HGN8.out.kept (kept_alloc _ _)).kept (kept_drew _)).own | exact ((HGN8.out.kept (kept_drew _)).kept (kept_alloc _ _)).own) ⟨W8.heap.size,0,none⟩ (.slice a7 C.length c7) rfl (by first | exact cell_new rfl | simp) rfl (by omega) (by simp;omega) ?_;intro w9 v10 w10 e9 o10 hg10;obtain ⟨a10,c10,e10⟩:=ownsRow_form o10;subst e10;have k89:Kept W8 w9:=(by rw [e9];first | exact kept_alloc _ _ | exact (kept_alloc _ _).tr (kept_drew _) | exact (kept_drew _).tr (kept_alloc _ _));clear e9;have hnv:vgs.ownBlock ≠ some bs:=(fun e=>by have:=(HGN8.out.lt (.inl e)).1;omega);have y6:=((HSR8.out.bk.kept k89).gbo hg10 hnv).2 6 _ rfl;have u6:=((HSR8.out.fz.kept k89).gbo hg10 hnv).2 6))
   all_goals
    obtain ⟨W11,hW11⟩:∃ x,x=w10.setCell ⟨bs,6,none⟩ (.slice a10 (gl + 1) c10):=⟨_,rfl⟩
    rw [← hW11]
    have h11:SrM W11 bs b (.int .i64 G.P) (.int .i64 G.M) (.slice ma ml mc) (.int .i64 n) (.slice va K vc) (.slice a10 (gl + 1) c10) (.slice none 0 0) ([],0):=by rw [hW11];exact HSR8.out.gens k89 hg10 hnv (.inl rfl)
    have gn10:=(HGN8.out.kept k89).add (HM8.out.kept k89) (by rw [← HGL.out];exact o10) hg10
    have gn11:=gn10.grown (grownBy_setCell w10 bs 6 (.slice a10 (gl + 1) c10)) (fun e=>by have:=(gn10.lt (.inl e)).1;omega) (fun e=>by have:=(gn10.lt (.inr e)).1;omega)
    have or10:Own w10 (bs + 1) vr rk:=(HOR8.out.kept k89).grownBy hg10 (by
     cases e:vr.ownBlock with
     | none=>exact .inl rfl
     | some x=>exact .inr fun e2=>owns_ne (HGN8.out.kept k89).own (HOR8.out.kept k89) (by decide) e e2.symm)
    have or11:=or10.grownBy (grownBy_setCell w10 bs 6 (.slice a10 (gl + 1) c10)) (.inr fun e=>by have:=(own_blk or10 e).1;omega)
    have gr11:=gb_set (gb_fresh (gb_kept HGR.out (HKR8.out.tr k89)) hg10 (fun j e=>.inl (by have:=(HGN.out.lt (.inl e)).1;have:=HSZ5.out;omega))) 6 (.slice a10 (gl + 1) c10)
    have hb11:=((HB8.out.kept k89).gbo hg10 (fun e=>by have:=(HGN.out.lt (.inl e)).2;have:=HXB.out;omega)).gb (grownBy_setCell w10 bs 6 (.slice a10 (gl + 1) c10)) (show xb ≠ bs by omega)
    rw [← hW11] at gn11 or11 gr11 hb11
    have hnd11:∀ x,HasG (fun j=>if j=Gs.length then .slice a7 C.length c7 else gv j) (fun j=>if j=Gs.length then rv7 else rv j) (Gs ++ [C]) x→vr.ownBlock ≠ some x:=by
     rintro x ⟨j,hj,e⟩ e2
     have hj':j < Gs.length + 1:=by simpa using hj
     by_cases q:j=Gs.length
     ·simp only [q,if_true] at e
      have e3:(Gs ++ [C]).getD Gs.length []=C:=by simp [List.getD]
      rw [e3] at e
      have h1:=(HM7.out.has_lt e).1
      have h2:=(own_blk HOR.out e2).2
      have h3:=HK6.out.size
      omega
     ·simp only [q,if_false] at e
      have e3:(Gs ++ [C]).getD j []=Gs.getD j []:=by simp [List.getD,List.getElem?_append_left (show j < Gs.length by omega)]
      rw [e3] at e
      exact HND.out x ⟨j,by omega,e⟩ e2
    have H11:=hid h11
    have GN11:=hid gn11
    have OR11:=hid or11
    have GR11:=hid gr11
    have ND11:=hid hnd11
    have x1:=hb11.2 1 _ rfl
    have lx11:xb < W11.heap.size:=hb11.1
    have lbs11:bs < W11.heap.size:=h11.bk.1
    clear hW11 h11 gn10 gn11 or10 or11 gr11 hb11 hnd11 o10 hg10 k89 hnv y6 u6 z6 g6 m1
    go_wp2_with (at_builtin;refine wpList_append_at rfl _ _ rfl (bs + 1) vr rk rfl (OR11.out.kept (kept_alloc _ _)) ⟨W11.heap.size,0,none⟩ pr rfl (cell_new rfl) (by omega) (by simp;omega) ?_;intro g12 c12 w12 o12 hg12 hd12)
    have hku:=kept_alloc W11 (.cells #[.int .i64 pr] 3)
    have hvb:vr.ownBlock ≠ some bs:=fun e=>by have:=(own_blk OR11.out e).1;omega
    have h12:=(H11.out.kept hku).gbo hg12 hvb (.inl rfl)
    have gn12:GnM w12 (bs + 1) (.slice a10 (gl + 1) c10) (fun j=>if j=Gs.length then .slice a7 C.length c7 else gv j) (fun j=>if j=Gs.length then rv7 else rv j) (Gs ++ [C]):=by
     have hgk:=GN11.out.kept hku
     cases q:vr.ownBlock with
     | none =>
      rw [q] at hg12
      exact hgk.kept ⟨hg12.os,hg12.tape,hg12.output,hg12.size,fun j hj=>hg12.block j hj (by simp)⟩
     | some y =>
      rw [q] at hg12
      exact hgk.grown hg12 (owns_ne hgk.own (OR11.out.kept hku) (by decide) q) (fun e=>ND11.out y e q)
    have gr12:=gb_fresh (gb_kept GR11.out hku) hg12 (fun j e=>.inl (by have:=(own_blk OR11.out e).1;have:=HSZ5.out;omega))
    have nd12:∀ x,HasG (fun j=>if j=Gs.length then .slice a7 C.length c7 else gv j) (fun j=>if j=Gs.length then rv7 else rv j) (Gs ++ [C]) x→(Value.slice (some ⟨g12,0,none⟩) (rk.length + 1) c12).ownBlock ≠ some x:=fun x hx e=>by
     have e':g12=x:=by simpa [Value.ownBlock] using e
     rcases hd12 with q | q
     ·exact ND11.out x hx (by rw [q,e'])
     ·have h1:=(GN11.out.lt (.inr hx)).2
      simp at q
      omega
    have H12:=hid h12
    have GN12:=hid gn12
    have GR12:=hid gr12
    have ND12:=hid nd12
    have OR12:=hid o12
    clear hku hvb h12 gn12 gr12 nd12 o12 hg12 hd12
    have hsn:(steps.map (·.2))[i]?=some (pS,pr):=by rw [List.getElem?_map,HP.out];simp [HPE.out]
    have e1:sysR G A n ((steps.map (·.2)).take (i + 1))=Gs ++ [C]:=by
     unfold sysR
     rw [map_take_next hsn,HGS.out,HCE.out]
     rfl
    have e2:rkR ((steps.map (·.2)).take (i + 1))=rk ++ [(pr:Int)]:=by
     unfold rkR
     rw [map_take_next hsn,HRKE.out]
     simp [ints,rkR]
    have E1:=hid e1
    have E2:=hid e2
    clear hsn e1 e2
    go_roundw
    case rel=>exact ⟨_,_,_,_,i + 1,rfl,by omega,by go_num,H12.out,by rw [E1.out];exact GN12.out,by rw [E2.out];exact OR12.out,by rw [E1.out];exact ND12,GR12.out⟩
    case measure=>simp [intOf];omega
  ·have hiM:i=Ms:=by omega
   have htk:=List.take_of_length_le (l:=steps.map (fun p:Value × List Nat × Nat=>p.2)) (i:=i) (by rw [List.length_map,← HMS.out];omega)
   rw [htk] at HGN HND HOR
   obtain ⟨Gs,hGs⟩:∃ x,x=sysR G A n (steps.map (·.2)):=⟨_,rfl⟩
   obtain ⟨rk,hrk⟩:∃ x,x=rkR (steps.map (·.2)):=⟨_,rfl⟩
   have hgsl:Gs.length=Ms:=by rw [hGs,HMS.out];simp [sysR]
   have hrkl:rk.length=Ms:=by rw [hrk,HMS.out];simp [rkR,ints]
   have HRB:Hid (∀ r ∈ rk,0≤r∧r≤(K:Int)):=hid (fun r hr=>by
    rw [hrk] at hr
    unfold rkR ints at hr
    obtain ⟨q,hq,rfl⟩:=List.mem_map.1 hr
    obtain ⟨p,hp,rfl⟩:=List.mem_map.1 hq
    have:=(HST4.out p hp).2
    have:=HKK.out
    omega)
   obtain ⟨st,hst⟩:∃ st:List (List Nat × Nat),st=steps.map fun p=>p.2:=⟨_,rfl⟩
   have HGB:Hid (∀ j,j < Ms→(Gs.getD j []).length≤64∧∀ q,q < (Gs.getD j []).length→(Gj.row (Gs.getD j []) q).length=n):=hid (fun j hj=>by
    have hj':j < st.length:=by rw [hst,List.length_map,← HMS.out];exact hj
    have e:Gs.getD j []=sysL (opG G) A n (st[j]'hj').1:=by
     rw [hGs,← hst]
     unfold sysR
     simp only [List.getD,List.getElem?_map,List.getElem?_eq_getElem hj',Option.map_some,Option.getD_some]
    have hST:=HST4.out
    rw [← hst] at hST
    have h1:=(hST _ (List.getElem_mem hj')).1
    have hl:(sysL (opG G) A n (st[j]'hj').1).length=K:=by
     unfold sysL mulL
     rw [List.length_map,h1.2.2.2.2.2,← HKK.out]
    rw [e]
    refine ⟨by rw [hl];exact hK64,fun q hq=>?_⟩
    unfold sysL at hq ⊢
    have hq':q < (invL (opG G) (colsL A (st[j]'hj').1)).1.length:=by simpa [mulL] using hq
    rw [mulL_row hq']
    exact vecP_len _ _ _ _ _)
   clear hst
   rw [← hGs] at HGN HND
   rw [← hrk] at HOR
   obtain ⟨gg,gc,hvgs⟩:∃ g c,vgs=.slice (some ⟨g,0,none⟩) Ms c:=by
    rcases HGN.out.form with ⟨_,e⟩ | ⟨g,c,e,_⟩
    ·rw [e] at hgsl;simp at hgsl;omega
    ·rw [hgsl] at e;exact ⟨g,c,e⟩
   subst hvgs
   have HGS:=hid hGs
   have HRK:=hid hrk
   have HGSL:=hid hgsl
   have HRKL:=hid hrkl
   obtain ⟨Q,hQ⟩:∃ x,x=G.q.toNat:=⟨_,rfl⟩
   have HQ:=hid hQ
   obtain ⟨Ws,hWs⟩:∃ y,y=wr:=⟨_,rfl⟩
   subst hWs
   have hbsW:bs < Ws.heap.size:=HSR.out.bk.1
   clear hiM htk hGs hrk hgsl hrkl hQ hb4
   go_wp2_with (fail)
   clear hi hlt
   go_loopw [16,15] (fun vw vout wx=>∃ (vo' bv:Value) (wd m:Nat) (s:List Int × Int) (cs:List Value),vo'=vout∧1≤wd∧wd≤K + 1∧vw=.int .i64 wd∧SrM wx bs b (.int .i64 G.P) (.int .i64 G.M) (.slice ma ml mc) (.int .i64 n) (.slice va K vc) (.slice (some ⟨gg,0,none⟩) Ms gc) bv s∧wx.ownsRow Ws.heap.size 129 4 vo' m cs∧m + 1≤wd ∧
    Hid (∀ r,RunO (opG G) K Q n Gs rk wd s r→RunO (opG G) K Q n Gs rk 1 ([],0) r)∧Ws.grownBy wx (some bs)) (fun vw _ _=>K + 1 - (intOf vw).toNat)
   case atStart=>exact ⟨_,_,1,0,([],0),[],rfl,by omega,by omega,rfl,HSR.out,⟨rfl,.inl ⟨rfl,rfl⟩⟩,by omega,hid (fun r h=>h),World.grownBy.refl _ _⟩
   case round =>
    obtain ⟨vo,bv,wd,m,s,cs,rfl,hwd1,hwd2,rfl,hsr,hor,hm,HRN,hgr⟩:=hrel
    have hkw:Kept w4 wr:=gb_below HK4R.out hgr hw45 HK4R.out.size
    have hbx:=HBX.out.kept (HK4.out.tr hkw)
    have x3:=hbx.2 3 _ rfl
    have x4:=hbx.2 4 _ rfl
    have lbc:=hbx.1
    have HSRR:=hid hsr
    have HORR:=hid hor
    have HGRR:=hid hgr
    have HKW:=hid hkw
    by_cases hwk:wd≤K
    ·have c1:decide (wd≤K)=true:=by simp;omega
     have HMO:=hid (more_any b H tH bs _ _ _ _ bv va K vc (some ⟨gg,0,none⟩) Ms gc s wd wr (HG4.out.kept hkw) hsr hwd1 hwk hK64 hM1 hM2)
     rw [HF.out.2,← HQ.out] at HMO
     clear hsr hor hgr hkw hbx
     go_upto_region 28 with (go_at_call 66;(with_reducible refine HMO.out.mono ?_);rintro e w9 ⟨hk9,he⟩;have HK9:=hid hk9;clear hk9;rcases he with ⟨x,rfl⟩ | ⟨hno,rfl⟩)
     ·clear x3 x4
      have hbx:=HBX.out.kept (HK4.out.tr (HKW.out.tr HK9.out))
      have x3:=hbx.2 3 _ rfl
      have x4:=hbx.2 4 _ rfl
      have lbc9:=hbx.1
      have hs9:=HSRR.out.kept HK9.out
      have z6:=hs9.bk.2 6 _ rfl
      have ls9:bs < w9.heap.size:=hs9.bk.1
      have HS9:=hid hs9
      have HGR9:=hid (gb_kept HGRR.out HK9.out)
      clear hs9 hbx
      go_wp2_with (fail)
      obtain ⟨wo,hwo⟩:∃ y,y=wr:=⟨_,rfl⟩
      subst hwo
      go_loopw [107] (fun vi wx=>∃ (bv':Value) (j:Nat) (s':List Int × Int),j≤Ms∧vi=.int .i64 j∧SrM wx bs b (.int .i64 G.P) (.int .i64 G.M) (.slice ma ml mc) (.int .i64 n) (.slice va K vc) (.slice (some ⟨gg,0,none⟩) Ms gc) bv' s'∧Hid ((Gs.drop j).foldl (fun s B=>sumsL (opG G) Q B wd (List.replicate n 0) 0 true s) s'=gensL (opG G) Q n wd Gs s)∧w9.grownBy wx (some bs)) (fun vi _=>Ms - (intOf vi).toNat)
      case atStart=>exact ⟨bv,0,s,by omega,rfl,HS9.out,hid rfl,World.grownBy.refl _ _⟩
      case round =>
       obtain ⟨bv',j,s',hj,rfl,hsx,HGE,hgx⟩:=hrel
       have HSX:=hid hsx
       have HGX:=hid hgx
       have HGSX:=hid (grownBy_trans HGR9.out hgx)
       have hkx:Kept w4 wr:=gb_below HK4R.out HGSX.out hw45 HK4R.out.size
       have HKX:=hid hkx
       have hbx:=HBX.out.kept (HK4.out.tr hkx)
       clear x3 x4 z6
       have x3:=hbx.2 3 _ rfl
       have x4:=hbx.2 4 _ rfl
       have lbx:=hbx.1
       clear hsx hgx hkx hbx
       by_cases hjl:j < Ms
       ·have hjl':(j:Int) < (Ms:Int):=by omega
        have hj0:(0:Int)≤(j:Int):=by omega
        obtain ⟨C,hC⟩:∃ x,x=Gs.getD j []:=⟨_,rfl⟩
        have hjG:j < Gs.length:=by rw [HGSL.out];exact hjl
        have lsx:bs < wr.heap.size:=HSX.out.bk.1
        have hgnS:=HGN.out.grown HGSX.out (fun e=>by have:=(HGN.out.lt (.inl e)).1;omega) (fun e=>by have:=(HGN.out.lt (.inr e)).1;omega)
        have hcg:=hgnS.cell hjG
        have hrowj:=hgnS.row j hjG
        have lgg:gg < wr.heap.size:=(hgnS.lt (.inl rfl)).2
        rw [← hC] at hrowj
        have hCb:=HGB.out j hjl
        rw [← hC] at hCb
        have HSU:Hid (∀ (vw:Value) (w':World),Kept wr w'→Own w' (bs + 1) vw (List.replicate n 0)→Calls Tryz.prog 67 #[.pointer (some ⟨bs,0,none⟩),gv j,vw,.int .i64 0,.int .i64 wd,.bool true] w' (SumO w' bs b (.int .i64 G.P) (.int .i64 G.M) (.slice ma ml mc) (.int .i64 n) (.slice va K vc) (.slice (some ⟨gg,0,none⟩) Ms gc) (sumsL (opG H) H.q.toNat C wd (List.replicate n 0) 0 true s'))):=hid (fun vw w' hk' hv=>sums_any b H tH bs (.int .i64 G.P) (.int .i64 G.M) (.slice ma ml mc) (.int .i64 n) (.slice va K vc) (.slice (some ⟨gg,0,none⟩) Ms gc) (gv j) C (rv j) n w4 HG4.out hw45 (by omega) hn2 hCb.2 hCb.1 wd vw (List.replicate n 0) 0 true bv' s' w' (by omega) (by omega) (HKX.out.tr hk') (HSX.out.kept hk') (hrowj.kept hk') hv (by simp) (fun q hq=>by rw [HF.out.2];have:=t.qb.1;simp [List.getD,hq];omega))
        have hnx:Hid (gensL (opG G) Q n wd Gs s=(Gs.drop (j + 1)).foldl (fun s B=>sumsL (opG G) Q B wd (List.replicate n 0) 0 true s) (sumsL (opG G) Q C wd (List.replicate n 0) 0 true s')):=hid (by
         rw [← HGE.out,List.drop_eq_getElem_cons hjG,List.foldl_cons]
         have e:Gs[j]=C:=by rw [hC];simp [List.getD,hjG]
         rw [e])
        obtain ⟨gj,hgj⟩:∃ x,x=gv j:=⟨_,rfl⟩
        obtain ⟨s2,hs2⟩:∃ x,x=sumsL (opG G) Q C wd (List.replicate n 0) 0 true s':=⟨_,rfl⟩
        rw [← hgj] at hcg HSU
        rw [HF.out.1,HF.out.2,← HQ.out,← hs2] at HSU
        rw [← hs2] at hnx
        clear hC hgnS hrowj hCb hgj hs2
        go_wp2_with (first
         | (at_make;refine wpList_make_ints rfl _ _ rfl n _ _ rfl rfl rfl rfl (by omega) ?_;intro w5 ho5 hk5)
         | (go_at_call 67;(with_reducible refine (HSU.out _ _ hk5 (ho5.mono (by omega))).mono ?_);rintro e w6 ⟨rfl,bv6,hs6,hg6⟩))
        have HS6:=hid hs6
        have HG6:=hid (grownBy_trans (gb_kept HGX.out hk5) hg6)
        clear hs6 hg6 hk5 ho5
        go_roundw
        case rel=>exact ⟨bv6,j + 1,s2,by omega,by go_num,HS6.out,hid hnx.out.symm,HG6.out⟩
        case measure=>simp [intOf];omega
       ·have hjM:j=Ms:=by omega
        have hge:s'=gensL (opG G) Q n wd Gs s:=by
         have:=HGE.out
         rw [hjM,List.drop_eq_nil_of_le (by rw [HGSL.out];exact Nat.le_refl _)] at this
         exact this
        have HGEE:=hid hge
        have horS:Own wr (bs + 1) vr rk:=HOR.out.grownBy HGSX.out (.inr fun e=>by have:=(own_blk HOR.out e).1;omega)
        have HFL:=hid (floor_any (K:Int) (wd:Int) vr rk wr horS.sl (by omega) (by omega) (by omega) (by omega) (by rw [HRKL.out];exact hM2) HRB.out)
        have hfb:=floorL_bd (k:=(K:Int)) (w:=(wd:Int)) (by omega) (by omega) (by omega) rk HRB.out
        rw [HRKL.out] at hfb
        obtain ⟨fl,hfl⟩:∃ x,x=floorL (K:Int) (wd:Int) rk:=⟨_,rfl⟩
        rw [← hfl] at HFL hfb
        have HFE:=hid hfl
        have horO:=World.ownsRow.kept HORR.out (grownBy_trans (gb_of_kept HK9.out) HGX.out) (.inr fun e=>by have:=(World.ownsRow.lt HORR.out bs e).1;omega)
        clear hjM hge hfl horS
        go_upto_region 38 with (go_at_call 68;(with_reducible refine HFL.out.mono ?_);rintro e w' ⟨rfl,hw⟩;subst w')
        have HOK:Hid (∀ w',Kept wr w'→w'.ownsRow Ws.heap.size 129 4 vo m cs):=hid (fun w' k=>World.ownsRow.kept horO (gb_of_kept (g:=wr.heap.size) k) (.inr fun e=>by have:=(World.ownsRow.lt horO _ e).2;omega))
        have HVO:Hid (∀ x,vo.ownBlock=some x→Ws.heap.size≤x):=hid (fun x e=>(World.ownsRow.lt horO x e).1)
        have HSLB:=hid (fun w' (k:Kept wr w')=>weight_any bv' s'.1 w' ((HSX.out.kept k).own.sl) (by have:=HSX.out.len;omega))
        obtain ⟨D,hD⟩:∃ x,x=wt s'.1:=⟨_,rfl⟩
        rw [← hD] at HSLB
        have HD:=hid hD
        have hDb:D≤64:=by rw [hD];exact Nat.le_trans (wt_le _) HSX.out.len
        clear hD horO x3 x4
        have x7:=HSX.out.bk.2 7 _ rfl
        have x8:=HSX.out.bk.2 8 _ rfl
        have lsx:bs < wr.heap.size:=HSX.out.bk.1
        have lws:Ws.heap.size≤wr.heap.size:=HGSX.out.size
        go_region_law (first
         | (go_simp;go_at_call 30;(with_reducible refine (HSLB.out _ (by first | exact Kept.rfl' _ | exact kept_drew _ | exact kept_drewN _ _)).mono ?_);rintro e w' ⟨rfl,hw⟩;subst w')
         | (refine step_append_round rfl (.tmp 131) (.tmp 144) rfl Ws.heap.size vo m cs rfl (by first | exact HOK.out _ (kept_alloc _ _) | exact HOK.out _ ((kept_alloc _ _).tr (kept_drew _)) | exact HOK.out _ ((kept_drew _).tr (kept_alloc _ _)) | exact HOK.out _ ((kept_drewN _ _).tr (kept_alloc _ _)) | exact HOK.out _ (((kept_drew _).tr (kept_drew _)).tr (kept_alloc _ _))) ⟨wr.heap.size,0,none⟩ wd s'.2 D fl rfl (by first | exact (box4_at _ _ _ _ _ _).1 | (simp [Addr.add];done)) (by first | exact (box4_at _ _ _ _ _ _).2.1 | (simp [Addr.add];done)) (by first | exact (box4_at _ _ _ _ _ _).2.2.1 | (simp [Addr.add];done)) (by first | exact (box4_at _ _ _ _ _ _).2.2.2 | (simp [Addr.add];done)) (by omega) (by simp;omega) ?_;intro w12 v12 w13 cs' e12 o12 hg12;have k12:Kept wr w12:=(by rw [e12];first | exact kept_alloc _ _ | exact (kept_alloc _ _).tr (kept_drew _) | exact (kept_drew _).tr (kept_alloc _ _) | exact (kept_drewN _ _).tr (kept_alloc _ _));clear e12))
        all_goals
         have hs13:=(HSX.out.kept k12).gbo hg12 (fun e=>by have:=HVO.out _ e;omega) (by
          cases e:bv'.ownBlock with
          | none=>exact .inl rfl
          | some x=>exact .inr fun e2=>owns_ne (HOK.out _ k12) (HSX.out.kept k12).own (by decide) e e2.symm)
         have hg13:=gb_fresh (gb_kept HGSX.out k12) hg12 (fun j e=>.inl (HVO.out j e))
         have HS13:=hid hs13
         have HG13:=hid hg13
         have hk13:Kept w4 w13:=gb_below HK4R.out hg13 hw45 HK4R.out.size
         have HK13:=hid hk13
         have hb13:=HBX.out.kept (HK4.out.tr hk13)
         have HWT:=hid (weight_any bv' s'.1 w13 hs13.own.sl (by have:=hs13.len;omega))
         rw [← HD.out] at HWT
         have O12:=hid o12
         clear x7 x8 k12 hg12 hk13 o12
         have x7:=hs13.bk.2 7 _ rfl
         have ls13:bs < w13.heap.size:=hs13.bk.1
         clear hs13 hg13 hb13
         by_cases hst:(D:Int) < fl
         ·have c2:decide ((D:Int) < fl)=true:=by simpa using hst
          have HST:=hid hst
          clear hst
          go_upto_region 40 with (go_at_call 30;(with_reducible refine HWT.out.mono ?_);rintro e w' ⟨rfl,hw⟩;subst w')
          go_quiet (fail)
          go_wp2_with (fail)
          refine bodyPost_ret (v:=.tuple #[v12,bv',.int .i64 0]) ?_ rfl ⟨(HK1.out.tr (HK4.out.tr HK13.out)).drewN _,steps.map (fun p:Value × List Nat × Nat=>p.2),HFR4.out,.inl ⟨s'.1,v12,bv', ?_,rfl,(HS13.out.own.kept (kept_drewN _ _)).sl,HS13.out.len⟩⟩
          ·simp [results,Tryz.results29,go_sem]
          ·rw [← HKK.out,← HQ.out,← HGS.out,← HRK.out,HGEE.out]
           exact HRN.out _ (.stop wd s hwk (by rw [← HGEE.out,← HD.out,← HFE.out];exact HST.out))
         ·have c2:decide ((D:Int) < fl)=false:=by simpa using hst
          have HST:=hid hst
          clear hst
          go_wp2_with (go_at_call 30;(with_reducible refine HWT.out.mono ?_);rintro e w' ⟨rfl,hw⟩;subst w')
          go_roundw
          case rel=>exact ⟨v12,bv',wd + 1,m + 1,s',cs',rfl,by omega,by omega,by go_num,HS13.out,O12.out,by omega,hid (fun r hr=>HRN.out r (.next wd s r hwk (by rw [← HGEE.out,← HD.out,← HFE.out];have:=HST.out;omega) (by rw [← HGEE.out];exact hr))),HG13.out⟩
          case measure=>simp [intOf];omega
     ·have HNO:=hid hno
      clear hno
      go_wp2_with (fail)
      refine bodyPost_ret (v:=.tuple #[.slice none 0 0,.slice none 0 0,.int .i64 8]) ?_ rfl ⟨HK1.out.tr (HK4.out.tr (HKW.out.tr HK9.out)),steps.map (fun p:Value × List Nat × Nat=>p.2),HFR4.out,.inr ⟨?_,rfl⟩⟩
      ·simp [results,Tryz.results29,go_sem]
      ·rw [← HKK.out,← HQ.out,← HGS.out,← HRK.out]
       exact HRN.out none (.big wd s hwk (by rw [HGSL.out];exact HNO.out))
    ·have c1:decide (wd≤K)=false:=by simp;omega
     have x7:=hsr.bk.2 7 _ rfl
     have ls:bs < wr.heap.size:=hsr.bk.1
     clear hsr hor hgr hkw hbx
     go_upto_region 40 with (fail)
     go_quiet (fail)
     go_wp2_with (fail)
     refine bodyPost_ret (v:=.tuple #[vo,bv,.int .i64 0]) ?_ rfl ⟨(HK1.out.tr (HK4.out.tr HKW.out)).drewN _,steps.map (fun p:Value × List Nat × Nat=>p.2),HFR4.out,.inl ⟨s.1,vo,bv, ?_,rfl,(HSRR.out.own.kept (kept_drewN _ _)).sl,HSRR.out.len⟩⟩
     ·simp [results,Tryz.results29,go_sem]
     ·rw [← HKK.out,← HQ.out,← HGS.out,← HRK.out]
      exact HRN.out _ (.done wd s (by omega))
end Go.Proofs.YtoilbeadokallaaGreatDoor
