/- Lemmas on the way to the row. Conditions: each lemma's own, stated with it. -/
import Derived.Test.YtoilbeadokallaaGreatDoorK14
import Derived.Test.YtoilbeadokallaaGreatDoorK21
import Derived.Test.YtoilbeadokallaaGreatDoorK22
import Derived.Laws.EntriesVeiled
set_option maxHeartbeats 8000000
namespace Go.Proofs.YtoilbeadokallaaGreatDoor
section
open Go.RowKit Cw Cw.Gj
def Uf (t:Nat) (w:World):Prop:=∃ l,iy w t l/\(l.map (·.1)).Nodup/\
 (∃ A p1 p2:Nat,(Wu,.slice (some ⟨A,0,none⟩) 2 2)∈l/\Bk w A [.string ⟨#[78]⟩,.func (.func 198) #[] #[.pointer (some ⟨p1,0,none⟩)],.nilFunc,.string ⟨#[78,78,76]⟩,.func (.func 198) #[] #[.pointer (some ⟨p2,0,none⟩)],.nilFunc]/\w.cell? ⟨p1,0,none⟩=some (.func (.func 141) #[] #[])/\p1<w.heap.size)/\
 (∃ A c p q:Nat,(iV,.slice (some ⟨A,0,none⟩) 1 c)∈l/\Bk w A [.string ⟨#[70,78]⟩,.func (.func 301) #[] #[.pointer (some ⟨p,0,none⟩)],.func (.func 210) #[] #[]]/\
  w.cell? ⟨p,0,none⟩=some (.func (.func 299) #[] #[.pointer (some ⟨q,0,none⟩)])/\w.cell? ⟨q,0,none⟩=some (.func (.func 209) #[] #[])/\p<w.heap.size/\q<w.heap.size)
theorem Uf.kept {t:Nat} {w w':World} (h:Uf t w) (k:ay w w'):Uf t w':=by
 obtain⟨l,h1,h2,⟨A,p1,p2,h3,h4,h5,h6⟩,⟨A',c,p,q,g1,g2,g3,g4,g5,g6⟩⟩:=h;exact⟨l,h1.kept k,h2,⟨A,p1,p2,h3,h4.kept k,(k.cell' h6).trans h5,k.lt h6⟩,⟨A',c,p,q,g1,g2.kept k,(k.cell' g5).trans g3,(k.cell' g6).trans g4,k.lt g5,k.lt g6⟩⟩
theorem cell_lt {w:World} {b o:Nat} {v:Value} (h:w.cell? ⟨b,o,none⟩=some v):b<w.heap.size:=by
 rcases wR b w.heap.size with q|q
 ·exact q
 ·simp[World.cell?,tu q] at h
theorem Uc.g {w w':World} {e:Ending} (h:Uc w e w'):∃ t,e=.returned (.map (some t))/\Uf t w'/\ay w w':=by
 obtain⟨t,l,rfl,h1,h2,_,h3,⟨A,p1,p2,q1,q2,q3⟩,⟨A',c,p,q,g1,g2,g3,g4⟩⟩:=h;exact⟨t,rfl,⟨l,h1,h3,⟨A,p1,p2,q1,q2,q3,cell_lt q3⟩,⟨A',c,p,q,g1,g2,g3,g4,cell_lt g3,cell_lt g4⟩⟩,h2⟩
theorem Jc {l:List (ByteArray×Value)} (hn:(l.map (·.1)).Nodup) {s:ByteArray} {v v':Value} (h:(s,v)∈l) (h':(s,v')∈l):v'=v:=by
 obtain⟨i,hi⟩:=wS h;obtain⟨j,hj⟩:=wS h';have a1:(l.map (·.1))[i]?=some s:=by rw[yM,hi];rfl
 have a2:(l.map (·.1))[j]?=some s:=by rw[yM,hj];rfl
 obtain⟨c1,d1⟩:=zN.1 a1;obtain⟨c2,d2⟩:=zN.1 a2;have e:i=j:=(tN (xs:=l.map (·.1)) (h₀:=c1) (h₁:=c2) hn).1 (d1.trans d2.symm);subst e;rw[hi] at hj;cases hj
 rfl
theorem Jd (w:World) (a:Option Addr) (n c:Nat):(binOp .eql 208 (.slice a n c) (.slice none 0 0)).run Tryz.prog w=.ok (.bool a.isNone) w:=Lib.run_eql_slice_nil w _ _ a n c 0 0 Tryz.underlying208
theorem ab9 (w:World) (f:Fn) (ca lb:Array Value):(binOp .eql 200 (.func f ca lb) .nilFunc).run Tryz.prog w=.ok (.bool false) w:=by
 have h:∀ d:Nat,(Op.equalIn (d+1) 200 (.func f ca lb) .nilFunc).run Tryz.prog w=.ok false w:=fun d=>by
  simp[Op.equalIn,run_underlying Tryz.underlying200]
 simp only[binOp];simp[Op.equal,Op.maxDepth,h 9999]
theorem La (w:World):(binOp .eql 200 .nilFunc .nilFunc).run Tryz.prog w=.ok (.bool true) w:=by
 have h:∀ d:Nat,(Op.equalIn (d+1) 200 .nilFunc .nilFunc).run Tryz.prog w=.ok true w:=fun d=>by
  simp[Op.equalIn,run_underlying Tryz.underlying200]
 simp only[binOp];simp[Op.equal,Op.maxDepth,h 9999]
set_option maxRecDepth 100000 in
theorem Ug (t:Nat) (s:ByteArray) (K m cap agR A g:Nat) (b:Bool) (a0:ByteArray) (fn:Fn) (fa fc:Array Value) (low:Value) (rest:List Value) (w:World)
  (hl:∀ w',ay w w'->(Instr.lookup 147 (.map (some t)) (.string s) false).run Tryz.prog w'=.ok (.slice (some ⟨A,0,none⟩) m cap) w')
  (hb:Bk w A (.string a0:: .func fn fa fc::low::rest)) (hm:1<=m) (hm2:m<=2) (hlow:low=.nilFunc/\b=true∨ ∃ f a c,low=.func f a c/\b=false) (hK:a0.size=K):
  Calls Tryz.prog 148 #[.agg #[.map (some t)],.agg #[.int .i64 3,.string s,.int .i64 0,.slice none 0 0,.slice (some ⟨g,0,none⟩) K agR],.bool b] w
   (fun e w'=>e=.returned (.tuple #[.agg #[.string a0,.func fn fa fc,low],.int .i64 0])/\ay w w'):=by
 obtain⟨W1,hW1⟩:∃ x,x=((w.alloc (.cells #[.map (some t)] 150)).alloc (.cells #[.int .i64 3,.string s,.int .i64 0,.slice none 0 0,.slice (some ⟨g,0,none⟩) K agR] 50)).alloc (.cells #[.string ⟨#[]⟩,.nilFunc,.nilFunc] 202):=⟨_,rfl⟩
 have hk1:ay w W1:=by rw[hW1];exact((ah _ _).tr (ah _ _)).tr (ah _ _)
 have hbk:Bk W1 w.heap.size [.map (some t)]:=by rw[hW1];exact((aG w [.map (some t)] _ _ rfl).kept (ah _ _)).kept (ah _ _)
 have hbx:Bk W1 (w.heap.size+1) [.int .i64 3,.string s,.int .i64 0,.slice none 0 0,.slice (some ⟨g,0,none⟩) K agR]:=by rw[hW1];exact(aG (w.alloc (.cells #[.map (some t)] 150)) [.int .i64 3,.string s,.int .i64 0,.slice none 0 0,.slice (some ⟨g,0,none⟩) K agR] _ _ (by simp)).kept (ah _ _)
 have hbr:Bk W1 (w.heap.size+1+1) [.string ⟨#[]⟩,.nilFunc,.nilFunc]:=by rw[hW1];exact aG _ [.string ⟨#[]⟩,.nilFunc,.nilFunc] _ _ (by simp)
 have hfr:Fz W1 (w.heap.size+1+1):=by rw[hW1];exact bD _ _ _ _ (by simp)
 have hz1:W1.heap.size=w.heap.size+1+1+1:=by rw[hW1];simp
 have hnr:=Jd;have hnf:=La;have hnl:=ab9;have hlook:=hl W1 hk1;have hb1:=hb.kept hk1;have x0:=hbk.2 0 _ rfl;have y0:=hbx.2 0 _ rfl;have y1:=hbx.2 1 _ rfl;have y4:=hbx.2 4 _ rfl;have r0:=hb1.2 0 _ rfl;have r1:=hb1.2 1 _ rfl;have r2:=hb1.2 2 _ rfl;have z0:=hbr.2 0 _ rfl;have z1:=hbr.2 1 _ rfl;have z2:=hbr.2 2 _ rfl;have e0:=hfr.2 0;have e1:=hfr.2 1;have e2:=hfr.2 2;have hsz:w.heap.size+1+1<W1.heap.size:=by omega
 have hne1:¬ w.heap.size+1=W1.heap.size:=by omega
 have hlt1:w.heap.size+1<W1.heap.size:=by omega
 have hm':(0:Int)< (m:Int):=by omega
 have hK':(a0.size:Int)=(K:Int):=by omega
 have HK:=hid hk1;have HBR:=hid hbr;clear hz1 hl hb hb1 hbk hbx hbr hfr hk1;rcases hlow with⟨rfl,rfl⟩|⟨f,a,c,rfl,rfl⟩;all_goals
  go_enter Tryz.func148,Tryz.ntmps148;go_upto_region 1 with(fail)
  rw[<-hW1];clear hW1;go_wp2_with(fail)
  go_loop [46] (fun vi=>vi=.int .i64 0) (fun _=>0)
  case atStart=>rfl
  case round=>
   subst hrel;go_wp2_with(fail)
   have hk:=HK.out;refine bodyPost_ret (aF rfl rfl (je ((((HBR.out.set 0 _).set 1 _).set 2 _).kept (ah _ _)))) rfl ⟨rfl, ?_⟩;exact(aA _ (aA _ (aA _ hk (by omega)) (by omega)) (by omega)).tr (ah _ _)
end
section
set_option maxRecDepth 100000
open Go.RowKit Cw Cw.Gj
def gU (n:Int):List Value:=[.int .i64 0,.int .i64 0,.slice none 0 0,.int .i64 0,.int .i64 0,.slice none 0 0,.int .i64 0,.slice none 0 0,.int .i64 n,.slice none 0 0]
def Qk (p m:Int) (v:Value):List Value:=[.int .i64 p,.int .i64 m,v,.int .i64 0,.int .i64 0,.slice none 0 0,.int .i64 0,.slice none 0 0,.int .i64 0,.slice none 0 0]
def agS (p m:Int) (v:Value) (n:Int) (r:Value):List Value:=[.int .i64 0,.int .i64 0,.slice none 0 0,.int .i64 p,.int .i64 m,v,.int .i64 n,r,.int .i64 0,.slice none 0 0]
theorem arg_num (t:Nat) (n:Int) (w:World):
  Calls Tryz.prog 149 #[.agg #[.map (some t)],.agg (Di n).toArray,.int .u8 78] w fun e w'=>e=.returned (.tuple #[.agg (gU n).toArray,.int .i64 0])/\ay w w':=by
 show Calls Tryz.prog 149 #[.agg #[.map (some t)],.agg #[.int .i64 1,.string ⟨#[]⟩,.int .i64 n,.slice none 0 0,.slice none 0 0],.int .u8 78] w _;go_enter Tryz.func149,Tryz.ntmps149;go_wp2_with(fail)
 exact bodyPost_ret (aF rfl rfl (gZ (aG _ (gU n) _ _ (by simp)))) rfl ⟨rfl,((ah _ _).tr (ah _ _)).tr (ah _ _)⟩
theorem Bk.Dk {w:World} {b:Nat} {u0 u1 u2 u3 u4 u5 u6 u7 u8 u9:Value} (h:Bk w b [u0,u1,u2,u3,u4,u5,u6,u7,u8,u9]) (v0 v1 v2 v3 v4 v5 v6 v7 v8 v9:Value):Bk ((((((((((w.setCell ⟨b,0,none⟩ v0).setCell ⟨b,1,none⟩ v1).setCell ⟨b,2,none⟩ v2).setCell ⟨b,3,none⟩ v3).setCell ⟨b,4,none⟩ v4).setCell ⟨b,5,none⟩ v5).setCell ⟨b,6,none⟩ v6).setCell ⟨b,7,none⟩ v7).setCell ⟨b,8,none⟩ v8).setCell ⟨b,9,none⟩ v9) b [v0,v1,v2,v3,v4,v5,v6,v7,v8,v9]:=((((((((((h.set 0 v0).set 1 v1).set 2 v2).set 3 v3).set 4 v4).set 5 v5).set 6 v6).set 7 v7).set 8 v8).set 9 v9)
theorem mJ (w:World) (b:Nat) (v0 v1 v2 v3 v4 v5 v6 v7 v8 v9:Value):w.grownBy ((((((((((w.setCell ⟨b,0,none⟩ v0).setCell ⟨b,1,none⟩ v1).setCell ⟨b,2,none⟩ v2).setCell ⟨b,3,none⟩ v3).setCell ⟨b,4,none⟩ v4).setCell ⟨b,5,none⟩ v5).setCell ⟨b,6,none⟩ v6).setCell ⟨b,7,none⟩ v7).setCell ⟨b,8,none⟩ v8).setCell ⟨b,9,none⟩ v9) (some b):=(aQ (aQ (aQ (aQ (aQ (aQ (aQ (aQ (aQ (aj w b 0 v0) 1 v1) 2 v2) 3 v3) 4 v4) 5 v5) 6 v6) 7 v7) 8 v8) 9 v9)
theorem EN {w w':World} {a:Option Addr} {c:Nat} (h:Sl w (.slice a 0 c) []):Sl w' (.slice a 0 c) []:=by
 obtain⟨a',c',e,h1,h2,h3⟩:=h;exact⟨a',c',e,h1,h2,fun h=>absurd rfl h⟩
def Dl (w:World) (e:Ending) (w':World):Prop:=∃ a c,e=.returned (.tuple #[.agg (Qk 2 1 (.slice a 0 c)).toArray,.int .i64 0])/\Sl w' (.slice a 0 c) []/\ay w w'
theorem acd (t:Nat) (s:ByteArray) (g K cap:Nat) (w:World)
  (hM:∀ W,ay w W->Calls Tryz.prog 87 #[.agg #[.map (some t)],.agg #[.int .i64 3,.string s,.int .i64 0,.slice none 0 0,.slice (some ⟨g,0,none⟩) K cap],.bool true] W (Dl W)):
  Calls Tryz.prog 149 #[.agg #[.map (some t)],.agg #[.int .i64 3,.string s,.int .i64 0,.slice none 0 0,.slice (some ⟨g,0,none⟩) K cap],.int .u8 70] w (Dl w):=by
 obtain⟨W0,hW0⟩:∃ x,x=(w.alloc (.cells #[.map (some t)] 150)).alloc (.cells #[.int .i64 3,.string s,.int .i64 0,.slice none 0 0,.slice (some ⟨g,0,none⟩) K cap] 50):=⟨_,rfl⟩
 obtain⟨W1,hW1⟩:∃ x,x=W0.alloc (.cells (gU 0).toArray 91):=⟨_,rfl⟩
 have hk1:ay w W1:=by rw[hW1,hW0];exact((ah _ _).tr (ah _ _)).tr (ah _ _)
 have aad:ay W0 W1:=by rw[hW1];exact ah _ _
 have hbk:Bk W1 w.heap.size [.map (some t)]:=by
  refine Bk.kept ?_ aad;rw[hW0];exact(aG w [.map (some t)] _ _ rfl).kept (ah _ _)
 have hbx:Bk W1 (w.heap.size+1) [.int .i64 3,.string s,.int .i64 0,.slice none 0 0,.slice (some ⟨g,0,none⟩) K cap]:=by
  refine Bk.kept ?_ aad;rw[hW0];exact aG _ [.int .i64 3,.string s,.int .i64 0,.slice none 0 0,.slice (some ⟨g,0,none⟩) K cap] _ _ (by simp)
 have hz0:w.heap.size+1+1=W0.heap.size:=by rw[hW0];simp
 have hbr:Bk W1 (w.heap.size+1+1) (gU 0):=by rw[hW1];exact aG _ (gU 0) _ _ hz0
 have hfr:Fz W1 (w.heap.size+1+1):=by rw[hW1,hz0];exact bD _ _ _ _ rfl
 have hz1:W1.heap.size=w.heap.size+1+1+1:=by rw[hW1];simp[<-hz0]
 have x0:=hbk.2 0 _ rfl;have y0:=hbx.2 0 _ rfl;have y1:=hbx.2 1 _ rfl;have y2:=hbx.2 2 _ rfl;have y3:=hbx.2 3 _ rfl;have y4:=hbx.2 4 _ rfl;have HM:=hid hM;have HBR:=hid hbr;have HFR:=hid hfr;have HK:=hid hk1;have HZ:=hid hz1;clear hM hbr hfr aad hbk hbx hz0 hk1 hz1;go_enter Tryz.func149,Tryz.ntmps149;go_upto_region 1 with(fail)
 unfold gU at hW1;rw[<-hW0];rw[<-hW1];clear hW1 hW0;go_wp2_with(fail)
 refine(HM.out _ HK.out).mono ?_;rintro e w2 ⟨a,c,rfl,hs,hk2⟩;have hb2:=HBR.out.kept hk2;have hf2:=HFR.out.kept hk2;unfold Qk;unfold gU at hb2;have z0:=hb2.2 0 _ rfl;have z1:=hb2.2 1 _ rfl;have z2:=hb2.2 2 _ rfl;have z3:=hb2.2 3 _ rfl;have z4:=hb2.2 4 _ rfl;have z5:=hb2.2 5 _ rfl;have z6:=hb2.2 6 _ rfl;have z7:=hb2.2 7 _ rfl;have z8:=hb2.2 8 _ rfl;have z9:=hb2.2 9 _ rfl;have f0:=hf2.2 0;have f1:=hf2.2 1;have f2:=hf2.2 2;have f3:=hf2.2 3;have f4:=hf2.2 4;have f5:=hf2.2 5;have f6:=hf2.2 6;have f7:=hf2.2 7;have f8:=hf2.2 8;have f9:=hf2.2 9;have HS:=hid hs;have HK2:=hid hk2;have HB2:=hid hb2;clear hs hk2 hb2 hf2;go_wp2_with(fail)
 have hk2:=HK.out.tr HK2.out;refine bodyPost_ret (aF rfl rfl (gZ (HB2.out.Dk _ _ _ _ _ _ _ _ _ _))) rfl ⟨a,c,rfl,EN HS.out,aH hk2 (mJ _ _ _ _ _ _ _ _ _ _ _ _) (by omega) hk2.size⟩
end
section
open Go.RowKit Cw Cw.Gj
theorem Tryz.infoVal:(Tryz.prog.info? 91).map (fun i=>(i.zero,i.size,i.bytes))=some (some (.agg (gU 0).toArray),10,144):=by kernel_rfl
theorem Je:(Value.agg (gU 0).toArray).cells=(gU 0).toArray:=by simp[gU,Value.cells]
theorem afn:madeCells (gU 0).toArray (Int.toNat 1*10)=(gU 0).toArray:=by
 refine Array.toList_inj.1 ?_;simp[madeCells,gU,Array.toList_range,List.range,List.range.loop]
theorem afo:madeCells (gU 0).toArray (Int.toNat 2*10)=(gU 0++gU 0).toArray:=by
 refine Array.toList_inj.1 ?_;simp[madeCells,gU,Array.toList_range,List.range,List.range.loop]
theorem Pm (w:World):(Instr.makeSlice 204 (.int .i64 1) (.int .i64 1)).run Tryz.prog w=.ok (.slice (some ⟨w.heap.size,0,none⟩) 1 1) (w.alloc (.cells (gU 0).toArray 91)):=by
 obtain⟨i0,hi,hz0,hz1,hz2⟩:=info_parts Tryz.infoVal;have h:=run_make (P:=Tryz.prog) w 204 91 i0 _ Tryz.underlying204 hi hz0 .i64 .i64 1 1 (by omega) (by omega) (by rw[hz2];decide) (by omega);rw[hz1,Je,afn] at h;exact h
theorem Pn (w:World):(Instr.makeSlice 204 (.int .i64 2) (.int .i64 2)).run Tryz.prog w=.ok (.slice (some ⟨w.heap.size,0,none⟩) 2 2) (w.alloc (.cells (gU 0++gU 0).toArray 91)):=by
 obtain⟨i0,hi,hz0,hz1,hz2⟩:=info_parts Tryz.infoVal;have h:=run_make (P:=Tryz.prog) w 204 91 i0 _ Tryz.underlying204 hi hz0 .i64 .i64 2 2 (by omega) (by omega) (by rw[hz2];decide) (by omega);rw[hz1,Je,afo] at h;exact h
structure MgR (w:World) (gr gv:Nat) (R V:List Value) (wr:World):Prop where
 k:ay w wr
 r:Bk wr gr R
 v:Bk wr gv V
 b:Bk wr (w.heap.size+1+1) (gU 0)
 f:Fz wr (w.heap.size+1+1)
theorem MgR.set {w W:World} {gr gv:Nat} {R:List Value} {u0 u1 u2 u3 u4 u5 u6 u7 u8 u9:Value} (k:ay w W) (r:Bk W gr R) (h:Bk W gv [u0,u1,u2,u3,u4,u5,u6,u7,u8,u9]) (b:Bk W (w.heap.size+1+1) (gU 0)) (f:Fz W (w.heap.size+1+1)) (h1:gr≠gv) (h2:w.heap.size+1+1≠gv) (h3:w.heap.size<=gv) (v0 v1 v2 v3 v4 v5 v6 v7 v8 v9:Value):MgR w gr gv R [v0,v1,v2,v3,v4,v5,v6,v7,v8,v9] ((((((((((W.setCell ⟨gv,0,none⟩ v0).setCell ⟨gv,1,none⟩ v1).setCell ⟨gv,2,none⟩ v2).setCell ⟨gv,3,none⟩ v3).setCell ⟨gv,4,none⟩ v4).setCell ⟨gv,5,none⟩ v5).setCell ⟨gv,6,none⟩ v6).setCell ⟨gv,7,none⟩ v7).setCell ⟨gv,8,none⟩ v8).setCell ⟨gv,9,none⟩ v9):=
 have hg:=mJ W gv v0 v1 v2 v3 v4 v5 v6 v7 v8 v9
 ⟨aH k hg h3 k.size,r.gb hg h1,h.Dk v0 v1 v2 v3 v4 v5 v6 v7 v8 v9,b.gb hg h2,f.gb hg h2⟩
set_option maxRecDepth 100000 in
theorem ace (t g cap p:Nat) (w:World) (hE:Bk w g (Di 2))
  (hR:∀ W,ay w W->Calls Tryz.prog 148 #[.agg #[.map (some t)],.agg #[.int .i64 3,.string sGf,.int .i64 0,.slice none 0 0,.slice (some ⟨g,0,none⟩) 1 cap],.bool true] W
   (fun e w'=>e=.returned (.tuple #[.agg #[.string ⟨#[78]⟩,.func (.func 198) #[] #[.pointer (some ⟨p,0,none⟩)],.nilFunc],.int .i64 0])/\ay W w'))
  (hF:∀ W v,ay w W->Bk W v (gU 2)->Calls Tryz.prog 198 #[.slice (some ⟨v,0,none⟩) 1 1,.pointer (some ⟨p,0,none⟩)] W (Dl W)):
  Calls Tryz.prog 87 #[.agg #[.map (some t)],.agg #[.int .i64 3,.string sGf,.int .i64 0,.slice none 0 0,.slice (some ⟨g,0,none⟩) 1 cap],.bool true] w (Dl w):=by
 obtain⟨sg,hsg⟩:∃ s,s=sGf:=⟨_,rfl⟩
 rw[<-hsg] at hR ⊢;clear hsg;obtain⟨W1,hW1⟩:∃ x,x=((w.alloc (.cells #[.map (some t)] 150)).alloc (.cells #[.int .i64 3,.string sg,.int .i64 0,.slice none 0 0,.slice (some ⟨g,0,none⟩) 1 cap] 50)).alloc (.cells #[.int .i64 0,.int .i64 0,.slice none 0 0,.int .i64 0,.int .i64 0,.slice none 0 0,.int .i64 0,.slice none 0 0,.int .i64 0,.slice none 0 0] 91):=⟨_,rfl⟩
 have hk1:ay w W1:=by rw[hW1];exact((ah _ _).tr (ah _ _)).tr (ah _ _)
 have hbk:Bk W1 w.heap.size [.map (some t)]:=by rw[hW1];exact((aG w [.map (some t)] _ _ rfl).kept (ah _ _)).kept (ah _ _)
 have hbx:Bk W1 (w.heap.size+1) [.int .i64 3,.string sg,.int .i64 0,.slice none 0 0,.slice (some ⟨g,0,none⟩) 1 cap]:=by rw[hW1];exact(aG (w.alloc (.cells #[.map (some t)] 150)) [.int .i64 3,.string sg,.int .i64 0,.slice none 0 0,.slice (some ⟨g,0,none⟩) 1 cap] _ _ (by simp)).kept (ah _ _)
 have hbr:Bk W1 (w.heap.size+1+1) (gU 0):=by rw[hW1];exact aG _ (gU 0) _ _ (by simp)
 have hfr:Fz W1 (w.heap.size+1+1):=by rw[hW1];exact bD _ _ _ _ (by simp)
 have hz1:W1.heap.size=w.heap.size+1+1+1:=by rw[hW1];simp
 have x0:=hbk.2 0 _ rfl;have y0:=hbx.2 0 _ rfl;have y1:=hbx.2 1 _ rfl;have y2:=hbx.2 2 _ rfl;have y3:=hbx.2 3 _ rfl;have y4:=hbx.2 4 _ rfl;have HR:=hid hR;have HF:=hid hF;have HE:=hid hE;have HBK:=hid hbk;have HBX:=hid hbx;have HBR:=hid hbr;have HFR:=hid hfr;have HK:=hid hk1;have HZ:=hid hz1;clear hR hF hE hbk hbx hbr hfr hk1 hz1;go_enter Tryz.func87,Tryz.ntmps87;go_upto_region 1 with(fail)
 rw[<-hW1];clear hW1;go_wp2_with(fail)
 refine(HR.out _ HK.out).mono ?_;rintro e w2 ⟨rfl,hk2⟩;have hbk2:=HBK.out.kept hk2;have hbx2:=HBX.out.kept hk2;have ku:=HK.out.tr hk2;have he2:=HE.out.kept ku;clear x0 y0 y1 y2 y3 y4;have x0:=hbk2.2 0 _ rfl;have y0:=hbx2.2 0 _ rfl;have y1:=hbx2.2 1 _ rfl;have y2:=hbx2.2 2 _ rfl;have y3:=hbx2.2 3 _ rfl;have y4:=hbx2.2 4 _ rfl;have ahZ:=hid hbk2;have Yb:=hid hbx2;have HE2:=hid he2;have ah0:=hid ku;have HK2:=hid hk2;clear hbk2 hbx2 he2 ku hk2;have hl2:w.heap.size+1<w2.heap.size:=by have:=HK2.out.size;have:=HZ.out;omega
 have hn2:¬ w.heap.size+1=w2.heap.size:=by omega
 have hmk:=Pm;go_upto_region 5 with(fail)
 obtain⟨W4,hW4⟩:∃ x,x=(w2.alloc (.cells #[.string ⟨#[78]⟩,.func (.func 198) #[] #[.pointer (some ⟨p,0,none⟩)],.nilFunc] 202)).alloc (.cells (gU 0).toArray 91):=⟨_,rfl⟩
 have oJ:ay w2 W4:=by rw[hW4];exact(ah _ _).tr (ah _ _)
 have hr4:Bk W4 w2.heap.size [.string ⟨#[78]⟩,.func (.func 198) #[] #[.pointer (some ⟨p,0,none⟩)],.nilFunc]:=by rw[hW4];exact(aG w2 [.string ⟨#[78]⟩,.func (.func 198) #[] #[.pointer (some ⟨p,0,none⟩)],.nilFunc] _ _ rfl).kept (ah _ _)
 obtain⟨gv,hgv⟩:∃ x,x=w2.heap.size+1:=⟨_,rfl⟩
 obtain⟨gr,hgr⟩:∃ x,x=w2.heap.size:=⟨_,rfl⟩
 have hv4:Bk W4 gv (gU 0):=by rw[hW4];exact aG _ (gU 0) _ _ (by rw[hgv];simp)
 have ah1:Fz W4 gv:=by rw[hW4];exact bD _ _ _ _ (by rw[hgv];simp)
 rw[<-hW4,<-hgv,<-hgr];rw[<-hgr] at hr4;have hgw:w.heap.size+1<gr:=by omega
 have HGG:Hid (gv=gr+1):=hid (by omega);have HX4:=hid (Yb.out.kept oJ);have HK4:=hid (ahZ.out.kept oJ);have HE4:=hid (HE2.out.kept oJ);have HKA:=hid (ah0.out.tr oJ);have y4:=HX4.out.2 4 _ rfl;have HKB:=hid (HK2.out.tr oJ);clear x0 y0 y1 y2 y3 hW4 hgr hgv oJ hn2 hl2 hmk;go_wp2_with(fail)
 go_loopg [31] 2 (fun gk vi wr=>(gk=2/\vi=.int .i64 0/\wr=W4)∨(gk=1/\vi=.int .i64 1/\MgR w gr gv [.string ⟨#[78]⟩,.func (.func 198) #[] #[.pointer (some ⟨p,0,none⟩)],.nilFunc] (gU 2) wr))
 case atStart=>exact .inl ⟨rfl,rfl,rfl⟩
 case round=>
  rcases hrel with⟨rfl,rfl,rfl⟩|⟨rfl,rfl,hm⟩
  ·have c0:=HE4.out.2 0 _ rfl;have c1:=HE4.out.2 1 _ rfl;have c2:=HE4.out.2 2 _ rfl;have c3:=HE4.out.2 3 _ rfl;have c4:=HE4.out.2 4 _ rfl;go_upto_region 8 with(fail)
   obtain⟨W5,hW5⟩:∃ x,x=wr.alloc (.cells #[.int .i64 1,.string ⟨#[]⟩,.int .i64 2,.slice none 0 0,.slice none 0 0] 50):=⟨_,rfl⟩
   have EO:ay wr W5:=by rw[hW5];exact ah _ _
   obtain⟨gy,hgy⟩:∃ x,x=wr.heap.size:=⟨_,rfl⟩
   have hy5:Bk W5 gy (Di 2):=by rw[hW5];exact aG _ (Di 2) _ _ hgy
   rw[<-hW5,<-hgy];clear hW5 hgy c0 c1 c2 c3 c4 y4;have hv5:=hv4.kept EO;have hf5:=ah1.kept EO;have hr5:=hr4.kept EO;have c0:=hy5.2 0 _ rfl;have c1:=hy5.2 1 _ rfl;have c2:=hy5.2 2 _ rfl;have c3:=hy5.2 3 _ rfl;have c4:=hy5.2 4 _ rfl;have x0:=(HK4.out.kept EO).2 0 _ rfl;have r0:=hr5.2 0 _ rfl;have afp:=hid (fun W=>arg_num t 2 W);unfold Di gU at afp
   go_region_law((go_simp;go_at_call 149;refine(afp.out _).mono ?_;rintro e w6 ⟨rfl,hk6⟩;have Po:ay W5 w6:=(by exact(aC _).tr hk6);have hv6:=hv5.kept Po;have hf6:=hf5.kept Po;unfold gU at hv6;have z0:=hv6.2 0 _ rfl;have f0:=hf6.2 0;have z1:=hv6.2 1 _ rfl;have f1:=hf6.2 1;have z2:=hv6.2 2 _ rfl;have f2:=hf6.2 2;have z3:=hv6.2 3 _ rfl;have f3:=hf6.2 3;have z4:=hv6.2 4 _ rfl;have f4:=hf6.2 4;have z5:=hv6.2 5 _ rfl;have f5:=hf6.2 5;have z6:=hv6.2 6 _ rfl;have f6:=hf6.2 6;have z7:=hv6.2 7 _ rfl;have f7:=hf6.2 7;have z8:=hv6.2 8 _ rfl;have f8:=hf6.2 8;have z9:=hv6.2 9 _ rfl;have f9:=hf6.2 9))
   all_goals
    have hk0:=(HKA.out.tr EO).tr Po;have hk1:=(HKB.out.tr EO).tr Po;have hm7:=MgR.set hk0 (hr5.kept Po) hv6 (HBR.out.kept hk1) (HFR.out.kept hk1) (by have:=HGG.out;omega) (by have:=HGG.out;omega) (by have:=HGG.out;omega) (.int .i64 0) (.int .i64 0) (.slice none 0 0) (.int .i64 0) (.int .i64 0) (.slice none 0 0) (.int .i64 0) (.slice none 0 0) (.int .i64 2) (.slice none 0 0);have HM7:=hid hm7;clear hm7;go_wp2_with(fail)
    go_roundg 1
    case measure=>omega
    case rel=>exact .inr ⟨rfl,rfl,HM7.out⟩
  ·have r1:=hm.r.2 1 _ rfl;have HM:=hid hm;clear hm;go_wp2_with(fail)
   refine(HF.out _ gv HM.out.k HM.out.v).mono ?_;rintro e w8 ⟨a,c,rfl,hs,hk8⟩;have hb8:=HM.out.b.kept hk8;have hf8:=HM.out.f.kept hk8;unfold Qk;unfold gU at hb8;have z0:=hb8.2 0 _ rfl;have f0:=hf8.2 0;have z1:=hb8.2 1 _ rfl;have f1:=hf8.2 1;have z2:=hb8.2 2 _ rfl;have f2:=hf8.2 2;have z3:=hb8.2 3 _ rfl;have f3:=hf8.2 3;have z4:=hb8.2 4 _ rfl;have f4:=hf8.2 4;have z5:=hb8.2 5 _ rfl;have f5:=hf8.2 5;have z6:=hb8.2 6 _ rfl;have f6:=hf8.2 6;have z7:=hb8.2 7 _ rfl;have f7:=hf8.2 7;have z8:=hb8.2 8 _ rfl;have f8:=hf8.2 8;have z9:=hb8.2 9 _ rfl;have f9:=hf8.2 9;have HS:=hid hs;have HK8:=hid (HM.out.k.tr hk8);have HB8:=hid hb8;clear hs hk8 hb8 hf8;go_wp2_with(fail)
   have hk8:=HK8.out;exact bodyPost_ret (aF rfl rfl (gZ (HB8.out.Dk _ _ _ _ _ _ _ _ _ _))) rfl ⟨a,c,rfl,EN HS.out,aH hk8 (mJ _ _ _ _ _ _ _ _ _ _ _ _) (by omega) hk8.size⟩
end
section
set_option maxRecDepth 100000
open Go.RowKit Cw Cw.Gj
def ajP (w:World) (e:Ending) (w':World):Prop:=∃ a c,e=.returned (.tuple #[.agg #[.int .i64 2,.int .i64 1,.slice a 0 c],.int .i64 0])/\Sl w' (.slice a 0 c) []/\ay w w'
theorem aal:qB 2 2 1 []:=⟨⟨by decide,fun c h1 h2=>by omega⟩,by decide,by decide,by decide,fun _=>rfl,fun h=>absurd rfl h⟩
theorem alF (w:World):Calls Tryz.prog 142 #[.int .i64 2] w (ajP w):=by
 refine(KN 2 w (by omega) (by omega)).mono ?_;rintro e w' ⟨⟨p,m,mod,v,h1,rfl,h2⟩|⟨h1,_⟩,hk⟩
 ·obtain⟨rfl,rfl,rfl⟩:=OU h1 aal;obtain⟨a,c,rfl,h3⟩:=h2;exact⟨a,c,rfl,⟨a,c,rfl,h3⟩,hk⟩
 ·exact absurd aal (h1 2 1 [])
theorem Pq (v:Nat) (w:World) (hb:Bk w v (gU 2)):Calls Tryz.prog 141 #[.slice (some ⟨v,0,none⟩) 1 1] w (ajP w):=by
 obtain⟨W1,hW1⟩:∃ x,x=w.alloc (.cells #[.int .i64 0,.int .i64 0,.slice none 0 0] 24):=⟨_,rfl⟩
 have hk1:ay w W1:=by rw[hW1];exact ah _ _
 have br:Bk W1 w.heap.size [.int .i64 0,.int .i64 0,.slice none 0 0]:=by rw[hW1];exact aG w [.int .i64 0,.int .i64 0,.slice none 0 0] _ _ rfl
 have fr:Fz W1 w.heap.size:=by rw[hW1];exact bD _ _ _ _ rfl
 have c8:=(hb.kept hk1).2 8 _ rfl;go_enter Tryz.func141,Tryz.ntmps141;go_upto_region 1 with(fail)
 rw[<-hW1];clear hW1;go_wp2_with(fail)
 refine(alF W1).mono ?_;rintro e w2 ⟨a,c,rfl,hs,hk2⟩;have hb2:=br.kept hk2;have hf2:=fr.kept hk2;have z0:=hb2.2 0 _ rfl;have z1:=hb2.2 1 _ rfl;have z2:=hb2.2 2 _ rfl;have f0:=hf2.2 0;have f1:=hf2.2 1;have f2:=hf2.2 2;have HB:=hid hb2;have HS:=hid hs;have HK:=hid (hk1.tr hk2);clear hb2 hf2 hs hk2 br fr;go_wp2_with(fail)
 refine bodyPost_ret (aF rfl rfl (O7 (((HB.out.set 0 _).set 1 _).set 2 _))) rfl ⟨a,c,rfl,EN HS.out, ?_⟩;exact aH HK.out (aQ (aQ (aj _ _ _ _) _ _) _ _) (zy _) HK.out.size
theorem Gn (v p:Nat) (w:World) (hb:Bk w v (gU 2)) (hp:w.cell? ⟨p,0,none⟩=some (.func (.func 141) #[] #[])):Calls Tryz.prog 198 #[.slice (some ⟨v,0,none⟩) 1 1,.pointer (some ⟨p,0,none⟩)] w (Dl w):=by
 obtain⟨W1,hW1⟩:∃ x,x=w.alloc (.cells #[.int .i64 0,.int .i64 0,.slice none 0 0,.int .i64 0,.int .i64 0,.slice none 0 0,.int .i64 0,.slice none 0 0,.int .i64 0,.slice none 0 0] 91):=⟨_,rfl⟩
 have hk1:ay w W1:=by rw[hW1];exact ah _ _
 have br:Bk W1 w.heap.size (gU 0):=by rw[hW1];exact aG w (gU 0) _ _ rfl
 have fr:Fz W1 w.heap.size:=by rw[hW1];exact bD _ _ _ _ rfl
 have hs1:w.heap.size<W1.heap.size:=by rw[hW1];simp
 have cp:=(hk1.cell' (cell_lt hp)).trans hp;have HBV:=hid (hb.kept hk1);clear hp hb;go_enter Tryz.func198,Tryz.ntmps198;go_upto_region 1 with(fail)
 rw[<-hW1];clear hW1;go_wp2_with(fail)
 refine(Pq v W1 HBV.out).mono ?_;rintro e w2 ⟨a,c,rfl,hs,hk2⟩;have hs2:w.heap.size<w2.heap.size:=zZ hs1 hk2.size;have hn2:¬ w.heap.size=w2.heap.size:=by omega
 have hb2:=br.kept hk2;have hf2:=fr.kept hk2;unfold gU at hb2;have z0:=hb2.2 0 _ rfl;have f0:=hf2.2 0;have z1:=hb2.2 1 _ rfl;have f1:=hf2.2 1;have z2:=hb2.2 2 _ rfl;have f2:=hf2.2 2;have z3:=hb2.2 3 _ rfl;have f3:=hf2.2 3;have z4:=hb2.2 4 _ rfl;have f4:=hf2.2 4;have z5:=hb2.2 5 _ rfl;have f5:=hf2.2 5;have z6:=hb2.2 6 _ rfl;have f6:=hf2.2 6;have z7:=hb2.2 7 _ rfl;have f7:=hf2.2 7;have z8:=hb2.2 8 _ rfl;have f8:=hf2.2 8;have z9:=hb2.2 9 _ rfl;have f9:=hf2.2 9;have HB:=hid hb2;have HS:=hid hs;have HK:=hid (hk1.tr hk2);clear hb2 hf2 hs hk2 br fr;go_wp2_with(fail)
 refine bodyPost_ret (aF rfl rfl (gZ ?_)) rfl ⟨a,c,rfl,EN HS.out, ?_⟩
 ·exact(HB.out.Dk _ _ _ _ _ _ _ _ _ _).kept (ah _ _)
 ·exact ay.tr (aH HK.out (mJ _ _ _ _ _ _ _ _ _ _ _ _) (zy _) HK.out.size) (ah _ _)
end
end Go.Proofs.YtoilbeadokallaaGreatDoor
