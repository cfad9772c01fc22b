/- Lemmas on the way to the row. Conditions: each lemma's own, stated with it. -/
import Derived.Test.YtoilbeadokallaaGreatDoorK17
import Derived.Test.YtoilbeadokallaaGreatDoorK19
import Derived.Laws.EntriesVeiled
namespace Go.Proofs.YtoilbeadokallaaGreatDoor
section
open Go.RowKit Cw Cw.Gj
open Go.ChangeMaps (setBlock)
def Wu:ByteArray:=⟨#[103,102]⟩
def DV:Nat->List ByteArray:=fun i=>match i with|0=>eH|1=>fV|2=>jf|_=>jY
theorem KZ (j:Nat) (hj:j<4):(DV j).Nodup/\∀ s∈DV j,s≠Wu/\∀ i,i<j->s ∉ DV i:=by
 have e:j=0∨j=1∨j=2∨j=3:=by omega
 rcases e with rfl|rfl|rfl|rfl
 ·refine⟨by simp[DV,eH],fun s hs=>⟨fun e=>?_,fun i hi=>by omega⟩⟩;subst e;simp[DV,eH,Wu] at hs
 ·refine⟨by simp[DV,fV],fun s hs=>?_⟩;simp only[DV,fV,yO,vH,or_false] at hs;refine⟨fun e=>by subst e;simp[Wu] at hs,fun i hi=>?_⟩;have:i=0:=by omega
  subst this;rcases hs with rfl|rfl|rfl|rfl|rfl|rfl<;>simp[DV,eH]
 ·refine⟨by simp[DV,jf],fun s hs=>?_⟩;simp only[DV,jf,yO,vH,or_false] at hs;refine⟨fun e=>by subst e;simp[Wu] at hs,fun i hi=>?_⟩;have:i=0∨i=1:=by omega
  rcases this with rfl|rfl
  ·rcases hs with rfl|rfl|rfl|rfl|rfl|rfl|rfl|rfl|rfl|rfl|rfl|rfl|rfl<;>simp[DV,eH]
  ·rcases hs with rfl|rfl|rfl|rfl|rfl|rfl|rfl|rfl|rfl|rfl|rfl|rfl|rfl<;>simp[DV,fV]
 ·refine⟨by simp[DV,jY],fun s hs=>?_⟩;simp only[DV,jY,yO,vH,or_false] at hs;refine⟨fun e=>by subst e;simp[Wu] at hs,fun i hi=>?_⟩;have hs':=hs;have:i=0∨i=1∨i=2:=by omega
  rcases this with rfl|rfl|rfl
  ·simp only[DV,eH,yO,vH,or_false];intro h;rcases h with rfl|rfl|rfl|rfl|rfl|rfl|rfl|rfl|rfl|rfl<;>simp at hs
  ·simp only[DV,fV,yO,vH,or_false];intro h;rcases h with rfl|rfl|rfl|rfl|rfl|rfl<;>simp at hs
  ·simp only[DV,jf,yO,vH,or_false];intro h;rcases h with rfl|rfl|rfl|rfl|rfl|rfl|rfl|rfl|rfl|rfl|rfl|rfl|rfl<;>simp at hs
theorem Ua {es:Array MapEntry} {seen:Array Nat} {e:MapEntry} (he:e∈(leftOf es seen).toList):(leftOf es (seen.push e.born)).size< (leftOf es seen).size:=by
 have h:(leftOf es (seen.push e.born)).toList=(leftOf es seen).toList.filter (fun x=>x.born != e.born):=by
  unfold leftOf;rw[uP,uP,List.filter_filter];refine uZ fun x _=>?_;rw[Array.contains_push];cases h1:x.born==e.born<;>simp[bne,h1]
 rw[<-Array.length_toList,<-Array.length_toList,h];exact List.length_filter_lt_length_iff_exists.2 ⟨e,he,by simp⟩
theorem mem_left {l:List (ByteArray×Value)} {seen:Array Nat} {e:MapEntry} (he:e∈(leftOf (ents l).toArray seen).toList):∃ s v i,l[i]?=some (s,v)/\e=⟨.string s,v,i⟩/\i ∉ seen.toList:=by
 unfold leftOf at he;rw[uP,xH] at he;obtain⟨i,s,v,h1,h2⟩:=jD.1 (by simpa using he.1);have h3:=he.2;subst h2;exact⟨s,v,i,h1,rfl,by simpa using h3⟩
theorem Ub {l:List (ByteArray×Value)} {seen:Array Nat} (h0:(leftOf (ents l).toArray seen).size=0) {i:Nat} {s:ByteArray} {v:Value} (h:l[i]?=some (s,v)):i∈seen.toList:=by
 by_cases hi:i∈seen.toList
 ·exact hi
 ·exfalso;have hm:(⟨.string s,v,i⟩:MapEntry)∈(leftOf (ents l).toArray seen).toList:=by
   unfold leftOf;rw[uP,xH];exact⟨by simpa using jD.2 ⟨i,s,v,h,rfl⟩,by simpa using hi⟩
  rw[Array.eq_empty_of_size_eq_zero h0] at hm;simp at hm
theorem ab7 {l:List (ByteArray×Value)}:∀ x∈(ents l).toArray.toList,x.born<l.length:=fun x hx=>by
 obtain⟨i,s,v,h1,rfl⟩:=jD.1 (by simpa using hx);exact(zN.1 h1).1
theorem Ph (l:List (ByteArray×Value)):((ents l).toArray.toList.map (·.born)).Nodup:=by
 have:(ents l).map (·.born)=List.range l.length:=by
  unfold ents;rw[rG,sN,<-List.zipIdx_map_snd 0 l];rfl
 simpa[this] using tJ
structure aai (W:World) (t:Nat) (l0 lj:List (ByteArray×Value)) (seen:Array Nat) (w:World) (l:List (ByteArray×Value)):Prop where
 m:iy w t l
 g:W.grownBy w (some t)
 nd:(l.map (·.1)).Nodup
 old:∀ p∈l0,p∈l
 keys:∀ p∈l,p∈l0∨ ∃ i∈seen.toList,∃ v,lj[i]?=some (p.1,v)
 done:∀ i∈seen.toList,∀ s u0 u1 u2,lj[i]?=some (s,.agg #[u0,u1,u2])->∃ A c,(s,.slice (some ⟨A,0,none⟩) 1 c)∈l/\A≠t/\Bk w A [u0,u1,u2]
theorem aai.fresh {W w:World} {t:Nat} {l0 lj l:List (ByteArray×Value)} {seen:Array Nat} (h:aai W t l0 lj seen w l) {s:ByteArray} {v:Value} {i:Nat} (hi:lj[i]?=some (s,v)) (hn:i ∉ seen.toList) (hl:(lj.map (·.1)).Nodup) (h0:∀ p∈l0,p.1≠s):∀ p∈l,p.1≠s:=fun p hp e=>by
 rcases h.keys p hp with q|⟨j,hj,v',q⟩
 ·exact h0 p q e
 ·have:i=j:=by
   have a1:(lj.map (·.1))[i]?=some s:=by rw[yM,hi];rfl
   have a2:(lj.map (·.1))[j]?=some s:=by rw[yM,q,<-e];rfl
   have b1:=(zN.1 a1)
   have b2:=(zN.1 a2)
   obtain⟨c1,d1⟩:=b1;obtain⟨c2,d2⟩:=b2;exact(tN (xs:=lj.map (·.1)) (h₀:=c1) (h₁:=c2) hl).1 (d1.trans d2.symm)
  exact hn (this▸hj)
theorem aai.add {W w w':World} {t:Nat} {l0 lj l:List (ByteArray×Value)} {seen:Array Nat} (h:aai W t l0 lj seen w l) {s:ByteArray} {u0 u1 u2:Value} {i A c:Nat} (hi:lj[i]?=some (s,.agg #[u0,u1,u2])) (hf:∀ p∈l,p.1≠s) (m:iy w' t (l++ [(s,.slice (some ⟨A,0,none⟩) 1 c)])) (g:W.grownBy w' (some t)) (hk:∀ A u0 u1 u2,A≠t->Bk w A [u0,u1,u2]->Bk w' A [u0,u1,u2]) (hA:A≠t) (hb:Bk w' A [u0,u1,u2]):aai W t l0 lj (seen.push i) w' (l++ [(s,.slice (some ⟨A,0,none⟩) 1 c)]) where
 m:=m
 g:=g
 nd:=by
  rw[xq,uq];refine⟨h.nd,by simp,fun a ha b hb=>?_⟩;obtain⟨p,hp,rfl⟩:=yY.1 ha;have:b=s:=by simpa using hb
  rw[this];exact hf p hp
 old:=fun p hp=>yH _ (h.old p hp)
 keys:=fun p hp=>by
  rcases yQ.1 hp with q|q
  ·rcases h.keys p q with r|⟨j,hj,v,r⟩
   ·exact .inl r
   ·exact .inr ⟨j,by simp at hj ⊢;exact .inl hj,v,r⟩
  ·rw[zH.1 q];exact .inr ⟨i,by simp,_,hi⟩
 done:=fun j hj s' v0 v1 v2 he=>by
  have hj':j∈seen.toList∨j=i:=by simpa using hj
  rcases hj' with q|rfl
  ·obtain⟨B,d,h1,h2,h3⟩:=h.done j q s' v0 v1 v2 he;exact⟨B,d,yH _ h1,h2,hk _ _ _ _ h2 h3⟩
  ·rw[hi] at he;cases he
   exact⟨A,c,wK _ (by simp),hA,hb⟩
structure ab8 (W:World) (t:Nat) (vg:Value) (l1:List (ByteArray×Value)) (j:Nat) (w:World) (l:List (ByteArray×Value)):Prop where
 m:iy w t l
 g:W.grownBy w (some t)
 nd:(l.map (·.1)).Nodup
 gf:(Wu,vg)∈l
 keys:∀ p∈l,p.1=Wu∨ ∃ i,i<j/\p.1∈DV i
 ham:1<=j->∃ A c u0 u1 u2,(iV,Value.agg #[u0,u1,u2])∈l1/\(iV,.slice (some ⟨A,0,none⟩) 1 c)∈l/\A≠t/\Bk w A [u0,u1,u2]
theorem ab8.old {W w:World} {t:Nat} {vg:Value} {l1 l:List (ByteArray×Value)} {j:Nat} (h:ab8 W t vg l1 j w l) (hj:j<4) {s:ByteArray} (hs:s∈DV j):∀ p∈l,p.1≠s:=fun p hp e=>by
 obtain⟨h1,h2⟩:=(KZ j hj).2 s hs;rcases h.keys p hp with q|⟨i,hi,q⟩
 ·exact h1 (e▸q)
 ·exact h2 i hi (e▸q)
theorem ab8.next {W w w':World} {t:Nat} {vg:Value} {l1 l l' lj:List (ByteArray×Value)} {j:Nat} {seen:Array Nat} (h:ab8 W t vg l1 j w l) (hk:lj.map (·.1)=DV j) (hr:∀ p∈lj,agN p.2) (hl1:j=0->lj=l1) (hs:aai w t l lj seen w' l') (h0:(leftOf (ents lj).toArray seen).size=0):ab8 W t vg l1 (j+1) w' l' where
 m:=hs.m
 g:=aO h.g hs.g
 nd:=hs.nd
 gf:=hs.old _ h.gf
 keys:=fun p hp=>by
  rcases hs.keys p hp with q|⟨i,hi,v,q⟩
  ·rcases h.keys p q with r|⟨i,hi,r⟩
   ·exact .inl r
   ·exact .inr ⟨i,by omega,r⟩
  ·exact .inr ⟨j,by omega,by rw[<-hk];exact yY.2 ⟨_,xU q,rfl⟩⟩
 ham:=fun _=>by
  by_cases hj:j=0
  ·have e:=hl1 hj;subst e;have hm:iV∈lj.map (·.1):=by rw[hk,hj];simp[DV,eH,iV]
   obtain⟨⟨s,v⟩,hp,rfl⟩:=yY.1 hm;obtain⟨s1,f1,a1,c1,f2,a2,c2,e1⟩:=hr _ hp;have e2:v=.agg #[.string s1,.func f1 a1 c1,.func f2 a2 c2]:=e1;subst e2;obtain⟨i,hi⟩:=wS hp;obtain⟨A,c,q1,q2,q3⟩:=hs.done i (Ub h0 hi) _ _ _ _ hi;exact⟨A,c,_,_,_,hp,q1,q2,q3⟩
  ·obtain⟨A,c,u0,u1,u2,q1,q2,q3,q4⟩:=h.ham (by omega);exact⟨A,c,u0,u1,u2,q1,hs.old _ q2,q3,q4.gb hs.g q3⟩
def Uc (w:World) (e:Ending) (w':World):Prop:=∃ t l,e=.returned (.map (some t))/\iy w' t l/\ay w w'/\w.heap.size<=t/\(l.map (·.1)).Nodup/\
 (∃ A p1 p2:Nat,(Wu,.slice (some ⟨A,0,none⟩) 2 2)∈l/\Bk w' A [.string ⟨#[78]⟩,.func (.func 198) #[] #[.pointer (some ⟨p1,0,none⟩)],.nilFunc,.string ⟨#[78,78,76]⟩,.func (.func 198) #[] #[.pointer (some ⟨p2,0,none⟩)],.nilFunc]/\w'.cell? ⟨p1,0,none⟩=some (.func (.func 141) #[] #[]))/\
 (∃ A c p q:Nat,(iV,.slice (some ⟨A,0,none⟩) 1 c)∈l/\Bk w' A [.string ⟨#[70,78]⟩,.func (.func 301) #[] #[.pointer (some ⟨p,0,none⟩)],.func (.func 210) #[] #[]]/\
  w'.cell? ⟨p,0,none⟩=some (.func (.func 299) #[] #[.pointer (some ⟨q,0,none⟩)])/\w'.cell? ⟨q,0,none⟩=some (.func (.func 209) #[] #[]))
set_option maxRecDepth 100000 in
set_option maxHeartbeats 8000000 in
theorem table_any (w:World):Calls Tryz.prog 86 #[] w (Uc w):=by
 have hmm:=@run_makeMap Tryz.prog;go_enter Tryz.func86,Tryz.ntmps86;go_wp2_with(fail)
 refine(AO _ _ _ _ _).mono ?_;rintro e w1 ⟨p1,rfl,c1,l1,m1,k1⟩;go_wp2_with(fail)
 refine(AO _ _ _ _ _).mono ?_;rintro e w2 ⟨p2,rfl,c2,l2,m2,k2⟩;have hk2:ay w w2:=((ah _ _).tr k1).tr k2;obtain⟨t,ht⟩:∃ t,t=w.heap.size:=⟨_,rfl⟩
 obtain⟨WA,hWA⟩:∃ x,x=w2.alloc (.cells #[.string ⟨#[78]⟩,.func (.func 198) #[] #[.pointer (some ⟨p1,0,none⟩)],.nilFunc,.string ⟨#[78,78,76]⟩,.func (.func 198) #[] #[.pointer (some ⟨p2,0,none⟩)],.nilFunc] 202):=⟨_,rfl⟩
 have hkA:ay w2 WA:=by rw[hWA];exact ah _ _
 have hbA:Bk WA w2.heap.size [.string ⟨#[78]⟩,.func (.func 198) #[] #[.pointer (some ⟨p1,0,none⟩)],.nilFunc,.string ⟨#[78,78,76]⟩,.func (.func 198) #[] #[.pointer (some ⟨p2,0,none⟩)],.nilFunc]:=by rw[hWA];exact aG w2 [.string ⟨#[78]⟩,.func (.func 198) #[] #[.pointer (some ⟨p1,0,none⟩)],.nilFunc,.string ⟨#[78,78,76]⟩,.func (.func 198) #[] #[.pointer (some ⟨p2,0,none⟩)],.nilFunc] _ _ rfl
 have hM2:iy WA t []:=(((oG w _ ht).kept k1).kept k2).kept hkA;obtain⟨A,hA⟩:∃ A,A=w2.heap.size:=⟨_,rfl⟩
 rw[<-hA] at hbA;have ahT:ay w WA:=hk2.tr hkA;have htlt:t<w1.heap.size:=by rw[ht];exact zZ (by simp) k1.size
 have hAt:A≠t:=by have:=k2.size;omega
 have hp1:w1.cell? ⟨p1,0,none⟩=_:=c1;have ajJ:p1≠t:=by
  have:(w.alloc (.map #[] 0)).heap.size=w.heap.size+1:=by simp
  omega
 have hcA:WA.cell? ⟨p1,0,none⟩=some (.func (.func 141) #[] #[]):=((k2.tr hkA).cell' m1).trans hp1;have hpA:p1<WA.heap.size:=(k2.tr hkA).lt m1;obtain⟨w3,x3,i3,j3⟩:=bg Tryz.underlying147 Tryz.underlying9 hM2 (s:=⟨#[103,102]⟩) (by simp) (.slice (some ⟨A,0,none⟩) 2 2);have hb3:=hbA.gb j3 hAt;have hc3:=(aZ (o:=0) j3 hpA ajJ).trans hcA;have hp3:p1<w3.heap.size:=zZ hpA j3.size;have hk3:ay w w3:=aH ahT j3 (by omega) ahT.size;have X3:=hid x3;have HT:=hid ht;have HA:=hid hA;have HWA:=hid hWA;have HB3:=hid hb3;have HC3:=hid hc3;clear hp1 hcA c1 hM2 hbA x3 hb3 hc3 c2 j3;have x3:=X3.out;rw[hWA,ht,hA] at x3;clear ht hA hWA;go_wp2_with(fail)
 clear x3;refine(I5 w3).mono ?_;rintro e w4 ⟨b1,L1,rfl,F1,H1⟩;go_wp2_with(fail)
 refine(Gg w4).mono ?_;rintro e w5 ⟨b2,L2,rfl,F2, -⟩;go_wp2_with(fail)
 refine(I7 w5).mono ?_;rintro e w6 ⟨b3,L3,rfl,F3, -⟩;go_wp2_with(fail)
 refine(I8 w6).mono ?_;rintro e w7 ⟨b4,L4,rfl,F4, -⟩;go_wp2_with(fail)
 obtain⟨z,hz⟩:∃ z,z=w7.heap.size:=⟨_,rfl⟩
 obtain⟨W8,hW8⟩:∃ x,x=w7.alloc (.cells #[.map (some b1),.map (some b2),.map (some b3),.map (some b4)] 209):=⟨_,rfl⟩
 rw[<-hW8,<-hz,<-HT.out];have Qi:ay w7 W8:=by rw[hW8];exact ah _ _
 have hbz:Bk W8 z [.map (some b1),.map (some b2),.map (some b3),.map (some b4)]:=by rw[hW8,hz];exact aG w7 [.map (some b1),.map (some b2),.map (some b3),.map (some b4)] _ _ rfl
 have k38:ay w3 W8:=(((F1.k.tr F2.k).tr F3.k).tr F4.k).tr Qi;have ht3:t<w3.heap.size:=i3.lt;have hzt:z≠t:=by have:=(((F1.k.tr F2.k).tr F3.k).tr F4.k).size;omega
 have Qj:∀ j,j<4->∃ bj lj,([.map (some b1),.map (some b2),.map (some b3),.map (some b4)]:List Value)[j]?=some (.map (some bj))/\iy W8 bj lj/\lj.map (·.1)=DV j/\(∀ p∈lj,agN p.2)/\(j=0->lj=L1)/\bj≠t:=fun j hj=>by
  have e:j=0∨j=1∨j=2∨j=3:=by omega
  have s1:=F1.k.size;have s2:=F2.k.size;have s3:=F3.k.size;have n1:=F1.nb;have n2:=F2.nb;have n3:=F3.nb;have n4:=F4.nb;rcases e with rfl|rfl|rfl|rfl
  ·exact⟨b1,L1,rfl,(((F1.m.kept F2.k).kept F3.k).kept F4.k).kept Qi,F1.ks,F1.rows,fun _=>rfl,by omega⟩
  ·exact⟨b2,L2,rfl,((F2.m.kept F3.k).kept F4.k).kept Qi,F2.ks,F2.rows,fun h=>(by omega),by omega⟩
  ·exact⟨b3,L3,rfl,(F3.m.kept F4.k).kept Qi,F3.ks,F3.rows,fun h=>(by omega),by omega⟩
  ·exact⟨b4,L4,rfl,F4.m.kept Qi,F4.ks,F4.rows,fun h=>(by omega),by omega⟩
 have hO0:ab8 W8 t (.slice (some ⟨A,0,none⟩) 2 2) L1 0 W8 [(Wu,.slice (some ⟨A,0,none⟩) 2 2)]:=⟨i3.kept k38,bW (ay.rfl' _),by simp,by simp,fun p hp=>(by rw[zH.1 hp];exact .inl rfl),fun h=>(by omega)⟩
 have ahU:=hid Qj;have HK1:=hid F1.ks;have HRW:=hid F1.rows;obtain⟨v1,hv1,ajK⟩:=H1;have HV1:=hid hv1;have HVR:=hid ((((ajK.kept F2.k).kept F3.k).kept F4.k).kept Qi);have alz:=hid k38;have HBZ:=hid hbz;have HZT:=hid hzt;have ajL:=hid (hk3.tr k38);have hnb:=F1.nb;clear Qj F1 F2 F3 F4 hv1 ajK Qi hbz k38 hW8 hz i3 hkA ahT k1 k2 hk2 hk3 hzt l1 l2 m1 m2
 go_loopg [17] 5 (fun gk vi wr=>∃ j l,j<=4/\gk=5-j/\vi=.int .i64 j/\ab8 W8 t (.slice (some ⟨A,0,none⟩) 2 2) L1 j wr l)
 case atStart=>exact⟨0,_,by omega,rfl,rfl,hO0⟩
 case round=>
  obtain⟨j,l,hj,rfl,rfl,ho⟩:=hrel;obtain⟨wo,hwo⟩:∃ x,x=wr:=⟨_,rfl⟩
  subst hwo;clear hO0;by_cases hj4:j<4
  ·obtain⟨bj,lj,hcell,hm,hks,hrow,hl1,hne⟩:=ahU.out j hj4;have hmr:iy wo bj lj:=hm.gbo ho.g (by simpa using hne);have ahV:wo.cell? ⟨z,j,none⟩=some (.map (some bj)):=(aZ ho.g HBZ.out.1 HZT.out).trans (HBZ.out.2 j _ hcell);have hrange:=run_range_map (P:=Tryz.prog) wo 209 _ _ bj _ _ Tryz.underlying209 hmr;have hjl:(j:Int)<4:=by omega
   have hjn:j<4:=hj4;have HKS:=hid hks;have HRO:=hid hrow;have HL1:=hid hl1;have HNE:=hid hne;have HM:=hid hmr;clear hcell hm hks hrow hl1 hne hmr;go_wp2_with(fail)
   obtain⟨r,hr⟩:∃ r,r=wo.heap.size:=⟨_,rfl⟩
   obtain⟨WI,hWI⟩:∃ x,x=wo.alloc (.mapIter (some bj) lj.length #[] lj.length):=⟨_,rfl⟩
   rw[<-hWI,<-hr];have hit0:WI.heap[r]?=some (.mapIter (some bj) lj.length #[] lj.length):=by rw[hWI,hr];exact heap_alloc_new _ _
   have hkI:ay wo WI:=by rw[hWI];exact ah _ _
   have hS0:aai wo t l lj #[] WI l:=⟨ho.m.kept hkI,bW hkI,ho.nd,fun p hp=>hp,fun p hp=>.inl hp,fun i hi=>(by simp at hi)⟩
   have HR:=hid hr;have HO:=hid ho;clear ahV hrange hWI hkI hr ho hjl
   go_loopg [23] ((leftOf (ents lj).toArray #[]).size+1) (fun gk _ wi=>∃ seen c0 l',aai wo t l lj seen wi l'/\wi.heap[r]?=some (.mapIter (some bj) lj.length seen c0)/\lj.length<=c0/\gk=(leftOf (ents lj).toArray seen).size+1)
   case atStart=>exact⟨#[],_,l,hS0,hit0,zy _,rfl⟩
   case round=>
    obtain⟨seen,c0,l',hs,hit,hc0,rfl⟩:=hrel;clear hS0 hit0;have hmi:iy wr bj lj:=HM.out.gbo hs.g (by simpa using HNE.out);have htw:t<wr.heap.size:=hs.m.lt;have hrt:r≠t:=by have:=HO.out.m.lt;have:=HR.out;omega
    rcases run_next_at (P:=Tryz.prog) wr 0 r bj lj.length c0 seen _ _ hit hmi ab7 hc0 with⟨h0,hrun⟩|⟨e,he,wn,hwn,hrun⟩
    ·clear hmi;go_wp2_with(fail)
     go_roundg (5- (j+1))
     case measure=>omega
     case rel=>exact⟨j+1,l',by omega,rfl,by go_num,HO.out.next HKS.out HRO.out HL1.out hs h0⟩
    ·obtain⟨s,v,i,hi,rfl,hns⟩:=mem_left he;obtain⟨s1,f1,a1,c1,f2,a2,c2,hv⟩:=HRO.out _ (xU hi);have hv':v=.agg #[.string s1,.func f1 a1 c1,.func f2 a2 c2]:=hv;subst hv';obtain⟨wx,hwx⟩:∃ x,x=setBlock wn r (.mapIter (some bj) lj.length (seen.push i) lj.length):=⟨_,rfl⟩
     rw[<-hwx] at hrun;have hkn:ay wr wn:=by
      rcases hwn with rfl|rfl
      ·exact ay.rfl' _
      ·exact aC _
     have hgn:wr.grownBy wx (some r):=by rw[hwx];exact Dj hkn (Dh _ _ _)
     have hrl:r<wn.heap.size:=hkn.lt (zL.1 hit).1;have agO:wx.heap[r]?=some (.mapIter (some bj) lj.length (seen.push i) lj.length):=by rw[hwx];simp[setBlock,hrl]
     have hmx:iy wx bj lj:=hmi.gbo hgn (by have:=HM.out.lt;have:=HR.out;simp;omega);have hmt:iy wx t l':=hs.m.gbo hgn (by simpa using hrt.symm);have hent:=run_entry_at (P:=Tryz.prog) wx r bj lj.length seen _ _ ⟨.string s,.agg #[.string s1,.func f1 a1 c1,.func f2 a2 c2],i⟩ agO hmx (by simpa using jD.2 ⟨i,s,_,hi,rfl⟩) (Ph _);have hfr:=hs.fresh hi hns (by rw[HKS.out];exact(KZ j hjn).1) (fun p hp=>HO.out.old hjn (by rw[<-HKS.out];exact yY.2 ⟨_,xU hi,rfl⟩) p hp);obtain⟨wy,hwy⟩:∃ x,x=wx.alloc (.cells #[.string s1,.func f1 a1 c1,.func f2 a2 c2] 202):=⟨_,rfl⟩
     have hky:ay wx wy:=by rw[hwy];exact ah _ _
     have hlook:=KR (P:=Tryz.prog) Tryz.underlying147 Tryz.underlying9 (hmt.kept hky) hfr (z:=.slice none 0 0) (fun _=>rfl);rw[hwy] at hlook;obtain⟨cp,hcp⟩:∃ c,c=(Question.appendCap 1 0 202).cut (wx.tape wx.drawn (Question.appendCap 1 0 202)):=⟨_,rfl⟩
     obtain⟨wz,hwz⟩:∃ x,x=wy.alloc (.cells #[.string s1,.func f1 a1 c1,.func f2 a2 c2] 202):=⟨_,rfl⟩
     have hkz:ay wx wz:=by rw[hwz];exact hky.tr (ah _ _)
     have hzs:wx.heap.size+1+1=wz.heap.size:=by rw[hwz,hwy];simp
     obtain⟨WM,hWM⟩:∃ x,x=(wz.alloc (.cells (#[.string s1,.func f1 a1 c1,.func f2 a2 c2]++Builtin.zeroCells #[.string ⟨#[]⟩,.nilFunc,.nilFunc] (cp-1)) 202)).drew:=⟨_,rfl⟩
     have hkM:ay wx WM:=by rw[hWM];exact(hkz.tr (ah _ _)).tr (aC _)
     have hbM:Bk WM (wx.heap.size+1+1) [.string s1,.func f1 a1 c1,.func f2 a2 c2]:=by
      rw[hWM];refine Bk.kept ?_ (aC _);refine⟨by simp;omega,fun k u hu=>?_⟩;rw[World.cell?_alloc_at _ _ _ _ hzs];have hk3:k<3:=(zN.1 hu).1;rw[Array.getElem?_append_left (by simpa using hk3)];simpa using hu
     obtain⟨wm,xm,im,jm⟩:=bg (P:=Tryz.prog) Tryz.underlying147 Tryz.underlying9 (hmt.kept hkM) hfr (.slice (some ⟨wx.heap.size+1+1,0,none⟩) 1 cp);have hrx:r<wx.heap.size:=(zL.1 agO).1;have htx:t<wx.heap.size:=hmt.lt;have ajM:wm.heap[r]?=some (.mapIter (some bj) lj.length (seen.push i) lj.length):=by
      rw[jm.block r (hkM.lt hrx) (by simpa using hrt),hkM.block r hrx];exact agO
     have hgm:wo.grownBy wm (some t):=by
      have e1:wo.grownBy wx (some t):=hs.g.andThen hgn (fun k e=>by cases e;exact .inl (xK HR.out.symm));exact aO e1 (Dj hkM jm)
     have hkk:∀ A u0 u1 u2,A≠t->Bk wr A [u0,u1,u2]->Bk wm A [u0,u1,u2]:=fun A u0 u1 u2 h1 h2=>by
      have hne:A≠r:=fun e=>by
       subst e;have:=h2.2 0 _ rfl;simp[World.cell?,hit] at this
      exact((h2.gb hgn hne).kept hkM).gb jm h1
     have hlt:(leftOf (ents lj).toArray (seen.push i)).size< (leftOf (ents lj).toArray seen).size:=Ua he;have hadd:=hs.add hi hfr im hgm hkk (by omega) ((hbM.gb jm (by omega)));have alA:=hid hadd;have alB:=hid ajM;have HCP:=hid hcp;clear hadd ajM hkk hgm hbM hkM hkz hrx htx hzs im jm;rw[hWM,hwz,hwy,hcp] at xm;clear hWM hwz hcp;clear hi hmt hgn agO hfr he hs hwx hkn hmi hmx hit hwn hns hky hwy hv;go_wp2_with(fail)
     go_roundg ((leftOf (ents lj).toArray (seen.push i)).size+1)
     case measure=>omega
     case rel=>exact⟨seen.push i,lj.length,_,alA.out,alB.out,zy _,rfl⟩
  ·have hj':j=4:=by omega
   subst hj';go_wp2_with(fail)
   go_ret;obtain⟨A',c,u0,u1,u2,q1,q2,q3,q4⟩:=ho.ham (by omega);have hu:v1=.agg #[u0,u1,u2]:=by
    have hn:(L1.map (·.1)).Nodup:=by rw[HK1.out];exact(KZ 0 (by omega)).1
    obtain⟨i,hi⟩:=wS HV1.out;obtain⟨i',hi'⟩:=wS q1;have a1:(L1.map (·.1))[i]?=some iV:=by rw[yM,hi];rfl
    have a2:(L1.map (·.1))[i']?=some iV:=by rw[yM,hi'];rfl
    obtain⟨c1,d1⟩:=zN.1 a1;obtain⟨c2,d2⟩:=zN.1 a2;have e:i=i':=(tN (xs:=L1.map (·.1)) (h₀:=c1) (h₁:=c2) hn).1 (d1.trans d2.symm);subst e;rw[hi] at hi';cases hi'
    rfl
   obtain⟨p,q,e1,e2,e3,e4,e5,e6,e7,e8,e9⟩:=HVR.out;rw[hu] at e1;cases e1
   have hgf:=HB3.out;have hc3:=HC3.out;have k38:=alz.out;have hA:=HA.out;have hAw:A≠t:=hAt;refine⟨t,l,rfl,ho.m,aH ajL.out ho.g (xK HT.out.symm) ajL.out.size,xK HT.out.symm,ho.nd,⟨A,p1,p2,ho.gf,(hgf.kept k38).gb ho.g hAw, ?_⟩,⟨A',c,p,q,q2,q4, ?_, ?_⟩⟩
   ·rw[aZ ho.g (k38.lt hp3) ajJ,k38.cell' hp3];exact hc3
   ·rw[aZ ho.g e4 (by omega)];exact e2
   ·rw[aZ ho.g e5 (by omega)];exact e3
end
end Go.Proofs.YtoilbeadokallaaGreatDoor
