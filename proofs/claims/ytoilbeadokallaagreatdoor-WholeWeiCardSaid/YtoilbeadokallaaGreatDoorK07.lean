/- The walk of the field's product of two residues. Conditions: a prime-like base from 2 to 256, a degree from 1 to 8, an order of at most 256. -/
import Derived.Test.YtoilbeadokallaaGreatDoorK06
import Derived.Deep.RegionHeld3
import Derived.Laws.CopyOwn
import Derived.StillTailTactics
namespace Go.Proofs.YtoilbeadokallaaGreatDoor
open Go.RowKit Cw
theorem own_block {w:World} {B g m:Nat} {ys:List Int} (hl:ys.length=m) (h:Own w B (.slice (some ⟨g,0,none⟩) m m) ys):w.heap[g]?=some (.cells (ys.map (Value.int .i64)).toArray 3 (0,0)):=by
 obtain ⟨_,h⟩:=h
 rcases h with ⟨h,_⟩ | ⟨g',cap',cur,e,_,hg,_,_,hs,ht⟩
 ·cases h
 ·cases e
  rw [hg]
  congr 2
  apply Array.ext'
  rw [← ht,List.take_of_length_le (by simp;omega)]
theorem own_of_block {w:World} {B g m:Nat} {ys:List Int} (hl:ys.length=m) (hm:m≤maxLen) (hB:B≤g) (h:w.heap[g]?=some (.cells (ys.map (Value.int .i64)).toArray 3 (0,0))):Own w B (.slice (some ⟨g,0,none⟩) m m) ys:=by
 subst hl
 exact ⟨by simp,.inr ⟨g,_,_,rfl,hB,h,Nat.le_refl _,hm,by simp,by rw [Nat.mul_one];exact List.take_of_length_le (by simp)⟩⟩
theorem step_shift {ops:Array Oper} {o:Oper} {a:Act} {w:World} {K:Act→World→Prop} {Q:Exit→Act→World→Prop} {E:Prop} (hgd:o.guard=none) (d s:Operand)
  (ho:o.op=.call { callee:=.builtin .copy,args:=#[d,s],argTypes:=#[22,22] }) (g m:Nat) (dp sp:Option Addr) (L L' dCap sCap:Nat) (hd:a.eval d=.slice dp L dCap) (hs:a.eval s=.slice sp L' sCap)
  (hL:L=m - 1) (hL':L'=m - 1) (hdp:1 < m→dp=some ⟨g,1,none⟩) (hsp:1 < m→sp=some ⟨g,0,none⟩) (ys:List Int) (hl:ys.length=m) (hm:1≤m) (hm2:m≤8) (B:Nat) (w0:World) (hown:Own w B (.slice (some ⟨g,0,none⟩) m m) ys) (hb:Below B w0 w)
  (h:∀ w',Own w' B (.slice (some ⟨g,0,none⟩) m m) (ys.take 1 ++ ys.take (m - 1))→Below B w0 w'→K (a.put o.dst (goInt (m - 1:Nat))) w') :
  if Region.wanted o (yielded ops a.tmps)=true then Oper.wp Tryz.prog o a w K Q else E:=by
 subst hL hL'
 have hB:=hown.lt.1
 have hcl:((ys.take (m - 1)).map (Value.int .i64)).length=m - 1:=by simp;omega
 refine step_copy_splice hgd d s 22 22 ho 3 Tryz.underlying22 (by kernel_rfl) dp sp (m - 1) dCap (m - 1) sCap hd hs g 1 (ys.map (Value.int .i64)) 3 (own_block hl hown) ((ys.take (m - 1)).map (Value.int .i64))
  (by rw [hcl];exact (Nat.min_self _).symm) (fun hp=>⟨hdp (by omega),_,hsp (by omega),fun j v hj=>?_⟩) (by rw [hcl];simp;omega) (ints_oneCell _ _) B w0 hb hB fun w' hg' hb'=>?_
 ·have hj2:j < m - 1:=by have:=(List.getElem?_eq_some_iff.1 hj).1;rw [hcl] at this;exact this
  have:=hown.cell (i:=j) (by omega)
  rw [Addr.add_lit,Nat.zero_add,this]
  simp [List.getElem?_take_of_lt hj2] at hj
  obtain ⟨z,hz,rfl⟩:=hj
  simp [List.getD,hz]
 ·rw [hcl]
  refine h w' (own_of_block (by simp;omega) (by unfold maxLen;omega) hB ?_) hb'
  rw [hg'.out]
  congr 2
  simp only [splice,hcl,← List.map_take,← List.map_drop,← List.map_append]
  rw [show ys.drop (1 + (m - 1))=[] from List.drop_eq_nil_of_le (by omega),List.append_nil]
theorem set_low {us vs:List Int} {m k:Nat} {x:Int} (hl:us.length=m) (hk:k < m) (h:∀ j,j < k→us.getD j 0=vs.getD j 0) (hx:vs.getD k 0=x):∀ j,j < k + 1→(us.set k x).getD j 0=vs.getD j 0:=fun j hj=>by
 by_cases e:j=k
 ·subst e;simp [List.getD,hl,hk,← hx]
 ·have:=h j (by omega)
  simpa [List.getD,List.getElem?_set_ne (show k ≠ j by omega)] using this
theorem set_high {us zs:List Int} {m k:Nat} {x:Int} (h:∀ j,k≤j→j < m→us.getD j 0=zs.getD j 0):∀ j,k + 1≤j→j < m→(us.set k x).getD j 0=zs.getD j 0:=fun j hj hm=>by
 have:=h j (by omega) hm
 simpa [List.getD,List.getElem?_set_ne (show k ≠ j by omega)] using this
set_option maxHeartbeats 2000000 in
theorem multiply_any (p:Int) (m:Nat) (vm:Value) (mod:List Int) (x y:Int) (w:World) (hvm:Sl w vm mod) (hp:2≤p) (hp2:p≤256) (hm:1≤m) (hm2:m≤8) (hq:p ^ m≤256)
  (hml:1 < m→mod.length=m) (hmd:Digs p mod) (hx0:0≤x) (hx1:x < 256) (hy0:0≤y) (hy1:y < 256) :
  Calls Tryz.prog 90 #[.agg #[.int .i64 p,.int .i64 m,vm],.int .i64 x,.int .i64 y] w fun e w'=>e=.returned (.int .i64 (mulS p m mod x y))∧Kept w w':=by
 obtain ⟨am,cm,rfl,hcm,hcm2,hcell⟩:=hvm
 go_enter Tryz.func90,Tryz.ntmps90
 go_wp2_with (fail)
 go_region_held3 (fun w'=>w'.cell? ⟨w.heap.size,0,none⟩=some (.int .i64 p)∧w'.cell? ⟨w.heap.size,1,none⟩=some (.int .i64 m)) (first | (simp [go_sem];done) | (simp [*];done))
  (first | (go_at_call 150;with_reducible refine (digitsOf_any x p m _ (by omega) (by omega) (by omega) (by omega) (by omega)).mono ?_;rintro e w1 ⟨rfl,hown,hk⟩;have bx:=((boxF_new w p m (.slice am mod.length cm) 24).drew).kept hk;have b0:=bx.h0;have b1:=bx.h1) | (go_at_call 150;with_reducible refine (digitsOf_any y p m _ (by omega) (by omega) (by omega) (by omega) (by omega)).mono ?_;rintro e w2 ⟨rfl,hown2,hk2⟩;have bx2:=bx.kept hk2;have c0:=bx2.h0;have c1:=bx2.h1))
 clear b0 b1 c0 c1
 have d0:=bx2.h0
 have d1:=bx2.h1
 go_wp2_with (at_make;refine wpList_make_ints rfl _ _ rfl m _ _ rfl rfl rfl rfl (by omega) ?_;intro w3 ho hk3;have e0:=(bx2.kept hk3).h0;have e1:=(bx2.kept hk3).h1)
 have hA:Own w2 (w.heap.size + 1) (.slice (some ⟨w.heap.size + 1,0,none⟩) m m) (digL p x m):=by simpa using hown.kept hk2
 have hk0:Kept w w1:=by
  have:=hk
  exact (((kept_alloc w _).tr (kept_drew _)).tr this)
 have z1:w.heap.size + 1 < w1.heap.size:=by have:=(show Own w1 (w.heap.size + 1) (.slice (some ⟨w.heap.size + 1,0,none⟩) m m) (digL p x m) by simpa using hown).lt;omega
 have z2:w1.heap.size < w2.heap.size:=hown2.lt.2
 have z3:w2.heap.size < w3.heap.size:=ho.lt.2
 have hmc:mod ≠ []→∃ b off,am=some ⟨b,off,none⟩∧b < w2.heap.size∧∀ i,i < mod.length→w2.cell? ⟨b,off + i,none⟩=some (.int .i64 (mod.getD i 0)):=fun h=>by
  obtain ⟨b,off,e,hb,hc⟩:=hcell h
  exact ⟨b,off,e,by have:=hk0.size;omega,fun i hi=>((hk0.tr hk2).cell' hb).trans (hc i hi)⟩
 have hkw:=hk0.tr hk2
 clear hcell hown hk hk0 d0 d1 e0 e1 bx
 obtain ⟨xa,hxa⟩:∃ xa,xa=digL p x m:=⟨_,rfl⟩
 obtain ⟨xb,hxb⟩:∃ xb,xb=digL p y m:=⟨_,rfl⟩
 rw [← hxa] at hA
 rw [← hxb] at hown2
 have lA:Hid (xa.length=m):=hid (by rw [hxa,length_digL])
 have lB:Hid (xb.length=m):=hid (by rw [hxb,length_digL])
 have dA:Digs p xa:=by rw [hxa];exact digs_digL (by omega) m
 have dB:Digs p xb:=by rw [hxb];exact digs_digL (by omega) m
 have HS:Hid (mulS p m mod x y=valL p (hornM p m mod xa xb m)):=hid (by rw [hxa,hxb];rfl)
 clear hxa hxb
 go_loopw [10] (fun vi wr=>∃ n:Nat,n≤m∧vi=.int .i64 ((m:Int) - 1 - n)∧Own wr w2.heap.size (.slice (some ⟨w2.heap.size,0,none⟩) m m) (hornM p m mod xa xb n)∧Below w2.heap.size w2 wr) (fun vi _=>(intOf vi + 1).toNat)
 case atStart=>exact ⟨0,by omega,by simp,ho,hk3⟩
 case round =>
  obtain ⟨n,hn,rfl,hown,hbel⟩:=hrel
  clear ho hk3
  obtain ⟨ys,hys⟩:∃ ys,ys=hornM p m mod xa xb n:=⟨_,rfl⟩
  rw [← hys] at hown
  have dY:Digs p ys:=by rw [hys];exact digs_hornM (by omega) _ _ _ _ _
  have lY:Hid (ys.length=m):=hid (by rw [hys,length_hornM])
  have HY:=hid hys
  clear hys
  have f0:=(bx2.below hbel bx2.lt).h0
  have f1:=(bx2.below hbel bx2.lt).h1
  have f2:=(bx2.below hbel bx2.lt).h2
  by_cases hlt:n < m
  ·have htop:=hown.cell (i:=m - 1) (by rw [lY.out];omega)
   obtain ⟨tp,htp⟩:∃ t,t=ys.getD (m - 1) 0:=⟨_,rfl⟩
   rw [← htp] at htop
   have dT:0≤tp∧tp < p:=by rw [htp];exact digs_at (by omega) dY _
   have HT:=hid htp
   clear htp
   obtain ⟨dT1,dT2⟩:=dT
   have i0:(1:Int)≤(m:Int):=by omega
   have i1:(0:Int)≤(m:Int) - 1:=by omega
   have i2:(m:Int) - 1≤(m:Int):=by omega
   go_wp2_with (fail)
   have hw1:IntKind.i64.wrap ((m:Int) - 1)=(m:Int) - 1:=IntWalk.i64_in _ (by omega)
   go_region_law (refine step_shift rfl (.tmp 43) (.tmp 48) rfl w2.heap.size m _ _ _ _ _ _ rfl rfl (by clear hw1;omega) (by clear hw1;omega) (by clear hw1;intro hm1;rw [if_neg (by omega)]) (fun _=>rfl) ys lY.out hm hm2 w2.heap.size w2 hown.drew hbel.drew ?_;intro w4 ho4 hb4)
   clear hw1
   generalize (if m=1 then (some ({ block:=w2.heap.size,off:=0 }:Addr)) else some { block:=w2.heap.size,off:=1 })=adr
   have g0:=(bx2.below hb4 bx2.lt).h0
   have g1:=(bx2.below hb4 bx2.lt).h1
   have g2:=(bx2.below hb4 bx2.lt).h2
   have hfz:=ho4.frozen 0
   have hc0:=ho4.cell (i:=0) (by have:=lY.out;simp;omega)
   have ho5:=ho4.set 0 0
   have hb5:=Below.setCell hb4 (p:=⟨w2.heap.size,0,none⟩) (Nat.le_refl _) (.int .i64 0)
   clear hown hbel htop f0 f1 f2
   go_wp2_with (fail)
   obtain ⟨zs,hzs⟩:∃ zs,zs=(ys.take 1 ++ ys.take (m - 1)).set 0 0:=⟨_,rfl⟩
   rw [← hzs] at ho5
   have lZ:Hid (zs.length=m):=hid (by rw [hzs,length_shift lY.out hm])
   have HZ:Hid (∀ j,j < m→zs.getD j 0=if j=0 then 0 else ys.getD (j - 1) 0):=hid fun j hj=>by rw [hzs,shift_at lY.out hj]
   have dZ:Hid (∀ j,j < m→0≤zs.getD j 0∧zs.getD j 0 < p):=hid fun j hj=>by
    rw [HZ.out j hj]
    split
    ·omega
    ·exact digs_at (by omega) dY _
   clear hzs hfz hc0 ho4 hb4 g0 g1 g2
   obtain ⟨bi,hbi⟩:∃ b,b=xb.getD (m - 1 - n) 0:=⟨_,rfl⟩
   have dBi:0≤bi∧bi < p:=by rw [hbi];exact digs_at (by omega) dB _
   have cB:=hown2.cell (i:=m - 1 - n) (by rw [lB.out];omega)
   rw [← hbi] at cB
   have HBI:=hid hbi
   clear hbi
   have HN:Hid (hornM p m mod xa xb (n + 1)=stepM p m mod xa bi ys):=hid (by rw [hornM,← HBI.out,← HY.out])
   generalize w4.setCell { block:=w2.heap.size,off:=0 } (Value.int IntKind.i64 0)=w5 at *
   go_loopw [54] (fun vk wr=>∃ (k:Nat) (us:List Int),k≤m∧vk=.int .i64 k∧Hid (us.length=m)∧Hid (∀ j,j < k→us.getD j 0=(stepM p m mod xa bi ys).getD j 0)∧Hid (∀ j,k≤j→j < m→us.getD j 0=zs.getD j 0) ∧
    Own wr w2.heap.size (.slice (some ⟨w2.heap.size,0,none⟩) m m) us∧Below w2.heap.size w2 wr) (fun vk _=>m - (intOf vk).toNat)
   case atStart=>exact ⟨0,zs,by omega,rfl,lZ,hid (fun j hj=>by omega),hid (fun j _ _=>rfl),ho5,hb5⟩
   case round =>
    obtain ⟨k,us,hk,rfl,lU,hU1,hU2,hown,hbel⟩:=hrel
    clear ho5 hb5
    by_cases hkm:k < m
    ·have f0:=(bx2.below hbel bx2.lt).h0
     have f1:=(bx2.below hbel bx2.lt).h1
     have f2:=(bx2.below hbel bx2.lt).h2
     have cA:=(Below.cell hbel (p:=⟨w.heap.size + 1,k,none⟩) (by simp;omega)).trans (hA.cell (i:=k) (by rw [lA.out];omega))
     have cB':=(Below.cell hbel (p:=⟨w1.heap.size,m - 1 - n,none⟩) z2).trans cB
     have cO:=hown.cell (i:=k) (by rw [lU.out];omega)
     have fO:=hown.frozen k
     obtain ⟨av,hav⟩:∃ b,b=xa.getD k 0:=⟨_,rfl⟩
     rw [← hav] at cA
     have dAv:0≤av∧av < p:=by rw [hav];exact digs_at (by omega) dA _
     obtain ⟨zv,hzv⟩:∃ b,b=us.getD k 0:=⟨_,rfl⟩
     rw [← hzv] at cO
     have dZv:0≤zv∧zv < p:=by rw [hzv,hU2.out k (Nat.le_refl _) hkm];exact dZ.out k hkm
     have HAV:=hid hav
     have HZV:=hid hzv
     clear hav hzv
     have j1:(0:Int)≤(k:Int):=by omega
     have j2:(k:Int) < (m:Int):=by omega
     have j3:(0:Int)≤(m:Int) - 1 - n:=by omega
     have j4:(m:Int) - 1 - n < (m:Int):=by omega
     have key:∀ lo:Int,0≤lo∧lo < p→lo=(if 1 < m then mod.getD k 0 else 0)→Hid ((stepM p m mod xa bi ys).getD k 0=(zv + (p - tp) * lo + bi * av) % p):=fun lo _ h=>hid (by
      rw [stepM_at hkm,← h,← HT.out,← HAV.out,HZV.out,hU2.out k (Nat.le_refl _) hkm,HZ.out k hkm])
     by_cases h1m:1 < m
     ·obtain ⟨bm,om,rfl,hbm,hcm'⟩:=hmc (by intro e;have:=hml h1m;rw [e] at this;simp at this;omega)
      have cM:=(Below.cell hbel (p:=⟨bm,om + k,none⟩) hbm).trans (hcm' k (by rw [hml h1m];exact hkm))
      obtain ⟨lo,hlo⟩:∃ b,b=mod.getD k 0:=⟨_,rfl⟩
      rw [← hlo] at cM
      have dLo:0≤lo∧lo < p:=by rw [hlo];exact digs_at (by omega) hmd _
      have HK:=key lo dLo (by rw [if_pos h1m];exact hlo)
      clear hlo key hcm'
      have hlm:(k:Int) < (mod.length:Int):=by rw [hml h1m];exact j2
      obtain ⟨s1,s2,s3,s4⟩:=step_bd hp hp2 ⟨dT1,dT2⟩ dLo dBi dAv
      go_wp2_with (fail)
      have w1':IntKind.i64.wrap (p - tp)=p - tp:=IntWalk.i64_in _ (by omega)
      have w2':IntKind.i64.wrap ((p - tp) * lo)=(p - tp) * lo:=IntWalk.i64_in _ (by clear w1';omega)
      have w3':IntKind.i64.wrap (zv + (p - tp) * lo)=zv + (p - tp) * lo:=IntWalk.i64_in _ (by clear w1' w2';omega)
      have w4':IntKind.i64.wrap (bi * av)=bi * av:=IntWalk.i64_in _ (by clear w1' w2' w3';omega)
      have w5':IntKind.i64.wrap (zv + (p - tp) * lo + bi * av)=zv + (p - tp) * lo + bi * av:=IntWalk.i64_in _ (by clear w1' w2' w3' w4';omega)
      go_region
      clear w1' w2' w3' w4' w5'
      have hset:=hown.drew.set k ((zv + (p - tp) * lo + bi * av) % p)
      have hbs:=Below.setCell hbel.drew (p:=⟨w2.heap.size,k,none⟩) (Nat.le_refl _) (.int .i64 ((zv + (p - tp) * lo + bi * av) % p))
      clear hown hbel
      go_wp2_with (fail)
      go_roundw
      case rel=>exact ⟨k + 1,us.set k ((zv + (p - tp) * lo + bi * av) % p),by omega,by go_num,hid (by simp [lU.out]),hid (set_low lU.out hkm hU1.out HK.out),hid (set_high hU2.out),hset,hbs⟩
      case measure=>simp [intOf];omega
     ·obtain rfl:k=0:=by omega
      have HK:=key 0 (by omega) (by rw [if_neg h1m])
      rw [Int.mul_zero,Int.add_zero] at HK
      clear key
      obtain ⟨s1,s2,s3,s4⟩:=step_bd hp hp2 ⟨dT1,dT2⟩ (l:=0) (by omega) dBi dAv
      go_wp2_with (fail)
      have w1':IntKind.i64.wrap (p - tp)=p - tp:=IntWalk.i64_in _ (by omega)
      have w4':IntKind.i64.wrap (bi * av)=bi * av:=IntWalk.i64_in _ (by clear w1';omega)
      have w5':IntKind.i64.wrap (zv + bi * av)=zv + bi * av:=IntWalk.i64_in _ (by clear w1' w4';omega)
      go_region
      clear w1' w4' w5'
      have hset:=hown.drew.set 0 ((zv + bi * av) % p)
      have hbs:=Below.setCell hbel.drew (p:=⟨w2.heap.size,0,none⟩) (Nat.le_refl _) (.int .i64 ((zv + bi * av) % p))
      clear hown hbel
      go_wp2_with (fail)
      go_roundw
      case rel=>exact ⟨0 + 1,us.set 0 ((zv + bi * av) % p),by omega,by go_num,hid (by simp [lU.out]),hid (set_low lU.out hkm hU1.out HK.out),hid (set_high hU2.out),hset,hbs⟩
      case measure=>simp [intOf];omega
    ·have eU:Hid (us=stepM p m mod xa bi ys):=hid (List.ext_getElem (by rw [length_stepM,lU.out]) (fun j h1 h2=>by
      have:=hU1.out j (by rw [lU.out] at h1;omega)
      simpa only [List.getD,List.getElem?_eq_getElem h1,List.getElem?_eq_getElem h2,Option.getD_some] using this))
     go_wp2_with (fail)
     go_roundw
     case rel=>exact ⟨n + 1,by omega,val_int (by omega),by rw [HN.out,← eU.out];exact hown,hbel⟩
     case measure=>simp [intOf];omega
  ·have hnm:n=m:=by omega
   have hfin:Hid (valL p ys=mulS p m mod x y):=hid (by rw [HS.out,HY.out,hnm])
   clear hnm
   go_wp2_with (go_at_call 151;refine (valueOf_any _ ys p _ (Own.sl (by assumption)) (by omega) hp2 dY (by rw [lY.out];exact hq) (by rw [lY.out];exact hm2)).mono ?_;rintro e w6 ⟨rfl,n6,rfl⟩)
   go_ret
   exact ⟨ret_int hfin.out,(hkw.tr hbel).drewN n6⟩
end Go.Proofs.YtoilbeadokallaaGreatDoor
