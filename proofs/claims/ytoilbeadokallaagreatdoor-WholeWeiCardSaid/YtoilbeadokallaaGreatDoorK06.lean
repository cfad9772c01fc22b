/- The walks of the field's small functions: order, isPrime, digitsOf, valueOf. Conditions: the ranges that each theorem names. -/
import Derived.Test.YtoilbeadokallaaGreatDoorK01
import Derived.Test.YtoilbeadokallaaGreatDoorK02
namespace Go.Proofs.YtoilbeadokallaaGreatDoor
open Go.RowKit Cw
theorem order_any (p m:Int) (w:World) :
  Calls Tryz.prog 46 #[.int .i64 p,.int .i64 m] w fun e w'=>e=.returned (.int .i64 (ordS p m))∧∃ n,w'=w.drewN n:=by
 by_cases h1:p < 2
 ·have e:=hid (ordS_no (p:=p) (m:=m) (by omega))
  go_enter Tryz.func46,Tryz.ntmps46
  go_wp2
  go_ret
  exact ⟨ret_int e.out.symm,0,rfl⟩
 by_cases h2:256 < p
 ·have e:=hid (ordS_no (p:=p) (m:=m) (by omega))
  go_enter Tryz.func46,Tryz.ntmps46
  go_wp2
  go_ret
  exact ⟨ret_int e.out.symm,0,rfl⟩
 by_cases h3:m < 1
 ·have e:=hid (ordS_no (p:=p) (m:=m) (by omega))
  go_enter Tryz.func46,Tryz.ntmps46
  go_wp2
  go_ret
  exact ⟨ret_int e.out.symm,0,rfl⟩
 by_cases h4:8 < m
 ·have e:=hid (ordS_no (p:=p) (m:=m) (by omega))
  go_enter Tryz.func46,Tryz.ntmps46
  go_wp2
  go_ret
  exact ⟨ret_int e.out.symm,0,rfl⟩
 go_enter Tryz.func46,Tryz.ntmps46
 go_wp2
 go_loop [5,21] (fun q i=>∃ (k:Nat) (Q:Int),(k:Int)≤m∧i=.int .i64 k∧q=.int .i64 Q∧Hid (Q=p ^ k)∧1≤Q∧Q≤256) (fun _ i=>(m - intOf i).toNat)
 case atStart=>exact ⟨0,1,by omega,rfl,rfl,hid (by simp),by omega,by omega⟩
 case round =>
  obtain ⟨k,Q,hk,rfl,rfl,hQ,b1,b2⟩:=hrel
  have c1:Q * p≤256 * 256:=Int.le_trans (Int.mul_le_mul_of_nonneg_right b2 (by omega)) (Int.mul_le_mul_of_nonneg_left (by omega) (by omega))
  have c2:0≤Q * p:=Int.mul_nonneg (by omega) (by omega)
  have c3:Q * 1≤Q * p:=Int.mul_le_mul_of_nonneg_left (by omega) (by omega)
  by_cases hlt:(k:Int) < m
  ·by_cases hbig:256 < Q * p
   ·have e:Hid (ordS p m=0):=hid (ordS_no fun g=>by
     have h5:=pow_le (p:=p) (by omega) (show k + 1≤m.toNat by omega)
     rw [Int.pow_succ,← hQ.out] at h5
     omega)
    go_wp2
    go_ret
    exact ⟨ret_int e.out.symm,0,rfl⟩
   ·go_wp2
    go_round
    case rel=>exact ⟨k + 1,Q * p,by omega,by go_num,rfl,hid (by rw [Int.pow_succ,← hQ.out]),by omega,by omega⟩
    case measure=>simp [intOf];omega
  ·have hkm:m.toNat=k:=by omega
   have e:Hid (ordS p m=Q):=hid (by rw [ordS_yes (by omega) (by omega) (by omega) (by omega) (by rw [hkm,← hQ.out];exact b2),hkm,hQ.out])
   clear hkm
   go_wp2
   go_ret
   exact ⟨ret_int e.out.symm,0,rfl⟩
theorem isPrime_yes (n:Int) (w:World) (h:Prm n) (h2:n≤256) :
  Calls Tryz.prog 88 #[.int .i64 n] w fun e w'=>e=.returned (.bool true)∧∃ m,w'=w.drewN m:=by
 have H:=hid h
 have hn:2≤n:=h.1
 clear h
 go_enter Tryz.func88,Tryz.ntmps88
 go_wp2
 go_loop [3] (fun i=>∃ d:Int,2≤d∧d≤17∧d≤n∧i=.int .i64 d) (fun i=>(17 - intOf i).toNat)
 case atStart=>exact ⟨2,by omega,by omega,by omega,rfl⟩
 case round =>
  obtain ⟨d,h3,h4,h5,rfl⟩:=hrel
  have h6:=sq_bd (by omega) h4
  obtain ⟨h61,h62⟩:=h6
  by_cases hle:d * d≤n
  ·have h7:=sq_le (by omega) (show d * d≤256 by omega)
   have h8:2 * d≤d * d:=Int.mul_le_mul_of_nonneg_right h3 (by omega)
   have h9:d < n:=by omega
   have h10:(n % d == 0)=false:=by simpa using H.out.2 d h3 h9
   have h11:=Int.emod_nonneg n (show d ≠ 0 by omega)
   have h12:=Int.emod_lt_of_pos n (show 0 < d by omega)
   go_wp2
   go_round
   case rel=>exact ⟨d + 1,by omega,by omega,by omega,rfl⟩
   case measure=>simp [intOf];omega
  ·go_wp2
   go_ret
   exact ⟨by simp,0,rfl⟩
theorem isPrime_no (n:Int) (w:World) (h:¬ Prm n) (h2:n≤256) :
  Calls Tryz.prog 88 #[.int .i64 n] w fun e w'=>e=.returned (.bool false)∧∃ m,w'=w.drewN m:=by
 have H:=hid h
 clear h
 go_enter Tryz.func88,Tryz.ntmps88
 go_wp2
 go_loop [3] (fun i=>∃ d:Int,2≤d∧d≤17∧i=.int .i64 d∧Hid (∀ c:Int,2≤c→c < d→n % c ≠ 0)) (fun i=>(17 - intOf i).toNat)
 case atStart=>exact ⟨2,by omega,by omega,rfl,hid (fun c h3 h4=>by omega)⟩
 case round =>
  obtain ⟨d,h3,h4,rfl,hc⟩:=hrel
  have h6:=sq_bd (by omega) h4
  obtain ⟨h61,h62⟩:=h6
  by_cases hle:d * d≤n
  ·have h7:=sq_le (by omega) (show d * d≤256 by omega)
   have h8:2 * d≤d * d:=Int.mul_le_mul_of_nonneg_right h3 (by omega)
   have h11:=Int.emod_nonneg n (show d ≠ 0 by omega)
   have h12:=Int.emod_lt_of_pos n (show 0 < d by omega)
   by_cases hz:n % d=0
   ·have h10:(n % d == 0)=true:=by simpa using hz
    clear hz
    go_wp2
    go_ret
    exact ⟨rfl,0,rfl⟩
   ·have h10:(n % d == 0)=false:=by simpa using hz
    have hc':Hid (∀ c:Int,2≤c→c < d + 1→n % c ≠ 0):=hid fun c g1 g2=>by
     by_cases e:c=d
     ·rw [e];exact hz
     ·exact hc.out c g1 (by omega)
    clear hz
    go_wp2
    go_round
    case rel=>exact ⟨d + 1,by omega,by omega,rfl,hc'⟩
    case measure=>simp [intOf];omega
  ·have hn:n < 2:=by
    rcases Int.lt_or_le n 2 with g | g
    ·exact g
    ·exact absurd (prm_of g h3 (by omega) hc.out) H.out
   go_wp2
   go_ret
   exact ⟨by simp;omega,0,rfl⟩
theorem digitsOf_any (x p:Int) (m:Nat) (w:World) (hx:0≤x) (hx2:x≤9223372036854775807) (hp:1≤p) (hp2:p≤256) (hm:m≤8) :
  Calls Tryz.prog 150 #[.int .i64 x,.int .i64 p,.int .i64 m] w fun e w'=>e=.returned (.slice (some ⟨w.heap.size,0,none⟩) m m)∧Own w' w.heap.size (.slice (some ⟨w.heap.size,0,none⟩) m m) (digL p x m)∧Kept w w':=by
 go_enter Tryz.func150,Tryz.ntmps150
 go_wp2_with (at_make;refine wpList_make_ints rfl _ _ rfl m _ _ rfl rfl rfl rfl (by omega) ?_;intro w1 ho hk)
 go_loopw [0,13] (fun vx i wr=>∃ (k:Nat) (y:Int) (ys:List Int),k≤m∧i=.int .i64 k∧vx=.int .i64 y∧0≤y∧y≤x∧Hid (y=x / p ^ k)∧Hid (ys.length=m)∧Hid (∀ j,j < k→ys.getD j 0=dgt p x j) ∧
   Own wr w.heap.size (.slice (some ⟨w.heap.size,0,none⟩) m m) ys∧Kept w wr) (fun _ i _=>m - (intOf i).toNat)
 case atStart=>exact ⟨0,x,_,by omega,rfl,rfl,hx,Int.le_refl _,hid (by simp),hid (by simp),hid (fun j hj=>by omega),ho,hk⟩
 case round =>
  obtain ⟨k,y,ys,hkm,rfl,rfl,hy,hyx,hyk,hl,hd,hown,hkept⟩:=hrel
  clear ho hk
  by_cases hlt:k < m
  ·have hcell:=hown.cell (i:=k) (by rw [hl.out];exact hlt)
   have hfz:=hown.frozen k
   have hown':=hown.set k (y % p)
   have g1:=Int.emod_nonneg y (show p ≠ 0 by omega)
   have g2:=Int.emod_lt_of_pos y (show 0 < p by omega)
   have g3:=Int.ediv_nonneg hy (show 0≤p by omega)
   have g4:=Int.ediv_le_self p hy
   have hkept':=Below.setCell hkept (p:=⟨w.heap.size,k,none⟩) (Nat.le_refl _) (.int .i64 (y % p))
   clear hown hkept
   go_wp2
   go_roundw
   case rel=>exact ⟨k + 1,y / p,ys.set k (y % p),by omega,by go_num,rfl,g3,by omega,hid (by rw [hyk.out,div_pow_succ (by omega)]),hid (by simp [hl.out]),hid (fun j hj=>by
    by_cases e:j=k
    ·subst e;simp [List.getD,hl.out,hlt,dgt,hyk.out]
    ·have:=hd.out j (by omega)
     simpa [List.getD,List.getElem?_set_ne (show k ≠ j by omega)] using this),hown',hkept'⟩
   case measure=>simp [intOf];omega
  ·have e:Hid (digL p x m=ys):=hid (List.ext_getElem (by rw [length_digL,hl.out]) (fun j h1 h2=>by
    have:=hd.out j (by rw [hl.out] at h2;omega)
    simp only [List.getD,List.getElem?_eq_getElem h2,Option.getD_some] at this
    rw [this]
    simp [digL]))
   go_wp2
   go_ret
   exact ⟨rfl,by rw [e.out];exact hown,hkept⟩
theorem valueOf_any (v:Value) (l:List Int) (p:Int) (w:World) (hv:Sl w v l) (hp:1≤p) (hp2:p≤256) (hd:Digs p l) (hq:p ^ l.length≤256) (hl:l.length≤8) :
  Calls Tryz.prog 151 #[v,.int .i64 p] w fun e w'=>e=.returned (.int .i64 (valL p l))∧∃ m,w'=w.drewN m:=by
 obtain ⟨a,cap,rfl,hcap,_,hc⟩:=hv
 go_enter Tryz.func151,Tryz.ntmps151
 go_wp2
 go_loop [5,6] (fun vx i=>∃ (k:Nat) (y:Int),k≤l.length∧i=.int .i64 ((k:Int) - 1)∧vx=.int .i64 y∧Hid (y=valF p l k)∧0≤y∧y < 256) (fun _ i=>(intOf i + 1).toNat)
 case atStart=>exact ⟨l.length,0,Nat.le_refl _,rfl,rfl,hid (valF_end _ _).symm,by omega,by omega⟩
 case round =>
  obtain ⟨k,y,hk,rfl,rfl,hy,y0,y1⟩:=hrel
  by_cases hlt:0 < k
  ·obtain ⟨j,rfl⟩:∃ j,k=j + 1:=⟨k - 1,by omega⟩
   obtain ⟨b,off,rfl,hb,hcell⟩:=hc (by intro e;rw [e] at hk;simp at hk)
   have hcj:=hcell j (by omega)
   have hmem:l.getD j 0 ∈ l:=by simp only [List.getD,List.getElem?_eq_getElem (show j < l.length by omega),Option.getD_some];exact List.getElem_mem _
   obtain ⟨d0,d1⟩:=hd _ hmem
   have hst:=hid (valF_step p l (k:=j) (by omega))
   have hbd:=valF_bd hp hd j
   rw [hst.out,← hy.out] at hbd
   obtain ⟨b1,b2⟩:=hbd
   have b3:0≤y * p:=Int.mul_nonneg y0 (by omega)
   have e:((j + 1:Nat):Int) - 1=(j:Int):=by omega
   rw [e]
   clear e hcell hmem
   generalize l.getD j 0=d at *
   go_wp2
   go_round
   case rel=>exact ⟨j,y * p + d,by omega,rfl,rfl,hid (by rw [hst.out,← hy.out]),by omega,by omega⟩
   case measure=>simp [intOf]
  ·obtain rfl:k=0:=by omega
   go_wp2
   go_ret
   exact ⟨ret_int (by rw [hy.out,valF_zero]),0,rfl⟩
end Go.Proofs.YtoilbeadokallaaGreatDoor
