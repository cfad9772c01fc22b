/- Lemmas on the way to the row, merged: walks of functions and plain algebra. Conditions: each lemma's own, stated with it. -/
import Derived.Test.YtoilbeadokallaaGreatDoorK02
import Derived.Test.YtoilbeadokallaaGreatDoorK09
namespace Go.Proofs.YtoilbeadokallaaGreatDoor
open Go.RowKit Cw
theorem is_yes (b:Nat) (q x:Int) (w:World) (hq:w.cell? ⟨b,3,none⟩=some (.int .i64 q)) (h0:0≤x) (h1:x < q) :
  Calls Tryz.prog 105 #[.pointer (some ⟨b,0,none⟩),.int .i64 x] w fun e w'=>e=.returned (.bool true)∧∃ m,w'=w.drewN m:=by
 go_enter Tryz.func105,Tryz.ntmps105
 go_wp2
 go_ret
 exact ⟨by simp [*],0,rfl⟩
theorem is_no (b:Nat) (q x:Int) (w:World) (hq:w.cell? ⟨b,3,none⟩=some (.int .i64 q)) (h:x < 0 ∨ q≤x) :
  Calls Tryz.prog 105 #[.pointer (some ⟨b,0,none⟩),.int .i64 x] w fun e w'=>e=.returned (.bool false)∧∃ m,w'=w.drewN m:=by
 by_cases h0:x < 0
 ·clear h
  go_enter Tryz.func105,Tryz.ntmps105
  go_wp2
  go_ret
  exact ⟨by simp [*],0,rfl⟩
 ·have h1:0≤x:=by omega
  have h2:q≤x:=by omega
  clear h0 h
  go_enter Tryz.func105,Tryz.ntmps105
  go_wp2
  go_ret
  exact ⟨by simp;omega,0,rfl⟩
theorem in_any (b:Nat) (q x:Int) (w:World) (hq:w.cell? ⟨b,3,none⟩=some (.int .i64 q)) :
  Calls Tryz.prog 58 #[.pointer (some ⟨b,0,none⟩),.int .i64 x] w fun e w'=>e=.returned (.int .i64 (inn q x))∧∃ m,w'=w.drewN m:=by
 by_cases h:0≤x∧x < q
 ·rw [inn_yes h]
  obtain ⟨h0,h1⟩:=h
  go_enter Tryz.func58,Tryz.ntmps58
  go_wp2_with (go_at_call 105;refine (is_yes _ _ _ _ hq h0 h1).mono ?_;rintro e w' ⟨rfl,m,rfl⟩)
  go_ret
  exact ⟨rfl,m,rfl⟩
 ·rw [inn_no h]
  have h':x < 0 ∨ q≤x:=by omega
  clear h
  go_enter Tryz.func58,Tryz.ntmps58
  go_wp2_with (go_at_call 105;refine (is_no _ _ _ _ hq h').mono ?_;rintro e w' ⟨rfl,m,rfl⟩)
  go_ret
  exact ⟨rfl,m,rfl⟩
set_option maxHeartbeats 800000 in
theorem add_odd (b:Nat) (P q x0 y0 X Y:Int) (m:Nat) (w:World) (hP:w.cell? ⟨b,0,none⟩=some (.int .i64 P)) (hq:w.cell? ⟨b,3,none⟩=some (.int .i64 q)) (hP2:2 < P) (hP3:P≤256)
  (hX:inn q x0=X) (hY:inn q y0=Y) (hX1:X≤255) (hY1:Y≤255) (hst:AddInv P m X Y X Y 0 1) :
  Calls Tryz.prog 115 #[.pointer (some ⟨b,0,none⟩),.int .i64 x0,.int .i64 y0] w fun e w'=>e=.returned (.int .i64 (addD P m X Y))∧∃ m,w'=w.drewN m:=by
 have HX:=hid hX
 have HY:=hid hY
 clear hX hY
 have hPe:(P == 2)=false:=by simp;omega
 go_enter Tryz.func115,Tryz.ntmps115
 go_wp2_with (fail)
 refine (in_any _ _ _ _ hq).mono ?_
 rintro e w' ⟨rfl,m1,rfl⟩
 rw [HX.out]
 go_wp2_with (fail)
 refine (in_any _ _ _ _ (by simpa using hq)).mono ?_
 rintro e w' ⟨rfl,m2,rfl⟩
 rw [HY.out]
 go_wp2_with (fail)
 go_loopw [1,2,7,8] (fun vx vy vs vp wr=>∃ x y s p:Int,vx=.int .i64 x∧vy=.int .i64 y∧vs=.int .i64 s∧vp=.int .i64 p∧AddInv P m X Y x y s p∧∃ n,wr=w.drewN n)
  (fun vx vy _ _ _=>(intOf vx).toNat + (intOf vy).toNat)
 case atStart=>exact ⟨_,_,_,_,rfl,rfl,rfl,rfl,hst,_,rfl⟩
 case round =>
  obtain ⟨x,y,s,p,rfl,rfl,rfl,rfl,hinv,n,rfl⟩:=hrel
  obtain ⟨b1,b2,b3,b4,b5,b6⟩:=addInv_bd hinv
  by_cases hxy:0 < x ∨ 0 < y
  ·obtain ⟨c1,c2,c3,c4,c5,hinv'⟩:=addInv_step (by omega) hP3 hX1 hY1 hinv hxy
   have HI:=hid hinv'
   clear hinv hst hinv'
   have d1:=Int.ediv_nonneg b1 (show 0≤P by omega)
   have d2:=Int.ediv_nonneg b2 (show 0≤P by omega)
   have q1:=Int.emod_nonneg x (show P ≠ 0 by omega)
   have q2:=Int.emod_lt_of_pos x (show 0 < P by omega)
   have q3:=Int.emod_nonneg y (show P ≠ 0 by omega)
   have q4:=Int.emod_lt_of_pos y (show 0 < P by omega)
   have r1:=Int.emod_nonneg (x + y) (show P ≠ 0 by omega)
   have r2:=Int.emod_lt_of_pos (x + y) (show 0 < P by omega)
   have hlt:x / P≤x:=Int.ediv_le_self P b1
   have hlt2:y / P≤y:=Int.ediv_le_self P b2
   have HM:Hid ((x / P).toNat + (y / P).toNat < x.toNat + y.toNat):=hid (by
    rcases hxy with g | g
    ·have:x / P < x:=div_lt_self (by omega) g
     omega
    ·have:y / P < y:=div_lt_self (by omega) g
     omega)
   have hxy':0 < x ∨ (¬ 0 < x∧0 < y):=by omega
   clear hxy
   rcases hxy' with hx | ⟨hx,hy⟩
   all_goals
    go_wp2_with (fail)
    go_quiet (fail)
    go_wp2_with (fail)
    go_roundw
    case rel=>exact ⟨_,_,_,_,rfl,rfl,rfl,rfl,HI.out,_,rfl⟩
    case measure=>exact HM.out
  ·have hx0:x=0:=by omega
   have hy0:y=0:=by omega
   subst hx0 hy0
   have hfin:=hid (addInv_end hinv)
   go_wp2_with (fail)
   go_ret
   exact ⟨ret_int hfin.out,_,rfl⟩
set_option maxHeartbeats 400000 in
theorem add_two (b:Nat) (q x0 y0 X Y:Int) (w:World) (hP:w.cell? ⟨b,0,none⟩=some (.int .i64 2)) (hq:w.cell? ⟨b,3,none⟩=some (.int .i64 q))
  (hX:inn q x0=X) (hY:inn q y0=Y) (_hX0:0≤X) (_hY0:0≤Y) (_hX1:X≤255) (_hY1:Y≤255) :
  Calls Tryz.prog 115 #[.pointer (some ⟨b,0,none⟩),.int .i64 x0,.int .i64 y0] w fun e w'=>e=.returned (.int .i64 (bits BinOp.xor .i64 X Y))∧∃ m,w'=w.drewN m:=by
 have HX:=hid hX
 have HY:=hid hY
 clear hX hY
 go_enter Tryz.func115,Tryz.ntmps115
 go_wp2_with (fail)
 refine (in_any _ _ _ _ hq).mono ?_
 rintro e w' ⟨rfl,m1,rfl⟩
 rw [HX.out]
 go_wp2_with (fail)
 refine (in_any _ _ _ _ (by simpa using hq)).mono ?_
 rintro e w' ⟨rfl,m2,rfl⟩
 rw [HY.out]
 go_wp2_with (fail)
 go_ret
 exact ⟨rfl,_,rfl⟩
theorem bits_xor_i64 (a b:Nat) (ha:a < 256) (hb:b < 256):bits .xor .i64 (a:Int) (b:Int)=((a ^^^ b:Nat):Int):=by
 have hx:a ^^^ b < 2 ^ 8:=Nat.xor_lt_two_pow (by omega) (by omega)
 have h1:(BitVec.ofInt 64 (a:Int)).toNat=a:=by
  rw [BitVec.ofInt_natCast,BitVec.toNat_ofNat];exact Nat.mod_eq_of_lt (by omega)
 have h2:(BitVec.ofInt 64 (b:Int)).toNat=b:=by
  rw [BitVec.ofInt_natCast,BitVec.toNat_ofNat];exact Nat.mod_eq_of_lt (by omega)
 show IntKind.i64.wrap ((BitVec.ofInt 64 (a:Int) ^^^ BitVec.ofInt 64 (b:Int)).toNat:Int)=_
 rw [BitVec.toNat_xor,h1,h2,IntKind.wrap_i64]
 omega
theorem xor_addD:∀ (k a b:Nat),a < 2 ^ k→b < 2 ^ k→((a ^^^ b:Nat):Int)=addD 2 k a b
 | 0,a,b,ha,hb=>by
  have h1:a=0:=by simp at ha;exact ha
  have h2:b=0:=by simp at hb;exact hb
  subst h1 h2
  rfl
 | k + 1,a,b,ha,hb=>by
  rw [Nat.pow_succ] at ha hb
  have ih:=xor_addD k (a / 2) (b / 2) (by omega) (by omega)
  have e1:(a ^^^ b) / 2=a / 2 ^^^ b / 2:=Nat.xor_div_two
  have e2:(a ^^^ b) % 2=(a + b) % 2:=by
   have:=Nat.xor_mod_two_pow (a:=a) (b:=b) (n:=1)
   rw [Nat.pow_one] at this
   rcases Nat.mod_two_eq_zero_or_one a with h1 | h1 <;> rcases Nat.mod_two_eq_zero_or_one b with h2 | h2 <;> rw [h1,h2] at this <;> rw [this,Nat.add_mod,h1,h2] <;> rfl
  rw [← e1] at ih
  rw [addD]
  have e3:((a:Int) / 2)=((a / 2:Nat):Int):=by omega
  have e4:((b:Int) / 2)=((b / 2:Nat):Int):=by omega
  rw [e3,e4,← ih]
  omega
theorem add_any (b:Nat) (G:GFd) (x y:Int) (w:World) (hg:IsGF w b G) (ht:Tabs G) :
  Calls Tryz.prog 115 #[.pointer (some ⟨b,0,none⟩),.int .i64 x,.int .i64 y] w fun e w'=>e=.returned (.int .i64 (addG G x y))∧∃ m,w'=w.drewN m:=by
 obtain ⟨q1,q2,q3,q4,q5,q6,q7⟩:=ht.qb
 have hX:=inn_bd (q:=G.q) (by omega) x
 have hY:=inn_bd (q:=G.q) (by omega) y
 by_cases h2:G.P=2
 ·have hP:=hg.hP
  rw [h2] at hP
  refine (add_two b G.q x y _ _ w hP hg.hq rfl rfl hX.1 hY.1 (by omega) (by omega)).mono fun e w' ⟨he,hw⟩=>⟨?_,hw⟩
  rw [he]
  refine ret_int ?_
  obtain ⟨X,hXn⟩:=Int.eq_ofNat_of_zero_le hX.1
  obtain ⟨Y,hYn⟩:=Int.eq_ofNat_of_zero_le hY.1
  have e:((2 ^ G.M.toNat:Nat):Int)=(2:Int) ^ G.M.toNat:=by simp
  have eq:G.q=((2 ^ G.M.toNat:Nat):Int):=by rw [e,q7,h2]
  have hx2:=hX.2
  have hy2:=hY.2
  rw [hXn,eq] at hx2
  rw [hYn,eq] at hy2
  unfold addG
  rw [hXn,hYn,bits_xor_i64 X Y (by omega) (by omega),h2]
  exact xor_addD _ X Y (Int.ofNat_lt.1 hx2) (Int.ofNat_lt.1 hy2)
 ·exact add_odd b G.P G.q x y _ _ G.M.toNat w hg.hP hg.hq (by omega) q4 rfl rfl (by omega) (by omega) (addInv_start (by rw [← q7];exact hX) (by rw [← q7];exact hY))
end Go.Proofs.YtoilbeadokallaaGreatDoor
namespace Go.Proofs.YtoilbeadokallaaGreatDoor
open Go.RowKit Cw
set_option maxHeartbeats 800000 in
theorem neg_any (b:Nat) (G:GFd) (x0:Int) (w:World) (hg:IsGF w b G) (ht:Tabs G) :
  Calls Tryz.prog 71 #[.pointer (some ⟨b,0,none⟩),.int .i64 x0] w fun e w'=>e=.returned (.int .i64 (negG G x0))∧∃ m,w'=w.drewN m:=by
 obtain ⟨q1,q2,q3,q4,q5,q6,q7⟩:=ht.qb
 have hX:=inn_bd (q:=G.q) (by omega) x0
 have hst:=negInv_start (P:=G.P) (m:=G.M.toNat) (X:=inn G.q x0) (by rw [← q7];exact hX)
 have hP:=hg.hP
 have hq:=hg.hq
 have hfin:Hid (negG G x0=negD G.P G.M.toNat (inn G.q x0)):=hid rfl
 have Q7:=hid q7
 clear q7 hg ht
 obtain ⟨X,hXe⟩:∃ X,X=inn G.q x0:=⟨_,rfl⟩
 rw [← hXe] at hX hst hfin
 have HX:=hid hXe.symm
 clear hXe
 generalize G.P=P at *
 generalize G.M.toNat=m at *
 generalize G.q=q at *
 go_enter Tryz.func71,Tryz.ntmps71
 go_wp2_with (fail)
 refine (in_any _ _ _ _ hq).mono ?_
 rintro e w' ⟨rfl,m1,rfl⟩
 rw [HX.out]
 go_wp2_with (fail)
 go_loopw [1,5,6] (fun vx vs vp wr=>∃ x s p:Int,vx=.int .i64 x∧vs=.int .i64 s∧vp=.int .i64 p∧NegInv P m X x s p∧∃ n,wr=w.drewN n)
  (fun vx _ _ _=>(intOf vx).toNat)
 case atStart=>exact ⟨_,_,_,rfl,rfl,rfl,hst,_,rfl⟩
 case round =>
  obtain ⟨x,s,p,rfl,rfl,rfl,hinv,n,rfl⟩:=hrel
  obtain ⟨b1,b3,b4,b5⟩:=negInv_bd hinv
  by_cases hx:0 < x
  ·obtain ⟨c1,c2,c3,c4,c5,hinv'⟩:=negInv_step q3 q4 (by omega) hinv hx
   have HI:=hid hinv'
   clear hinv hst hinv'
   have d1:=Int.ediv_nonneg b1 (show 0≤P by omega)
   have k1:=Int.emod_nonneg x (show P ≠ 0 by omega)
   have k2:=Int.emod_lt_of_pos x (show 0 < P by omega)
   have r1:=Int.emod_nonneg (-(x % P)) (show P ≠ 0 by omega)
   have r2:=Int.emod_lt_of_pos (-(x % P)) (show 0 < P by omega)
   have hlt:x / P≤x:=Int.ediv_le_self P b1
   have HM:Hid ((x / P).toNat < x.toNat):=hid (by have:x / P < x:=div_lt_self q3 hx;omega)
   go_wp2_with (fail)
   have w1':IntKind.i64.wrap (P - x % P)=P - x % P:=IntWalk.i64_in _ (by omega)
   have w2':IntKind.i64.wrap (-(x % P) % P * p)=-(x % P) % P * p:=IntWalk.i64_in _ (by clear w1';omega)
   have w3':IntKind.i64.wrap (s + -(x % P) % P * p)=s + -(x % P) % P * p:=IntWalk.i64_in _ (by clear w1' w2';omega)
   go_quiet (fail)
   clear w1' w2' w3'
   go_wp2_with (fail)
   go_roundw
   case rel=>exact ⟨_,_,_,rfl,rfl,rfl,HI.out,_,rfl⟩
   case measure=>exact HM.out
  ·have hx0:x=0:=by omega
   subst hx0
   have hend:=hid (negInv_end hinv)
   go_wp2_with (fail)
   go_ret
   exact ⟨ret_int (by rw [hfin.out,hend.out]),_,rfl⟩
theorem sub_any (b:Nat) (G:GFd) (x y:Int) (w:World) (hg:IsGF w b G) (ht:Tabs G) :
  Calls Tryz.prog 189 #[.pointer (some ⟨b,0,none⟩),.int .i64 x,.int .i64 y] w fun e w'=>e=.returned (.int .i64 (addG G x (negG G y)))∧∃ m,w'=w.drewN m:=by
 go_enter Tryz.func189,Tryz.ntmps189
 go_wp2_with (first
  | (go_at_call 71;refine (neg_any b G y _ hg ht).mono ?_;rintro e w' ⟨rfl,m1,rfl⟩)
  | (go_at_call 115;refine (add_any b G x (negG G y) _ (hg.drewN _) ht).mono ?_;rintro e w' ⟨rfl,m2,rfl⟩))
 go_ret
 exact ⟨rfl,_,rfl⟩
set_option maxHeartbeats 800000 in
theorem mul_any (b:Nat) (G:GFd) (x0 y0:Int) (w:World) (hg:IsGF w b G) (ht:Tabs G) :
  Calls Tryz.prog 94 #[.pointer (some ⟨b,0,none⟩),.int .i64 x0,.int .i64 y0] w fun e w'=>e=.returned (.int .i64 (mulG G x0 y0))∧∃ m,w'=w.drewN m:=by
 obtain ⟨q1,q2,q3,q4,q5,q6,q7⟩:=ht.qb
 have hX:=inn_bd (q:=G.q) (by omega) x0
 have hY:=inn_bd (q:=G.q) (by omega) y0
 have hq:=hg.hq
 have hfin:Hid (mulG G x0 y0=if inn G.q x0=0 ∨ inn G.q y0=0 then 0 else expG G (logG G (inn G.q x0) + logG G (inn G.q y0))):=hid rfl
 have Q7:=hid q7
 clear q7
 obtain ⟨X,hXe⟩:∃ X,X=inn G.q x0:=⟨_,rfl⟩
 obtain ⟨Y,hYe⟩:∃ Y,Y=inn G.q y0:=⟨_,rfl⟩
 rw [← hXe] at hX hfin
 rw [← hYe] at hY hfin
 have HX:=hid hXe.symm
 have HY:=hid hYe.symm
 clear hXe hYe
 by_cases hx:X=0
 ·subst hx
  go_enter Tryz.func94,Tryz.ntmps94
  go_wp2_with (fail)
  refine (in_any _ _ _ _ hq).mono ?_
  rintro e w' ⟨rfl,m1,rfl⟩
  rw [HX.out]
  go_wp2_with (fail)
  refine (in_any _ _ _ _ (by simpa using hq)).mono ?_
  rintro e w' ⟨rfl,m2,rfl⟩
  rw [HY.out]
  go_wp2_with (fail)
  go_ret
  exact ⟨ret_int (by rw [hfin.out];simp),_,rfl⟩
 by_cases hy:Y=0
 ·subst hy
  have tx:(X == 0)=false:=by simpa using hx
  clear hx
  go_enter Tryz.func94,Tryz.ntmps94
  go_wp2_with (fail)
  refine (in_any _ _ _ _ hq).mono ?_
  rintro e w' ⟨rfl,m1,rfl⟩
  rw [HX.out]
  go_wp2_with (fail)
  refine (in_any _ _ _ _ (by simpa using hq)).mono ?_
  rintro e w' ⟨rfl,m2,rfl⟩
  rw [HY.out]
  go_wp2_with (fail)
  go_ret
  exact ⟨ret_int (by rw [hfin.out];simp),_,rfl⟩
 have tx:(X == 0)=false:=by simpa using hx
 have ty:(Y == 0)=false:=by simpa using hy
 obtain ⟨be,ce,e1,e2,e3⟩:=hg.hexp
 obtain ⟨bl,cl,l1,l2,l3⟩:=hg.hlog
 have lx:=ht.log_bd (z:=X) (by omega) hX.2
 have ly:=ht.log_bd (z:=Y) (by omega) hY.2
 have hR:Hid (mulG G x0 y0=expG G (logG G X + logG G Y)):=hid (by rw [hfin.out,if_neg (by rintro (h | h);exact hx h;exact hy h)])
 have hll:=ht.llen
 have hel:=ht.elen
 have cX:=l3 X.toNat (by omega)
 have cY:=l3 Y.toNat (by omega)
 clear l3
 obtain ⟨Xn,rfl⟩:=Int.eq_ofNat_of_zero_le hX.1
 obtain ⟨Yn,rfl⟩:=Int.eq_ofNat_of_zero_le hY.1
 have hlx:Hid (logG G Xn=G.log.getD (Xn:Int).toNat 0):=hid rfl
 have hly:Hid (logG G Yn=G.log.getD (Yn:Int).toNat 0):=hid rfl
 obtain ⟨u,hu⟩:∃ u,u=G.log.getD (Xn:Int).toNat 0:=⟨_,rfl⟩
 obtain ⟨v,hv⟩:∃ u,u=G.log.getD (Yn:Int).toNat 0:=⟨_,rfl⟩
 rw [← hu] at cX lx hlx
 rw [← hv] at cY ly hly
 clear hu hv hx hy hfin
 have m0:=Int.emod_nonneg (u + v) (show G.q - 1 ≠ 0 by omega)
 have m1:=Int.emod_lt_of_pos (u + v) (show 0 < G.q - 1 by omega)
 have cE:=e3 ((u + v) % (G.q - 1)).toNat (by omega)
 have hF:Hid (mulG G x0 y0=G.exp.getD ((u + v) % (G.q - 1)).toNat 0):=hid (by rw [hR.out,hlx.out,hly.out];rfl)
 have HLL:=hid hll
 have HEL:=hid hel
 have hxl:(Xn:Int) < (G.log.length:Int):=by omega
 have hyl:(Yn:Int) < (G.log.length:Int):=by omega
 have hml:(u + v) % (G.q - 1) < (G.exp.length:Int):=by omega
 have nx:(Xn:Int).toNat=Xn:=by omega
 have ny:(Yn:Int).toNat=Yn:=by omega
 rw [nx] at cX
 rw [ny] at cY
 clear nx ny hll hel e3 hR hlx hly
 obtain ⟨z,hz⟩:∃ t,t=G.exp.getD ((u + v) % (G.q - 1)).toNat 0:=⟨_,rfl⟩
 rw [← hz] at cE hF
 clear hz
 go_enter Tryz.func94,Tryz.ntmps94
 go_wp2_with (fail)
 refine (in_any _ _ _ _ hq).mono ?_
 rintro e w' ⟨rfl,m1,rfl⟩
 rw [HX.out]
 go_wp2_with (fail)
 refine (in_any _ _ _ _ (by simpa using hq)).mono ?_
 rintro e w' ⟨rfl,m2,rfl⟩
 rw [HY.out]
 go_wp2_with (fail)
 have w1':IntKind.i64.wrap (u + v)=u + v:=IntWalk.i64_in _ (by omega)
 have w2':IntKind.i64.wrap (G.q - 1)=G.q - 1:=IntWalk.i64_in _ (by clear w1';omega)
 go_quiet (fail)
 clear w1' w2'
 go_wp2_with (fail)
 go_ret
 exact ⟨ret_int hF.out.symm,_,World.drewN_drewN _ _ _⟩
end Go.Proofs.YtoilbeadokallaaGreatDoor
