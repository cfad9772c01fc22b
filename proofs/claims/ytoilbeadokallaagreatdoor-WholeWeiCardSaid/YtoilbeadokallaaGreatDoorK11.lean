/- Lemmas on the way to the row, merged: walks of functions and plain algebra. Conditions: each lemma's own, stated with it. -/
import Derived.Test.YtoilbeadokallaaGreatDoorK02
import Derived.Test.YtoilbeadokallaaGreatDoorK10
import Derived.WalkLawsBesides
namespace Go.Proofs.YtoilbeadokallaaGreatDoor
open Go.RowKit Cw
theorem order'_any (b:Nat) (G:GFd) (w:World) (hg:IsGF w b G) :
  Calls Tryz.prog 95 #[.pointer (some ⟨b,0,none⟩)] w fun e w'=>e=.returned (.int .i64 G.q)∧∃ m,w'=w.drewN m:=by
 have hq:=hg.hq
 go_enter Tryz.func95,Tryz.ntmps95
 go_wp2
 go_ret
 exact ⟨rfl,0,rfl⟩
set_option maxHeartbeats 800000 in
theorem inv_ok (b:Nat) (G:GFd) (x0:Int) (w:World) (hg:IsGF w b G) (ht:Tabs G) (hx:inn G.q x0 ≠ 0) :
  Calls Tryz.prog 178 #[.pointer (some ⟨b,0,none⟩),.int .i64 x0] w fun e w'=>e=.returned (.tuple #[.int .i64 (invG G x0),.int .i64 0])∧∃ m,w'=w.drewN m:=by
 obtain ⟨q1,q2,q3,q4,q5,q6,q7⟩:=ht.qb
 have hX:=inn_bd (q:=G.q) (by omega) x0
 have hq:=hg.hq
 have hR:Hid (invG G x0=expG G (G.q - 1 - logG G (inn G.q x0))):=hid (by unfold invG;rw [if_neg hx])
 have Q7:=hid q7
 clear q7
 obtain ⟨X,hXe⟩:∃ X,X=inn G.q x0:=⟨_,rfl⟩
 rw [← hXe] at hX hR hx
 have HX:=hid hXe.symm
 clear hXe
 have tx:(X == 0)=false:=by simpa using hx
 obtain ⟨be,ce,e1,e2,e3⟩:=hg.hexp
 obtain ⟨bl,cl,l1,l2,l3⟩:=hg.hlog
 have lx:=ht.log_bd (z:=X) (by omega) hX.2
 have hll:=ht.llen
 have hel:=ht.elen
 have cX:=l3 X.toNat (by omega)
 clear l3
 obtain ⟨Xn,rfl⟩:=Int.eq_ofNat_of_zero_le hX.1
 have hlx:Hid (logG G Xn=G.log.getD (Xn:Int).toNat 0):=hid rfl
 obtain ⟨u,hu⟩:∃ u,u=G.log.getD (Xn:Int).toNat 0:=⟨_,rfl⟩
 rw [← hu] at cX lx hlx
 clear hu hx
 have m0:=Int.emod_nonneg (G.q - 1 - u) (show G.q - 1 ≠ 0 by omega)
 have m1:=Int.emod_lt_of_pos (G.q - 1 - u) (show 0 < G.q - 1 by omega)
 have cE:=e3 ((G.q - 1 - u) % (G.q - 1)).toNat (by omega)
 have hF:Hid (invG G x0=G.exp.getD ((G.q - 1 - u) % (G.q - 1)).toNat 0):=hid (by rw [hR.out,hlx.out];rfl)
 have HLL:=hid hll
 have HEL:=hid hel
 have hxl:(Xn:Int) < (G.log.length:Int):=by omega
 have hml:(G.q - 1 - u) % (G.q - 1) < (G.exp.length:Int):=by omega
 have nx:(Xn:Int).toNat=Xn:=by omega
 rw [nx] at cX
 clear nx hll hel e3 hR hlx
 obtain ⟨z,hz⟩:∃ t,t=G.exp.getD ((G.q - 1 - u) % (G.q - 1)).toNat 0:=⟨_,rfl⟩
 rw [← hz] at cE hF
 clear hz
 generalize G.q=q at *
 have hmm:Hid ((q - 1 - u) % (q - 1)=-u % (q - 1)):=hid (by simp)
 rw [hmm.out] at m0 m1 cE hml
 go_enter Tryz.func178,Tryz.ntmps178
 go_wp2_with (go_at_call 58;refine (in_any _ _ _ _ hq).mono ?_;rintro e w' ⟨rfl,m1,rfl⟩;rw [HX.out])
 have w1':IntKind.i64.wrap (q - 1)=q - 1:=IntWalk.i64_in _ (by omega)
 have w2':IntKind.i64.wrap (q - 1 - u)=q - 1 - u:=IntWalk.i64_in _ (by clear w1';omega)
 go_quiet (fail)
 clear w1' w2'
 go_wp2_with (fail)
 go_ret2
 exact ⟨by rw [hF.out,hmm.out];rfl,_,World.drewN_drewN _ _ _⟩
theorem div_ok (b:Nat) (G:GFd) (x0 y0:Int) (w:World) (hg:IsGF w b G) (ht:Tabs G) (hy:inn G.q y0 ≠ 0) :
  Calls Tryz.prog 188 #[.pointer (some ⟨b,0,none⟩),.int .i64 x0,.int .i64 y0] w fun e w'=>e=.returned (.tuple #[.int .i64 (mulG G x0 (invG G y0)),.int .i64 0])∧∃ m,w'=w.drewN m:=by
 have HY:=hid hy
 clear hy
 go_enter Tryz.func188,Tryz.ntmps188
 go_wp2_with (first
  | (go_at_call 178;refine (inv_ok b G y0 _ hg ht HY.out).mono ?_;rintro e w' ⟨rfl,m1,rfl⟩)
  | (go_at_call 94;refine (mul_any b G x0 (invG G y0) _ (hg.drewN _) ht).mono ?_;rintro e w' ⟨rfl,m2,rfl⟩))
 go_ret2
 exact ⟨rfl,_,rfl⟩
end Go.Proofs.YtoilbeadokallaaGreatDoor
namespace Go.Proofs.YtoilbeadokallaaGreatDoor
open Go.RowKit Cw
theorem pow_zero (b:Nat) (G:GFd) (x0:Int) (w:World) (hg:IsGF w b G) :
  Calls Tryz.prog 24 #[.pointer (some ⟨b,0,none⟩),.int .i64 x0,.int .i64 0] w fun e w'=>e=.returned (.tuple #[.int .i64 1,.int .i64 0])∧∃ m,w'=w.drewN m:=by
 have hq:=hg.hq
 go_enter Tryz.func24,Tryz.ntmps24
 go_wp2_with (go_at_call 58;refine (in_any _ _ _ _ hq).mono ?_;rintro e w' ⟨rfl,m1,rfl⟩)
 go_ret2
 exact ⟨rfl,_,rfl⟩
end Go.Proofs.YtoilbeadokallaaGreatDoor
