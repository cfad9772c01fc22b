/- The walk of Scale. Conditions: the field lies in memory with its tables. -/
import Derived.Test.YtoilbeadokallaaGreatDoorK03
import Derived.Test.YtoilbeadokallaaGreatDoorK07
namespace Go.Proofs.YtoilbeadokallaaGreatDoor
section
open Go.RowKit Cw
theorem jL (b:Nat) (G:GFd) (a:Int) (v:Value) (l:List Int) (w:World) (hg:dW w b G) (ht:aK G) (hv:Sl w v l) (hl:l.length<=1000000):
  Calls Tryz.prog 179 #[.pointer (some ⟨b,0,none⟩),.int .i64 a,v] w fun e w'=>e=.returned (.slice (some ⟨w.heap.size,0,none⟩) l.length l.length)/\Own w' w.heap.size (.slice (some ⟨w.heap.size,0,none⟩) l.length l.length) (l.map (bF G a))/\ay w w':=by
 obtain⟨av,cap,rfl,hcap,⟨hcm,_⟩,hc⟩:=hv;go_enter Tryz.func179,Tryz.ntmps179;go_wp2_with(at_make;refine aJ rfl _ _ rfl l.length _ _ rfl rfl rfl rfl (by omega) ?_;intro w1 ho hk)
 go_loopw [15] (fun vi wr=>∃ (k:Nat) (ys:List Int),k<=l.length/\vi=.int .i64 k/\Hid (ys.length=l.length)/\Hid (∀ j,j<k->ys.getD j 0=bF G a (l.getD j 0))/\
   Own wr w.heap.size (.slice (some ⟨w.heap.size,0,none⟩) l.length l.length) ys/\Below w.heap.size w wr) (fun vi _=>l.length- (intOf vi).toNat)
 case atStart=>exact⟨0,_,by omega,rfl,hid (by simp),hid (fun j hj=>by omega),ho,hk⟩
 case round=>
  obtain⟨k,ys,hk',rfl,hlen,hys,hown,hbel⟩:=hrel;clear ho hk;by_cases hlt:k<l.length
  ·obtain⟨bl,off,rfl,hb,hcell⟩:=hc (by intro e;rw[e] at hlt;simp at hlt);have hck:=(Below.cell hbel (p:=⟨bl,off+k,none⟩) hb).trans (hcell k hlt);obtain⟨z,hz⟩:∃ z,z=l.getD k 0:=⟨_,rfl⟩
   rw[<-hz] at hck;have HZ:=hid hz;clear hz hcell;have hgw:=hg.kept hbel;have hcz:=hown.cell (i:=k) (by rw[hlen.out];exact hlt);have hfz:=hown.frozen k;go_wp2_with(go_at_call 94;refine(mul_any b G a z _ hgw ht).mono ?_;rintro e w' ⟨rfl,m1,rfl⟩)
   have hset:=(hown.drewN m1).set k (bF G a z);have hbs:=Below.setCell (below_drewN hbel m1) (p:=⟨w.heap.size,k,none⟩) (zy _) (.int .i64 (bF G a z));go_roundw;case rel=>exact⟨k+1,ys.set k (bF G a z),by omega,by go_num,hid (by simp[hlen.out]),hid (fun j hj=>by
    by_cases e:j=k
    ·subst e;simp[List.getD,hlen.out,hlt,HZ.out]
    ·have:=hys.out j (by omega);simpa[List.getD,zS (show k≠j by omega)] using this),hset,hbs⟩
   case measure=>simp[intOf];omega
  ·have e:Hid (l.map (bF G a)=ys):=hid (zM (by rw[yx,hlen.out]) (fun j h1 h2=>by
    have:=hys.out j (by rw[hlen.out] at h2;omega);simp only[yx] at h1;simp only[List.getD,zq h2,zq h1,zU] at this;rw[this];simp))
   go_wp2_with(fail)
   go_ret;exact⟨rfl,by rw[e.out];exact hown,hbel⟩
end
end Go.Proofs.YtoilbeadokallaaGreatDoor
