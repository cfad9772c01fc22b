/- Lemmas on the way to the row. Conditions: each lemma's own, stated with it. -/
import Derived.Test.YtoilbeadokallaaGreatDoorK07
import Derived.Test.YtoilbeadokallaaGreatDoorK08
set_option maxHeartbeats 1000000
namespace Go.Proofs.YtoilbeadokallaaGreatDoor
section
open Go.RowKit Cw Cw.Gj
theorem clone_any (v:Value) (l:List Int) (w:World) (hv:Sl w v l) (hl:l.length<=1000000):
  Calls Tryz.prog 128 #[v] w fun e w'=>∃ v',e=.returned v'/\Own w' w.heap.size v' l/\ay w w':=by
 obtain⟨a,cap,rfl,hcap,⟨hcm,hc0⟩,hc⟩:=hv;cases a with
 |none=>
  have h0:l=[]:=by
   rcases l with _|⟨x,l⟩
   ·rfl
   ·obtain⟨b,off,e,_⟩:=hc (by simp);cases e
  subst h0;obtain rfl:cap=0:=hc0 rfl;clear hc hc0 hcap hcm;simp only[xP];go_enter Tryz.func128,Tryz.ntmps128;go_wp2_with(fail)
  go_ret;exact⟨_,rfl,bZ _ _,ay.rfl' _⟩
 |some ad=>
  have hcc:∀ ad',some ad=some ad'->∀ j,j<l.length->(w.alloc (.cells #[] 3)).cell? (ad'.add j)=some (.int .i64 (l.getD j 0)):=fun ad' e j hj=>by
   cases e
   obtain⟨b,off,e,hb,hcell⟩:=hc (by intro e;rw[e] at hj;simp at hj);cases e
   rw[Addr.add_lit,(ah w (.cells #[] 3)).cell' hb];exact hcell j hj
  have HC:=hid hcc;have hk0:=ah w (.cells #[] 3);have hsz:w.heap.size<=(w.alloc (.cells #[] 3)).heap.size:=by simp
  have hoe:=iW (w:=w) (zy _);clear hc hcc hc0;go_enter Tryz.func128,Tryz.ntmps128;go_wp2_with(at_builtin;refine gW rfl _ _ rfl w.heap.size w.heap.size rfl hoe (some ad) l.length cap l rfl rfl (fun e=>by cases e) (fun _ e=>by cases e) HC.out hl ?_;intro gm cm w' hg _ hB hown)
  have hkk:ay w w':=dI hk0 hg hsz (zy _);go_wp2_with(fail)
  go_ret;exact⟨_,rfl,hown,hkk⟩
theorem CP (v:Value) (l:List Int) (x:Int) (w:World) (hv:Sl w v l) (r:Int) (hr:(∃ k:Nat,r=k/\k<l.length/\l.getD k 0=x/\∀ j,j<k->l.getD j 0≠x)∨(r=-1/\∀ j,j<l.length->l.getD j 0≠x)):
  Calls Tryz.prog 52 #[v,.int .i64 x] w fun e w'=>e=.returned (.int .i64 r)/\w'=w:=by
 obtain⟨a,cap,rfl,hcap,⟨hcm,_⟩,hc⟩:=hv;unfold maxLen at hcm;have HR:=hid hr;clear hr;go_enter Tryz.func52,Tryz.ntmps52;go_wp2_with(fail)
 go_loop [8] (fun vi=>∃ k:Nat,k<=l.length/\vi=.int .i64 k/\Hid (∀ j,j<k->l.getD j 0≠x)) (fun vi=>l.length- (intOf vi).toNat)
 case atStart=>exact⟨0,by omega,rfl,hid (fun j hj=>by omega)⟩
 case round=>
  obtain⟨k,hk,rfl,hd⟩:=hrel;by_cases hlt:k<l.length
  ·obtain⟨bl,off,rfl,hb,hcell⟩:=hc (by intro e;rw[e] at hlt;simp at hlt);have hck:=hcell k hlt;obtain⟨z,hz⟩:∃ z,z=l.getD k 0:=⟨_,rfl⟩
   rw[<-hz] at hck;have HZ:=hid hz;clear hcell hz hc;by_cases e:x=z
   ·subst e;have HRR:Hid (r=k):=hid (by
     rcases HR.out with⟨j,e1,e2,e3,e4⟩|⟨_,e2⟩
     ·rcases xX j k with g|g|g
      ·exact absurd e3 (hd.out j g)
      ·rw[e1,g]
      ·exact absurd HZ.out.symm (e4 k g)
     ·exact absurd HZ.out.symm (e2 k hlt))
    have tz:(x==x)=true:=by simp
    go_wp2_with(fail)
    go_ret;exact⟨aW HRR.out.symm,rfl⟩
   ·have tz:(x==z)=false:=by simpa using e
    have HE:=hid e;clear e;go_wp2_with(fail)
    go_round;case rel=>exact⟨k+1,by omega,by go_num,hid (fun j hj=>by
     by_cases g:j=k
     ·rw[g,<-HZ.out];exact fun q=>HE.out q.symm
     ·exact hd.out j (by omega))⟩
    case measure=>simp[intOf];omega
  ·have HRR:Hid (r=-1):=hid (by
    rcases HR.out with⟨j,e1,e2,e3,e4⟩|⟨e1,_⟩
    ·exact absurd e3 (hd.out j (by omega))
    ·exact e1)
   go_wp2_with(fail)
   go_ret;exact⟨aW HRR.out.symm,rfl⟩
theorem Nv (l:List Int) (x:Int):∃ r:Int,((∃ k:Nat,r=k/\k<l.length/\l.getD k 0=x/\∀ j,j<k->l.getD j 0≠x)∨(r=-1/\∀ j,j<l.length->l.getD j 0≠x))/\(x∈l->0<=r)/\(x ∉ l->r=-1):=by
 induction l with
 |nil=>exact⟨-1,.inr ⟨rfl,fun j hj=>by simp at hj⟩,fun h=>(by simp at h),fun _=>rfl⟩
 |cons y l ih=>
  obtain⟨r,h1,h2,h3⟩:=ih;by_cases e:y=x
  ·exact⟨0,.inl ⟨0,rfl,by simp,by simpa using e,fun j hj=>by omega⟩,fun _=>by omega,fun h=>absurd (by simp[e]) h⟩
  ·by_cases hm:x∈l
   ·have hr:=h2 hm;rcases h1 with⟨k,k1,k2,k3,k4⟩|⟨k1,_⟩
    ·refine⟨((k+1:Nat):Int),.inl ⟨k+1,rfl,by simpa using k2,by simpa using k3,fun j hj=>?_⟩,fun _=>by omega,fun h=>absurd (yJ _ hm) h⟩;cases j with
     |zero=>simpa using e
     |succ j=>simpa using k4 j (by omega)
    ·omega
   ·have hr:=h3 hm;refine⟨-1,.inr ⟨rfl,fun j hj=>?_⟩,fun h=>?_,fun _=>rfl⟩
    ·cases j with
     |zero=>simpa using e
     |succ j=>
      rcases h1 with⟨k,k1,k2,k3,k4⟩|⟨_,k1⟩
      ·omega
      ·simpa using k1 j (by simpa using hj)
    ·rcases yO.1 h with h|h
     ·exact absurd h.symm e
     ·exact absurd h hm
theorem oq (v:Value) (l:List Int) (x:Int) (w:World) (hv:Sl w v l) (hx:x∈l):
  Calls Tryz.prog 37 #[v,.int .i64 x] w fun e w'=>e=.returned (.bool true)/\w=w':=by
 obtain⟨r,h1,h2,_⟩:=Nv l x;have h3:=h2 hx;have H1:=hid h1;clear h1 h2;go_enter Tryz.func37,Tryz.ntmps37;go_wp2_with(go_at_call 52;refine(CP _ l x _ hv r H1.out).mono ?_;rintro e w' ⟨rfl,rfl⟩)
 go_ret;exact⟨by simp,rfl⟩
theorem lV (v:Value) (l:List Int) (x:Int) (w:World) (hv:Sl w v l) (hx:x ∉ l):
  Calls Tryz.prog 37 #[v,.int .i64 x] w fun e w'=>e=.returned (.bool false)/\w=w':=by
 obtain⟨r,h1,_,h2⟩:=Nv l x;obtain rfl:=h2 hx;have H1:=hid h1;clear h1 h2;go_enter Tryz.func37,Tryz.ntmps37;go_wp2_with(go_at_call 52;refine(CP _ l x _ hv (-1) H1.out).mono ?_;rintro e w' ⟨rfl,rfl⟩)
 go_ret;exact⟨rfl,rfl⟩
theorem ahB (b:Nat) (G:GFd) (x:Int) (w:World) (hg:dW w b G) (h:0<=x/\x<G.q):
  Calls Tryz.prog 105 #[.pointer (some ⟨b,0,none⟩),.int .i64 x] w fun e w'=>e=.returned (.bool true)/\∃ m,w'=w.drewN m:=Nl b G.q x w hg.hq h.1 h.2
theorem OQ (b:Nat) (G:GFd) (v:Value) (l:List Int) (w:World) (hg:dW w b G) (hv:Sl w v l) (hl:∀ j,j<l.length->0<=l.getD j 0/\l.getD j 0<G.q):
  Calls Tryz.prog 181 #[.pointer (some ⟨b,0,none⟩),v] w fun e w'=>e=.returned (.int .i64 0)/\∃ m,w'=w.drewN m:=by
 obtain⟨a,cap,rfl,hcap,⟨hcm,_⟩,hc⟩:=hv;unfold maxLen at hcm;have HL:=hid hl;clear hl;go_enter Tryz.func181,Tryz.ntmps181;go_wp2_with(fail)
 go_loopw [9] (fun vi wr=>∃ k:Nat,k<=l.length/\vi=.int .i64 k/\∃ n,wr=w.drewN n) (fun vi _=>l.length- (intOf vi).toNat)
 case atStart=>exact⟨0,by omega,rfl,0,rfl⟩
 case round=>
  obtain⟨k,hk,rfl,n,rfl⟩:=hrel;by_cases hlt:k<l.length
  ·obtain⟨bl,off,rfl,hb,hcell⟩:=hc (by intro e;rw[e] at hlt;simp at hlt);have hck:=hcell k hlt;have hzb:=HL.out k hlt;obtain⟨z,hz⟩:∃ z,z=l.getD k 0:=⟨_,rfl⟩
   rw[<-hz] at hck hzb;clear hcell hz hc;go_wp2_with(go_at_call 105;refine(ahB b G z _ (hg.drewN _) hzb).mono ?_;rintro e w' ⟨rfl,m1,rfl⟩)
   go_roundw;case rel=>exact⟨k+1,by omega,by go_num,_,rfl⟩
   case measure=>simp[intOf];omega
  ·go_wp2_with(fail)
   go_ret;exact⟨rfl,_,rfl⟩
theorem Rd.cellAt {w:World} {b off cap n:Nat} {A:List (List Int)} (h:Rd w (.slice (some ⟨b,off,none⟩) n cap) A) {i:Nat} (hi:i<A.length):∃ u,w.cell? ⟨b,off+i,none⟩=some u/\Sl w u (Gj.row A i):=by
 obtain⟨a,c,e,_,_,h4⟩:=h;obtain⟨b',off',e2,_,hc⟩:=h4 (by intro e;rw[e] at hi;simp at hi);cases e
 cases e2
 exact hc i hi
theorem Rd.get {w:World} {v:Value} {A:List (List Int)} (h:Rd w v A):∃ a cap,v=.slice a A.length cap/\A.length<=cap/\cap<=maxLen/\(A≠ []->∃ b off,a=some ⟨b,off,none⟩/\b<w.heap.size):=by
 obtain⟨a,cap,rfl,h2,⟨h3,_⟩,h4⟩:=h;exact⟨a,cap,rfl,h2,h3,fun hA=>by obtain⟨b,off,e,hb,_⟩:=h4 hA;exact⟨b,off,e,hb⟩⟩
theorem Sl.lenOf {w:World} {v:Value} {l:List Int} (h:Sl w v l):∃ a cap,v=.slice a l.length cap/\l.length<=cap/\cap<=maxLen:=by
 obtain⟨a,cap,rfl,h2,⟨h3,_⟩,_⟩:=h;exact⟨a,cap,rfl,h2,h3⟩
theorem CQ (b:Nat) (G:GFd) (cols:Nat) (v:Value) (A:List (List Int)) (w:World) (hg:dW w b G) (hv:Rd w v A) (hw:WF G.q A cols) (hc:cols<=256) (hn:A.length<=256):
  Calls Tryz.prog 129 #[.pointer (some ⟨b,0,none⟩),.agg #[.int .i64 cols,v]] w fun e w'=>e=.returned (.int .i64 0)/\ay w w':=by
 obtain⟨a,cap,rfl,hcap,hcm,hb0⟩:=hv.get;unfold maxLen at hcm;have hk0:=ah w (.cells #[.int .i64 cols,.slice a A.length cap] 71);have hg1:=hg.kept hk0;have hv1:=hv.kept hk0;have c0:(w.alloc (.cells #[.int .i64 cols,.slice a A.length cap] 71)).cell? ⟨w.heap.size,0,none⟩=some (.int .i64 cols):=by simp
 have c1:(w.alloc (.cells #[.int .i64 cols,.slice a A.length cap] 71)).cell? ⟨w.heap.size,1,none⟩=some (.slice a A.length cap):=by simp
 have hlt:w.heap.size< (w.alloc (.cells #[.int .i64 cols,.slice a A.length cap] 71)).heap.size:=by simp
 have HW:=hid hw;clear hw;go_enter Tryz.func129,Tryz.ntmps129;go_wp2_with(fail)
 obtain⟨w1,hw1⟩:∃ x,x=w.alloc (.cells #[.int .i64 cols,.slice a A.length cap] 71):=⟨_,rfl⟩
 rw[<-hw1] at hk0 hg1 hv1 c0 c1 hlt ⊢;have HW1:=hid hw1;clear hw1;obtain⟨h,hh⟩:∃ x,x=w.heap.size:=⟨_,rfl⟩
 rw[<-hh] at c0 c1 hlt ⊢;have HH:=hid hh;clear hh hg hv
 go_loop [27,6] (fun vi _=>∃ k:Nat,k<=A.length/\vi=.int .i64 k) (fun vi _=>A.length- (intOf vi).toNat)
 case atStart=>exact⟨0,by omega,rfl⟩
 case round=>
  obtain⟨k,hk,rfl⟩:=hrel;by_cases hlt2:k<A.length
  ·obtain⟨bb,off,rfl,hbb⟩:=hb0 (by intro e;rw[e] at hlt2;simp at hlt2);obtain⟨u,u1,u2⟩:=hv1.cellAt hlt2;obtain⟨ua,uc,rfl,u3,u4⟩:=u2.lenOf;unfold maxLen at u4;have hl:=HW.out.wf k hlt2;rw[hl] at u1 u3;have tz:((cols:Int) != (cols:Int))=false:=by simp
   clear hl u2;go_wp2_with(fail)
   go_round;case rel=>exact⟨k+1,by omega,by go_num⟩
   case measure=>simp[intOf];omega
  ·go_wp2_with(fail)
   clear hk hlt2
   go_loopw [40,8,9] (fun vi _ _ wr=>∃ k:Nat,k<=A.length/\vi=.int .i64 k/\∃ n,wr=w1.drewN n) (fun vi _ _ _=>A.length- (intOf vi).toNat)
   case atStart=>exact⟨0,by omega,rfl,0,rfl⟩
   case round=>
    obtain⟨k,hk,rfl,n,rfl⟩:=hrel;by_cases hlt2:k<A.length
    ·obtain⟨bb,off,rfl,hbb⟩:=hb0 (by intro e;rw[e] at hlt2;simp at hlt2);obtain⟨u,u1,u2⟩:=hv1.cellAt hlt2;have hb2:Hid (∀ j,j< (Gj.row A k).length->0<=(Gj.row A k).getD j 0/\(Gj.row A k).getD j 0<G.q):=hid fun j hj=>HW.out.bd k j hlt2 (by rw[<-HW.out.wf k hlt2];exact hj);have u2':=u2.kept (aB w1 n);go_wp2_with(go_at_call 181;refine(OQ b G _ _ _ (hg1.drewN _) u2' hb2.out).mono ?_;rintro e w' ⟨rfl,m1,rfl⟩)
     go_roundw;case rel=>exact⟨k+1,by omega,by go_num,_,rfl⟩
     case measure=>simp[intOf];omega
    ·go_wp2_with(fail)
     go_ret;exact⟨rfl,hk0.drewN _⟩
theorem Xp (P M:Int) (vm:Value) (mod:List Int) (bm cols:Nat) (v:Value) (A:List (List Int)) (w:World) (hvm:Sl w vm mod) (hs:fD P M mod) (hbm:bm<w.heap.size)
  (m0:w.cell? ⟨bm,0,none⟩=some (.int .i64 cols)) (m1:w.cell? ⟨bm,1,none⟩=some v) (hv:Rd w v A) (hw:∀ G,aK G->G.P=P->G.M=M->G.mod=mod->WF G.q A cols) (hc:cols<=256) (hn:A.length<=256):
  Calls Tryz.prog 69 #[.agg #[.int .i64 P,.int .i64 M,vm],.slice (some ⟨bm,0,none⟩) 1 1] w fun e w'=>∃ b G,e=.returned (.tuple #[.pointer (some ⟨b,0,none⟩),.int .i64 0])/\dW w' b G/\aK G/\G.P=P/\G.M=M/\G.mod=mod/\ay w w':=by
 obtain⟨va,vc,rfl,_,_⟩:=hv.get;have hk0:=ah w (.cells #[.int .i64 P,.int .i64 M,vm] 24);have gG:=hvm.kept hk0;have HW:=hid hw;clear hw;go_enter Tryz.func69,Tryz.ntmps69;go_wp2_with(go_at_call 47;refine(fA P M vm mod _ gG hs).mono ?_;rintro e w2 ⟨b,G,rfl,hg2,ht,hP,hM,hmod,hk2⟩)
 have ku:=hk0.tr hk2;have HP:=hid hP;have HM:=hid hM;have HO:=hid hmod;have HWF:=hid (HW.out G ht hP hM hmod);clear hP hM hmod
 go_loopw [20,9,10] (fun vi _ _ wr=>∃ k:Nat,k<=1/\vi=.int .i64 k/\ay w wr/\dW wr b G) (fun vi _ _ _=>1- (intOf vi).toNat)
 case atStart=>exact⟨0,by omega,rfl,ku,hg2⟩
 case round=>
  obtain⟨k,hk,rfl,hkr,hgr⟩:=hrel;clear hk0 hk2 ku hg2 gG;by_cases e:k=0
  ·subst e;have c0:wr.cell? ⟨bm,0,none⟩=some (.int .i64 cols):=(hkr.cell' hbm).trans m0;have c1:wr.cell? ⟨bm,1,none⟩=some (.slice va A.length vc):=(hkr.cell' hbm).trans m1;have hka:=ah wr (.cells #[.int .i64 cols,.slice va A.length vc] 71);have hga:=hgr.kept hka;have hva:=hv.kept (hkr.tr hka);go_wp2_with(fail)
   refine(CQ b G cols _ A _ hga hva HWF.out hc hn).mono ?_;rintro e w3 ⟨rfl,hk3⟩;go_wp2_with(fail)
   have hk4:=hkr.tr (hka.tr hk3);have hg4:=hga.kept hk3;go_roundw;case rel=>exact⟨1,by omega,by go_num,hk4,hg4⟩
   case measure=>simp[intOf]
  ·obtain rfl:k=1:=by omega
   go_wp2_with(fail)
   go_ret2;exact⟨b,G,rfl,hgr,ht,HP.out,HM.out,HO.out,hkr⟩
theorem qW (n i:Nat):Gj.row (List.replicate n ([]:List Int)) i=[]:=by
 unfold Gj.row;by_cases g:i<n
 ·simp[List.getD,g]
 ·simp[List.getD,g]
theorem EH (v:Value) (A:List (List Int)) (w:World) (hv:Rd w v A) (hn:A.length<=256) (hl:∀ i,i<A.length->(Gj.row A i).length<=1000):
  Calls Tryz.prog 130 #[v] w fun e w'=>∃ v' rv,e=.returned v'/\v'.ownBlock≠none/\Mx w' w.heap.size v' A rv/\ay w w':=by
 obtain⟨a,cap,rfl,hcap,hcm,hb0⟩:=hv.get;unfold maxLen at hcm;have HL:=hid hl;clear hl;go_enter Tryz.func130,Tryz.ntmps130;go_wp2_with(at_make;refine jl rfl _ _ rfl A.length _ _ rfl rfl rfl rfl (by omega) ?_;intro w1 hm1 hk1)
 go_loopw [11,4,5] (fun vi _ _ wr=>∃ (k:Nat) (C:List (List Int)) (rv:Nat->Value),k<=A.length/\vi=.int .i64 k/\Hid (C.length=A.length)/\Hid (∀ i,i<A.length->Gj.row C i=if i<k then Gj.row A i else[])/\
   Mx wr w.heap.size (.slice (some ⟨w.heap.size,0,none⟩) A.length A.length) C rv/\Below w.heap.size w wr) (fun vi _ _ _=>A.length- (intOf vi).toNat)
 case atStart=>exact⟨0,_,_,by omega,rfl,hid (by simp),hid (fun i hi=>by rw[qW];simp),hm1,hk1⟩
 case round=>
  obtain⟨k,C,rv,hk,rfl,HC,HR,hmx,hbel⟩:=hrel;clear hm1 hk1;by_cases hlt:k<A.length
  ·obtain⟨bb,off,rfl,hbb⟩:=hb0 (by intro e;rw[e] at hlt;simp at hlt);obtain⟨u,u1,u2⟩:=hv.cellAt hlt;have u1r:wr.cell? ⟨bb,off+k,none⟩=some u:=(hbel.cell (p:=⟨bb,off+k,none⟩) hbb).trans u1;have u2r:=u2.kept hbel;have hlk:=HL.out k hlt;have hkC:k<C.length:=by rw[HC.out];exact hlt
   clear u1;go_wp2_with(fail)
   refine(clone_any u _ _ u2r (by omega)).mono ?_;rintro e w3 ⟨u',rfl,ho3,hk3⟩;obtain⟨ua,uc,rfl,_,_⟩:=ho3.sl.lenOf;have ahC:=hmx.kept hk3;have hcell:=ahC.cell hkC;have hfz:=ahC.frozen k;have hsz:=hbel.size;have hput:=ahC.put hkC (ho3.mono hsz) (fun x hx j hj e2=>by
    have h1:=aN ho3 hx;have h2:=aN (hmx.row j hj) e2;omega)
   have hbs:=Below.setCell (Below.trans hbel (hk3.mono hsz)) (p:=⟨w.heap.size,k,none⟩) (zy _) (.slice ua (Gj.row A k).length uc);go_wp2_with(fail)
   go_roundw;case rel=>exact⟨k+1,_,_,by omega,by go_num,hid (by rw[zI,HC.out]),hid (fun i hi=>by
    rw[oh hkC,HR.out i hi];by_cases e:i=k
    ·rw[zu e,zu (by omega),e]
    ·rw[zx e];by_cases e2:i<k
     ·rw[zu e2,zu (by omega)]
     ·rw[zx e2,zx (by omega)]),hput,hbs⟩
   case measure=>simp[intOf];omega
  ·have HE:Hid (C=A):=hid (Gj.iI HC.out fun i hi=>by rw[HR.out i (by rw[<-HC.out];exact hi),zu (by have:=HC.out;omega)]);go_wp2_with(fail)
   go_ret;exact⟨.slice (some ⟨w.heap.size,0,none⟩) A.length A.length,rv,rfl,by simp[Value.ownBlock],by rw[<-HE.out] at hmx ⊢;exact hmx,hbel⟩
end
end Go.Proofs.YtoilbeadokallaaGreatDoor
