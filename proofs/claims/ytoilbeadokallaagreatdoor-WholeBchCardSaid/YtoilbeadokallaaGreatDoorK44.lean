/- The walks of around and of New of cyclic codes. Conditions: the lists lie in memory. -/
import Derived.Test.YtoilbeadokallaaGreatDoorK06
import Derived.Test.YtoilbeadokallaaGreatDoorK15
import Derived.Test.YtoilbeadokallaaGreatDoorK20
import Derived.Test.YtoilbeadokallaaGreatDoorK40
import Derived.Test.YtoilbeadokallaaGreatDoorK42
set_option maxHeartbeats 8000000
namespace Go.Proofs.YtoilbeadokallaaGreatDoor
section
open Go.RowKit Cw Cw.Gj
def arL (G:GFd) (n:Nat):List Int:=((List.replicate (n+1) 0).set 0 (iE G 1)).set n 1
theorem adk (G:GFd) (n:Nat):(arL G n).length=n+1:=by simp[arL]
theorem agm {G:GFd} (t:aK G) {n:Nat} (hn:1<=n):t.pl (arL G n)=Pl.x n-1:=Pl.ext (PS.ext fun i=>by
 show t.e ((arL G n).getD i 0)=(Pl.x n-1:Pl (Rs t.fs.mon)).a i;have h1:(Pl.x n-1:Pl (Rs t.fs.mon)).a i=(Pl.x n:Pl (Rs t.fs.mon)).a i- (1:Pl (Rs t.fs.mon)).a i:=rfl;have h2:(1:Pl (Rs t.fs.mon)).a i=if i=0 then 1 else 0:=rfl
 rw[h1,h2,Pl.adt];unfold arL;by_cases e:i=n
 ·subst e;have e1:(((List.replicate (i+1) (0:Int)).set 0 (iE G 1)).set i 1).getD i 0=1:=by simp[List.getD]
  rw[e1,zu rfl,zx (by omega),t.iH,Cw.Rg.sub_zero]
 ·by_cases e0:i=0
  ·subst e0;have e1:(((List.replicate (n+1) (0:Int)).set 0 (iE G 1)).set n 1).getD 0 0=iE G 1:=by
    rw[List.getD,zS (by omega)];simp
   rw[e1,zx (by omega),zu rfl,t.OB,t.iH,Cw.Rg.zero_sub]
  ·have e1:(((List.replicate (n+1) (0:Int)).set 0 (iE G 1)).set n 1).getD i 0=0:=by
    rw[List.getD,zS (by omega),zS (by omega)];by_cases h:i<n+1
    ·simp[h]
    ·simp[h]
   rw[e1,zx e,zx e0,t.bC,Cw.Rg.sub_zero])
theorem Qe (b:Nat) (G:GFd) (t:aK G) (n:Nat) (w:World) (hg:dW w b G) (hn:1<=n) (hn2:n<=64):
  Calls Tryz.prog 107 #[.pointer (some ⟨b,0,none⟩),.int .i64 n] w fun e w'=>∃ v,e=.returned v/\Own w' w.heap.size v (arL G n)/\ay w w':=by
 obtain⟨N,hN⟩:∃ N,N=n+1:=⟨_,rfl⟩
 have w1:IntKind.i64.wrap ((n:Int)+1)=(N:Int):=by rw[IntWalk.i64_in _ (by omega)];omega
 have hN2:N<=65:=by omega
 have hnN:(n:Int)< (N:Int):=by omega
 have hN0:(0:Int)< (N:Int):=by omega
 have hN0':0<N:=by omega
 have aox:n<N:=by omega
 have hn0:(0:Int)<=(n:Int):=by omega
 have HGF:=hid hg;have HNN:=hid hN;obtain⟨y,hy⟩:∃ y,y=iE G 1:=⟨_,rfl⟩
 have HNE:=hid (fun(W:World) (h:ay w W)=>(show Calls Tryz.prog 71 #[.pointer (some ⟨b,0,none⟩),.int .i64 1] W fun e w'=>e=.returned (.int .i64 y)/\∃ m,w'=W.drewN m by rw[hy];exact y7 b G 1 W (HGF.out.kept h) t));have HY:=hid hy;clear hg hN hy;go_enter Tryz.func107,Tryz.ntmps107;go_wp2_with(first|(go_at_call 71;(with_reducible refine(HNE.out w1 HK1.out).mono ?_);rintro e w2 ⟨rfl,m,rfl⟩)|(at_make;refine aJ rfl _ _ rfl N _ _ rfl rfl rfl rfl (by omega) ?_;intro w1 ho1 hk1;have HO1:=hid ho1;have HK1:=hid hk1;have hc0:=ho1.cell (i:=0) (by simp;omega);have hcn:=ho1.cell (i:=n) (by simp;omega);have hf0:=ho1.frozen 0;have hfn:=ho1.frozen n;have hl1:=ho1.lt.2;clear ho1 hk1))
 have hf:=((HO1.out.drewN m).set 0 y).set n 1;have hk:=aA (i:=n) (.int .i64 1) (aA (i:=0) (.int .i64 y) (HK1.out.drewN m) (zy _)) (zy _);go_ret;refine⟨_,rfl, ?_,hk⟩;unfold arL;rw[<-HY.out,<-HNN.out];exact hf
def JH (n:Nat) (g:List Int) (k:Nat):List (List Int):=(List.range k).map (shL n g)
theorem wE (n:Nat) (g:List Int) (k:Nat):(JH n g k).length=k:=by simp[JH]
theorem VP (n:Nat) (g:List Int) (k:Nat):JH n g (k+1)=JH n g k++ [shL n g k]:=by simp[JH,xu]
theorem Hg {n:Nat} {g:List Int} {k i:Nat} (h:i<k):Gj.row (JH n g k) i=shL n g i:=by simp[Gj.row,JH,List.getD,h]
theorem VQ {n i:Nat} {g:List Int} (h:i+g.length<=n):splice ((List.replicate n (0:Int)).map (Value.int .i64)) i (g.map (Value.int .i64))=(shL n g i).map (Value.int .i64):=by
 have e:List.take i (List.replicate n (0:Int))++(g++List.drop (i+g.length) (List.replicate n 0))=shL n g i:=by
  rw[List.take_replicate,List.drop_replicate,show min i n=i by omega];refine zM (by simp[shL];omega) fun k h1 h2=>?_;have hk:k<n:=by simpa[shL] using h2
  have e2:(shL n g i)[k]=if i<=k then g.getD (k-i) 0 else 0:=by simp[shL]
  rw[e2,List.getElem_append];by_cases q:k<i
  ·simp[q,show¬i<=k by omega]
  ·rw[dif_neg (by simpa using q),List.getElem_append,zu (by omega)];simp only[uw];by_cases q2:k-i<g.length
   ·rw[dif_pos q2];simp[List.getD,q2]
   ·rw[dif_neg q2];simp[List.getD,zT (vI q2)]
 rw[<-e];simp[splice]
def EW:Value:=.agg #[.int .i64 0,.int .i64 0,.slice none 0 0,.int .i64 0,.slice none 0 0]
structure aky (G:GFd) (n:Nat) (p:List Int) (A:List (List Int)):Prop where
 t:aK G
 el:∀ x∈p,0<=x/\x<G.q
 ex:∃ g:List Int,t.pl g=Pl.gcd (t.pl p) (Pl.x n-1)/\g.length<=n+1/\WF G.q (JH n g (n+1-g.length)) n/\A=oQ (opG G) (JH n g (n+1-g.length)) n
def amS (P M:Int) (mod:List Int) (n:Nat) (p:List Int) (w:World) (e:Ending) (w':World):Prop:=
 ay w w'/\((∃ err:Int,err≠0/\e=.returned (.tuple #[EW,.int .i64 err]))∨
  ∃ G A a c fa fc,aky G n p A/\(G.P=P/\G.M=M/\G.mod=mod)/\e=.returned (.tuple #[.agg #[.int .i64 G.P,.int .i64 G.M,.slice a G.mod.length c,.int .i64 n,.slice fa A.length fc],.int .i64 0])/\Own w' w.heap.size (.slice a G.mod.length c) G.mod/\Ro w' w.heap.size (.slice fa A.length fc) A)
theorem agn {G:GFd} (t:aK G) {gl p:List Int} {n:Nat} (hn:1<=n) (hc:nK G gl) (he:t.pl gl=Pl.gcd (t.pl p) (Pl.x n-1)):1<=gl.length/\gl.length<=n+1:=by
 have h0:(Pl.x n-1:Pl (Rs t.fs.mon))≠0:=by
  refine Pl.Fv (i:=n) ?_;have h1:(Pl.x n-1:Pl (Rs t.fs.mon)).a n=(Pl.x n:Pl (Rs t.fs.mon)).a n- (1:Pl (Rs t.fs.mon)).a n:=rfl;have h2:(1:Pl (Rs t.fs.mon)).a n=if n=0 then 1 else 0:=rfl
  rw[h1,h2,Pl.adt,zu rfl,zx (by omega),Cw.Rg.sub_zero];exact Cw.Fd.dO
 have hd:=(Pl.QS (t.pl p) (Pl.x n-1)).r;rw[<-he] at hd;have h3:=Pl.QM hd h0;have h4:(Pl.x n-1:Pl (Rs t.fs.mon)).ln<=n+1:=Pl.Ij (by rw[Pl.akM];exact zy _) (by rw[Pl.ZG];omega);have h5:=t.IC hc;refine⟨Nat.pos_of_ne_zero fun e=>?_,by omega⟩;have h6:t.pl gl=0:=by rw[zO e];exact t.Ci
 rw[h6] at hd;exact h0 (Pl.zero_dvd hd)
theorem agp {G:GFd} (t:aK G) {gl:List Int} {n k:Nat} (hc:nK G gl):WF G.q (JH n gl k) n:=⟨fun i hi=>by
 rw[wE] at hi;rw[Hg hi,VO],fun i j hi hj=>by
 rw[wE] at hi;unfold en;rw[Hg hi,Mc gl i hj];have:=q2 t
 split
 ·exact t.yE hc _
 ·omega⟩
set_option maxRecDepth 100000 in
theorem adl (P M:Int) (vm:Value) (mod:List Int) (n:Nat) (v:Value) (p:List Int) (w:World) (hvm:Sl w vm mod) (hv:Sl w v p) (hn:1<=n) (hn2:n<=64) (hp:p.length<=5000):
  Calls Tryz.prog 53 #[.agg #[.int .i64 P,.int .i64 M,vm],.int .i64 n,v] w (amS P M mod n p w):=by
 obtain⟨s1,hs1⟩:∃ x,x=w.heap.size+1:=⟨_,rfl⟩
 obtain⟨W1,hW1⟩:∃ x,x=(w.alloc (.cells #[.int .i64 P,.int .i64 M,vm] 24)).alloc (.cells #[.int .i64 0,.int .i64 0,.slice none 0 0,.int .i64 0,.slice none 0 0] 29):=⟨_,rfl⟩
 have hk1:ay w W1:=by rw[hW1];exact(ah _ _).tr (ah _ _)
 have bx:nJ W1 w.heap.size P M vm:=by rw[hW1];exact(aS w P M vm 24).kept (ah _ _)
 have br:Bk W1 s1 [.int .i64 0,.int .i64 0,.slice none 0 0,.int .i64 0,.slice none 0 0]:=by rw[hW1];exact aG _ [.int .i64 0,.int .i64 0,.slice none 0 0,.int .i64 0,.slice none 0 0] _ _ (by rw[hs1];simp)
 have fr:Fz W1 s1:=by rw[hW1];exact bD _ _ _ _ (by rw[hs1];simp)
 have HBR:=hid br;have HFR:=hid fr;have HBX:=hid bx;have HVM:=hid (hvm.kept hk1);have HV:=hid (hv.kept hk1);have HK1:=hid hk1;have HS1:=hid hs1;have b0:=bx.h0;have b1:=bx.h1;have b2:=bx.h2;have t3:decide ((n:Int)<1)=false:=by simp;omega
 have t4:decide (64< (n:Int))=false:=by simp;omega
 have t5:decide (n<1)=false:=by simp;omega
 have t6:decide (64<n)=false:=by simp;omega
 clear hvm hv hk1 br fr bx;by_cases hf:fD P M mod;case neg=>
  have HN:=hid (Bl P M vm mod W1 HVM.out hf);clear hf;go_enter Tryz.func53,Tryz.ntmps53;go_upto_region 1 with(fail)
  rw[<-hW1,<-hs1];clear hW1 hs1;go_upto_region 3 with(go_at_call 47;(with_reducible refine HN.out.mono ?_);rintro e w2 ⟨rfl,hk2⟩;have HK2:=hid hk2;have hbr:=HBR.out.kept hk2;have hfr:=HFR.out.kept hk2;have Me:=hid hbr;have z0:=hbr.2 0 _ rfl;have z1:=hbr.2 1 _ rfl;have z2:=hbr.2 2 _ rfl;have z3:=hbr.2 3 _ rfl;have z4:=hbr.2 4 _ rfl;have f0:=hfr.2 0;have f1:=hfr.2 1;have f2:=hfr.2 2;have f3:=hfr.2 3;have f4:=hfr.2 4;have lb:=hbr.1;clear hbr hfr hk2)
  go_wp2_with(fail)
  refine bodyPost_ret (aF rfl rfl (bT (Me.out.mG _ _ _ _ _))) rfl ⟨?_,.inl ⟨1,by decide,rfl⟩⟩;exact aH (HK1.out.tr HK2.out) (cZ _ _ _ _ _ _ _) (by have:=HS1.out;omega) (HK1.out.tr HK2.out).size
 have HN:=hid (fA P M vm mod W1 HVM.out hf);clear hf;go_enter Tryz.func53,Tryz.ntmps53;go_upto_region 1 with(fail)
 rw[<-hW1,<-hs1];clear hW1 hs1;go_upto_region 6 with(go_at_call 47;(with_reducible refine HN.out.mono ?_);rintro e w2 ⟨b,G,rfl,hg2,tG,gP,gM,gm,hk2⟩)
 have HDG:=hid (show G.P=P/\G.M=M/\G.mod=mod from⟨gP,gM,gm⟩);have HG2:=hid hg2;have HK2:=hid (HK1.out.tr hk2);have Me:=hid (HBR.out.kept hk2);have aaR:=hid (HFR.out.kept hk2);have Yb:=hid (HBX.out.kept hk2);have agq:=hid (HVM.out.kept hk2);have HV2:=hid (HV.out.kept hk2);clear gP gM gm hg2 hk2 b0 b1 b2;obtain⟨a,cap,ev,hcap,⟨hcm,amT⟩,hc⟩:=HV2.out;subst ev;unfold maxLen at hcm;obtain⟨L,hL⟩:∃ L,L=p.length:=⟨_,rfl⟩
 rw[<-hL] at hcap hp ⊢;have HL:=hid hL;have HC:=hid hc;have HVL:=hid (show Sl w2 (.slice a L cap) p by rw[hL];exact HV2.out);clear hc hL amT;go_wp2_with(fail)
 go_loopw [34] (fun vi wr=>∃ k:Nat,k<=L/\vi=.int .i64 k/\Hid (∀ j,j<k->0<=p.getD j 0/\p.getD j 0<G.q)/\∃ m,wr=w2.drewN m) (fun vi _=>L- (intOf vi).toNat)
 case atStart=>exact⟨0,by omega,rfl,hid fun j hj=>by omega,0,rfl⟩
 case round=>
  obtain⟨k,hk,rfl,hel,m,rfl⟩:=hrel;by_cases hlt:k<L
  ·have hlt':(k:Int)< (L:Int):=by omega
   obtain⟨bb,off,rfl,hbb,hcell⟩:=HC.out (fun e=>by have:=HL.out;rw[e] at this;simp at this;omega);have hck:=hcell k (by rw[<-HL.out];exact hlt);obtain⟨x,hx⟩:∃ x,x=p.getD k 0:=⟨_,rfl⟩
   rw[<-hx] at hck;have HX:=hid hx;clear hcell hx;by_cases hin:0<=x/\x<G.q
   ·have HI:=hid (fun(W:World) (h:ay w2 W)=>Nl b G.q x W (HG2.out.kept h).hq hin.1 hin.2);have HIN:=hid hin;clear hin;go_wp2_with(go_at_call 105;(with_reducible refine(HI.out _ (aB _ _)).mono ?_);rintro e w3 ⟨rfl,m3,rfl⟩)
    go_roundw;case rel=>exact⟨k+1,by omega,by go_num,hid fun j hj=>by
     by_cases e:j=k
     ·rw[e,<-HX.out];exact HIN.out
     ·exact hel.out j (by omega),m+m3,rfl⟩
    case measure=>simp[intOf];omega
   ·have HI:=hid (fun(W:World) (h:ay w2 W)=>abz b G.q x W (HG2.out.kept h).hq (by omega));clear hin;have hbr:=Me.out;have hfr:=aaR.out;have z0:=hbr.2 0 _ rfl;have z1:=hbr.2 1 _ rfl;have z2:=hbr.2 2 _ rfl;have z3:=hbr.2 3 _ rfl;have z4:=hbr.2 4 _ rfl;have f0:=hfr.2 0;have f1:=hfr.2 1;have f2:=hfr.2 2;have f3:=hfr.2 3;have f4:=hfr.2 4;have lb:=hbr.1;clear hbr hfr;go_upto_region 10 with(go_at_call 105;(with_reducible refine(HI.out _ (aB _ _)).mono ?_);rintro e w3 ⟨rfl,m3,rfl⟩)
    have hkf:=HK2.out.drewN (m+m3);have HKF:=hid hkf;clear hkf;go_wp2_with(fail)
    refine bodyPost_ret (aF rfl rfl (bT ((Me.out.drewN (m+m3)).mG _ _ _ _ _))) rfl ⟨?_,.inl ⟨2,by decide,rfl⟩⟩;exact aH HKF.out (cZ _ _ _ _ _ _ _) (show w.heap.size<=s1 by have:=HS1.out;omega) HKF.out.size
  ·have hkn:k=L:=by omega
   subst hkn;clear hlt;have HEL:Hid (∀ x∈p,0<=x/\x<G.q):=hid (fun x hx=>by
    obtain⟨j,hj,rfl⟩:=yR hx;have:=hel.out j (by rw[HL.out];exact hj);simpa only[List.getD,zq hj,zU] using this)
   obtain⟨w3,hw3⟩:∃ x,x=w2.drewN m:=⟨_,rfl⟩
   rw[<-hw3];have hk3:ay w2 w3:=by rw[hw3];exact aB _ _
   have HG3:=hid (HG2.out.kept hk3);have HK3:=hid (HK2.out.tr hk3);have VR:=hid (Me.out.kept hk3);have adn:=hid (aaR.out.kept hk3);have agr:=hid (Yb.out.kept hk3);have ags:=hid (agq.out.kept hk3);have HV3:=hid (HVL.out.kept hk3);have HAR:=hid (Qe b G tG n w3 HG3.out hn hn2);clear hw3 hk3;go_upto_region 13 with(first|(go_at_call 107;(with_reducible refine HAR.out.mono ?_);rintro e w4 ⟨v4,rfl,ho4,hk4⟩)|(go_at_call 106;refine(aiU b G tG _ v4 p (arL G n) w4 (HG3.out.kept hk4) (HV3.out.kept hk4) ho4.sl (by rw[<-HL.out];omega) (by rw[adk];omega)).mono ?_;rintro e w5 ⟨v5,gl,rfl,ho5,hk5,hca,hpl⟩))
   rw[agm tG hn] at hpl;have hgl:=agn tG hn hca hpl;have hwf:=agp tG (n:=n) (k:=n+1-gl.length) hca;have HWF:=hid hwf;have HPL:=hid hpl;have ado:=hk4.tr hk5;have HG5:=hid (HG3.out.kept ado);have HK5:=hid (HK3.out.tr ado);have akz:=hid (VR.out.kept ado);have acD:=hid (adn.out.kept ado);have amU:=hid (agr.out.kept ado);have amV:=hid (ags.out.kept ado);rcases ho5.form with⟨_,e⟩|⟨g5,c5,e5,_,hg5,_⟩
   ·rw[e] at hgl;simp at hgl
   subst e5;have HO5:=hid ho5;obtain⟨D,hD⟩:∃ D,D=gl.length:=⟨_,rfl⟩
   rw[<-hD] at hgl HWF HO5 ⊢;have HD:=hid hD;obtain⟨K,hK⟩:∃ K,K=n+1-D:=⟨_,rfl⟩
   have w1:IntKind.i64.wrap ((n:Int)+1)=(n:Int)+1:=IntWalk.i64_in _ (by omega);have w2':IntKind.i64.wrap ((n:Int)+1- (D:Int))=(K:Int):=by rw[IntWalk.i64_in _ (by omega)];omega
   rw[<-hK] at HWF;have HKK:=hid hK;obtain⟨d1,d2⟩:=hgl;have hKn:K<=n:=by omega
   have hKD:K+D=n+1:=by omega
   have HKD:=hid hKD;clear hwf hpl ado hk4 hk5 ho4 ho5 hca hD hK hKD;go_wp2_with(fail)
   go_loopw [55,13] (fun vi vo wr=>∃ (k:Nat) (rv:Nat->Value) (v13:Value),k<=K/\vi=.int .i64 k/\vo=v13/\Hid (Mx wr w5.heap.size v13 (JH n gl k) rv)/\ay w5 wr) (fun vi _ _=>K- (intOf vi).toNat)
   case atStart=>exact⟨0,_,_,by omega,rfl,rfl,hid (qR _ _),ay.rfl' _⟩
   case round=>
    obtain⟨k,rv,v13,hk,rfl,rfl,HMX,hkr⟩:=hrel;have HKR:=hid hkr;have hsr:=hkr.size;clear hkr;by_cases hlt:k<K
    ·have hlt':(k:Int)< (K:Int):=by omega
     have hkn:(k:Int)<=(n:Int):=by omega
     have hk0:(0:Int)<=(k:Int):=by omega
     have aoy:k<n:=by have:=HKD.out;omega
     have hkn2:(k:Int)< (n:Int):=by omega
     have aoz:¬ k=n:=by omega
     have aoA:k<=n:=by omega
     have hkD:k+D<=n:=by have:=HKD.out;omega
     go_upto_region 18 with(at_make;refine aJ rfl _ _ rfl n _ _ rfl rfl rfl rfl (by omega) ?_;intro w6 ho6 hk6)
     obtain⟨ZS,hZS⟩:∃ x,x=(List.replicate n (0:Int)).map (Value.int .i64):=⟨_,rfl⟩
     obtain⟨GC,hGC⟩:∃ x,x=gl.map (Value.int .i64):=⟨_,rfl⟩
     have HBL:Hid (w6.heap[wr.heap.size]?=some (.cells ZS.toArray 3 (0,0))):=hid (by rw[hZS];exact IE (by simp) ho6);have HSP:Hid (splice ZS k GC=(shL n gl k).map (Value.int .i64)):=hid (by rw[hZS,hGC];exact VQ (by rw[<-HD.out];exact hkD));have HGL:Hid (GC.length=D):=hid (by rw[hGC,yx,HD.out]);have HZL:Hid (ZS.length=n):=hid (by rw[hZS];simp);have HON:Hid (∀ v∈GC,v.oneCell'=true):=hid (by rw[hGC];exact ints_oneCell _ _);have amW:Hid (∀ j v,GC[j]?=some v->w6.cell? ((⟨g5,0,none⟩:Addr).add j)=some v):=hid (fun j v hj=>by
      rw[hGC] at hj;have hj2:j<gl.length:=by have:=(zN.1 hj).1;simpa using this
      have hc6:=(HO5.out.kept (HKR.out.tr hk6)).cell (i:=j) hj2;rw[Addr.add_lit,xQ,hc6];simp[hj2] at hj;rw[<-hj];simp[List.getD,hj2])
     have HK6:=hid hk6;clear hZS hGC ho6 hk6;go_upto_region 19 with(with_reducible refine wpList_copy_splice rfl (.tmp 62) (.tmp 63) 22 22 rfl 3 Tryz.underlying22 (by kernel_rfl) _ _ _ _ _ _ rfl rfl wr.heap.size k ZS 3 HBL.out GC (by rw[HGL.out];exact(Nat.min_eq_left (by omega)).symm) (fun _=>⟨rfl,_,rfl,amW.out⟩) (by rw[HGL.out,HZL.out];exact hkD) HON.out wr.heap.size wr HK6.out (zy _) ?_;intro w7 hg7 hb7)
     rw[HSP.out] at hg7;have ho7:Own w7 wr.heap.size (.slice (some ⟨wr.heap.size,0,none⟩) n n) (shL n gl k):=Ap (VO _ _ _) (by unfold maxLen;omega) (zy _) hg7.out;have HO7:=hid ho7;have HK7:=hid (show ay wr w7 from hb7);have HM7:=hid (HMX.out.kept HK7.out);have hs7:=HK7.out.size;clear hg7 hb7 ho7;have HM8:=hid (HM7.out.kept (ah w7 (.cells #[.slice (some ⟨wr.heap.size,0,none⟩) n n] 22)));go_wp2_with(at_builtin;refine dD rfl _ _ rfl w5.heap.size _ _ _ rfl HM8.out.out ⟨w7.heap.size,0,none⟩ (.slice (some ⟨wr.heap.size,0,none⟩) n n) rfl (aU rfl) rfl (by rw[wE];omega) (by simp;omega) ?_;intro v8 w8 o8 hg8)
     have hd4:∀ x,(Value.slice (some ⟨wr.heap.size,0,none⟩) n n).ownBlock=some x->∀ j,j< (JH n gl k).length->(rv j).ownBlock≠some x:=fun x hx j hj e=>by
      have h1:=aN (HMX.out.row j hj) e;have h2:wr.heap.size=x:=by simpa[Value.ownBlock] using hx
      omega
     have Qi:=ah w7 (.cells #[.slice (some ⟨wr.heap.size,0,none⟩) n n] 22);have hm8:=Mx.add HM8.out ((HO7.out.kept Qi).mono hsr) hd4 o8 hg8;rw[<-VP] at hm8;have hk8:ay w5 w8:=Below.grown ((HKR.out.tr HK7.out).tr Qi) hg8 ((HKR.out.tr HK7.out).tr Qi).size (fun y e=>(World.ownsRow.lt HM8.out.out y e).1);have HMF:=hid hm8;have HKF:=hid hk8;clear hd4 Qi hm8 hk8 o8 hg8;go_roundw;case rel=>exact⟨k+1,_,_,by omega,by go_num,rfl,HMF,HKF.out⟩
     case measure=>simp[intOf];omega
    ·have hkn:k=K:=by omega
     subst hkn;obtain⟨rfl,rfl,rfl⟩:=HDG.out;have hml:G.mod.length<=1000:=by
      have hs:=tG.shape;obtain⟨q1,q2,q3,q4,q5,q6,q7⟩:=tG.qb;by_cases e:G.M=1
      ·rw[hs.2.2.1 e];simp
      ·have:=(hs.2.2.2 (by omega)).1;omega
     have hmx:=HMX.out;obtain⟨va,vcc,rfl⟩:=hmx.lenOf;have bx:=amU.out.kept HKR.out;have b0:=bx.h0;have b1:=bx.h1;have b2:=bx.h2;have HNC:=hid (NQ G tG vm n va _ vcc (JH n gl k) wr (amV.out.kept HKR.out) HMX.out.rd HWF.out hn hn2 (by rw[wE];omega) hml);obtain⟨A,hA⟩:∃ A,A=oQ (opG G) (JH n gl k) n:=⟨_,rfl⟩
     unfold TU at HNC;rw[<-hA] at HNC;have HA:=hid hA;obtain⟨lm,hlm⟩:∃ l,l=G.mod.length:=⟨_,rfl⟩
     rw[<-hlm] at HNC;have HLM:=hid hlm;obtain⟨la,hla⟩:∃ l,l=A.length:=⟨_,rfl⟩
     rw[<-hla] at HNC;have HLA:=hid hla;have hsw:s1<wr.heap.size:=(akz.out.kept HKR.out).1;clear hmx bx hA hlm hla hml hlt;go_upto_region 21 with(fail)
     go_wp2_with(go_at_call 108;(with_reducible refine HNC.out.mono ?_);rintro e w9 ⟨a9,c9,fa,fc,rfl,ho9,hr9,hk9⟩;have HO9:=hid ho9;have HR9:=hid hr9;have HK9:=hid (HKR.out.tr hk9);have hbr:=akz.out.kept (HKR.out.tr hk9);have hfr:=acD.out.kept (HKR.out.tr hk9);have adp:=hid hbr;have z0:=hbr.2 0 _ rfl;have z1:=hbr.2 1 _ rfl;have z2:=hbr.2 2 _ rfl;have z3:=hbr.2 3 _ rfl;have z4:=hbr.2 4 _ rfl;have f0:=hfr.2 0;have f1:=hfr.2 1;have f2:=hfr.2 2;have f3:=hfr.2 3;have f4:=hfr.2 4;have lb:=hbr.1;clear hbr hfr ho9 hr9 hk9)
     have hkw:=HK5.out.tr HK9.out;have hwr:w.heap.size<=wr.heap.size:=zJ HK5.out.size HKR.out.size;refine bodyPost_ret (aF rfl rfl (bT (adp.out.mG _ _ _ _ _))) rfl ⟨?_,.inr ⟨G,A,a9,c9,fa,fc,⟨tG,HEL.out,gl,HPL.out,by rw[<-HD.out];omega,by rw[<-HD.out,<-HKK.out];exact HWF.out,by rw[<-HD.out,<-HKK.out];exact HA.out⟩,⟨rfl,rfl,rfl⟩,by rw[<-HLM.out,<-HLA.out];rfl, ?_, ?_⟩⟩
     ·exact aH hkw (cZ _ _ _ _ _ _ _) (show w.heap.size<=s1 by have:=HS1.out;omega) hkw.size
     ·rw[<-HLM.out];exact(jE HO9.out hsw _ _ _ _ _).mono hwr
     ·rw[<-HLA.out];exact(HR9.out.mG hsw _ _ _ _ _).mono hwr
end
end Go.Proofs.YtoilbeadokallaaGreatDoor
