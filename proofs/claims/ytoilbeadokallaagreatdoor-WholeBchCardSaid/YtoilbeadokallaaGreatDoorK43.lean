/- Lemmas on the way to the row. Conditions: each lemma's own, stated with it. -/
import Derived.Test.YtoilbeadokallaaGreatDoorK40
import Derived.Test.YtoilbeadokallaaGreatDoorK41
import Derived.Test.YtoilbeadokallaaGreatDoorK42
namespace Go.Proofs.YtoilbeadokallaaGreatDoor
section
open Go.RowKit Cw Cw.Gj Cw.Rg Cw.Fd Cw.PS
structure mY (P M:Int) (mod:List Int) (P' M':Int) (mod':List Int) (n:Int) (G H:GFd) (r0 a:Int):Prop where
 tG:aK G
 tH:aK H
 dG:G.P=P/\G.M=M/\G.mod=mod
 dH:H.P=P'/\H.M=M'/\H.mod=mod'
 hP:G.P=H.P
 rt:(G.M=1/\r0=0)∨(1<G.M/\∃ l,rtL H (G.mod++ [1]) (upTo H.q.toNat)=r0::l)
 ro:Ju H n.toNat=some a
 n1:1<=n
 n2:n<=64
 dv:1<=G.M/\G.M<=H.M/\H.M%G.M=0
section
variable {P M:Int} {mod:List Int} {P' M':Int} {mod':List Int} {n:Int} {G H G' H':GFd} {r0 a r0' a':Int}
theorem mY.sdG (h:mY P M mod P' M' mod' n G H r0 a) (k:mY P M mod P' M' mod' n G' H' r0' a'):SD G G':=⟨h.dG.1.trans k.dG.1.symm,h.dG.2.1.trans k.dG.2.1.symm,h.dG.2.2.trans k.dG.2.2.symm⟩
theorem mY.sdH (h:mY P M mod P' M' mod' n G H r0 a) (k:mY P M mod P' M' mod' n G' H' r0' a'):SD H H':=⟨h.dH.1.trans k.dH.1.symm,h.dH.2.1.trans k.dH.2.1.symm,h.dH.2.2.trans k.dH.2.2.symm⟩
theorem mY.same (h:mY P M mod P' M' mod' n G H r0 a) (k:mY P M mod P' M' mod' n G' H' r0' a'):r0=r0'/\a=a':=by
 have e1:=h.sdG k;have e2:=h.sdH k;refine⟨?_, ?_⟩
 ·rcases h.rt with⟨h1,h2⟩|⟨h1,l,h2⟩<;>rcases k.rt with⟨k1,k2⟩|⟨k1,l',k2⟩
  ·rw[h2,k2]
  ·have:=e1.2.1;omega
  ·have:=e1.2.1;omega
  ·rw[af9 h.tH k.tH e2,e1.2.2,adb h.tH k.tH e2,k2] at h2;injection h2 with h3 _;exact h3.symm
 ·have:=h.ro;rw[LY h.tH k.tH e2,k.ro] at this;exact(wW this).symm
theorem mY.agl (h:mY P M mod P' M' mod' n G H r0 a):(0<=a/\a<H.q)/\inn H.q a≠0/\Ord (h.tH.e a) n.toNat:=by
 have h1:=List.mem_of_find?_eq_some h.ro;have h2:=List.find?_some h.ro;have hb:=G8.1 h1;have h2:a≠0/\Nc H a=n.toNat:=by simpa using h2
 have hq:=q2 h.tH;have hin:inn H.q a≠0:=by rw[bI ⟨hb.1,by omega⟩];exact h2.1
 refine⟨⟨hb.1,by omega⟩,hin, ?_⟩;rw[<-h2.2];exact h.tH.aew hin
theorem mY.rtp (h:mY P M mod P' M' mod' n G H r0 a):RtP h.tG h.tH (h.tH.e r0):=by
 have hm:h.tG.fs.m=G.M.toNat:=rfl;rcases h.rt with⟨h1,h2⟩|⟨h1,l,h2⟩
 ·exact .inl ⟨by rw[hm,h1];rfl,(congrArg h.tH.e h2).trans h.tH.bC⟩
 ·refine .inr ⟨by rw[hm];omega, ?_⟩;have h3:r0∈rtL H (G.mod++ [1]) (upTo H.q.toNat):=by rw[h2];exact xJ ..
  unfold rtL at h3;exact h.tH.Nj.1 (by simpa using(xH.1 h3).2)
noncomputable def mY.phi (h:mY P M mod P' M' mod' n G H r0 a):Hm (Rs h.tG.fs.mon) (Rs h.tH.fs.mon):=emb h.tG h.tH h.hP h.rtp
theorem mY.im (h:mY P M mod P' M' mod' n G H r0 a):ImP h.tG h.tH h.phi (jQ G H r0):=fun _ h0 h1=>ac3 h.tG h.tH h.hP h.rtp ⟨h0,h1⟩
theorem mY.Oi (h:mY P M mod P' M' mod' n G H r0 a) (k:mY P M mod P' M' mod' n G' H' r0' a'):jQ G H r0=jQ G' H' r0':=by
 rw[(h.same k).1];exact af6 h.tG k.tG h.tH k.tH (h.sdG k) (h.sdH k) _
theorem mY.Zr (h:mY P M mod P' M' mod' n G H r0 a) (k:mY P M mod P' M' mod' n G' H' r0' a') (A:List (List Int)) (m:Nat):DR H (jQ G H r0) A m a=DR H' (jQ G' H' r0') A m a':=by
 obtain⟨e1,e2⟩:=h.same k;rw[h.Oi k,<-e2];unfold DR Jy;refine uZ fun i _=>?_;rw[af7 h.tH k.tH (h.sdH k) h.agl.2.1 i];simp only[Vs h.tH k.tH (h.sdH k)]
end
end
section
open Go.RowKit Cw Cw.Gj
theorem mY.emb {P M:Int} {mod:List Int} {P' M':Int} {mod':List Int} {n:Int} {G H K:GFd} {r0 a:Int} (h:mY P M mod P' M' mod' n G H r0 a) (t:aK K) (k:K.P=P'/\K.M=M'/\K.mod=mod'):adN P M mod K G r0:=by
 have sd:SD H K:=⟨h.dH.1.trans k.1.symm,h.dH.2.1.trans k.2.1.symm,h.dH.2.2.trans k.2.2.symm⟩
 refine⟨h.tG,h.dG,h.hP.trans sd.1, ?_,h.dv.1, ?_, ?_⟩
 ·rcases h.rt with h1|⟨h1,l,h2⟩
  ·exact .inl h1
  ·exact .inr ⟨h1,l,by rw[<-af9 h.tH t sd,<-adb h.tH t sd];exact h2⟩
 ·rw[<-sd.2.1];exact h.dv.2.1
 ·rw[<-sd.2.1];exact h.dv.2.2
theorem mY.of {P M:Int} {mod:List Int} {P' M':Int} {mod':List Int} {n:Int} {G H K:GFd} {r0 a:Int} (t:aK H) (hH:H.P=P'/\H.M=M'/\H.mod=mod') (h:adN P M mod H G r0) (k:Za P' M' mod' n K a):mY P M mod P' M' mod' n G H r0 a:=by
 obtain⟨tK,dK,n1,n2,ro⟩:=k;have sd:SD K H:=⟨dK.1.trans hH.1.symm,dK.2.1.trans hH.2.1.symm,dK.2.2.trans hH.2.2.symm⟩
 exact⟨h.tG,t,h.dG,hH,h.hP,h.rt,by rw[<-LY tK t sd];exact ro,n1,n2,h.dv⟩
def amR (P M:Int) (mod:List Int) (P' M':Int) (mod':List Int) (n:Int) (w:World) (e:Ending) (w':World):Prop:=
 ay w w'/\(((¬ ∃ G H r0 a,mY P M mod P' M' mod' n G H r0 a)/\∃ (pb sa:Option Addr) (sl sc:Nat) (x err:Int),err≠0/\e=.returned (.tuple #[.pointer pb,.slice sa sl sc,.int .i64 x,.int .i64 err]))∨
  ∃ b G H r0 a gi,mY P M mod P' M' mod' n G H r0 a/\e=.returned (.tuple #[.pointer (some ⟨b,0,none⟩),.slice (some ⟨gi,0,none⟩) G.q.toNat G.q.toNat,.int .i64 a,.int .i64 0])/\dW w' b H/\Own w' w.heap.size (.slice (some ⟨gi,0,none⟩) G.q.toNat G.q.toNat) (jQ G H r0))
set_option maxRecDepth 100000 in
set_option maxHeartbeats 4000000 in
theorem Md (P M:Int) (vm:Value) (mod:List Int) (P' M':Int) (vm':Value) (mod':List Int) (n:Int) (w:World) (hvm:Sl w vm mod) (JM:Sl w vm' mod'):
  Calls Tryz.prog 19 #[.agg #[.int .i64 P,.int .i64 M,vm],.agg #[.int .i64 P',.int .i64 M',vm'],.int .i64 n] w (amR P M mod P' M' mod' n w):=by
 obtain⟨W1,hW1⟩:∃ x,x=(w.alloc (.cells #[.int .i64 P,.int .i64 M,vm] 24)).alloc (.cells #[.int .i64 P',.int .i64 M',vm'] 24):=⟨_,rfl⟩
 have hk1:ay w W1:=by rw[hW1];exact(ah _ _).tr (ah _ _)
 have bx:nJ W1 w.heap.size P M vm:=by rw[hW1];exact(aS w P M vm 24).kept (ah _ _)
 have by':nJ W1 (w.heap.size+1) P' M' vm':=by
  rw[hW1];have:=aS (w.alloc (.cells #[.int .i64 P,.int .i64 M,vm] 24)) P' M' vm' 24;simpa using this
 have c0:=by'.h0;have c1:=by'.h1;have c2:=by'.h2;have HBX:=hid bx;have HBY:=hid by';have HV1:=hid (hvm.kept hk1);have HW1:=hid (JM.kept hk1);have HK1:=hid hk1;clear hvm JM hk1 bx by';by_cases hf:fD P' M' mod';case neg=>
  have HN:=hid (Bl P' M' vm' mod' W1 HW1.out hf);have HF:=hid hf;clear hf;go_enter Tryz.func19,Tryz.ntmps19;go_wp2_with(go_at_call 47;rw[<-hW1];clear hW1;(with_reducible refine HN.out.mono ?_);rintro e w2 ⟨rfl,hk2⟩)
  refine bodyPost_ret (v:=.tuple #[.pointer none,.slice none 0 0,.int .i64 0,.int .i64 1]) ?_ rfl ⟨HK1.out.tr hk2,.inl ⟨?_,none,none,0,0,0,1,by decide,rfl⟩⟩
  ·simp[results,Tryz.results19,go_sem]
  ·rintro⟨G,H,r0,a,h⟩;exact HF.out (by rw[<-h.dH.1,<-h.dH.2.1,<-h.dH.2.2];exact h.tH.field)
 have HN:=hid (fA P' M' vm' mod' W1 HW1.out hf);clear hf;by_cases hn:1<=n/\n<=64;case neg=>
  have HNN:=hid hn;by_cases hn1:n<1
  ·have tn:decide (n<1)=true:=xG hn1;clear hn hn1;go_enter Tryz.func19,Tryz.ntmps19;go_wp2_with(go_at_call 47;rw[<-hW1];clear hW1;(with_reducible refine HN.out.mono ?_);rintro e w2 ⟨b,H,rfl,_,_,_,_,_,hk2⟩)
   refine bodyPost_ret (v:=.tuple #[.pointer none,.slice none 0 0,.int .i64 0,.int .i64 4]) ?_ rfl ⟨HK1.out.tr hk2,.inl ⟨?_,none,none,0,0,0,4,by decide,rfl⟩⟩
   ·simp[results,Tryz.results19,go_sem]
   ·rintro⟨G,H,r0,a,h⟩;exact HNN.out ⟨h.n1,h.n2⟩
  ·have tn:decide (n<1)=false:=yK hn1;have tn2:decide (64<n)=true:=xG (by omega);clear hn hn1;go_enter Tryz.func19,Tryz.ntmps19;go_wp2_with(go_at_call 47;rw[<-hW1];clear hW1;(with_reducible refine HN.out.mono ?_);rintro e w2 ⟨b,H,rfl,_,_,_,_,_,hk2⟩)
   refine bodyPost_ret (v:=.tuple #[.pointer none,.slice none 0 0,.int .i64 0,.int .i64 4]) ?_ rfl ⟨HK1.out.tr hk2,.inl ⟨?_,none,none,0,0,0,4,by decide,rfl⟩⟩
   ·simp[results,Tryz.results19,go_sem]
   ·rintro⟨G,H,r0,a,h⟩;exact HNN.out ⟨h.n1,h.n2⟩
 have tn:decide (n<1)=false:=yK (by omega);have tn2:decide (64<n)=false:=yK (by omega);clear hn;go_enter Tryz.func19,Tryz.ntmps19;go_upto_region 6 with(go_at_call 47;rw[<-hW1];clear hW1;(with_reducible refine HN.out.mono ?_);rintro e w2 ⟨b,H,rfl,hg2,tH,gP,gM,gm,hk2⟩)
 have HDH:=hid (show H.P=P'/\H.M=M'/\H.mod=mod' from⟨gP,gM,gm⟩);have HK2:=hid (HK1.out.tr hk2);have ai2:=hid (HBY.out.kept hk2);have HW2:=hid (HW1.out.kept hk2);have HG2:=hid hg2;have HEM:=hid (VA b H tH P M vm mod w2 hg2 (HV1.out.kept hk2));have bx2:=HBX.out.kept hk2;clear gP gM gm c0 c1 c2 hg2 hk2;have c0:=bx2.h0;have c1:=bx2.h1;have c2:=bx2.h2;clear bx2;go_upto_region 7 with(go_at_call 48;(with_reducible refine HEM.out.mono ?_);rintro e w3 ⟨hk3,hx⟩;have HK3:=hid hk3;clear hk3;rcases hx with⟨hno,err,h0,rfl⟩|⟨G,r0,gi,hed,rfl,ho3⟩)
 ·have te:(err != 0)=true:=by simpa using h0
  have H0:=hid h0;have HNO:=hid hno;clear h0 hno;go_wp2_with(fail)
  refine bodyPost_ret (v:=.tuple #[.pointer none,.slice none 0 0,.int .i64 0,.int .i64 err]) ?_ rfl ⟨HK2.out.tr HK3.out,.inl ⟨?_,none,none,0,0,0,err,H0.out,rfl⟩⟩
  ·simp[results,Tryz.results19,go_sem]
  ·rintro⟨G,H',r0,a,h⟩;exact HNO.out ⟨G,r0,h.emb tH HDH.out⟩
 ·have HED:=hid hed;have HO3:=hid ho3;obtain⟨Q,hQ⟩:∃ x,x=G.q.toNat:=⟨_,rfl⟩
  rw[<-hQ] at HO3 ⊢;have HQ:=hid hQ;have HRO:=hid (Zc P' M' vm' mod' n w3 (HW2.out.kept HK3.out));have by3:=ai2.out.kept HK3.out;clear hed ho3 hQ c0 c1 c2;have c0:=by3.h0;have c1:=by3.h1;have c2:=by3.h2;clear by3;go_upto_region 10 with(go_at_call 49;(with_reducible refine HRO.out.mono ?_);rintro e w4 ⟨hk4,hx⟩;have HK4:=hid hk4;clear hk4;rcases hx with⟨hno,err,h0,rfl⟩|⟨K,a,hrd,rfl⟩)
  ·have H0:=hid h0;have HNO:=hid hno;clear h0 hno;go_wp2_with(fail)
   refine bodyPost_ret (v:=.tuple #[.pointer (some ⟨b,0,none⟩),.slice (some ⟨gi,0,none⟩) Q Q,.int .i64 0,.int .i64 err]) ?_ rfl ⟨(HK2.out.tr HK3.out).tr HK4.out,.inl ⟨?_,_,_,_,_,_,err,H0.out,rfl⟩⟩
   ·simp[results,Tryz.results19,go_sem]
   ·rintro⟨G,H',r0,a,h⟩;exact HNO.out ⟨H',a,h.tH,h.dH,h.n1,h.n2,h.ro⟩
  ·have HRD:=hid hrd;clear hrd;go_wp2_with(fail)
   refine bodyPost_ret (v:=.tuple #[.pointer (some ⟨b,0,none⟩),.slice (some ⟨gi,0,none⟩) Q Q,.int .i64 a,.int .i64 0]) ?_ rfl ⟨(HK2.out.tr HK3.out).tr HK4.out,.inr ⟨b,G,H,r0,a,gi,mY.of tH HDH.out HED.out HRD.out,by rw[<-HQ.out],(HG2.out.kept HK3.out).kept HK4.out, ?_⟩⟩
   ·simp[results,Tryz.results19,go_sem]
   ·rw[<-HQ.out];exact(HO3.out.kept HK4.out).mono (by have:=HK2.out.size;omega)
end
end Go.Proofs.YtoilbeadokallaaGreatDoor
