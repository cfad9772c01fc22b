/- Lemmas on the way to the row. Conditions: each lemma's own, stated with it. -/
import Derived.Test.YtoilbeadokallaaGreatDoorK15
import Derived.Test.YtoilbeadokallaaGreatDoorK20
import Derived.Test.YtoilbeadokallaaGreatDoorK36
set_option maxHeartbeats 8000000
namespace Go.Proofs.YtoilbeadokallaaGreatDoor
section
open Go.RowKit Cw Cw.Gj
def RuM (w:World) (cb:Nat):Prop:=∃ a0 a1 a2 a3 a4:Int,Bk w cb [.int .i64 a0,.int .i64 a1,.int .i64 a2,.int .i64 a3,.int .i64 a4]/\Fz w cb
theorem RuM.kept {w w':World} {cb:Nat} (h:RuM w cb) (k:ay w w'):RuM w' cb:=by
 obtain⟨a0,a1,a2,a3,a4,h1,h2⟩:=h;exact⟨a0,a1,a2,a3,a4,h1.kept k,h2.kept k⟩
def Zw (n most:Nat) (l:List Int) (w:World) (e:Ending) (w':World):Prop:=
 ∃ (y:Nat) (r0 r1 r2 r3 r4:Int),e=.returned (.tuple #[.int .i64 y,.agg #[.int .i64 r0,.int .i64 r1,.int .i64 r2,.int .i64 r3,.int .i64 r4],.int .i64 0])/\iw (fJ n l) n most (fun _ _ _ _=>True) y/\1<=y/\ay w w'
theorem BF {w:World} {b:Nat} {u0 u1 u2 u3 u4:Value} (h:Bk w b [u0,u1,u2,u3,u4]):(loadVar 37 ⟨b,0,none⟩).run Tryz.prog w=.ok (.agg #[u0,u1,u2,u3,u4]) w:=by
 have c0:=h.2 0 _ rfl;have c1:=h.2 1 _ rfl;have c2:=h.2 2 _ rfl;have c3:=h.2 3 _ rfl;have c4:=h.2 4 _ rfl;simp[go_sem,c0,c1,c2,c3,c4]
theorem mZ {P:Program} {fn:Func} {tmps:Array Value} {w:World} {a:Nat} {t:TypeId} {d e:Tmp} (h:fn.results=#[.tmp d,.cell a t,.tmp e]) {b:Nat} {v:Value} (ha:tmps.getD a undef=.pointer (some ⟨b,0,none⟩)) (hl:(loadVar t ⟨b,0,none⟩).run P w=.ok v w):(results fn tmps).run P w=.ok (.tuple #[tmps.getD d undef,v,tmps.getD e undef]) w:=by
 have hx:tmps[a]?.getD undef=.pointer (some ⟨b,0,none⟩):=by simpa using ha
 simp[results,h,hx,asAddr,hl,Result.andThen]
set_option maxRecDepth 100000 in
theorem Oj (n most:Nat) (v:Value) (l:List Int) (w:World) (hv:Sl w v l) (hn:1<=n) (hn2:n<=64) (hm:most<=64):
  Calls Tryz.prog 28 #[.int .i64 n,v,.int .i64 most] w (Zw n most l w):=by
 obtain⟨W1,hW1⟩:∃ x,x=w.alloc (.cells #[.int .i64 0,.int .i64 0,.int .i64 0,.int .i64 0,.int .i64 0] 37):=⟨_,rfl⟩
 obtain⟨rb,hrb⟩:∃ x,x=w.heap.size:=⟨_,rfl⟩
 have hk1:ay w W1:=by rw[hW1];exact ah _ _
 have br:Bk W1 rb [.int .i64 0,.int .i64 0,.int .i64 0,.int .i64 0,.int .i64 0]:=by rw[hW1];exact aG w [.int .i64 0,.int .i64 0,.int .i64 0,.int .i64 0,.int .i64 0] _ _ hrb
 have fr:Fz W1 rb:=by rw[hW1];exact bD _ _ _ _ hrb
 have HME:=hid (CV n v l W1 (hv.kept hk1) hn hn2);have HK1:=hid hk1;have HBR:=hid br;have HFR:=hid fr;have HRB:=hid hrb;have t1:decide (n<1)=false:=by simp;omega
 have t2:decide (64<n)=false:=by simp;omega
 clear hv hk1 br fr;go_enter Tryz.func28,Tryz.ntmps28;go_upto_region 1 with(fail)
 rw[<-hW1,<-hrb];clear hW1 hrb;go_upto_region 4 with(go_at_call 61;(with_reducible refine HME.out.mono ?_);rintro e w2 ⟨g0,rfl,hob,hk2⟩;have HOB:=hid hob;have HK2:=hid hk2;clear hob hk2)
 go_upto_region 5 with(fail)
 obtain⟨W3,hW3⟩:∃ x,x=w2.alloc (.cells #[.int .i64 0,.int .i64 0,.int .i64 0,.int .i64 0,.int .i64 0] 37):=⟨_,rfl⟩
 obtain⟨cb,hcb⟩:∃ x,x=w2.heap.size:=⟨_,rfl⟩
 rw[<-hW3,<-hcb];have hk3:ay w2 W3:=by rw[hW3];exact ah _ _
 have b3:Bk W3 cb [.int .i64 0,.int .i64 0,.int .i64 0,.int .i64 0,.int .i64 0]:=by rw[hW3];exact aG w2 [.int .i64 0,.int .i64 0,.int .i64 0,.int .i64 0,.int .i64 0] _ _ hcb
 have f3:Fz W3 cb:=by rw[hW3];exact bD _ _ _ _ hcb
 have HR3:Hid (RuM W3 cb):=hid ⟨0,0,0,0,0,b3,f3⟩;have HK3:=hid (HK2.out.tr hk3);have ai8:=hid (HOB.out.kept hk3);have hg0:g0<cb:=by rw[hcb];exact HOB.out.lt.2
 have HML:Hid ((fJ n l).length=n):=hid (IV n l);have am4:W1.heap.size<=cb:=by rw[hcb];exact HK2.out.size
 obtain⟨bs,hbs⟩:∃ x,x=fJ n l:=⟨_,rfl⟩
 rw[<-hbs] at ai8 HML;have HBS:=hid hbs;clear hW3 hcb hk3 b3 f3 hbs;go_wp2_with(fail)
 go_loopw [30,10] (fun vi vb wr=>∃ step y:Nat,step<=n/\vi=.int .i64 step/\vb=.int .i64 y/\1<=y/\y<=200/\Hid (iw bs n most (fun a _ _ _=>a<step) y)/\Hid (RuM wr cb)/\W3.grownBy wr (some cb)) (fun vi _ _=>n- (intOf vi).toNat)
 case atStart=>exact⟨0,1,by omega,rfl,rfl,by omega,by omega,hid ((O6 bs n most).mono fun a _ _ _ _ h=>absurd h (yw _)),HR3,World.grownBy.refl _ _⟩
 case round=>
  obtain⟨step,y,hst,rfl,rfl,hy1,hy2,HBP,HRU,hgr⟩:=hrel;have HGR:=hid hgr;have akE:ay W1 wr:=aH HK3.out hgr am4 HK3.out.size;have ai9:=hid akE;clear hgr akE;by_cases hlt:step<n
  ·have hlt':(step:Int)< (n:Int):=by omega
   have HDV:=hid (qF (step:Int) n wr (by omega) (by omega));have hsm:((step:Int)%(n:Int)).toNat=step%n:=by omega
   rw[hsm] at HDV;obtain⟨gd,hgd⟩:∃ x,x=Nat.gcd (step%n) n:=⟨_,rfl⟩
   rw[<-hgd] at HDV;have HGD:=hid hgd;clear hsm hgd;by_cases hg1:gd=1
   ·have tg:(((gd:Nat):Int) != 1)=false:=by simp;omega
    have HG1:=hid hg1;clear hg1;go_upto_region 9 with(go_at_call 62;(with_reducible refine HDV.out.mono ?_);rintro e w4 ⟨rfl,hk4⟩;have HK4:=hid hk4;clear hk4)
    have akF:=(ai8.out.of_block (HGR.out.block g0 ai8.out.lt.2 (fun e=>by cases e;omega))).kept HK4.out;have aoF:cb<wr.heap.size:=by
     obtain⟨_,_,_,_,_,h1,_⟩:=HRU.out;exact h1.1
    have HCN:=hid (CY n step g0 bs _ w4 akF HML.out hn hn2 (by omega));have hs4:=HK4.out.size;clear akF;go_upto_region 10 with(go_at_call 63;(with_reducible refine HCN.out.mono ?_);rintro e w5 ⟨g5,rfl,ho5,hk5⟩;have HLN:=hid ho5;have HK5:=hid hk5;clear ho5 hk5)
    have hg5:w4.heap.size<=g5:=HLN.out.lt.1;have HG5:=hid (bJ (bJ HGR.out HK4.out) HK5.out);have am5:=hid (HRU.out.kept (HK4.out.tr HK5.out));obtain⟨M1,hM1⟩:∃ x,x=most+1:=⟨_,rfl⟩
    have wM:IntKind.i64.wrap ((most:Int)+1)=(M1:Int):=by rw[IntWalk.i64_in _ (by omega)];omega
    have hM2:M1<=65:=by omega
    have HM1:=hid hM1;clear hM1;obtain⟨wa,hwa⟩:∃ x,x=wr:=⟨_,rfl⟩
    subst hwa;go_wp2_with(fail)
    go_loopw [41,10] (fun vc vb wx=>∃ cross y:Nat,cross<=n/\vc=.int .i64 cross/\vb=.int .i64 y/\1<=y/\y<=200/\Hid (iw bs n most (fun a b _ _=>a<step∨(a=step/\b<cross)) y)/\Hid (RuM wx cb)/\w5.grownBy wx (some cb)) (fun vc _ _=>n- (intOf vc).toNat)
    case atStart=>exact⟨0,y,by omega,rfl,rfl,hy1,hy2,hid (HBP.out.mono fun a b c d hr h=>by omega),am5,World.grownBy.refl _ _⟩
    case round=>
     obtain⟨cross,y,hcr,rfl,rfl,hy1,hy2,HBP,HRU,hgr⟩:=hrel;have ahf:=hid hgr;clear hgr;by_cases hlc:cross<n
     ·have aoG:(cross:Int)< (n:Int):=by omega
      by_cases hbk:most=0/\0<cross
      ·have tm:(((most:Nat):Int)==0)=true:=by simp;omega
       have tc:decide (0<cross)=true:=by simp;omega
       have HBK:=hid hbk;clear hbk;go_wp2_with(fail)
       go_roundw;case rel=>exact⟨step+1,y,by omega,by go_num,rfl,hy1,hy2,hid (HBP.out.mono fun a b c d hr h=>by
        have h1:=hr.c0 HBK.out.1;have h2:=HBK.out.2;omega),HRU,aO HG5.out ahf.out⟩
       case measure=>simp[intOf];omega
      ·have HBK:=hid hbk;clear hbk;by_cases hm0:most=0
       ·have tm:(((most:Nat):Int)==0)=true:=by simp;omega
        have tc:decide (0<cross)=false:=by have:=HBK.out;simp;omega
        have HM0:=hid hm0;clear hm0;go_upto_region 14 with(fail)
        obtain⟨wb,hwb⟩:∃ x,x=wr:=⟨_,rfl⟩
        subst hwb;go_wp2_with(fail)
        go_loopw [51,10] (fun vs vb wx=>∃ start y:Nat,start<=n/\vs=.int .i64 start/\vb=.int .i64 y/\1<=y/\y<=200/\Hid (iw bs n most (fun a b c _=>a<step∨(a=step/\(b<cross∨(b=cross/\c<start)))) y)/\Hid (RuM wx cb)/\w5.grownBy wx (some cb)) (fun vs _ _=>n- (intOf vs).toNat)
        case atStart=>exact⟨0,y,by omega,rfl,rfl,hy1,hy2,hid (HBP.out.mono fun a b c d hr h=>by omega),HRU,ahf.out⟩
        case round=>
         obtain⟨start,y,hsr,rfl,rfl,hy1,hy2,HBP,HRU,hgr⟩:=hrel;have agw:=hid hgr;clear hgr;by_cases hls:start<n
         ·have am6:(start:Int)< (n:Int):=by omega
          obtain⟨wd,hwd⟩:∃ x,x=wr:=⟨_,rfl⟩
          subst hwd;go_wp2_with(fail)
          go_loopw [57,16,10] (fun vm vc vb wx=>∃ m cnt y:Nat,m<=M1/\vm=.int .i64 m/\vc=.int .i64 cnt/\vb=.int .i64 y/\cnt<=n/\1<=y/\y<=200/\Hid ((m=0/\cnt=n)∨ ∃ k,m=k+1/\cnt=KO bs n step cross start k)/\
           Hid (iw bs n most (fun a b c d=>a<step∨(a=step/\(b<cross∨(b=cross/\(c<start∨(c=start/\d<m)))))) y)/\Hid (RuM wx cb)/\w5.grownBy wx (some cb)) (fun vm _ _ _=>M1- (intOf vm).toNat)
          case atStart=>exact⟨0,n,y,by omega,rfl,rfl,rfl,by omega,hy1,hy2,hid (.inl ⟨rfl,rfl⟩),hid (HBP.out.mono fun a b c d hr h=>by omega),HRU,agw.out⟩
          case round=>
           obtain⟨m,cnt,y,hmm,rfl,rfl,rfl,hcn,hy1,hy2,HCT,HBP,HRU,hgr⟩:=hrel;have MB:=hid hgr;clear hgr;by_cases hlm:m<M1
           ·have am7:(m:Int)< (M1:Int):=by omega
            have am8:m<=64:=by omega
            obtain⟨pr,hpr⟩:∃ x,x=m*cross:=⟨_,rfl⟩
            have ae8:pr<=65*64:=by rw[hpr];exact uS (by omega) (by omega)
            have hp2:(m:Int)*(cross:Int)=(pr:Int):=by rw[hpr];simp
            obtain⟨sm,hsm⟩:∃ x,x=start+pr:=⟨_,rfl⟩
            have hs2:(start:Int)+(pr:Int)=(sm:Int):=by rw[hsm];simp
            obtain⟨r,hr⟩:∃ x,x=sm%n:=⟨_,rfl⟩
            have hrn:r<n:=by rw[hr];exact vU _ (by omega)
            have ht:((sm:Int)).tmod (n:Int)=(r:Int):=by rw[yS (by omega),hr];simp
            have w1:IntKind.i64.wrap (pr:Int)=(pr:Int):=IntWalk.i64_in _ (by omega);have w2:IntKind.i64.wrap (sm:Int)=(sm:Int):=IntWalk.i64_in _ (by omega);have w3:IntKind.i64.wrap (r:Int)=(r:Int):=IntWalk.i64_in _ (by omega);have t0:(((n:Nat):Int)==0)=false:=by simp;omega
            have t1n:¬ ((n:Nat):Int)=0:=by omega
            have hr0:(0:Int)<=(r:Int):=by omega
            have aju:(r:Int)< (n:Int):=by omega
            have hln:=HLN.out.grownBy MB.out (.inr fun e=>absurd (wW (show some g5=some cb from e)) (by omega));have hcl:=hln.cell (i:=r) (by simp[D8];exact hrn);obtain⟨x,hx⟩:∃ x,x=pY bs n r step:=⟨_,rfl⟩
            rw[show(D8 bs n step).getD r 0=(x:Int) by rw[hx];simp[D8,List.getD,hrn]] at hcl;obtain⟨c2,hc2⟩:∃ c,c=min cnt x:=⟨_,rfl⟩
            have HC2:Hid (c2=KO bs n step cross start m):=hid (by
             rw[hc2,hx,hr,hsm,hpr];rcases HCT.out with⟨rfl,rfl⟩|⟨k,rfl,rfl⟩<;>rfl)
            have hmin:min (cnt:Int) (x:Int)=(c2:Int):=by omega
            have Zx:c2<=n:=by omega
            clear hpr hsm hr hx hc2 hln;by_cases hz:c2=0
            ·have tz:(((c2:Nat):Int)==0)=true:=by simp;omega
             have HZ:=hid hz;clear hz;go_wp2_with(fail)
             go_roundw;case rel=>exact⟨start+1,y,by omega,by go_num,rfl,hy1,hy2,hid (HBP.out.mono fun a b c d hv h=>by
              by_cases e:a=step/\b=cross/\c=start/\¬ d<m
              ·obtain⟨rfl,rfl,rfl,e4⟩:=e;have h1:=hv.pos;have h2:=rD (bs:=bs) (n:=n) (step:=a) (cross:=b) (start:=c) (show m<=d by omega);have h3:=HC2.out;have h4:=HZ.out;omega
              ·omega),HRU,MB.out⟩
             case measure=>simp[intOf];omega
            ·have tz:(((c2:Nat):Int)==0)=false:=by simp;omega
             have HZ:=hid hz;clear hz;have hc0:1<=c2:=by have:=HZ.out;omega
             have wv1:IntKind.i64.wrap ((c2:Int)+1)=(c2:Int)+1:=IntWalk.i64_in _ (by omega);have wv2:IntKind.i64.wrap ((c2:Int)+1+(m:Int))=(c2:Int)+1+(m:Int):=IntWalk.i64_in _ (by omega);by_cases hyv:y<c2+1+m
             ·have tv:decide ((y:Int)< (c2:Int)+1+(m:Int))=true:=by simp;omega
              have HYV:=hid hyv;clear hyv;obtain⟨a0,a1,a2,a3,a4,hbk,hfz⟩:=HRU.out;have adR:=hid hbk;have adS:=hid hfz;have x0:=hbk.2 0 _ rfl;have x1:=hbk.2 1 _ rfl;have x2:=hbk.2 2 _ rfl;have x3:=hbk.2 3 _ rfl;have x4:=hbk.2 4 _ rfl;have f0:=hfz.2 0;have f1:=hfz.2 1;have f2:=hfz.2 2;have f3:=hfz.2 3;have f4:=hfz.2 4;have lcb:cb<wr.heap.size:=hbk.1;clear hbk hfz;by_cases hm0:m=0
              ·have tmm:(((m:Nat):Int)==0)=true:=by simp;omega
               have HMM:=hid hm0;clear hm0;have HUP:Hid (iw bs n most (fun a b c d=>a<step∨(a=step/\(b<cross∨(b=cross/\(c<start∨(c=start/\d<m+1)))))) (c2+1+m)):=hid (by
                have e:Hw bs n step cross start m=c2+1+m:=by unfold Hw;rw[<-HC2.out]
                rw[<-e];exact(HBP.out.up ⟨hlt,HGD.out.symm.trans HG1.out,hlc,fun h=>by have:=HBK.out;omega,hls,by have:=HM1.out;omega,by rw[<-HC2.out];omega,.inl HMM.out⟩ (by rw[e];exact HYV.out)).mono fun a b c d _ h=>by omega)
               go_wp2_with(fail)
               go_roundw;case rel=>exact⟨m+1,c2,c2+1+m,by omega,by go_num,rfl,by rfl,Zx,by omega,by omega,hid (.inr ⟨m,rfl,HC2.out⟩),HUP,hid ⟨_,_,_,_,_,adR.out.mG _ _ _ _ _,fE (fE (fE (fE (fE adS.out _ _ _) _ _ _) _ _ _) _ _ _) _ _ _⟩,aO MB.out (cZ _ _ _ _ _ _ _)⟩
               case measure=>simp[intOf];omega
              ·have tmm:(((m:Nat):Int)==0)=false:=by simp;omega
               have HMM:=hid hm0;have HDC:=hid (qF (cross:Int) n wr (by omega) (by omega));rw[show((cross:Int)%(n:Int)).toNat=cross%n by omega] at HDC;obtain⟨gc,hgc⟩:∃ x,x=Nat.gcd (cross%n) n:=⟨_,rfl⟩
               rw[<-hgc] at HDC;have HGC:=hid hgc;clear hgc hm0 x0 x1 x2 x3 x4 f0 f1 f2 f3 f4 lcb;by_cases hle:gc<=c2
               ·have tle:decide ((gc:Int)<=(c2:Int))=true:=by simp;omega
                have aja:decide (gc<=c2)=true:=by simp;omega
                have HUP:Hid (iw bs n most (fun a b c d=>a<step∨(a=step/\(b<cross∨(b=cross/\(c<start∨(c=start/\d<m+1)))))) (c2+1+m)):=hid (by
                 have e:Hw bs n step cross start m=c2+1+m:=by unfold Hw;rw[<-HC2.out]
                 rw[<-e];exact(HBP.out.up ⟨hlt,HGD.out.symm.trans HG1.out,hlc,fun h=>by have:=HBK.out;omega,hls,by have:=HM1.out;omega,by rw[<-HC2.out];omega,.inr (by rw[<-HC2.out,<-HGC.out];exact hle)⟩ (by rw[e];exact HYV.out)).mono fun a b c d _ h=>by omega)
                clear hle;go_wp2_with(go_at_call 62;(with_reducible refine HDC.out.mono ?_);rintro e w7 ⟨rfl,hk7⟩;have HK7:=hid hk7;have hb7:=adR.out.kept hk7;have hf7:=adS.out.kept hk7;have HB7:=hid hb7;have HF7:=hid hf7;have x0:=hb7.2 0 _ rfl;have x1:=hb7.2 1 _ rfl;have x2:=hb7.2 2 _ rfl;have x3:=hb7.2 3 _ rfl;have x4:=hb7.2 4 _ rfl;have f0:=hf7.2 0;have f1:=hf7.2 1;have f2:=hf7.2 2;have f3:=hf7.2 3;have f4:=hf7.2 4;have lcb:=hb7.1;clear hb7 hf7 hk7)
                go_roundw;case rel=>exact⟨m+1,c2,c2+1+m,by omega,by go_num,rfl,by rfl,Zx,by omega,by omega,hid (.inr ⟨m,rfl,HC2.out⟩),HUP,hid ⟨_,_,_,_,_,HB7.out.mG _ _ _ _ _,fE (fE (fE (fE (fE HF7.out _ _ _) _ _ _) _ _ _) _ _ _) _ _ _⟩,aO (bJ MB.out HK7.out) (cZ _ _ _ _ _ _ _)⟩
                case measure=>simp[intOf];omega
               ·have tle:decide ((gc:Int)<=(c2:Int))=false:=by simp;omega
                have aja:decide (gc<=c2)=false:=by simp;omega
                have HLE:=hid hle;clear hle;go_wp2_with(go_at_call 62;(with_reducible refine HDC.out.mono ?_);rintro e w7 ⟨rfl,hk7⟩;have HK7:=hid hk7;clear hk7)
                go_roundw;case rel=>exact⟨m+1,c2,y,by omega,by go_num,rfl,rfl,Zx,hy1,hy2,hid (.inr ⟨m,rfl,HC2.out⟩),hid ((HBP.out.same (step:=step) (cross:=cross) (start:=start) (more:=m) (fun hv=>by
                 rcases hv.ok with h1|h1
                 ·exact absurd h1 HMM.out
                 ·rw[<-HC2.out,<-HGC.out] at h1;exact absurd h1 HLE.out)).mono fun a b c d hv h=>by omega),hid (HRU.out.kept HK7.out),bJ MB.out HK7.out⟩
                case measure=>simp[intOf];omega
             ·have tv:decide ((y:Int)< (c2:Int)+1+(m:Int))=false:=by simp;omega
              have HYV:=hid hyv;clear hyv;go_wp2_with(fail)
              go_roundw;case rel=>exact⟨m+1,c2,y,by omega,by go_num,rfl,rfl,Zx,hy1,hy2,hid (.inr ⟨m,rfl,HC2.out⟩),hid ((HBP.out.same (step:=step) (cross:=cross) (start:=start) (more:=m) (fun _=>by have h1:=HC2.out;have h2:=HYV.out;unfold Hw;omega)).mono fun a b c d hv h=>by omega),HRU,MB.out⟩
              case measure=>simp[intOf];omega
           ·have hmn:m=M1:=by omega
            go_wp2_with(fail)
            go_roundw;case rel=>exact⟨start+1,y,by omega,by go_num,rfl,hy1,hy2,hid (HBP.out.mono fun a b c d hr h=>by
             have h1:=hr.m;have h2:=HM1.out;omega),HRU,MB.out⟩
            case measure=>simp[intOf];omega
         ·have hsn:start=n:=by omega
          go_wp2_with(fail)
          go_roundw;case rel=>exact⟨cross+1,y,by omega,by go_num,rfl,hy1,hy2,hid (HBP.out.mono fun a b c d hr h=>by
           have h1:=hr.st;omega),HRU,agw.out⟩
          case measure=>simp[intOf];omega
       ·have tm:(((most:Nat):Int)==0)=false:=by simp;omega
        have HM0:=hid hm0;clear hm0;go_upto_region 14 with(fail)
        obtain⟨wb,hwb⟩:∃ x,x=wr:=⟨_,rfl⟩
        subst hwb;go_wp2_with(fail)
        go_loopw [51,10] (fun vs vb wx=>∃ start y:Nat,start<=n/\vs=.int .i64 start/\vb=.int .i64 y/\1<=y/\y<=200/\Hid (iw bs n most (fun a b c _=>a<step∨(a=step/\(b<cross∨(b=cross/\c<start)))) y)/\Hid (RuM wx cb)/\w5.grownBy wx (some cb)) (fun vs _ _=>n- (intOf vs).toNat)
        case atStart=>exact⟨0,y,by omega,rfl,rfl,hy1,hy2,hid (HBP.out.mono fun a b c d hr h=>by omega),HRU,ahf.out⟩
        case round=>
         obtain⟨start,y,hsr,rfl,rfl,hy1,hy2,HBP,HRU,hgr⟩:=hrel;have agw:=hid hgr;clear hgr;by_cases hls:start<n
         ·have am6:(start:Int)< (n:Int):=by omega
          obtain⟨wd,hwd⟩:∃ x,x=wr:=⟨_,rfl⟩
          subst hwd;go_wp2_with(fail)
          go_loopw [57,16,10] (fun vm vc vb wx=>∃ m cnt y:Nat,m<=M1/\vm=.int .i64 m/\vc=.int .i64 cnt/\vb=.int .i64 y/\cnt<=n/\1<=y/\y<=200/\Hid ((m=0/\cnt=n)∨ ∃ k,m=k+1/\cnt=KO bs n step cross start k)/\
           Hid (iw bs n most (fun a b c d=>a<step∨(a=step/\(b<cross∨(b=cross/\(c<start∨(c=start/\d<m)))))) y)/\Hid (RuM wx cb)/\w5.grownBy wx (some cb)) (fun vm _ _ _=>M1- (intOf vm).toNat)
          case atStart=>exact⟨0,n,y,by omega,rfl,rfl,rfl,by omega,hy1,hy2,hid (.inl ⟨rfl,rfl⟩),hid (HBP.out.mono fun a b c d hr h=>by omega),HRU,agw.out⟩
          case round=>
           obtain⟨m,cnt,y,hmm,rfl,rfl,rfl,hcn,hy1,hy2,HCT,HBP,HRU,hgr⟩:=hrel;have MB:=hid hgr;clear hgr;by_cases hlm:m<M1
           ·have am7:(m:Int)< (M1:Int):=by omega
            have am8:m<=64:=by omega
            obtain⟨pr,hpr⟩:∃ x,x=m*cross:=⟨_,rfl⟩
            have ae8:pr<=65*64:=by rw[hpr];exact uS (by omega) (by omega)
            have hp2:(m:Int)*(cross:Int)=(pr:Int):=by rw[hpr];simp
            obtain⟨sm,hsm⟩:∃ x,x=start+pr:=⟨_,rfl⟩
            have hs2:(start:Int)+(pr:Int)=(sm:Int):=by rw[hsm];simp
            obtain⟨r,hr⟩:∃ x,x=sm%n:=⟨_,rfl⟩
            have hrn:r<n:=by rw[hr];exact vU _ (by omega)
            have ht:((sm:Int)).tmod (n:Int)=(r:Int):=by rw[yS (by omega),hr];simp
            have w1:IntKind.i64.wrap (pr:Int)=(pr:Int):=IntWalk.i64_in _ (by omega);have w2:IntKind.i64.wrap (sm:Int)=(sm:Int):=IntWalk.i64_in _ (by omega);have w3:IntKind.i64.wrap (r:Int)=(r:Int):=IntWalk.i64_in _ (by omega);have t0:(((n:Nat):Int)==0)=false:=by simp;omega
            have t1n:¬ ((n:Nat):Int)=0:=by omega
            have hr0:(0:Int)<=(r:Int):=by omega
            have aju:(r:Int)< (n:Int):=by omega
            have hln:=HLN.out.grownBy MB.out (.inr fun e=>absurd (wW (show some g5=some cb from e)) (by omega));have hcl:=hln.cell (i:=r) (by simp[D8];exact hrn);obtain⟨x,hx⟩:∃ x,x=pY bs n r step:=⟨_,rfl⟩
            rw[show(D8 bs n step).getD r 0=(x:Int) by rw[hx];simp[D8,List.getD,hrn]] at hcl;obtain⟨c2,hc2⟩:∃ c,c=min cnt x:=⟨_,rfl⟩
            have HC2:Hid (c2=KO bs n step cross start m):=hid (by
             rw[hc2,hx,hr,hsm,hpr];rcases HCT.out with⟨rfl,rfl⟩|⟨k,rfl,rfl⟩<;>rfl)
            have hmin:min (cnt:Int) (x:Int)=(c2:Int):=by omega
            have Zx:c2<=n:=by omega
            clear hpr hsm hr hx hc2 hln;by_cases hz:c2=0
            ·have tz:(((c2:Nat):Int)==0)=true:=by simp;omega
             have HZ:=hid hz;clear hz;go_wp2_with(fail)
             go_roundw;case rel=>exact⟨start+1,y,by omega,by go_num,rfl,hy1,hy2,hid (HBP.out.mono fun a b c d hv h=>by
              by_cases e:a=step/\b=cross/\c=start/\¬ d<m
              ·obtain⟨rfl,rfl,rfl,e4⟩:=e;have h1:=hv.pos;have h2:=rD (bs:=bs) (n:=n) (step:=a) (cross:=b) (start:=c) (show m<=d by omega);have h3:=HC2.out;have h4:=HZ.out;omega
              ·omega),HRU,MB.out⟩
             case measure=>simp[intOf];omega
            ·have tz:(((c2:Nat):Int)==0)=false:=by simp;omega
             have HZ:=hid hz;clear hz;have hc0:1<=c2:=by have:=HZ.out;omega
             have wv1:IntKind.i64.wrap ((c2:Int)+1)=(c2:Int)+1:=IntWalk.i64_in _ (by omega);have wv2:IntKind.i64.wrap ((c2:Int)+1+(m:Int))=(c2:Int)+1+(m:Int):=IntWalk.i64_in _ (by omega);by_cases hyv:y<c2+1+m
             ·have tv:decide ((y:Int)< (c2:Int)+1+(m:Int))=true:=by simp;omega
              have HYV:=hid hyv;clear hyv;obtain⟨a0,a1,a2,a3,a4,hbk,hfz⟩:=HRU.out;have adR:=hid hbk;have adS:=hid hfz;have x0:=hbk.2 0 _ rfl;have x1:=hbk.2 1 _ rfl;have x2:=hbk.2 2 _ rfl;have x3:=hbk.2 3 _ rfl;have x4:=hbk.2 4 _ rfl;have f0:=hfz.2 0;have f1:=hfz.2 1;have f2:=hfz.2 2;have f3:=hfz.2 3;have f4:=hfz.2 4;have lcb:cb<wr.heap.size:=hbk.1;clear hbk hfz;by_cases hm0:m=0
              ·have tmm:(((m:Nat):Int)==0)=true:=by simp;omega
               have HMM:=hid hm0;clear hm0;have HUP:Hid (iw bs n most (fun a b c d=>a<step∨(a=step/\(b<cross∨(b=cross/\(c<start∨(c=start/\d<m+1)))))) (c2+1+m)):=hid (by
                have e:Hw bs n step cross start m=c2+1+m:=by unfold Hw;rw[<-HC2.out]
                rw[<-e];exact(HBP.out.up ⟨hlt,HGD.out.symm.trans HG1.out,hlc,fun h=>by have:=HBK.out;omega,hls,by have:=HM1.out;omega,by rw[<-HC2.out];omega,.inl HMM.out⟩ (by rw[e];exact HYV.out)).mono fun a b c d _ h=>by omega)
               go_wp2_with(fail)
               go_roundw;case rel=>exact⟨m+1,c2,c2+1+m,by omega,by go_num,rfl,by rfl,Zx,by omega,by omega,hid (.inr ⟨m,rfl,HC2.out⟩),HUP,hid ⟨_,_,_,_,_,adR.out.mG _ _ _ _ _,fE (fE (fE (fE (fE adS.out _ _ _) _ _ _) _ _ _) _ _ _) _ _ _⟩,aO MB.out (cZ _ _ _ _ _ _ _)⟩
               case measure=>simp[intOf];omega
              ·have tmm:(((m:Nat):Int)==0)=false:=by simp;omega
               have HMM:=hid hm0;have HDC:=hid (qF (cross:Int) n wr (by omega) (by omega));rw[show((cross:Int)%(n:Int)).toNat=cross%n by omega] at HDC;obtain⟨gc,hgc⟩:∃ x,x=Nat.gcd (cross%n) n:=⟨_,rfl⟩
               rw[<-hgc] at HDC;have HGC:=hid hgc;clear hgc hm0 x0 x1 x2 x3 x4 f0 f1 f2 f3 f4 lcb;by_cases hle:gc<=c2
               ·have tle:decide ((gc:Int)<=(c2:Int))=true:=by simp;omega
                have aja:decide (gc<=c2)=true:=by simp;omega
                have HUP:Hid (iw bs n most (fun a b c d=>a<step∨(a=step/\(b<cross∨(b=cross/\(c<start∨(c=start/\d<m+1)))))) (c2+1+m)):=hid (by
                 have e:Hw bs n step cross start m=c2+1+m:=by unfold Hw;rw[<-HC2.out]
                 rw[<-e];exact(HBP.out.up ⟨hlt,HGD.out.symm.trans HG1.out,hlc,fun h=>by have:=HBK.out;omega,hls,by have:=HM1.out;omega,by rw[<-HC2.out];omega,.inr (by rw[<-HC2.out,<-HGC.out];exact hle)⟩ (by rw[e];exact HYV.out)).mono fun a b c d _ h=>by omega)
                clear hle;go_wp2_with(go_at_call 62;(with_reducible refine HDC.out.mono ?_);rintro e w7 ⟨rfl,hk7⟩;have HK7:=hid hk7;have hb7:=adR.out.kept hk7;have hf7:=adS.out.kept hk7;have HB7:=hid hb7;have HF7:=hid hf7;have x0:=hb7.2 0 _ rfl;have x1:=hb7.2 1 _ rfl;have x2:=hb7.2 2 _ rfl;have x3:=hb7.2 3 _ rfl;have x4:=hb7.2 4 _ rfl;have f0:=hf7.2 0;have f1:=hf7.2 1;have f2:=hf7.2 2;have f3:=hf7.2 3;have f4:=hf7.2 4;have lcb:=hb7.1;clear hb7 hf7 hk7)
                go_roundw;case rel=>exact⟨m+1,c2,c2+1+m,by omega,by go_num,rfl,by rfl,Zx,by omega,by omega,hid (.inr ⟨m,rfl,HC2.out⟩),HUP,hid ⟨_,_,_,_,_,HB7.out.mG _ _ _ _ _,fE (fE (fE (fE (fE HF7.out _ _ _) _ _ _) _ _ _) _ _ _) _ _ _⟩,aO (bJ MB.out HK7.out) (cZ _ _ _ _ _ _ _)⟩
                case measure=>simp[intOf];omega
               ·have tle:decide ((gc:Int)<=(c2:Int))=false:=by simp;omega
                have aja:decide (gc<=c2)=false:=by simp;omega
                have HLE:=hid hle;clear hle;go_wp2_with(go_at_call 62;(with_reducible refine HDC.out.mono ?_);rintro e w7 ⟨rfl,hk7⟩;have HK7:=hid hk7;clear hk7)
                go_roundw;case rel=>exact⟨m+1,c2,y,by omega,by go_num,rfl,rfl,Zx,hy1,hy2,hid (.inr ⟨m,rfl,HC2.out⟩),hid ((HBP.out.same (step:=step) (cross:=cross) (start:=start) (more:=m) (fun hv=>by
                 rcases hv.ok with h1|h1
                 ·exact absurd h1 HMM.out
                 ·rw[<-HC2.out,<-HGC.out] at h1;exact absurd h1 HLE.out)).mono fun a b c d hv h=>by omega),hid (HRU.out.kept HK7.out),bJ MB.out HK7.out⟩
                case measure=>simp[intOf];omega
             ·have tv:decide ((y:Int)< (c2:Int)+1+(m:Int))=false:=by simp;omega
              have HYV:=hid hyv;clear hyv;go_wp2_with(fail)
              go_roundw;case rel=>exact⟨m+1,c2,y,by omega,by go_num,rfl,rfl,Zx,hy1,hy2,hid (.inr ⟨m,rfl,HC2.out⟩),hid ((HBP.out.same (step:=step) (cross:=cross) (start:=start) (more:=m) (fun _=>by have h1:=HC2.out;have h2:=HYV.out;unfold Hw;omega)).mono fun a b c d hv h=>by omega),HRU,MB.out⟩
              case measure=>simp[intOf];omega
           ·have hmn:m=M1:=by omega
            go_wp2_with(fail)
            go_roundw;case rel=>exact⟨start+1,y,by omega,by go_num,rfl,hy1,hy2,hid (HBP.out.mono fun a b c d hr h=>by
             have h1:=hr.m;have h2:=HM1.out;omega),HRU,MB.out⟩
            case measure=>simp[intOf];omega
         ·have hsn:start=n:=by omega
          go_wp2_with(fail)
          go_roundw;case rel=>exact⟨cross+1,y,by omega,by go_num,rfl,hy1,hy2,hid (HBP.out.mono fun a b c d hr h=>by
           have h1:=hr.st;omega),HRU,agw.out⟩
          case measure=>simp[intOf];omega
     ·have hcn:cross=n:=by omega
      go_wp2_with(fail)
      go_roundw;case rel=>exact⟨step+1,y,by omega,by go_num,rfl,hy1,hy2,hid (HBP.out.mono fun a b c d hr h=>by
       have h1:=hr.c;omega),HRU,aO HG5.out ahf.out⟩
      case measure=>simp[intOf];omega
   ·have tg:(((gd:Nat):Int) != 1)=true:=by simp;omega
    have HG1:=hid hg1;clear hg1;go_wp2_with(go_at_call 62;(with_reducible refine HDV.out.mono ?_);rintro e w4 ⟨rfl,hk4⟩;have HK4:=hid hk4;clear hk4)
    go_roundw;case rel=>exact⟨step+1,y,by omega,by go_num,rfl,hy1,hy2,hid (HBP.out.mono fun a b c d hr h=>by
     by_cases e:a=step
     ·exact absurd (HGD.out.trans (by rw[<-e];exact hr.g)) HG1.out
     ·omega),hid (HRU.out.kept HK4.out),bJ HGR.out HK4.out⟩
    case measure=>simp[intOf];omega
  ·have hsn:step=n:=by omega
   obtain⟨a0,a1,a2,a3,a4,hbk,hfz⟩:=HRU.out;have adR:=hid hbk;have adS:=hid hfz;have hbr:=HBR.out.kept ai9.out;have hfr:=HFR.out.kept ai9.out;have ahd:=hid hbr;have adI:=hid hfr;have HAL:Hid (iw (fJ n l) n most (fun _ _ _ _=>True) y):=hid (by rw[<-HBS.out];exact HBP.out.mono fun a b c d hr _=>by have:=hr.s;omega);have hrc:rb<cb:=by have h1:=HBR.out.1;omega
   have hnr:¬ cb=rb:=by omega
   have aoH:¬ rb=cb:=by omega
   have x0:=hbk.2 0 _ rfl;have x1:=hbk.2 1 _ rfl;have x2:=hbk.2 2 _ rfl;have x3:=hbk.2 3 _ rfl;have x4:=hbk.2 4 _ rfl;have f3:=hfz.2 3;have lcb:cb<wr.heap.size:=hbk.1;have y0:=hbr.2 0 _ rfl;have y1:=hbr.2 1 _ rfl;have y2:=hbr.2 2 _ rfl;have y3:=hbr.2 3 _ rfl;have y4:=hbr.2 4 _ rfl;have g0':=hfr.2 0;have g1':=hfr.2 1;have g2':=hfr.2 2;have g3':=hfr.2 3;have g4':=hfr.2 4;have lrb:rb<wr.heap.size:=hbr.1;have hkw:ay w wr:=HK1.out.tr ai9.out;have HKW:=hid hkw;clear hbk hfz hbr hfr hlt hkw;by_cases h4:a4=0
   ·have t4:(a4==0)=true:=by simpa using h4
    have H4:=hid h4;clear h4;go_upto_region 31 with(fail)
    go_region_law(fail)
    all_goals
     go_wp2_with(fail)
     have hk1:ay w (wr.setCell ⟨cb,3,none⟩ (.int .i64 0)):=aA _ HKW.out (by have:=HRB.out;omega);have hrw:w.heap.size<=rb:=xK HRB.out.symm;have hbf:=((ahd.out.oth hnr (k:=3) (.int .i64 0)).mG (.int .i64 a0) (.int .i64 a1) (.int .i64 a2) (.int .i64 0) (.int .i64 a4)).kept (aC _);have hkf:=(aA (i:=4) (.int .i64 a4) (aA (i:=3) (.int .i64 0) (aA (i:=2) (.int .i64 a2) (aA (i:=1) (.int .i64 a1) (aA (i:=0) (.int .i64 a0) hk1 hrw) hrw) hrw) hrw) hrw).tr (aC _);exact bodyPost_ret (mZ rfl rfl (BF hbf)) rfl ⟨y,_,_,_,_,_,rfl,HAL.out,hy1,hkf⟩
   ·have t4:(a4==0)=false:=by simpa using h4
    have H4:=hid h4;clear h4;go_upto_region 31 with(fail)
    go_region_law(fail)
    all_goals
     go_wp2_with(fail)
     have hrw:w.heap.size<=rb:=xK HRB.out.symm;have hbf:=(ahd.out.mG (.int .i64 a0) (.int .i64 a1) (.int .i64 a2) (.int .i64 a3) (.int .i64 a4)).kept (aC _);have hkf:=(aA (i:=4) (.int .i64 a4) (aA (i:=3) (.int .i64 a3) (aA (i:=2) (.int .i64 a2) (aA (i:=1) (.int .i64 a1) (aA (i:=0) (.int .i64 a0) HKW.out hrw) hrw) hrw) hrw) hrw).tr (aC _);exact bodyPost_ret (mZ rfl rfl (BF hbf)) rfl ⟨y,_,_,_,_,_,rfl,HAL.out,hy1,hkf⟩
end
section
set_option maxRecDepth 100000
open Go.RowKit Cw Cw.Gj
def akG (n most:Nat) (l:List Int) (w:World) (e:Ending) (w':World):Prop:=Zw n most l w e w'
theorem VX (n:Nat) (v:Value) (l:List Int) (w:World) (hv:Sl w v l) (hn:1<=n) (hn2:n<=64):
  Calls Tryz.prog 9 #[.int .i64 n,v] w (akG n 0 l w):=by
 obtain⟨W1,hW1⟩:∃ x,x=w.alloc (.cells #[.int .i64 0,.int .i64 0,.int .i64 0,.int .i64 0,.int .i64 0] 37):=⟨_,rfl⟩
 obtain⟨rb,hrb⟩:∃ x,x=w.heap.size:=⟨_,rfl⟩
 have hk1:ay w W1:=by rw[hW1];exact ah _ _
 have br:Bk W1 rb [.int .i64 0,.int .i64 0,.int .i64 0,.int .i64 0,.int .i64 0]:=by rw[hW1];exact aG _ [.int .i64 0,.int .i64 0,.int .i64 0,.int .i64 0,.int .i64 0] _ _ (by rw[hrb])
 have fr:Fz W1 rb:=by rw[hW1];exact bD _ _ _ _ (by rw[hrb])
 have HB:=hid (show Calls Tryz.prog 28 #[.int .i64 n,v,.int .i64 0] W1 (Zw n 0 l W1) from Oj n 0 v l W1 (hv.kept hk1) hn hn2 (by omega));have HBR:=hid br;have HFR:=hid fr;have HK1:=hid hk1;have HRB:=hid hrb;clear hk1 br fr hv;go_enter Tryz.func9,Tryz.ntmps9;go_upto_region 1 with(fail)
 rw[<-hW1,<-hrb];clear hW1 hrb;go_wp2_with(go_at_call 28;(with_reducible refine HB.out.mono ?_);rintro e w2 ⟨y,r0,r1,r2,r3,r4,rfl,hbp,hy1,hk2⟩;have HK2:=hid (HK1.out.tr hk2);have HBP:=hid hbp;have HY:=hid hy1;have hbr:=HBR.out.kept hk2;have hfr:=HFR.out.kept hk2;have Me:=hid hbr;have z0:=hbr.2 0 _ rfl;have z1:=hbr.2 1 _ rfl;have z2:=hbr.2 2 _ rfl;have z3:=hbr.2 3 _ rfl;have z4:=hbr.2 4 _ rfl;have f0:=hfr.2 0;have f1:=hfr.2 1;have f2:=hfr.2 2;have f3:=hfr.2 3;have f4:=hfr.2 4;have lb:=hbr.1;clear hbr hfr hk2 hbp hy1)
 refine bodyPost_ret (mZ rfl rfl (BF (Me.out.mG _ _ _ _ _))) rfl ⟨y,r0,r1,r2,r3,r4,rfl,HBP.out,HY.out, ?_⟩;exact aH HK2.out (cZ _ _ _ _ _ _ _) (show w.heap.size<=rb by have:=HRB.out;omega) HK2.out.size
theorem VY (n:Nat) (v:Value) (l:List Int) (w:World) (hv:Sl w v l) (hn:1<=n) (hn2:n<=64):
  Calls Tryz.prog 10 #[.int .i64 n,v] w (akG n n l w):=by
 obtain⟨W1,hW1⟩:∃ x,x=w.alloc (.cells #[.int .i64 0,.int .i64 0,.int .i64 0,.int .i64 0,.int .i64 0] 37):=⟨_,rfl⟩
 obtain⟨rb,hrb⟩:∃ x,x=w.heap.size:=⟨_,rfl⟩
 have hk1:ay w W1:=by rw[hW1];exact ah _ _
 have br:Bk W1 rb [.int .i64 0,.int .i64 0,.int .i64 0,.int .i64 0,.int .i64 0]:=by rw[hW1];exact aG _ [.int .i64 0,.int .i64 0,.int .i64 0,.int .i64 0,.int .i64 0] _ _ (by rw[hrb])
 have fr:Fz W1 rb:=by rw[hW1];exact bD _ _ _ _ (by rw[hrb])
 have HB:=hid (show Calls Tryz.prog 28 #[.int .i64 n,v,.int .i64 n] W1 (Zw n n l W1) from Oj n n v l W1 (hv.kept hk1) hn hn2 (by omega));have HBR:=hid br;have HFR:=hid fr;have HK1:=hid hk1;have HRB:=hid hrb;clear hk1 br fr hv;go_enter Tryz.func10,Tryz.ntmps10;go_upto_region 1 with(fail)
 rw[<-hW1,<-hrb];clear hW1 hrb;go_wp2_with(go_at_call 28;(with_reducible refine HB.out.mono ?_);rintro e w2 ⟨y,r0,r1,r2,r3,r4,rfl,hbp,hy1,hk2⟩;have HK2:=hid (HK1.out.tr hk2);have HBP:=hid hbp;have HY:=hid hy1;have hbr:=HBR.out.kept hk2;have hfr:=HFR.out.kept hk2;have Me:=hid hbr;have z0:=hbr.2 0 _ rfl;have z1:=hbr.2 1 _ rfl;have z2:=hbr.2 2 _ rfl;have z3:=hbr.2 3 _ rfl;have z4:=hbr.2 4 _ rfl;have f0:=hfr.2 0;have f1:=hfr.2 1;have f2:=hfr.2 2;have f3:=hfr.2 3;have f4:=hfr.2 4;have lb:=hbr.1;clear hbr hfr hk2 hbp hy1)
 refine bodyPost_ret (mZ rfl rfl (BF (Me.out.mG _ _ _ _ _))) rfl ⟨y,r0,r1,r2,r3,r4,rfl,HBP.out,HY.out, ?_⟩;exact aH HK2.out (cZ _ _ _ _ _ _ _) (show w.heap.size<=rb by have:=HRB.out;omega) HK2.out.size
end
end Go.Proofs.YtoilbeadokallaaGreatDoor
