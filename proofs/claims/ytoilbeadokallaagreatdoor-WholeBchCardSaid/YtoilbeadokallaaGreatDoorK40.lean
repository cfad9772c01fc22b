/- Lemmas on the way to the row. Conditions: each lemma's own, stated with it. -/
import Derived.Test.YtoilbeadokallaaGreatDoorK03
import Derived.Test.YtoilbeadokallaaGreatDoorK05
import Derived.Test.YtoilbeadokallaaGreatDoorK08
import Derived.Test.YtoilbeadokallaaGreatDoorK10
import Derived.Test.YtoilbeadokallaaGreatDoorK15
import Derived.Deep.Matrix
import Derived.Deep.Strs
import Derived.Maps.AppendAt
import Derived.RangeFuncBox
import Derived.RangeFuncWrites
set_option maxHeartbeats 8000000
namespace Go.Proofs.YtoilbeadokallaaGreatDoor
section
set_option maxRecDepth 100000
open Go.ChangeShapes Go.WideShapes Go.ChangeAt Go.RowKit Go.Joins Cw
theorem Tryz.cellsI3:Tryz.prog.cellsOf 25=3:=by kernel_rfl
theorem LQ {H:Type} {enc:TypeId×Value->H} {W:World} {base:Nat} {v:Value} {d:DataW H} {p:List MemPlace} (hv:Value.okWide Tryz.prog W .any base 25 v) (h:DataW.Trod enc Tryz.prog W 0 (fun _=>true) true 25 v d p):
  ∃ x y z:Int,v=.agg #[.int .i64 x,.int .i64 y,.int .i64 z]:=by
 have h2:=hv;simp only[Value.okWide,Tryz.underlying25] at h2;obtain⟨cs,rfl,h3,_⟩:=h2;rw[Tryz.cellsI3] at h3;obtain⟨c0,c1,c2,rfl⟩:=array3 h3;obtain⟨fuel,hf⟩:=h;obtain⟨y0,y1,y2,n,_,hy0,hy1,hy2⟩:=trod_array3 Tryz.underlying25 Tryz.cellsI (by simpa[Value.cells] using hf);obtain⟨x0,e0,_,_⟩:=DataW.trod_int Tryz.underlying3 hy0;obtain⟨x1,e1,_,_⟩:=DataW.trod_int Tryz.underlying3 hy1;obtain⟨x2,e2,_,_⟩:=DataW.trod_int Tryz.underlying3 hy2;simp at e0 e1 e2;subst e0 e1 e2;exact⟨_,_,_,rfl⟩
end
end Go.Proofs.YtoilbeadokallaaGreatDoor
namespace Cw
open Rg Fd PS
structure Hm (α β:Type) [Rg α] [Rg β] where
 f:α->β
 add:∀ x y,f (x+y)=f x+f y
 mul:∀ x y,f (x*y)=f x*f y
 one:f 1=1
namespace Hm
section
variable {α β:Type} [Rg α] [Rg β] (h:Hm α β)
theorem zero:h.f 0=0:=by
 have e:=h.add 0 0;rw[add_zero] at e;exact add_left_cancel (a:=h.f 0) (by rw[add_zero];exact e.symm)
theorem neg (x:α):h.f (-x)=-h.f x:=kJ (by rw[<-h.add,add_neg,h.zero])
theorem sub (x y:α):h.f (x-y)=h.f x-h.f y:=by rw[sub_def,h.add,h.neg,<-sub_def]
theorem ako (g:Nat->α):∀ n,h.f (sm n g)=sm n (fun i=>h.f (g i))
 |0=>h.zero
 |n+1=>by rw[aY,aY,h.add,ako g n]
end
section
variable {α β:Type} [Fd α] [Fd β] (h:Hm α β)
theorem ne {x:α} (hx:x≠0):h.f x≠0:=fun e=>Fd.dO (α:=β) (by rw[<-h.one,<-Fd.jI x hx,h.mul,e,zero_mul])
def mp (p:Pl α):Pl β:=⟨⟨fun i=>h.f (p.a i)⟩,let ⟨n,hn⟩:=p.h;⟨n,fun i hi=>by show h.f (p.a i)=0;rw[hn i hi,h.zero]⟩⟩
theorem Vl (p q:Pl α):h.mp (p+q)=h.mp p+h.mp q:=Pl.ext (PS.ext fun _=>h.add _ _)
theorem Oc (p q:Pl α):h.mp (p*q)=h.mp p*h.mp q:=Pl.ext (PS.ext fun n=>by
 show h.f (sm (n+1) (fun i=>p.a i*q.a (n-i)))=sm (n+1) (fun i=>h.f (p.a i)*h.f (q.a (n-i)));rw[ako];exact aX fun i _=>h.mul _ _)
theorem aaI:h.mp 1=1:=Pl.ext (PS.ext fun i=>by
 show h.f ((1:PS α) i)=(1:PS β) i;rw[BM,BM]
 split
 ·exact h.one
 ·exact h.zero)
theorem aiP {p:Pl α} {n:Nat} (hp:dl p.a n):dl (h.mp p).a n:=fun i hi=>by
 show h.f (p.a i)=0;rw[hp i hi,h.zero]
theorem afU {p:Pl α} {n:Nat} (hp:dl p.a n) (r:β):Pl.ev (h.mp p) r=sm n (fun i=>h.f (p.a i)*pw r i):=(Pl.ql (h.aiP hp) r).symm
end
section
variable {α β:Type} [Fd α] [Fd β] (h:Hm α β)
def ofR {F:Mon α} (x:Rs F):Pl α:=⟨x.a,F.m,x.h⟩
def fP (F:Mon α):Pl α:=⟨F.f,F.m+1,F.hf⟩
noncomputable def ex (F:Mon α) (r:β) (hr:Pl.ev (h.mp (fP F)) r=0):Hm (Rs F) β where
 f x:=Pl.ev (h.mp (ofR x)) r
 add x y:=by rw[show ofR (x+y)=ofR x+ofR y from Pl.ext rfl,h.Vl,Pl.pV]
 mul x y:=by
  obtain⟨q,n,hq,e⟩:=Rs.Ak x y;have e2:ofR x*ofR y=ofR (x*y)+⟨q,n,hq⟩*fP F:=Pl.ext (by
   show x.a*y.a=(x*y).a+q*F.f;rw[<-e,add_comm,sub_add_cancel])
  rw[<-Pl.pW,<-h.Oc,e2,h.Vl,Pl.pV,h.Oc,Pl.pW,hr,mul_zero,add_zero]
 one:=by rw[show ofR (1:Rs F)=1 from Pl.ext rfl,h.aaI,Pl.MN]
theorem amr {F:Mon α} {r:β} (hr:Pl.ev (h.mp (fP F)) r=0) (x:Rs F):(h.ex F r hr).f x=sm F.m (fun i=>h.f (x.a i)*pw r i):=h.afU (p:=ofR x) x.h r
end
end Hm
namespace FS
def kst (T:FS) (x:Int):Rs T.mon:=⟨C (Zp.mk' T.R x),bM (QG _) T.hm⟩
theorem G6 (T:FS) (x:Int):T.kst (x%T.P)=T.kst x:=Rs.ext (by show C (Zp.mk' T.R (x%T.P))=C (Zp.mk' T.R x);rw[Am])
theorem ac0 (T:FS) (x y:Int):T.kst (x+y)=T.kst x+T.kst y:=Rs.ext (by
 show C (Zp.mk' T.R (x+y))=C (Zp.mk' T.R x)+C (Zp.mk' T.R y);rw[<-ahi,Zp.jV])
theorem ac1 (T:FS) (x y:Int):T.kst (x*y)=T.kst x*T.kst y:=(Rs.mul_eq (by
 show Rs.Cg T.mon (C (Zp.mk' T.R x)*C (Zp.mk' T.R y)) (C (Zp.mk' T.R (x*y)));rw[<-Ou,Zp.kQ];exact Rs.nU _)).symm
theorem ac2 (T:FS):T.kst 1=1:=Rs.ext rfl
theorem afV (T:FS) {x:Int} (h0:0<=x) (h1:x<T.P):T.el x=T.kst x:=T.Rl fun i _=>by
 show(C (Zp.mk' T.R x):PS _) i=_;rw[Hr];cases i with
 |zero=>rw[zu rfl,lJ,Am]
 |succ i=>
  rw[zx (by omega),lK T.pos,vF h0 h1];simp[dgt,Zp.mk_zero]
def cH (S T:FS) (h:S.P=T.P):Hm (Zp S.R) (Rs T.mon) where
 f z:=T.kst z.v
 add x y:=by
  show T.kst ((x.v+y.v)%S.P)=_;rw[h,G6,ac0]
 mul x y:=by
  show T.kst ((x.v*y.v)%S.P)=_;rw[h,G6,ac1]
 one:=by
  show T.kst (1%S.P)=_;rw[h,G6,ac2]
theorem afW (S T:FS) (h:S.P=T.P) (x:Int):(cH S T h).f (Zp.mk' S.R x)=T.kst x:=by
 show T.kst (x%S.P)=_;rw[h,G6]
end FS
section
variable {G H:GFd} (t:aK G) (s:aK H)
theorem adM (hP:G.P=H.P):t.fs.P=s.fs.P:=hP
theorem afX {x:Int} (h0:0<=x) (h1:x<H.P):s.e x=s.fs.kst x:=by
 have hp:s.fs.P=H.P:=rfl;have hq:H.P<=H.q:=by
  rw[s.qe];have h2:=ni (p:=s.fs.P) (by have:=s.fs.pos;omega) s.fs.hm;rw[xY,rM,Int.one_mul] at h2;rw[<-hp];exact h2
 rw[s.ZT ⟨h0,by omega⟩];exact FS.afV s.fs h0 (by rw[hp];exact h1)
def RtP (r:Rs s.fs.mon):Prop:=(t.fs.m=1/\r=0)∨(1<t.fs.m/\Pl.ev (s.pl (G.mod++ [1])) r=0)
theorem aiQ (hP:G.P=H.P) {r:Rs s.fs.mon} (hr:RtP t s r):Pl.ev ((FS.cH t.fs s.fs (adM t s hP)).mp (Hm.fP t.fs.mon)) r=0:=by
 rcases hr with⟨h1,rfl⟩|⟨h1,hr⟩
 ·have e:(FS.cH t.fs s.fs (adM t s hP)).mp (Hm.fP t.fs.mon)=Pl.x 1:=Pl.ext (PS.ext fun i=>by
   show(FS.cH t.fs s.fs (adM t s hP)).f (t.fs.mon.f i)=(Pl.x 1).a i;rw[FS.Iu,Pl.adt,h1];by_cases e1:i=1
   ·rw[zu e1,zu e1,Hm.one]
   ·rw[zx e1,zx e1];by_cases e2:i<1
    ·rw[zu e2];unfold FS.low;rw[zx (by omega),Zp.mk_zero,Hm.zero]
    ·rw[zx e2,Hm.zero])
  rw[e,Pl.agC,BL]
 ·have hM:G.M≠1:=fun e=>by
   have:t.fs.m=G.M.toNat:=rfl;omega
  obtain⟨hl,hd⟩:=t.shape.2.2.2 hM;have hml:G.mod.length=t.fs.m:=by
   have:t.fs.m=G.M.toNat:=rfl;omega
  have e:(FS.cH t.fs s.fs (adM t s hP)).mp (Hm.fP t.fs.mon)=s.pl (G.mod++ [1]):=Pl.ext (PS.ext fun i=>by
   show(FS.cH t.fs s.fs (adM t s hP)).f (t.fs.mon.f i)=s.e ((G.mod++ [1]).getD i 0);rw[FS.Iu];by_cases e1:i=t.fs.m
   ·have e5:(G.mod++ [1]).getD i 0=1:=by simp[List.getD,e1,<-hml]
    rw[zu e1,Hm.one,e5,s.iH]
   ·rw[zx e1];by_cases e2:i<t.fs.m
    ·rw[zu e2];unfold FS.low;rw[zu h1,FS.afW];have hi:i<G.mod.length:=by omega
     have e3:(G.mod++ [1]).getD i 0=G.mod[i]:=by simp[List.getD,hi,yU]
     have e4:t.fs.mod.getD i 0=G.mod[i]:=by show G.mod.getD i 0=_;simp[List.getD,hi]
     have hb:=hd _ (zF hi);rw[e3,e4,afX s hb.1 (by rw[<-hP];exact hb.2)]
    ·have e5:(G.mod++ [1]).getD i 0=0:=by simp[List.getD,zT (show(G.mod++ [1]).length<=i by simp;omega)]
     rw[zx e2,Hm.zero,e5,s.bC])
  rw[e];exact hr
noncomputable def emb (hP:G.P=H.P) {r:Rs s.fs.mon} (hr:RtP t s r):Hm (Rs t.fs.mon) (Rs s.fs.mon):=(FS.cH t.fs s.fs (adM t s hP)).ex t.fs.mon r (aiQ t s hP hr)
theorem aiR (hP:G.P=H.P) {r:Rs s.fs.mon} (hr:RtP t s r) {x:Int} (hx:0<=x/\x<G.q):(emb t s hP hr).f (t.e x)=sm t.fs.m (fun i=>s.e (dgt G.P x i)*pw r i):=by
 unfold emb;rw[Hm.amr];refine aX fun i hi=>?_;have hi:i<t.fs.m:=hi;rw[t.ZT hx,FS.OA _ _ hi,FS.afW];have hp:t.fs.P=G.P:=rfl;rw[hp,afX s (x:=dgt G.P x i) (oL (p:=G.P) t.fs.pos i) (by rw[<-hP];exact MF (p:=G.P) t.fs.pos i)]
def lD (H:GFd) (r:Int):Nat->List Int
 |0=>[1]
 |n+1=>lD H r n++ [bF H ((lD H r n).getD n 0) r]
def jQ (G H:GFd) (r:Int):List Int:=(List.range G.q.toNat).map fun(x:Nat)=>Ei H (bY G.P x G.M.toNat) (lD H r (G.M.toNat-1)) G.M.toNat
theorem jG (H:GFd) (r:Int):∀ n,(lD H r n).length=n+1
 |0=>rfl
 |n+1=>by rw[lD,zX,jG H r n];rfl
theorem LU (s:aK H) (r:Int):∀ n i,i<=n->s.e ((lD H r n).getD i 0)=pw (s.e r) i
 |0,i,h=>by
  have:i=0:=by omega
  subst this;exact s.iH
 |n+1,i,h=>by
  rw[lD];by_cases e:i=n+1
  ·subst e;rw[show(lD H r n++ [bF H ((lD H r n).getD n 0) r]).getD (n+1) 0=bF H ((lD H r n).getD n 0) r by simp[List.getD,jG],s.fQ,LU s r n n (zy _),fH]
  ·rw[show(lD H r n++ [bF H ((lD H r n).getD n 0) r]).getD i 0=(lD H r n).getD i 0 by
    have:i< (lD H r n).length:=by rw[jG];omega
    simp[List.getD,yU this]]
   exact LU s r n i (by omega)
theorem afY (s:aK H) (a b:List Int):∀ n,s.e (Ei H a b n)=sm n (fun i=>s.e (a.getD i 0)*s.e (b.getD i 0))
 |0=>s.bC
 |n+1=>by rw[Ei,aY,s.nX,s.fQ,afY s a b n]
theorem ac3 (hP:G.P=H.P) {r:Int} (hr:RtP t s (s.e r)) {x:Int} (hx:0<=x/\x<G.q):s.e ((jQ G H r).getD x.toNat 0)=(emb t s hP hr).f (t.e x):=by
 have hx2:x.toNat<G.q.toNat:=by omega
 have hm:t.fs.m=G.M.toNat:=rfl;rw[aiR t s hP hr hx,show(jQ G H r).getD x.toNat 0=Ei H (bY G.P x G.M.toNat) (lD H r (G.M.toNat-1)) G.M.toNat by
  simp[jQ,List.getD,hx2];rw[show max x 0=x by omega]]
 rw[afY];refine aX fun i hi=>?_;rw[<-hm] at hi ⊢;rw[BH hi,LU s r _ i (by omega)]
theorem Y6 (G H:GFd) (r:Int):(jQ G H r).length=G.q.toNat:=by simp[jQ]
end
end Cw
namespace Go.Proofs.YtoilbeadokallaaGreatDoor
section
open Go.RowKit Cw
def Oe (G:GFd) (t:aK G) (P Q:PS (Rs t.fs.mon)) (n:Nat) (w:World) (e:Ending) (w':World):Prop:=
 ∃ vu vr lu lr,e=.returned (.tuple #[vu,vr,.int .i64 0])/\Own w' w.heap.size vu lu/\Own w' w.heap.size vr lr/\ay w w'/\nK G lu/\nK G lr/\P=t.po lu*Q+t.po lr/\(∀ d,PS.dl Q (d+1)->lr.length<=d)/\lu.length<=n/\lr.length<=n
theorem Vm {G:GFd} (t:aK G) {l1 l2 us rs:List Int} {P Q:PS (Rs t.fs.mon)} {n nu nr:Nat} (c2:nK G l2) (h2:l2≠ []) (hP:t.po l1=P) (hQ:t.po l2=Q) (hn:l1.length<=n) (k:DvS t l1 l2 us rs (l1.length+1-l2.length))
  (hu:nu<=us.length/\(∀ i,nu<=i->us.getD i 0=0)/\(nu=0∨us.getD (nu-1) 0≠0)) (hr:nr<=rs.length/\(∀ i,nr<=i->rs.getD i 0=0)/\(nr=0∨rs.getD (nr-1) 0≠0)):
  nK G (us.take nu)/\nK G (rs.take nr)/\P=t.po (us.take nu)*Q+t.po (rs.take nr)/\(∀ d,PS.dl Q (d+1)->(rs.take nr).length<=d)/\(us.take nu).length<=n/\(rs.take nr).length<=n:=by
 obtain⟨e1,e2⟩:=t.aeB h2 k;have hz2:0<l2.length:=yI.2 h2;have h5:=k.ul;have h6:=k.rl;have hnr:nr<=l2.length-1:=by
  rcases hr.2.2 with e|e
  ·omega
  ·rcases wR (l2.length-1) nr with g|g
   ·exact absurd (e2 (nr-1) (by omega)) e
   ·exact g
 refine⟨TD k.ur hu,TD k.rr hr, ?_,fun d hd=>?_, ?_, ?_⟩
 ·rw[t.Ko hu.2.1,t.Ko hr.2.1,<-hP,<-hQ];exact e1
 ·rw[<-hQ] at hd;have:=(t.RJ c2).1 hd;rw[yF];omega
 ·rw[yF];omega
 ·rw[yF];omega
set_option maxRecDepth 100000 in
theorem PZ (b:Nat) (G:GFd) (t:aK G) (vp vq:Value) (p q:List Int) (w:World) (hg:dW w b G) (hvp:Sl w vp p) (hvq:Sl w vq q) (hlp:p.length<=200000) (hlq:q.length<=200000) (hz:t.po q≠0):
  Calls Tryz.prog 157 #[.pointer (some ⟨b,0,none⟩),vp,vq] w (Oe G t (t.po p) (t.po q) p.length w):=by
 have HZ:=hid hz;clear hz;have hbl:=hg.lt;go_enter Tryz.func157,Tryz.ntmps157;go_wp2_with(fail)
 refine(kU b G t vp p _ hg hvp (by omega)).mono ?_;rintro e w1 ⟨g1,k1,cap1,l1,rfl,o1,kk1,c1,p1,n1⟩;have P1:=hid p1;clear p1;have hq1:=hvq.kept kk1;have hl1:=o1.len;subst hl1;obtain⟨cb1,ak4⟩:=o1.agM;go_wp2_with(fail)
 refine(kU b G t vq q _ (hg.kept kk1) hq1 (by omega)).mono ?_;rintro e w2 ⟨g2,k2,cap2,l2,rfl,o2,kk2,c2,p2,n2⟩;have P2:=hid p2;have hl2:=o2.len;subst hl2;obtain⟨cb2,ak5⟩:=o2.agM;have hn2:l2≠ []:=fun e=>HZ.out (by rw[<-p2,e,t.ED]);have hpos:0<l2.length:=yI.2 hn2;have HN2:=hid hn2;clear p2 hn2;have ku:=kk1.tr kk2;have hg2:=hg.kept ku;have ams:g1<g2:=by have:=o1.lt.2;have:=o2.lt.1;omega
 have aoi:=o2.lt.2;have o1':=o1.kept kk2;have o2':=o2.mono kk1.size;have HP:Hid (t.po l1=t.po p):=P1;have HQ:Hid (t.po l2=t.po q):=P2;have C1:=hid c1;have C2:=hid c2;clear P1 P2 hvp hvq hq1 o1 o2 c1 c2;obtain⟨d,hd⟩:∃ d,l2.length=d+1:=⟨l2.length-1,by omega⟩
 obtain⟨m,hm⟩:∃ m,l1.length=m:=⟨_,rfl⟩
 rw[hd] at o2' cb2 n2;rw[hm] at o1' cb1 n1;rw[hm,hd];have HM:=hid hm;have HD:=hid hd;clear hm hd hpos;have hcl:=o2'.cell (i:=d) (by have:=HD.out;omega);obtain⟨ld,hld⟩:∃ x,x=l2.getD d 0:=⟨_,rfl⟩
 rw[<-hld] at hcl;have HLD:=hid hld;have hli:Hid (inn G.q ld≠0):=hid (by
  have q0:0<G.q:=by have:=t.qb;omega
  have:=C2.out.2 HN2.out;rw[HD.out,uy] at this;rw[hld,bI (nY C2.out q0 _)];exact this)
 obtain⟨iv,hiv⟩:∃ x,x=fG G ld:=⟨_,rfl⟩
 have HIV:Hid (fG G ld=iv):=hid hiv.symm;clear hld hiv;obtain⟨nq,hnq⟩:∃ n,n=m-d:=⟨_,rfl⟩
 have HNQ:=hid hnq;have nq2:nq<=200000:=by omega
 clear hnq;have hds:=hid (t.Xh (l2:=l2) C1.out);have hU0:Hid (l1.length+1-l2.length=nq):=hid (by rw[HM.out,HD.out,HNQ.out];omega);by_cases hmd:m<=d
 ·have e0:(m:Int)- ((d:Int)+1)<0:=by omega
  have e1:(m:Int)- ((d:Int)+1)+1<=0:=by omega
  go_wp2_with(first|(go_at_call 178;(with_reducible refine(pX b G ld _ hg2 t hli.out).mono ?_);rintro e w3 ⟨rfl,n3,rfl⟩;rw[HIV.out])|(at_make;refine aJ rfl _ _ rfl nq _ _ rfl rfl (by have:=HNQ.out;omega) (by have:=HNQ.out;omega) (by omega) ?_;intro w4 ho hk4))
  have o1w:Own w4 w.heap.size (.slice (some ⟨g1,0,none⟩) m cap1) l1:=(o1'.drewN n3).kept hk4;have ouw:Own w4 w.heap.size (.slice (some ⟨w2.heap.size,0,none⟩) nq nq) (List.replicate nq 0):=ho.mono ku.size;have hkw:ay w w4:=(ku.drewN n3).tr hk4;have HK0:Hid (DvS t l1 l2 (List.replicate nq 0) l1 (l1.length+1-l2.length)):=hid (by
   have h:=hds.out;have e:l1.length+1-l2.length=0:=by rw[hU0.out,HNQ.out];omega
   rw[hU0.out] at h;rw[e];exact h)
  go_loopw [11] (fun vi wr=>vi=.int .i64 ((m:Int)- ((d:Int)+1))/\wr=w4) (fun _ _=>0)
  case atStart=>exact⟨rfl,rfl⟩
  case round=>
   obtain⟨rfl,rfl⟩:=hrel;go_wp2_with(first|(go_at_call 272;(with_reducible refine(rE w2.heap.size nq nq _ (List.replicate nq 0) _ ouw).mono ?_);rintro e w5 ⟨n5,rfl,ht5,m5,rfl⟩;have HT5:=hid ht5;clear ht5)|(go_at_call 272;(with_reducible refine(rE g1 m cap1 _ l1 _ (o1w.drewN m5)).mono ?_);rintro e w6 ⟨n6,rfl,ht6,m6,rfl⟩;have HT6:=hid ht6;clear ht6))
   go_ret3;obtain⟨d1,d2,d3,d4,d5,d6⟩:=Vm t C2.out HN2.out HP.out HQ.out (by rw[HM.out];exact n1) HK0.out HT5.out HT6.out;exact⟨_,_,_,_,rfl,(ouw.take HT5.out.1).drewN _,(o1w.take HT6.out.1).drewN _,hkw.drewN _,d1,d2,d3,d4,d5,d6⟩
 go_wp2_with(first|(go_at_call 178;(with_reducible refine(pX b G ld _ hg2 t hli.out).mono ?_);rintro e w3 ⟨rfl,n3,rfl⟩;rw[HIV.out])|(at_make;refine aJ rfl _ _ rfl nq _ _ rfl rfl (by have:=HNQ.out;omega) (by have:=HNQ.out;omega) (by omega) ?_;intro w4 ho hk4))
 have o1w:Own w4 w.heap.size (.slice (some ⟨g1,0,none⟩) m cap1) l1:=(o1'.drewN n3).kept hk4;have o2w:Own w4 w.heap.size (.slice (some ⟨g2,0,none⟩) (d+1) cap2) l2:=(o2'.drewN n3).kept hk4;obtain⟨gq,hgq⟩:∃ g,g=w2.heap.size:=⟨_,rfl⟩
 have aoj:g2<gq:=by omega
 have akp:w.heap.size<=gq:=by have:=ku.size;omega
 have amu:w.heap.size<=g1:=o1'.lt.1;have ho:Own w4 w2.heap.size (.slice (some ⟨w2.heap.size,0,none⟩) nq nq) (List.replicate nq 0):=ho;rw[<-hgq] at ho;rw[<-hgq];have ouw:Own w4 w.heap.size (.slice (some ⟨gq,0,none⟩) nq nq) (List.replicate nq 0):=ho.mono akp;have hkw:ay w w4:=(ku.drewN n3).tr hk4;have hds':Hid (DvS t l1 l2 (List.replicate nq 0) l1 0):=hid (by have h:=hds.out;rw[hU0.out] at h;exact h);clear ho hgq hcl hds hg2 ku o1' o2' hk4
 go_loopw [11] (fun vi wr=>∃ (s:Nat) (us rs:List Int),s<=nq/\vi=.int .i64 ((m:Int)- ((d:Int)+1)-s)/\Hid (DvS t l1 l2 us rs s)/\Own wr w.heap.size (.slice (some ⟨g1,0,none⟩) m cap1) rs/\Own wr w.heap.size (.slice (some ⟨g2,0,none⟩) (d+1) cap2) l2/\Own wr w.heap.size (.slice (some ⟨gq,0,none⟩) nq nq) us/\ay w wr) (fun vi _=>(intOf vi+1).toNat)
 case atStart=>exact⟨0,_,_,by omega,iC (by simp),hds',o1w,o2w,ouw,hkw⟩
 case round=>
  obtain⟨s,us,rs,hs,rfl,hdv,or',ol',ou',aaJ⟩:=hrel;clear o1w o2w ouw hkw hds';by_cases hsn:s<nq;case neg=>
   have es:s=nq:=by omega
   have HDV:Hid (DvS t l1 l2 us rs (l1.length+1-l2.length)):=hid (by rw[hU0.out,<-es];exact hdv.out);have aok:(m:Int)- ((d:Int)+1)- (s:Int)<0:=by have:=HNQ.out;omega
   clear es hsn;go_wp2_with(first|(go_at_call 272;(with_reducible refine(rE gq nq nq _ us _ ou').mono ?_);rintro e w5 ⟨n5,rfl,ht5,m5,rfl⟩;have HT5:=hid ht5;clear ht5)|(go_at_call 272;(with_reducible refine(rE g1 m cap1 _ rs _ (or'.drewN m5)).mono ?_);rintro e w6 ⟨n6,rfl,ht6,m6,rfl⟩;have HT6:=hid ht6;clear ht6))
   go_ret3;obtain⟨d1,d2,d3,d4,d5,d6⟩:=Vm t C2.out HN2.out HP.out HQ.out (by rw[HM.out];exact n1) HDV.out HT5.out HT6.out;exact⟨_,_,_,_,rfl,(ou'.take HT5.out.1).drewN _,(or'.take HT6.out.1).drewN _,aaJ.drewN _,d1,d2,d3,d4,d5,d6⟩
  obtain⟨n,hn⟩:∃ n,m=n+s+(d+1):=⟨m-s- (d+1),by have:=HNQ.out;omega⟩
  have ei:(m:Int)- ((d:Int)+1)- (s:Int)=(n:Int):=by omega
  rw[ei];have HNM:=hid hn;have hnq:n<nq:=by have:=HNQ.out;omega
  have hnd:n+d<m:=by omega
  have hrl:Hid (rs.length=m):=hid (by rw[hdv.out.rl,HM.out]);have hul:Hid (us.length=nq):=hid (by rw[hdv.out.ul,hU0.out]);have hcr:=or'.cell (i:=n+d) (by rw[hrl.out];exact hnd);obtain⟨x,hx⟩:∃ z,z=rs.getD (n+d) 0:=⟨_,rfl⟩
  rw[<-hx] at hcr;have HX:=hid hx;have hcu:=ou'.cell (i:=n) (by rw[hul.out];exact hnq);have hfu:=ou'.frozen n;have i0:(0:Int)<=(n:Int)+((d:Int)+1)-1:=by omega
  have i1:(n:Int)+((d:Int)+1)-1< (m:Int):=by omega
  have i2:((n:Int)+((d:Int)+1)-1).toNat=n+d:=by omega
  have i3:(n:Int)< (nq:Int):=by omega
  have i4:(0:Int)<=(n:Int)+(d:Int):=by omega
  have i5:(n:Int)+(d:Int)< (m:Int):=by omega
  have i6:((n:Int)+(d:Int)).toNat=n+d:=by omega
  have aol:m<=200000:=by omega
  have hgw:=hg.kept aaJ;obtain⟨av,hav⟩:∃ z,z=bF G x iv:=⟨_,rfl⟩
  have HAV:Hid (bF G x iv=av):=hid hav.symm;have HAE:Hid (av=bF G (rs.getD (n+l2.length-1) 0) (fG G (l2.getD (l2.length-1) 0))):=hid (by
   rw[hav,HX.out,<-HIV.out,HLD.out,HD.out,uy,show n+(d+1)-1=n+d by omega])
  clear hx hav hn ei hsn;go_wp2_with(go_at_call 94;(with_reducible refine(mul_any b G x iv _ hgw t).mono ?_);rintro e w5 ⟨rfl,n5,rfl⟩;rw[HAV.out])
  have hne1:g1≠gq:=by omega
  have hne2:g2≠gq:=by omega
  have amv:g2≠g1:=by omega
  have adH:gq≠g1:=by omega
  have ou1:=(ou'.drewN n5).set n av;have or1:=(or'.drewN n5).setOther ⟨gq,n,none⟩ (.int .i64 av) (fun g k c e=>by cases e;exact hne1);have ol1:=(ol'.drewN n5).setOther ⟨gq,n,none⟩ (.int .i64 av) (fun g k c e=>by cases e;exact hne2);have hk1:=Below.setCell (aaJ.drewN n5) (p:=⟨gq,n,none⟩) akp (.int .i64 av);have hi0:=hid (t.RS (l2:=l2) (a:=av) (n:=n) hdv.out.rr);clear or' ol' ou' aaJ hcr hcu hfu hgw i0 i1 i2 i4 i5 i6
  go_loopw [69] (fun vj wr=>∃ (j:Nat) (rs':List Int),j<=d+1/\vj=.int .i64 j/\Hid (DvI t l2 rs' rs av n j)/\Own wr w.heap.size (.slice (some ⟨g1,0,none⟩) m cap1) rs'/\Own wr w.heap.size (.slice (some ⟨g2,0,none⟩) (d+1) cap2) l2/\Own wr w.heap.size (.slice (some ⟨gq,0,none⟩) nq nq) (us.set n av)/\ay w wr) (fun vj _=>d+1- (intOf vj).toNat)
  case atStart=>exact⟨0,rs,by omega,rfl,hi0,or1,ol1,ou1,hk1⟩
  case round=>
   obtain⟨j,rs',hj,rfl,hdi,or',ol',ou',aaJ⟩:=hrel;clear or1 ol1 ou1 hk1 hi0;have hgw:=hg.kept aaJ;by_cases hjd:j<d+1
   ·have amw:Hid (rs'.length=m):=hid (by rw[hdi.out.rl,hrl.out]);have hcr:=or'.cell (i:=n+j) (by rw[amw.out];omega);have hfr:=or'.frozen (n+j);obtain⟨u,hu⟩:∃ z,z=rs'.getD (n+j) 0:=⟨_,rfl⟩
    rw[<-hu] at hcr;have hcl:=ol'.cell (i:=j) (by rw[HD.out];exact hjd);obtain⟨c,hc⟩:∃ z,z=l2.getD j 0:=⟨_,rfl⟩
    rw[<-hc] at hcl;have HST:Hid (DvI t l2 (rs'.set (n+j) (gu G u (iE G (bF G av c)))) rs av n (j+1)):=hid (by
     rw[hu,hc];exact t.Xi hdi.out (by rw[hrl.out];omega))
    have j0:(0:Int)<=(n:Int)+(j:Int):=by omega
    have j1:(n:Int)+(j:Int)< (m:Int):=by omega
    have j2:((n:Int)+(j:Int)).toNat=n+j:=by omega
    have j4:(j:Int)< (d:Int)+1:=by omega
    clear hu hc;go_wp2_with(fail)
    have w1':IntKind.i64.wrap ((n:Int)+(j:Int))=(n:Int)+(j:Int):=IntWalk.i64_in _ (by omega)
    go_region_law(first|(go_simp;go_at_call 94;(with_reducible refine(mul_any b G av c _ (by exact hgw.drew) t).mono ?_);rintro e w6 ⟨rfl,n6,rfl⟩)|(go_simp;go_at_call 189;(with_reducible refine(Sm b G u (bF G av c) _ (by exact hgw.drewN _) t).mono ?_);rintro e w7 ⟨rfl,n7,rfl⟩))
    all_goals
     clear w1';go_wp2_with(fail)
     go_roundw;case rel=>
      refine⟨j+1,_,by omega,by go_num,HST, ?_, ?_, ?_, ?_⟩
      ·exact(or'.drewN _).set _ _
      ·exact(ol'.drewN _).setOther ⟨g1,n+j,none⟩ _ (fun g k c e=>by cases e;exact amv)
      ·exact(ou'.drewN _).setOther ⟨g1,n+j,none⟩ _ (fun g k c e=>by cases e;exact adH)
      ·exact Below.setCell (aaJ.drewN _) (p:=⟨g1,n+j,none⟩) amu _
     case measure=>simp[intOf];omega
   ·have ej:j=d+1:=by omega
    have HST:Hid (DvS t l1 l2 (us.set n av) rs' (s+1)):=hid (by
     have h:=hdi.out;rw[ej,<-HD.out,HAE.out] at h;rw[HAE.out];exact t.abu C2.out HN2.out hdv.out (by rw[HM.out,HD.out];have:=HNM.out;omega) h)
    have hst:Hid ((n:Int)-1=(m:Int)- ((d:Int)+1)- ((s+1:Nat):Int)):=hid (by have:=HNM.out;omega);have hs1:s+1<=nq:=by have:=HNM.out;have:=HNQ.out;omega
    clear ej;go_wp2_with(fail)
    go_roundw;case rel=>exact⟨s+1,us.set n av,rs',hs1,iC hst.out,HST,or',ol',ou',aaJ⟩
    case measure=>simp[intOf]
theorem Vo {w:World} {B:Nat} {x:Int} (hB:B<=w.heap.size):Own (w.alloc (.cells #[.int .i64 x] 3)) B (.slice (some ⟨w.heap.size,0,none⟩) 1 1) [x]:=by
 have h0:=World.ownsRow_lit (size:=1) (e:=3) (base:=B) w #[.int .i64 x] 1 hB (by unfold maxLen;omega) rfl;unfold Own;simpa using h0
theorem Y7 {G:GFd} (t:aK G):nK G [1]:=by
 have:=t.qb;exact⟨fun x hx=>by rw[zH.1 hx];omega,fun _=>by simp⟩
end
section
open Go.RowKit Cw
def afZ (G:GFd) (t:aK G) (P:Pl (Rs t.fs.mon)) (w:World) (e:Ending) (w':World):Prop:=
 ∃ v l,e=.returned v/\Own w' w.heap.size v l/\ay w w'/\nK G l/\t.pl l=P
def amx (G:GFd) (t:aK G) (P:Pl (Rs t.fs.mon)) (w:World) (e:Ending) (w':World):Prop:=
 ∃ v l,e=.returned (.tuple #[v,.int .i64 0])/\Own w' w.heap.size v l/\ay w w'/\nK G l/\t.pl l=P
def akq (G:GFd) (t:aK G) (P Q:Pl (Rs t.fs.mon)) (w:World) (e:Ending) (w':World):Prop:=
 ∃ vu vr lu lr,e=.returned (.tuple #[vu,vr,.int .i64 0])/\Own w' w.heap.size vu lu/\Own w' w.heap.size vr lr/\ay w w'/\nK G lu/\nK G lr/\t.pl lu=Pl.quo P Q/\t.pl lr=Pl.rem P Q
theorem ahM.p {G:GFd} {t:aK G} {P:Pl (Rs t.fs.mon)} {a:PS (Rs t.fs.mon)} {n:Nat} {w w':World} {e:Ending} (h:ahM G t a n w e w') (k:a=P.a):afZ G t P w e w':=by
 obtain⟨v,l,h1,h2,h3,h4,h5,_⟩:=h;exact⟨v,l,h1,h2,h3,h4,Pl.ext (h5.trans k)⟩
theorem Oe.p {G:GFd} {t:aK G} {P Q:Pl (Rs t.fs.mon)} {n:Nat} {w w':World} {e:Ending} (h:Oe G t P.a Q.a n w e w') (hq:Q≠0):akq G t P Q w e w':=by
 obtain⟨vu,vr,lu,lr,h1,h2,h3,h4,h5,h6,h7,h8,_,_⟩:=h;obtain⟨d,e1,g1,g2⟩:=Pl.deg hq;have h9:=h8 d g1;have h10:=t.oP lr;obtain⟨k1,k2⟩:=Pl.aea (a:=P) (b:=Q) (q:=t.pl lu) (r:=t.pl lr) (Pl.ext h7) (by omega);exact⟨vu,vr,lu,lr,h1,h2,h3,h4,h5,h6,k1.symm,k2.symm⟩
theorem Own.sh {w:World} {B:Nat} {v:Value} {xs:List Int} (h:Own w B v xs):∃ a cap,v=.slice a xs.length cap/\xs.length<=cap/\cap<=9223372036854775807:=by
 rcases h.form with⟨rfl,rfl⟩|⟨g,cap,rfl,_,_,h2,h3⟩
 ·exact⟨none,0,rfl,zy _,by omega⟩
 ·unfold maxLen at h3;exact⟨_,cap,rfl,h2,h3⟩
theorem Own.sh' {w:World} {B:Nat} {v:Value} {xs:List Int} (h:Own w B v xs) (hne:xs≠ []):∃ g cap,v=.slice (some ⟨g,0,none⟩) xs.length cap/\xs.length<=cap/\cap<=9223372036854775807/\B<=g/\g<w.heap.size:=by
 rcases h.form with⟨rfl,rfl⟩|⟨g,cap,rfl,h0,h1,h2,h3⟩
 ·exact absurd rfl hne
 ·unfold maxLen at h3;exact⟨g,cap,rfl,h2,h3,h0,h1⟩
variable (b:Nat) (G:GFd) (t:aK G) (vp vq:Value) (p q:List Int) (w:World)
theorem DI (hg:dW w b G) (hv:Sl w vp p) (hl:p.length<=1000000):Calls Tryz.prog 153 #[.pointer (some ⟨b,0,none⟩),vp] w (afZ G t (t.pl p) w):=
 (kU b G t vp p w hg hv hl).mono fun _ _ ⟨_,_,_,l,he,o,kk,c,hp,_⟩=>⟨_,l,he,o,kk,c,Pl.ext hp⟩
theorem Vp (hg:dW w b G) (hvp:Sl w vp p) (hvq:Sl w vq q) (hlp:p.length<=100000) (hlq:q.length<=100000):
  Calls Tryz.prog 104 #[.pointer (some ⟨b,0,none⟩),vp,vq] w (afZ G t (t.pl p*t.pl q) w):=
 (IY b G t vp vq p q w hg hvp hvq hlp hlq).mono fun _ _ h=>h.p rfl
theorem Y8 (hg:dW w b G) (hvp:Sl w vp p) (hvq:Sl w vq q) (hlp:p.length<=200000) (hlq:q.length<=200000) (hz:t.pl q≠0):
  Calls Tryz.prog 157 #[.pointer (some ⟨b,0,none⟩),vp,vq] w (akq G t (t.pl p) (t.pl q) w):=
 (PZ b G t vp vq p q w hg hvp hvq hlp hlq (fun e=>hz (Pl.ext e))).mono fun _ _ h=>Oe.p h hz
theorem ac4 (hg:dW w b G) (hv:Sl w vp p) (hl:p.length<=1000000) (hz:t.pl p=0):
  Calls Tryz.prog 158 #[.pointer (some ⟨b,0,none⟩),vp] w fun e w'=>e=.returned (.tuple #[.slice none 0 0,.int .i64 7])/\ay w w':=by
 have HZ:=hid hz;clear hz;go_enter Tryz.func158,Tryz.ntmps158;go_wp2_with(fail)
 refine(DI b G t vp p _ hg hv hl).mono ?_;rintro e w1 ⟨v1,l1,rfl,o1,k1,c1,p1⟩;obtain rfl:l1=[]:=(t.RU c1).1 (p1.trans HZ.out);obtain⟨a1,cp1,rfl,h1,h2⟩:=o1.sh;clear p1;go_wp2_with(fail)
 go_ret2;exact⟨rfl,k1⟩
theorem ac5 (hg:dW w b G) (hv:Sl w vp p) (hl:p.length<=1000000) (hz:t.pl p≠0):
  Calls Tryz.prog 158 #[.pointer (some ⟨b,0,none⟩),vp] w (amx G t (Pl.mon (t.pl p)) w):=by
 have HZ:=hid hz;clear hz;go_enter Tryz.func158,Tryz.ntmps158;go_wp2_with(fail)
 refine(DI b G t vp p _ hg hv hl).mono ?_;rintro e w1 ⟨v1,l1,rfl,o1,k1,c1,p1⟩;have hne:l1≠ []:=fun e=>HZ.out (by rw[<-p1,e,t.Ci]);have hlen:l1.length<=1000000:=by have:=t.yD c1 p1;have:=t.oP p;omega
 obtain⟨g1,cp1,rfl,h1,h2,h3,h4⟩:=o1.sh' hne;obtain⟨d,hd⟩:∃ d,l1.length=d+1:=⟨l1.length-1,by have:=yI.2 hne;omega⟩
 obtain⟨m1,m2,m3⟩:=t.Xj c1 hne;have hcell:=o1.cell (i:=d) (by omega);rw[hd,uy] at m1 m2 m3;obtain⟨z,hz⟩:∃ z,z=l1.getD d 0:=⟨_,rfl⟩
 rw[<-hz] at hcell m1 m2 m3;have P1:=hid p1;have M1:=hid m1;have M2:=hid m2;have M3:=hid m3;have s1:=o1.sl;have hg1:=hg.kept k1;have HD:=hid hd;rw[hd] at s1 h1 hlen ⊢;have e1:((d+1:Nat):Int)-1=(d:Int):=by omega
 have e2:(d:Int)+1-1=(d:Int):=by omega
 have e3:(d:Int).toNat=d:=by omega
 have e4:(d:Int)< (d:Int)+1:=by omega
 clear p1 hne hz m1 m2 m3 hd;go_wp2_with(first|(go_at_call 178;(with_reducible refine(pX b G z _ hg1 t M1.out).mono ?_);rintro e w2 ⟨rfl,n2,rfl⟩)|(go_at_call 179;(with_reducible refine(jL b G (fG G z) _ l1 _ (hg1.drewN _) t (s1.kept (aB _ _)) (by rw[HD.out];exact hlen)).mono ?_);rintro e w3 ⟨rfl,o3,k3⟩))
 go_ret2;exact⟨_,_,rfl,o3.mono (by have:=k1.size;simpa using this),(k1.drewN _).tr k3,M2.out,by rw[M3.out,P1.out]⟩
end
section
open Go.RowKit Cw
theorem ac6 {w:World} {B:Nat} {x y:Int} (hB:B<=w.heap.size):Own (w.alloc (.cells #[.int .i64 x,.int .i64 y] 3)) B (.slice (some ⟨w.heap.size,0,none⟩) 2 2) [x,y]:=by
 have h0:=World.ownsRow_lit (size:=1) (e:=3) (base:=B) w #[.int .i64 x,.int .i64 y] 2 hB (by unfold maxLen;omega) rfl;unfold Own;simpa using h0
theorem amy {n:Nat} (h:0<n):((n:Int)==0)=false:=by simp;omega
theorem Vq (b:Nat) (G:GFd) (t:aK G) (v:Value) (l:List Int) (x:Int) (w:World) (hg:dW w b G) (hv:Sl w v l):
  Calls Tryz.prog 60 #[.pointer (some ⟨b,0,none⟩),v,.int .i64 x] w fun e w'=>e=.returned (.int .i64 (evL G l x))/\∃ m,w'=w.drewN m:=by
 obtain⟨a,cap,rfl,hcap,⟨hcm,_⟩,hc⟩:=hv;unfold maxLen at hcm;go_enter Tryz.func60,Tryz.ntmps60;go_wp2_with(fail)
 go_loopw [7,8] (fun vy vi wr=>∃ (k:Nat) (i:Int),k<=l.length/\vi=.int .i64 i/\Hid (i=(k:Int)-1)/\vy=.int .i64 (evL G (l.drop k) x)/\∃ m,wr=w.drewN m) (fun _ vi _=>(intOf vi+1).toNat)
 case atStart=>exact⟨l.length,_,zy _,rfl,hid rfl,iC (by rw[List.drop_length];rfl),0,rfl⟩
 case round=>
  obtain⟨k,i,hk,rfl,hi,rfl,m,hw⟩:=hrel;have hgw:dW wr b G:=by rw[hw];exact hg.drewN m
  have hcw:∀ a,wr.cell? a=w.cell? a:=fun a=>by rw[hw];rfl
  have HW:=hid hw;clear hw;by_cases hk0:k=0
  ·obtain rfl:i=-1:=by have:=hi.out;omega
   subst hk0;clear hcw;go_wp2_with(fail)
   go_ret;exact⟨rfl,m,HW.out⟩
  ·obtain⟨j,rfl⟩:∃ j,k=j+1:=⟨k-1,by omega⟩
   obtain rfl:i=(j:Int):=by have:=hi.out;omega
   obtain⟨bp,off,rfl,hbp,hcell⟩:=hc (by intro e;rw[e] at hk;simp at hk);have hck:=(hcw _).trans (hcell j (by omega));have hst:Hid (evL G (l.drop j) x=gu G (bF G (evL G (l.drop (j+1)) x) x) (l.getD j 0)):=hid (aK.Xl l (by omega) x);obtain⟨z,hz⟩:∃ z,z=l.getD j 0:=⟨_,rfl⟩
   obtain⟨y,hy⟩:∃ y,y=evL G (l.drop (j+1)) x:=⟨_,rfl⟩
   rw[<-hz] at hck hst;rw[<-hy] at hst ⊢;have i0:(0:Int)<=(j:Int):=by omega
   have i1:(j:Int)< (l.length:Int):=by omega
   clear hcell hcw hz hy hk0;go_wp2_with(fail)
   go_quiet(first|(go_at_call 94;refine Calls.quiet_of (mul_any b G y x _ (hgw.drewN _) t))|(go_at_call 115;refine Calls.quiet_of (add_any b G (bF G y x) z _ (hgw.drewN _) t)));go_wp2_with(fail)
   go_roundw;case rel=>exact⟨j,_,by omega,rfl,hid rfl,iC hst.out.symm,_,by rw[HW.out,World.drewN_drewN]⟩
   case measure=>simp[intOf]
set_option maxRecDepth 100000 in
theorem LV (b:Nat) (G:GFd) (t:aK G) (v:Value) (l:List Int) (w:World) (hg:dW w b G) (hv:Sl w v l) (hl:l.length<=1000):
  Calls Tryz.prog 51 #[.pointer (some ⟨b,0,none⟩),v] w (afZ G t (Pl.prf (fun i=>t.e (l.getD i 0)) l.length) w):=by
 obtain⟨a,cap,rfl,hcap,⟨hcm,_⟩,hc⟩:=hv;unfold maxLen at hcm;have k0:=ah w (.cells #[.int .i64 1] 3);have o0:=Vo (w:=w) (B:=w.heap.size) (x:=1) (zy _);go_enter Tryz.func51,Tryz.ntmps51;go_wp2_with(fail)
 go_loopw [5,11] (fun vo vi wr=>∃ (k:Nat) (l2:List Int),k<=l.length/\vi=.int .i64 k/\Own wr w.heap.size vo l2/\ay w wr/\nK G l2/\Hid (t.pl l2=Pl.prf (fun i=>t.e (l.getD i 0)) k)) (fun _ vi _=>l.length- (intOf vi).toNat)
 case atStart=>exact⟨0,[1],by omega,rfl,o0,k0,Y7 t,hid t.aeC⟩
 case round=>
  obtain⟨k,l2,hk,rfl,ho,hkw,c2,p2⟩:=hrel;clear o0 k0;by_cases hlt:k<l.length
  ·obtain⟨bp,off,rfl,hbp,hcell⟩:=hc (by intro e;rw[e] at hlt;simp at hlt);have hck:=(ay.cell' hkw hbp).trans (hcell k hlt);have hst:Hid (Pl.prf (fun i=>t.e (l.getD i 0)) (k+1)=Pl.prf (fun i=>t.e (l.getD i 0)) k*Pl.lin (t.e (l.getD k 0))):=hid rfl;have hlen:l2.length<=1001:=by have:=t.yD c2 p2.out;rw[Pl.QU] at this;omega
   obtain⟨z,hz⟩:∃ z,z=l.getD k 0:=⟨_,rfl⟩
   rw[<-hz] at hck hst;have hgw:=hg.kept hkw;have hki:(k:Int)< (l.length:Int):=by omega
   clear hcell hz;go_wp2_with(first|(go_at_call 71;(with_reducible refine(y7 b G z _ hgw t).mono ?_);rintro e w3 ⟨rfl,n3,rfl⟩;have k3:=(aB wr n3).tr (ah (wr.drewN n3) (.cells #[.int .i64 (iE G z),.int .i64 1] 3));have s3:Sl ((wr.drewN n3).alloc (.cells #[.int .i64 (iE G z),.int .i64 1] 3)) (.slice (some ⟨wr.heap.size,0,none⟩) 2 2) [iE G z,1]:=(ac6 (w:=wr.drewN n3) (B:=0) (xZ _)).sl)|(go_at_call 104;(with_reducible refine(Vp b G t _ _ l2 [iE G z,1] _ (hgw.kept k3) (ho.sl.kept k3) s3 (by omega) (by simp)).mono ?_);rintro e w4 ⟨v4,l4,rfl,o4,k4,c4,p4⟩;have P4:=hid p4;clear p4))
   go_roundw;case rel=>exact⟨k+1,l4,by omega,by go_num,o4.mono (by have:=hkw.size;have:=k3.size;omega),(hkw.tr k3).tr k4,c4,hid (by rw[P4.out,p2.out,hst.out,t.aeD])⟩
   case measure=>simp[intOf];omega
  ·have ek:k=l.length:=by omega
   have HP:Hid (t.pl l2=Pl.prf (fun i=>t.e (l.getD i 0)) l.length):=hid (by rw[p2.out,ek]);clear ek;go_wp2_with(fail)
   go_ret;exact⟨_,l2,rfl,ho,hkw,c2,HP.out⟩
end
end Go.Proofs.YtoilbeadokallaaGreatDoor
namespace Cw
open Rg Fd
namespace Ht
variable {α:Type} [Fd α]
def Z (n c m:Nat) (d X Y:Nat->α) (a b:Nat) (g:Nat->α):Prop:=∀ i j,i+a<c->j+b<=m->sm n (fun k=>d k*pw (X k) i*pw (Y k) j*g k)=0
theorem z_x {n c m:Nat} {d X Y:Nat->α} {a b:Nat} {g:Nat->α} (x0:α) (h:Z n c m d X Y a b g):Z n c m d X Y (a+1) b (fun k=>(X k-x0)*g k):=fun i j hi hj=>by
 have h1:=h (i+1) j (by omega) hj;have h2:=h i j (by omega) hj;have e:(fun k=>d k*pw (X k) i*pw (Y k) j*((X k-x0)*g k))=fun k=>d k*pw (X k) (i+1)*pw (Y k) j*g k-x0*(d k*pw (X k) i*pw (Y k) j*g k):=funext fun k=>by
  rw[sub_mul,mul_sub,fH];generalize pw (X k) i=p;generalize pw (Y k) j=q;rw[show d k*p*q*(X k*g k)=d k*(p*X k)*q*g k by ac_rfl,show d k*p*q*(x0*g k)=x0*(d k*p*q*g k) by ac_rfl]
 rw[e,MJ,h1,<-jr,h2,mul_zero,sub_zero]
theorem z_y {n c m:Nat} {d X Y:Nat->α} {a b:Nat} {g:Nat->α} (y0:α) (h:Z n c m d X Y a b g):Z n c m d X Y a (b+1) (fun k=>(Y k-y0)*g k):=fun i j hi hj=>by
 have h1:=h i (j+1) hi (by omega);have h2:=h i j hi (by omega);have e:(fun k=>d k*pw (X k) i*pw (Y k) j*((Y k-y0)*g k))=fun k=>d k*pw (X k) i*pw (Y k) (j+1)*g k-y0*(d k*pw (X k) i*pw (Y k) j*g k):=funext fun k=>by
  rw[sub_mul,mul_sub,fH];generalize pw (X k) i=p;generalize pw (Y k) j=q;rw[show d k*p*q*(Y k*g k)=d k*p*(q*Y k)*g k by ac_rfl,show d k*p*q*(y0*g k)=y0*(d k*p*q*g k) by ac_rfl]
 rw[e,MJ,h1,<-jr,h2,mul_zero,sub_zero]
def pr (X:Nat->α):List Nat->Nat->α
 | [],_=>1
 |l::L,k=>(X k-X l)*pr X L k
theorem LW {X:Nat->α}:∀ {L:List Nat} {k:Nat},k∈L->pr X L k=0
 | [],_,h=>by cases h
 |l::L,k,h=>by
  rcases yO.1 h with e|e
  ·subst e;rw[pr,sub_self,zero_mul]
  ·rw[pr,LW e,mul_zero]
theorem ac7 {X:Nat->α}:∀ {L:List Nat} {k:Nat},(∀ l∈L,X k≠X l)->pr X L k≠0
 | [],_,_=>dO
 |l::L,k,h=>by
  rw[pr];exact jU (fun e=>h l (by simp) (sub_eq_zero e)) (ac7 fun x hx=>h x (yJ _ hx))
theorem af0 {n c m:Nat} {d X Y:Nat->α} {a b:Nat} {g:Nat->α} (h:Z n c m d X Y a b g):∀ L:List Nat,Z n c m d X Y (a+L.length) b (fun k=>pr X L k*g k)
 | []=>fun i j hi hj=>by
  have e:(fun k=>d k*pw (X k) i*pw (Y k) j*(pr X [] k*g k))=fun k=>d k*pw (X k) i*pw (Y k) j*g k:=funext fun k=>by rw[pr,one_mul]
  rw[e];exact h i j hi hj
 |l::L=>fun i j hi hj=>by
  have:=z_x (X l) (af0 h L) i j (by simp at hi;omega) hj;have e:(fun k=>d k*pw (X k) i*pw (Y k) j*(pr X (l::L) k*g k))=fun k=>d k*pw (X k) i*pw (Y k) j*((X k-X l)*(pr X L k*g k)):=funext fun k=>by rw[pr,mul_assoc (X k-X l)]
  rw[e];exact this
theorem af2 {n c m:Nat} {d X Y:Nat->α} {a b:Nat} {g:Nat->α} (h:Z n c m d X Y a b g):∀ L:List Nat,Z n c m d X Y a (b+L.length) (fun k=>pr Y L k*g k)
 | []=>fun i j hi hj=>by
  have e:(fun k=>d k*pw (X k) i*pw (Y k) j*(pr Y [] k*g k))=fun k=>d k*pw (X k) i*pw (Y k) j*g k:=funext fun k=>by rw[pr,one_mul]
  rw[e];exact h i j hi hj
 |l::L=>fun i j hi hj=>by
  have:=z_y (Y l) (af2 h L) i j hi (by simp at hj;omega);have e:(fun k=>d k*pw (X k) i*pw (Y k) j*(pr Y (l::L) k*g k))=fun k=>d k*pw (X k) i*pw (Y k) j*((Y k-Y l)*(pr Y L k*g k)):=funext fun k=>by rw[pr,mul_assoc (Y k-Y l)]
  rw[e];exact this
noncomputable def LX (n:Nat) (c:Nat->α):List Nat:=by
 classical exact(List.range n).filter fun k=>decide (c k≠0)
theorem Bz {n:Nat} {c:Nat->α} {k:Nat}:k∈LX n c↔k<n/\c k≠0:=by unfold LX;simp
theorem EU (n:Nat) (c:Nat->α):(LX n c).Nodup:=by unfold LX;exact List.Nodup.sublist wL tJ
theorem many {n c m:Nat} {d X Y:Nat->α} (h:Z n c m d X Y 0 0 (fun _=>1)) (hc:1<=c) (hX:∀ k l,k<n->l<n->X k=X l->k=l)
  (hY:m=0∨ ∀ L:List Nat,L.Nodup->(∀ k∈L,k<n)->(∀ k∈L,∀ l∈L,Y k=Y l)->L.length<=c) (hd:∃ k,k<n/\d k≠0):c+m+1<=(LX n d).length:=by
 classical
 refine vI fun hlt=>?_;obtain⟨k0,hk0,hdk⟩:=hd;have hmem:k0∈LX n d:=Bz.2 ⟨hk0,hdk⟩;obtain⟨E,hE⟩:∃ E,E=(LX n d).erase k0:=⟨_,rfl⟩
 have hEl:E.length+1=(LX n d).length:=by rw[hE,List.length_erase_of_mem hmem];have:=List.length_pos_of_mem hmem;omega
 have hEn:E.Nodup:=by rw[hE];exact(EU n d).erase k0
 have hEm:∀ k,k∈E↔k≠k0/\k∈LX n d:=fun k=>by rw[hE];exact(EU n d).mem_erase_iff
 obtain⟨K,hK⟩:∃ K,K=E.filter (fun k=>decide (Y k=Y k0)):=⟨_,rfl⟩
 obtain⟨O,hO⟩:∃ O,O=E.filter (fun k=>!decide (Y k=Y k0)):=⟨_,rfl⟩
 have hKO:K.length+O.length=E.length:=by
  rw[hK,hO,<-List.countP_eq_length_filter,<-List.countP_eq_length_filter];have:=List.length_eq_countP_add_countP (l:=E) (fun k=>decide (Y k=Y k0));rw[this];congr 1;refine List.countP_congr fun k _=>by simp
 have hKm:∀ k,k∈K↔k∈E/\Y k=Y k0:=fun k=>by rw[hK];simp
 have hOm:∀ k,k∈O↔k∈E/\Y k≠Y k0:=fun k=>by rw[hO];simp
 obtain⟨L,hL⟩:∃ L,L=K++O:=⟨_,rfl⟩
 have hLl:L.length=E.length:=by rw[hL,zX,hKO]
 have hB:(L.drop (c-1)).length<=m:=by rw[List.length_drop];omega
 have hA:(L.take (c-1)).length<=c-1:=List.length_take_le _ _;have hZ:=af2 (af0 h (L.take (c-1))) (L.drop (c-1)) 0 0 (by omega) (by omega);have hin:∀ k,k∈E->k∈L.take (c-1)∨k∈L.drop (c-1):=fun k hk=>by
  have:k∈L:=by
   rw[hL,yQ];by_cases e:Y k=Y k0
   ·exact .inl ((hKm k).2 ⟨hk,e⟩)
   ·exact .inr ((hOm k).2 ⟨hk,e⟩)
  rw[<-List.take_append_drop (c-1) L,yQ] at this;exact this
 have hLE:∀ k,k∈L->k∈E:=fun k hk=>by
  rw[hL,yQ] at hk;rcases hk with hk|hk
  ·exact((hKm k).1 hk).1
  ·exact((hOm k).1 hk).1
 have hBY:∀ k,k∈L.drop (c-1)->Y k0≠Y k:=fun k hk=>by
  rcases hY with h0|hY
  ·rw[h0] at hB;rw[zO (qw.1 hB)] at hk;cases hk
  ·have hKl:K.length+1<=c:=by
    have:=hY (k0::K) (vS.2 ⟨fun q=>((hEm k0).1 ((hKm k0).1 q).1).1 rfl,by rw[hK];exact hEn.sublist wL⟩) (fun k hk=>by
     rcases yO.1 hk with e|e
     ·rw[e];exact hk0
     ·exact(Bz.1 ((hEm k).1 ((hKm k).1 e).1).2).1) (fun k hk l hl=>by
     have hy:∀ x,x∈k0::K->Y x=Y k0:=fun x hx=>by
      rcases yO.1 hx with e|e
      ·rw[e]
      ·exact((hKm x).1 e).2
     rw[hy k hk,hy l hl])
    simpa using this
   rw[hL,List.drop_append,xW (by omega),vP] at hk;exact fun e=>((hOm k).1 (List.mem_of_mem_drop hk)).2 e.symm
 rw[kL hk0 (fun k hk hne=>?_)] at hZ
 ·rw[lN,lN,mul_one,mul_one] at hZ;have h1:pr X (L.take (c-1)) k0≠0:=ac7 fun l hl e=>by
   have hl':=(hEm l).1 (hLE l (uU hl));exact hl'.1 (hX k0 l hk0 (Bz.1 hl'.2).1 e).symm
  have h2:pr Y (L.drop (c-1)) k0≠0:=ac7 hBY;exact jU hdk (jU h2 (jU h1 dO)) hZ
 ·by_cases e:d k=0
  ·rw[e,zero_mul,zero_mul,zero_mul]
  ·rcases hin k ((hEm k).2 ⟨hne,Bz.2 ⟨hk,e⟩⟩) with g|g
   ·show d k*pw (X k) 0*pw (Y k) 0*(pr Y (List.drop (c-1) L) k*(pr X (List.take (c-1) L) k*1))=0;rw[LW g,zero_mul,mul_zero,mul_zero]
   ·show d k*pw (X k) 0*pw (Y k) 0*(pr Y (List.drop (c-1) L) k*(pr X (List.take (c-1) L) k*1))=0;rw[LW g,zero_mul,mul_zero]
theorem P5 {n x y:Nat} (h:x%n=y%n) (hl:y<=x):n∣x-y:=by
 refine⟨x/n-y/n, ?_⟩;have h1:=uM x n;have h2:=uM y n;rw[Nat.mul_sub];omega
theorem P6 {n x y:Nat} (h:n∣x-y) (hl:y<=x):x%n=y%n:=by
 obtain⟨k,hk⟩:=h;rw[show x=y+n*k by omega,Nat.add_mul_mod_self_left]
theorem alike {n c:Nat} (hn:1<=n) {L:List Nat} (hL:L.Nodup) (h1:∀ k∈L,k<n) (h2:∀ k∈L,∀ l∈L,c*k%n=c*l%n):L.length<=Nat.gcd c n:=by
 have hg:0<Nat.gcd c n:=Nat.gcd_pos_of_pos_right _ hn;obtain⟨m,hm⟩:=rX c n;obtain⟨b,hb⟩:=rQ c n;have amA:Nat.Coprime m b:=by
  have:=Nat.coprime_div_gcd_div_gcd (m:=c) (n:=n) hg;have e1:c/Nat.gcd c n=b:=Nat.div_eq_of_eq_mul_right hg hb;have e2:n/Nat.gcd c n=m:=Nat.div_eq_of_eq_mul_right hg hm;rw[e1,e2] at this;exact this.symm
 have hm0:0<m:=by
  rcases xR m with e|e
  ·rw[e] at hm;omega
  ·exact e
 have key:∀ k∈L,∀ l∈L,l<=k->k%m=l%m:=fun k hk l hl hkl=>by
  have h3:n∣c*k-c*l:=P5 (h2 k hk l hl) (Nat.mul_le_mul_left c hkl);rw[<-Nat.mul_sub] at h3;have h4:m∣b*(k-l):=by
   have h5:Nat.gcd c n*m∣Nat.gcd c n*(b*(k-l)):=by rw[<-hm,<-Nat.mul_assoc,<-hb];exact h3
   exact Nat.dvd_of_mul_dvd_mul_left hg h5
  have h5:m∣k-l:=amA.dvd_of_dvd_mul_left h4;exact P6 h5 hkl
 have hinj:∀ k∈L,∀ l∈L,k/m=l/m->k=l:=fun k hk l hl e=>by
  have e2:k%m=l%m:=by
   rcases Nat.le_total l k with g|g
   ·exact key k hk l hl g
   ·exact(key l hl k hk g).symm
  rw[<-uM k m,<-uM l m,e,e2]
 have hnd:(L.map (· /m)).Nodup:=by
  refine List.Pairwise.map _ ?_ (List.Pairwise.and_mem.1 hL);rintro k l ⟨hk,hl,hne⟩ e;exact hne (hinj k hk l hl e)
 have:=Ip hnd (k:=List.range (Nat.gcd c n)) (fun x hx=>by
  obtain⟨k,hk,rfl⟩:=yY.1 hx;rw[yT];refine Nat.div_lt_of_lt_mul ?_;rw[vO,<-hm];exact h1 k hk)
 simpa using this
theorem ht {n c m s st cr:Nat} {a:α} (ha:Ord a n) (w:Nat->α) (hw:∃ k,k<n/\w k≠0) (hc:1<=c) (h1:Nat.gcd st n=1) (h2:m=0∨Nat.gcd cr n<=c)
  (h:∀ i j,i<c->j<=m->sm n (fun k=>w k*pw (pw a ((s+i*st+j*cr)%n)) k)=0):c+m+1<=(LX n w).length:=by
 have hn:1<=n:=ha.1;have ha0:a≠0:=fun e=>by
  have:=ha.2.1;rw[e,aaW (by omega)] at this;exact dO this.symm
 have hmod:∀ x y,pw a x=pw a y->x%n=y%n:=fun x y e=>by
  rw[Ey ha.2.1 x,Ey ha.2.1 y] at e;exact ZR ha0 ha (vU _ hn) (vU _ hn) e
 have aiS:LX n (fun k=>w k*pw a (s*k))=LX n w:=by
  classical
  unfold LX;refine uZ fun k _=>?_;have:(w k*pw a (s*k)≠0)↔w k≠0:=⟨fun g e=>g (by rw[e,zero_mul]),fun g=>jU g (Fj ha0 _)⟩
  simp only[this]
 rw[<-aiS];refine many (X:=fun k=>pw a (st*k)) (Y:=fun k=>pw a (cr*k)) ?_ hc ?_ ?_ ?_
 ·intro i j hi hj;have e:(fun k=>w k*pw a (s*k)*pw (pw a (st*k)) i*pw (pw a (cr*k)) j*1)=fun k=>w k*pw (pw a ((s+i*st+j*cr)%n)) k:=funext fun k=>by
   rw[<-Ey ha.2.1,<-gK,<-gK,<-gK,mul_one,show(s+i*st+j*cr)*k=s*k+st*k*i+cr*k*j by rw[Nat.add_mul,Nat.add_mul];congr 1;congr 1;ac_rfl;ac_rfl,kK,kK]
   ac_rfl
  rw[e];exact h i j hi hj
 ·intro k l hk hl e;have e2:=hmod _ _ e;have:=alike hn (L:=if k=l then[] else[k,l]) (c:=st) (by split<;>simp_all) (fun x hx=>by
   split at hx
   ·cases hx
   ·rcases yO.1 hx with g|g
    ·rw[g];exact hk
    ·rw[zH.1 g];exact hl) (fun x hx y hy=>by
   split at hx
   ·cases hx
   ·rename_i hne
    rw[zx hne] at hy;rcases yO.1 hx with g|g<;>rcases yO.1 hy with g'|g'
    ·rw[g,g']
    ·rw[g,zH.1 g'];exact e2
    ·rw[zH.1 g,g'];exact e2.symm
    ·rw[zH.1 g,zH.1 g'])
  rw[h1] at this;refine yu fun hne=>?_;rw[zx hne] at this;simp at this
 ·rcases h2 with h2|h2
  ·exact .inl h2
  ·refine .inr fun L hL hl he=>zJ (alike hn hL hl fun k hk l hl=>hmod _ _ (he k hk l hl)) h2
 ·obtain⟨k,hk,h0⟩:=hw;exact⟨k,hk,jU h0 (Fj ha0 _)⟩
end Ht
end Cw
namespace Go.Proofs.YtoilbeadokallaaGreatDoor
section
open Go.RowKit Go.Shelf Cw
attribute [local go_sem] Oper.semAt_some
theorem jg (W:World) (v:Value) (t:TypeId):(W.alloc (.cells #[v] t)).cell? ⟨W.heap.size,0,none⟩=some v/\(W.alloc (.cells #[v] t)).frozen? ⟨W.heap.size,0,none⟩=false:=
 ⟨(Boxed.new W t v).cell,(Boxed.new W t v).frozen⟩
def rtL (G:GFd) (p:List Int) (xs:List Int):List Int:=xs.filter fun x=>decide (evL G p x=0)
theorem ac8 (G:GFd) (p pre:List Int) {x:Int} (h:evL G p x=0):rtL G p (pre++ [x])=rtL G p pre++ [x]:=by simp[rtL,h]
theorem Y9 (G:GFd) (p pre:List Int) {x:Int} (h:¬ evL G p x=0):rtL G p (pre++ [x])=rtL G p pre:=by simp[rtL,h]
theorem Tryz.infoI:(Tryz.prog.info? 3).map (fun i=>(i.zero,i.size,i.bytes))=some (some (.int .i64 0),1,8):=by kernel_rfl
theorem KeepsOthers.drewN' (W:World) (n:Nat):KeepsOthers W (W.drewN n):=⟨zy _,fun _ _ h _=>h⟩
set_option maxRecDepth 100000 in
theorem ac9 (b:Nat) (G:GFd) (t:aK G) (v:Value) (p:List Int) (w:World) (hg:dW w b G) (hv:Sl w v p) (hl:p.length<=1000000) (hz:t.pl p≠0):
  Calls Tryz.prog 93 #[.pointer (some ⟨b,0,none⟩),v] w fun e w'=>∃ v',e=.returned (.tuple #[v',.int .i64 0])/\Own w' w.heap.size v' (rtL G p (upTo G.q.toNat))/\ay w w':=by
 have HZ:=hid hz;clear hz;have kA:=ah w (.cells #[.pointer (some ⟨b,0,none⟩)] 55);have bx:=(jg w (.pointer (some ⟨b,0,none⟩)) 55).1;have blt:w.heap.size< (w.alloc (.cells #[.pointer (some ⟨b,0,none⟩)] 55)).heap.size:=by simp
 refine(callsIn_wide (n:=3)).1 ?_;refine callsIn_of_wp_marks Tryz.func93 rfl trivial ?_ rfl;simp only[Tryz.ntmps93,vM,yG,xP,Nat.reduceAdd,Nat.reduceSub,wH,wG,vK,vY,vP,vG]
 gi_wp2_with (first|(refine⟨trivial, ?_⟩;gi_at_call 153;refine(callsIn_wide.2 (DI b G t v p _ (hg.kept kA) (hv.kept kA) hl)).mono ?_;rintro e w1 ⟨v1,l1,rfl,o1,k1,c1,p1⟩;have hne:l1≠ []:=(fun e=>HZ.out (by rw[<-p1,e,t.Ci]));obtain⟨g1,cp1,rfl,h1,h2,h3,h4⟩:=o1.sh' hne;have t1:((l1.length:Int)==0)=false:=amy (yI.2 hne);have kB:=(ah w1 (.cells #[.slice (some ⟨g1,0,none⟩) l1.length cp1] 22)).tr (ah (w1.alloc (.cells #[.slice (some ⟨g1,0,none⟩) l1.length cp1] 22)) (.cells #[.slice none 0 0] 22));have gb:=(ay.cell' (k1.tr kB) blt).trans bx)|(refine⟨trivial, ?_⟩;gi_at_call 98;refine(callsIn_wide.2 (AB b _)).mono ?_;rintro e w3 ⟨rfl,rfl⟩))
 obtain⟨q1,q2, -⟩:=t.qb;obtain⟨i0,hi,hz0,hz1,hz2⟩:=info_parts Tryz.infoI;have n1:=jg w1 (.slice (some ⟨g1,0,none⟩) l1.length cp1) 22;have n3:=jg ((w1.alloc (.cells #[.slice (some ⟨g1,0,none⟩) l1.length cp1] 22)).alloc (.cells #[.slice none 0 0] 22)) (.pointer (some ⟨b,0,none⟩)) 55;have bO:=Boxed.new (w1.alloc (.cells #[.slice (some ⟨g1,0,none⟩) l1.length cp1] 22)) 22 (.slice none 0 0);have kC:=ah ((w1.alloc (.cells #[.slice (some ⟨g1,0,none⟩) l1.length cp1] 22)).alloc (.cells #[.slice none 0 0] 22)) (.cells #[.pointer (some ⟨b,0,none⟩)] 55);have bO':=bO.alloc (.cells #[.pointer (some ⟨b,0,none⟩)] 55);have cb:=(ay.cell' ((ah (w1.alloc (.cells #[.slice (some ⟨g1,0,none⟩) l1.length cp1] 22)) (.cells #[.slice none 0 0] 22)).tr kC) (b:=w1.heap.size) (by simp)).trans n1.1;have gb':=(ay.cell' kC (b:=w.heap.size) (by have:=(kA.tr k1).size;simp;omega)).trans gb;have kD:=kB.tr kC;have hgW:=hg.kept ((kA.tr k1).tr kD);have sW:=o1.sl.kept kD;have kW:=(kA.tr k1).tr kD;have hzw:w.heap.size<w1.heap.size:=k1.lt blt;simp only[World.size_alloc] at n3 bO';obtain⟨W0,hW0⟩:∃ W0,((w1.alloc (.cells #[.slice (some ⟨g1,0,none⟩) l1.length cp1] 22)).alloc (.cells #[.slice none 0 0] 22)).alloc (.cells #[.pointer (some ⟨b,0,none⟩)] 55)=W0:=⟨_,rfl⟩
 have hsz:W0.heap.size=w1.heap.size+1+1+1:=by rw[<-hW0];simp
 rw[hW0] at n3 bO' cb gb' hgW sW kW kD ⊢;have hq:G.q.toNat<=256:=by omega
 have HP:=hid (fun x=>t.RY x p1);clear kC bO gb kB n1 hW0 p1;refine wpIn_rangeFunc_ownF (F:=Fence.wide) (n:=3) rfl (by decide) (gf:=154) (lb:=#[.pointer (some ⟨w1.heap.size+1+1,0,none⟩)]) rfl trivial (enters_of Tryz.func154 (by kernel_rfl) rfl)
  (qc 2 b (w1.heap.size+1+1) G t W0 (by omega) n3.1 hgW) walksK_t walksK_b (Below.refl _ _) (fun _=>rfl)
  (fun pre W=>(∃ v,Boxed W (w1.heap.size+1) 22 v/\W.ownsRow (w1.heap.size+1) 3 1 v (rtL G p pre).length ((rtL G p pre).map (Value.int .i64))/\True)/\Below (w1.heap.size+1) W0 W)
  (fun _ _ _=>False)
  (OwnFrom.and (Own.from (holdsRow_own (w1.heap.size+1) (w1.heap.size+1) 22 3 1 (fun pre=>(rtL G p pre).length) (fun pre=>(rtL G p pre).map (Value.int .i64)) (fun _ _=>True)) _) (ownFrom_below (by omega) (by omega)))
  (fun _ _ _ _ _ hs _ _=>hs)
  ⟨⟨_,bO',World.ownsRow_nil _ _ _ _,trivial⟩,Below.refl _ _⟩
  (fun x=>{tmps:=#[.pointer (some ⟨b,0,none⟩),v,.pointer (some ⟨w.heap.size,0,none⟩),undef,.slice none 0 0,.int .i64 0,.pointer (some ⟨w1.heap.size,0,none⟩),.pointer (some ⟨w1.heap.size+1,0,none⟩),.int .i64 x,.pointer (some ⟨b,0,none⟩),v,.slice (some ⟨g1,0,none⟩) l1.length cp1,.slice (some ⟨g1,0,none⟩) l1.length cp1,.int .i64 l1.length,.bool false,.pointer (some ⟨b,0,none⟩),.func (.func 154) #[] #[.pointer (some ⟨w1.heap.size+1+1,0,none⟩)],.int .i64 x,undef,undef,undef,undef,undef,undef,undef,undef,undef,undef],defers:=[]}) ?assign ?body ?done ?stop
 case assign=>
  intro l x W K hK
  gi_wp2
  exact hK
 case body=>
  rintro l pre x W ⟨⟨vo,hv,hrow,_⟩,hB⟩ hlt;have hpl:(rtL G p pre).length<=pre.length:=vT _ _;have gx:=(hB.cell (p:=⟨w.heap.size,0,none⟩) (by show w.heap.size<_;omega)).trans gb';have cx:=(hB.cell (p:=⟨w1.heap.size,0,none⟩) (by show w1.heap.size<_;omega)).trans cb;have kx:ay w1 W:=Below.trans kD (hB.mono (by omega));have hgx:=(hg.kept (kA.tr k1)).kept kx;have sx:=o1.sl.kept kx;have hn1:1<=3-1-1:=by decide
  have hc0:=hv.cell;obtain⟨y,hy⟩:∃ y,y=evL G p x:=⟨_,rfl⟩
  have HY:Hid (evL G l1 x=y):=hid (by rw[HP.out x,hy]);by_cases h0:y=0
  ·subst h0;have hh:=ac8 G p pre hy.symm;clear hy
   gi_wp2_with (first|(refine⟨trivial, ?_⟩;gi_at_call 60;refine(CallsIn.inRound l (callsIn_wide.2 (Vq b G t _ l1 x W hgx sx))).mono ?_;rintro e W2 ⟨rfl,m,rfl⟩;rw[HY.out];have hvD:Boxed (W.drewN m) (w1.heap.size+1) 22 vo:=hv;have af4:(W.drewN m).ownsRow (w1.heap.size+1) 3 1 vo (rtL G p pre).length ((rtL G p pre).map (Value.int .i64)):=hrow;have hc:=hvD.cell;have hBD:Below (w1.heap.size+1) W0 (W.drewN m):=below_drewN hB m)|(gi_at_builtin;refine wpListIn_append_own _ rfl _ _ 22 rfl (w1.heap.size+1) 3 i0 (.int .i64 0) 1 8 Tryz.underlying22 hi hz0 hz1 hz2 rfl (by decide) _ _ _ rfl (af4.alloc _) ⟨W.heap.size,0,none⟩ 1 1 [.int .i64 x] rfl rfl (cell_one_new _ _ _) (by simp[Value.oneCell']) (by unfold maxLen;omega) (by omega) (by have:=hB.size;simp;omega) ?_;intro v' w7 hown' hgrow _;obtain⟨g',cap',rfl⟩:=ownsRow_succ hown';obtain⟨hv1,hv2,hr2,hk2,hb2⟩:=hvD.appended (by decide) af4 (by show w1.heap.size+1<=W.heap.size;have:=hB.size;omega) (zy _) hown' hgrow;have hc1:=hv1.cell;have hf1:=hv1.frozen))
   exact⟨(KeepsOthers.drewN' W m).trans hk2,((KeepsOthers.drewN' W m).trans hk2).walks,⟨_,hv2,by rw[hh];simpa using hr2,trivial⟩,hBD.trans hb2⟩
  ·have hh:=Y9 G p pre (x:=x) (by rw[<-hy];exact h0);have ty:(y==0)=false:=by simpa using h0
   clear hy
   gi_wp2_with (refine⟨trivial, ?_⟩;gi_at_call 60;refine(CallsIn.inRound l (callsIn_wide.2 (Vq b G t _ l1 x W hgx sx))).mono ?_;rintro e W2 ⟨rfl,m,rfl⟩;rw[HY.out])
   exact⟨KeepsOthers.drewN' W m,(KeepsOthers.drewN' W m).walks,⟨vo,hv,by rw[hh];exact hrow,trivial⟩,below_drewN hB m⟩
 case done=>
  rintro D ys W hD rfl ⟨⟨vo,hv,hrow,_⟩,hB⟩ hK;have hc:=hv.cell
  gi_wp2
  refine⟨by simp,.inl ⟨_,_,rfl,run_takeDeferred hK, ?_⟩⟩;refine⟨_,results_tmp2 rfl _ _ _,vo,rfl,Own.mono (B:=w1.heap.size+1) (ownsRow_putObj hrow _ hK rfl) (by omega), ?_⟩;exact(Below.trans kW (hB.mono (by omega))).trans (belowK_b (w:=w) (zy _) W D _ _ (by omega) hK rfl rfl)
 case stop=>
  rintro D c pre W _ _ h _;exact h.elim
end
section
open Go.RowKit Cw Cw.Gj Cw.Rg Cw.Fd Cw.PS
def SD (G H:GFd):Prop:=G.P=H.P/\G.M=H.M/\G.mod=H.mod
theorem find_congr {α:Type} {p q:α->Bool}:∀ {l:List α},(∀ x∈l,p x=q x)->l.find? p=l.find? q
 | [],_=>rfl
 |a::l,h=>by
  rw[List.find?_cons,List.find?_cons,h a (xJ ..),find_congr fun x hx=>h x (yJ _ hx)]
def pwI (m:Int->Int->Int) (x:Int):Nat->Int
 |0=>1
 |n+1=>m (pwI m x n) x
section
variable {H:GFd}
theorem ada (s:aK H) (x:Int):∀ n,s.e (pwI (bF H) x n)=pw (s.e x) n
 |0=>s.iH
 |n+1=>by rw[pwI,s.fQ,ada s x n,fH]
theorem aaK (s:aK H) (x:Int):∀ n,0<=pwI (bF H) x n/\pwI (bF H) x n<H.q
 |0=>⟨by show(0:Int)<=1;omega,by show(1:Int)<H.q;have:=q2 s;omega⟩
 |n+1=>s.eY _ _
theorem G7 (s:aK H) {x:Int} (hx:inn H.q x≠0) (n:Nat):pJ H x (n:Int)=pwI (bF H) x n:=by
 have h:=s.aev x (n:Int);exact s.Iw ⟨h.1,h.2.1⟩ (aaK s x n) (by rw[s.Ce hx,ada])
theorem Vr (s:aK H) {x:Int} (hx:inn H.q x≠0) (k:Nat):Nc H x∣k↔pwI (bF H) x k=1:=by
 rw[<-lQ (s.aew hx),<-ada s x k];constructor
 ·intro h;exact s.Iw (aaK s x k) ⟨by omega,by have:=q2 s;omega⟩ (by rw[h,s.iH])
 ·intro h;rw[h,s.iH]
end
def Ju (H:GFd) (n:Nat):Option Int:=(upTo H.q.toNat).find? fun x=>decide (x≠0/\Nc H x=n)
theorem G8 {k:Nat} {x:Int}:x∈upTo k↔0<=x/\x<k:=by
 unfold upTo;rw[yY];constructor
 ·rintro⟨i,hi,rfl⟩;have:=yT.1 hi;omega
 ·intro h;exact⟨x.toNat,yT.2 (by omega),by omega⟩
section
variable {G G' H H':GFd}
theorem af5 (s:aK H) (s':aK H') (h:SD H H'):opG H=opG H':=EG s s' h.1 h.2.1 h.2.2
theorem adb (s:aK H) (s':aK H') (h:SD H H'):H.q=H'.q:=by rw[s.hq,s'.hq,h.1,h.2.1]
theorem aaL (s:aK H) (s':aK H') (h:SD H H'):gu H=gu H':=congrArg Cw.Op.add (af5 s s' h)
theorem Jv (s:aK H) (s':aK H') (h:SD H H'):bF H=bF H':=congrArg Cw.Op.mul (af5 s s' h)
theorem Vs (s:aK H) (s':aK H') (h:SD H H') (x:Int):∀ l,evL H l x=evL H' l x
 | []=>rfl
 |c::l=>by rw[evL,evL,Vs s s' h x l,aaL s s' h,Jv s s' h]
theorem aaM (s:aK H) (s':aK H') (h:SD H H') (a b:List Int):∀ n,Ei H a b n=Ei H' a b n
 |0=>rfl
 |n+1=>by rw[Ei,Ei,aaM s s' h a b n,aaL s s' h,Jv s s' h]
theorem aaN (s:aK H) (s':aK H') (h:SD H H') (r:Int):∀ n,lD H r n=lD H' r n
 |0=>rfl
 |n+1=>by rw[lD,lD,aaN s s' h r n,Jv s s' h]
theorem af6 (t:aK G) (t':aK G') (s:aK H) (s':aK H') (hg:SD G G') (h:SD H H') (r:Int):jQ G H r=jQ G' H' r:=by
 unfold jQ;rw[adb t t' hg,hg.1,hg.2.1,aaN s s' h];exact wO fun x _=>aaM s s' h _ _ _
theorem af7 (s:aK H) (s':aK H') (h:SD H H') {x:Int} (hx:inn H.q x≠0) (n:Nat):pJ H x (n:Int)=pJ H' x (n:Int):=by
 rw[G7 s hx,G7 s' (by rw[<-adb s s' h];exact hx),Jv s s' h]
theorem af8 (s:aK H) (s':aK H') (h:SD H H') {x:Int} (hx:inn H.q x≠0):Nc H x=Nc H' x:=by
 have hx':inn H'.q x≠0:=by rw[<-adb s s' h];exact hx
 have e:∀ k,Nc H x∣k↔Nc H' x∣k:=fun k=>by rw[Vr s hx,Vr s' hx',Jv s s' h]
 exact Nat.dvd_antisymm ((e _).2 (rH _)) ((e _).1 (rH _))
theorem LY (s:aK H) (s':aK H') (h:SD H H') (n:Nat):Ju H n=Ju H' n:=by
 unfold Ju;rw[<-adb s s' h];refine find_congr fun x hx=>?_;have hb:=G8.1 hx;by_cases z:x=0
 ·simp[z]
 ·have hin:inn H.q x≠0:=by rw[bI ⟨hb.1,by have:=q2 s;omega⟩];exact z
  rw[af8 s s' h hin]
theorem af9 (s:aK H) (s':aK H') (h:SD H H') (p xs:List Int):rtL H p xs=rtL H' p xs:=by
 unfold rtL;exact uZ fun x _=>by rw[Vs s s' h]
end
end
section
open Go.RowKit Go.Shelf Cw Cw.Gj
attribute [local go_sem] Oper.semAt_some
def Za (P M:Int) (mod:List Int) (n:Int) (H:GFd) (a:Int):Prop:=aK H/\(H.P=P/\H.M=M/\H.mod=mod)/\1<=n/\n<=64/\Ju H n.toNat=some a
theorem P7 {P M:Int} {mod:List Int} {n:Int} {H:GFd} (t:aK H) (h:H.P=P/\H.M=M/\H.mod=mod) (h0:Ju H n.toNat=none):¬ ∃ H a,Za P M mod n H a:=by
 rintro⟨H',a,t',h',_,_,k⟩;rw[LY t' t ⟨h'.1.trans h.1.symm,h'.2.1.trans h.2.1.symm,h'.2.2.trans h.2.2.symm⟩,h0] at k;cases k
def aiT (P M:Int) (mod:List Int) (n:Int) (w:World) (e:Ending) (w':World):Prop:=
 ay w w'/\(((¬ ∃ H a,Za P M mod n H a)/\∃ err:Int,err≠0/\e=.returned (.tuple #[.int .i64 0,.int .i64 err]))∨ ∃ H a,Za P M mod n H a/\e=.returned (.tuple #[.int .i64 a,.int .i64 0]))
def Vt (H:GFd) (n:Nat) (x:Int):Bool:=decide (inn H.q x≠0/\Nc H x=n)
theorem Jw {H:GFd} (s:aK H) (n:Nat):Ju H n=(upTo H.q.toNat).find? (Vt H n):=by
 unfold Ju;refine find_congr fun x hx=>?_;have hb:=G8.1 hx;unfold Vt;rw[bI ⟨hb.1,by have:=q2 s;omega⟩]
theorem Zb {p:Int->Bool}:∀ {pre l:List Int} {x:Int},pre++ [x] <+: l->(∀ y∈pre,p y=false)->p x=true->l.find? p=some x
 |pre,l,x,h,h0,h1=>by
  obtain⟨r,rfl⟩:=h;rw[uY,List.find?_append,List.find?_eq_none.2 (fun y hy=>by rw[h0 y hy];simp)];simp[h1]
structure Rt4 (w:World) (s:Nat) (n:Int):Prop where
 lt:s+1+1+1<w.heap.size
 c1:w.cell? ⟨s+1,0,none⟩=some (.int .i64 n)
 c2:w.cell? ⟨s+1+1,0,none⟩=some (.int .i64 0)
 c3:w.cell? ⟨s+1+1+1,0,none⟩=some (.int .i64 0)
 f2:w.frozen? ⟨s+1+1,0,none⟩=false
 f3:w.frozen? ⟨s+1+1+1,0,none⟩=false
theorem Rt4.kept {w w':World} {s:Nat} {n:Int} (h:Rt4 w s n) (k:ay w w'):Rt4 w' s n:=
 ⟨k.lt h.lt,(ay.cell' k (by have:=h.lt;omega)).trans h.c1,(ay.cell' k (by have:=h.lt;omega)).trans h.c2,(ay.cell' k h.lt).trans h.c3,(ay.frozen' k (by have:=h.lt;omega)).trans h.f2,(ay.frozen' k h.lt).trans h.f3⟩
structure Rs2 (w:World) (s:Nat) (a e:Int):Prop where
 c2:w.cell? ⟨s+1+1,0,none⟩=some (.int .i64 a)
 c3:w.cell? ⟨s+1+1+1,0,none⟩=some (.int .i64 e)
theorem Rt4.put {w:World} {s:Nat} {n:Int} (h:Rt4 w s n) (a e:Int):Rs2 ((w.setCell ⟨s+1+1,0,none⟩ (.int .i64 a)).setCell ⟨s+1+1+1,0,none⟩ (.int .i64 e)) s a e:=by
 have h2:(w.setCell ⟨s+1+1,0,none⟩ (.int .i64 a)).cell? ⟨s+1+1,0,none⟩=some (.int .i64 a):=World.cell?_setCell_same' _ _ _ (by rw[h.c2];rfl);have h3:(w.setCell ⟨s+1+1,0,none⟩ (.int .i64 a)).cell? ⟨s+1+1+1,0,none⟩=some (.int .i64 0):=by rw[World.cell?_setCell_other _ _ _ _ (by simp)];exact h.c3
 exact⟨by rw[World.cell?_setCell_other _ _ _ _ (by simp)];exact h2,World.cell?_setCell_same' _ _ _ (by rw[h3];rfl)⟩
set_option maxRecDepth 100000 in
theorem Zc (P M:Int) (vm:Value) (mod:List Int) (n:Int) (w:World) (hvm:Sl w vm mod):
  Calls Tryz.prog 49 #[.agg #[.int .i64 P,.int .i64 M,vm],.int .i64 n] w (aiT P M mod n w):=by
 obtain⟨wA,hwA⟩:∃ wA,wA=(((w.alloc (.cells #[.int .i64 P,.int .i64 M,vm] 24)).alloc (.cells #[.int .i64 n] 3)).alloc (.cells #[.int .i64 0] 3)).alloc (.cells #[.int .i64 0] 30):=⟨_,rfl⟩
 have hA1:=ah w (.cells #[.int .i64 P,.int .i64 M,vm] 24);have hA2:=ah (w.alloc (.cells #[.int .i64 P,.int .i64 M,vm] 24)) (.cells #[.int .i64 n] 3);have hA3:=ah ((w.alloc (.cells #[.int .i64 P,.int .i64 M,vm] 24)).alloc (.cells #[.int .i64 n] 3)) (.cells #[.int .i64 0] 3);have hA4:=ah (((w.alloc (.cells #[.int .i64 P,.int .i64 M,vm] 24)).alloc (.cells #[.int .i64 n] 3)).alloc (.cells #[.int .i64 0] 3)) (.cells #[.int .i64 0] 30);have rt:Rt4 wA w.heap.size n:=by
  have r1:=jg (w.alloc (.cells #[.int .i64 P,.int .i64 M,vm] 24)) (.int .i64 n) 3;have r2:=jg ((w.alloc (.cells #[.int .i64 P,.int .i64 M,vm] 24)).alloc (.cells #[.int .i64 n] 3)) (.int .i64 0) 3;have r3:=jg (((w.alloc (.cells #[.int .i64 P,.int .i64 M,vm] 24)).alloc (.cells #[.int .i64 n] 3)).alloc (.cells #[.int .i64 0] 3)) (.int .i64 0) 30;simp only[World.size_alloc] at r1 r2 r3;rw[hwA];exact⟨by simp,(ay.cell' (hA3.tr hA4) (by simp)).trans r1.1,(ay.cell' hA4 (by simp)).trans r2.1,r3.1,(ay.frozen' hA4 (by simp)).trans r2.2,r3.2⟩
 have bx:=(aS w P M vm 24).kept ((hA2.tr hA3).tr hA4);have hk:=((hA1.tr hA2).tr hA3).tr hA4;rw[<-hwA] at bx hk;have sv:=hvm.kept hk;have hlt:=rt.lt;have b0:=bx.h0;have b1:=bx.h1;have b2:=bx.h2;clear hA1 hA2 hA3 hA4;refine(callsIn_wide (n:=3)).1 ?_;by_cases hf:fD P M mod;case neg=>
  have HF:=hid hf;clear hf;refine callsIn_of_wp_marks Tryz.func49 rfl trivial ?_ rfl;simp only[Tryz.ntmps49,vM,yG,xP,Nat.reduceAdd,Nat.reduceSub,wH,wG,vK,vY,vP,vG]
  gi_wp2_with (refine⟨trivial, ?_⟩;gi_at_call 47;rw[<-hwA];clear hwA;refine(callsIn_wide.2 (Bl P M vm mod _ sv HF.out)).mono ?_;rintro e w2 ⟨rfl,k2⟩;have k2':=k2.tr (ah w2 (.cells #[.pointer none] 55));have rt2:=rt.kept k2';have c1:=rt2.c1;have c2:=rt2.c2;have c3:=rt2.c3;have f2:=rt2.f2;have f3:=rt2.f3)
  have hk2:=hk.tr k2';have ru:=rt2.put 0 1;have u2:=ru.c2;have u3:=ru.c3;refine⟨.tuple #[.int .i64 0,.int .i64 1], ?_,(hk2.setCell (p:=⟨w.heap.size+1+1,0,none⟩) (by show w.heap.size<=w.heap.size+1+1;omega) _).setCell (p:=⟨w.heap.size+1+1+1,0,none⟩) (by show w.heap.size<=w.heap.size+1+1+1;omega) _,.inl ⟨?_,1,by decide,rfl⟩⟩
  ·simp[results,Tryz.f49,go_sem,u2,u3]
  ·rintro⟨H,a,t,⟨h1,h2,h3⟩,_⟩;exact HF.out (by rw[<-h1,<-h2,<-h3];exact t.field)
 have HF:=hid hf;clear hf;by_cases hn:1<=n/\n<=64;case neg=>
  have HN:=hid hn;by_cases hn1:n<1;case pos=>
   have tn:decide (n<1)=true:=xG hn1;clear hn hn1;refine callsIn_of_wp_marks Tryz.func49 rfl trivial ?_ rfl;simp only[Tryz.ntmps49,vM,yG,xP,Nat.reduceAdd,Nat.reduceSub,wH,wG,vK,vY,vP,vG]
   gi_wp2_with (refine⟨trivial, ?_⟩;gi_at_call 47;rw[<-hwA];clear hwA;refine(callsIn_wide.2 (fA P M vm mod _ sv HF.out)).mono ?_;rintro e w2 ⟨b,H,rfl,_,_,_,_,_,k2⟩;have k2':=k2.tr (ah w2 (.cells #[.pointer (some ⟨b,0,none⟩)] 55));have rt2:=rt.kept k2';have c1:=rt2.c1;have c2:=rt2.c2;have c3:=rt2.c3;have f2:=rt2.f2;have f3:=rt2.f3)
   have hk2:=hk.tr k2';have ru:=rt2.put 0 4;have u2:=ru.c2;have u3:=ru.c3;refine⟨.tuple #[.int .i64 0,.int .i64 4], ?_,(hk2.setCell (p:=⟨w.heap.size+1+1,0,none⟩) (by show w.heap.size<=w.heap.size+1+1;omega) _).setCell (p:=⟨w.heap.size+1+1+1,0,none⟩) (by show w.heap.size<=w.heap.size+1+1+1;omega) _,.inl ⟨?_,4,by decide,rfl⟩⟩
   ·simp[results,Tryz.f49,go_sem,u2,u3]
   ·rintro⟨H,a,t,_,h1,h2,_⟩;exact HN.out ⟨h1,h2⟩
  case neg=>
   have tn:decide (n<1)=false:=yK hn1;have tn2:decide (64<n)=true:=xG (by omega);clear hn hn1;refine callsIn_of_wp_marks Tryz.func49 rfl trivial ?_ rfl;simp only[Tryz.ntmps49,vM,yG,xP,Nat.reduceAdd,Nat.reduceSub,wH,wG,vK,vY,vP,vG]
   gi_wp2_with (refine⟨trivial, ?_⟩;gi_at_call 47;rw[<-hwA];clear hwA;refine(callsIn_wide.2 (fA P M vm mod _ sv HF.out)).mono ?_;rintro e w2 ⟨b,H,rfl,_,_,_,_,_,k2⟩;have k2':=k2.tr (ah w2 (.cells #[.pointer (some ⟨b,0,none⟩)] 55));have rt2:=rt.kept k2';have c1:=rt2.c1;have c2:=rt2.c2;have c3:=rt2.c3;have f2:=rt2.f2;have f3:=rt2.f3)
   have hk2:=hk.tr k2';have ru:=rt2.put 0 4;have u2:=ru.c2;have u3:=ru.c3;refine⟨.tuple #[.int .i64 0,.int .i64 4], ?_,(hk2.setCell (p:=⟨w.heap.size+1+1,0,none⟩) (by show w.heap.size<=w.heap.size+1+1;omega) _).setCell (p:=⟨w.heap.size+1+1+1,0,none⟩) (by show w.heap.size<=w.heap.size+1+1+1;omega) _,.inl ⟨?_,4,by decide,rfl⟩⟩
   ·simp[results,Tryz.f49,go_sem,u2,u3]
   ·rintro⟨H,a,t,_,h1,h2,_⟩;exact HN.out ⟨h1,h2⟩
 obtain⟨N,rfl⟩:=zY (show 0<=n by omega);have hN:1<=N/\N<=64:=by omega
 have tn:decide (N<1)=false:=yK (by omega);have tn2:decide (64<N)=false:=yK (by omega);have tm:decide ((N:Int)<1)=false:=yK (by omega);have tm2:decide (64< (N:Int))=false:=yK (by omega);clear hn;refine callsIn_of_wp_marks Tryz.func49 rfl trivial ?_ rfl;simp only[Tryz.ntmps49,vM,yG,xP,Nat.reduceAdd,Nat.reduceSub,wH,wG,vK,vY,vP,vG]
 gi_wp2_with (first|(refine⟨trivial, ?_⟩;gi_at_call 47;rw[<-hwA];clear hwA;refine(callsIn_wide.2 (fA P M vm mod _ sv HF.out)).mono ?_;rintro e w2 ⟨b,H,rfl,hg2,tH,gP,gM,gm,k2⟩;have k2':=k2.tr (ah w2 (.cells #[.pointer (some ⟨b,0,none⟩)] 55));have HD:=hid (show H.P=P/\H.M=M/\H.mod=mod from⟨gP,gM,gm⟩);have rt2:=rt.kept k2';have c1:=rt2.c1;clear gP gM gm)|(refine⟨trivial, ?_⟩;gi_at_call 98;refine(callsIn_wide.2 (AB b _)).mono ?_;rintro e w3 ⟨rfl,rfl⟩))
 have kb:=ah w2 (.cells #[.pointer (some ⟨b,0,none⟩)] 55);have n1:=jg w2 (.pointer (some ⟨b,0,none⟩)) 55;have n3:=jg (w2.alloc (.cells #[.pointer (some ⟨b,0,none⟩)] 55)) (.pointer (some ⟨b,0,none⟩)) 55;have kc:=ah (w2.alloc (.cells #[.pointer (some ⟨b,0,none⟩)] 55)) (.cells #[.pointer (some ⟨b,0,none⟩)] 55);have hgW:=hg2.kept (kb.tr kc);have rtW:=rt2.kept kc;have kW:=(hk.tr k2').tr kc;have g1:=(ay.cell' kc (b:=w2.heap.size) (by simp)).trans n1.1;simp only[World.size_alloc] at n3;obtain⟨W0,hW0⟩:∃ W0,(w2.alloc (.cells #[.pointer (some ⟨b,0,none⟩)] 55)).alloc (.cells #[.pointer (some ⟨b,0,none⟩)] 55)=W0:=⟨_,rfl⟩
 have hsz:W0.heap.size=w2.heap.size+1+1:=by rw[<-hW0];simp
 rw[hW0] at n3 g1 hgW rtW kW ⊢;clear hW0 n1 kb kc c1;have hl2:=rtW.lt;obtain⟨q1,q2, -⟩:=tH.qb;refine wpIn_rangeFunc_ownF (F:=Fence.wide) (n:=3) rfl (by decide) (gf:=154) (lb:=#[.pointer (some ⟨w2.heap.size+1,0,none⟩)]) rfl trivial (enters_of Tryz.func154 (by kernel_rfl) rfl)
  (qc 2 b (w2.heap.size+1) H tH W0 (by omega) n3.1 hgW) walksK_t walksK_b (Below.refl _ _) (fun _=>rfl)
  (fun pre W=>Hid (∀ y∈pre,Vt H N y=false)/\Below W0.heap.size W0 W)
  (fun c pre W=>(c=.ret/\∃ x pre',pre=pre'++ [x]/\Hid ((∀ y∈pre',Vt H N y=false)/\Vt H N x=true)/\Rs2 W w.heap.size x 0)/\Below w.heap.size w W)
  (OwnFrom.and (Own.from (fun s A B row hs hg hr=>hs) _) (ownFrom_below (zy _) (zy _)))
  (fun c=>OwnFrom.and (Own.from (fun s A B row hs hg hr=>by
   obtain⟨h1,x,pre',e,h,r⟩:=hs;exact⟨h1,x,pre',e,h,⟨cell_kept r.c2 hg hr,cell_kept r.c3 hg hr⟩⟩) _) (ownFrom_below (by omega) (by omega)))
  ⟨hid (fun _ h=>by simp at h),Below.refl _ _⟩
  (fun x=>{tmps:=#[.agg #[.int .i64 P,.int .i64 M,vm],.int .i64 N,.pointer (some ⟨w.heap.size,0,none⟩),.pointer (some ⟨w.heap.size+1,0,none⟩),.pointer (some ⟨w.heap.size+1+1,0,none⟩),.pointer (some ⟨w.heap.size+1+1+1,0,none⟩),.pointer (some ⟨w2.heap.size,0,none⟩),.int .i64 0,.int .i64 x,undef,undef,.tuple #[.pointer (some ⟨b,0,none⟩),.int .i64 0],.agg #[.int .i64 P,.int .i64 M,vm],.tuple #[.pointer (some ⟨b,0,none⟩),.int .i64 0],.pointer (some ⟨b,0,none⟩),.int .i64 0,.int .i64 0,.bool false,undef,.int .i64 N,.bool false,.bool false,.int .i64 N,.bool false,.bool false,.pointer (some ⟨b,0,none⟩),.func (.func 154) #[] #[.pointer (some ⟨w2.heap.size+1,0,none⟩)],.int .i64 x,undef,undef,undef,undef,undef,undef,undef,undef,undef,undef,undef,undef,undef,undef],defers:=[]}) ?assign ?body ?done ?stop
 case assign=>
  intro l x W K hK
  gi_wp2
  exact hK
 case body=>
  rintro l pre x W ⟨hp,hB⟩ hlen;have gx:=(hB.cell (p:=⟨w2.heap.size,0,none⟩) (by show w2.heap.size<_;omega)).trans g1;have hgx:dW W b H:=hgW.kept hB;have rtx:Rt4 W w.heap.size N:=rtW.kept hB;have kx:ay w W:=kW.tr hB;have x1:=rtx.c1;by_cases h0:inn H.q x=0
  ·have HM:=hid (F5 b H x W hgx h0);have HH:Hid (Vt H N x=false):=hid (by simp[Vt,h0]);clear h0
   gi_wp2_with (refine⟨trivial, ?_⟩;gi_at_call 99;refine(CallsIn.inRound l (callsIn_wide.2 HM.out)).mono ?_;rintro e W2 ⟨rfl,m,rfl⟩)
   exact⟨KeepsOthers.drewN' W m,(KeepsOthers.drewN' W m).walks,hid (fun y hy=>by
    rcases yQ.1 hy with q|q
    ·exact hp.out y q
    ·rw[zH.1 q];exact HH.out),below_drewN hB m⟩
  ·have HM:=hid (KQ b H x W hgx tH h0);obtain⟨k,hk⟩:∃ k,k=Nc H x:=⟨_,rfl⟩
   rw[<-hk] at HM;by_cases h1:k=N
   ·have HH:Hid (Vt H N x=true):=hid (by simp[Vt,h0,<-hk,h1]);clear h0 hk;subst h1;have x2:=rtx.c2;have x3:=rtx.c3;have x4:=rtx.f2;have x5:=rtx.f3
    gi_wp2_with (refine⟨trivial, ?_⟩;gi_at_call 99;refine(CallsIn.inRound l (callsIn_wide.2 HM.out)).mono ?_;rintro e W2 ⟨rfl,m,rfl⟩)
    exact⟨((KeepsOthers.drewN' W m).trans (KeepsOthers.setCell _ _ _)).trans (KeepsOthers.setCell _ _ _),⟨rfl,x,pre,rfl,hid ⟨hp.out,HH.out⟩,(rtx.kept (aB W m)).put x 0⟩,
     ((kx.drewN m).setCell (p:=⟨w.heap.size+1+1,0,none⟩) (by show w.heap.size<=w.heap.size+1+1;omega) _).setCell (p:=⟨w.heap.size+1+1+1,0,none⟩) (by show w.heap.size<=w.heap.size+1+1+1;omega) _⟩
   ·have HH:Hid (Vt H N x=false):=hid (by simp[Vt,<-hk,h1]);have tk:(((k:Nat):Int)==(N:Int))=false:=by simp;omega
    clear h0 hk h1
    gi_wp2_with (refine⟨trivial, ?_⟩;gi_at_call 99;refine(CallsIn.inRound l (callsIn_wide.2 HM.out)).mono ?_;rintro e W2 ⟨rfl,m,rfl⟩)
    exact⟨KeepsOthers.drewN' W m,(KeepsOthers.drewN' W m).walks,hid (fun y hy=>by
     rcases yQ.1 hy with q|q
     ·exact hp.out y q
     ·rw[zH.1 q];exact HH.out),below_drewN hB m⟩
 case done=>
  rintro D ys W hD rfl ⟨hp,hB⟩ hK;have rtx:Rt4 W w.heap.size N:=rtW.kept hB;have kx:ay w W:=kW.tr hB;have x2:=rtx.c2;have x3:=rtx.c3;have x4:=rtx.f2;have x5:=rtx.f3
  gi_wp2
  have hK':=((KeepsOthers.setCell W ⟨w.heap.size+1+1,0,none⟩ (.int .i64 0)).trans (KeepsOthers.setCell _ ⟨w.heap.size+1+1+1,0,none⟩ (.int .i64 11))).same D _ hK rfl;refine⟨by simp,.inl ⟨_,_,rfl,run_takeDeferred hK', ?_⟩⟩;have ru:=rtx.put 0 11;have u2:=cell_kept ru.c2 (grownBy_putObj' _ D (.deferred none)) (fun r e=>by cases e;exact⟨_,hK',rfl⟩);have u3:=cell_kept ru.c3 (grownBy_putObj' _ D (.deferred none)) (fun r e=>by cases e;exact⟨_,hK',rfl⟩);refine⟨.tuple #[.int .i64 0,.int .i64 11], ?_,((kx.setCell (p:=⟨w.heap.size+1+1,0,none⟩) (by show w.heap.size<=w.heap.size+1+1;omega) _).setCell (p:=⟨w.heap.size+1+1+1,0,none⟩) (by show w.heap.size<=w.heap.size+1+1+1;omega) _).trans (belowK_b (w:=w) (zy _) _ D _ _ (by have:=kW.size;omega) hK' rfl rfl),.inl ⟨P7 tH HD.out ?_,11,by decide,rfl⟩⟩
  ·simp[results,Tryz.f49,go_sem,u2,u3]
  ·rw[Jw tH,yL];exact List.find?_eq_none.2 fun y hy=>by rw[hp.out y hy];simp
 case stop=>
  rintro D c pre W hD hpre ⟨⟨rfl,x,pre',rfl,hh,hr⟩,hB⟩ hK;have x2:=hr.c2;have x3:=hr.c3
  gi_wp2
  refine⟨by simp,.inl ⟨_,_,rfl,run_takeDeferred hK, ?_⟩⟩;have u2:=cell_kept x2 (grownBy_putObj' _ D (.deferred none)) (fun r e=>by cases e;exact⟨_,hK,rfl⟩);have u3:=cell_kept x3 (grownBy_putObj' _ D (.deferred none)) (fun r e=>by cases e;exact⟨_,hK,rfl⟩);refine⟨.tuple #[.int .i64 x,.int .i64 0], ?_,hB.trans (belowK_b (w:=w) (zy _) _ D _ _ (by have:=kW.size;omega) hK rfl rfl),.inr ⟨H,x,⟨tH,HD.out,by omega,by omega, ?_⟩,rfl⟩⟩
  ·simp[results,Tryz.f49,go_sem,u2,u3]
  ·rw[Jw tH,yL];exact Zb hpre hh.out.1 hh.out.2
end
section
open Go.RowKit Cw
def lenV:Value->Nat| .slice _ n _=>n|_=>0
set_option maxRecDepth 100000 in
theorem aiU (b:Nat) (G:GFd) (t:aK G) (vp vq:Value) (p q:List Int) (w:World) (hg:dW w b G) (hvp:Sl w vp p) (hvq:Sl w vq q) (hlp:p.length<=100000) (hlq:q.length<=100000):
  Calls Tryz.prog 106 #[.pointer (some ⟨b,0,none⟩),vp,vq] w (afZ G t (Pl.gcd (t.pl p) (t.pl q)) w):=by
 go_enter Tryz.func106,Tryz.ntmps106;go_wp2_with(fail)
 refine(DI b G t vp p _ hg hvp (by omega)).mono ?_;rintro e w1 ⟨v1,l1,rfl,o1,k1,c1,p1⟩;have hn1:l1.length<=100000:=by have:=t.yD c1 p1;have:=t.oP p;omega
 have akr:=hvq.kept k1;have hg1:=hg.kept k1;have P1:=hid p1;clear p1 hvp hvq hg;go_wp2_with(fail)
 refine(DI b G t vq q _ hg1 akr (by omega)).mono ?_;rintro e w2 ⟨v2,l2,rfl,o2,k2,c2,p2⟩;have hn2:l2.length<=100000:=by have:=t.yD c2 p2;have:=t.oP q;omega
 have hG:Hid (Pl.gcd (t.pl l1) (t.pl l2)=Pl.gcd (t.pl p) (t.pl q)):=hid (by rw[P1.out,p2]);have o1':=o1.kept k2;have o2':=o2.mono k1.size;have ku:=k1.tr k2;have hg2:=hg1.kept k2;obtain⟨a2,cp2,rfl,s2,s2'⟩:=o2.sh;clear p2 P1 o1 o2 k1 k2 hg1 akr;go_wp2_with(fail)
 go_loopw [1,2] (fun vp vq wr=>∃ (l1 l2:List Int) (a2:Option Addr) (cp2:Nat),vq=.slice a2 l2.length cp2/\Own wr w.heap.size vp l1/\Own wr w.heap.size vq l2/\ay w2 wr/\nK G l1/\nK G l2/\Hid (Pl.gcd (t.pl l1) (t.pl l2)=Pl.gcd (t.pl p) (t.pl q))/\l1.length<=100000/\l2.length<=100000) (fun _ vq _=>lenV vq)
 case atStart=>exact⟨l1,l2,_,_,rfl,o1',o2',ay.rfl' _,c1,c2,hG,hn1,hn2⟩
 case round=>
  obtain⟨l1,l2,a2,cp2,rfl,o1,o2,hkw,c1,c2,hG,hn1,hn2⟩:=hrel;clear o1' o2' s2 s2';have hgw:=hg2.kept hkw;by_cases h0:l2=[]
  ·subst h0;have HM:Hid (Pl.mon (t.pl l1)=Pl.gcd (t.pl p) (t.pl q)):=hid (by rw[<-hG.out,t.Ci,Pl.gcd_zero]);have s1:=o1.sl;by_cases h1:t.pl l1=0
   ·have H1:=hid h1;have HZ:Hid (Pl.gcd (t.pl p) (t.pl q)=0):=hid (by rw[<-HM.out,h1,Pl.qO]);clear h1;go_wp2_with(go_at_call 158;(with_reducible refine(ac4 b G t _ l1 _ hgw s1 (by omega) H1.out).mono ?_);rintro e w3 ⟨rfl,k3⟩)
    go_ret;exact⟨_,[],rfl,bZ _ _,(ku.tr hkw).tr k3,J7 G,by rw[HZ.out,t.Ci]⟩
   ·have H1:=hid h1;clear h1;go_wp2_with(go_at_call 158;(with_reducible refine(ac5 b G t _ l1 _ hgw s1 (by omega) H1.out).mono ?_);rintro e w3 ⟨v3,l3,rfl,o3,k3,c3,p3⟩;have P3:=hid p3;clear p3)
    go_ret;exact⟨_,l3,rfl,o3.mono (ku.tr hkw).size,(ku.tr hkw).tr k3,c3,by rw[P3.out,HM.out]⟩
  ·have hpos:=yI.2 h0;have hz:t.pl l2≠0:=fun e=>h0 ((t.RU c2).1 e);have HZ:=hid hz;have s1:=o1.sl;have s2:=o2.sl;have tp:(0:Int)< (l2.length:Int):=by omega
   clear h0 hz;go_wp2_with(go_at_call 157;(with_reducible refine(Y8 b G t _ _ l1 l2 _ hgw s1 s2 (by omega) (by omega) HZ.out).mono ?_);rintro e w3 ⟨vu,vr,lu,lr,rfl,ou,orr,k3,cu,cr,pu,pr⟩;have PU:=hid pu;have PR:=hid pr;clear pu pr)
   obtain⟨a3,cp3,rfl,s3,s3'⟩:=orr.sh;have hlr:lr.length<l2.length:=by
    have h1:=t.yD cr PR.out;have h2:=Pl.MQ (t.pl l1) HZ.out;rw[t.IC c2] at h2;omega
   go_roundw;case rel=>exact⟨l2,lr,_,_,rfl,o2.kept k3,orr.mono (ku.tr hkw).size,hkw.tr k3,c2,cr,hid (by rw[<-hG.out,PR.out,Pl.QT]),hn2,by omega⟩
   case measure=>simpa[lenV] using hlr
end
end Go.Proofs.YtoilbeadokallaaGreatDoor
