/- Lemmas on the way to the row. Conditions: each lemma's own, stated with it. -/
import Derived.Test.YtoilbeadokallaaGreatDoorK16
import Derived.Test.YtoilbeadokallaaGreatDoorK18
import Derived.Deep.RegionLaw
import Derived.Deep.LoopGhost
import Derived.Maps.AppendAt
import Derived.IntWalk
set_option maxHeartbeats 8000000
namespace Go.Proofs.YtoilbeadokallaaGreatDoor
section
open Go.RowKit Cw Cw.Gj
def KU (w:World) (l:List Tok) (e:Ending) (w':World):Prop:=∃ v,e=.returned v/\JK w' w.heap.size v l/\ay w w'
theorem afg {x:Int} (h:isLet x=true):97<=x/\x<=122:=by unfold isLet at h;simpa using h
theorem afh {x:Int} (h:nI x=true):48<=x/\x<=57:=by unfold nI at h;simpa using h
theorem iJ {x y:Int} (h:x≠y):(x==y)=false:=by simpa using h
theorem KW (w:World) (t:Tok):∀ q u,t.cells[q]?=some u->(w.alloc (.cells #[.int .i64 t.k,.string t.s,.int .i64 t.n,.int .i64 t.a] 140)).cell? (Addr.add ⟨w.heap.size,0,none⟩ q)=some u:=fun q u hu=>by
 rw[Addr.add_lit,xQ];exact(aG w [.int .i64 t.k,.string t.s,.int .i64 t.n,.int .i64 t.a] _ _ rfl).2 q u hu
theorem Ja (c:UInt8) (w:World) {z:Int} (h:z=Lib.indexByte [40,41,91,93,44] c):Calls Tryz.prog 80 #[.string ⟨#[40,41,91,93,44]⟩,.int .u8 (c.toNat:Int)] w fun e w'=>e=.returned (.int .i64 z)/\w=w':=by
 have:=Gi ⟨#[40,41,91,93,44]⟩ (c.toNat:Int) w;rw[show((c.toNat:Int)).toNat.toUInt8=c by simp,<-show z=Lib.indexByte (ByteArray.mk #[40,41,91,93,44]).data.toList c from h] at this;exact this
set_option maxRecDepth 100000 in
theorem XY (s:ByteArray) (R:Nat) (pos:Nat->Nat) (T:Nat->List Tok) (w:World) (hs:s.size<=1000) (h0:pos 0=0) (t0:T 0=[]) (hR:pos R=s.size) (hst:∀ r,r<R->Stp s (pos r) (T r) (pos (r+1)) (T (r+1))) (hlen:∀ r,r<=R->(T r).length<=1000) (hp:∀ r,r<R->pos r<pos (r+1)) (hpl:∀ r,r<=R->pos r<=s.size):
  Calls Tryz.prog 39 #[.string s] w (KU w (T R)):=by
 have HST:=hid hst;have HL:=hid hlen;have HP:=hid hp;have HPL:=hid hpl;have HR:=hid hR;have H0:=hid h0;have T0:=hid t0;clear hst hlen hp hpl hR h0 t0;have hs':¬ (s.size:Int) >65536:=by omega
 go_enter Tryz.func39,Tryz.ntmps39;go_wp2_with(fail)
 go_loopw [3,4] (fun vo vi wr=>∃ r,r<=R/\vi=.int .i64 (pos r)/\JK wr w.heap.size vo (T r)/\ay w wr) (fun _ vi _=>s.size- (intOf vi).toNat)
 case atStart=>exact⟨0,xZ _,by rw[H0.out];rfl,by rw[T0.out];exact XW _ _,ay.rfl' _⟩
 case round=>
  obtain⟨r,hr,rfl,hown,hk⟩:=hrel;by_cases hlt:r<R
  ·have hst:=HST.out r hlt;have hlen:=HL.out r hr;have hps:=HP.out r hlt;have hpl:=HPL.out (r+1) hlt;obtain⟨i',hi'⟩:∃ i',i'=pos (r+1):=⟨_,rfl⟩
   obtain⟨l',hl'⟩:∃ l',l'=T (r+1):=⟨_,rfl⟩
   obtain⟨i,hi⟩:∃ i,i=pos r:=⟨_,rfl⟩
   obtain⟨l,hl⟩:∃ l,l=T r:=⟨_,rfl⟩
   rw[<-hi',<-hl',<-hi,<-hl] at hst;rw[<-hi] at hps ⊢;rw[<-hi'] at hps hpl;rw[<-hl] at hlen hown;have HI:=hid hi';have HLL:=hid hl';clear hi hl hi' hl';cases hst with
   |blank l h h1=>
    have hlt':(i:Int)< (s.size:Int):=by omega
    have x1:(((s[i]'h).toNat:Int)==32)=true:=by rw[h1];rfl
    clear h1 hps hpl;go_wp2_with(fail)
    go_roundw;case rel=>exact⟨r+1,hlt,by rw[<-HI.out];go_num,by rw[<-HLL.out];exact hown,hk⟩
    case measure=>simp[intOf];omega
   |name _ l h hij hj hn h1 h2 h3 hz=>
    have hlt':(i:Int)< (s.size:Int):=by omega
    have hij':(i:Int)<=(i':Int):=by omega
    have hj':(i':Int)<=(s.size:Int):=by omega
    have hb:=afg h1;have x1:=iJ (show((s[i]'h).toNat:Int)≠32 by omega);have x2:=iJ (show((s[i]'h).toNat:Int)≠9 by omega);have x3:=iJ (show((s[i]'h).toNat:Int)≠10 by omega);have H1:=hid h1;have HW:=hid (fun W=>EJ s i i' W (by omega) hj hs h2 h3);have hg:¬ (i':Int)- (i:Int) >16:=by omega
    have hka:=ah wr (.cells #[.int .i64 1,.string (s.extract i i'),.int .i64 0,.int .i64 i] 140);have hoa:=hown.kept hka;have hsz:w.heap.size<=(wr.alloc (.cells #[.int .i64 1,.string (s.extract i i'),.int .i64 0,.int .i64 i] 140)).heap.size:=(hk.tr hka).size;have HN:=hid (KW wr ⟨1,s.extract i i',0,i⟩);have HZ:=hid hz;clear h1 h2 h3 hz hb;go_wp2_with(first|(go_at_call 75;refine(eG _ _).mono ?_;rintro e w' ⟨rfl,rfl⟩;rw[H1.out])|(go_at_call 76;refine(HW.out _).mono ?_;rintro e w' ⟨rfl,rfl⟩)|(at_builtin;refine iT rfl (.tmp 45) (.tmp 52) rfl w.heap.size _ l rfl hoa ⟨wr.heap.size,0,none⟩ _ rfl HN.out (by omega) hsz ?_;intro v7 w7 o7 hg7;obtain⟨g7,c7,rfl,k7⟩:=o7.snoc;have hk7:ay w w7:=(hk.tr hka).grown hg7 hsz (fun g e=>(World.ownsRow.lt hoa g e).1)))
    go_roundw;case rel=>exact⟨r+1,hlt,by rw[<-HI.out];exact iC (by omega),by rw[<-HLL.out];exact o7,hk7⟩
    case measure=>simp[intOf];omega
   |num l d h hl=>
    have hlt':(i:Int)< (s.size:Int):=by have:=h.lt;omega
    have hi1:((i:Int)+1)<=(s.size:Int):=by omega
    have hb:=afh h.dg;have x1:=iJ (show((s[i]'h.lt).toNat:Int)≠32 by omega);have x2:=iJ (show((s[i]'h.lt).toNat:Int)≠9 by omega);have x3:=iJ (show((s[i]'h.lt).toNat:Int)≠10 by omega);have H1:Hid (isLet ((s[i]'h.lt).toNat:Int)=false):=hid (by unfold isLet;simp;omega);have H2:=hid h.dg;have HZ:=hid h.xs;have HNM:=hid (fun W=>Pg s i d W h hl);clear hb;go_wp2_with(first|(go_at_call 75;refine(eG _ _).mono ?_;rintro e w' ⟨rfl,rfl⟩;rw[H1.out])|(go_at_call 78;refine(iQ _ _).mono ?_;rintro e w' ⟨rfl,rfl⟩;rw[H2.out])|(go_at_call 79;refine(HNM.out _).mono ?_;rintro e w5 ⟨rfl,hk5⟩;have ajE:=hk.tr hk5;have hka:=ah w5 (.cells #[.int .i64 2,.string (s.extract i (i+1)),.int .i64 d,.int .i64 i] 140);have hoa:=(hown.kept hk5).kept hka;have hsz:w.heap.size<=(w5.alloc (.cells #[.int .i64 2,.string (s.extract i (i+1)),.int .i64 d,.int .i64 i] 140)).heap.size:=(ajE.tr hka).size;have HN:Hid (∀ q u,(Tok.cells ⟨2,s.extract i (i+1),d,i⟩)[q]?=some u->(w5.alloc (.cells #[.int .i64 2,.string (s.extract i (i+1)),.int .i64 d,.int .i64 i] 140)).cell? (Addr.add ⟨w5.heap.size,0,none⟩ q)=some u):=hid (KW w5 _))|(at_builtin;refine iT rfl (.tmp 57) (.tmp 61) rfl w.heap.size _ l rfl hoa ⟨w5.heap.size,0,none⟩ _ rfl HN.out (by omega) hsz ?_;intro v7 w7 o7 hg7;obtain⟨g7,c7,rfl,k7⟩:=o7.snoc;have hk7:ay w w7:=(ajE.tr hka).grown hg7 hsz (fun g e=>(World.ownsRow.lt hoa g e).1)))
    go_roundw;case rel=>exact⟨r+1,hlt,by rw[<-HI.out];exact iC (by omega),by rw[<-HLL.out];exact o7,hk7⟩
    case measure=>simp[intOf];omega
   |sign l h h0 h1 h2 h3 hz=>
    have hlt':(i:Int)< (s.size:Int):=by omega
    have hi1:((i:Int)+1)<=(s.size:Int):=by omega
    have x1:=iJ (show((s[i]'h).toNat:Int)≠32 by omega);have x2:=iJ (show((s[i]'h).toNat:Int)≠9 by omega);have x3:=iJ (show((s[i]'h).toNat:Int)≠10 by omega);have H1:=hid h1;have H2:=hid h2;obtain⟨z,hzz⟩:∃ z,z=Lib.indexByte [40,41,91,93,44] (s[i]'h):=⟨_,rfl⟩
    have hz0:0<=z:=by rw[hzz];exact h3
    have HX:=hid (fun W=>Ja (s[i]'h) W hzz);have hka:=ah wr (.cells #[.int .i64 3,.string (s.extract i (i+1)),.int .i64 0,.int .i64 i] 140);have hoa:=hown.kept hka;have hsz:w.heap.size<=(wr.alloc (.cells #[.int .i64 3,.string (s.extract i (i+1)),.int .i64 0,.int .i64 i] 140)).heap.size:=(hk.tr hka).size;have HN:=hid (KW wr ⟨3,s.extract i (i+1),0,i⟩);have HZ:=hid hz;clear h0 h1 h2 h3 hz hzz;go_wp2_with(first|(go_at_call 75;refine(eG _ _).mono ?_;rintro e w' ⟨rfl,rfl⟩;rw[H1.out])|(go_at_call 78;refine(iQ _ _).mono ?_;rintro e w' ⟨rfl,rfl⟩;rw[H2.out])|(go_at_call 80;refine(HX.out _).mono ?_;rintro e w' ⟨rfl,rfl⟩)|(at_builtin;refine iT rfl (.tmp 67) (.tmp 75) rfl w.heap.size _ l rfl hoa ⟨wr.heap.size,0,none⟩ _ rfl HN.out (by omega) hsz ?_;intro v7 w7 o7 hg7;obtain⟨g7,c7,rfl,k7⟩:=o7.snoc;have hk7:ay w w7:=(hk.tr hka).grown hg7 hsz (fun g e=>(World.ownsRow.lt hoa g e).1)))
    go_roundw;case rel=>exact⟨r+1,hlt,by rw[<-HI.out];exact iC (by omega),by rw[<-HLL.out];exact o7,hk7⟩
    case measure=>simp[intOf];omega
  ·have HE:Hid (r=R):=hid (by omega);have hge:¬ (pos r:Int)< (s.size:Int):=by rw[HE.out,HR.out];omega
   go_wp2_with(fail)
   go_ret;exact⟨_,rfl,by rw[<-HE.out];exact hown,hk⟩
structure PsS (w:World) (p g c:Nat) (L:List Tok) (i m:Nat):Prop where
 lt:p<w.heap.size
 glt:g<w.heap.size
 ne:g≠p
 h0:w.cell? ⟨p,0,none⟩=some (.slice (some ⟨g,0,none⟩) L.length c)
 h1:w.cell? ⟨p,1,none⟩=some (.int .i64 i)
 h3:w.cell? ⟨p,3,none⟩=some (.int .i64 m)
 f1:w.frozen? ⟨p,1,none⟩=false
 f3:w.frozen? ⟨p,3,none⟩=false
 tk:∀ k t,L[k]?=some t->∀ j,j<4->w.cell? ⟨g,k*4+j,none⟩=t.cells[j]?
section
variable {w w':World} {p g c:Nat} {L:List Tok} {i m:Nat}
theorem PsS.kept (h:PsS w p g c L i m) (k:ay w w'):PsS w' p g c L i m:=
 ⟨k.lt h.lt,k.lt h.glt,h.ne,(k.cell' h.lt).trans h.h0,(k.cell' h.lt).trans h.h1,(k.cell' h.lt).trans h.h3,(k.frozen' h.lt).trans h.f1,(k.frozen' h.lt).trans h.f3,
  fun x t hx j hj=>(k.cell' h.glt).trans (h.tk x t hx j hj)⟩
theorem PsS.drewN (h:PsS w p g c L i m) (n:Nat):PsS (w.drewN n) p g c L i m:=h.kept (aB w n)
theorem PsS.drew (h:PsS w p g c L i m):PsS w.drew p g c L i m:=h.kept (aC w)
theorem PsS.set1 (h:PsS w p g c L i m) (i':Nat) {x:Int} (hx:x=i'):PsS (w.setCell ⟨p,1,none⟩ (.int .i64 x)) p g c L i' m:=by
 subst hx;have hg:=aj w p 1 (.int .i64 i');refine⟨by simpa[World.setCell] using h.lt,by simpa[World.setCell] using h.glt,h.ne, ?_, ?_, ?_, ?_, ?_,fun x t hx j hj=>?_⟩
 ·rw[World.cell?_setCell_other _ _ _ _ (by simp)];exact h.h0
 ·exact gQ h.h1
 ·rw[World.cell?_setCell_other _ _ _ _ (by simp)];exact h.h3
 ·rw[World.frozen?_setCell];exact h.f1
 ·rw[World.frozen?_setCell];exact h.f3
 ·rw[aZ hg h.glt h.ne];exact h.tk x t hx j hj
theorem PsS.ahR (h:PsS w p g c L i m) (m':Nat) {x:Int} (hx:x=m'):PsS (w.setCell ⟨p,3,none⟩ (.int .i64 x)) p g c L i m':=by
 subst hx;have hg:=aj w p 3 (.int .i64 m');refine⟨by simpa[World.setCell] using h.lt,by simpa[World.setCell] using h.glt,h.ne, ?_, ?_, ?_, ?_, ?_,fun x t hx j hj=>?_⟩
 ·rw[World.cell?_setCell_other _ _ _ _ (by simp)];exact h.h0
 ·rw[World.cell?_setCell_other _ _ _ _ (by simp)];exact h.h1
 ·exact gQ h.h3
 ·rw[World.frozen?_setCell];exact h.f1
 ·rw[World.frozen?_setCell];exact h.f3
 ·rw[aZ hg h.glt h.ne];exact h.tk x t hx j hj
theorem PsS.oth (h:PsS w p g c L i m) {b k:Nat} (hb:b≠p) (hn:b≠g) (v:Value):PsS (w.setCell ⟨b,k,none⟩ v) p g c L i m:=by
 have hg:=aj w b k v;refine⟨by simpa[World.setCell] using h.lt,by simpa[World.setCell] using h.glt,h.ne, ?_, ?_, ?_, ?_, ?_,fun x t hx j hj=>?_⟩
 ·rw[aZ hg h.lt hb.symm];exact h.h0
 ·rw[aZ hg h.lt hb.symm];exact h.h1
 ·rw[aZ hg h.lt hb.symm];exact h.h3
 ·rw[World.frozen?_setCell];exact h.f1
 ·rw[World.frozen?_setCell];exact h.f3
 ·rw[aZ hg h.glt hn.symm];exact h.tk x t hx j hj
theorem oH {a b:World} {q r k:Nat} (h:a.grownBy b (some q)) (hr:a.heap.size<=r) (u:Value):a.grownBy (b.setCell ⟨r,k,none⟩ u) (some q):=
 ⟨h.os,h.tape,h.output,by have:=h.size;simpa[World.setCell] using this,fun x hx hn=>(Below.heap_setCell b ⟨r,k,none⟩ u x (by show x≠r;omega)).trans (h.block x hx hn)⟩
theorem AP {t:Tok} (ht:L[i]?=some t):i<L.length:=(zN.1 ht).1
theorem PsS.ajF (h:PsS w p g c L i m) {k n a:Int} {s:ByteArray} (ht:L[i]?=some ⟨k,s,n,a⟩):w.cell? ⟨g,i*4,none⟩=some (.int .i64 k)/\w.cell? ⟨g,i*4+1,none⟩=some (.string s)/\w.cell? ⟨g,i*4+2,none⟩=some (.int .i64 n)/\w.cell? ⟨g,i*4+3,none⟩=some (.int .i64 a):=
 ⟨h.tk i _ ht 0 (by omega),h.tk i _ ht 1 (by omega),h.tk i _ ht 2 (by omega),h.tk i _ ht 3 (by omega)⟩
theorem TR (h:PsS w p g c L i m) {t:Tok} (ht:L[i]?=some t):Calls Tryz.prog 82 #[.pointer (some ⟨p,0,none⟩)] w fun e w'=>e=.returned (.int .i64 t.k)/\∃ m,w'=w.drewN m:=
 Gh p g L.length c i t.k w h.h0 h.h1 (AP ht) (h.tk i t ht 0 (by omega))
theorem afi (h:PsS w p g c L i m) {t:Tok} (ht:L[i]?=some t):Calls Tryz.prog 42 #[.pointer (some ⟨p,0,none⟩)] w fun e w'=>e=.returned (.int .i64 t.a)/\∃ m,w'=w.drewN m:=
 at_in p g L.length c i t.a w h.h0 h.h1 (AP ht) (h.tk i t ht 3 (by omega))
theorem ab4 (h:PsS w p g c L i m) {t:Tok} (ht:L[i]?=some t) (hk:t.k≠3) (s:ByteArray):Calls Tryz.prog 81 #[.pointer (some ⟨p,0,none⟩),.string s] w fun e w'=>e=.returned (.bool false)/\∃ m,w'=w.drewN m:=
 TP p g L.length c i t.k s w h.h0 h.h1 (AP ht) (h.tk i t ht 0 (by omega)) hk
theorem XZ (h:PsS w p g c L i m) {t:Tok} (ht:L[i]?=some t) (hk:t.k=3) (s:ByteArray) (hs:(t.s.toList==s.toList)=false):Calls Tryz.prog 81 #[.pointer (some ⟨p,0,none⟩),.string s] w fun e w'=>e=.returned (.bool false)/\∃ m,w'=w.drewN m:=
 I9 p g L.length c i s t.s w h.h0 h.h1 (AP ht) (by rw[<-hk];exact h.tk i t ht 0 (by omega)) (h.tk i t ht 1 (by omega)) hs
theorem aag (h:PsS w p g c L i m) {t:Tok} (ht:L[i]?=some t) (hk:t.k=3) (hn:L.length<=100):Calls Tryz.prog 81 #[.pointer (some ⟨p,0,none⟩),.string t.s] w fun e w'=>e=.returned (.bool true)/\∃ m,w'=(w.drewN m).setCell ⟨p,1,none⟩ (.int .i64 ((i+1:Nat):Int)):=
 EM p g L.length c i t.s w h.h0 h.h1 h.f1 (AP ht) hn (by rw[<-hk];exact h.tk i t ht 0 (by omega)) (h.tk i t ht 1 (by omega))
theorem ab5 (h:PsS w p g c L i m) {t:Tok} (ht:L[i]?=some t) (hk:t.k=3) (hn:L.length<=100):Calls Tryz.prog 84 #[.pointer (some ⟨p,0,none⟩),.string t.s] w fun e w'=>e=.returned (.tuple #[])/\∃ m,w'=(w.drewN m).setCell ⟨p,1,none⟩ (.int .i64 ((i+1:Nat):Int)):=
 XU p g L.length c i t.s w h.h0 h.h1 h.f1 (AP ht) hn (by rw[<-hk];exact h.tk i t ht 0 (by omega)) (h.tk i t ht 1 (by omega))
end
def Di (n:Int):List Value:=[.int .i64 1,.string ⟨#[]⟩,.int .i64 n,.slice none 0 0,.slice none 0 0]
def zl (s:ByteArray) (v:Value):List Value:=[.int .i64 3,.string s,.int .i64 0,.slice none 0 0,v]
def Frs (Gd:List Value->World->Prop) (B:Nat) (E:List Value) (w:World):Prop:=
 ∃ S:Nat->Prop,(∀ b,S b->B<=b/\b<w.heap.size)/\∀ w':World,w.heap.size<=w'.heap.size->(∀ b,S b->w'.heap[b]?=w.heap[b]?)->Gd E w'
def Gl (Gd:List Value->World->Prop) (w:World) (p g c:Nat) (L:List Tok) (i' m':Nat) (e:Ending) (w':World):Prop:=
 ∃ u0 u1 u2 u3 u4:Value,e=.returned (.agg #[u0,u1,u2,u3,u4])/\(∀ u∈ [u0,u1,u2,u3,u4],u.oneCell'=true)/\Frs Gd w.heap.size [u0,u1,u2,u3,u4] w'/\PsS w' p g c L i' m'/\w.grownBy w' (some p)
set_option maxRecDepth 100000 in
theorem NM (w:World) (p g c:Nat) (L:List Tok) (i m d:Nat) (n:Int) (s:ByteArray) (a:Int) (h:PsS w p g c L i m) (ht:L[i]?=some ⟨2,s,n,a⟩) (hL:L.length<=100) (hd:d<=32) (hm:m<1000):
  Calls Tryz.prog 40 #[.pointer (some ⟨p,0,none⟩),.int .i64 d] w (Gl (fun E _=>E=Di n) w p g c L (i+1) (m+1)):=by
 obtain⟨W1,hW1⟩:∃ x,x=w.alloc (.cells #[.int .i64 0,.string ⟨#[]⟩,.int .i64 0,.slice none 0 0,.slice none 0 0] 50):=⟨_,rfl⟩
 have hk1:ay w W1:=by rw[hW1];exact ah _ _
 have hp1:=h.kept hk1;have hz1:W1.heap.size=w.heap.size+1:=by rw[hW1];simp
 have hb1:Bk W1 w.heap.size [.int .i64 0,.string ⟨#[]⟩,.int .i64 0,.slice none 0 0,.slice none 0 0]:=by rw[hW1];exact aG w _ _ _ rfl
 have hf1:Fz W1 w.heap.size:=by rw[hW1];exact bD w _ _ _ rfl
 have r0:=hb1.2 0 _ rfl;have r1:=hb1.2 1 _ rfl;have r2:=hb1.2 2 _ rfl;have r3:=hb1.2 3 _ rfl;have r4:=hb1.2 4 _ rfl;have e0:=hf1.2 0;have e1:=hf1.2 1;have e2:=hf1.2 2;have e3:=hf1.2 3;have e4:=hf1.2 4;have hlt1:w.heap.size<W1.heap.size:=by omega
 have hne1:¬ w.heap.size=W1.heap.size:=by omega
 have hlp:p<W1.heap.size:=hp1.lt;have hpw:¬ p=w.heap.size:=by have:=h.lt;omega
 have hwp:¬ w.heap.size=p:=by have:=h.lt;omega
 have hwg:¬ w.heap.size=g:=by have:=h.glt;omega
 have hil:=AP ht;have HT:=hid ht;have q0:=hp1.h0;have q1:=hp1.h1;have q3:=hp1.h3;have g1:=hp1.f1;have g3:=hp1.f3;obtain⟨t0,t1,t2,t3⟩:=hp1.ajF ht;have hne:¬ g=p:=h.ne;have hd':¬ (d:Int) >32:=by omega
 have hm':((m:Int)==1024)=false:=by simp;omega
 have HB:=hid hb1;have HZ:=hid hz1;clear ht hb1 hf1 hz1;go_enter Tryz.func40,Tryz.ntmps40;go_wp2_with(fail)
 rw[<-hW1];clear hW1;go_quiet((go_at_call 42;exact Calls.quiet_of (afi (hp1.drewN _) HT.out)));go_wp2_with(first|(go_at_call 81;refine(ab4 (hp1.drewN _) HT.out (by simp) _).mono ?_;rintro e w' ⟨rfl,x,rfl⟩)|(go_at_call 82;refine(TR (by exact hp1.drewN _) HT.out).mono ?_;rintro e w' ⟨rfl,x2,rfl⟩))
 refine bodyPost_ret (v:=.agg (Di n).toArray) ?_ rfl ⟨_,_,_,_,_,rfl, ?_,⟨fun _=>False,fun _ q=>q.elim,fun _ _ _=>rfl⟩, ?_, ?_⟩
 ·exact dQ rfl rfl (Dc (Bk.kept (((((((((HB.out.drewN _).oth hpw _).oth hpw _).set 0 _).set 1 _).set 2 _).set 3 _).set 4 _)) (ah _ _)))
 ·intro u hu;have:u=.int .i64 1∨u=.string ⟨#[]⟩∨u=.int .i64 n∨u=.slice none 0 0:=by simpa using hu
  rcases this with rfl|rfl|rfl|rfl<;>rfl
 ·exact(((((((((hp1.drewN _).ahR (m+1) (by omega)).set1 (i+1) (by omega)).oth hwp hwg _).oth hwp hwg _).oth hwp hwg _).oth hwp hwg _).oth hwp hwg _)).kept (ah _ _)
 ·exact bJ (oH (oH (oH (oH (oH (aQ (aQ (lW (bW hk1) _) _ _) _ _) (zy _) _) (zy _) _) (zy _) _) (zy _) _) (zy _) _) (ah _ _)
theorem Tryz.infoExpr:(Tryz.prog.info? 50).map (fun i=>(i.zero,i.size,i.bytes))=some (some (.agg #[.int .i64 0,.string ⟨#[]⟩,.int .i64 0,.slice none 0 0,.slice none 0 0]),5,80):=by kernel_rfl
theorem nD {w:World} {ops:Array Oper} {o:Oper} {a:Act} {K:Act->World->Prop} {Q:Exit->Act->World->Prop} {E:Prop} (hgd:o.guard=none) (s x:Operand)
  (ho:o.op=.call {callee:=.builtin .append,args:=#[s,x],argTypes:=#[48,48]}) (B:Nat) (v:Value) (n:Nat) (xs:List Value) (hs:a.eval s=v) (hown:w.ownsRow B 50 5 v n xs)
  (ad:Addr) (news:List Value) (hx:a.eval x=.slice (some ad) 1 1) (hl:news.length=5) (hc:∀ j u,news[j]?=some u->w.cell? (ad.add j)=some u) (h1:∀ u∈news,u.oneCell'=true) (hlen:n+1<=1000000) (hB:B<=w.heap.size)
  (h:∀ v' w',w'.ownsRow B 50 5 v' (n+1) (xs++news)->w.grownBy w' v.ownBlock->(v'.ownBlock=v.ownBlock∨v'.ownBlock=some w.heap.size)->K (a.put o.dst v') w'):
  if Region.wanted o (yielded ops a.tmps)=true then Oper.wp Tryz.prog o a w K Q else E:=by
 rw[zu (by simp[Region.wanted,hgd])];obtain⟨i0,hi,hz0,hz1,hz2⟩:=info_parts Tryz.infoExpr;obtain⟨v',w',hr,h2,h3,_,h5⟩:=run_append_own_at (P:=Tryz.prog) w B 48 o.type 50 i0 _ 5 80 Tryz.underlying48 hi hz0 hz1 hz2 rfl (by decide) v n xs hown ad 1 1 news hl hc h1 (by unfold maxLen;omega) (by omega) hB;unfold Oper.wp execOp;simp only[ho,resolve,invoke,builtin,Sem.run_bind,Sem.run_pure,Result.andThen_ok,uQ,uN,rZ,hs,hx,hr];exact h v' w' h2 h3 h5
theorem dh {w:World} {B T k n:Nat} {v:Value} {xs:List Value} (h:w.ownsRow B T k v n xs):∃ a cap,v=.slice a n cap:=by
 rcases h.2 with⟨rfl,rfl⟩|⟨g,cap,cur,rfl,_⟩
 ·exact⟨none,0,rfl⟩
 ·exact⟨_,cap,rfl⟩
theorem KX {w:World} {B T k n:Nat} {v:Value} {xs:List Value} (h:w.ownsRow B T k v n xs) (hn:1<=n):∃ g cap,v=.slice (some ⟨g,0,none⟩) n cap/\B<=g/\Bk w g xs:=by
 rcases h.2 with⟨_,h0⟩|⟨g,cap,cur,rfl,hb,hg,_⟩
 ·omega
 ·refine⟨g,cap,rfl,hb,(zL.1 hg).1,fun i u hu=>?_⟩;have hi:i<xs.length:=(zN.1 hu).1;rw[World.ownsRow.cellAt h i (by have:=h.1;omega)];exact hu
def FsG (Gd:Nat->List Value->World->Prop) (B:Nat) (N:Nat->Prop) (fs:List (List Value)) (w:World):Prop:=
 ∀ i E,fs[i]?=some E->E.length=5/\∃ S:Nat->Prop,(∀ b,S b->B<=b/\b<w.heap.size/\¬ N b)/\∀ w':World,w.heap.size<=w'.heap.size->(∀ b,S b->w'.heap[b]?=w.heap[b]?)->Gd i E w'
def ig (Gd:Nat->List Value->World->Prop) (s:ByteArray) (K:Nat) (E:List Value) (w:World):Prop:=
 ∃ (b cap:Nat) (fs:List (List Value)),E=zl s (.slice (some ⟨b,0,none⟩) K cap)/\fs.length=K/\Bk w b fs.flatten/\∀ i E,fs[i]?=some E->E.length=5/\Gd i E w
theorem FsG.go {Gd:Nat->List Value->World->Prop} {B:Nat} {N N':Nat->Prop} {fs:List (List Value)} {w w':World} (h:FsG Gd B N fs w) (hs:w.heap.size<=w'.heap.size) (hb:∀ b,B<=b->b<w.heap.size->¬ N b->w'.heap[b]?=w.heap[b]?) (hN:∀ b,b<w.heap.size->N' b->N b):FsG Gd B N' fs w':=fun i E hE=>by
 obtain⟨h1,S,h2,h3⟩:=h i E hE;refine⟨h1,S,fun b hS=>?_,fun w2 k1 k2=>h3 w2 (zJ hs k1) fun b hS=>?_⟩
 ·obtain⟨q1,q2,q3⟩:=h2 b hS;exact⟨q1,zZ q2 hs,fun q=>q3 (hN b q2 q)⟩
 ·obtain⟨q1,q2,q3⟩:=h2 b hS;rw[k2 b hS,hb b q1 q2 q3]
theorem FsG.add {Gd:Nat->List Value->World->Prop} {B:Nat} {N:Nat->Prop} {fs:List (List Value)} {w:World} {E:List Value} (h:FsG Gd B N fs w) (hE:E.length=5) (hG:∃ S:Nat->Prop,(∀ b,S b->B<=b/\b<w.heap.size/\¬ N b)/\∀ w':World,w.heap.size<=w'.heap.size->(∀ b,S b->w'.heap[b]?=w.heap[b]?)->Gd fs.length E w'):FsG Gd B N (fs++ [E]) w:=fun i E' hi=>by
 by_cases e:i<fs.length
 ·rw[yU e] at hi;exact h i E' hi
 ·rw[vW (by omega)] at hi;have h0:i-fs.length=0:=by
   rcases xR (i-fs.length) with q|q
   ·exact q
   ·rw[zT (by simp;omega)] at hi;cases hi
  rw[h0] at hi;have h1:E'=E:=by simpa using hi.symm
  have h2:i=fs.length:=by omega
  rw[h1,h2];exact⟨hE,hG⟩
theorem Bk.gbo {a w:World} {b:Nat} {row:Option Nat} {cs:List Value} (h:Bk a b cs) (hg:a.grownBy w row) (hb:row≠some b):Bk w b cs:=
 ⟨zZ h.1 hg.size,fun i u hu=>by rw[World.cell?_of_block (w:=a) (a:=⟨b,i,none⟩) (hg.block b h.1 (fun e=>hb e.symm))];exact h.2 i u hu⟩
theorem Fz.gbo {a w:World} {b:Nat} {row:Option Nat} (h:Fz a b) (hg:a.grownBy w row) (hb:row≠some b):Fz w b:=
 ⟨zZ h.1 hg.size,fun i=>by
  have:=h.2 i;unfold World.frozen? at this ⊢;rw[hg.block b h.1 (fun e=>hb e.symm)];exact this⟩
theorem pG {a w:World} {B T k n q:Nat} {v:Value} {xs:List Value} (h:a.ownsRow B T k v n xs) (hg:a.grownBy w (some q)) (hq:q<B):w.ownsRow B T k v n xs:=by
 refine World.ownsRow.kept h hg ?_;cases e:v.ownBlock with
 |none=>exact .inl rfl
 |some y=>
  refine .inr fun e2=>?_;have:=(World.ownsRow.lt h y e).1;have:y=q:=by simpa using e2
  omega
theorem PsS.gbo {w w':World} {p g c:Nat} {L:List Tok} {i m:Nat} {row:Option Nat} (h:PsS w p g c L i m) (hg:w.grownBy w' row) (h1:row≠some p) (h2:row≠some g):PsS w' p g c L i m:=by
 have c1:∀ o,w'.cell? ⟨p,o,none⟩=w.cell? ⟨p,o,none⟩:=fun o=>World.cell?_of_block (w:=w) (a:=⟨p,o,none⟩) (hg.block p h.lt (fun e=>h1 e.symm));have c2:∀ o,w'.cell? ⟨g,o,none⟩=w.cell? ⟨g,o,none⟩:=fun o=>World.cell?_of_block (w:=w) (a:=⟨g,o,none⟩) (hg.block g h.glt (fun e=>h2 e.symm));have c3:∀ o,w'.frozen? ⟨p,o,none⟩=w.frozen? ⟨p,o,none⟩:=fun o=>by unfold World.frozen?;rw[hg.block p h.lt (fun e=>h1 e.symm)]
 exact⟨zZ h.lt hg.size,zZ h.glt hg.size,h.ne,(c1 0).trans h.h0,(c1 1).trans h.h1,(c1 3).trans h.h3,(c3 1).trans h.f1,(c3 3).trans h.f3,fun k t hk j hj=>(c2 _).trans (h.tk k t hk j hj)⟩
structure ArR (Gd:Nat->List Value->World->Prop) (w:World) (p g c:Nat) (L:List Tok) (st nd:Nat->Nat) (s:ByteArray) (R X K gk:Nat) (wr:World) (j:Nat) (v:Value) (fs:List (List Value)):Prop where
 k:gk+j=K+1
 jk:j<=K
 n:fs.length=j
 x:Bk wr X (zl s v)
 f:Fz wr X
 o:wr.ownsRow w.heap.size 50 5 v j fs.flatten
 fg:FsG Gd w.heap.size (fun b=>b=X∨b=R∨v.ownBlock=some b) fs wr
 ps:PsS wr p g c L (st j) (nd j)
 b:w.grownBy wr (some p)
 xo:v.ownBlock≠some X
 rb:Bk wr R [.int .i64 0,.string ⟨#[]⟩,.int .i64 0,.slice none 0 0,.slice none 0 0]
 rf:Fz wr R
 ro:v.ownBlock≠some R
theorem Dj {a b c:World} {row:Option Nat} (k:ay a b) (h:b.grownBy c row):a.grownBy c row:=
 ⟨h.os.trans k.os,h.tape.trans k.tape,h.output.trans k.output,zJ k.size h.size,fun i hi hn=>(h.block i (k.lt hi) hn).trans (k.block i hi)⟩
theorem Gm (w W:World) (c:Array Value) (T:TypeId) (hW:W=w.alloc (.cells c T)∨W=(w.alloc (.cells c T)).drew):ay w W:=by
 rcases hW with rfl|rfl
 ·exact ah _ _
 ·exact(ah _ _).tr (aC _)
theorem NP (w:World) (u0 u1 u2 u3 u4:Value) (W:World) (hW:W=w.alloc (.cells #[u0,u1,u2,u3,u4] 50)∨W=(w.alloc (.cells #[u0,u1,u2,u3,u4] 50)).drew):∀ j u,[u0,u1,u2,u3,u4][j]?=some u->W.cell? (Addr.add ⟨w.heap.size,0,none⟩ j)=some u:=fun j u hu=>by
 rw[Addr.add_lit,xQ];rcases hW with rfl|rfl
 ·exact(aG w [u0,u1,u2,u3,u4] _ _ rfl).2 j u hu
 ·exact((aG w [u0,u1,u2,u3,u4] _ _ rfl).kept (aC _)).2 j u hu
theorem afj {w:World} {B T k n y:Nat} {v:Value} {xs:List Value} (h:w.ownsRow B T k v n xs) (e:v.ownBlock=some y):B<=y/\y<w.heap.size:=World.ownsRow.lt h y e
theorem ArR.next {Gd:Nat->List Value->World->Prop} {w wr w3 w4 w6:World} {p g c:Nat} {L:List Tok} {st nd:Nat->Nat} {s:ByteArray} {R X K gk j:Nat} {v v6:Value} {fs:List (List Value)} {E:List Value} (ha:ArR Gd w p g c L st nd s R X K gk wr j v fs) (hj:j<K)
  (hp:p<w.heap.size) (hg:g<w.heap.size) (hX:w.heap.size<=X) (hR:w.heap.size<=R) (hRX:R≠X) (h3:wr.grownBy w3 (some p)) (h4:w3.grownBy w4 (some p)) (hE:E.length=5) (hG:Frs (Gd j) w3.heap.size E w4) (hp4:PsS w4 p g c L (st (j+1)) (nd (j+1)))
  (h6:w4.grownBy w6 v.ownBlock) (o6:w6.ownsRow w.heap.size 50 5 v6 (j+1) (fs.flatten++E)) (hl:v6.ownBlock=v.ownBlock∨ ∃ y,v6.ownBlock=some y/\w4.heap.size<=y):
  ArR Gd w p g c L st nd s R X K (gk-1) (w6.setCell ⟨X,4,none⟩ v6) (j+1) v6 (fs++ [E]):=by
 have hXr:=ha.x.1;have hXp:X≠p:=by omega
 have hXg:X≠g:=by omega
 have h34:=aO h3 h4;have hX4:X<w4.heap.size:=zZ hXr h34.size;have hvb:∀ y,v.ownBlock=some y->w.heap.size<=y/\y<wr.heap.size:=fun y e=>afj ha.o e;have ajG:v6.ownBlock≠some X:=by
  rcases hl with e|⟨y,e,hy⟩
  ·rw[e];exact ha.xo
  ·rw[e];intro q;have:y=X:=by simpa using q
   omega
 have alo:v6.ownBlock≠some R:=by
  have hRr:=ha.rb.1;have:=zZ hRr h34.size;rcases hl with e|⟨y,e,hy⟩
  ·rw[e];exact ha.ro
  ·rw[e];intro q;have:y=R:=by simpa using q
   omega
 have hsz:(w6.setCell ⟨X,4,none⟩ v6).heap.size=w6.heap.size:=by simp[World.setCell]
 have anM:=h6.size;have anN:=h3.size;have anO:=h4.size;have hsw:=ha.b.size;have hset:∀ b,b≠X->(w6.setCell ⟨X,4,none⟩ v6).heap[b]?=w6.heap[b]?:=fun b hb=>Below.heap_setCell w6 ⟨X,4,none⟩ v6 b hb;have hN6:∀ b,b<wr.heap.size->(b=X∨b=R∨v6.ownBlock=some b)->(b=X∨b=R∨v.ownBlock=some b):=fun b hb q=>by
  rcases q with q|q|q
  ·exact .inl q
  ·exact .inr (.inl q)
  ·rcases hl with e|⟨y,e,hy⟩
   ·rw[e] at q;exact .inr (.inr q)
   ·rw[e] at q;have:y=b:=by simpa using q
    omega
 refine⟨by have:=ha.k;omega,hj,by rw[zX,ha.n];rfl, ?_, ?_, ?_, ?_, ?_, ?_,ajG, ?_, ?_,alo⟩
 ·exact((ha.x.gb h34 hXp).gbo h6 ha.xo).set 4 v6
 ·exact((ha.f.gb h34 hXp).gbo h6 ha.xo).oth _ _
 ·have hfl:(fs++ [E]).flatten=fs.flatten++E:=by simp
  rw[hfl];refine World.ownsRow.kept o6 (aj w6 X 4 v6) ?_;cases e:v6.ownBlock with
  |none=>exact .inl rfl
  |some y=>exact .inr (by rw[<-e];exact ajG)
 ·refine(ha.fg.go (by omega) (fun b hb hlt hn=>?_) hN6).add hE ?_
  ·have hbp:some b≠some p:=fun e=>by
    have:b=p:=by simpa using e
    omega
   rw[hset b (fun e=>hn (.inl e)),h6.block b (by omega) (fun e=>hn (.inr (.inr e.symm))),h4.block b (by omega) hbp,h3.block b hlt hbp]
  ·obtain⟨S,k1,k2⟩:=hG;refine⟨S,fun b hS=>?_,fun w2 q1 q2=>?_⟩
   ·obtain⟨r1,r2⟩:=k1 b hS;refine⟨by omega,by omega,fun q=>?_⟩;have hRr:=ha.rb.1;rcases q with q|q|q
    ·omega
    ·omega
    ·rcases hl with e|⟨y,e,hy⟩
     ·rw[e] at q;have:=(hvb b q).2;omega
     ·rw[e] at q;have:y=b:=by simpa using q
      omega
   ·rw[ha.n];refine k2 w2 (by omega) fun b hS=>?_;obtain⟨r1,r2⟩:=k1 b hS;rw[q2 b hS,hset b (by omega),h6.block b (by omega) (fun e=>by have:=(hvb b e.symm).2;omega)]
 ·exact(hp4.gbo h6 (fun e=>by have:=(hvb p e).1;omega) (fun e=>by have:=(hvb g e).1;omega)).oth hXp hXg v6
 ·refine oH ?_ hX v6;have h04:=aO ha.b h34;exact⟨h6.os.trans h04.os,h6.tape.trans h04.tape,h6.output.trans h04.output,zJ h04.size h6.size,fun i hi hn=>(h6.block i (by omega) (fun e=>by have:=(hvb i e.symm).1;omega)).trans (h04.block i hi hn)⟩
 ·exact((ha.rb.gb h34 (by omega)).gbo h6 ha.ro).oth hRX.symm _
 ·exact((ha.rf.gb h34 (by omega)).gbo h6 ha.ro).oth _ _
theorem Bk.aah {w w':World} {b:Nat} {cs:List Value} (h:Bk w b cs) (hs:w.heap.size<=w'.heap.size) (e:w'.heap[b]?=w.heap[b]?):Bk w' b cs:=
 ⟨zZ h.1 hs,fun i u hu=>by rw[World.cell?_of_block (w:=w) (a:=⟨b,i,none⟩) e];exact h.2 i u hu⟩
theorem ArR.fin {Gd:Nat->List Value->World->Prop} {w wr wN:World} {p g c:Nat} {L:List Tok} {st nd:Nat->Nat} {s:ByteArray} {R X K gk:Nat} {v:Value} {fs:List (List Value)} (ha:ArR Gd w p g c L st nd s R X K gk wr K v fs) (hK:1<=K)
  (hsz:wr.heap.size<=wN.heap.size) (hb:∀ b,w.heap.size<=b->b<wr.heap.size->b≠R->wN.heap[b]?=wr.heap[b]?):Frs (ig Gd s K) w.heap.size (zl s v) wN:=by
 obtain⟨b,cap,rfl,hBb,hbk⟩:=KX ha.o hK;refine⟨fun q=>w.heap.size<=q/\q<wN.heap.size,fun q h=>h,fun w2 h1 h2=>?_⟩;have hbR:b≠R:=fun e=>ha.ro (by rw[<-e];rfl);have same:∀ q,w.heap.size<=q->q<wr.heap.size->q≠R->w2.heap[q]?=wr.heap[q]?:=fun q r1 r2 r3=>by rw[h2 q ⟨r1,by omega⟩,hb q r1 r2 r3]
 refine⟨b,cap,fs,rfl,ha.n,hbk.aah (by omega) (same b hBb hbk.1 hbR),fun i E hE=>?_⟩;obtain⟨k1,S,k2,k3⟩:=ha.fg i E hE;refine⟨k1,k3 w2 (by omega) fun q hq=>?_⟩;obtain⟨r1,r2,r3⟩:=k2 q hq;exact same q r1 r2 (fun e=>r3 (.inr (.inl e)))
set_option maxRecDepth 100000 in
theorem Jb (Gd:Nat->List Value->World->Prop) (w:World) (p g c:Nat) (L:List Tok) (i m d:Nat) (n:Int) (s sl sr sc:ByteArray) (a n1 a1 n2 a2:Int) (K:Nat) (st nd:Nat->Nat)
  (hsl:sl=⟨#[40]⟩) (hsr:sr=⟨#[41]⟩) (hsc:sc=⟨#[44]⟩)
  (h:PsS w p g c L i m) (ht:L[i]?=some ⟨1,s,n,a⟩) (ht1:L[i+1]?=some ⟨3,sl,n1,a1⟩) (hL:L.length<=100) (hd:d<32) (hm:m<1000) (hK:1<=K) (hK2:K<=100) (hst:st 0=i+2) (hnd:nd 0=m+1)
  (hend:L[st K]?=some ⟨3,sr,n2,a2⟩) (afe:∃ t,L[st 0]?=some t/\t.k≠3) (hcom:∀ j,1<=j->j<K->∃ n3 a3,L[st j]?=some ⟨3,sc,n3,a3⟩)
  (HE:∀ j,j<K->∀ w',PsS w' p g c L (if j=0 then st 0 else st j+1) (nd j)->Calls Tryz.prog 40 #[.pointer (some ⟨p,0,none⟩),.int .i64 ((d:Int)+1)] w' (Gl (Gd j) w' p g c L (st (j+1)) (nd (j+1)))):
  Calls Tryz.prog 40 #[.pointer (some ⟨p,0,none⟩),.int .i64 d] w (Gl (ig Gd s K) w p g c L (st K+1) (nd K)):=by
 obtain⟨W1,hW1⟩:∃ x,x=w.alloc (.cells #[.int .i64 0,.string ⟨#[]⟩,.int .i64 0,.slice none 0 0,.slice none 0 0] 50):=⟨_,rfl⟩
 have hk1:ay w W1:=by rw[hW1];exact ah _ _
 have hp1:=h.kept hk1;have hz1:W1.heap.size=w.heap.size+1:=by rw[hW1];simp
 have hb1:Bk W1 w.heap.size [.int .i64 0,.string ⟨#[]⟩,.int .i64 0,.slice none 0 0,.slice none 0 0]:=by rw[hW1];exact aG w _ _ _ rfl
 have hf1:Fz W1 w.heap.size:=by rw[hW1];exact bD w _ _ _ rfl
 have hlt1:w.heap.size<W1.heap.size:=by omega
 have hne1:¬ w.heap.size=W1.heap.size:=by omega
 have hlp:p<W1.heap.size:=hp1.lt;have hpw:¬ p=w.heap.size:=by have:=h.lt;omega
 have hwp:¬ w.heap.size=p:=by have:=h.lt;omega
 have hwg:¬ w.heap.size=g:=by have:=h.glt;omega
 have hil:=AP ht;have HT:=hid ht;have HT1:=hid ht1;have q0:=hp1.h0;have q1:=hp1.h1;have q3:=hp1.h3;have g1:=hp1.f1;have g3:=hp1.f3;obtain⟨t0,t1,t2,t3⟩:=hp1.ajF ht;have hne:¬ g=p:=h.ne;have hd':decide ((32:Int)< (d:Int))=false:=by simp;omega
 have hm':((m:Int)==1024)=false:=by simp;omega
 have HB:=hid hb1;have HF:=hid hf1;have HZ:=hid hz1;have HX:=hid HE;have HST:=hid hst;have HND:=hid hnd;have alp:=hid hend;have alq:=hid afe;have alr:=hid hcom;have HSL:=hid hsl;have HSR:=hid hsr;have HSC:=hid hsc;clear ht ht1 hb1 hf1 hz1 HE hst hnd hend afe hcom hsl hsr hsc;go_enter Tryz.func40,Tryz.ntmps40;go_wp2_with(fail)
 rw[<-hW1];clear hW1;go_quiet((go_at_call 42;exact Calls.quiet_of (afi (hp1.drewN _) HT.out)));have hpar:∀ W,PsS W p g c L (i+1) (m+1)->Calls Tryz.prog 81 #[.pointer (some ⟨p,0,none⟩),.string ⟨#[40]⟩] W fun e w'=>e=.returned (.bool true)/\∃ m,w'=(W.drewN m).setCell ⟨p,1,none⟩ (.int .i64 ((i+1+1:Nat):Int)):=fun W hW=>by
  have:=aag hW HT1.out rfl hL;rw[HSL.out] at this;exact this
 have als:=hid hpar;clear hpar;go_wp2_with(first|(go_at_call 81;refine(ab4 (hp1.drewN _) HT.out (by simp) _).mono ?_;rintro e w' ⟨rfl,x,rfl⟩)|(go_at_call 82;refine(TR (by exact hp1.drewN _) HT.out).mono ?_;rintro e w' ⟨rfl,x2,rfl⟩)|(go_at_call 81;refine(als.out _ ((((hp1.drewN _).ahR (m+1) (by omega)).set1 (i+1) (by omega)).kept (ah _ _))).mono ?_;rintro e w' ⟨rfl,x,rfl⟩))
 obtain⟨X,hX⟩:∃ X,X=W1.heap.size+1:=⟨_,rfl⟩
 rw[<-hX];have HXX:=hid hX;have hXw:w.heap.size<=X:=by have:=HZ.out;omega
 have hRX:w.heap.size≠X:=by have:=HZ.out;have:=HXX.out;omega
 have anP:¬ X=w.heap.size:=fun e=>hRX e.symm;have hXp:¬ X=p:=by have:=h.lt;omega
 have hpX:¬ p=X:=fun e=>hXp e.symm;have hXg:¬ X=g:=by have:=h.glt;omega
 clear hX
 go_loopg [81] (K+1) (fun gk _ wr=>∃ j v fs,ArR Gd w p g c L st nd s w.heap.size X K gk wr j v fs)
 case atStart=>
  refine⟨0,.slice none 0 0,[],by omega,xZ _,rfl,aG _ (zl s (.slice none 0 0)) _ _ (by rw[HXX.out];simp),bD _ _ _ _ (by rw[HXX.out];simp),⟨rfl,.inl ⟨rfl,rfl⟩⟩,fun i E h=>(by simp at h), ?_, ?_,fun e=>(by cases e), ?_, ?_,fun e=>(by cases e)⟩
  ·rw[HND.out];exact(((((((hp1.drewN _).ahR (m+1) (by omega)).set1 (i+1) (by omega)).kept (ah _ _)).drewN _).set1 (st 0) (by rw[HST.out];omega)).kept (ah _ _))
  ·exact bJ (aQ (lW (bJ (aQ (aQ (lW (bW hk1) _) _ _) _ _) (ah _ _)) _) _ _) (ah _ _)
  ·exact(Bk.kept ((((Bk.kept (((HB.out.drewN _).oth hpw _).oth hpw _) (ah _ _)).drewN _).oth hpw _)) (ah _ _))
  ·exact(Fz.kept ((((Fz.kept (((HF.out.drewN _).oth _ _).oth _ _) (ah _ _)).drewN _).oth _ _)) (ah _ _))
 case round=>
  obtain⟨j,v,fs,ha⟩:=hrel;obtain⟨va,vc,rfl⟩:=dh ha.o;have hjk:=ha.jk;have hBl:w.heap.size<=wr.heap.size:=ha.b.size;have x4:=ha.x.2 4 _ rfl;by_cases hj:j<K
  ·by_cases j0:j=0
   ·subst j0;obtain⟨tf,htf,hkf⟩:=alq.out;have HNO:=hid (ab4 ha.ps htf hkf ⟨#[41]⟩);have HXJ:=HX.out 0 hj;rw[zu rfl] at HXJ;have ahS:=hid HXJ;clear htf hkf HXJ;go_wp2_with(go_at_call 81;refine HNO.out.mono ?_;rintro e w' ⟨rfl,x,rfl⟩)
    obtain⟨w3,hw3⟩:∃ y,y=wr.drewN x:=⟨_,rfl⟩
    have hk3:ay wr w3:=by rw[hw3];exact aB _ _
    rw[<-hw3];clear hw3 x4;have hq:=ha.ps.kept hk3;have hx3:=ha.x.kept hk3;have hf3:=ha.f.kept hk3;have ho3:=pG ha.o (bW (g:=p) hk3) h.lt;have hpB:=h.lt;have x4:=hx3.2 4 _ rfl;have hs3:w.heap.size<=w3.heap.size:=zJ hBl hk3.size;have TS:=ahS;have hwr:IntKind.i64.wrap ((d:Int)+1)=(d:Int)+1:=IntWalk.i64_in _ (by omega)
    go_region_law(first|(go_simp;go_at_call 40;(with_reducible refine(TS.out _ (by exact hq.drew)).mono ?_);rintro e w4 ⟨u0,u1,u2,u3,u4,rfl,h1c,hG4,hp4,hg4⟩;have TT:w3.grownBy w4 (some p):=(by exact aO (bW (aC _)) hg4);have hx4:=hx3.gb TT hXp;have hf4:=hf3.gb TT hXp;have ho4:=pG ho3 TT hpB;have y4:=hx4.2 4 _ rfl;have hs4:=zJ hs3 TT.size;have hX4:=hx4.1;have alu:¬ X=w4.heap.size:=Nat.ne_of_lt hX4)|(refine nD rfl (.tmp 91) (.tmp 96) rfl w.heap.size _ 0 fs.flatten rfl ((by exact ho4.alloc _)) ⟨w4.heap.size,0,none⟩ [u0,u1,u2,u3,u4] rfl rfl (NP w4 u0 u1 u2 u3 u4 _ (by exact Or.inl rfl)) h1c (by omega) (by simp;omega) ?_;intro v6 w6 o6 hg6 hl6;obtain⟨a6,c6,rfl⟩:=dh o6;have Qh:=Dj (Gm w4 _ _ _ (by exact Or.inl rfl)) hg6;have adz:=hl6.imp id (fun e=>(⟨_,e,by simp⟩:∃ y,Value.ownBlock (.slice a6 1 c6)=some y/\w4.heap.size<=y));have hx6:=hx4.gbo Qh ha.xo;have hf6:=hf4.gbo Qh ha.xo;have y6:=hx6.2 4 _ rfl;have z6:=hf6.2 4))
    all_goals
     have hnx:=ha.next (hE:=rfl) hj h.lt h.glt hXw (zy _) hRX (bW hk3) TT (by exact hG4) hp4 Qh o6 adz;go_wp2_with(fail)
     go_roundg (gk-1)
     case measure=>have:=ha.k;omega
     case rel=>exact⟨_,_,_,hnx⟩
   ·obtain⟨n3,a3,hcm⟩:=alr.out j (by omega) hj;have HNO:Hid (Calls Tryz.prog 81 #[.pointer (some ⟨p,0,none⟩),.string ⟨#[41]⟩] wr fun e w'=>e=.returned (.bool false)/\∃ m,w'=wr.drewN m):=hid (XZ ha.ps hcm rfl ⟨#[41]⟩ (by rw[HSC.out,ByteArray.toList_eq,ByteArray.toList_eq];rfl));have HMU:Hid (∀ W,PsS W p g c L (st j) (nd j)->Calls Tryz.prog 84 #[.pointer (some ⟨p,0,none⟩),.string ⟨#[44]⟩] W fun e w'=>e=.returned (.tuple #[])/\∃ m,w'=(W.drewN m).setCell ⟨p,1,none⟩ (.int .i64 ((st j+1:Nat):Int))):=hid (fun W hW=>by
     have:=ab5 hW hcm rfl hL;rw[HSC.out] at this;exact this)
    have HXJ:=HX.out j hj;rw[zx j0] at HXJ;have ahS:=hid HXJ;have tj:(0:Int)< (j:Int):=by omega
    clear hcm HXJ;go_wp2_with(first|(go_at_call 81;refine HNO.out.mono ?_;rintro e w' ⟨rfl,x,rfl⟩)|(go_at_call 84;refine(HMU.out _ (by exact ha.ps.drewN _)).mono ?_;rintro e w' ⟨rfl,x2,rfl⟩))
    obtain⟨w3,hw3⟩:∃ y,y=(wr.drewN (x+x2)).setCell ⟨p,1,none⟩ (.int .i64 ((st j:Int)+1)):=⟨_,rfl⟩
    have hg3:wr.grownBy w3 (some p):=by rw[hw3];exact aQ (bW (aB _ _)) _ _
    have hq:PsS w3 p g c L (st j+1) (nd j):=by rw[hw3];exact(ha.ps.drewN _).set1 (st j+1) (by omega)
    rw[<-hw3];clear hw3 x4;have hx3:=ha.x.gb hg3 hXp;have hf3:=ha.f.gb hg3 hXp;have ho3:=pG ha.o hg3 h.lt;have hpB:=h.lt;have x4:=hx3.2 4 _ rfl;have hs3:w.heap.size<=w3.heap.size:=zJ hBl hg3.size;have TS:=ahS;have hwr:IntKind.i64.wrap ((d:Int)+1)=(d:Int)+1:=IntWalk.i64_in _ (by omega)
    go_region_law(first|(go_simp;go_at_call 40;(with_reducible refine(TS.out _ (by exact hq.drew)).mono ?_);rintro e w4 ⟨u0,u1,u2,u3,u4,rfl,h1c,hG4,hp4,hg4⟩;have TT:w3.grownBy w4 (some p):=(by exact aO (bW (aC _)) hg4);have hx4:=hx3.gb TT hXp;have hf4:=hf3.gb TT hXp;have ho4:=pG ho3 TT hpB;have y4:=hx4.2 4 _ rfl;have hs4:=zJ hs3 TT.size;have hX4:=hx4.1;have alu:¬ X=w4.heap.size:=Nat.ne_of_lt hX4)|(refine nD rfl (.tmp 91) (.tmp 96) rfl w.heap.size _ j fs.flatten rfl ((by exact ho4.alloc _)) ⟨w4.heap.size,0,none⟩ [u0,u1,u2,u3,u4] rfl rfl (NP w4 u0 u1 u2 u3 u4 _ (by exact Or.inl rfl)) h1c (by omega) (by simp;omega) ?_;intro v6 w6 o6 hg6 hl6;obtain⟨a6,c6,rfl⟩:=dh o6;have Qh:=Dj (Gm w4 _ _ _ (by exact Or.inl rfl)) hg6;have adz:=hl6.imp id (fun e=>(⟨_,e,by simp⟩:∃ y,Value.ownBlock (.slice a6 (j+1) c6)=some y/\w4.heap.size<=y));have hx6:=hx4.gbo Qh ha.xo;have hf6:=hf4.gbo Qh ha.xo;have y6:=hx6.2 4 _ rfl;have z6:=hf6.2 4))
    all_goals
     have hnx:=ha.next (hE:=rfl) hj h.lt h.glt hXw (zy _) hRX hg3 TT (by exact hG4) hp4 Qh o6 adz;go_wp2_with(fail)
     go_roundg (gk-1)
     case measure=>have:=ha.k;omega
     case rel=>exact⟨_,_,_,hnx⟩
  ·obtain rfl:j=K:=by omega
   have HYE:Hid (Calls Tryz.prog 81 #[.pointer (some ⟨p,0,none⟩),.string ⟨#[41]⟩] wr fun e w'=>e=.returned (.bool true)/\∃ m,w'=(wr.drewN m).setCell ⟨p,1,none⟩ (.int .i64 ((st j+1:Nat):Int))):=hid (by
    have:=aag ha.ps alp.out rfl hL;rw[HSR.out] at this;exact this)
   have x0:=ha.x.2 0 _ rfl;have x1:=ha.x.2 1 _ rfl;have x2:=ha.x.2 2 _ rfl;have x3:=ha.x.2 3 _ rfl;have r0:=ha.rb.2 0 _ rfl;have r1:=ha.rb.2 1 _ rfl;have r2:=ha.rb.2 2 _ rfl;have r3:=ha.rb.2 3 _ rfl;have r4:=ha.rb.2 4 _ rfl;have e0:=ha.rf.2 0;have e1:=ha.rf.2 1;have e2:=ha.rf.2 2;have e3:=ha.rf.2 3;have e4:=ha.rf.2 4;have anQ:¬ w.heap.size=X:=hRX;go_wp2_with(go_at_call 81;refine HYE.out.mono ?_;rintro e w' ⟨rfl,y,rfl⟩)
   refine bodyPost_ret (v:=.agg #[.int .i64 3,.string s,.int .i64 0,.slice none 0 0,.slice va j vc]) ?_ rfl ⟨_,_,_,_,_,rfl, ?_, ?_, ?_, ?_⟩
   ·exact dQ rfl rfl (Dc ((((((((ha.rb.drewN _).oth hpw _).set 0 _).set 1 _).set 2 _).set 3 _).set 4 _)))
   ·intro u hu;have:u=.int .i64 3∨u=.string s∨u=.int .i64 0∨u=.slice none 0 0∨u=.slice va j vc:=by simpa using hu
    rcases this with rfl|rfl|rfl|rfl|rfl<;>rfl
   ·refine ha.fin hK (by simp[World.setCell]) fun b h1 h1' h2=>?_;rw[Below.heap_setCell _ _ _ _ h2,Below.heap_setCell _ _ _ _ h2,Below.heap_setCell _ _ _ _ h2,Below.heap_setCell _ _ _ _ h2,Below.heap_setCell _ _ _ _ h2,Below.heap_setCell _ _ _ _ (by show b≠p;have:=h.lt;omega)];exact(aB wr y).block b h1'
   ·exact(((((((ha.ps.drewN _).set1 (st j+1) (by omega)).oth hwp hwg _).oth hwp hwg _).oth hwp hwg _).oth hwp hwg _).oth hwp hwg _)
   ·exact oH (oH (oH (oH (oH (aQ (lW ha.b _) _ _) (zy _) _) (zy _) _) (zy _) _) (zy _) _) (zy _) _
end
end Go.Proofs.YtoilbeadokallaaGreatDoor
