/- Lemmas on the way to the row, merged: walks of functions and plain algebra. Conditions: each lemma's own, stated with it. -/
import Derived.Test.YtoilbeadokallaaGreatDoorK21
import Derived.Test.YtoilbeadokallaaGreatDoorK22
namespace Go.Proofs.YtoilbeadokallaaGreatDoor
open Go.RowKit Cw Cw.Gj
def ScanOut (w:World) (l:List Tok) (e:Ending) (w':World):Prop:=∃ v,e=.returned v∧OwnT w' w.heap.size v l∧Kept w w'
theorem let_bd {x:Int} (h:isLet x=true):97≤x∧x≤122:=by unfold isLet at h;simpa using h
theorem dig_bd {x:Int} (h:isDig x=true):48≤x∧x≤57:=by unfold isDig at h;simpa using h
theorem ne_of_int {x y:Int} (h:x ≠ y):(x == y)=false:=by simpa using h
theorem tok_new (w:World) (t:Tok):∀ q u,t.cells[q]?=some u→(w.alloc (.cells #[.int .i64 t.k,.string t.s,.int .i64 t.n,.int .i64 t.a] 140)).cell? (Addr.add ⟨w.heap.size,0,none⟩ q)=some u:=fun q u hu=>by
 rw [Addr.add_lit,Nat.zero_add]
 exact (bk_new w [.int .i64 t.k,.string t.s,.int .i64 t.n,.int .i64 t.a] _ _ rfl).2 q u hu
theorem indexByte_at (c:UInt8) (w:World) {z:Int} (h:z=Lib.indexByte [40,41,91,93,44] c):Calls Tryz.prog 80 #[.string ⟨#[40,41,91,93,44]⟩,.int .u8 (c.toNat:Int)] w fun e w'=>e=.returned (.int .i64 z)∧w=w':=by
 have:=indexByte_any ⟨#[40,41,91,93,44]⟩ (c.toNat:Int) w
 rw [show ((c.toNat:Int)).toNat.toUInt8=c by simp,← show z=Lib.indexByte (ByteArray.mk #[40,41,91,93,44]).data.toList c from h] at this
 exact this
set_option maxRecDepth 100000 in
set_option maxHeartbeats 8000000 in
theorem scan_any (s:ByteArray) (R:Nat) (pos:Nat→Nat) (T:Nat→List Tok) (w:World) (hs:s.size≤1000) (h0:pos 0=0) (t0:T 0=[]) (hR:pos R=s.size) (hst:∀ r,r < R→Stp s (pos r) (T r) (pos (r + 1)) (T (r + 1))) (hlen:∀ r,r≤R→(T r).length≤1000) (hp:∀ r,r < R→pos r < pos (r + 1)) (hpl:∀ r,r≤R→pos r≤s.size) :
  Calls Tryz.prog 39 #[.string s] w (ScanOut w (T R)):=by
 have HST:=hid hst
 have HL:=hid hlen
 have HP:=hid hp
 have HPL:=hid hpl
 have HR:=hid hR
 have H0:=hid h0
 have T0:=hid t0
 clear hst hlen hp hpl hR h0 t0
 have hs':¬ (s.size:Int) > 65536:=by omega
 go_enter Tryz.func39,Tryz.ntmps39
 go_wp2_with (fail)
 go_loopw [3,4] (fun vo vi wr=>∃ r,r≤R∧vi=.int .i64 (pos r)∧OwnT wr w.heap.size vo (T r)∧Kept w wr) (fun _ vi _=>s.size - (intOf vi).toNat)
 case atStart=>exact ⟨0,Nat.zero_le _,by rw [H0.out];rfl,by rw [T0.out];exact ownT_nil _ _,Kept.rfl' _⟩
 case round =>
  obtain ⟨r,hr,rfl,hown,hk⟩:=hrel
  by_cases hlt:r < R
  ·have hst:=HST.out r hlt
   have hlen:=HL.out r hr
   have hps:=HP.out r hlt
   have hpl:=HPL.out (r + 1) hlt
   obtain ⟨i',hi'⟩:∃ i',i'=pos (r + 1):=⟨_,rfl⟩
   obtain ⟨l',hl'⟩:∃ l',l'=T (r + 1):=⟨_,rfl⟩
   obtain ⟨i,hi⟩:∃ i,i=pos r:=⟨_,rfl⟩
   obtain ⟨l,hl⟩:∃ l,l=T r:=⟨_,rfl⟩
   rw [← hi',← hl',← hi,← hl] at hst
   rw [← hi] at hps ⊢
   rw [← hi'] at hps hpl
   rw [← hl] at hlen hown
   have HI:=hid hi'
   have HLL:=hid hl'
   clear hi hl hi' hl'
   cases hst with
   | blank l h h1 =>
    have hlt':(i:Int) < (s.size:Int):=by omega
    have x1:(((s[i]'h).toNat:Int) == 32)=true:=by rw [h1];rfl
    clear h1 hps hpl
    go_wp2_with (fail)
    go_roundw
    case rel=>exact ⟨r + 1,hlt,by rw [← HI.out];go_num,by rw [← HLL.out];exact hown,hk⟩
    case measure=>simp [intOf];omega
   | name _ l h hij hj hn h1 h2 h3 hz =>
    have hlt':(i:Int) < (s.size:Int):=by omega
    have hij':(i:Int)≤(i':Int):=by omega
    have hj':(i':Int)≤(s.size:Int):=by omega
    have hb:=let_bd h1
    have x1:=ne_of_int (show ((s[i]'h).toNat:Int) ≠ 32 by omega)
    have x2:=ne_of_int (show ((s[i]'h).toNat:Int) ≠ 9 by omega)
    have x3:=ne_of_int (show ((s[i]'h).toNat:Int) ≠ 10 by omega)
    have H1:=hid h1
    have HW:=hid (fun W=>while_name s i i' W (by omega) hj hs h2 h3)
    have hg:¬ (i':Int) - (i:Int) > 16:=by omega
    have hka:=kept_alloc wr (.cells #[.int .i64 1,.string (s.extract i i'),.int .i64 0,.int .i64 i] 140)
    have hoa:=hown.kept hka
    have hsz:w.heap.size≤(wr.alloc (.cells #[.int .i64 1,.string (s.extract i i'),.int .i64 0,.int .i64 i] 140)).heap.size:=(hk.tr hka).size
    have HN:=hid (tok_new wr ⟨1,s.extract i i',0,i⟩)
    have HZ:=hid hz
    clear h1 h2 h3 hz hb
    go_wp2_with (first
     | (go_at_call 75;refine (isLetter_any _ _).mono ?_;rintro e w' ⟨rfl,rfl⟩;rw [H1.out])
     | (go_at_call 76;refine (HW.out _).mono ?_;rintro e w' ⟨rfl,rfl⟩)
     | (at_builtin;refine wpList_append_tok rfl (.tmp 45) (.tmp 52) rfl w.heap.size _ l rfl hoa ⟨wr.heap.size,0,none⟩ _ rfl HN.out (by omega) hsz ?_;intro v7 w7 o7 hg7;obtain ⟨g7,c7,rfl,k7⟩:=o7.snoc;have hk7:Kept w w7:=(hk.tr hka).grown hg7 hsz (fun g e=>(World.ownsRow.lt hoa g e).1)))
    go_roundw
    case rel=>exact ⟨r + 1,hlt,by rw [← HI.out];exact val_int (by omega),by rw [← HLL.out];exact o7,hk7⟩
    case measure=>simp [intOf];omega
   | num l d h hl =>
    have hlt':(i:Int) < (s.size:Int):=by have:=h.lt;omega
    have hi1:((i:Int) + 1)≤(s.size:Int):=by omega
    have hb:=dig_bd h.dg
    have x1:=ne_of_int (show ((s[i]'h.lt).toNat:Int) ≠ 32 by omega)
    have x2:=ne_of_int (show ((s[i]'h.lt).toNat:Int) ≠ 9 by omega)
    have x3:=ne_of_int (show ((s[i]'h.lt).toNat:Int) ≠ 10 by omega)
    have H1:Hid (isLet ((s[i]'h.lt).toNat:Int)=false):=hid (by unfold isLet;simp;omega)
    have H2:=hid h.dg
    have HZ:=hid h.xs
    have HNM:=hid (fun W=>number_one s i d W h hl)
    clear hb
    go_wp2_with (first
     | (go_at_call 75;refine (isLetter_any _ _).mono ?_;rintro e w' ⟨rfl,rfl⟩;rw [H1.out])
     | (go_at_call 78;refine (isDigit_any _ _).mono ?_;rintro e w' ⟨rfl,rfl⟩;rw [H2.out])
     | (go_at_call 79;refine (HNM.out _).mono ?_;rintro e w5 ⟨rfl,hk5⟩;have hk05:=hk.tr hk5;have hka:=kept_alloc w5 (.cells #[.int .i64 2,.string (s.extract i (i + 1)),.int .i64 d,.int .i64 i] 140);have hoa:=(hown.kept hk5).kept hka;have hsz:w.heap.size≤(w5.alloc (.cells #[.int .i64 2,.string (s.extract i (i + 1)),.int .i64 d,.int .i64 i] 140)).heap.size:=(hk05.tr hka).size;have HN:Hid (∀ q u,(Tok.cells ⟨2,s.extract i (i + 1),d,i⟩)[q]?=some u→(w5.alloc (.cells #[.int .i64 2,.string (s.extract i (i + 1)),.int .i64 d,.int .i64 i] 140)).cell? (Addr.add ⟨w5.heap.size,0,none⟩ q)=some u):=hid (tok_new w5 _))
     | (at_builtin;refine wpList_append_tok rfl (.tmp 57) (.tmp 61) rfl w.heap.size _ l rfl hoa ⟨w5.heap.size,0,none⟩ _ rfl HN.out (by omega) hsz ?_;intro v7 w7 o7 hg7;obtain ⟨g7,c7,rfl,k7⟩:=o7.snoc;have hk7:Kept w w7:=(hk05.tr hka).grown hg7 hsz (fun g e=>(World.ownsRow.lt hoa g e).1)))
    go_roundw
    case rel=>exact ⟨r + 1,hlt,by rw [← HI.out];exact val_int (by omega),by rw [← HLL.out];exact o7,hk7⟩
    case measure=>simp [intOf];omega
   | sign l h h0 h1 h2 h3 hz =>
    have hlt':(i:Int) < (s.size:Int):=by omega
    have hi1:((i:Int) + 1)≤(s.size:Int):=by omega
    have x1:=ne_of_int (show ((s[i]'h).toNat:Int) ≠ 32 by omega)
    have x2:=ne_of_int (show ((s[i]'h).toNat:Int) ≠ 9 by omega)
    have x3:=ne_of_int (show ((s[i]'h).toNat:Int) ≠ 10 by omega)
    have H1:=hid h1
    have H2:=hid h2
    obtain ⟨z,hzz⟩:∃ z,z=Lib.indexByte [40,41,91,93,44] (s[i]'h):=⟨_,rfl⟩
    have hz0:0≤z:=by rw [hzz];exact h3
    have HX:=hid (fun W=>indexByte_at (s[i]'h) W hzz)
    have hka:=kept_alloc wr (.cells #[.int .i64 3,.string (s.extract i (i + 1)),.int .i64 0,.int .i64 i] 140)
    have hoa:=hown.kept hka
    have hsz:w.heap.size≤(wr.alloc (.cells #[.int .i64 3,.string (s.extract i (i + 1)),.int .i64 0,.int .i64 i] 140)).heap.size:=(hk.tr hka).size
    have HN:=hid (tok_new wr ⟨3,s.extract i (i + 1),0,i⟩)
    have HZ:=hid hz
    clear h0 h1 h2 h3 hz hzz
    go_wp2_with (first
     | (go_at_call 75;refine (isLetter_any _ _).mono ?_;rintro e w' ⟨rfl,rfl⟩;rw [H1.out])
     | (go_at_call 78;refine (isDigit_any _ _).mono ?_;rintro e w' ⟨rfl,rfl⟩;rw [H2.out])
     | (go_at_call 80;refine (HX.out _).mono ?_;rintro e w' ⟨rfl,rfl⟩)
     | (at_builtin;refine wpList_append_tok rfl (.tmp 67) (.tmp 75) rfl w.heap.size _ l rfl hoa ⟨wr.heap.size,0,none⟩ _ rfl HN.out (by omega) hsz ?_;intro v7 w7 o7 hg7;obtain ⟨g7,c7,rfl,k7⟩:=o7.snoc;have hk7:Kept w w7:=(hk.tr hka).grown hg7 hsz (fun g e=>(World.ownsRow.lt hoa g e).1)))
    go_roundw
    case rel=>exact ⟨r + 1,hlt,by rw [← HI.out];exact val_int (by omega),by rw [← HLL.out];exact o7,hk7⟩
    case measure=>simp [intOf];omega
  ·have HE:Hid (r=R):=hid (by omega)
   have hge:¬ (pos r:Int) < (s.size:Int):=by rw [HE.out,HR.out];omega
   go_wp2_with (fail)
   go_ret
   exact ⟨_,rfl,by rw [← HE.out];exact hown,hk⟩
end Go.Proofs.YtoilbeadokallaaGreatDoor
namespace Go.Proofs.YtoilbeadokallaaGreatDoor
open Go.RowKit Cw Cw.Gj
structure PsS (w:World) (p g c:Nat) (L:List Tok) (i m:Nat):Prop where
 lt:p < w.heap.size
 glt:g < w.heap.size
 ne:g ≠ p
 h0:w.cell? ⟨p,0,none⟩=some (.slice (some ⟨g,0,none⟩) L.length c)
 h1:w.cell? ⟨p,1,none⟩=some (.int .i64 i)
 h3:w.cell? ⟨p,3,none⟩=some (.int .i64 m)
 f1:w.frozen? ⟨p,1,none⟩=false
 f3:w.frozen? ⟨p,3,none⟩=false
 tk:∀ k t,L[k]?=some t→∀ j,j < 4→w.cell? ⟨g,k * 4 + j,none⟩=t.cells[j]?
section
variable {w w':World} {p g c:Nat} {L:List Tok} {i m:Nat}
theorem PsS.kept (h:PsS w p g c L i m) (k:Kept w w'):PsS w' p g c L i m :=
 ⟨k.lt h.lt,k.lt h.glt,h.ne,(k.cell' h.lt).trans h.h0,(k.cell' h.lt).trans h.h1,(k.cell' h.lt).trans h.h3,(k.frozen' h.lt).trans h.f1,(k.frozen' h.lt).trans h.f3,
  fun x t hx j hj=>(k.cell' h.glt).trans (h.tk x t hx j hj)⟩
theorem PsS.drewN (h:PsS w p g c L i m) (n:Nat):PsS (w.drewN n) p g c L i m:=h.kept (kept_drewN w n)
theorem PsS.drew (h:PsS w p g c L i m):PsS w.drew p g c L i m:=h.kept (kept_drew w)
theorem PsS.set1 (h:PsS w p g c L i m) (i':Nat) {x:Int} (hx:x=i'):PsS (w.setCell ⟨p,1,none⟩ (.int .i64 x)) p g c L i' m:=by
 subst hx
 have hg:=grownBy_setCell w p 1 (.int .i64 i')
 refine ⟨by simpa [World.setCell] using h.lt,by simpa [World.setCell] using h.glt,h.ne, ?_, ?_, ?_, ?_, ?_,fun x t hx j hj=>?_⟩
 ·rw [World.cell?_setCell_other _ _ _ _ (by simp)];exact h.h0
 ·exact cell_same h.h1
 ·rw [World.cell?_setCell_other _ _ _ _ (by simp)];exact h.h3
 ·rw [World.frozen?_setCell];exact h.f1
 ·rw [World.frozen?_setCell];exact h.f3
 ·rw [gb_cell hg h.glt h.ne];exact h.tk x t hx j hj
theorem PsS.set3 (h:PsS w p g c L i m) (m':Nat) {x:Int} (hx:x=m'):PsS (w.setCell ⟨p,3,none⟩ (.int .i64 x)) p g c L i m':=by
 subst hx
 have hg:=grownBy_setCell w p 3 (.int .i64 m')
 refine ⟨by simpa [World.setCell] using h.lt,by simpa [World.setCell] using h.glt,h.ne, ?_, ?_, ?_, ?_, ?_,fun x t hx j hj=>?_⟩
 ·rw [World.cell?_setCell_other _ _ _ _ (by simp)];exact h.h0
 ·rw [World.cell?_setCell_other _ _ _ _ (by simp)];exact h.h1
 ·exact cell_same h.h3
 ·rw [World.frozen?_setCell];exact h.f1
 ·rw [World.frozen?_setCell];exact h.f3
 ·rw [gb_cell hg h.glt h.ne];exact h.tk x t hx j hj
theorem PsS.oth (h:PsS w p g c L i m) {b k:Nat} (hb:b ≠ p) (hn:b ≠ g) (v:Value):PsS (w.setCell ⟨b,k,none⟩ v) p g c L i m:=by
 have hg:=grownBy_setCell w b k v
 refine ⟨by simpa [World.setCell] using h.lt,by simpa [World.setCell] using h.glt,h.ne, ?_, ?_, ?_, ?_, ?_,fun x t hx j hj=>?_⟩
 ·rw [gb_cell hg h.lt hb.symm];exact h.h0
 ·rw [gb_cell hg h.lt hb.symm];exact h.h1
 ·rw [gb_cell hg h.lt hb.symm];exact h.h3
 ·rw [World.frozen?_setCell];exact h.f1
 ·rw [World.frozen?_setCell];exact h.f3
 ·rw [gb_cell hg h.glt hn.symm];exact h.tk x t hx j hj
theorem gb_new {a b:World} {q r k:Nat} (h:a.grownBy b (some q)) (hr:a.heap.size≤r) (u:Value):a.grownBy (b.setCell ⟨r,k,none⟩ u) (some q) :=
 ⟨h.os,h.tape,h.output,by have:=h.size;simpa [World.setCell] using this,fun x hx hn=>(Below.heap_setCell b ⟨r,k,none⟩ u x (by show x ≠ r;omega)).trans (h.block x hx hn)⟩
theorem tok_lt {t:Tok} (ht:L[i]?=some t):i < L.length:=(List.getElem?_eq_some_iff.1 ht).1
theorem PsS.tok4 (h:PsS w p g c L i m) {k n a:Int} {s:ByteArray} (ht:L[i]?=some ⟨k,s,n,a⟩):w.cell? ⟨g,i * 4,none⟩=some (.int .i64 k)∧w.cell? ⟨g,i * 4 + 1,none⟩=some (.string s)∧w.cell? ⟨g,i * 4 + 2,none⟩=some (.int .i64 n)∧w.cell? ⟨g,i * 4 + 3,none⟩=some (.int .i64 a) :=
 ⟨h.tk i _ ht 0 (by omega),h.tk i _ ht 1 (by omega),h.tk i _ ht 2 (by omega),h.tk i _ ht 3 (by omega)⟩
theorem ps_kind (h:PsS w p g c L i m) {t:Tok} (ht:L[i]?=some t):Calls Tryz.prog 82 #[.pointer (some ⟨p,0,none⟩)] w fun e w'=>e=.returned (.int .i64 t.k)∧∃ m,w'=w.drewN m :=
 kind_in p g L.length c i t.k w h.h0 h.h1 (tok_lt ht) (h.tk i t ht 0 (by omega))
theorem ps_at (h:PsS w p g c L i m) {t:Tok} (ht:L[i]?=some t):Calls Tryz.prog 42 #[.pointer (some ⟨p,0,none⟩)] w fun e w'=>e=.returned (.int .i64 t.a)∧∃ m,w'=w.drewN m :=
 at_in p g L.length c i t.a w h.h0 h.h1 (tok_lt ht) (h.tk i t ht 3 (by omega))
theorem ps_no (h:PsS w p g c L i m) {t:Tok} (ht:L[i]?=some t) (hk:t.k ≠ 3) (s:ByteArray):Calls Tryz.prog 81 #[.pointer (some ⟨p,0,none⟩),.string s] w fun e w'=>e=.returned (.bool false)∧∃ m,w'=w.drewN m :=
 tok_is_no p g L.length c i t.k s w h.h0 h.h1 (tok_lt ht) (h.tk i t ht 0 (by omega)) hk
theorem ps_other (h:PsS w p g c L i m) {t:Tok} (ht:L[i]?=some t) (hk:t.k=3) (s:ByteArray) (hs:(t.s.toList == s.toList)=false):Calls Tryz.prog 81 #[.pointer (some ⟨p,0,none⟩),.string s] w fun e w'=>e=.returned (.bool false)∧∃ m,w'=w.drewN m :=
 tok_is_other p g L.length c i s t.s w h.h0 h.h1 (tok_lt ht) (by rw [← hk];exact h.tk i t ht 0 (by omega)) (h.tk i t ht 1 (by omega)) hs
theorem ps_yes (h:PsS w p g c L i m) {t:Tok} (ht:L[i]?=some t) (hk:t.k=3) (hn:L.length≤100):Calls Tryz.prog 81 #[.pointer (some ⟨p,0,none⟩),.string t.s] w fun e w'=>e=.returned (.bool true)∧∃ m,w'=(w.drewN m).setCell ⟨p,1,none⟩ (.int .i64 ((i + 1:Nat):Int)) :=
 tok_is_yes p g L.length c i t.s w h.h0 h.h1 h.f1 (tok_lt ht) hn (by rw [← hk];exact h.tk i t ht 0 (by omega)) (h.tk i t ht 1 (by omega))
theorem ps_must (h:PsS w p g c L i m) {t:Tok} (ht:L[i]?=some t) (hk:t.k=3) (hn:L.length≤100):Calls Tryz.prog 84 #[.pointer (some ⟨p,0,none⟩),.string t.s] w fun e w'=>e=.returned (.tuple #[])∧∃ m,w'=(w.drewN m).setCell ⟨p,1,none⟩ (.int .i64 ((i + 1:Nat):Int)) :=
 must_yes p g L.length c i t.s w h.h0 h.h1 h.f1 (tok_lt ht) hn (by rw [← hk];exact h.tk i t ht 0 (by omega)) (h.tk i t ht 1 (by omega))
end
def NumC (n:Int):List Value:=[.int .i64 1,.string ⟨#[]⟩,.int .i64 n,.slice none 0 0,.slice none 0 0]
def CallC (s:ByteArray) (v:Value):List Value:=[.int .i64 3,.string s,.int .i64 0,.slice none 0 0,v]
def Frs (Gd:List Value→World→Prop) (B:Nat) (E:List Value) (w:World):Prop :=
 ∃ S:Nat→Prop,(∀ b,S b→B≤b∧b < w.heap.size)∧∀ w':World,w.heap.size≤w'.heap.size→(∀ b,S b→w'.heap[b]?=w.heap[b]?)→Gd E w'
def ExOut (Gd:List Value→World→Prop) (w:World) (p g c:Nat) (L:List Tok) (i' m':Nat) (e:Ending) (w':World):Prop :=
 ∃ u0 u1 u2 u3 u4:Value,e=.returned (.agg #[u0,u1,u2,u3,u4])∧(∀ u ∈ [u0,u1,u2,u3,u4],u.oneCell'=true)∧Frs Gd w.heap.size [u0,u1,u2,u3,u4] w'∧PsS w' p g c L i' m'∧w.grownBy w' (some p)
set_option maxRecDepth 100000 in
set_option maxHeartbeats 4000000 in
theorem expr_num (w:World) (p g c:Nat) (L:List Tok) (i m d:Nat) (n:Int) (s:ByteArray) (a:Int) (h:PsS w p g c L i m) (ht:L[i]?=some ⟨2,s,n,a⟩) (hL:L.length≤100) (hd:d≤32) (hm:m < 1000) :
  Calls Tryz.prog 40 #[.pointer (some ⟨p,0,none⟩),.int .i64 d] w (ExOut (fun E _=>E=NumC n) w p g c L (i + 1) (m + 1)):=by
 obtain ⟨W1,hW1⟩:∃ x,x=w.alloc (.cells #[.int .i64 0,.string ⟨#[]⟩,.int .i64 0,.slice none 0 0,.slice none 0 0] 50):=⟨_,rfl⟩
 have hk1:Kept w W1:=by rw [hW1];exact kept_alloc _ _
 have hp1:=h.kept hk1
 have hz1:W1.heap.size=w.heap.size + 1:=by rw [hW1];simp
 have hb1:Bk W1 w.heap.size [.int .i64 0,.string ⟨#[]⟩,.int .i64 0,.slice none 0 0,.slice none 0 0]:=by rw [hW1];exact bk_new w _ _ _ rfl
 have hf1:Fz W1 w.heap.size:=by rw [hW1];exact fz_new w _ _ _ rfl
 have r0:=hb1.2 0 _ rfl
 have r1:=hb1.2 1 _ rfl
 have r2:=hb1.2 2 _ rfl
 have r3:=hb1.2 3 _ rfl
 have r4:=hb1.2 4 _ rfl
 have e0:=hf1.2 0
 have e1:=hf1.2 1
 have e2:=hf1.2 2
 have e3:=hf1.2 3
 have e4:=hf1.2 4
 have hlt1:w.heap.size < W1.heap.size:=by omega
 have hne1:¬ w.heap.size=W1.heap.size:=by omega
 have hlp:p < W1.heap.size:=hp1.lt
 have hpw:¬ p=w.heap.size:=by have:=h.lt;omega
 have hwp:¬ w.heap.size=p:=by have:=h.lt;omega
 have hwg:¬ w.heap.size=g:=by have:=h.glt;omega
 have hil:=tok_lt ht
 have HT:=hid ht
 have q0:=hp1.h0
 have q1:=hp1.h1
 have q3:=hp1.h3
 have g1:=hp1.f1
 have g3:=hp1.f3
 obtain ⟨t0,t1,t2,t3⟩:=hp1.tok4 ht
 have hne:¬ g=p:=h.ne
 have hd':¬ (d:Int) > 32:=by omega
 have hm':((m:Int) == 1024)=false:=by simp;omega
 have HB:=hid hb1
 have HZ:=hid hz1
 clear ht hb1 hf1 hz1
 go_enter Tryz.func40,Tryz.ntmps40
 go_wp2_with (fail)
 rw [← hW1]
 clear hW1
 go_quiet ((go_at_call 42;exact Calls.quiet_of (ps_at (hp1.drewN _) HT.out)))
 go_wp2_with (first
  | (go_at_call 81;refine (ps_no (hp1.drewN _) HT.out (by simp) _).mono ?_;rintro e w' ⟨rfl,x,rfl⟩)
  | (go_at_call 82;refine (ps_kind (by first | exact hp1.drewN _ | exact (hp1.drewN _).drewN _) HT.out).mono ?_;rintro e w' ⟨rfl,x2,rfl⟩))
 refine bodyPost_ret (v:=.agg (NumC n).toArray) ?_ rfl ⟨_,_,_,_,_,rfl, ?_,⟨fun _=>False,fun _ q=>q.elim,fun _ _ _=>rfl⟩, ?_, ?_⟩
 ·exact results_cell rfl rfl (load_expr (Bk.kept (((((((((HB.out.drewN _).oth hpw _).oth hpw _).set 0 _).set 1 _).set 2 _).set 3 _).set 4 _)) (kept_alloc _ _)))
 ·intro u hu
  have:u=.int .i64 1 ∨ u=.string ⟨#[]⟩ ∨ u=.int .i64 n ∨ u=.slice none 0 0:=by simpa using hu
  rcases this with rfl | rfl | rfl | rfl <;> rfl
 ·exact (((((((((hp1.drewN _).set3 (m + 1) (by omega)).set1 (i + 1) (by omega)).oth hwp hwg _).oth hwp hwg _).oth hwp hwg _).oth hwp hwg _).oth hwp hwg _)).kept (kept_alloc _ _)
 ·exact gb_kept (gb_new (gb_new (gb_new (gb_new (gb_new (gb_set (gb_set (gb_drewN (gb_of_kept hk1) _) _ _) _ _) (Nat.le_refl _) _) (Nat.le_refl _) _) (Nat.le_refl _) _) (Nat.le_refl _) _) (Nat.le_refl _) _) (kept_alloc _ _)
end Go.Proofs.YtoilbeadokallaaGreatDoor
