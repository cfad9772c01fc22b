/- Lemmas on the way to the row. Conditions: each lemma's own, stated with it. -/
import Derived.Test.YtoilbeadokallaaGreatDoorK13
import Derived.BigQuiet
import Derived.Laws.RangeString
import Derived.Lib.Bytealg
import Derived.Laws.Externs
set_option maxHeartbeats 2000000
namespace Go.Proofs.YtoilbeadokallaaGreatDoor
section
set_option maxRecDepth 100000
open Go.RowKit Cw Cw.Gj
theorem Gh (b g n c i:Nat) (k:Int) (w:World) (h0:w.cell? ⟨b,0,none⟩=some (.slice (some ⟨g,0,none⟩) n c)) (h1:w.cell? ⟨b,1,none⟩=some (.int .i64 i)) (hi:i<n) (hk:w.cell? ⟨g,i*4,none⟩=some (.int .i64 k)):
  Calls Tryz.prog 82 #[.pointer (some ⟨b,0,none⟩)] w fun e w'=>e=.returned (.int .i64 k)/\∃ m,w'=w.drewN m:=by
 have hlt:(i:Int)< (n:Int):=by omega
 go_enter Tryz.func82,Tryz.ntmps82;go_wp2_with(fail)
 go_quiet(fail);go_wp2_with(fail)
 go_quiet(fail);go_wp2_with(fail)
 go_ret;exact⟨rfl,_,World.drewN_drewN _ _ _⟩
theorem at_in (b g n c i:Nat) (k:Int) (w:World) (h0:w.cell? ⟨b,0,none⟩=some (.slice (some ⟨g,0,none⟩) n c)) (h1:w.cell? ⟨b,1,none⟩=some (.int .i64 i)) (hi:i<n) (hk:w.cell? ⟨g,i*4+3,none⟩=some (.int .i64 k)):
  Calls Tryz.prog 42 #[.pointer (some ⟨b,0,none⟩)] w fun e w'=>e=.returned (.int .i64 k)/\∃ m,w'=w.drewN m:=by
 have hlt:(i:Int)< (n:Int):=by omega
 go_enter Tryz.func42,Tryz.ntmps42;go_wp2_with(fail)
 go_quiet(fail);go_wp2_with(fail)
 go_quiet(fail);go_wp2_with(fail)
 go_ret;exact⟨rfl,_,World.drewN_drewN _ _ _⟩
theorem TP (b g n c i:Nat) (k:Int) (s:ByteArray) (w:World) (h0:w.cell? ⟨b,0,none⟩=some (.slice (some ⟨g,0,none⟩) n c)) (h1:w.cell? ⟨b,1,none⟩=some (.int .i64 i)) (hi:i<n) (hk:w.cell? ⟨g,i*4,none⟩=some (.int .i64 k)) (hk3:k≠3):
  Calls Tryz.prog 81 #[.pointer (some ⟨b,0,none⟩),.string s] w fun e w'=>e=.returned (.bool false)/\∃ m,w'=w.drewN m:=by
 have hlt:(i:Int)< (n:Int):=by omega
 have tk:(k==3)=false:=by simpa using hk3
 go_enter Tryz.func81,Tryz.ntmps81;go_wp2_with(fail)
 go_quiet((go_at_call 82;refine Calls.quiet_of (Gh b g n c i k _ ((aB w _).cell' (World.block_lt_of_cell? w _ h0)|>.trans h0) ((aB w _).cell' (World.block_lt_of_cell? w _ h1)|>.trans h1) hi ((aB w _).cell' (World.block_lt_of_cell? w _ hk)|>.trans hk))));go_wp2_with(fail)
 go_ret;exact⟨rfl,_,rfl⟩
theorem EM (b g n c i:Nat) (s:ByteArray) (w:World) (h0:w.cell? ⟨b,0,none⟩=some (.slice (some ⟨g,0,none⟩) n c)) (h1:w.cell? ⟨b,1,none⟩=some (.int .i64 i)) (hf:w.frozen? ⟨b,1,none⟩=false) (hi:i<n) (hn:n<=100) (hk:w.cell? ⟨g,i*4,none⟩=some (.int .i64 3)) (ht:w.cell? ⟨g,i*4+1,none⟩=some (.string s)):
  Calls Tryz.prog 81 #[.pointer (some ⟨b,0,none⟩),.string s] w fun e w'=>e=.returned (.bool true)/\∃ m,w'=(w.drewN m).setCell ⟨b,1,none⟩ (.int .i64 ((i+1:Nat):Int)):=by
 have hlt:(i:Int)< (n:Int):=by omega
 go_enter Tryz.func81,Tryz.ntmps81;go_wp2_with(fail)
 go_quiet((go_at_call 82;refine Calls.quiet_of (Gh b g n c i 3 _ ((aB w _).cell' (World.block_lt_of_cell? w _ h0)|>.trans h0) ((aB w _).cell' (World.block_lt_of_cell? w _ h1)|>.trans h1) hi ((aB w _).cell' (World.block_lt_of_cell? w _ hk)|>.trans hk))));go_wp2_with(fail)
 go_ret;exact⟨rfl,_,by push_cast;rfl⟩
theorem I9 (b g n c i:Nat) (s s':ByteArray) (w:World) (h0:w.cell? ⟨b,0,none⟩=some (.slice (some ⟨g,0,none⟩) n c)) (h1:w.cell? ⟨b,1,none⟩=some (.int .i64 i)) (hi:i<n) (hk:w.cell? ⟨g,i*4,none⟩=some (.int .i64 3)) (ht:w.cell? ⟨g,i*4+1,none⟩=some (.string s')) (hs:(s'.toList==s.toList)=false):
  Calls Tryz.prog 81 #[.pointer (some ⟨b,0,none⟩),.string s] w fun e w'=>e=.returned (.bool false)/\∃ m,w'=w.drewN m:=by
 have hlt:(i:Int)< (n:Int):=by omega
 have HS:=hid hs;clear hs;go_enter Tryz.func81,Tryz.ntmps81;go_wp2_with(fail)
 go_quiet((go_at_call 82;refine Calls.quiet_of (Gh b g n c i 3 _ ((aB w _).cell' (World.block_lt_of_cell? w _ h0)|>.trans h0) ((aB w _).cell' (World.block_lt_of_cell? w _ h1)|>.trans h1) hi ((aB w _).cell' (World.block_lt_of_cell? w _ hk)|>.trans hk))));rw[HS.out];go_wp2_with(fail)
 go_ret;exact⟨rfl,_,rfl⟩
end
section
open Go.RowKit Cw Cw.Gj
set_option maxRecDepth 100000 in
theorem XU (b g n c i:Nat) (s:ByteArray) (w:World) (h0:w.cell? ⟨b,0,none⟩=some (.slice (some ⟨g,0,none⟩) n c)) (h1:w.cell? ⟨b,1,none⟩=some (.int .i64 i)) (hf:w.frozen? ⟨b,1,none⟩=false) (hi:i<n) (hn:n<=100) (hk:w.cell? ⟨g,i*4,none⟩=some (.int .i64 3)) (ht:w.cell? ⟨g,i*4+1,none⟩=some (.string s)):
  Calls Tryz.prog 84 #[.pointer (some ⟨b,0,none⟩),.string s] w fun e w'=>e=.returned (.tuple #[])/\∃ m,w'=(w.drewN m).setCell ⟨b,1,none⟩ (.int .i64 ((i+1:Nat):Int)):=by
 have HC:=hid (EM b g n c i s w h0 h1 hf hi hn hk ht);go_enter Tryz.func84,Tryz.ntmps84;go_wp2_with(go_at_call 81;refine HC.out.mono ?_;rintro e w' ⟨rfl,m,rfl⟩)
 go_end0
 exact⟨rfl,m,rfl⟩
theorem Tryz.byteString_runs (s:ByteArray) (c:Int) (w:World):(callFunc 190 #[.string s,.int .u8 c]).run Tryz.prog w=.ok (.value (.int .i64 (Lib.indexByte s.data.toList c.toNat.toUInt8))) w:=by
 rw[run_callFunc_extern Tryz.func190 (by kernel_rfl) (by kernel_rfl) (by kernel_rfl) (e:=Extern.BytealgIndexByte.indexByte) (by kernel_rfl),Lib.run_indexByteString];rfl
theorem Gi (s:ByteArray) (c:Int) (w:World):Calls Tryz.prog 80 #[.string s,.int .u8 c] w fun e w'=>e=.returned (.int .i64 (Lib.indexByte s.data.toList c.toNat.toUInt8))/\w=w':=by
 have hd:=Tryz.byteString_runs s c;obtain⟨r,hr⟩:∃ r,r=Lib.indexByte s.data.toList c.toNat.toUInt8:=⟨_,rfl⟩
 rw[<-hr] at hd ⊢;clear hr;go_enter Tryz.func80,Tryz.ntmps80
 go_wp2
 go_ret;exact⟨rfl,rfl⟩
structure Tok where
 k:Int
 s:ByteArray
 n:Int
 a:Int
def Tok.cells (t:Tok):List Value:=[.int .i64 t.k,.string t.s,.int .i64 t.n,.int .i64 t.a]
structure Dg (s:ByteArray) (i:Nat) (d:Int):Prop where
 lt:i<s.size
 sz:s.size<=1000
 dg:nI ((s[i]'lt).toNat:Int)=true
 d0:0<=d
 d9:d<=9
 nd:∀ h:i+1<s.size,nI ((s[i+1]'h).toNat:Int)=false
 nl:∀ h:i+1<s.size,isLet ((s[i+1]'h).toNat:Int)=false
 nu:∀ h:i+1<s.size,(((s[i+1]'h).toNat:Int)==95)=false
 xs:(s.extract i (i+1)).size=1
 xv:∀ h:0< (s.extract i (i+1)).size,(((s.extract i (i+1))[0]'h).toNat:Int)=48+d
def aln (W1:World) (x:ByteArray) (d:Int) (vn:Value) (wr:World):Prop:=(wr=W1.iter x 0/\vn=.int .i64 0)∨(wr=W1.iter x 1/\vn=.int .i64 d)
set_option maxRecDepth 100000 in
theorem Pg (s:ByteArray) (i:Nat) (d:Int) (w:World) (h:Dg s i d) (hlt:i+1<s.size):
  Calls Tryz.prog 79 #[.string s,.int .i64 i] w fun e w'=>e=.returned (.agg #[.int .i64 2,.string (s.extract i (i+1)),.int .i64 d,.int .i64 i])/\ay w w':=by
 obtain⟨lt,sz,dg,d0,d9,nd,nl,nu,xs,xv⟩:=h;have HW:=hid (fun W=>KL s i (i+1) W (by omega) (by omega) sz (fun k hk h1 h2=>by
  have:k=i:=by omega
  subst this;exact dg) nd)
 have hlt':((i:Int)+1)< (s.size:Int):=by omega
 have NL:=hid (nl hlt);have NU:=nu hlt;obtain⟨x,hx⟩:∃ x,x=s.extract i (i+1):=⟨_,rfl⟩
 obtain⟨W1,hW1⟩:∃ W1,W1=w.alloc (.cells #[.int .i64 0,.string ⟨#[]⟩,.int .i64 0,.int .i64 0] 140):=⟨_,rfl⟩
 have hz:W1.heap.size=w.heap.size+1:=by rw[hW1];simp
 have hk1:ay w W1:=by rw[hW1];exact ah _ _
 rw[<-hx] at xs xv ⊢;have hx0:0<x.size:=by omega
 have hv:=xv hx0;have N0:Hid (∀ ty,(Instr.next (.pointer (some ⟨w.heap.size+1,0,none⟩)) true ty).run Tryz.prog (W1.iter x 0)=.ok (.tuple #[.bool true,.int .i64 0,.int .i32 (48+d)]) (W1.iter x 1)):=hid (fun ty=>by
  have:=run_next_ascii (P:=Tryz.prog) W1 x 0 ty hx0 (by omega);rw[hz,hv] at this;exact this)
 have N1:Hid (∀ ty,(Instr.next (.pointer (some ⟨w.heap.size+1,0,none⟩)) true ty).run Tryz.prog (W1.iter x 1)=.ok (.tuple #[.bool false]) (W1.iter x 1)):=hid (fun ty=>by
  have:=run_next_end (P:=Tryz.prog) W1 x 1 ty (by omega);rw[hz] at this;exact this)
 have hki:ay W1 (W1.iter x 1):=ah W1 (.stringIter x 1);have hk2:ay w (W1.iter x 1):=hk1.tr hki;have hbk:Bk (W1.iter x 1) w.heap.size [.int .i64 0,.string ⟨#[]⟩,.int .i64 0,.int .i64 0]:=by
  refine Bk.kept ?_ hki;rw[hW1];exact aG w _ _ _ rfl
 have hfz:Fz (W1.iter x 1) w.heap.size:=by
  refine Fz.kept ?_ hki;rw[hW1];exact bD w _ _ _ rfl
 have HB:=hid hbk;have HF:=hid hfz;clear hbk hfz;clear nd nl nu xv hv;go_enter Tryz.func79,Tryz.ntmps79;go_wp2_with(first|(go_at_call 76;refine(HW.out _).mono ?_;rintro e w' ⟨rfl,rfl⟩)|(go_at_call 75;refine(eG _ _).mono ?_;rintro e w' ⟨rfl,rfl⟩;rw[NL.out]))
 rw[<-hx,<-hW1];have HX:=hid hx;clear hx hW1
 go_loopw [6] (fun vn wr=>aln W1 x d vn wr) (fun _ wr=>1-wr.iterPos (w.heap.size+1))
 case atStart=>exact .inl ⟨rfl,rfl⟩
 case round=>
  rcases hrel with⟨rfl,rfl⟩|⟨rfl,rfl⟩
  ·have hn:=N0.out;go_wp2_with(fail)
   go_roundw;case rel=>exact .inr ⟨rfl,by go_num⟩
   case measure=>rw[<-hz];simp
  ·have hn:=N1.out;have c0:=HB.out.2 0 _ rfl;have c1:=HB.out.2 1 _ rfl;have c2:=HB.out.2 2 _ rfl;have c3:=HB.out.2 3 _ rfl;have f0:=HF.out.2 0;have f1:=HF.out.2 1;have f2:=HF.out.2 2;have f3:=HF.out.2 3;go_wp2_with(fail)
   refine bodyPost_ret (v:=.agg #[.int .i64 2,.string x,.int .i64 d,.int .i64 i]) ?_ rfl ⟨rfl, ?_⟩
   ·simp[results,Tryz.results79,go_sem,c0,c1,c2,c3];exact HX.out.symm
   ·exact aA _ (aA _ (aA _ (aA _ hk2 (zy _)) (zy _)) (zy _)) (zy _)
theorem Tryz.infoTok:(Tryz.prog.info? 140).map (fun i=>(i.zero,i.size,i.bytes))=some (some (.agg #[.int .i64 0,.string ⟨#[]⟩,.int .i64 0,.int .i64 0]),4,40):=by kernel_rfl
def tcs (l:List Tok):List Value:=l.flatMap Tok.cells
theorem XV (l:List Tok) (t:Tok):tcs (l++ [t])=tcs l++t.cells:=by unfold tcs;rw[List.flatMap_append];simp
theorem TQ:∀ {l:List Tok} {k:Nat} {t:Tok},l[k]?=some t->∀ j,j<4->(tcs l)[k*4+j]?=t.cells[j]?
 | [],k,t,h,_,_=>by simp at h
 |x::l,0,t,h,j,hj=>by
  have:x=t:=by simpa using h
  subst this;show(x.cells++tcs l)[0*4+j]?=_;rw[sF,xQ,yU (by show j<4;exact hj)]
 |x::l,k+1,t,h,j,hj=>by
  have h':l[k]?=some t:=by simpa using h
  show(x.cells++tcs l)[(k+1)*4+j]?=_;rw[vW (by show 4<=_;omega),show(k+1)*4+j-x.cells.length=k*4+j by show _-4=_;omega];exact TQ h' j hj
def JK (w:World) (B:Nat) (v:Value) (l:List Tok):Prop:=w.ownsRow B 140 4 v l.length (tcs l)
theorem XW (w:World) (B:Nat):JK w B (.slice none 0 0) []:=⟨rfl,.inl ⟨rfl,rfl⟩⟩
theorem JK.kept {w w':World} {B:Nat} {v:Value} {l:List Tok} (h:JK w B v l) (k:ay w w'):JK w' B v l:=by
 refine World.ownsRow.kept h (row:=some w.heap.size) ⟨k.os,k.tape,k.output,k.size,fun i hi _=>k.block i hi⟩ ?_;cases e:v.ownBlock with
 |none=>exact .inl rfl
 |some x=>
  refine .inr fun q=>?_;have h1:=(World.ownsRow.lt h x e).2;have h2:x=w.heap.size:=by simpa using q
  omega
theorem JK.form {w:World} {B:Nat} {v:Value} {l:List Tok} (h:JK w B v l):
  (v=.slice none 0 0/\l=[])∨ ∃ g cap,v=.slice (some ⟨g,0,none⟩) l.length cap/\B<=g/\g<w.heap.size/\l.length<=cap/\cap<=maxLen:=by
 obtain⟨h1,h⟩:=h;rcases h with⟨h,h0⟩|⟨g,cap,cur,h,hb,hg,h2,h3,_⟩
 ·exact .inl ⟨h,zO h0⟩
 ·exact .inr ⟨g,cap,h,hb,(zL.1 hg).1,h2,h3⟩
theorem JK.cell {w:World} {B g n cap:Nat} {l:List Tok} (h:JK w B (.slice (some ⟨g,0,none⟩) n cap) l) {k:Nat} {t:Tok} (hk:l[k]?=some t) {j:Nat} (hj:j<4):
  w.cell? ⟨g,k*4+j,none⟩=t.cells[j]?:=by
 have hn:n=l.length:=by
  rcases h.form with⟨e,_⟩|⟨_,_,e,_⟩
  ·cases e
  ·cases e;rfl
 subst hn;have hkl:k<l.length:=(zN.1 hk).1;rw[World.ownsRow.cellAt h (k*4+j) (by omega),TQ hk j hj]
theorem JK.snoc {w:World} {B:Nat} {v:Value} {l:List Tok} {t:Tok} (h:JK w B v (l++ [t])):∃ g cap,v=.slice (some ⟨g,0,none⟩) (l.length+1) cap/\w.cell? ⟨g,l.length*4+1,none⟩=some (.string t.s):=by
 rcases h.form with⟨_,e⟩|⟨g,cap,rfl,_⟩
 ·simp at e
 ·refine⟨g,cap,by rw[zX];rfl, ?_⟩;exact h.cell (k:=l.length) (t:=t) (by simp) (j:=1) (by omega)
theorem iT {w:World} {ops:Array Oper} {rest:List Oper} {o:Oper} {a:Act} {Q:Exit->Act->World->Prop} (hgd:o.guard=none) (s x:Operand)
  (ho:o.op=.call {callee:=.builtin .append,args:=#[s,x],argTypes:=#[83,83]}) (B:Nat) (v:Value) (l:List Tok) (hs:a.eval s=v) (hown:JK w B v l)
  (ad:Addr) (t:Tok) (hx:a.eval x=.slice (some ad) 1 1) (hc:∀ j u,t.cells[j]?=some u->w.cell? (ad.add j)=some u) (hlen:l.length+1<=1000000) (hB:B<=w.heap.size)
  (h:∀ v' w',JK w' B v' (l++ [t])->w.grownBy w' v.ownBlock->wpList Tryz.prog ops Q rest (a.put o.dst v') w'):
  wpList Tryz.prog ops Q (o::rest) a w:=by
 obtain⟨i0,hi,hz0,hz1,hz2⟩:=info_parts Tryz.infoTok;refine wpList_append_own _ hgd s x 83 ho B 140 i0 _ 4 40 Tryz.underlying83 hi hz0 hz1 hz2 rfl (by decide) v l.length (tcs l) hs hown ad 1 1 t.cells hx rfl hc ?_ (by unfold maxLen;omega) (by omega) hB fun v' w' h1 h2 _=>h v' w' ?_ h2
 ·intro u hu;have:u=.int .i64 t.k∨u=.string t.s∨u=.int .i64 t.n∨u=.int .i64 t.a:=by simpa[Tok.cells] using hu
  rcases this with rfl|rfl|rfl|rfl<;>rfl
 ·unfold JK;rw[XV,zX];exact h1
inductive Stp (s:ByteArray):Nat->List Tok->Nat->List Tok->Prop
 |blank (i:Nat) (l:List Tok) (h:i<s.size) (h1:(s[i]'h).toNat=32):Stp s i l (i+1) l
 |name (i j:Nat) (l:List Tok) (h:i<s.size) (hij:i<j) (hj:j<=s.size) (hn:j<=i+16) (h1:isLet ((s[i]'h).toNat:Int)=true)
   (h2:∀ k (hk:k<s.size),i<=k->k<j->qZ ((s[k]'hk).toNat:Int)=true) (h3:∀ hk:j<s.size,qZ ((s[j]'hk).toNat:Int)=false) (hz:(s.extract i j).size=j-i):Stp s i l j (l++ [⟨1,s.extract i j,0,i⟩])
 |num (i:Nat) (l:List Tok) (d:Int) (h:Dg s i d) (hl:i+1<s.size):Stp s i l (i+1) (l++ [⟨2,s.extract i (i+1),d,i⟩])
 |sign (i:Nat) (l:List Tok) (h:i<s.size) (h0:32< (s[i]'h).toNat) (h1:isLet ((s[i]'h).toNat:Int)=false) (h2:nI ((s[i]'h).toNat:Int)=false)
   (h3:0<=Lib.indexByte [40,41,91,93,44] (s[i]'h)) (hz:(s.extract i (i+1)).size=1):Stp s i l (i+1) (l++ [⟨3,s.extract i (i+1),0,i⟩])
end
end Go.Proofs.YtoilbeadokallaaGreatDoor
