/- The walk of expr at a call. Conditions: the parser lies in memory; the tokens are known; what expr does at each argument. -/
import Derived.Test.YtoilbeadokallaaGreatDoorK23
import Derived.Deep.RegionLaw
import Derived.Deep.LoopGhost
import Derived.Maps.AppendAt
import Derived.IntWalk
namespace Go.Proofs.YtoilbeadokallaaGreatDoor
open Go.RowKit Cw Cw.Gj
theorem Tryz.infoExpr:(Tryz.prog.info? 50).map (fun i=>(i.zero,i.size,i.bytes))=some (some (.agg #[.int .i64 0,.string ⟨#[]⟩,.int .i64 0,.slice none 0 0,.slice none 0 0]),5,80):=by kernel_rfl
theorem step_append_expr {w:World} {ops:Array Oper} {o:Oper} {a:Act} {K:Act→World→Prop} {Q:Exit→Act→World→Prop} {E:Prop} (hgd:o.guard=none) (s x:Operand)
  (ho:o.op=.call { callee:=.builtin .append,args:=#[s,x],argTypes:=#[48,48] }) (B:Nat) (v:Value) (n:Nat) (xs:List Value) (hs:a.eval s=v) (hown:w.ownsRow B 50 5 v n xs)
  (ad:Addr) (news:List Value) (hx:a.eval x=.slice (some ad) 1 1) (hl:news.length=5) (hc:∀ j u,news[j]?=some u→w.cell? (ad.add j)=some u) (h1:∀ u ∈ news,u.oneCell'=true) (hlen:n + 1≤1000000) (hB:B≤w.heap.size)
  (h:∀ v' w',w'.ownsRow B 50 5 v' (n + 1) (xs ++ news)→w.grownBy w' v.ownBlock→(v'.ownBlock=v.ownBlock ∨ v'.ownBlock=some w.heap.size)→K (a.put o.dst v') w') :
  if Region.wanted o (yielded ops a.tmps)=true then Oper.wp Tryz.prog o a w K Q else E:=by
 rw [if_pos (by simp [Region.wanted,hgd])]
 obtain ⟨i0,hi,hz0,hz1,hz2⟩:=info_parts Tryz.infoExpr
 obtain ⟨v',w',hr,h2,h3,_,h5⟩:=run_append_own_at (P:=Tryz.prog) w B 48 o.type 50 i0 _ 5 80 Tryz.underlying48 hi hz0 hz1 hz2 rfl (by decide) v n xs hown ad 1 1 news hl hc h1 (by unfold maxLen;omega) (by omega) hB
 unfold Oper.wp execOp
 simp only [ho,resolve,invoke,builtin,Sem.run_bind,Sem.run_pure,Result.andThen_ok,List.map_toArray,List.map_cons,List.map_nil,hs,hx,hr]
 exact h v' w' h2 h3 h5
theorem ownsRow_form {w:World} {B T k n:Nat} {v:Value} {xs:List Value} (h:w.ownsRow B T k v n xs):∃ a cap,v=.slice a n cap:=by
 rcases h.2 with ⟨rfl,rfl⟩ | ⟨g,cap,cur,rfl,_⟩
 ·exact ⟨none,0,rfl⟩
 ·exact ⟨_,cap,rfl⟩
theorem ownsRow_get {w:World} {B T k n:Nat} {v:Value} {xs:List Value} (h:w.ownsRow B T k v n xs) (hn:1≤n):∃ g cap,v=.slice (some ⟨g,0,none⟩) n cap∧B≤g∧Bk w g xs:=by
 rcases h.2 with ⟨_,h0⟩ | ⟨g,cap,cur,rfl,hb,hg,_⟩
 ·omega
 ·refine ⟨g,cap,rfl,hb,(Array.getElem?_eq_some_iff.1 hg).1,fun i u hu=>?_⟩
  have hi:i < xs.length:=(List.getElem?_eq_some_iff.1 hu).1
  rw [World.ownsRow.cellAt h i (by have:=h.1;omega)];exact hu
def FsG (Gd:Nat→List Value→World→Prop) (B:Nat) (N:Nat→Prop) (fs:List (List Value)) (w:World):Prop :=
 ∀ i E,fs[i]?=some E→E.length=5∧∃ S:Nat→Prop,(∀ b,S b→B≤b∧b < w.heap.size∧¬ N b)∧∀ w':World,w.heap.size≤w'.heap.size→(∀ b,S b→w'.heap[b]?=w.heap[b]?)→Gd i E w'
def CallG (Gd:Nat→List Value→World→Prop) (s:ByteArray) (K:Nat) (E:List Value) (w:World):Prop :=
 ∃ (b cap:Nat) (fs:List (List Value)),E=CallC s (.slice (some ⟨b,0,none⟩) K cap)∧fs.length=K∧Bk w b fs.flatten∧∀ i E,fs[i]?=some E→E.length=5∧Gd i E w
theorem FsG.go {Gd:Nat→List Value→World→Prop} {B:Nat} {N N':Nat→Prop} {fs:List (List Value)} {w w':World} (h:FsG Gd B N fs w) (hs:w.heap.size≤w'.heap.size) (hb:∀ b,B≤b→b < w.heap.size→¬ N b→w'.heap[b]?=w.heap[b]?) (hN:∀ b,b < w.heap.size→N' b→N b):FsG Gd B N' fs w':=fun i E hE=>by
 obtain ⟨h1,S,h2,h3⟩:=h i E hE
 refine ⟨h1,S,fun b hS=>?_,fun w2 k1 k2=>h3 w2 (Nat.le_trans hs k1) fun b hS=>?_⟩
 ·obtain ⟨q1,q2,q3⟩:=h2 b hS
  exact ⟨q1,Nat.lt_of_lt_of_le q2 hs,fun q=>q3 (hN b q2 q)⟩
 ·obtain ⟨q1,q2,q3⟩:=h2 b hS
  rw [k2 b hS,hb b q1 q2 q3]
theorem FsG.add {Gd:Nat→List Value→World→Prop} {B:Nat} {N:Nat→Prop} {fs:List (List Value)} {w:World} {E:List Value} (h:FsG Gd B N fs w) (hE:E.length=5) (hG:∃ S:Nat→Prop,(∀ b,S b→B≤b∧b < w.heap.size∧¬ N b)∧∀ w':World,w.heap.size≤w'.heap.size→(∀ b,S b→w'.heap[b]?=w.heap[b]?)→Gd fs.length E w'):FsG Gd B N (fs ++ [E]) w:=fun i E' hi=>by
 by_cases e:i < fs.length
 ·rw [List.getElem?_append_left e] at hi;exact h i E' hi
 ·rw [List.getElem?_append_right (by omega)] at hi
  have h0:i - fs.length=0:=by
   rcases Nat.eq_zero_or_pos (i - fs.length) with q | q
   ·exact q
   ·rw [List.getElem?_eq_none (by simp;omega)] at hi;cases hi
  rw [h0] at hi
  have h1:E'=E:=by simpa using hi.symm
  have h2:i=fs.length:=by omega
  rw [h1,h2]
  exact ⟨hE,hG⟩
theorem Bk.gbo {a w:World} {b:Nat} {row:Option Nat} {cs:List Value} (h:Bk a b cs) (hg:a.grownBy w row) (hb:row ≠ some b):Bk w b cs :=
 ⟨Nat.lt_of_lt_of_le h.1 hg.size,fun i u hu=>by rw [World.cell?_of_block (w:=a) (a:=⟨b,i,none⟩) (hg.block b h.1 (fun e=>hb e.symm))];exact h.2 i u hu⟩
theorem Fz.gbo {a w:World} {b:Nat} {row:Option Nat} (h:Fz a b) (hg:a.grownBy w row) (hb:row ≠ some b):Fz w b :=
 ⟨Nat.lt_of_lt_of_le h.1 hg.size,fun i=>by
  have:=h.2 i
  unfold World.frozen? at this ⊢
  rw [hg.block b h.1 (fun e=>hb e.symm)];exact this⟩
theorem ownsRow_gb {a w:World} {B T k n q:Nat} {v:Value} {xs:List Value} (h:a.ownsRow B T k v n xs) (hg:a.grownBy w (some q)) (hq:q < B):w.ownsRow B T k v n xs:=by
 refine World.ownsRow.kept h hg ?_
 cases e:v.ownBlock with
 | none=>exact .inl rfl
 | some y =>
  refine .inr fun e2=>?_
  have:=(World.ownsRow.lt h y e).1
  have:y=q:=by simpa using e2
  omega
theorem PsS.gbo {w w':World} {p g c:Nat} {L:List Tok} {i m:Nat} {row:Option Nat} (h:PsS w p g c L i m) (hg:w.grownBy w' row) (h1:row ≠ some p) (h2:row ≠ some g):PsS w' p g c L i m:=by
 have c1:∀ o,w'.cell? ⟨p,o,none⟩=w.cell? ⟨p,o,none⟩:=fun o=>World.cell?_of_block (w:=w) (a:=⟨p,o,none⟩) (hg.block p h.lt (fun e=>h1 e.symm))
 have c2:∀ o,w'.cell? ⟨g,o,none⟩=w.cell? ⟨g,o,none⟩:=fun o=>World.cell?_of_block (w:=w) (a:=⟨g,o,none⟩) (hg.block g h.glt (fun e=>h2 e.symm))
 have c3:∀ o,w'.frozen? ⟨p,o,none⟩=w.frozen? ⟨p,o,none⟩:=fun o=>by unfold World.frozen?;rw [hg.block p h.lt (fun e=>h1 e.symm)]
 exact ⟨Nat.lt_of_lt_of_le h.lt hg.size,Nat.lt_of_lt_of_le h.glt hg.size,h.ne,(c1 0).trans h.h0,(c1 1).trans h.h1,(c1 3).trans h.h3,(c3 1).trans h.f1,(c3 3).trans h.f3,fun k t hk j hj=>(c2 _).trans (h.tk k t hk j hj)⟩
structure ArR (Gd:Nat→List Value→World→Prop) (w:World) (p g c:Nat) (L:List Tok) (st nd:Nat→Nat) (s:ByteArray) (R X K gk:Nat) (wr:World) (j:Nat) (v:Value) (fs:List (List Value)):Prop where
 k:gk + j=K + 1
 jk:j≤K
 n:fs.length=j
 x:Bk wr X (CallC s v)
 f:Fz wr X
 o:wr.ownsRow w.heap.size 50 5 v j fs.flatten
 fg:FsG Gd w.heap.size (fun b=>b=X ∨ b=R ∨ v.ownBlock=some b) fs wr
 ps:PsS wr p g c L (st j) (nd j)
 b:w.grownBy wr (some p)
 xo:v.ownBlock ≠ some X
 rb:Bk wr R [.int .i64 0,.string ⟨#[]⟩,.int .i64 0,.slice none 0 0,.slice none 0 0]
 rf:Fz wr R
 ro:v.ownBlock ≠ some R
theorem kept_gb {a b c:World} {row:Option Nat} (k:Kept a b) (h:b.grownBy c row):a.grownBy c row :=
 ⟨h.os.trans k.os,h.tape.trans k.tape,h.output.trans k.output,Nat.le_trans k.size h.size,fun i hi hn=>(h.block i (k.lt hi) hn).trans (k.block i hi)⟩
theorem kept_new (w W:World) (c:Array Value) (T:TypeId) (hW:W=w.alloc (.cells c T) ∨ W=(w.alloc (.cells c T)).drew):Kept w W:=by
 rcases hW with rfl | rfl
 ·exact kept_alloc _ _
 ·exact (kept_alloc _ _).tr (kept_drew _)
theorem expr_new (w:World) (u0 u1 u2 u3 u4:Value) (W:World) (hW:W=w.alloc (.cells #[u0,u1,u2,u3,u4] 50) ∨ W=(w.alloc (.cells #[u0,u1,u2,u3,u4] 50)).drew):∀ j u,[u0,u1,u2,u3,u4][j]?=some u→W.cell? (Addr.add ⟨w.heap.size,0,none⟩ j)=some u:=fun j u hu=>by
 rw [Addr.add_lit,Nat.zero_add]
 rcases hW with rfl | rfl
 ·exact (bk_new w [u0,u1,u2,u3,u4] _ _ rfl).2 j u hu
 ·exact ((bk_new w [u0,u1,u2,u3,u4] _ _ rfl).kept (kept_drew _)).2 j u hu
theorem own_ge {w:World} {B T k n y:Nat} {v:Value} {xs:List Value} (h:w.ownsRow B T k v n xs) (e:v.ownBlock=some y):B≤y∧y < w.heap.size:=World.ownsRow.lt h y e
theorem ArR.next {Gd:Nat→List Value→World→Prop} {w wr w3 w4 w6:World} {p g c:Nat} {L:List Tok} {st nd:Nat→Nat} {s:ByteArray} {R X K gk j:Nat} {v v6:Value} {fs:List (List Value)} {E:List Value} (ha:ArR Gd w p g c L st nd s R X K gk wr j v fs) (hj:j < K)
  (hp:p < w.heap.size) (hg:g < w.heap.size) (hX:w.heap.size≤X) (hR:w.heap.size≤R) (hRX:R ≠ X) (h3:wr.grownBy w3 (some p)) (h4:w3.grownBy w4 (some p)) (hE:E.length=5) (hG:Frs (Gd j) w3.heap.size E w4) (hp4:PsS w4 p g c L (st (j + 1)) (nd (j + 1)))
  (h6:w4.grownBy w6 v.ownBlock) (o6:w6.ownsRow w.heap.size 50 5 v6 (j + 1) (fs.flatten ++ E)) (hl:v6.ownBlock=v.ownBlock ∨ ∃ y,v6.ownBlock=some y∧w4.heap.size≤y) :
  ArR Gd w p g c L st nd s R X K (gk - 1) (w6.setCell ⟨X,4,none⟩ v6) (j + 1) v6 (fs ++ [E]):=by
 have hXr:=ha.x.1
 have hXp:X ≠ p:=by omega
 have hXg:X ≠ g:=by omega
 have h34:=grownBy_trans h3 h4
 have hX4:X < w4.heap.size:=Nat.lt_of_lt_of_le hXr h34.size
 have hvb:∀ y,v.ownBlock=some y→w.heap.size≤y∧y < wr.heap.size:=fun y e=>own_ge ha.o e
 have hxo6:v6.ownBlock ≠ some X:=by
  rcases hl with e | ⟨y,e,hy⟩
  ·rw [e];exact ha.xo
  ·rw [e];intro q
   have:y=X:=by simpa using q
   omega
 have hro6:v6.ownBlock ≠ some R:=by
  have hRr:=ha.rb.1
  have:=Nat.lt_of_lt_of_le hRr h34.size
  rcases hl with e | ⟨y,e,hy⟩
  ·rw [e];exact ha.ro
  ·rw [e];intro q
   have:y=R:=by simpa using q
   omega
 have hsz:(w6.setCell ⟨X,4,none⟩ v6).heap.size=w6.heap.size:=by simp [World.setCell]
 have hs46:=h6.size
 have hsr3:=h3.size
 have hs34:=h4.size
 have hsw:=ha.b.size
 have hset:∀ b,b ≠ X→(w6.setCell ⟨X,4,none⟩ v6).heap[b]?=w6.heap[b]?:=fun b hb=>Below.heap_setCell w6 ⟨X,4,none⟩ v6 b hb
 have hN6:∀ b,b < wr.heap.size→(b=X ∨ b=R ∨ v6.ownBlock=some b)→(b=X ∨ b=R ∨ v.ownBlock=some b):=fun b hb q=>by
  rcases q with q | q | q
  ·exact .inl q
  ·exact .inr (.inl q)
  ·rcases hl with e | ⟨y,e,hy⟩
   ·rw [e] at q;exact .inr (.inr q)
   ·rw [e] at q
    have:y=b:=by simpa using q
    omega
 refine ⟨by have:=ha.k;omega,hj,by rw [List.length_append,ha.n];rfl, ?_, ?_, ?_, ?_, ?_, ?_,hxo6, ?_, ?_,hro6⟩
 ·exact ((ha.x.gb h34 hXp).gbo h6 ha.xo).set 4 v6
 ·exact ((ha.f.gb h34 hXp).gbo h6 ha.xo).oth _ _
 ·have hfl:(fs ++ [E]).flatten=fs.flatten ++ E:=by simp
  rw [hfl]
  refine World.ownsRow.kept o6 (grownBy_setCell w6 X 4 v6) ?_
  cases e:v6.ownBlock with
  | none=>exact .inl rfl
  | some y=>exact .inr (by rw [← e];exact hxo6)
 ·refine (ha.fg.go (by omega) (fun b hb hlt hn=>?_) hN6).add hE ?_
  ·have hbp:some b ≠ some p:=fun e=>by
    have:b=p:=by simpa using e
    omega
   rw [hset b (fun e=>hn (.inl e)),h6.block b (by omega) (fun e=>hn (.inr (.inr e.symm))),h4.block b (by omega) hbp,h3.block b hlt hbp]
  ·obtain ⟨S,k1,k2⟩:=hG
   refine ⟨S,fun b hS=>?_,fun w2 q1 q2=>?_⟩
   ·obtain ⟨r1,r2⟩:=k1 b hS
    refine ⟨by omega,by omega,fun q=>?_⟩
    have hRr:=ha.rb.1
    rcases q with q | q | q
    ·omega
    ·omega
    ·rcases hl with e | ⟨y,e,hy⟩
     ·rw [e] at q;have:=(hvb b q).2;omega
     ·rw [e] at q
      have:y=b:=by simpa using q
      omega
   ·rw [ha.n]
    refine k2 w2 (by omega) fun b hS=>?_
    obtain ⟨r1,r2⟩:=k1 b hS
    rw [q2 b hS,hset b (by omega),h6.block b (by omega) (fun e=>by have:=(hvb b e.symm).2;omega)]
 ·exact (hp4.gbo h6 (fun e=>by have:=(hvb p e).1;omega) (fun e=>by have:=(hvb g e).1;omega)).oth hXp hXg v6
 ·refine gb_new ?_ hX v6
  have h04:=grownBy_trans ha.b h34
  exact ⟨h6.os.trans h04.os,h6.tape.trans h04.tape,h6.output.trans h04.output,Nat.le_trans h04.size h6.size,fun i hi hn=>(h6.block i (by omega) (fun e=>by have:=(hvb i e.symm).1;omega)).trans (h04.block i hi hn)⟩
 ·exact ((ha.rb.gb h34 (by omega)).gbo h6 ha.ro).oth hRX.symm _
 ·exact ((ha.rf.gb h34 (by omega)).gbo h6 ha.ro).oth _ _
theorem Bk.of_blk {w w':World} {b:Nat} {cs:List Value} (h:Bk w b cs) (hs:w.heap.size≤w'.heap.size) (e:w'.heap[b]?=w.heap[b]?):Bk w' b cs :=
 ⟨Nat.lt_of_lt_of_le h.1 hs,fun i u hu=>by rw [World.cell?_of_block (w:=w) (a:=⟨b,i,none⟩) e];exact h.2 i u hu⟩
theorem ArR.fin {Gd:Nat→List Value→World→Prop} {w wr wN:World} {p g c:Nat} {L:List Tok} {st nd:Nat→Nat} {s:ByteArray} {R X K gk:Nat} {v:Value} {fs:List (List Value)} (ha:ArR Gd w p g c L st nd s R X K gk wr K v fs) (hK:1≤K)
  (hsz:wr.heap.size≤wN.heap.size) (hb:∀ b,w.heap.size≤b→b < wr.heap.size→b ≠ R→wN.heap[b]?=wr.heap[b]?):Frs (CallG Gd s K) w.heap.size (CallC s v) wN:=by
 obtain ⟨b,cap,rfl,hBb,hbk⟩:=ownsRow_get ha.o hK
 refine ⟨fun q=>w.heap.size≤q∧q < wN.heap.size,fun q h=>h,fun w2 h1 h2=>?_⟩
 have hbR:b ≠ R:=fun e=>ha.ro (by rw [← e];rfl)
 have same:∀ q,w.heap.size≤q→q < wr.heap.size→q ≠ R→w2.heap[q]?=wr.heap[q]?:=fun q r1 r2 r3=>by rw [h2 q ⟨r1,by omega⟩,hb q r1 r2 r3]
 refine ⟨b,cap,fs,rfl,ha.n,hbk.of_blk (by omega) (same b hBb hbk.1 hbR),fun i E hE=>?_⟩
 obtain ⟨k1,S,k2,k3⟩:=ha.fg i E hE
 refine ⟨k1,k3 w2 (by omega) fun q hq=>?_⟩
 obtain ⟨r1,r2,r3⟩:=k2 q hq
 exact same q r1 r2 (fun e=>r3 (.inr (.inl e)))
set_option maxRecDepth 100000 in
set_option maxHeartbeats 8000000 in
theorem expr_call (Gd:Nat→List Value→World→Prop) (w:World) (p g c:Nat) (L:List Tok) (i m d:Nat) (n:Int) (s sl sr sc:ByteArray) (a n1 a1 n2 a2:Int) (K:Nat) (st nd:Nat→Nat)
  (hsl:sl=⟨#[40]⟩) (hsr:sr=⟨#[41]⟩) (hsc:sc=⟨#[44]⟩)
  (h:PsS w p g c L i m) (ht:L[i]?=some ⟨1,s,n,a⟩) (ht1:L[i + 1]?=some ⟨3,sl,n1,a1⟩) (hL:L.length≤100) (hd:d < 32) (hm:m < 1000) (hK:1≤K) (hK2:K≤100) (hst:st 0=i + 2) (hnd:nd 0=m + 1)
  (hend:L[st K]?=some ⟨3,sr,n2,a2⟩) (hfst:∃ t,L[st 0]?=some t∧t.k ≠ 3) (hcom:∀ j,1≤j→j < K→∃ n3 a3,L[st j]?=some ⟨3,sc,n3,a3⟩)
  (HE:∀ j,j < K→∀ w',PsS w' p g c L (if j=0 then st 0 else st j + 1) (nd j)→Calls Tryz.prog 40 #[.pointer (some ⟨p,0,none⟩),.int .i64 ((d:Int) + 1)] w' (ExOut (Gd j) w' p g c L (st (j + 1)) (nd (j + 1)))) :
  Calls Tryz.prog 40 #[.pointer (some ⟨p,0,none⟩),.int .i64 d] w (ExOut (CallG Gd s K) w p g c L (st K + 1) (nd K)):=by
 obtain ⟨W1,hW1⟩:∃ x,x=w.alloc (.cells #[.int .i64 0,.string ⟨#[]⟩,.int .i64 0,.slice none 0 0,.slice none 0 0] 50):=⟨_,rfl⟩
 have hk1:Kept w W1:=by rw [hW1];exact kept_alloc _ _
 have hp1:=h.kept hk1
 have hz1:W1.heap.size=w.heap.size + 1:=by rw [hW1];simp
 have hb1:Bk W1 w.heap.size [.int .i64 0,.string ⟨#[]⟩,.int .i64 0,.slice none 0 0,.slice none 0 0]:=by rw [hW1];exact bk_new w _ _ _ rfl
 have hf1:Fz W1 w.heap.size:=by rw [hW1];exact fz_new w _ _ _ rfl
 have hlt1:w.heap.size < W1.heap.size:=by omega
 have hne1:¬ w.heap.size=W1.heap.size:=by omega
 have hlp:p < W1.heap.size:=hp1.lt
 have hpw:¬ p=w.heap.size:=by have:=h.lt;omega
 have hwp:¬ w.heap.size=p:=by have:=h.lt;omega
 have hwg:¬ w.heap.size=g:=by have:=h.glt;omega
 have hil:=tok_lt ht
 have HT:=hid ht
 have HT1:=hid ht1
 have q0:=hp1.h0
 have q1:=hp1.h1
 have q3:=hp1.h3
 have g1:=hp1.f1
 have g3:=hp1.f3
 obtain ⟨t0,t1,t2,t3⟩:=hp1.tok4 ht
 have hne:¬ g=p:=h.ne
 have hd':decide ((32:Int) < (d:Int))=false:=by simp;omega
 have hm':((m:Int) == 1024)=false:=by simp;omega
 have HB:=hid hb1
 have HF:=hid hf1
 have HZ:=hid hz1
 have HX:=hid HE
 have HST:=hid hst
 have HND:=hid hnd
 have HEND:=hid hend
 have HFST:=hid hfst
 have HCOM:=hid hcom
 have HSL:=hid hsl
 have HSR:=hid hsr
 have HSC:=hid hsc
 clear ht ht1 hb1 hf1 hz1 HE hst hnd hend hfst hcom hsl hsr hsc
 go_enter Tryz.func40,Tryz.ntmps40
 go_wp2_with (fail)
 rw [← hW1]
 clear hW1
 go_quiet ((go_at_call 42;exact Calls.quiet_of (ps_at (hp1.drewN _) HT.out)))
 have hpar:∀ W,PsS W p g c L (i + 1) (m + 1)→Calls Tryz.prog 81 #[.pointer (some ⟨p,0,none⟩),.string ⟨#[40]⟩] W fun e w'=>e=.returned (.bool true)∧∃ m,w'=(W.drewN m).setCell ⟨p,1,none⟩ (.int .i64 ((i + 1 + 1:Nat):Int)):=fun W hW=>by
  have:=ps_yes hW HT1.out rfl hL
  rw [HSL.out] at this
  exact this
 have HPAR:=hid hpar
 clear hpar
 go_wp2_with (first
  | (go_at_call 81;refine (ps_no (hp1.drewN _) HT.out (by simp) _).mono ?_;rintro e w' ⟨rfl,x,rfl⟩)
  | (go_at_call 82;refine (ps_kind (by first | exact hp1.drewN _ | exact (hp1.drewN _).drewN _) HT.out).mono ?_;rintro e w' ⟨rfl,x2,rfl⟩)
  | (go_at_call 81;refine (HPAR.out _ ((((hp1.drewN _).set3 (m + 1) (by omega)).set1 (i + 1) (by omega)).kept (kept_alloc _ _))).mono ?_;rintro e w' ⟨rfl,x,rfl⟩))
 obtain ⟨X,hX⟩:∃ X,X=W1.heap.size + 1:=⟨_,rfl⟩
 rw [← hX]
 have HXX:=hid hX
 have hXw:w.heap.size≤X:=by have:=HZ.out;omega
 have hRX:w.heap.size ≠ X:=by have:=HZ.out;have:=HXX.out;omega
 have hRX':¬ X=w.heap.size:=fun e=>hRX e.symm
 have hXp:¬ X=p:=by have:=h.lt;omega
 have hpX:¬ p=X:=fun e=>hXp e.symm
 have hXg:¬ X=g:=by have:=h.glt;omega
 clear hX
 go_loopg [81] (K + 1) (fun gk _ wr=>∃ j v fs,ArR Gd w p g c L st nd s w.heap.size X K gk wr j v fs)
 case atStart =>
  refine ⟨0,.slice none 0 0,[],by omega,Nat.zero_le _,rfl,bk_new _ (CallC s (.slice none 0 0)) _ _ (by rw [HXX.out];simp),fz_new _ _ _ _ (by rw [HXX.out];simp),⟨rfl,.inl ⟨rfl,rfl⟩⟩,fun i E h=>(by simp at h), ?_, ?_,fun e=>(by cases e), ?_, ?_,fun e=>(by cases e)⟩
  ·rw [HND.out]
   exact (((((((hp1.drewN _).set3 (m + 1) (by omega)).set1 (i + 1) (by omega)).kept (kept_alloc _ _)).drewN _).set1 (st 0) (by rw [HST.out];omega)).kept (kept_alloc _ _))
  ·exact gb_kept (gb_set (gb_drewN (gb_kept (gb_set (gb_set (gb_drewN (gb_of_kept hk1) _) _ _) _ _) (kept_alloc _ _)) _) _ _) (kept_alloc _ _)
  ·exact (Bk.kept ((((Bk.kept (((HB.out.drewN _).oth hpw _).oth hpw _) (kept_alloc _ _)).drewN _).oth hpw _)) (kept_alloc _ _))
  ·exact (Fz.kept ((((Fz.kept (((HF.out.drewN _).oth _ _).oth _ _) (kept_alloc _ _)).drewN _).oth _ _)) (kept_alloc _ _))
 case round =>
  obtain ⟨j,v,fs,ha⟩:=hrel
  obtain ⟨va,vc,rfl⟩:=ownsRow_form ha.o
  have hjk:=ha.jk
  have hBl:w.heap.size≤wr.heap.size:=ha.b.size
  have x4:=ha.x.2 4 _ rfl
  by_cases hj:j < K
  ·by_cases j0:j=0
   ·subst j0
    obtain ⟨tf,htf,hkf⟩:=HFST.out
    have HNO:=hid (ps_no ha.ps htf hkf ⟨#[41]⟩)
    have HXJ:=HX.out 0 hj
    rw [if_pos rfl] at HXJ
    have HXJ':=hid HXJ
    clear htf hkf HXJ
    go_wp2_with (go_at_call 81;refine HNO.out.mono ?_;rintro e w' ⟨rfl,x,rfl⟩)
    obtain ⟨w3,hw3⟩:∃ y,y=wr.drewN x:=⟨_,rfl⟩
    have hk3:Kept wr w3:=by rw [hw3];exact kept_drewN _ _
    rw [← hw3]
    clear hw3 x4
    have hq:=ha.ps.kept hk3
    have hx3:=ha.x.kept hk3
    have hf3:=ha.f.kept hk3
    have ho3:=ownsRow_gb ha.o (gb_of_kept (g:=p) hk3) h.lt
    have hpB:=h.lt
    have x4:=hx3.2 4 _ rfl
    have hs3:w.heap.size≤w3.heap.size:=Nat.le_trans hBl hk3.size
    have HCALL:=HXJ'
    have hwr:IntKind.i64.wrap ((d:Int) + 1)=(d:Int) + 1:=IntWalk.i64_in _ (by omega)
    go_region_law (first
     | (go_simp;go_at_call 40;(with_reducible refine (HCALL.out _ (by first | exact hq | exact hq.drew | exact hq.drewN _)).mono ?_);rintro e w4 ⟨u0,u1,u2,u3,u4,rfl,h1c,hG4,hp4,hg4⟩;have hg4':w3.grownBy w4 (some p):=(by first | exact hg4 | exact grownBy_trans (gb_of_kept (kept_drew _)) hg4 | exact grownBy_trans (gb_of_kept (kept_drewN _ _)) hg4);have hx4:=hx3.gb hg4' hXp;have hf4:=hf3.gb hg4' hXp;have ho4:=ownsRow_gb ho3 hg4' hpB;have y4:=hx4.2 4 _ rfl;have hs4:=Nat.le_trans hs3 hg4'.size;have hX4:=hx4.1;have hX4':¬ X=w4.heap.size:=Nat.ne_of_lt hX4)
     | (refine step_append_expr rfl (.tmp 91) (.tmp 96) rfl w.heap.size _ 0 fs.flatten rfl ((by first | exact ho4.alloc _ | exact (ho4.alloc _).drew | exact (ho4.drew).alloc _)) ⟨w4.heap.size,0,none⟩ [u0,u1,u2,u3,u4] rfl rfl (expr_new w4 u0 u1 u2 u3 u4 _ (by first | exact Or.inl rfl | exact Or.inr rfl)) h1c (by omega) (by simp;omega) ?_;intro v6 w6 o6 hg6 hl6;obtain ⟨a6,c6,rfl⟩:=ownsRow_form o6;have hg46:=kept_gb (kept_new w4 _ _ _ (by first | exact Or.inl rfl | exact Or.inr rfl)) hg6;have hl46:=hl6.imp id (fun e=>(⟨_,e,by simp⟩:∃ y,Value.ownBlock (.slice a6 1 c6)=some y∧w4.heap.size≤y));have hx6:=hx4.gbo hg46 ha.xo;have hf6:=hf4.gbo hg46 ha.xo;have y6:=hx6.2 4 _ rfl;have z6:=hf6.2 4))
    all_goals
     have hnx:=ha.next (hE:=rfl) hj h.lt h.glt hXw (Nat.le_refl _) hRX (gb_of_kept hk3) hg4' (by first | exact hG4 | simpa using hG4) hp4 hg46 o6 hl46
     go_wp2_with (fail)
     go_roundg (gk - 1)
     case measure=>have:=ha.k;omega
     case rel=>exact ⟨_,_,_,hnx⟩
   ·obtain ⟨n3,a3,hcm⟩:=HCOM.out j (by omega) hj
    have HNO:Hid (Calls Tryz.prog 81 #[.pointer (some ⟨p,0,none⟩),.string ⟨#[41]⟩] wr fun e w'=>e=.returned (.bool false)∧∃ m,w'=wr.drewN m):=hid (ps_other ha.ps hcm rfl ⟨#[41]⟩ (by rw [HSC.out,ByteArray.toList_eq,ByteArray.toList_eq];rfl))
    have HMU:Hid (∀ W,PsS W p g c L (st j) (nd j)→Calls Tryz.prog 84 #[.pointer (some ⟨p,0,none⟩),.string ⟨#[44]⟩] W fun e w'=>e=.returned (.tuple #[])∧∃ m,w'=(W.drewN m).setCell ⟨p,1,none⟩ (.int .i64 ((st j + 1:Nat):Int))):=hid (fun W hW=>by
     have:=ps_must hW hcm rfl hL
     rw [HSC.out] at this
     exact this)
    have HXJ:=HX.out j hj
    rw [if_neg j0] at HXJ
    have HXJ':=hid HXJ
    have tj:(0:Int) < (j:Int):=by omega
    clear hcm HXJ
    go_wp2_with (first
     | (go_at_call 81;refine HNO.out.mono ?_;rintro e w' ⟨rfl,x,rfl⟩)
     | (go_at_call 84;refine (HMU.out _ (by first | exact ha.ps.drewN _ | exact ha.ps)).mono ?_;rintro e w' ⟨rfl,x2,rfl⟩))
    obtain ⟨w3,hw3⟩:∃ y,y=(wr.drewN (x + x2)).setCell ⟨p,1,none⟩ (.int .i64 ((st j:Int) + 1)):=⟨_,rfl⟩
    have hg3:wr.grownBy w3 (some p):=by rw [hw3];exact gb_set (gb_of_kept (kept_drewN _ _)) _ _
    have hq:PsS w3 p g c L (st j + 1) (nd j):=by rw [hw3];exact (ha.ps.drewN _).set1 (st j + 1) (by omega)
    rw [← hw3]
    clear hw3 x4
    have hx3:=ha.x.gb hg3 hXp
    have hf3:=ha.f.gb hg3 hXp
    have ho3:=ownsRow_gb ha.o hg3 h.lt
    have hpB:=h.lt
    have x4:=hx3.2 4 _ rfl
    have hs3:w.heap.size≤w3.heap.size:=Nat.le_trans hBl hg3.size
    have HCALL:=HXJ'
    have hwr:IntKind.i64.wrap ((d:Int) + 1)=(d:Int) + 1:=IntWalk.i64_in _ (by omega)
    go_region_law (first
     | (go_simp;go_at_call 40;(with_reducible refine (HCALL.out _ (by first | exact hq | exact hq.drew | exact hq.drewN _)).mono ?_);rintro e w4 ⟨u0,u1,u2,u3,u4,rfl,h1c,hG4,hp4,hg4⟩;have hg4':w3.grownBy w4 (some p):=(by first | exact hg4 | exact grownBy_trans (gb_of_kept (kept_drew _)) hg4 | exact grownBy_trans (gb_of_kept (kept_drewN _ _)) hg4);have hx4:=hx3.gb hg4' hXp;have hf4:=hf3.gb hg4' hXp;have ho4:=ownsRow_gb ho3 hg4' hpB;have y4:=hx4.2 4 _ rfl;have hs4:=Nat.le_trans hs3 hg4'.size;have hX4:=hx4.1;have hX4':¬ X=w4.heap.size:=Nat.ne_of_lt hX4)
     | (refine step_append_expr rfl (.tmp 91) (.tmp 96) rfl w.heap.size _ j fs.flatten rfl ((by first | exact ho4.alloc _ | exact (ho4.alloc _).drew | exact (ho4.drew).alloc _)) ⟨w4.heap.size,0,none⟩ [u0,u1,u2,u3,u4] rfl rfl (expr_new w4 u0 u1 u2 u3 u4 _ (by first | exact Or.inl rfl | exact Or.inr rfl)) h1c (by omega) (by simp;omega) ?_;intro v6 w6 o6 hg6 hl6;obtain ⟨a6,c6,rfl⟩:=ownsRow_form o6;have hg46:=kept_gb (kept_new w4 _ _ _ (by first | exact Or.inl rfl | exact Or.inr rfl)) hg6;have hl46:=hl6.imp id (fun e=>(⟨_,e,by simp⟩:∃ y,Value.ownBlock (.slice a6 (j + 1) c6)=some y∧w4.heap.size≤y));have hx6:=hx4.gbo hg46 ha.xo;have hf6:=hf4.gbo hg46 ha.xo;have y6:=hx6.2 4 _ rfl;have z6:=hf6.2 4))
    all_goals
     have hnx:=ha.next (hE:=rfl) hj h.lt h.glt hXw (Nat.le_refl _) hRX hg3 hg4' (by first | exact hG4 | simpa using hG4) hp4 hg46 o6 hl46
     go_wp2_with (fail)
     go_roundg (gk - 1)
     case measure=>have:=ha.k;omega
     case rel=>exact ⟨_,_,_,hnx⟩
  ·obtain rfl:j=K:=by omega
   have HYE:Hid (Calls Tryz.prog 81 #[.pointer (some ⟨p,0,none⟩),.string ⟨#[41]⟩] wr fun e w'=>e=.returned (.bool true)∧∃ m,w'=(wr.drewN m).setCell ⟨p,1,none⟩ (.int .i64 ((st j + 1:Nat):Int))):=hid (by
    have:=ps_yes ha.ps HEND.out rfl hL
    rw [HSR.out] at this
    exact this)
   have x0:=ha.x.2 0 _ rfl
   have x1:=ha.x.2 1 _ rfl
   have x2:=ha.x.2 2 _ rfl
   have x3:=ha.x.2 3 _ rfl
   have r0:=ha.rb.2 0 _ rfl
   have r1:=ha.rb.2 1 _ rfl
   have r2:=ha.rb.2 2 _ rfl
   have r3:=ha.rb.2 3 _ rfl
   have r4:=ha.rb.2 4 _ rfl
   have e0:=ha.rf.2 0
   have e1:=ha.rf.2 1
   have e2:=ha.rf.2 2
   have e3:=ha.rf.2 3
   have e4:=ha.rf.2 4
   have hRX2:¬ w.heap.size=X:=hRX
   go_wp2_with (go_at_call 81;refine HYE.out.mono ?_;rintro e w' ⟨rfl,y,rfl⟩)
   refine bodyPost_ret (v:=.agg #[.int .i64 3,.string s,.int .i64 0,.slice none 0 0,.slice va j vc]) ?_ rfl ⟨_,_,_,_,_,rfl, ?_, ?_, ?_, ?_⟩
   ·exact results_cell rfl rfl (load_expr ((((((((ha.rb.drewN _).oth hpw _).set 0 _).set 1 _).set 2 _).set 3 _).set 4 _)))
   ·intro u hu
    have:u=.int .i64 3 ∨ u=.string s ∨ u=.int .i64 0 ∨ u=.slice none 0 0 ∨ u=.slice va j vc:=by simpa using hu
    rcases this with rfl | rfl | rfl | rfl | rfl <;> rfl
   ·refine ha.fin hK (by simp [World.setCell]) fun b h1 h1' h2=>?_
    rw [Below.heap_setCell _ _ _ _ h2,Below.heap_setCell _ _ _ _ h2,Below.heap_setCell _ _ _ _ h2,Below.heap_setCell _ _ _ _ h2,Below.heap_setCell _ _ _ _ h2,Below.heap_setCell _ _ _ _ (by show b ≠ p;have:=h.lt;omega)]
    exact (kept_drewN wr y).block b h1'
   ·exact (((((((ha.ps.drewN _).set1 (st j + 1) (by omega)).oth hwp hwg _).oth hwp hwg _).oth hwp hwg _).oth hwp hwg _).oth hwp hwg _)
   ·exact gb_new (gb_new (gb_new (gb_new (gb_new (gb_set (gb_drewN ha.b _) _ _) (Nat.le_refl _) _) (Nat.le_refl _) _) (Nat.le_refl _) _) (Nat.le_refl _) _) (Nat.le_refl _) _
end Go.Proofs.YtoilbeadokallaaGreatDoor
