/- The lists that mindist.run makes, in memory. No conditions. -/
import Derived.Test.YtoilbeadokallaaGreatDoorK32
import Derived.Test.YtoilbeadokallaaGreatDoorK33
import Derived.Test.YtoilbeadokallaaGreatDoorK35
namespace Go.Proofs.YtoilbeadokallaaGreatDoor
section
open Go.RowKit Cw Cw.Gj
theorem Tryz.infoRows:(Tryz.prog.info? 27).map (fun i=>(i.zero,i.size,i.bytes))=some (some (.slice none 0 0),1,24):=by kernel_rfl
theorem Tryz.infoRound:(Tryz.prog.info? 129).map (fun i=>(i.zero,i.size,i.bytes))=some (some (.agg #[.int .i64 0,.int .i64 0,.int .i64 0,.int .i64 0]),4,32):=by kernel_rfl
theorem AY {w:World} {ops:Array Oper} {o:Oper} {a:Act} {K:Act->World->Prop} {Q:Exit->Act->World->Prop} {E:Prop} (hgd:o.guard=none) (s x:Operand)
  (ho:o.op=.call {callee:=.builtin .append,args:=#[s,x],argTypes:=#[119,119]}) (B:Nat) (v:Value) (m:Nat) (rs:List Value) (hs:a.eval s=v) (hown:w.ownsRow B 27 1 v m rs)
  (ad:Addr) (y:Value) (hx:a.eval x=.slice (some ad) 1 1) (hc:w.cell? ad=some y) (hy:y.oneCell'=true) (hlen:m+1<=1000000) (hB:B<=w.heap.size)
  (h:∀ w5 v' w',w5=w->w'.ownsRow B 27 1 v' (m+1) (rs++ [y])->w5.grownBy w' v.ownBlock->K (a.put o.dst v') w'):
  if Region.wanted o (yielded ops a.tmps)=true then Oper.wp Tryz.prog o a w K Q else E:=by
 rw[zu (by simp[Region.wanted,hgd])];obtain⟨i0,hi,hz0,hz1,hz2⟩:=info_parts Tryz.infoRows;obtain⟨v',w',hr,h2,h3,_,h5⟩:=run_append_own_at (P:=Tryz.prog) w B 119 o.type 27 i0 _ 1 24 Tryz.underlying119 hi hz0 hz1 hz2 rfl (by decide) v m rs hown ad 1 1 [y] rfl
  (fun j u hu=>by
   match j with
   |0=>
    have e:u=y:=by simpa using hu.symm
    rw[e];have:ad.add 0=ad:=by cases ad;simp[Addr.add]
    rw[this];exact hc
   |j+1=>simp at hu) (fun u hu=>by rw[zH.1 hu];exact hy) (by unfold maxLen;omega) (by omega) hB
 unfold Oper.wp execOp;simp only[ho,resolve,invoke,builtin,Sem.run_bind,Sem.run_pure,Result.andThen_ok,uQ,uN,rZ,hs,hx,hr];exact h w v' w' rfl h2 h3
theorem Ad {w:World} {ops:Array Oper} {o:Oper} {a:Act} {K:Act->World->Prop} {Q:Exit->Act->World->Prop} {E:Prop} (hgd:o.guard=none) (s x:Operand)
  (ho:o.op=.call {callee:=.builtin .append,args:=#[s,x],argTypes:=#[66,66]}) (B:Nat) (v:Value) (m:Nat) (cs:List Value) (hs:a.eval s=v) (hown:w.ownsRow B 129 4 v m cs)
  (ad:Addr) (y0 y1 y2 y3:Int) (hx:a.eval x=.slice (some ad) 1 1) (h0:w.cell? (ad.add 0)=some (.int .i64 y0)) (h1:w.cell? (ad.add 1)=some (.int .i64 y1)) (h2:w.cell? (ad.add 2)=some (.int .i64 y2)) (h3:w.cell? (ad.add 3)=some (.int .i64 y3)) (hlen:m+1<=1000) (hB:B<=w.heap.size)
  (h:∀ w5 v' w' cs',w5=w->w'.ownsRow B 129 4 v' (m+1) cs'->w5.grownBy w' v.ownBlock->K (a.put o.dst v') w'):
  if Region.wanted o (yielded ops a.tmps)=true then Oper.wp Tryz.prog o a w K Q else E:=by
 rw[zu (by simp[Region.wanted,hgd])];obtain⟨i0,hi,hz0,hz1,hz2⟩:=info_parts Tryz.infoRound;obtain⟨v',w',hr,g2,g3,_,g5⟩:=run_append_own_at (P:=Tryz.prog) w B 66 o.type 129 i0 _ 4 32 Tryz.underlying66 hi hz0 hz1 hz2 rfl (by decide) v m cs hown ad 1 1 [.int .i64 y0,.int .i64 y1,.int .i64 y2,.int .i64 y3] rfl
  (fun j u hu=>by
   match j with
   |0=>(have e:u=.int .i64 y0:=(by simpa using hu.symm);rw[e];exact h0)
   |1=>(have e:u=.int .i64 y1:=(by simpa using hu.symm);rw[e];exact h1)
   |2=>(have e:u=.int .i64 y2:=(by simpa using hu.symm);rw[e];exact h2)
   |3=>(have e:u=.int .i64 y3:=(by simpa using hu.symm);rw[e];exact h3)
   |j+4=>simp at hu) (fun u hu=>by
    have:u=.int .i64 y0∨u=.int .i64 y1∨u=.int .i64 y2∨u=.int .i64 y3:=by simpa using hu
    rcases this with rfl|rfl|rfl|rfl<;>rfl) (by unfold maxLen;omega) (by omega) hB
 unfold Oper.wp execOp;simp only[ho,resolve,invoke,builtin,Sem.run_bind,Sem.run_pure,Result.andThen_ok,uQ,uN,rZ,hs,hx,hr];exact h w v' w' _ rfl g2 g3
theorem DC {w:World} {B B' k k' m m' g:Nat} {e e':TypeId} {v x:Value} {rs xs:List Value} (h:w.ownsRow B e k v m rs) (q:w.ownsRow B' e' k' x m' xs) (he:e≠e') (hx:x.ownBlock=some g):v.ownBlock≠some g:=fun e0=>by
 obtain⟨_,h|⟨g1,_,c1,rfl,_,hg,_⟩⟩:=h
 ·rw[h.1] at e0;cases e0
 ·obtain⟨_,k|⟨g2,_,c2,rfl,_,hg',_⟩⟩:=q
  ·rw[k.1] at hx;cases hx
  ·have e1:g1=g:=by simpa[Value.ownBlock] using e0
   have e2:g2=g:=by simpa[Value.ownBlock] using hx
   rw[e1] at hg;rw[e2,hg] at hg';simp at hg';exact he hg'.2
structure GnM (w:World) (B:Nat) (v:Value) (gv:Nat->Value) (rv:Nat->Nat->Value) (Gs:List (List (List Int))):Prop where
 own:w.ownsRow B 27 1 v Gs.length ((List.range Gs.length).map gv)
 row:∀ i,i<Gs.length->Mx w B (gv i) (Gs.getD i []) (rv i)
def afJ (gv:Nat->Value) (rv:Nat->Nat->Value) (Gs:List (List (List Int))) (x:Nat):Prop:=∃ i,i<Gs.length/\Has (gv i) (rv i) (Gs.getD i []).length x
section
variable {w w':World} {B:Nat} {v:Value} {gv:Nat->Value} {rv:Nat->Nat->Value} {Gs:List (List (List Int))}
theorem GnM.lt (h:GnM w B v gv rv Gs) {x:Nat} (hx:v.ownBlock=some x∨afJ gv rv Gs x):B<=x/\x<w.heap.size:=by
 rcases hx with e|⟨i,hi,e⟩
 ·exact World.ownsRow.lt h.own x e
 ·exact(h.row i hi).has_lt e
theorem GnM.grown (h:GnM w B v gv rv Gs) {x:Nat} (hg:w.grownBy w' (some x)) (hx:v.ownBlock≠some x) (hn:¬ afJ gv rv Gs x):GnM w' B v gv rv Gs:=
 ⟨World.ownsRow.kept h.own hg (.inr hx),fun i hi=>(h.row i hi).grown hg fun q=>hn ⟨i,hi,q⟩⟩
theorem GnM.kept (h:GnM w B v gv rv Gs) (k:ay w w'):GnM w' B v gv rv Gs:=by
 have hg:w.grownBy w' (some w.heap.size):=⟨k.os,k.tape,k.output,k.size,fun i hi _=>k.block i hi⟩
 exact h.grown hg (fun e=>by have:=(h.lt (.inl e)).2;omega) (fun e=>by have:=(h.lt (.inr e)).2;omega)
theorem GnM.cell {g n cap:Nat} (h:GnM w B (.slice (some ⟨g,0,none⟩) n cap) gv rv Gs) {i:Nat} (hi:i<Gs.length):w.cell? ⟨g,i,none⟩=some (gv i):=by
 have hn:n=Gs.length:=by
  obtain⟨h1,h2⟩:=h.own;rcases h2 with⟨e,_⟩|⟨_,_,_,e,_⟩
  ·cases e
  ·cases e;rfl
 subst hn;have:=World.ownsRow.cellAt h.own i (by omega);rw[this];simp[hi]
theorem GnM.form (h:GnM w B v gv rv Gs):(v=.slice none 0 0/\Gs=[])∨ ∃ g cap,v=.slice (some ⟨g,0,none⟩) Gs.length cap/\B<=g/\g<w.heap.size/\Gs.length<=cap/\cap<=maxLen:=by
 obtain⟨h1,h2⟩:=h.own;rcases h2 with⟨e,h0⟩|⟨g,cap,cur,e,hb,hg,h3,h4,_⟩
 ·exact .inl ⟨e,zO h0⟩
 ·exact .inr ⟨g,cap,e,hb,(zL.1 hg).1,h3,h4⟩
theorem acS (w:World) (B:Nat):GnM w B (.slice none 0 0) (fun _=>.slice none 0 0) (fun _ _=>.slice none 0 0) []:=⟨⟨rfl,.inl ⟨rfl,rfl⟩⟩,fun _ h=>absurd h (yw _)⟩
theorem GnM.add {v' u:Value} {ru:Nat->Value} {C:List (List Int)} (h:GnM w B v gv rv Gs) (hu:Mx w B u C ru) (o:w'.ownsRow B 27 1 v' (Gs.length+1) ((List.range Gs.length).map gv++ [u])) (hg:w.grownBy w' v.ownBlock):
  GnM w' B v' (fun i=>if i=Gs.length then u else gv i) (fun i=>if i=Gs.length then ru else rv i) (Gs++ [C]):=by
 have hk:∀ {g:Value} {D:List (List Int)} {r:Nat->Value},Mx w B g D r->Mx w' B g D r:=fun {g D r} hm=>by
  cases q:v.ownBlock with
  |none=>
   rw[q] at hg;exact hm.kept ⟨hg.os,hg.tape,hg.output,hg.size,fun i hi=>hg.block i hi (by simp)⟩
  |some y=>
   rw[q] at hg;refine hm.grown hg ?_;rintro(e|⟨j,hj,e⟩)
   ·exact DC hm.out h.own (by decide) q e
   ·exact DC (hm.row j hj) h.own (by decide) q e
 refine⟨?_,fun i hi=>?_⟩
 ·rw[zX];have e:(List.range (Gs.length+ [C].length)).map (fun i=>if i=Gs.length then u else gv i)=(List.range Gs.length).map gv++ [u]:=by
   rw[show Gs.length+ [C].length=Gs.length+1 from rfl,xu,xq];congr 1
   ·refine wO fun i hi=>?_;have:=yT.1 hi;rw[zx (by omega)]
   ·simp
  rw[e];exact o
 ·have hi':i<Gs.length+1:=by simpa using hi
  by_cases q:i=Gs.length
  ·subst q;simp only[if_true];have e:(Gs++ [C]).getD Gs.length []=C:=by simp[List.getD]
   rw[e];exact hk hu
  ·simp only[zx q];have e:(Gs++ [C]).getD i []=Gs.getD i []:=by simp[List.getD,yU (show i<Gs.length by omega)]
   rw[e];exact hk (h.row i (by omega))
end
end
end Go.Proofs.YtoilbeadokallaaGreatDoor
