/- Lemmas on the way to the row, merged: walks of functions and plain algebra. Conditions: each lemma's own, stated with it. -/
import Derived.Test.YtoilbeadokallaaGreatDoorK18
import Derived.Maps.RangeRun
import Derived.Maps.OwnOps
import Derived.Laws.EntriesVeiled
namespace Go.Proofs.YtoilbeadokallaaGreatDoor
open Go.RowKit
section
variable {P:Program} {fn:Func} {tmps:Array Value} {w:World}
theorem results_cell {a:Nat} {t:TypeId} (h:fn.results=#[.cell a t]) {b:Nat} {v:Value} (ha:tmps.getD a undef=.pointer (some ⟨b,0,none⟩)) (hl:(loadVar t ⟨b,0,none⟩).run P w=.ok v w):(results fn tmps).run P w=.ok v w:=by
 have hx:tmps[a]?.getD undef=.pointer (some ⟨b,0,none⟩):=by simpa using ha
 simp [results,h,hx,asAddr,hl]
theorem results_cell_tmp {a:Nat} {t:TypeId} {e:Tmp} (h:fn.results=#[.cell a t,.tmp e]) {b:Nat} {v:Value} (ha:tmps.getD a undef=.pointer (some ⟨b,0,none⟩)) (hl:(loadVar t ⟨b,0,none⟩).run P w=.ok v w):(results fn tmps).run P w=.ok (.tuple #[v,tmps.getD e undef]) w:=by
 have hx:tmps[a]?.getD undef=.pointer (some ⟨b,0,none⟩):=by simpa using ha
 simp [results,h,hx,asAddr,hl]
theorem results_cell3 {a a' a'':Nat} {t t' t'':TypeId} (h:fn.results=#[.cell a t,.cell a' t',.cell a'' t'']) {b b' b'':Nat} {v v' v'':Value} (ha:tmps.getD a undef=.pointer (some ⟨b,0,none⟩)) (ha':tmps.getD a' undef=.pointer (some ⟨b',0,none⟩)) (ha'':tmps.getD a'' undef=.pointer (some ⟨b'',0,none⟩))
  (hl:(loadVar t ⟨b,0,none⟩).run P w=.ok v w) (hl':(loadVar t' ⟨b',0,none⟩).run P w=.ok v' w) (hl'':(loadVar t'' ⟨b'',0,none⟩).run P w=.ok v'' w):(results fn tmps).run P w=.ok (.tuple #[v,v',v'']) w:=by
 have hx:tmps[a]?.getD undef=.pointer (some ⟨b,0,none⟩):=by simpa using ha
 have hx':tmps[a']?.getD undef=.pointer (some ⟨b',0,none⟩):=by simpa using ha'
 have hx'':tmps[a'']?.getD undef=.pointer (some ⟨b'',0,none⟩):=by simpa using ha''
 simp [results,h,hx,hx',hx'',asAddr,hl,hl',hl'',Result.andThen]
end
theorem Bk.set {w:World} {b:Nat} {cs:List Value} (h:Bk w b cs) (k:Nat) (v:Value):Bk (w.setCell ⟨b,k,none⟩ v) b (cs.set k v) :=
 ⟨by simpa [World.setCell] using h.1,fun i u hu=>by
  by_cases e:i=k
  ·subst e
   have hi:i < cs.length:=by have:=(List.getElem?_eq_some_iff.1 hu).1;simpa using this
   have h1:=h.2 i _ (List.getElem?_eq_getElem hi)
   have h2:u=v:=by
    rw [List.getElem?_set_self hi] at hu;simpa using hu.symm
   rw [h2];exact cell_same h1
  ·rw [List.getElem?_set_ne (Ne.symm e)] at hu
   rw [World.cell?_setCell_other _ _ _ _ (by simp)];exact h.2 i u hu⟩
theorem Bk.oth {w:World} {b:Nat} {cs:List Value} (h:Bk w b cs) {b' k:Nat} (hb:b' ≠ b) (v:Value):Bk (w.setCell ⟨b',k,none⟩ v) b cs :=
 ⟨by simpa [World.setCell] using h.1,fun i u hu=>by
  rw [gb_cell (grownBy_setCell w b' k v) h.1 hb.symm];exact h.2 i u hu⟩
theorem Bk.drewN {w:World} {b:Nat} {cs:List Value} (h:Bk w b cs) (n:Nat):Bk (w.drewN n) b cs:=h.kept (kept_drewN w n)
theorem Bk.gb {a w:World} {b q:Nat} {cs:List Value} (h:Bk a b cs) (hg:a.grownBy w (some q)) (hb:b ≠ q):Bk w b cs :=
 ⟨Nat.lt_of_lt_of_le h.1 hg.size,fun i u hu=>by rw [gb_cell hg h.1 hb];exact h.2 i u hu⟩
theorem Fz.oth {w:World} {b:Nat} (h:Fz w b) (p:Addr) (v:Value):Fz (w.setCell p v) b:=⟨by simpa [World.setCell] using h.1,fun i=>by rw [World.frozen?_setCell];exact h.2 i⟩
theorem Fz.drewN {w:World} {b:Nat} (h:Fz w b) (n:Nat):Fz (w.drewN n) b:=h.kept (kept_drewN w n)
theorem gb_frozen {a w:World} {b q i:Nat} (hg:a.grownBy w (some q)) (h:b < a.heap.size) (hb:b ≠ q):w.frozen? ⟨b,i,none⟩=a.frozen? ⟨b,i,none⟩:=by
 unfold World.frozen?
 rw [hg.block b h (fun e=>hb (by cases e;rfl))]
theorem Fz.gb {a w:World} {b q:Nat} (h:Fz a b) (hg:a.grownBy w (some q)) (hb:b ≠ q):Fz w b:=⟨Nat.lt_of_lt_of_le h.1 hg.size,fun i=>by rw [gb_frozen hg h.1 hb];exact h.2 i⟩
theorem load_expr {w:World} {b:Nat} {u0 u1 u2 u3 u4:Value} (h:Bk w b [u0,u1,u2,u3,u4]):(loadVar 50 ⟨b,0,none⟩).run Tryz.prog w=.ok (.agg #[u0,u1,u2,u3,u4]) w:=by
 have c0:=h.2 0 _ rfl
 have c1:=h.2 1 _ rfl
 have c2:=h.2 2 _ rfl
 have c3:=h.2 3 _ rfl
 have c4:=h.2 4 _ rfl
 simp [go_sem,c0,c1,c2,c3,c4]
theorem load_code {w:World} {b:Nat} {u0 u1 u2 u3 u4:Value} (h:Bk w b [u0,u1,u2,u3,u4]):(loadVar 29 ⟨b,0,none⟩).run Tryz.prog w=.ok (.agg #[u0,u1,u2,u3,u4]) w:=by
 have c0:=h.2 0 _ rfl
 have c1:=h.2 1 _ rfl
 have c2:=h.2 2 _ rfl
 have c3:=h.2 3 _ rfl
 have c4:=h.2 4 _ rfl
 simp [go_sem,c0,c1,c2,c3,c4]
theorem load_matrix {w:World} {b:Nat} {u0 u1:Value} (h:Bk w b [u0,u1]):(loadVar 71 ⟨b,0,none⟩).run Tryz.prog w=.ok (.agg #[u0,u1]) w:=by
 have c0:=h.2 0 _ rfl
 have c1:=h.2 1 _ rfl
 simp [go_sem,c0,c1]
theorem load_field {w:World} {b:Nat} {u0 u1 u2:Value} (h:Bk w b [u0,u1,u2]):(loadVar 24 ⟨b,0,none⟩).run Tryz.prog w=.ok (.agg #[u0,u1,u2]) w:=by
 have c0:=h.2 0 _ rfl
 have c1:=h.2 1 _ rfl
 have c2:=h.2 2 _ rfl
 simp [go_sem,c0,c1,c2]
theorem load_call {w:World} {b:Nat} {u0 u1 u2:Value} (h:Bk w b [u0,u1,u2]):(loadVar 202 ⟨b,0,none⟩).run Tryz.prog w=.ok (.agg #[u0,u1,u2]) w:=by
 have c0:=h.2 0 _ rfl
 have c1:=h.2 1 _ rfl
 have c2:=h.2 2 _ rfl
 simp [go_sem,c0,c1,c2]
theorem load_cvalue {w:World} {b:Nat} {u0 u1 u2 u3 u4 u5 u6 u7 u8 u9:Value} (h:Bk w b [u0,u1,u2,u3,u4,u5,u6,u7,u8,u9]):(loadVar 91 ⟨b,0,none⟩).run Tryz.prog w=.ok (.agg #[u0,u1,u2,u3,u4,u5,u6,u7,u8,u9]) w:=by
 have c0:=h.2 0 _ rfl
 have c1:=h.2 1 _ rfl
 have c2:=h.2 2 _ rfl
 have c3:=h.2 3 _ rfl
 have c4:=h.2 4 _ rfl
 have c5:=h.2 5 _ rfl
 have c6:=h.2 6 _ rfl
 have c7:=h.2 7 _ rfl
 have c8:=h.2 8 _ rfl
 have c9:=h.2 9 _ rfl
 simp [go_sem,c0,c1,c2,c3,c4,c5,c6,c7,c8,c9]
end Go.Proofs.YtoilbeadokallaaGreatDoor
namespace Go.Proofs.YtoilbeadokallaaGreatDoor
open Go.RowKit Go.MapKept
open Go.ChangeMaps (setBlock)
def ents (l:List (ByteArray × Value)):List MapEntry:=l.zipIdx.map fun p=>⟨.string p.1.1,p.1.2,p.2⟩
def MapIs (w:World) (b:Nat) (l:List (ByteArray × Value)):Prop:=w.heap[b]?=some (.map (ents l).toArray l.length)
theorem ents_snoc (l:List (ByteArray × Value)) (s:ByteArray) (v:Value):ents (l ++ [(s,v)])=ents l ++ [⟨.string s,v,l.length⟩]:=by
 unfold ents
 rw [List.zipIdx_append,List.map_append]
 simp
theorem mem_ents {l:List (ByteArray × Value)} {x:MapEntry}:x ∈ ents l ↔ ∃ (i:Nat) (s:ByteArray) (v:Value),l[i]?=some (s,v)∧x=⟨.string s,v,i⟩:=by
 unfold ents
 rw [List.mem_map]
 constructor
 ·rintro ⟨⟨⟨s,v⟩,i⟩,h1,rfl⟩
  exact ⟨i,s,v,List.mk_mem_zipIdx_iff_getElem?.1 h1,rfl⟩
 ·rintro ⟨i,s,v,h1,rfl⟩
  exact ⟨((s,v),i),List.mk_mem_zipIdx_iff_getElem?.2 h1,rfl⟩
theorem MapIs.lt {w:World} {b:Nat} {l:List (ByteArray × Value)} (h:MapIs w b l):b < w.heap.size:=(Array.getElem?_eq_some_iff.1 h).1
theorem MapIs.kept {w w':World} {b:Nat} {l:List (ByteArray × Value)} (h:MapIs w b l) (k:Kept w w'):MapIs w' b l:=by unfold MapIs;rw [k.block b h.lt];exact h
theorem MapIs.gbo {w w':World} {b:Nat} {row:Option Nat} {l:List (ByteArray × Value)} (h:MapIs w b l) (g:w.grownBy w' row) (hb:some b ≠ row):MapIs w' b l:=by unfold MapIs;rw [g.block b h.lt hb];exact h
theorem mapIs_new (w:World) (b:Nat) (hb:b=w.heap.size):MapIs (w.alloc (.map #[] 0)) b []:=by
 subst hb
 show (w.heap.push _)[w.heap.size]?=_
 simp
 rfl
theorem gb_setBlock (w:World) (b:Nat) (o:Obj):w.grownBy (setBlock w b o) (some b) :=
 ⟨rfl,rfl,rfl,by simp [setBlock],fun i _ hn=>by
  have:b ≠ i:=fun e=>hn (by rw [e])
  simp [setBlock,this]⟩
theorem mapIs_set {w:World} {b:Nat} {o:Obj} (h:w.heap[b]?=some o) (l:List (ByteArray × Value)):MapIs (setBlock w b (.map (ents l).toArray l.length)) b l:=by
 have hlt:b < w.heap.size:=(Array.getElem?_eq_some_iff.1 h).1
 unfold MapIs setBlock
 simp [hlt]
theorem keys_are (l:List (ByteArray × Value)):∀ x ∈ (ents l).toArray.toList,IsKey .string x.key:=fun x hx=>by
 obtain ⟨i,s,v,_,rfl⟩:=mem_ents.1 (by simpa using hx)
 trivial
section
variable {P:Program} {t kt et:TypeId} {w:World} {b:Nat} {l:List (ByteArray × Value)} {s:ByteArray}
theorem run_ins (ht:P.underlying t=some (.map kt et)) (hk:P.underlying kt=some .string) (h:MapIs w b l) (hs:∀ p ∈ l,p.1 ≠ s) (v:Value) :
  ∃ w',(Instr.mapUpdate t (.map (some b)) (.string s) v).run P w=.ok () w'∧MapIs w' b (l ++ [(s,v)])∧w.grownBy w' (some b):=by
 refine ⟨setBlock w b (.map (ents (l ++ [(s,v)])).toArray (l ++ [(s,v)]).length), ?_,mapIs_set h _,gb_setBlock _ _ _⟩
 have hkey:IsKey .string (.string s):=trivial
 have hb:w.heap[b]?=some (.map (ents l).toArray l.length):=h
 rcases findNow_spec hkey (ents l).toArray.toList 0 (keys_are l) with ⟨h1,_⟩ | ⟨j,e,h1,h2,h3⟩
 ·simp [Instr.mapUpdate,run_underlying ht,Go.MapKept.run_getObj_map hb,Go.MapKept.run_checkKey hk hkey,Go.MapKept.run_findKey hk h1,Go.MapKept.run_setObj_map _ hb,Result.andThen,setBlock,ents_snoc]
 ·exfalso
  have hm:e ∈ ents l:=by
   have:=List.mem_of_getElem? h2
   simpa using this
  obtain ⟨i,s',v',q1,rfl⟩:=mem_ents.1 hm
  have:s'=s:=by simpa using h3
  exact hs (s',v') (List.mem_of_getElem? q1) this
theorem run_look (ht:P.underlying t=some (.map kt et)) (hk:P.underlying kt=some .string) (h:MapIs w b l) {v:Value} (hv:(s,v) ∈ l) (hu:∀ v',(s,v') ∈ l→v'=v) :
  (Instr.lookup t (.map (some b)) (.string s) false).run P w=.ok v w:=by
 have hkey:IsKey .string (.string s):=trivial
 have hb:w.heap[b]?=some (.map (ents l).toArray l.length):=h
 rcases findNow_spec hkey (ents l).toArray.toList 0 (keys_are l) with ⟨h1,h2⟩ | ⟨j,e,h1,h2,h3⟩
 ·exfalso
  obtain ⟨i,hi⟩:=List.getElem?_of_mem hv
  exact h2 ⟨.string s,v,i⟩ (by simpa using mem_ents.2 ⟨i,s,v,hi,rfl⟩) rfl
 ·have hm:e ∈ ents l:=by
   have:=List.mem_of_getElem? h2
   simpa using this
  obtain ⟨i,s',v',q1,rfl⟩:=mem_ents.1 hm
  have hs:s'=s:=by simpa using h3
  subst hs
  have hvv:=hu v' (List.mem_of_getElem? q1)
  subst hvv
  simp [Instr.lookup,run_underlying ht,Go.MapKept.run_getObj_map hb,Go.MapKept.run_checkKey hk hkey,Go.MapKept.run_findKey hk h1,Result.andThen]
theorem run_look_no (ht:P.underlying t=some (.map kt et)) (hk:P.underlying kt=some .string) (h:MapIs w b l) (hs:∀ p ∈ l,p.1 ≠ s) {z:Value} (hz:∀ w,(zeroValue et).run P w=.ok z w) :
  (Instr.lookup t (.map (some b)) (.string s) false).run P w=.ok z w:=by
 have hkey:IsKey .string (.string s):=trivial
 have hb:w.heap[b]?=some (.map (ents l).toArray l.length):=h
 rcases findNow_spec hkey (ents l).toArray.toList 0 (keys_are l) with ⟨h1,_⟩ | ⟨j,e,h1,h2,h3⟩
 ·simp [Instr.lookup,run_underlying ht,Go.MapKept.run_getObj_map hb,Go.MapKept.run_checkKey hk hkey,Go.MapKept.run_findKey hk h1,hz,Result.andThen]
 ·exfalso
  have hm:e ∈ ents l:=by
   have:=List.mem_of_getElem? h2
   simpa using this
  obtain ⟨i,s',v',q1,rfl⟩:=mem_ents.1 hm
  have:s'=s:=by simpa using h3
  exact hs (s',v') (List.mem_of_getElem? q1) this
end
section
variable {P:Program} {w:World} {ops:Array Oper} {rest:List Oper} {o:Oper} {a:Act} {Q:Exit→Act→World→Prop} {t kt et:TypeId} {b:Nat} {l:List (ByteArray × Value)} {s:ByteArray}
end
end Go.Proofs.YtoilbeadokallaaGreatDoor
namespace Go.Proofs.YtoilbeadokallaaGreatDoor
open Go.RowKit Cw Cw.Gj
def RowOut (f:Nat) (s:ByteArray) (mean low:Value) (w:World) (e:Ending) (w':World):Prop :=
 ∃ p,e=.returned (.agg #[.string s,.func (.func f) #[] #[.pointer (some ⟨p,0,none⟩)],low])∧w'.cell? ⟨p,0,none⟩=some mean∧w.heap.size≤p∧p < w'.heap.size∧Kept w w'
def MkOut (g:Nat) (s:ByteArray) (mean low:Value) (w:World) (e:Ending) (w':World):Prop :=
 ∃ p q,e=.returned (.agg #[.string s,.func (.func 301) #[] #[.pointer (some ⟨p,0,none⟩)],low])∧w'.cell? ⟨p,0,none⟩=some (.func (.func g) #[] #[.pointer (some ⟨q,0,none⟩)])∧w'.cell? ⟨q,0,none⟩=some mean∧w.heap.size≤p∧p < w'.heap.size∧w.heap.size≤q∧q < w'.heap.size∧Kept w w'
set_option maxRecDepth 100000 in
set_option maxHeartbeats 1000000 in
theorem codeRow_any (s:ByteArray) (fn:Fn) (fa fc:Array Value) (ln:Fn) (la lc:Array Value) (w:World) :
  Calls Tryz.prog 204 #[.string s,.func fn fa fc,.func ln la lc] w (RowOut 301 s (.func fn fa fc) (.func ln la lc) w):=by
 have hmf:∀ (fn:Fn) (first cap:Array Value) (w:World),(Instr.makeFunc fn first cap).run Tryz.prog w=.ok (.func fn first cap) w:=fun _ _ _ _=>rfl
 have hk:Kept w ((w.alloc (.cells #[.func fn fa fc] 256)).alloc (.cells #[.string s,.func (.func 301) #[] #[.pointer (some ⟨w.heap.size,0,none⟩)],(.func ln la lc)] 202)):=(kept_alloc _ _).tr (kept_alloc _ _)
 go_enter Tryz.func204,Tryz.ntmps204
 go_wp2_with (fail)
 refine bodyPost_ret (results_cell rfl rfl (load_call (bk_new _ [.string s,.func (.func 301) #[] #[.pointer (some ⟨w.heap.size,0,none⟩)],(.func ln la lc)] _ _ (by simp)))) rfl ⟨w.heap.size,rfl, ?_,Nat.le_refl _,by simp;omega,hk⟩
 simp
set_option maxRecDepth 100000 in
set_option maxHeartbeats 1000000 in
theorem fieldRow_any (s:ByteArray) (fn:Fn) (fa fc:Array Value) (w:World) :
  Calls Tryz.prog 140 #[.string s,.func fn fa fc] w (RowOut 198 s (.func fn fa fc) .nilFunc w):=by
 have hmf:∀ (fn:Fn) (first cap:Array Value) (w:World),(Instr.makeFunc fn first cap).run Tryz.prog w=.ok (.func fn first cap) w:=fun _ _ _ _=>rfl
 have hk:Kept w ((w.alloc (.cells #[.func fn fa fc] 207)).alloc (.cells #[.string s,.func (.func 198) #[] #[.pointer (some ⟨w.heap.size,0,none⟩)],.nilFunc] 202)):=(kept_alloc _ _).tr (kept_alloc _ _)
 go_enter Tryz.func140,Tryz.ntmps140
 go_wp2_with (fail)
 refine bodyPost_ret (results_cell rfl rfl (load_call (bk_new _ [.string s,.func (.func 198) #[] #[.pointer (some ⟨w.heap.size,0,none⟩)],.nilFunc] _ _ (by simp)))) rfl ⟨w.heap.size,rfl, ?_,Nat.le_refl _,by simp;omega,hk⟩
 simp
set_option maxRecDepth 100000 in
set_option maxHeartbeats 2000000 in
theorem sized_any (fn:Fn) (fa fc:Array Value) (ln:Fn) (la lc:Array Value) (w:World) :
  Calls Tryz.prog 200 #[.func fn fa fc,.func ln la lc] w (MkOut 299 ⟨#[70,78]⟩ (.func fn fa fc) (.func ln la lc) w):=by
 have hmf:∀ (fn:Fn) (first cap:Array Value) (w:World),(Instr.makeFunc fn first cap).run Tryz.prog w=.ok (.func fn first cap) w:=fun _ _ _ _=>rfl
 obtain ⟨W1,hW1⟩:∃ x,x=(w.alloc (.cells #[.func fn fa fc] 254)).alloc (.cells #[.string ⟨#[]⟩,.nilFunc,.nilFunc] 202):=⟨_,rfl⟩
 have hk1:Kept w W1:=by rw [hW1];exact (kept_alloc _ _).tr (kept_alloc _ _)
 have hb0:Bk W1 w.heap.size [.func fn fa fc]:=by rw [hW1];exact (bk_new w [.func fn fa fc] _ _ rfl).kept (kept_alloc _ _)
 have hb1:Bk W1 (w.heap.size + 1) [.string ⟨#[]⟩,.nilFunc,.nilFunc]:=by rw [hW1];exact bk_new _ [.string ⟨#[]⟩,.nilFunc,.nilFunc] _ _ (by simp)
 have hf1:Fz W1 (w.heap.size + 1):=by rw [hW1];exact fz_new _ _ _ _ (by simp)
 have hz1:W1.heap.size=w.heap.size + 1 + 1:=by rw [hW1];simp
 have HZ:=hid hz1
 clear hz1
 go_enter Tryz.func200,Tryz.ntmps200
 go_wp2_with (fail)
 rw [← hW1]
 clear hW1
 refine (codeRow_any ⟨#[70,78]⟩ (.func 299) #[] #[.pointer (some ⟨w.heap.size,0,none⟩)] ln la lc W1).mono ?_
 rintro e w2 ⟨p,rfl,cp,p1,p2,hk2⟩
 have hb02:=hb0.kept hk2
 have hb2:=hb1.kept hk2
 have hf2:=hf1.kept hk2
 have x0:=hb2.2 0 _ rfl
 have x1:=hb2.2 1 _ rfl
 have x2:=hb2.2 2 _ rfl
 have e0:=hf2.2 0
 have e1:=hf2.2 1
 have e2:=hf2.2 2
 have hk12:=hk1.tr hk2
 have hpz:p ≠ w.heap.size + 1:=by have:=HZ.out;omega
 go_wp2_with (fail)
 refine bodyPost_ret (results_cell rfl rfl (load_call (((hb2.set 0 _).set 1 _).set 2 _))) rfl ⟨p,w.heap.size,rfl, ?_, ?_, ?_, ?_,Nat.le_refl _, ?_, ?_⟩
 ·rw [gb_cell (gb_set (gb_set (grownBy_setCell w2 (w.heap.size + 1) 0 _) 1 _) 2 _) p2 hpz];exact cp
 ·rw [gb_cell (gb_set (gb_set (grownBy_setCell w2 (w.heap.size + 1) 0 _) 1 _) 2 _) hb02.1 (by omega)];exact hb02.2 0 _ rfl
 ·have:=HZ.out;omega
 ·simpa [World.setCell] using p2
 ·simpa [World.setCell] using hb02.1
 ·exact set_below _ (set_below _ (set_below _ hk12 (by omega)) (by omega)) (by omega)
set_option maxRecDepth 100000 in
set_option maxHeartbeats 2000000 in
theorem changed_any (fn:Fn) (fa fc:Array Value) (ln:Fn) (la lc:Array Value) (w:World) :
  Calls Tryz.prog 237 #[.func fn fa fc,.func ln la lc] w (MkOut 318 ⟨#[67]⟩ (.func fn fa fc) (.func ln la lc) w):=by
 have hmf:∀ (fn:Fn) (first cap:Array Value) (w:World),(Instr.makeFunc fn first cap).run Tryz.prog w=.ok (.func fn first cap) w:=fun _ _ _ _=>rfl
 obtain ⟨W1,hW1⟩:∃ x,x=(w.alloc (.cells #[.func fn fa fc] 43)).alloc (.cells #[.string ⟨#[]⟩,.nilFunc,.nilFunc] 202):=⟨_,rfl⟩
 have hk1:Kept w W1:=by rw [hW1];exact (kept_alloc _ _).tr (kept_alloc _ _)
 have hb0:Bk W1 w.heap.size [.func fn fa fc]:=by rw [hW1];exact (bk_new w [.func fn fa fc] _ _ rfl).kept (kept_alloc _ _)
 have hb1:Bk W1 (w.heap.size + 1) [.string ⟨#[]⟩,.nilFunc,.nilFunc]:=by rw [hW1];exact bk_new _ [.string ⟨#[]⟩,.nilFunc,.nilFunc] _ _ (by simp)
 have hf1:Fz W1 (w.heap.size + 1):=by rw [hW1];exact fz_new _ _ _ _ (by simp)
 have hz1:W1.heap.size=w.heap.size + 1 + 1:=by rw [hW1];simp
 have HZ:=hid hz1
 clear hz1
 go_enter Tryz.func237,Tryz.ntmps237
 go_wp2_with (fail)
 rw [← hW1]
 clear hW1
 refine (codeRow_any ⟨#[67]⟩ (.func 318) #[] #[.pointer (some ⟨w.heap.size,0,none⟩)] ln la lc W1).mono ?_
 rintro e w2 ⟨p,rfl,cp,p1,p2,hk2⟩
 have hb02:=hb0.kept hk2
 have hb2:=hb1.kept hk2
 have hf2:=hf1.kept hk2
 have x0:=hb2.2 0 _ rfl
 have x1:=hb2.2 1 _ rfl
 have x2:=hb2.2 2 _ rfl
 have e0:=hf2.2 0
 have e1:=hf2.2 1
 have e2:=hf2.2 2
 have hk12:=hk1.tr hk2
 have hpz:p ≠ w.heap.size + 1:=by have:=HZ.out;omega
 go_wp2_with (fail)
 refine bodyPost_ret (results_cell rfl rfl (load_call (((hb2.set 0 _).set 1 _).set 2 _))) rfl ⟨p,w.heap.size,rfl, ?_, ?_, ?_, ?_,Nat.le_refl _, ?_, ?_⟩
 ·rw [gb_cell (gb_set (gb_set (grownBy_setCell w2 (w.heap.size + 1) 0 _) 1 _) 2 _) p2 hpz];exact cp
 ·rw [gb_cell (gb_set (gb_set (grownBy_setCell w2 (w.heap.size + 1) 0 _) 1 _) 2 _) hb02.1 (by omega)];exact hb02.2 0 _ rfl
 ·have:=HZ.out;omega
 ·simpa [World.setCell] using p2
 ·simpa [World.setCell] using hb02.1
 ·exact set_below _ (set_below _ (set_below _ hk12 (by omega)) (by omega)) (by omega)
set_option maxRecDepth 100000 in
set_option maxHeartbeats 2000000 in
theorem chosen_any (fn:Fn) (fa fc:Array Value) (ln:Fn) (la lc:Array Value) (w:World) :
  Calls Tryz.prog 240 #[.func fn fa fc,.func ln la lc] w (MkOut 319 ⟨#[67,76]⟩ (.func fn fa fc) (.func ln la lc) w):=by
 have hmf:∀ (fn:Fn) (first cap:Array Value) (w:World),(Instr.makeFunc fn first cap).run Tryz.prog w=.ok (.func fn first cap) w:=fun _ _ _ _=>rfl
 obtain ⟨W1,hW1⟩:∃ x,x=(w.alloc (.cells #[.func fn fa fc] 272)).alloc (.cells #[.string ⟨#[]⟩,.nilFunc,.nilFunc] 202):=⟨_,rfl⟩
 have hk1:Kept w W1:=by rw [hW1];exact (kept_alloc _ _).tr (kept_alloc _ _)
 have hb0:Bk W1 w.heap.size [.func fn fa fc]:=by rw [hW1];exact (bk_new w [.func fn fa fc] _ _ rfl).kept (kept_alloc _ _)
 have hb1:Bk W1 (w.heap.size + 1) [.string ⟨#[]⟩,.nilFunc,.nilFunc]:=by rw [hW1];exact bk_new _ [.string ⟨#[]⟩,.nilFunc,.nilFunc] _ _ (by simp)
 have hf1:Fz W1 (w.heap.size + 1):=by rw [hW1];exact fz_new _ _ _ _ (by simp)
 have hz1:W1.heap.size=w.heap.size + 1 + 1:=by rw [hW1];simp
 have HZ:=hid hz1
 clear hz1
 go_enter Tryz.func240,Tryz.ntmps240
 go_wp2_with (fail)
 rw [← hW1]
 clear hW1
 refine (codeRow_any ⟨#[67,76]⟩ (.func 319) #[] #[.pointer (some ⟨w.heap.size,0,none⟩)] ln la lc W1).mono ?_
 rintro e w2 ⟨p,rfl,cp,p1,p2,hk2⟩
 have hb02:=hb0.kept hk2
 have hb2:=hb1.kept hk2
 have hf2:=hf1.kept hk2
 have x0:=hb2.2 0 _ rfl
 have x1:=hb2.2 1 _ rfl
 have x2:=hb2.2 2 _ rfl
 have e0:=hf2.2 0
 have e1:=hf2.2 1
 have e2:=hf2.2 2
 have hk12:=hk1.tr hk2
 have hpz:p ≠ w.heap.size + 1:=by have:=HZ.out;omega
 go_wp2_with (fail)
 refine bodyPost_ret (results_cell rfl rfl (load_call (((hb2.set 0 _).set 1 _).set 2 _))) rfl ⟨p,w.heap.size,rfl, ?_, ?_, ?_, ?_,Nat.le_refl _, ?_, ?_⟩
 ·rw [gb_cell (gb_set (gb_set (grownBy_setCell w2 (w.heap.size + 1) 0 _) 1 _) 2 _) p2 hpz];exact cp
 ·rw [gb_cell (gb_set (gb_set (grownBy_setCell w2 (w.heap.size + 1) 0 _) 1 _) 2 _) hb02.1 (by omega)];exact hb02.2 0 _ rfl
 ·have:=HZ.out;omega
 ·simpa [World.setCell] using p2
 ·simpa [World.setCell] using hb02.1
 ·exact set_below _ (set_below _ (set_below _ hk12 (by omega)) (by omega)) (by omega)
set_option maxRecDepth 100000 in
set_option maxHeartbeats 2000000 in
theorem over_any (fn:Fn) (fa fc:Array Value) (ln:Fn) (la lc:Array Value) (w:World) :
  Calls Tryz.prog 250 #[.func fn fa fc,.func ln la lc] w (MkOut 330 ⟨#[67,70]⟩ (.func fn fa fc) (.func ln la lc) w):=by
 have hmf:∀ (fn:Fn) (first cap:Array Value) (w:World),(Instr.makeFunc fn first cap).run Tryz.prog w=.ok (.func fn first cap) w:=fun _ _ _ _=>rfl
 obtain ⟨W1,hW1⟩:∃ x,x=(w.alloc (.cells #[.func fn fa fc] 274)).alloc (.cells #[.string ⟨#[]⟩,.nilFunc,.nilFunc] 202):=⟨_,rfl⟩
 have hk1:Kept w W1:=by rw [hW1];exact (kept_alloc _ _).tr (kept_alloc _ _)
 have hb0:Bk W1 w.heap.size [.func fn fa fc]:=by rw [hW1];exact (bk_new w [.func fn fa fc] _ _ rfl).kept (kept_alloc _ _)
 have hb1:Bk W1 (w.heap.size + 1) [.string ⟨#[]⟩,.nilFunc,.nilFunc]:=by rw [hW1];exact bk_new _ [.string ⟨#[]⟩,.nilFunc,.nilFunc] _ _ (by simp)
 have hf1:Fz W1 (w.heap.size + 1):=by rw [hW1];exact fz_new _ _ _ _ (by simp)
 have hz1:W1.heap.size=w.heap.size + 1 + 1:=by rw [hW1];simp
 have HZ:=hid hz1
 clear hz1
 go_enter Tryz.func250,Tryz.ntmps250
 go_wp2_with (fail)
 rw [← hW1]
 clear hW1
 refine (codeRow_any ⟨#[67,70]⟩ (.func 330) #[] #[.pointer (some ⟨w.heap.size,0,none⟩)] ln la lc W1).mono ?_
 rintro e w2 ⟨p,rfl,cp,p1,p2,hk2⟩
 have hb02:=hb0.kept hk2
 have hb2:=hb1.kept hk2
 have hf2:=hf1.kept hk2
 have x0:=hb2.2 0 _ rfl
 have x1:=hb2.2 1 _ rfl
 have x2:=hb2.2 2 _ rfl
 have e0:=hf2.2 0
 have e1:=hf2.2 1
 have e2:=hf2.2 2
 have hk12:=hk1.tr hk2
 have hpz:p ≠ w.heap.size + 1:=by have:=HZ.out;omega
 go_wp2_with (fail)
 refine bodyPost_ret (results_cell rfl rfl (load_call (((hb2.set 0 _).set 1 _).set 2 _))) rfl ⟨p,w.heap.size,rfl, ?_, ?_, ?_, ?_,Nat.le_refl _, ?_, ?_⟩
 ·rw [gb_cell (gb_set (gb_set (grownBy_setCell w2 (w.heap.size + 1) 0 _) 1 _) 2 _) p2 hpz];exact cp
 ·rw [gb_cell (gb_set (gb_set (grownBy_setCell w2 (w.heap.size + 1) 0 _) 1 _) 2 _) hb02.1 (by omega)];exact hb02.2 0 _ rfl
 ·have:=HZ.out;omega
 ·simpa [World.setCell] using p2
 ·simpa [World.setCell] using hb02.1
 ·exact set_below _ (set_below _ (set_below _ hk12 (by omega)) (by omega)) (by omega)
set_option maxRecDepth 100000 in
set_option maxHeartbeats 2000000 in
theorem two_any (fn:Fn) (fa fc:Array Value) (ln:Fn) (la lc:Array Value) (w:World) :
  Calls Tryz.prog 257 #[.func fn fa fc,.func ln la lc] w (MkOut 334 ⟨#[67,67]⟩ (.func fn fa fc) (.func ln la lc) w):=by
 have hmf:∀ (fn:Fn) (first cap:Array Value) (w:World),(Instr.makeFunc fn first cap).run Tryz.prog w=.ok (.func fn first cap) w:=fun _ _ _ _=>rfl
 obtain ⟨W1,hW1⟩:∃ x,x=(w.alloc (.cells #[.func fn fa fc] 277)).alloc (.cells #[.string ⟨#[]⟩,.nilFunc,.nilFunc] 202):=⟨_,rfl⟩
 have hk1:Kept w W1:=by rw [hW1];exact (kept_alloc _ _).tr (kept_alloc _ _)
 have hb0:Bk W1 w.heap.size [.func fn fa fc]:=by rw [hW1];exact (bk_new w [.func fn fa fc] _ _ rfl).kept (kept_alloc _ _)
 have hb1:Bk W1 (w.heap.size + 1) [.string ⟨#[]⟩,.nilFunc,.nilFunc]:=by rw [hW1];exact bk_new _ [.string ⟨#[]⟩,.nilFunc,.nilFunc] _ _ (by simp)
 have hf1:Fz W1 (w.heap.size + 1):=by rw [hW1];exact fz_new _ _ _ _ (by simp)
 have hz1:W1.heap.size=w.heap.size + 1 + 1:=by rw [hW1];simp
 have HZ:=hid hz1
 clear hz1
 go_enter Tryz.func257,Tryz.ntmps257
 go_wp2_with (fail)
 rw [← hW1]
 clear hW1
 refine (codeRow_any ⟨#[67,67]⟩ (.func 334) #[] #[.pointer (some ⟨w.heap.size,0,none⟩)] ln la lc W1).mono ?_
 rintro e w2 ⟨p,rfl,cp,p1,p2,hk2⟩
 have hb02:=hb0.kept hk2
 have hb2:=hb1.kept hk2
 have hf2:=hf1.kept hk2
 have x0:=hb2.2 0 _ rfl
 have x1:=hb2.2 1 _ rfl
 have x2:=hb2.2 2 _ rfl
 have e0:=hf2.2 0
 have e1:=hf2.2 1
 have e2:=hf2.2 2
 have hk12:=hk1.tr hk2
 have hpz:p ≠ w.heap.size + 1:=by have:=HZ.out;omega
 go_wp2_with (fail)
 refine bodyPost_ret (results_cell rfl rfl (load_call (((hb2.set 0 _).set 1 _).set 2 _))) rfl ⟨p,w.heap.size,rfl, ?_, ?_, ?_, ?_,Nat.le_refl _, ?_, ?_⟩
 ·rw [gb_cell (gb_set (gb_set (grownBy_setCell w2 (w.heap.size + 1) 0 _) 1 _) 2 _) p2 hpz];exact cp
 ·rw [gb_cell (gb_set (gb_set (grownBy_setCell w2 (w.heap.size + 1) 0 _) 1 _) 2 _) hb02.1 (by omega)];exact hb02.2 0 _ rfl
 ·have:=HZ.out;omega
 ·simpa [World.setCell] using p2
 ·simpa [World.setCell] using hb02.1
 ·exact set_below _ (set_below _ (set_below _ hk12 (by omega)) (by omega)) (by omega)
end Go.Proofs.YtoilbeadokallaaGreatDoor
namespace Go.Proofs.YtoilbeadokallaaGreatDoor
open Go.RowKit Cw Cw.Gj
def RowV (v:Value):Prop:=∃ (s:ByteArray) (f1:Fn) (a1 c1:Array Value) (f2:Fn) (a2 c2:Array Value),v=.agg #[.string s,.func f1 a1 c1,.func f2 a2 c2]
theorem RowOut.v {f:Nat} {s:ByteArray} {mean low:Value} {w w':World} {e:Ending} (h:RowOut f s mean low w e w'):∃ V p,e=.returned V∧V=.agg #[.string s,.func (.func f) #[] #[.pointer (some ⟨p,0,none⟩)],low]∧w'.cell? ⟨p,0,none⟩=some mean∧w.heap.size≤p∧p < w'.heap.size∧Kept w w':=by
 obtain ⟨p,h1,h2⟩:=h
 exact ⟨_,p,h1,rfl,h2⟩
theorem MkOut.v {g:Nat} {s:ByteArray} {mean low:Value} {w w':World} {e:Ending} (h:MkOut g s mean low w e w'):∃ V p q,e=.returned V∧V=.agg #[.string s,.func (.func 301) #[] #[.pointer (some ⟨p,0,none⟩)],low]∧w'.cell? ⟨p,0,none⟩=some (.func (.func g) #[] #[.pointer (some ⟨q,0,none⟩)])∧w'.cell? ⟨q,0,none⟩=some mean∧w.heap.size≤p∧p < w'.heap.size∧w.heap.size≤q∧q < w'.heap.size∧Kept w w':=by
 obtain ⟨p,q,h1,h2⟩:=h
 exact ⟨_,p,q,h1,rfl,h2⟩
structure FamS (w0 w:World) (b:Nat) (ks:List ByteArray) (l:List (ByteArray × Value)):Prop where
 m:MapIs w b l
 ks:l.map (·.1)=ks
 rows:∀ p ∈ l,RowV p.2
 k:Kept w0 w
 nb:w0.heap.size≤b
theorem FamS.kept {w0 w w':World} {b:Nat} {ks:List ByteArray} {l:List (ByteArray × Value)} (h:FamS w0 w b ks l) (k:Kept w w'):FamS w0 w' b ks l:=⟨h.m.kept k,h.ks,h.rows,h.k.tr k,h.nb⟩
theorem FamS.fresh {w0 w:World} {b:Nat} {ks:List ByteArray} {l:List (ByteArray × Value)} (h:FamS w0 w b ks l) {s:ByteArray} (hs:s ∉ ks):∀ p ∈ l,p.1 ≠ s:=fun p hp e=>hs (by rw [← h.ks,List.mem_map];exact ⟨p,hp,e⟩)
theorem FamS.ins {w0 w w':World} {b:Nat} {ks:List ByteArray} {l:List (ByteArray × Value)} (h:FamS w0 w b ks l) {s:ByteArray} {v:Value} (m:MapIs w' b (l ++ [(s,v)])) (g:w.grownBy w' (some b)) (hv:RowV v):FamS w0 w' b (ks ++ [s]) (l ++ [(s,v)]) :=
 ⟨m,by rw [List.map_append,h.ks];rfl,fun p hp=>by
  rcases List.mem_append.1 hp with q | q
  ·exact h.rows p q
  ·rw [List.mem_singleton.1 q];exact hv,gb_below h.k g h.nb h.k.size,h.nb⟩
def HamR (b:Nat) (v:Value) (w:World):Prop:=∃ p q,v=.agg #[.string ⟨#[70,78]⟩,.func (.func 301) #[] #[.pointer (some ⟨p,0,none⟩)],.func (.func 210) #[] #[]] ∧
 w.cell? ⟨p,0,none⟩=some (.func (.func 299) #[] #[.pointer (some ⟨q,0,none⟩)])∧w.cell? ⟨q,0,none⟩=some (.func (.func 209) #[] #[])∧p < w.heap.size∧q < w.heap.size∧p ≠ b∧q ≠ b∧b≤p∧b≤q
theorem HamR.kept {b:Nat} {v:Value} {w w':World} (h:HamR b v w) (k:Kept w w'):HamR b v w':=by
 obtain ⟨p,q,h1,h2,h3,h4,h5,h6⟩:=h
 exact ⟨p,q,h1,(k.cell' h4).trans h2,(k.cell' h5).trans h3,k.lt h4,k.lt h5,h6⟩
theorem HamR.gb {b:Nat} {v:Value} {w w':World} (h:HamR b v w) (g:w.grownBy w' (some b)):HamR b v w':=by
 obtain ⟨p,q,h1,h2,h3,h4,h5,h6,h7,h8⟩:=h
 exact ⟨p,q,h1,by rw [gb_cell g h4 h6];exact h2,by rw [gb_cell g h5 h7];exact h3,Nat.lt_of_lt_of_le h4 g.size,Nat.lt_of_lt_of_le h5 g.size,h6,h7,h8⟩
def FamOut (ks:List ByteArray) (H:Nat→List (ByteArray × Value)→World→Prop) (w:World) (e:Ending) (w':World):Prop :=
 ∃ b l,e=.returned (.map (some b))∧FamS w w' b ks l∧H b l w'
def sHamming:ByteArray:=⟨#[104,97,109,109,105,110,103]⟩
def HamIn (b:Nat) (l:List (ByteArray × Value)) (w:World):Prop:=∃ v,(sHamming,v) ∈ l∧HamR b v w
def familiesKeys:List ByteArray:=[⟨#[122,101,114,111]⟩,⟨#[119,104,111,108,101]⟩,⟨#[109,97,116,114,105,120]⟩,⟨#[114,101,112]⟩,⟨#[112,97,114,105,116,121]⟩,⟨#[104,97,109,109,105,110,103]⟩,⟨#[115,105,109,112,108,101,120]⟩,⟨#[114,109]⟩,⟨#[114,101,115,105,100,117,101]⟩,⟨#[103,111,108,97,121]⟩]
set_option maxRecDepth 100000 in
set_option maxHeartbeats 8000000 in
theorem families_any (w:World):Calls Tryz.prog 144 #[] w (FamOut familiesKeys HamIn w):=by
 have hmm:=@run_makeMap Tryz.prog
 have hmf:∀ (fn:Fn) (first cap:Array Value) (w:World),(Instr.makeFunc fn first cap).run Tryz.prog w=.ok (.func fn first cap) w:=fun _ _ _ _=>rfl
 have f0:FamS w (w.alloc (.map #[] 0)) w.heap.size [] []:=⟨mapIs_new _ _ rfl,rfl,fun p hp=>(by cases hp),kept_alloc _ _,Nat.le_refl _⟩
 go_enter Tryz.func144,Tryz.ntmps144
 go_wp2_with (fail)
 refine (sized_any _ _ _ _ _ _ _).mono ?_
 intro e v1 h
 obtain ⟨V1,p1,q1,rfl,hV1,c1,d1,l1,m1,n1,r1,k1⟩:=h.v
 have g1:=f0.kept k1
 obtain ⟨w1,x1,i1,j1⟩:=run_ins Tryz.underlying209 Tryz.underlying9 g1.m (s:=⟨#[122,101,114,111]⟩) (g1.fresh (by simp)) V1
 have f1:=g1.ins i1 j1 ⟨_,_,_,_,_,_,_,hV1⟩
 clear f0 g1 i1 j1 hV1
 go_wp2_with (fail)
 clear x1
 refine (sized_any _ _ _ _ _ _ _).mono ?_
 intro e v2 h
 obtain ⟨V2,p2,q2,rfl,hV2,c2,d2,l2,m2,n2,r2,k2⟩:=h.v
 have g2:=f1.kept k2
 obtain ⟨w2,x2,i2,j2⟩:=run_ins Tryz.underlying209 Tryz.underlying9 g2.m (s:=⟨#[119,104,111,108,101]⟩) (g2.fresh (by simp)) V2
 have f2:=g2.ins i2 j2 ⟨_,_,_,_,_,_,_,hV2⟩
 clear f1 g2 i2 j2 hV2
 go_wp2_with (fail)
 clear x2
 refine (codeRow_any _ _ _ _ _ _ _ _).mono ?_
 intro e v3 h
 obtain ⟨V3,p3,rfl,hV3,c3,l3,m3,k3⟩:=h.v
 have g3:=f2.kept k3
 obtain ⟨w3,x3,i3,j3⟩:=run_ins Tryz.underlying209 Tryz.underlying9 g3.m (s:=⟨#[109,97,116,114,105,120]⟩) (g3.fresh (by simp)) V3
 have f3:=g3.ins i3 j3 ⟨_,_,_,_,_,_,_,hV3⟩
 clear f2 g3 i3 j3 hV3
 go_wp2_with (fail)
 clear x3
 refine (sized_any _ _ _ _ _ _ _).mono ?_
 intro e v4 h
 obtain ⟨V4,p4,q4,rfl,hV4,c4,d4,l4,m4,n4,r4,k4⟩:=h.v
 have g4:=f3.kept k4
 obtain ⟨w4,x4,i4,j4⟩:=run_ins Tryz.underlying209 Tryz.underlying9 g4.m (s:=⟨#[114,101,112]⟩) (g4.fresh (by simp)) V4
 have f4:=g4.ins i4 j4 ⟨_,_,_,_,_,_,_,hV4⟩
 clear f3 g4 i4 j4 hV4
 go_wp2_with (fail)
 clear x4
 refine (sized_any _ _ _ _ _ _ _).mono ?_
 intro e v5 h
 obtain ⟨V5,p5,q5,rfl,hV5,c5,d5,l5,m5,n5,r5,k5⟩:=h.v
 have g5:=f4.kept k5
 obtain ⟨w5,x5,i5,j5⟩:=run_ins Tryz.underlying209 Tryz.underlying9 g5.m (s:=⟨#[112,97,114,105,116,121]⟩) (g5.fresh (by simp)) V5
 have f5:=g5.ins i5 j5 ⟨_,_,_,_,_,_,_,hV5⟩
 clear f4 g5 i5 j5 hV5
 go_wp2_with (fail)
 clear x5
 refine (sized_any _ _ _ _ _ _ _).mono ?_
 intro e v6 h
 obtain ⟨V6,p6,q6,rfl,hV6,c6,d6,l6,m6,n6,r6,k6⟩:=h.v
 have g6:=f5.kept k6
 obtain ⟨w6,x6,i6,j6⟩:=run_ins Tryz.underlying209 Tryz.underlying9 g6.m (s:=⟨#[104,97,109,109,105,110,103]⟩) (g6.fresh (by simp)) V6
 have f6:=g6.ins i6 j6 ⟨_,_,_,_,_,_,_,hV6⟩
 have hw6:HamR w.heap.size V6 w6:=HamR.gb ⟨p6,q6,hV6,c6,d6,m6,r6,by have:=f5.m.lt;omega,by have:=f5.m.lt;omega,by have:=f5.m.lt;omega,by have:=f5.m.lt;omega⟩ j6
 clear f5 g6 i6 j6 hV6
 go_wp2_with (fail)
 clear x6
 refine (sized_any _ _ _ _ _ _ _).mono ?_
 intro e v7 h
 obtain ⟨V7,p7,q7,rfl,hV7,c7,d7,l7,m7,n7,r7,k7⟩:=h.v
 have g7:=f6.kept k7
 have hv7:=hw6.kept k7
 obtain ⟨w7,x7,i7,j7⟩:=run_ins Tryz.underlying209 Tryz.underlying9 g7.m (s:=⟨#[115,105,109,112,108,101,120]⟩) (g7.fresh (by simp)) V7
 have f7:=g7.ins i7 j7 ⟨_,_,_,_,_,_,_,hV7⟩
 have hw7:=hv7.gb j7
 clear hv7 hw6
 clear f6 g7 i7 j7 hV7
 go_wp2_with (fail)
 clear x7
 refine (codeRow_any _ _ _ _ _ _ _ _).mono ?_
 intro e v8 h
 obtain ⟨V8,p8,rfl,hV8,c8,l8,m8,k8⟩:=h.v
 have g8:=f7.kept k8
 have hv8:=hw7.kept k8
 obtain ⟨w8,x8,i8,j8⟩:=run_ins Tryz.underlying209 Tryz.underlying9 g8.m (s:=⟨#[114,109]⟩) (g8.fresh (by simp)) V8
 have f8:=g8.ins i8 j8 ⟨_,_,_,_,_,_,_,hV8⟩
 have hw8:=hv8.gb j8
 clear hv8 hw7
 clear f7 g8 i8 j8 hV8
 go_wp2_with (fail)
 clear x8
 refine (codeRow_any _ _ _ _ _ _ _ _).mono ?_
 intro e v9 h
 obtain ⟨V9,p9,rfl,hV9,c9,l9,m9,k9⟩:=h.v
 have g9:=f8.kept k9
 have hv9:=hw8.kept k9
 obtain ⟨w9,x9,i9,j9⟩:=run_ins Tryz.underlying209 Tryz.underlying9 g9.m (s:=⟨#[114,101,115,105,100,117,101]⟩) (g9.fresh (by simp)) V9
 have f9:=g9.ins i9 j9 ⟨_,_,_,_,_,_,_,hV9⟩
 have hw9:=hv9.gb j9
 clear hv9 hw8
 clear f8 g9 i9 j9 hV9
 go_wp2_with (fail)
 clear x9
 refine (codeRow_any _ _ _ _ _ _ _ _).mono ?_
 intro e v10 h
 obtain ⟨V10,p10,rfl,hV10,c10,l10,m10,k10⟩:=h.v
 have g10:=f9.kept k10
 have hv10:=hw9.kept k10
 obtain ⟨w10,x10,i10,j10⟩:=run_ins Tryz.underlying209 Tryz.underlying9 g10.m (s:=⟨#[103,111,108,97,121]⟩) (g10.fresh (by simp)) V10
 have f10:=g10.ins i10 j10 ⟨_,_,_,_,_,_,_,hV10⟩
 have hw10:=hv10.gb j10
 clear hv10 hw9
 clear f9 g10 i10 j10 hV10
 go_wp2_with (fail)
 clear x10
 go_ret
 exact ⟨_,_,rfl,f10,⟨_,by simp [sHamming],hw10⟩⟩
def algebraicKeys:List ByteArray:=[⟨#[99,121,99,108,105,99]⟩,⟨#[98,99,104]⟩,⟨#[114,115]⟩,⟨#[103,114,115]⟩,⟨#[97,108,116,101,114,110,97,110,116]⟩,⟨#[103,111,112,112,97]⟩]
set_option maxRecDepth 100000 in
set_option maxHeartbeats 8000000 in
theorem algebraic_any (w:World):Calls Tryz.prog 145 #[] w (FamOut algebraicKeys (fun _ _ _=>True) w):=by
 have hmm:=@run_makeMap Tryz.prog
 have hmf:∀ (fn:Fn) (first cap:Array Value) (w:World),(Instr.makeFunc fn first cap).run Tryz.prog w=.ok (.func fn first cap) w:=fun _ _ _ _=>rfl
 have f0:FamS w ((w.alloc (.cells #[.func (.func 220) #[] #[]] 261)).alloc (.map #[] 0)) (w.heap.size + 1) [] []:=⟨mapIs_new _ _ (by simp),rfl,fun p hp=>(by cases hp),(kept_alloc _ _).tr (kept_alloc _ _),by omega⟩
 go_enter Tryz.func145,Tryz.ntmps145
 go_wp2_with (fail)
 refine (codeRow_any _ _ _ _ _ _ _ _).mono ?_
 intro e v1 h
 obtain ⟨V1,p1,rfl,hV1,c1,l1,m1,k1⟩:=h.v
 have g1:=f0.kept k1
 obtain ⟨w1,x1,i1,j1⟩:=run_ins Tryz.underlying209 Tryz.underlying9 g1.m (s:=⟨#[99,121,99,108,105,99]⟩) (g1.fresh (by simp)) V1
 have f1:=g1.ins i1 j1 ⟨_,_,_,_,_,_,_,hV1⟩
 clear f0 g1 i1 j1 hV1
 go_wp2_with (fail)
 clear x1
 refine (codeRow_any _ _ _ _ _ _ _ _).mono ?_
 intro e v2 h
 obtain ⟨V2,p2,rfl,hV2,c2,l2,m2,k2⟩:=h.v
 have g2:=f1.kept k2
 obtain ⟨w2,x2,i2,j2⟩:=run_ins Tryz.underlying209 Tryz.underlying9 g2.m (s:=⟨#[98,99,104]⟩) (g2.fresh (by simp)) V2
 have f2:=g2.ins i2 j2 ⟨_,_,_,_,_,_,_,hV2⟩
 clear f1 g2 i2 j2 hV2
 go_wp2_with (fail)
 clear x2
 refine (codeRow_any _ _ _ _ _ _ _ _).mono ?_
 intro e v3 h
 obtain ⟨V3,p3,rfl,hV3,c3,l3,m3,k3⟩:=h.v
 have g3:=f2.kept k3
 obtain ⟨w3,x3,i3,j3⟩:=run_ins Tryz.underlying209 Tryz.underlying9 g3.m (s:=⟨#[114,115]⟩) (g3.fresh (by simp)) V3
 have f3:=g3.ins i3 j3 ⟨_,_,_,_,_,_,_,hV3⟩
 clear f2 g3 i3 j3 hV3
 go_wp2_with (fail)
 clear x3
 refine (codeRow_any _ _ _ _ _ _ _ _).mono ?_
 intro e v4 h
 obtain ⟨V4,p4,rfl,hV4,c4,l4,m4,k4⟩:=h.v
 have g4:=f3.kept k4
 obtain ⟨w4,x4,i4,j4⟩:=run_ins Tryz.underlying209 Tryz.underlying9 g4.m (s:=⟨#[103,114,115]⟩) (g4.fresh (by simp)) V4
 have f4:=g4.ins i4 j4 ⟨_,_,_,_,_,_,_,hV4⟩
 clear f3 g4 i4 j4 hV4
 go_wp2_with (fail)
 clear x4
 refine (codeRow_any _ _ _ _ _ _ _ _).mono ?_
 intro e v5 h
 obtain ⟨V5,p5,rfl,hV5,c5,l5,m5,k5⟩:=h.v
 have g5:=f4.kept k5
 obtain ⟨w5,x5,i5,j5⟩:=run_ins Tryz.underlying209 Tryz.underlying9 g5.m (s:=⟨#[97,108,116,101,114,110,97,110,116]⟩) (g5.fresh (by simp)) V5
 have f5:=g5.ins i5 j5 ⟨_,_,_,_,_,_,_,hV5⟩
 clear f4 g5 i5 j5 hV5
 go_wp2_with (fail)
 clear x5
 refine (codeRow_any _ _ _ _ _ _ _ _).mono ?_
 intro e v6 h
 obtain ⟨V6,p6,rfl,hV6,c6,l6,m6,k6⟩:=h.v
 have g6:=f5.kept k6
 obtain ⟨w6,x6,i6,j6⟩:=run_ins Tryz.underlying209 Tryz.underlying9 g6.m (s:=⟨#[103,111,112,112,97]⟩) (g6.fresh (by simp)) V6
 have f6:=g6.ins i6 j6 ⟨_,_,_,_,_,_,_,hV6⟩
 clear f5 g6 i6 j6 hV6
 go_wp2_with (fail)
 clear x6
 go_ret
 exact ⟨_,_,rfl,f6,trivial⟩
def modifiedKeys:List ByteArray:=[⟨#[100,117,97,108]⟩,⟨#[104,117,108,108]⟩,⟨#[112,117,110,99,116,117,114,101]⟩,⟨#[115,104,111,114,116,101,110]⟩,⟨#[115,117,98,99,111,100,101]⟩,⟨#[112,101,114,109,117,116,101]⟩,⟨#[101,120,112,117,114,103,97,116,101]⟩,⟨#[97,117,103,109,101,110,116]⟩,⟨#[101,120,116,101,110,100]⟩,⟨#[115,117,98,102,105,101,108,100]⟩,⟨#[116,114,97,99,101]⟩,⟨#[108,105,102,116]⟩,⟨#[105,110,116,101,114,108,101,97,118,101]⟩]
set_option maxRecDepth 100000 in
set_option maxHeartbeats 8000000 in
theorem modified_any (w:World):Calls Tryz.prog 146 #[] w (FamOut modifiedKeys (fun _ _ _=>True) w):=by
 have hmm:=@run_makeMap Tryz.prog
 have hmf:∀ (fn:Fn) (first cap:Array Value) (w:World),(Instr.makeFunc fn first cap).run Tryz.prog w=.ok (.func fn first cap) w:=fun _ _ _ _=>rfl
 have f0:FamS w (w.alloc (.map #[] 0)) w.heap.size [] []:=⟨mapIs_new _ _ rfl,rfl,fun p hp=>(by cases hp),kept_alloc _ _,Nat.le_refl _⟩
 go_enter Tryz.func146,Tryz.ntmps146
 go_wp2_with (fail)
 refine (changed_any _ _ _ _ _ _ _).mono ?_
 intro e v1 h
 obtain ⟨V1,p1,q1,rfl,hV1,c1,d1,l1,m1,n1,r1,k1⟩:=h.v
 have g1:=f0.kept k1
 obtain ⟨w1,x1,i1,j1⟩:=run_ins Tryz.underlying209 Tryz.underlying9 g1.m (s:=⟨#[100,117,97,108]⟩) (g1.fresh (by simp)) V1
 have f1:=g1.ins i1 j1 ⟨_,_,_,_,_,_,_,hV1⟩
 clear f0 g1 i1 j1 hV1
 go_wp2_with (fail)
 clear x1
 refine (changed_any _ _ _ _ _ _ _).mono ?_
 intro e v2 h
 obtain ⟨V2,p2,q2,rfl,hV2,c2,d2,l2,m2,n2,r2,k2⟩:=h.v
 have g2:=f1.kept k2
 obtain ⟨w2,x2,i2,j2⟩:=run_ins Tryz.underlying209 Tryz.underlying9 g2.m (s:=⟨#[104,117,108,108]⟩) (g2.fresh (by simp)) V2
 have f2:=g2.ins i2 j2 ⟨_,_,_,_,_,_,_,hV2⟩
 clear f1 g2 i2 j2 hV2
 go_wp2_with (fail)
 clear x2
 refine (chosen_any _ _ _ _ _ _ _).mono ?_
 intro e v3 h
 obtain ⟨V3,p3,q3,rfl,hV3,c3,d3,l3,m3,n3,r3,k3⟩:=h.v
 have g3:=f2.kept k3
 obtain ⟨w3,x3,i3,j3⟩:=run_ins Tryz.underlying209 Tryz.underlying9 g3.m (s:=⟨#[112,117,110,99,116,117,114,101]⟩) (g3.fresh (by simp)) V3
 have f3:=g3.ins i3 j3 ⟨_,_,_,_,_,_,_,hV3⟩
 clear f2 g3 i3 j3 hV3
 go_wp2_with (fail)
 clear x3
 refine (chosen_any _ _ _ _ _ _ _).mono ?_
 intro e v4 h
 obtain ⟨V4,p4,q4,rfl,hV4,c4,d4,l4,m4,n4,r4,k4⟩:=h.v
 have g4:=f3.kept k4
 obtain ⟨w4,x4,i4,j4⟩:=run_ins Tryz.underlying209 Tryz.underlying9 g4.m (s:=⟨#[115,104,111,114,116,101,110]⟩) (g4.fresh (by simp)) V4
 have f4:=g4.ins i4 j4 ⟨_,_,_,_,_,_,_,hV4⟩
 clear f3 g4 i4 j4 hV4
 go_wp2_with (fail)
 clear x4
 refine (chosen_any _ _ _ _ _ _ _).mono ?_
 intro e v5 h
 obtain ⟨V5,p5,q5,rfl,hV5,c5,d5,l5,m5,n5,r5,k5⟩:=h.v
 have g5:=f4.kept k5
 obtain ⟨w5,x5,i5,j5⟩:=run_ins Tryz.underlying209 Tryz.underlying9 g5.m (s:=⟨#[115,117,98,99,111,100,101]⟩) (g5.fresh (by simp)) V5
 have f5:=g5.ins i5 j5 ⟨_,_,_,_,_,_,_,hV5⟩
 clear f4 g5 i5 j5 hV5
 go_wp2_with (fail)
 clear x5
 refine (chosen_any _ _ _ _ _ _ _).mono ?_
 intro e v6 h
 obtain ⟨V6,p6,q6,rfl,hV6,c6,d6,l6,m6,n6,r6,k6⟩:=h.v
 have g6:=f5.kept k6
 obtain ⟨w6,x6,i6,j6⟩:=run_ins Tryz.underlying209 Tryz.underlying9 g6.m (s:=⟨#[112,101,114,109,117,116,101]⟩) (g6.fresh (by simp)) V6
 have f6:=g6.ins i6 j6 ⟨_,_,_,_,_,_,_,hV6⟩
 clear f5 g6 i6 j6 hV6
 go_wp2_with (fail)
 clear x6
 refine (changed_any _ _ _ _ _ _ _).mono ?_
 intro e v7 h
 obtain ⟨V7,p7,q7,rfl,hV7,c7,d7,l7,m7,n7,r7,k7⟩:=h.v
 have g7:=f6.kept k7
 obtain ⟨w7,x7,i7,j7⟩:=run_ins Tryz.underlying209 Tryz.underlying9 g7.m (s:=⟨#[101,120,112,117,114,103,97,116,101]⟩) (g7.fresh (by simp)) V7
 have f7:=g7.ins i7 j7 ⟨_,_,_,_,_,_,_,hV7⟩
 clear f6 g7 i7 j7 hV7
 go_wp2_with (fail)
 clear x7
 refine (changed_any _ _ _ _ _ _ _).mono ?_
 intro e v8 h
 obtain ⟨V8,p8,q8,rfl,hV8,c8,d8,l8,m8,n8,r8,k8⟩:=h.v
 have g8:=f7.kept k8
 obtain ⟨w8,x8,i8,j8⟩:=run_ins Tryz.underlying209 Tryz.underlying9 g8.m (s:=⟨#[97,117,103,109,101,110,116]⟩) (g8.fresh (by simp)) V8
 have f8:=g8.ins i8 j8 ⟨_,_,_,_,_,_,_,hV8⟩
 clear f7 g8 i8 j8 hV8
 go_wp2_with (fail)
 clear x8
 refine (changed_any _ _ _ _ _ _ _).mono ?_
 intro e v9 h
 obtain ⟨V9,p9,q9,rfl,hV9,c9,d9,l9,m9,n9,r9,k9⟩:=h.v
 have g9:=f8.kept k9
 obtain ⟨w9,x9,i9,j9⟩:=run_ins Tryz.underlying209 Tryz.underlying9 g9.m (s:=⟨#[101,120,116,101,110,100]⟩) (g9.fresh (by simp)) V9
 have f9:=g9.ins i9 j9 ⟨_,_,_,_,_,_,_,hV9⟩
 clear f8 g9 i9 j9 hV9
 go_wp2_with (fail)
 clear x9
 refine (over_any _ _ _ _ _ _ _).mono ?_
 intro e v10 h
 obtain ⟨V10,p10,q10,rfl,hV10,c10,d10,l10,m10,n10,r10,k10⟩:=h.v
 have g10:=f9.kept k10
 obtain ⟨w10,x10,i10,j10⟩:=run_ins Tryz.underlying209 Tryz.underlying9 g10.m (s:=⟨#[115,117,98,102,105,101,108,100]⟩) (g10.fresh (by simp)) V10
 have f10:=g10.ins i10 j10 ⟨_,_,_,_,_,_,_,hV10⟩
 clear f9 g10 i10 j10 hV10
 go_wp2_with (fail)
 clear x10
 refine (over_any _ _ _ _ _ _ _).mono ?_
 intro e v11 h
 obtain ⟨V11,p11,q11,rfl,hV11,c11,d11,l11,m11,n11,r11,k11⟩:=h.v
 have g11:=f10.kept k11
 obtain ⟨w11,x11,i11,j11⟩:=run_ins Tryz.underlying209 Tryz.underlying9 g11.m (s:=⟨#[116,114,97,99,101]⟩) (g11.fresh (by simp)) V11
 have f11:=g11.ins i11 j11 ⟨_,_,_,_,_,_,_,hV11⟩
 clear f10 g11 i11 j11 hV11
 go_wp2_with (fail)
 clear x11
 refine (over_any _ _ _ _ _ _ _).mono ?_
 intro e v12 h
 obtain ⟨V12,p12,q12,rfl,hV12,c12,d12,l12,m12,n12,r12,k12⟩:=h.v
 have g12:=f11.kept k12
 obtain ⟨w12,x12,i12,j12⟩:=run_ins Tryz.underlying209 Tryz.underlying9 g12.m (s:=⟨#[108,105,102,116]⟩) (g12.fresh (by simp)) V12
 have f12:=g12.ins i12 j12 ⟨_,_,_,_,_,_,_,hV12⟩
 clear f11 g12 i12 j12 hV12
 go_wp2_with (fail)
 clear x12
 refine (codeRow_any _ _ _ _ _ _ _ _).mono ?_
 intro e v13 h
 obtain ⟨V13,p13,rfl,hV13,c13,l13,m13,k13⟩:=h.v
 have g13:=f12.kept k13
 obtain ⟨w13,x13,i13,j13⟩:=run_ins Tryz.underlying209 Tryz.underlying9 g13.m (s:=⟨#[105,110,116,101,114,108,101,97,118,101]⟩) (g13.fresh (by simp)) V13
 have f13:=g13.ins i13 j13 ⟨_,_,_,_,_,_,_,hV13⟩
 clear f12 g13 i13 j13 hV13
 go_wp2_with (fail)
 clear x13
 go_ret
 exact ⟨_,_,rfl,f13,trivial⟩
def combinedKeys:List ByteArray:=[⟨#[106,111,105,110]⟩,⟨#[109,101,101,116]⟩,⟨#[115,117,109]⟩,⟨#[112,108,111,116,107,105,110]⟩,⟨#[106,117,120,116,97,112,111,115,101]⟩,⟨#[112,114,111,100,117,99,116]⟩,⟨#[99,111,110,99,97,116]⟩,⟨#[120]⟩]
set_option maxRecDepth 100000 in
set_option maxHeartbeats 8000000 in
theorem combined_any (w:World):Calls Tryz.prog 147 #[] w (FamOut combinedKeys (fun _ _ _=>True) w):=by
 have hmm:=@run_makeMap Tryz.prog
 have hmf:∀ (fn:Fn) (first cap:Array Value) (w:World),(Instr.makeFunc fn first cap).run Tryz.prog w=.ok (.func fn first cap) w:=fun _ _ _ _=>rfl
 have f0:FamS w (w.alloc (.map #[] 0)) w.heap.size [] []:=⟨mapIs_new _ _ rfl,rfl,fun p hp=>(by cases hp),kept_alloc _ _,Nat.le_refl _⟩
 go_enter Tryz.func147,Tryz.ntmps147
 go_wp2_with (fail)
 refine (two_any _ _ _ _ _ _ _).mono ?_
 intro e v1 h
 obtain ⟨V1,p1,q1,rfl,hV1,c1,d1,l1,m1,n1,r1,k1⟩:=h.v
 have g1:=f0.kept k1
 obtain ⟨w1,x1,i1,j1⟩:=run_ins Tryz.underlying209 Tryz.underlying9 g1.m (s:=⟨#[106,111,105,110]⟩) (g1.fresh (by simp)) V1
 have f1:=g1.ins i1 j1 ⟨_,_,_,_,_,_,_,hV1⟩
 clear f0 g1 i1 j1 hV1
 go_wp2_with (fail)
 clear x1
 refine (two_any _ _ _ _ _ _ _).mono ?_
 intro e v2 h
 obtain ⟨V2,p2,q2,rfl,hV2,c2,d2,l2,m2,n2,r2,k2⟩:=h.v
 have g2:=f1.kept k2
 obtain ⟨w2,x2,i2,j2⟩:=run_ins Tryz.underlying209 Tryz.underlying9 g2.m (s:=⟨#[109,101,101,116]⟩) (g2.fresh (by simp)) V2
 have f2:=g2.ins i2 j2 ⟨_,_,_,_,_,_,_,hV2⟩
 clear f1 g2 i2 j2 hV2
 go_wp2_with (fail)
 clear x2
 refine (two_any _ _ _ _ _ _ _).mono ?_
 intro e v3 h
 obtain ⟨V3,p3,q3,rfl,hV3,c3,d3,l3,m3,n3,r3,k3⟩:=h.v
 have g3:=f2.kept k3
 obtain ⟨w3,x3,i3,j3⟩:=run_ins Tryz.underlying209 Tryz.underlying9 g3.m (s:=⟨#[115,117,109]⟩) (g3.fresh (by simp)) V3
 have f3:=g3.ins i3 j3 ⟨_,_,_,_,_,_,_,hV3⟩
 clear f2 g3 i3 j3 hV3
 go_wp2_with (fail)
 clear x3
 refine (two_any _ _ _ _ _ _ _).mono ?_
 intro e v4 h
 obtain ⟨V4,p4,q4,rfl,hV4,c4,d4,l4,m4,n4,r4,k4⟩:=h.v
 have g4:=f3.kept k4
 obtain ⟨w4,x4,i4,j4⟩:=run_ins Tryz.underlying209 Tryz.underlying9 g4.m (s:=⟨#[112,108,111,116,107,105,110]⟩) (g4.fresh (by simp)) V4
 have f4:=g4.ins i4 j4 ⟨_,_,_,_,_,_,_,hV4⟩
 clear f3 g4 i4 j4 hV4
 go_wp2_with (fail)
 clear x4
 refine (two_any _ _ _ _ _ _ _).mono ?_
 intro e v5 h
 obtain ⟨V5,p5,q5,rfl,hV5,c5,d5,l5,m5,n5,r5,k5⟩:=h.v
 have g5:=f4.kept k5
 obtain ⟨w5,x5,i5,j5⟩:=run_ins Tryz.underlying209 Tryz.underlying9 g5.m (s:=⟨#[106,117,120,116,97,112,111,115,101]⟩) (g5.fresh (by simp)) V5
 have f5:=g5.ins i5 j5 ⟨_,_,_,_,_,_,_,hV5⟩
 clear f4 g5 i5 j5 hV5
 go_wp2_with (fail)
 clear x5
 refine (two_any _ _ _ _ _ _ _).mono ?_
 intro e v6 h
 obtain ⟨V6,p6,q6,rfl,hV6,c6,d6,l6,m6,n6,r6,k6⟩:=h.v
 have g6:=f5.kept k6
 obtain ⟨w6,x6,i6,j6⟩:=run_ins Tryz.underlying209 Tryz.underlying9 g6.m (s:=⟨#[112,114,111,100,117,99,116]⟩) (g6.fresh (by simp)) V6
 have f6:=g6.ins i6 j6 ⟨_,_,_,_,_,_,_,hV6⟩
 clear f5 g6 i6 j6 hV6
 go_wp2_with (fail)
 clear x6
 refine (codeRow_any _ _ _ _ _ _ _ _).mono ?_
 intro e v7 h
 obtain ⟨V7,p7,rfl,hV7,c7,l7,m7,k7⟩:=h.v
 have g7:=f6.kept k7
 obtain ⟨w7,x7,i7,j7⟩:=run_ins Tryz.underlying209 Tryz.underlying9 g7.m (s:=⟨#[99,111,110,99,97,116]⟩) (g7.fresh (by simp)) V7
 have f7:=g7.ins i7 j7 ⟨_,_,_,_,_,_,_,hV7⟩
 clear f6 g7 i7 j7 hV7
 go_wp2_with (fail)
 clear x7
 refine (codeRow_any _ _ _ _ _ _ _ _).mono ?_
 intro e v8 h
 obtain ⟨V8,p8,rfl,hV8,c8,l8,m8,k8⟩:=h.v
 have g8:=f7.kept k8
 obtain ⟨w8,x8,i8,j8⟩:=run_ins Tryz.underlying209 Tryz.underlying9 g8.m (s:=⟨#[120]⟩) (g8.fresh (by simp)) V8
 have f8:=g8.ins i8 j8 ⟨_,_,_,_,_,_,_,hV8⟩
 clear f7 g8 i8 j8 hV8
 go_wp2_with (fail)
 clear x8
 go_ret
 exact ⟨_,_,rfl,f8,trivial⟩
end Go.Proofs.YtoilbeadokallaaGreatDoor
