/- Words on memory that the walks share: a slice of ints that is read, one that the call itself made, a field in memory. No conditions. More words on memory: a slice of bools that the call made; append to a slice of ints that the call made. No conditions. append([]int{}, ys...): a copy in memory of its own. No conditions. -/
import Derived.Test.YtoilbeadokallaaGreatDoorK01
import Derived.Test.YtoilbeadokallaaGreatDoorProg
import Derived.WalkKit
import Derived.WalkSpells
import Derived.WalkSmall
import Derived.BigQuiet
import Derived.Laws.AppendOwnNone
import Derived.Lib.SliceRun
import Derived.Deep.RegionLawGrows
namespace Go.Proofs.YtoilbeadokallaaGreatDoor
open Go.RowKit
theorem hid {p:Prop} (h:p):Hid p:=h
theorem aW {k:IntKind} {a b:Int} (h:a=b):Ending.returned (.int k a)=.returned (.int k b):=by rw[h]
theorem EX {a b:Bool} (h:a=b):Ending.returned (.bool a)=.returned (.bool b):=by rw[h]
theorem iC {k:IntKind} {a b:Int} (h:a=b):Value.int k a=.int k b:=by rw[h]
theorem Tryz.infoInt:(Tryz.prog.info? 3).map (fun i=>(i.zero,i.size,i.bytes))=some (some (.int .i64 0),1,8):=by kernel_rfl
abbrev ay (w w':World):Prop:=Below w.heap.size w w'
theorem ay.rfl' (w:World):ay w w:=Below.refl _ _
theorem ay.tr {a b c:World} (h:ay a b) (k:ay b c):ay a c:=Below.trans h (k.mono h.size)
theorem aB (w:World) (n:Nat):ay w (w.drewN n):=below_drewN (Below.refl _ _) n
theorem ay.drewN {w w':World} (h:ay w w') (n:Nat):ay w (w'.drewN n):=below_drewN h n
theorem ay.cell' {w w':World} (h:ay w w') {b o:Nat} (hb:b<w.heap.size):w'.cell? ⟨b,o,none⟩=w.cell? ⟨b,o,none⟩:=Below.cell h (p:=⟨b,o,none⟩) hb
theorem ah (w:World) (o:Obj):ay w (w.alloc o):=(Below.refl _ _).alloc (zy _) o
theorem ay.lt {w w':World} (h:ay w w') {b:Nat} (hb:b<w.heap.size):b<w'.heap.size:=zZ hb h.size
def Sl (w:World) (v:Value) (xs:List Int):Prop:=
 ∃ (a:Option Addr) (cap:Nat),v=.slice a xs.length cap/\xs.length<=cap/\(cap<=maxLen/\(a=none->cap=0))/\
  (xs≠ []->∃ b off,a=some ⟨b,off,none⟩/\b<w.heap.size/\∀ i,i<xs.length->w.cell? ⟨b,off+i,none⟩=some (.int .i64 (xs.getD i 0)))
theorem Sl.kept {w w':World} {v:Value} {xs:List Int} (h:Sl w v xs) (k:ay w w'):Sl w' v xs:=by
 obtain⟨a,cap,h1,h2,h3,h4⟩:=h;refine⟨a,cap,h1,h2,h3,fun hx=>?_⟩;obtain⟨b,off,e,hb,hc⟩:=h4 hx;exact⟨b,off,e,k.lt hb,fun i hi=>(k.cell' hb).trans (hc i hi)⟩
def Own (w:World) (B:Nat) (v:Value) (xs:List Int):Prop:=w.ownsRow B 3 1 v xs.length (xs.map (Value.int .i64))
theorem Own.lt {w:World} {B g n cap:Nat} {xs:List Int} (h:Own w B (.slice (some ⟨g,0,none⟩) n cap) xs):B<=g/\g<w.heap.size:=by
 obtain⟨_,h⟩:=h;rcases h with⟨h,_⟩|⟨g',cap',cur,h,hb,hg,_⟩
 ·cases h
 ·cases h
  exact⟨hb,(zL.1 hg).1⟩
theorem Own.form {w:World} {B:Nat} {v:Value} {xs:List Int} (h:Own w B v xs):
  (v=.slice none 0 0/\xs=[])∨ ∃ g cap,v=.slice (some ⟨g,0,none⟩) xs.length cap/\B<=g/\g<w.heap.size/\xs.length<=cap/\cap<=maxLen:=by
 obtain⟨h1,h⟩:=h;rcases h with⟨h,h0⟩|⟨g,cap,cur,h,hb,hg,h2,h3,_⟩
 ·exact .inl ⟨h,zO h0⟩
 ·exact .inr ⟨g,cap,h,hb,(zL.1 hg).1,h2,h3⟩
theorem Own.cell {w:World} {B g n cap:Nat} {xs:List Int} (h:Own w B (.slice (some ⟨g,0,none⟩) n cap) xs) {i:Nat} (hi:i<xs.length):
  w.cell? ⟨g,i,none⟩=some (.int .i64 (xs.getD i 0)):=by
 have hn:n=xs.length:=by
  rcases h.form with⟨e,_⟩|⟨_,_,e,_⟩
  ·cases e
  ·cases e;rfl
 subst hn;have:=World.ownsRow.cellAt h i (by omega);rw[this];simp[List.getD,hi]
theorem Own.frozen {w:World} {B g n cap:Nat} {xs:List Int} (h:Own w B (.slice (some ⟨g,0,none⟩) n cap) xs) (i:Nat):w.frozen? ⟨g,i,none⟩=false:=by
 have hn:n=xs.length:=by
  rcases h.form with⟨e,_⟩|⟨_,_,e,_⟩
  ·cases e
  ·cases e;rfl
 subst hn;exact World.ownsRow.frozenAt h i
theorem Own.set {w:World} {B g n cap:Nat} {xs:List Int} (h:Own w B (.slice (some ⟨g,0,none⟩) n cap) xs) (i:Nat) (x:Int):
  Own (w.setCell ⟨g,i,none⟩ (.int .i64 x)) B (.slice (some ⟨g,0,none⟩) n cap) (xs.set i x):=by
 have hn:n=xs.length:=by
  rcases h.form with⟨e,_⟩|⟨_,_,e,_⟩
  ·cases e
  ·cases e;rfl
 subst hn;have:=(World.ownsRow.stored h i (.int .i64 x)).1;unfold Own;simpa[List.map_set] using this
theorem Own.sl {w:World} {B:Nat} {v:Value} {xs:List Int} (h:Own w B v xs):Sl w v xs:=by
 rcases h.form with⟨rfl,rfl⟩|⟨g,cap,rfl,_,hg,h2,h3⟩
 ·exact⟨none,0,rfl,zy _,⟨xZ _,fun _=>rfl⟩,fun h=>absurd rfl h⟩
 ·exact⟨_,cap,rfl,h2,⟨h3,fun e=>by cases e⟩,fun _=>⟨g,0,rfl,hg,fun i hi=>by rw[xQ];exact h.cell hi⟩⟩
theorem Own.of_block {w w':World} {B g n cap:Nat} {xs:List Int} (h:Own w B (.slice (some ⟨g,0,none⟩) n cap) xs) (hb:w'.heap[g]?=w.heap[g]?):Own w' B (.slice (some ⟨g,0,none⟩) n cap) xs:=by
 obtain⟨h1,h⟩:=h;rcases h with h|⟨g',cap',cur,e,hb',hg,r⟩
 ·exact⟨h1,.inl h⟩
 ·cases e
  exact⟨h1,.inr ⟨g,cap,cur,rfl,hb',by rw[hb];exact hg,r⟩⟩
theorem Own.kept {w w':World} {B:Nat} {v:Value} {xs:List Int} (h:Own w B v xs) (k:ay w w'):Own w' B v xs:=by
 rcases h.form with⟨rfl,rfl⟩|⟨g,cap,rfl,_,hg,h2,h3⟩
 ·exact⟨rfl,.inl ⟨rfl,rfl⟩⟩
 ·exact h.of_block (k.block g hg)
theorem Own.setOther {w:World} {B:Nat} {v:Value} {xs:List Int} (h:Own w B v xs) (p:Addr) (u:Value) (hp:∀ g n cap,v=.slice (some ⟨g,0,none⟩) n cap->g≠p.block):Own (w.setCell p u) B v xs:=by
 rcases h.form with⟨rfl,rfl⟩|⟨g,cap,rfl,_,hg,h2,h3⟩
 ·exact⟨rfl,.inl ⟨rfl,rfl⟩⟩
 ·exact h.of_block (Below.heap_setCell _ _ _ _ (hp _ _ _ rfl))
theorem Own.drew {w:World} {B:Nat} {v:Value} {xs:List Int} (h:Own w B v xs):Own w.drew B v xs:=World.ownsRow.drew h
theorem Own.drewN {w:World} {B:Nat} {v:Value} {xs:List Int} (h:Own w B v xs) (n:Nat):Own (w.drewN n) B v xs:=h.kept (aB w n)
theorem Own.mono {w:World} {B B':Nat} {v:Value} {xs:List Int} (h:Own w B v xs) (hB:B'<=B):Own w B' v xs:=by
 obtain⟨h1,h⟩:=h;rcases h with h|⟨g,cap,cur,e,hb,r⟩
 ·exact⟨h1,.inl h⟩
 ·exact⟨h1,.inr ⟨g,cap,cur,e,zJ hB hb,r⟩⟩
theorem bZ (w:World) (B:Nat):Own w B (.slice none 0 0) []:=⟨rfl,.inl ⟨rfl,rfl⟩⟩
theorem MC {w:World} {B g n:Nat} (h:w.ownsRow B 3 1 (.slice (some ⟨g,0,none⟩) n n) n (madeCells (Value.int .i64 0).cells (n*1)).toList):
  Own w B (.slice (some ⟨g,0,none⟩) n n) (List.replicate n 0):=by
 unfold Own;have e:(madeCells (Value.int .i64 0).cells (n*1)).toList=(List.replicate n (0:Int)).map (Value.int .i64):=by
  rw[uX,show(Value.int .i64 0).cells=#[.int .i64 0] from rfl,toList_madeCells_one,List.map_replicate]
 rw[e] at h;simpa using h
theorem oK {w w':World} (h:w.grownBy w' none):ay w w':=(Below.refl _ _).grown h (zy _) (fun _ e=>by cases e)
theorem ay.frozen' {w w':World} (h:ay w w') {b o:Nat} (hb:b<w.heap.size):w'.frozen? ⟨b,o,none⟩=w.frozen? ⟨b,o,none⟩:=Below.frozen h (p:=⟨b,o,none⟩) hb
theorem aJ {w:World} {ops:Array Oper} {rest:List Oper} {o:Oper} {a:Act} {Q:Exit->Act->World->Prop}
  (hg:o.guard=none) (l c:Operand) (hop:o.op=Op.makeSlice 22 l c) (n:Nat) (L C:Int) (hl:a.eval l=.int .i64 L) (hc:a.eval c=.int .i64 C) (hL:L=(n:Int)) (hC:C=(n:Int)) (hn:n<=1000000)
  (hK:∀ w',Own w' w.heap.size (.slice (some ⟨w.heap.size,0,none⟩) n n) (List.replicate n 0)->ay w w'->wpList Tryz.prog ops Q rest (a.put o.dst (.slice (some ⟨w.heap.size,0,none⟩) n n)) w'):
  wpList Tryz.prog ops Q (o::rest) a w:=by
 obtain⟨i0,hi,hz0,hz1,hz2⟩:=info_parts Tryz.infoInt;exact wpList_make_full w hg l c 22 hop w.heap.size 3 i0 (.int .i64 0) 1 Tryz.underlying22 hi hz0 hz1 .i64 .i64 L C n hl hc hL hC (by rw[hz2];omega) (by unfold maxLen;omega) (zy _)
  fun w' h1 h2=>hK w' (MC h1) (oK h2)
structure nJ (w:World) (b:Nat) (p m:Int) (vm:Value):Prop where
 lt:b<w.heap.size
 h0:w.cell? ⟨b,0,none⟩=some (.int .i64 p)
 h1:w.cell? ⟨b,1,none⟩=some (.int .i64 m)
 h2:w.cell? ⟨b,2,none⟩=some vm
theorem nJ.below {w w':World} {b B:Nat} {p m:Int} {vm:Value} (h:nJ w b p m vm) (k:Below B w w') (hb:b<B):nJ w' b p m vm:=
 ⟨zZ h.lt k.size,(Below.cell k (p:=⟨b,0,none⟩) hb).trans h.h0,(Below.cell k (p:=⟨b,1,none⟩) hb).trans h.h1,(Below.cell k (p:=⟨b,2,none⟩) hb).trans h.h2⟩
theorem nJ.kept {w w':World} {b:Nat} {p m:Int} {vm:Value} (h:nJ w b p m vm) (k:ay w w'):nJ w' b p m vm:=h.below k h.lt
theorem aS (w:World) (p m:Int) (vm:Value) (T:TypeId):nJ (w.alloc (.cells #[.int .i64 p,.int .i64 m,vm] T)) w.heap.size p m vm:=
 ⟨by simp,by simp,by simp,by simp⟩
theorem nJ.drewN {w:World} {b:Nat} {p m:Int} {vm:Value} (h:nJ w b p m vm) (n:Nat):nJ (w.drewN n) b p m vm:=h.kept (aB w n)
theorem nJ.drew {w:World} {b:Nat} {p m:Int} {vm:Value} (h:nJ w b p m vm):nJ w.drew b p m vm:=⟨h.lt,h.h0,h.h1,h.h2⟩
theorem aC (w:World):ay w w.drew:=Below.drew (Below.refl _ _)
theorem Sl.below {w w':World} {B:Nat} {v:Value} {xs:List Int} (h:Sl w v xs) (k:Below B w w') (hB:w.heap.size<=B):Sl w' v xs:=h.kept (k.mono hB)
theorem Own.get {w:World} {B:Nat} {v:Value} {xs:List Int} (h:Own w B v xs) (hn:v≠ .slice none 0 0):∃ g cap,v=.slice (some ⟨g,0,none⟩) xs.length cap/\B<=g/\g<w.heap.size:=by
 rcases h.form with⟨e,_⟩|⟨g,cap,e,h1,h2,_⟩
 ·exact absurd e hn
 ·exact⟨g,cap,e,h1,h2⟩
end Go.Proofs.YtoilbeadokallaaGreatDoor
namespace Go.Proofs.YtoilbeadokallaaGreatDoor
open Go.RowKit
theorem Hy (w:World) (a:Option Addr) (n c:Nat):(binOp .eql 22 (.slice a n c) (.slice none 0 0)).run Tryz.prog w=.ok (.bool a.isNone) w:=Lib.run_eql_slice_nil w _ _ a n c 0 0 Tryz.underlying22
theorem Tryz.infoBool:(Tryz.prog.info? 4).map (fun i=>(i.zero,i.size,i.bytes))=some (some (.bool false),1,1):=by kernel_rfl
def lG (w:World) (B:Nat) (v:Value) (xs:List Bool):Prop:=w.ownsRow B 4 1 v xs.length (xs.map Value.bool)
theorem lG.form {w:World} {B:Nat} {v:Value} {xs:List Bool} (h:lG w B v xs):
  (v=.slice none 0 0/\xs=[])∨ ∃ g cap,v=.slice (some ⟨g,0,none⟩) xs.length cap/\B<=g/\g<w.heap.size:=by
 obtain⟨h1,h⟩:=h;rcases h with⟨h,h0⟩|⟨g,cap,cur,h,hb,hg,h2,h3,_⟩
 ·exact .inl ⟨h,zO h0⟩
 ·exact .inr ⟨g,cap,h,hb,(zL.1 hg).1⟩
theorem lG.len {w:World} {B g n cap:Nat} {xs:List Bool} (h:lG w B (.slice (some ⟨g,0,none⟩) n cap) xs):n=xs.length:=by
 rcases h.form with⟨e,_⟩|⟨_,_,e,_⟩
 ·cases e
 ·cases e;rfl
theorem lG.cell {w:World} {B g n cap:Nat} {xs:List Bool} (h:lG w B (.slice (some ⟨g,0,none⟩) n cap) xs) {i:Nat} (hi:i<xs.length):
  w.cell? ⟨g,i,none⟩=some (.bool (xs.getD i false)):=by
 have hn:=h.len;subst hn;have:=World.ownsRow.cellAt h i (by omega);rw[this];simp[List.getD,hi]
theorem lG.frozen {w:World} {B g n cap:Nat} {xs:List Bool} (h:lG w B (.slice (some ⟨g,0,none⟩) n cap) xs) (i:Nat):w.frozen? ⟨g,i,none⟩=false:=by
 have hn:=h.len;subst hn;exact World.ownsRow.frozenAt h i
theorem lG.set {w:World} {B g n cap:Nat} {xs:List Bool} (h:lG w B (.slice (some ⟨g,0,none⟩) n cap) xs) (i:Nat) (x:Bool):
  lG (w.setCell ⟨g,i,none⟩ (.bool x)) B (.slice (some ⟨g,0,none⟩) n cap) (xs.set i x):=by
 have hn:=h.len;subst hn;have:=(World.ownsRow.stored h i (.bool x)).1;unfold lG;simpa[List.map_set] using this
theorem lG.of_block {w w':World} {B g n cap:Nat} {xs:List Bool} (h:lG w B (.slice (some ⟨g,0,none⟩) n cap) xs) (hb:w'.heap[g]?=w.heap[g]?):lG w' B (.slice (some ⟨g,0,none⟩) n cap) xs:=by
 obtain⟨h1,h⟩:=h;rcases h with h|⟨g',cap',cur,e,hb',hg,r⟩
 ·exact⟨h1,.inl h⟩
 ·cases e
  exact⟨h1,.inr ⟨g,cap,cur,rfl,hb',by rw[hb];exact hg,r⟩⟩
theorem lG.mono {w:World} {B B':Nat} {v:Value} {xs:List Bool} (h:lG w B v xs) (hB:B'<=B):lG w B' v xs:=by
 obtain⟨h1,h⟩:=h;rcases h with h|⟨g,cap,cur,e,hb,r⟩
 ·exact⟨h1,.inl h⟩
 ·exact⟨h1,.inr ⟨g,cap,cur,e,zJ hB hb,r⟩⟩
theorem lG.lt {w:World} {B g n cap:Nat} {xs:List Bool} (h:lG w B (.slice (some ⟨g,0,none⟩) n cap) xs):B<=g/\g<w.heap.size:=by
 rcases h.form with⟨e,_⟩|⟨_,_,e,h1,h2⟩
 ·cases e
 ·cases e;exact⟨h1,h2⟩
theorem lG.kept {w w':World} {B g n cap:Nat} {xs:List Bool} (h:lG w B (.slice (some ⟨g,0,none⟩) n cap) xs) (k:ay w w'):lG w' B (.slice (some ⟨g,0,none⟩) n cap) xs:=h.of_block (k.block g h.lt.2)
theorem BG {w:World} {B B' g g' n n' cap cap':Nat} {xs:List Int} {bs:List Bool} (h:Own w B (.slice (some ⟨g,0,none⟩) n cap) xs) (h':lG w B' (.slice (some ⟨g',0,none⟩) n' cap') bs):g≠g':=by
 rintro rfl;obtain⟨_,h|⟨_,_,c1,e,_,hg,_⟩⟩:=h
 ·cases h.1
 cases e
 obtain⟨_,h'|⟨_,_,c2,e,_,hg',_⟩⟩:=h'
 ·cases h'.1
 cases e
 rw[hg] at hg';simp at hg'
theorem iK {w:World} {ops:Array Oper} {rest:List Oper} {o:Oper} {a:Act} {Q:Exit->Act->World->Prop}
  (hg:o.guard=none) (l c:Operand) (hop:o.op=Op.makeSlice 112 l c) (n:Nat) (L C:Int) (hl:a.eval l=.int .i64 L) (hc:a.eval c=.int .i64 C) (hL:L=(n:Int)) (hC:C=(n:Int)) (hn:n<=1000000)
  (hK:∀ w',lG w' w.heap.size (.slice (some ⟨w.heap.size,0,none⟩) n n) (List.replicate n false)->ay w w'->wpList Tryz.prog ops Q rest (a.put o.dst (.slice (some ⟨w.heap.size,0,none⟩) n n)) w'):
  wpList Tryz.prog ops Q (o::rest) a w:=by
 obtain⟨i0,hi,hz0,hz1,hz2⟩:=info_parts Tryz.infoBool;refine wpList_make_full w hg l c 112 hop w.heap.size 4 i0 (.bool false) 1 Tryz.underlying112 hi hz0 hz1 .i64 .i64 L C n hl hc hL hC (by rw[hz2];omega) (by unfold maxLen;omega) (zy _)
  fun w' h1 h2=>hK w' ?_ (oK h2)
 have e:(madeCells (Value.bool false).cells (n*1)).toList=(List.replicate n false).map Value.bool:=by
  rw[uX,show(Value.bool false).cells=#[.bool false] from rfl,toList_madeCells_one,List.map_replicate]
 rw[e] at h1;unfold lG;simpa using h1
theorem iD {w:World} {ops:Array Oper} {rest:List Oper} {o:Oper} {a:Act} {Q:Exit->Act->World->Prop} (hgd:o.guard=none) (s x:Operand)
  (ho:o.op=.call {callee:=.builtin .append,args:=#[s,x],argTypes:=#[22,22]}) (B:Nat) (v:Value) (xs:List Int) (hs:a.eval s=v) (hown:Own w B v xs)
  (ao:Option Addr) (m c:Nat) (ys:List Int) (hx:a.eval x=.slice ao m c) (hm:ys.length=m) (hc0:ao=none->c=0) (hys:ys≠ []->ao≠none) (hc:∀ ad,ao=some ad->∀ j,j<ys.length->w.cell? (ad.add j)=some (.int .i64 (ys.getD j 0)))
  (hlen:xs.length+m<=1000000) (hB:B<=w.heap.size)
  (h:∀ v' w',Own w' B v' (xs++ys)->w.grownBy w' v.ownBlock->(v'=.slice none 0 0↔v=.slice none 0 0/\m=0)->wpList Tryz.prog ops Q rest (a.put o.dst v') w'):wpList Tryz.prog ops Q (o::rest) a w:=by
 obtain⟨i0,hi,hz0,hz1,hz2⟩:=info_parts Tryz.infoInt;cases ao with
 |none=>
  have h0:c=0:=hc0 rfl;have hy:ys=[]:=by
   rcases ys with _|⟨y,ys⟩
   ·rfl
   ·exact absurd rfl (hys (by simp))
  subst hy;simp at hm;subst hm h0;exact wpList_append_own_none hgd s x 22 ho B 3 i0 1 Tryz.underlying22 hi v xs.length _ hs hown hx (h v w (by simpa using hown) (World.grownBy.refl _ _) (by simp))
 |some ad=>
  refine wpList_append_own _ hgd s x 22 ho B 3 i0 (.int .i64 0) 1 8 Tryz.underlying22 hi hz0 hz1 hz2 rfl (by decide) v xs.length _ hs hown ad m c (ys.map (Value.int .i64)) hx (by simp[hm]) (fun j u hu=>?_) (ints_oneCell _ _) (by unfold maxLen;omega) (by omega) hB
   fun v' w' h1 h2 h3=>h v' w' (by unfold Own;simpa[hm] using h1) h2 h3
  have hj:j<ys.length:=by have:=(zN.1 hu).1;simpa using this
  rw[hc ad rfl j hj];simp[zq hj] at hu;simp[List.getD,zq hj,hu]
theorem iW {w:World} {B:Nat} (hB:B<=w.heap.size):Own (w.alloc (.cells #[] 3)) B (.slice (some ⟨w.heap.size,0,none⟩) 0 0) []:=by
 have h0:=World.ownsRow_lit (size:=1) (e:=3) (base:=B) w #[] 0 hB (by unfold maxLen;omega) rfl;unfold Own;simpa using h0
theorem aU {w:World} {b:Nat} {v:Value} {T:TypeId} (h:w.heap.size=b):(w.alloc (.cells #[v] T)).cell? ⟨b,0,none⟩=some v:=by subst h;simp
theorem bG {w:World} {ops:Array Oper} {rest:List Oper} {o:Oper} {a:Act} {Q:Exit->Act->World->Prop} (hgd:o.guard=none) (s x:Operand)
  (ho:o.op=.call {callee:=.builtin .append,args:=#[s,x],argTypes:=#[22,22]}) (B:Nat) (v:Value) (xs:List Int) (hs:a.eval s=v) (hown:Own w B v xs)
  (ad:Addr) (y:Int) (hx:a.eval x=.slice (some ad) 1 1) (hc:w.cell? ad=some (.int .i64 y)) (hlen:xs.length+1<=1000000) (hB:B<=w.heap.size)
  (h:∀ v' w',Own w' B v' (xs++ [y])->w.grownBy w' v.ownBlock->wpList Tryz.prog ops Q rest (a.put o.dst v') w'):wpList Tryz.prog ops Q (o::rest) a w:=
 iD hgd s x ho B v xs hs hown (some ad) 1 1 [y] hx rfl (by simp) (by simp) (fun ad' e j hj=>by
  cases e
  obtain rfl:j=0:=by simpa using hj
  have:ad.add 0=ad:=by cases ad;simp[Addr.add]
  rw[this,hc];rfl) hlen hB fun v' w' h1 h2 _=>h v' w' h1 h2
theorem nM {w0 w w':World} {B B':Nat} {v:Value} {xs:List Int} (h:Below B w0 w) (hB:B<=w.heap.size) (hown:Own w B' v xs) (hB':B<=B') (hg:w.grownBy w' v.ownBlock):Below B w0 w':=
 h.grown hg hB (fun k hk=>by
  rcases hown.form with⟨rfl,_⟩|⟨g,cap,rfl,hg',_⟩
  ·cases hk
  ·cases hk;exact zJ hB' hg')
theorem lG.append {w w':World} {B B' g n cap:Nat} {v:Value} {xs:List Int} {bs:List Bool} (h:lG w B (.slice (some ⟨g,0,none⟩) n cap) bs) (hown:Own w B' v xs) (hg:w.grownBy w' v.ownBlock):lG w' B (.slice (some ⟨g,0,none⟩) n cap) bs:=
 h.of_block (hg.block g h.lt.2 (fun e=>by
  rcases hown.form with⟨rfl,_⟩|⟨g',cap',rfl,_⟩
  ·cases e
  ·cases e;exact BG hown h rfl))
theorem Own.setB {w:World} {B B' g n cap:Nat} {v:Value} {xs:List Int} {bs:List Bool} (h:Own w B v xs) (hb:lG w B' (.slice (some ⟨g,0,none⟩) n cap) bs) (i:Nat) (u:Value):Own (w.setCell ⟨g,i,none⟩ u) B v xs:=by
 rcases h.form with⟨rfl,rfl⟩|⟨g',cap',rfl,_⟩
 ·exact bZ _ _
 ·exact h.of_block (Below.heap_setCell _ _ _ _ (BG h hb))
attribute [go_sem] Hy
end Go.Proofs.YtoilbeadokallaaGreatDoor
namespace Go.Proofs.YtoilbeadokallaaGreatDoor
open Go.RowKit
theorem nN {w w':World} {g:Nat} (h:w.grownBy w' none):w.grownBy w' (some g):=⟨h.os,h.tape,h.output,h.size,fun k hk _=>h.block k hk (by simp)⟩
theorem dI {w0 w w':World} {B g:Nat} (h:Below B w0 w) (hg:w.grownBy w' (some g)) (hB:B<=w.heap.size) (hBg:B<=g):Below B w0 w':=h.grown hg hB (fun k e=>by cases e;exact hBg)
theorem EY {w:World} {ty:TypeId} {B g0:Nat} (hown:Own w B (.slice (some ⟨g0,0,none⟩) 0 0) []) (ao:Option Addr) (c:Nat) (ys:List Int) (hc0:ao=none->c=0) (hys:ys≠ []->ao≠none)
  (hc:∀ ad,ao=some ad->∀ j,j<ys.length->w.cell? (ad.add j)=some (.int .i64 (ys.getD j 0))) (hlen:ys.length<=1000000):
  ∃ gm cm w',(Builtin.append_ #[22,22] ty #[.slice (some ⟨g0,0,none⟩) 0 0,.slice ao ys.length c]).run Tryz.prog w=.ok (.slice (some ⟨gm,0,none⟩) ys.length cm) w'/\w.grownBy w' (some g0)/\
   (ys≠ []->w.heap.size<=gm)/\B<=gm/\Own w' B (.slice (some ⟨gm,0,none⟩) ys.length cm) ys:=by
 obtain⟨i0,hi,hz0,hz1,hz2⟩:=info_parts Tryz.infoInt;have hcells:∀ ad,ao=some ad->∀ j u,(ys.map (Value.int .i64))[j]?=some u->w.cell? (ad.add j)=some u:=fun ad had j u hu=>by
  have hj:j<ys.length:=by have:=(zN.1 hu).1;simpa using this
  rw[hc ad had j hj];simp[zq hj] at hu;simp[List.getD,zq hj,hu]
 by_cases hy:ys=[]
 ·subst hy;cases ao with
  |none=>
   have h0:=hc0 rfl;subst h0;have hrun:=run_append_owned_none (P:=Tryz.prog) (w:=w) B 22 ty 3 i0 1 Tryz.underlying22 hi _ 0 _ hown;exact⟨g0,0,w,hrun,World.grownBy.refl _ _,fun h=>absurd rfl h,hown.lt.1,hown⟩
  |some ad=>
   obtain⟨w',hrun,h1,h2⟩:=run_append_fits (P:=Tryz.prog) w B 22 ty 3 i0 1 Tryz.underlying22 hi hz1 g0 0 0 _ hown ad 0 c [] rfl (by simp) (by simp) (by simp);exact⟨g0,0,w',hrun,h2,fun h=>absurd rfl h,hown.lt.1,by unfold Own;simpa using h1⟩
 ·cases ao with
  |none=>exact absurd rfl (hys hy)
  |some ad=>
   have hpos:0<ys.length:=by cases ys with
    |nil=>exact absurd rfl hy
    |cons _ _=>simp
   obtain⟨v',w',hrun,h1,h2⟩:=run_append_arg_grows (P:=Tryz.prog) w 22 ty 3 i0 (.int .i64 0) 1 8 Tryz.underlying22 hi hz0 hz1 hz2 rfl (by decide) ⟨g0,0,none⟩ 0 0 [] rfl (by simp) ad ys.length c (ys.map (Value.int .i64)) (by simp) (hcells ad rfl) (by omega) (by unfold maxLen;omega) (by omega);have ho:Own w' w.heap.size v' ys:=by unfold Own;simpa using h1
   rcases ho.form with⟨_,e⟩|⟨gm,cm,rfl,h3,h4,_⟩
   ·exact absurd e hy
   ·have:=hown.lt;exact⟨gm,cm,w',hrun,nN h2,fun _=>h3,by omega,ho.mono (by omega)⟩
theorem gI {w:World} {ops:Array Oper} {o:Oper} {a:Act} {K:Act->World->Prop} {Q:Exit->Act->World->Prop} {E:Prop} (hgd:o.guard=none) (s x:Operand)
  (ho:o.op=.call {callee:=.builtin .append,args:=#[s,x],argTypes:=#[22,22]}) (B g0:Nat) (hs:a.eval s=.slice (some ⟨g0,0,none⟩) 0 0) (hown:Own w B (.slice (some ⟨g0,0,none⟩) 0 0) [])
  (ao:Option Addr) (m c:Nat) (ys:List Int) (hx:a.eval x=.slice ao m c) (hm:ys.length=m) (hc0:ao=none->c=0) (hys:ys≠ []->ao≠none) (hc:∀ ad,ao=some ad->∀ j,j<ys.length->w.cell? (ad.add j)=some (.int .i64 (ys.getD j 0))) (hlen:ys.length<=1000000)
  (h:∀ gm cm w',w.grownBy w' (some g0)->(ys≠ []->w.heap.size<=gm)->B<=gm->Own w' B (.slice (some ⟨gm,0,none⟩) m cm) ys->K (a.put o.dst (.slice (some ⟨gm,0,none⟩) m cm)) w'):
  if Region.wanted o (yielded ops a.tmps)=true then Oper.wp Tryz.prog o a w K Q else E:=by
 have hw:Region.wanted o (yielded ops a.tmps)=true:=by simp[Region.wanted,hgd]
 rw[zu hw];subst hm;obtain⟨gm,cm,w',hrun,h1,h2,h3,h4⟩:=EY (ty:=o.type) hown ao c ys hc0 hys hc hlen;unfold Oper.wp;simp[execOp,ho,resolve,invoke,builtin,hs,hx,hrun,Result.andThen];exact h gm cm w' h1 h2 h3 h4
theorem gW {w:World} {ops:Array Oper} {rest:List Oper} {o:Oper} {a:Act} {Q:Exit->Act->World->Prop} (hgd:o.guard=none) (s x:Operand)
  (ho:o.op=.call {callee:=.builtin .append,args:=#[s,x],argTypes:=#[22,22]}) (B g0:Nat) (hs:a.eval s=.slice (some ⟨g0,0,none⟩) 0 0) (hown:Own w B (.slice (some ⟨g0,0,none⟩) 0 0) [])
  (ao:Option Addr) (m c:Nat) (ys:List Int) (hx:a.eval x=.slice ao m c) (hm:ys.length=m) (hc0:ao=none->c=0) (hys:ys≠ []->ao≠none) (hc:∀ ad,ao=some ad->∀ j,j<ys.length->w.cell? (ad.add j)=some (.int .i64 (ys.getD j 0))) (hlen:ys.length<=1000000)
  (h:∀ gm cm w',w.grownBy w' (some g0)->(ys≠ []->w.heap.size<=gm)->B<=gm->Own w' B (.slice (some ⟨gm,0,none⟩) m cm) ys->wpList Tryz.prog ops Q rest (a.put o.dst (.slice (some ⟨gm,0,none⟩) m cm)) w'):wpList Tryz.prog ops Q (o::rest) a w:=
 wpList_plain hgd fun K hK=>by
  have:=gI (E:=False) (ops:=ops) (K:=K) (Q:=Q) hgd s x ho B g0 hs hown ao m c ys hx hm hc0 hys hc hlen (fun gm cm w' h1 h2 h3 h4=>hK _ _ (h gm cm w' h1 h2 h3 h4))
  rwa [zu (by simp[Region.wanted,hgd])] at this
theorem qJ (n:Nat) (hn:n<=1000000) (w:World):(Instr.makeSlice 22 (.int .i64 n) (.int .i64 n)).run Tryz.prog w=.ok (.slice (some ⟨w.heap.size,0,none⟩) n n) (w.alloc (.cells (madeCells #[.int .i64 0] n) 3)):=by
 obtain⟨i0,hi,hz0,hz1,hz2⟩:=info_parts Tryz.infoInt;have h:=run_make (P:=Tryz.prog) w 22 3 i0 (.int .i64 0) Tryz.underlying22 hi hz0 .i64 .i64 n n (by omega) (rY _) (by rw[hz2];omega) (by omega);rw[hz1,uX,show(Value.int .i64 0).cells=#[.int .i64 0] from rfl] at h;simpa using h
theorem jA {w:World} {n B:Nat} (hn:n<=1000000) (hB:B<=w.heap.size):Own (w.alloc (.cells (madeCells #[.int .i64 0] n) 3)) B (.slice (some ⟨w.heap.size,0,none⟩) n n) (List.replicate n 0):=by
 refine MC ?_;have h:=World.ownsRow_lit (size:=1) (e:=3) (base:=B) w (madeCells #[.int .i64 0] n) n hB (by unfold maxLen;omega) (by simp[size_madeCells]);rw[uX];exact h
theorem Own.grown {w w':World} {B g n cap g':Nat} {xs:List Int} (h:Own w B (.slice (some ⟨g,0,none⟩) n cap) xs) (hg:w.grownBy w' (some g')) (hn:g≠g'):Own w' B (.slice (some ⟨g,0,none⟩) n cap) xs:=
 h.of_block (hg.block g h.lt.2 (fun e=>hn (by cases e;rfl)))
theorem aO {a b c:World} {g:Nat} (h:a.grownBy b (some g)) (k:b.grownBy c (some g)):a.grownBy c (some g):=
 ⟨k.os.trans h.os,k.tape.trans h.tape,k.output.trans h.output,zJ h.size k.size,fun i hi hn=>(k.block i (zZ hi h.size) hn).trans (h.block i hi hn)⟩
theorem aj (w:World) (g i:Nat) (u:Value):w.grownBy (w.setCell ⟨g,i,none⟩ u) (some g):=
 ⟨rfl,rfl,rfl,by simp[World.setCell],fun k _ hn=>Below.heap_setCell _ _ _ _ (fun e=>hn (by rw[e]))⟩
end Go.Proofs.YtoilbeadokallaaGreatDoor
