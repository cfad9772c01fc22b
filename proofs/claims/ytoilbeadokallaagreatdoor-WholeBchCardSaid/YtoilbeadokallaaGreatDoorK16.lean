/- Struct results that lie in a block of the call's own; blocks whose cells are known and stores into them. No conditions. -/
import Derived.Test.YtoilbeadokallaaGreatDoorK13
namespace Go.Proofs.YtoilbeadokallaaGreatDoor
section
open Go.RowKit
section
variable {P:Program} {fn:Func} {tmps:Array Value} {w:World}
theorem dQ {a:Nat} {t:TypeId} (h:fn.results=#[.cell a t]) {b:Nat} {v:Value} (ha:tmps.getD a undef=.pointer (some ⟨b,0,none⟩)) (hl:(loadVar t ⟨b,0,none⟩).run P w=.ok v w):(results fn tmps).run P w=.ok v w:=by
 have hx:tmps[a]?.getD undef=.pointer (some ⟨b,0,none⟩):=by simpa using ha
 simp[results,h,hx,asAddr,hl]
theorem aF {a:Nat} {t:TypeId} {e:Tmp} (h:fn.results=#[.cell a t,.tmp e]) {b:Nat} {v:Value} (ha:tmps.getD a undef=.pointer (some ⟨b,0,none⟩)) (hl:(loadVar t ⟨b,0,none⟩).run P w=.ok v w):(results fn tmps).run P w=.ok (.tuple #[v,tmps.getD e undef]) w:=by
 have hx:tmps[a]?.getD undef=.pointer (some ⟨b,0,none⟩):=by simpa using ha
 simp[results,h,hx,asAddr,hl]
theorem F6 {a a' a'':Nat} {t t' t'':TypeId} (h:fn.results=#[.cell a t,.cell a' t',.cell a'' t'']) {b b' b'':Nat} {v v' v'':Value} (ha:tmps.getD a undef=.pointer (some ⟨b,0,none⟩)) (ha':tmps.getD a' undef=.pointer (some ⟨b',0,none⟩)) (ak8:tmps.getD a'' undef=.pointer (some ⟨b'',0,none⟩))
  (hl:(loadVar t ⟨b,0,none⟩).run P w=.ok v w) (hl':(loadVar t' ⟨b',0,none⟩).run P w=.ok v' w) (hl'':(loadVar t'' ⟨b'',0,none⟩).run P w=.ok v'' w):(results fn tmps).run P w=.ok (.tuple #[v,v',v'']) w:=by
 have hx:tmps[a]?.getD undef=.pointer (some ⟨b,0,none⟩):=by simpa using ha
 have hx':tmps[a']?.getD undef=.pointer (some ⟨b',0,none⟩):=by simpa using ha'
 have hx'':tmps[a'']?.getD undef=.pointer (some ⟨b'',0,none⟩):=by simpa using ak8
 simp[results,h,hx,hx',hx'',asAddr,hl,hl',hl'',Result.andThen]
end
theorem Bk.set {w:World} {b:Nat} {cs:List Value} (h:Bk w b cs) (k:Nat) (v:Value):Bk (w.setCell ⟨b,k,none⟩ v) b (cs.set k v):=
 ⟨by simpa[World.setCell] using h.1,fun i u hu=>by
  by_cases e:i=k
  ·subst e;have hi:i<cs.length:=by have:=(zN.1 hu).1;simpa using this
   have h1:=h.2 i _ (zq hi);have h2:u=v:=by
    rw[xM hi] at hu;simpa using hu.symm
   rw[h2];exact gQ h1
  ·rw[zS (Ne.symm e)] at hu;rw[World.cell?_setCell_other _ _ _ _ (by simp)];exact h.2 i u hu⟩
theorem Bk.oth {w:World} {b:Nat} {cs:List Value} (h:Bk w b cs) {b' k:Nat} (hb:b'≠b) (v:Value):Bk (w.setCell ⟨b',k,none⟩ v) b cs:=
 ⟨by simpa[World.setCell] using h.1,fun i u hu=>by
  rw[aZ (aj w b' k v) h.1 hb.symm];exact h.2 i u hu⟩
theorem Bk.drewN {w:World} {b:Nat} {cs:List Value} (h:Bk w b cs) (n:Nat):Bk (w.drewN n) b cs:=h.kept (aB w n)
theorem Bk.gb {a w:World} {b q:Nat} {cs:List Value} (h:Bk a b cs) (hg:a.grownBy w (some q)) (hb:b≠q):Bk w b cs:=
 ⟨zZ h.1 hg.size,fun i u hu=>by rw[aZ hg h.1 hb];exact h.2 i u hu⟩
theorem Fz.oth {w:World} {b:Nat} (h:Fz w b) (p:Addr) (v:Value):Fz (w.setCell p v) b:=⟨by simpa[World.setCell] using h.1,fun i=>by rw[World.frozen?_setCell];exact h.2 i⟩
theorem Fz.drewN {w:World} {b:Nat} (h:Fz w b) (n:Nat):Fz (w.drewN n) b:=h.kept (aB w n)
theorem TG {a w:World} {b q i:Nat} (hg:a.grownBy w (some q)) (h:b<a.heap.size) (hb:b≠q):w.frozen? ⟨b,i,none⟩=a.frozen? ⟨b,i,none⟩:=by
 unfold World.frozen?;rw[hg.block b h (fun e=>hb (by cases e;rfl))]
theorem Fz.gb {a w:World} {b q:Nat} (h:Fz a b) (hg:a.grownBy w (some q)) (hb:b≠q):Fz w b:=⟨zZ h.1 hg.size,fun i=>by rw[TG hg h.1 hb];exact h.2 i⟩
theorem Dc {w:World} {b:Nat} {u0 u1 u2 u3 u4:Value} (h:Bk w b [u0,u1,u2,u3,u4]):(loadVar 50 ⟨b,0,none⟩).run Tryz.prog w=.ok (.agg #[u0,u1,u2,u3,u4]) w:=by
 have c0:=h.2 0 _ rfl;have c1:=h.2 1 _ rfl;have c2:=h.2 2 _ rfl;have c3:=h.2 3 _ rfl;have c4:=h.2 4 _ rfl;simp[go_sem,c0,c1,c2,c3,c4]
theorem bT {w:World} {b:Nat} {u0 u1 u2 u3 u4:Value} (h:Bk w b [u0,u1,u2,u3,u4]):(loadVar 29 ⟨b,0,none⟩).run Tryz.prog w=.ok (.agg #[u0,u1,u2,u3,u4]) w:=by
 have c0:=h.2 0 _ rfl;have c1:=h.2 1 _ rfl;have c2:=h.2 2 _ rfl;have c3:=h.2 3 _ rfl;have c4:=h.2 4 _ rfl;simp[go_sem,c0,c1,c2,c3,c4]
theorem mF {w:World} {b:Nat} {u0 u1:Value} (h:Bk w b [u0,u1]):(loadVar 71 ⟨b,0,none⟩).run Tryz.prog w=.ok (.agg #[u0,u1]) w:=by
 have c0:=h.2 0 _ rfl;have c1:=h.2 1 _ rfl;simp[go_sem,c0,c1]
theorem O7 {w:World} {b:Nat} {u0 u1 u2:Value} (h:Bk w b [u0,u1,u2]):(loadVar 24 ⟨b,0,none⟩).run Tryz.prog w=.ok (.agg #[u0,u1,u2]) w:=by
 have c0:=h.2 0 _ rfl;have c1:=h.2 1 _ rfl;have c2:=h.2 2 _ rfl;simp[go_sem,c0,c1,c2]
theorem je {w:World} {b:Nat} {u0 u1 u2:Value} (h:Bk w b [u0,u1,u2]):(loadVar 202 ⟨b,0,none⟩).run Tryz.prog w=.ok (.agg #[u0,u1,u2]) w:=by
 have c0:=h.2 0 _ rfl;have c1:=h.2 1 _ rfl;have c2:=h.2 2 _ rfl;simp[go_sem,c0,c1,c2]
theorem gZ {w:World} {b:Nat} {u0 u1 u2 u3 u4 u5 u6 u7 u8 u9:Value} (h:Bk w b [u0,u1,u2,u3,u4,u5,u6,u7,u8,u9]):(loadVar 91 ⟨b,0,none⟩).run Tryz.prog w=.ok (.agg #[u0,u1,u2,u3,u4,u5,u6,u7,u8,u9]) w:=by
 have c0:=h.2 0 _ rfl;have c1:=h.2 1 _ rfl;have c2:=h.2 2 _ rfl;have c3:=h.2 3 _ rfl;have c4:=h.2 4 _ rfl;have c5:=h.2 5 _ rfl;have c6:=h.2 6 _ rfl;have c7:=h.2 7 _ rfl;have c8:=h.2 8 _ rfl;have c9:=h.2 9 _ rfl;simp[go_sem,c0,c1,c2,c3,c4,c5,c6,c7,c8,c9]
end
end Go.Proofs.YtoilbeadokallaaGreatDoor
