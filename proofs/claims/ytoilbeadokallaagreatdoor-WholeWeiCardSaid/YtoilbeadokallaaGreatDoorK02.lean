/- What the functions of the field's layer come to, in plain terms: no program in sight. The powers of a residue, in plain terms. A field's tables, in plain terms. Sums and negatives of coefficients, and what the tables of a field hold, in plain terms. Powers, sums and products of lists, in plain terms. What the reference's functions on fields come to, in plain terms. The reference's sums and products of two elements, in plain terms: coefficient by coefficient; the product of the polynomials, reduced from the highest power on. No program in sight. -/
namespace Cw
def ordS (p m:Int):Int:=if 2≤p∧p≤256∧1≤m∧m≤8∧p ^ m.toNat≤256 then p ^ m.toNat else 0
def Prm (n:Int):Prop:=2≤n∧∀ d:Int,2≤d→d < n→n % d ≠ 0
def dgt (p x:Int) (i:Nat):Int:=x / p ^ i % p
def digL (p x:Int) (m:Nat):List Int:=(List.range m).map (dgt p x)
def valL (p:Int):List Int→Int
 | []=>0
 | d :: l=>d + p * valL p l
theorem ordS_yes {p m:Int} (h1:2≤p) (h2:p≤256) (h3:1≤m) (h4:m≤8) (h5:p ^ m.toNat≤256):ordS p m=p ^ m.toNat:=if_pos ⟨h1,h2,h3,h4,h5⟩
theorem ordS_no {p m:Int} (h:¬ (2≤p∧p≤256∧1≤m∧m≤8∧p ^ m.toNat≤256)):ordS p m=0:=if_neg h
theorem pow_le {p:Int} (hp:1≤p) {i j:Nat} (h:i≤j):p ^ i≤p ^ j:=by
 obtain ⟨k,rfl⟩:=Nat.exists_eq_add_of_le h
 induction k with
 | zero=>exact Int.le_refl _
 | succ k ih =>
  have h1:0 < p ^ (i + k):=Int.pow_pos (by omega)
  have h2:=ih (by omega)
  rw [← Nat.add_assoc,Int.pow_succ]
  have h3:p ^ (i + k) * 1≤p ^ (i + k) * p:=Int.mul_le_mul_of_nonneg_left hp (by omega)
  omega
theorem ordS_pos {p m:Int} (h:ordS p m ≠ 0):2≤p∧p≤256∧1≤m∧m≤8∧p ^ m.toNat≤256∧ordS p m=p ^ m.toNat:=by
 unfold ordS at *
 split at h
 ·rename_i g;exact ⟨g.1,g.2.1,g.2.2.1,g.2.2.2.1,g.2.2.2.2,by rw [if_pos g]⟩
 ·exact absurd rfl h
theorem prm_of {n:Int} {d:Int} (h2:2≤n) (hd:2≤d) (hn:n < d * d) (h:∀ c:Int,2≤c→c < d→n % c ≠ 0):Prm n:=by
 refine ⟨h2,fun c hc hcn hz=>?_⟩
 by_cases hcd:c < d
 ·exact h c hc hcd hz
 ·have e:=Int.mul_ediv_add_emod n c
  rw [hz,Int.add_zero] at e
  have hk1:1 < n / c:=by
   rcases Int.lt_or_le 1 (n / c) with g | g
   ·exact g
   ·have:c * (n / c)≤c * 1:=Int.mul_le_mul_of_nonneg_left g (by omega)
    omega
  have hkd:n / c < d:=by
   rcases Int.lt_or_le (n / c) d with g | g
   ·exact g
   ·have h3:d * d≤c * d:=Int.mul_le_mul_of_nonneg_right (by omega) (by omega)
    have h4:c * d≤c * (n / c):=Int.mul_le_mul_of_nonneg_left g (by omega)
    omega
  refine h (n / c) (by omega) hkd ?_
  have:n=(n / c) * c:=by rw [Int.mul_comm];exact e.symm
  rw [this,Int.mul_ediv_cancel _ (by omega),Int.mul_emod_right]
theorem sq_bd {d:Int} (h0:0≤d) (h:d≤17):0≤d * d∧d * d≤289:=by
 have h1:d * d≤17 * d:=Int.mul_le_mul_of_nonneg_right h h0
 have h2:=Int.mul_nonneg h0 h0
 omega
theorem sq_le {d:Int} (h0:0≤d) (h:d * d≤256):d≤16:=by
 rcases Int.lt_or_le 16 d with g | g
 ·have h1:17 * d≤d * d:=Int.mul_le_mul_of_nonneg_right (by omega) h0
  omega
 ·exact g
theorem list_eq_of {l m:List Int} (hl:l.length=m.length) (h:∀ i,i < l.length→l.getD i 0=m.getD i 0):l=m:=by
 refine List.ext_getElem hl (fun i h1 h2=>?_)
 have:=h i h1
 simpa only [List.getD,List.getElem?_eq_getElem h1,List.getElem?_eq_getElem h2,Option.getD_some] using this
theorem length_digL (p x:Int) (m:Nat):(digL p x m).length=m:=by simp [digL]
theorem digL_at {p x:Int} {m i:Nat} (h:i < m):(digL p x m).getD i 0=dgt p x i:=by simp [digL,List.getD,h]
theorem dgt_nonneg {p x:Int} (hp:0 < p) (i:Nat):0≤dgt p x i:=Int.emod_nonneg _ (by omega)
theorem dgt_lt {p x:Int} (hp:0 < p) (i:Nat):dgt p x i < p:=Int.emod_lt_of_pos _ hp
theorem dgt_zero (p x:Int):dgt p x 0=x % p:=by simp [dgt]
theorem dgt_succ {p x:Int} (hp:0 < p) (i:Nat):dgt p x (i + 1)=dgt p (x / p) i:=by
 unfold dgt
 rw [Int.pow_succ,Int.mul_comm,Int.ediv_ediv_of_nonneg (by omega)]
theorem div_pow_succ {p x:Int} (hp:0 < p) (i:Nat):x / p ^ i / p=x / p ^ (i + 1):=by
 rw [Int.pow_succ,Int.ediv_ediv_of_nonneg (Int.le_of_lt (Int.pow_pos hp))]
def valF (p:Int) (l:List Int) (k:Nat):Int:=valL p (l.drop k)
theorem valF_end (p:Int) (l:List Int):valF p l l.length=0:=by simp [valF,valL]
theorem valF_zero (p:Int) (l:List Int):valF p l 0=valL p l:=rfl
theorem valF_step (p:Int) (l:List Int) {k:Nat} (h:k < l.length):valF p l k=valF p l (k + 1) * p + l.getD k 0:=by
 unfold valF
 rw [List.drop_eq_getElem_cons h,valL]
 simp only [List.getD,List.getElem?_eq_getElem h,Option.getD_some]
 rw [Int.mul_comm,Int.add_comm]
def Digs (p:Int) (l:List Int):Prop:=∀ x ∈ l,0≤x∧x < p
theorem digs_drop {p:Int} {l:List Int} (h:Digs p l) (k:Nat):Digs p (l.drop k):=fun x hx=>h x (List.mem_of_mem_drop hx)
theorem valL_bd {p:Int} (hp:0 < p):∀ {l:List Int},Digs p l→0≤valL p l∧valL p l < p ^ l.length
 | [],_=>by simp [valL]
 | d :: l,h=>by
  obtain ⟨h1,h2⟩:=valL_bd hp (l:=l) (fun x hx=>h x (by simp [hx]))
  obtain ⟨h3,h4⟩:=h d (by simp)
  have h5:0≤p * valL p l:=Int.mul_nonneg (by omega) h1
  have h6:p * (valL p l + 1)≤p * p ^ l.length:=Int.mul_le_mul_of_nonneg_left (by omega) (by omega)
  rw [Int.mul_add,Int.mul_one] at h6
  rw [List.length_cons,Int.pow_succ,Int.mul_comm (p ^ l.length),valL]
  omega
theorem valF_bd {p:Int} (hp:1≤p) {l:List Int} (h:Digs p l) (k:Nat):0≤valF p l k∧valF p l k < p ^ l.length:=by
 have h1:=valL_bd (by omega) (digs_drop h k)
 have h2:p ^ (l.drop k).length≤p ^ l.length:=pow_le hp (by simp)
 exact ⟨h1.1,by have:=h1.2;unfold valF;omega⟩
/-! ### The product of two residues,as the program reckons it: one coefficient of y after the other. -/
def stepM (p:Int) (m:Nat) (mod a:List Int) (bi:Int) (out:List Int):List Int :=
 (List.range m).map fun j=>((if j=0 then 0 else out.getD (j - 1) 0) + (p - out.getD (m - 1) 0) * (if 1 < m then mod.getD j 0 else 0) + bi * a.getD j 0) % p
def hornM (p:Int) (m:Nat) (mod a b:List Int):Nat→List Int
 | 0=>List.replicate m 0
 | n + 1=>stepM p m mod a (b.getD (m - 1 - n) 0) (hornM p m mod a b n)
def mulS (p:Int) (m:Nat) (mod:List Int) (x y:Int):Int:=valL p (hornM p m mod (digL p x m) (digL p y m) m)
theorem length_stepM (p:Int) (m:Nat) (mod a:List Int) (bi:Int) (out:List Int):(stepM p m mod a bi out).length=m:=by simp [stepM]
theorem length_hornM (p:Int) (m:Nat) (mod a b:List Int) (n:Nat):(hornM p m mod a b n).length=m:=by cases n <;> simp [hornM,length_stepM]
theorem stepM_at {p:Int} {m:Nat} {mod a:List Int} {bi:Int} {out:List Int} {j:Nat} (h:j < m) :
  (stepM p m mod a bi out).getD j 0=((if j=0 then 0 else out.getD (j - 1) 0) + (p - out.getD (m - 1) 0) * (if 1 < m then mod.getD j 0 else 0) + bi * a.getD j 0) % p:=by simp [stepM,List.getD,h]
theorem digs_stepM {p:Int} (hp:0 < p) (m:Nat) (mod a:List Int) (bi:Int) (out:List Int):Digs p (stepM p m mod a bi out):=fun x hx=>by
 obtain ⟨j,_,rfl⟩:=List.mem_map.1 hx
 exact ⟨Int.emod_nonneg _ (by omega),Int.emod_lt_of_pos _ hp⟩
theorem digs_hornM {p:Int} (hp:0 < p) (m:Nat) (mod a b:List Int):∀ n,Digs p (hornM p m mod a b n)
 | 0=>fun x hx=>by rw [(List.mem_replicate.1 hx).2];omega
 | n + 1=>digs_stepM hp _ _ _ _ _
theorem digs_at {p:Int} {l:List Int} (hp:0 < p) (h:Digs p l) (i:Nat):0≤l.getD i 0∧l.getD i 0 < p:=by
 by_cases hi:i < l.length
 ·simp only [List.getD,List.getElem?_eq_getElem hi,Option.getD_some]
  exact h _ (List.getElem_mem _)
 ·simp only [List.getD,List.getElem?_eq_none (Nat.not_lt.1 hi),Option.getD_none]
  omega
theorem digs_digL {p x:Int} (hp:0 < p) (m:Nat):Digs p (digL p x m):=fun y hy=>by
 obtain ⟨j,_,rfl⟩:=List.mem_map.1 hy
 exact ⟨dgt_nonneg hp _,dgt_lt hp _⟩
theorem shift_at {ys:List Int} {m j:Nat} (hl:ys.length=m) (hj:j < m):((ys.take 1 ++ ys.take (m - 1)).set 0 0).getD j 0=if j=0 then 0 else ys.getD (j - 1) 0:=by
 by_cases h:j=0
 ·subst h
  have:0 < (ys.take 1 ++ ys.take (m - 1)).length:=by simp;omega
  simp only [List.getD,List.getElem?_set_self this,Option.getD_some,if_true]
 ·rw [if_neg h]
  simp only [List.getD]
  rw [List.getElem?_set_ne (by omega),List.getElem?_append_right (by simp;omega),List.getElem?_take_of_lt (by simp;omega)]
  congr 2
  simp
  omega
theorem length_shift {ys:List Int} {m:Nat} (hl:ys.length=m) (hm:1≤m):((ys.take 1 ++ ys.take (m - 1)).set 0 0).length=m:=by simp;omega
theorem step_bd {p t l b c:Int} (hp:2≤p) (hp2:p≤256) (ht:0≤t∧t < p) (hl:0≤l∧l < p) (hb:0≤b∧b < p) (hc:0≤c∧c < p) :
  0≤(p - t) * l∧(p - t) * l≤65536∧0≤b * c∧b * c≤65536:=by
 have h1:0≤(p - t) * l:=Int.mul_nonneg (by omega) hl.1
 have h2:(p - t) * l≤256 * l:=Int.mul_le_mul_of_nonneg_right (by omega) hl.1
 have h3:0≤b * c:=Int.mul_nonneg hb.1 hc.1
 have h4:b * c≤256 * c:=Int.mul_le_mul_of_nonneg_right (by omega) hc.1
 omega
end Cw
namespace Cw
theorem mulS_bd {p:Int} (hp:0 < p) (m:Nat) (mod:List Int) (x y:Int):0≤mulS p m mod x y∧mulS p m mod x y < p ^ m:=by
 have h:=valL_bd hp (digs_hornM hp m mod (digL p x m) (digL p y m) m)
 rw [length_hornM] at h
 exact h
def powsF (f:Int→Int):Nat→List Int→Int→List Int
 | 0,acc,_=>acc
 | n + 1,acc,y=>if y=0 ∨ y ∈ acc then acc else powsF f n (acc ++ [y]) (f y)
def powL (p:Int) (m:Nat) (mod:List Int) (x:Int):List Int:=powsF (fun y=>mulS p m mod y x) (p ^ m).toNat [1] x
theorem powsF_stop {f:Int→Int} {n:Nat} {acc:List Int} {y:Int} (h:y=0 ∨ y ∈ acc):powsF f n acc y=acc:=by
 cases n with
 | zero=>rfl
 | succ n=>rw [powsF,if_pos h]
theorem powsF_go {f:Int→Int} {n:Nat} {acc:List Int} {y:Int} (h0:y ≠ 0) (h1:y ∉ acc) (hn:0 < n):powsF f n acc y=powsF f (n - 1) (acc ++ [y]) (f y):=by
 cases n with
 | zero=>omega
 | succ n=>rw [powsF,if_neg (by rintro (h | h);exact h0 h;exact h1 h)];rfl
def Seen (q:Nat) (bs:List Bool) (acc:List Int):Prop:=bs.length=q∧(∀ z:Nat,z < q→(bs.getD z false=true ↔ (z:Int) ∈ acc))∧acc.length + bs.count false=q
theorem seen_start {q:Nat} (hq:2≤q):Seen q ((List.replicate q false).set 1 true) [1]:=by
 refine ⟨by simp,fun z hz=>?_, ?_⟩
 ·by_cases e:z=1
  ·subst e;simp [List.getD,hz]
  ·simp only [List.getD,List.getElem?_set_ne (show 1 ≠ z by omega)]
   simp [hz]
   omega
 ·rw [List.count_set (by simp;omega)]
  simp
  omega
theorem seen_step {q:Nat} {bs:List Bool} {acc:List Int} {y:Nat} (h:Seen q bs acc) (hy:y < q) (hn:bs.getD y false=false):Seen q (bs.set y true) (acc ++ [(y:Int)]):=by
 obtain ⟨h1,h2,h3⟩:=h
 refine ⟨by simp [h1],fun z hz=>?_, ?_⟩
 ·by_cases e:z=y
  ·subst e;simp [List.getD,h1,hz]
  ·have:=h2 z hz
   simp only [List.getD,List.getElem?_set_ne (show y ≠ z by omega)] at this ⊢
   rw [this]
   simp
   omega
 ·rw [List.count_set (by omega)]
  have hy':bs[y]'(by omega)=false:=by simpa [List.getD,List.getElem?_eq_getElem (show y < bs.length by omega)] using hn
  have hpos:0 < bs.count false:=by
   rw [List.count_pos_iff,← hy']
   exact List.getElem_mem _
  simp [hy']
  omega
theorem seen_le {q:Nat} {bs:List Bool} {acc:List Int} {y:Nat} (h:Seen q bs acc) (hy:y < q) (hn:bs.getD y false=false):acc.length < q:=by
 obtain ⟨h1,h2,h3⟩:=h
 have hy':bs[y]'(by omega)=false:=by simpa [List.getD,List.getElem?_eq_getElem (show y < bs.length by omega)] using hn
 have hpos:0 < bs.count false:=by
  rw [List.count_pos_iff,← hy']
  exact List.getElem_mem _
 omega
def IsGen (p:Int) (m:Nat) (mod:List Int) (q:Nat) (x:Int):Prop:=(powL p m mod x).length=q - 1∧mulS p m mod ((powL p m mod x).getD (q - 2) 0) x=1
theorem powsF_pre {f:Int→Int} (n:Nat) (acc:List Int) (y:Int):∃ l,powsF f n acc y=acc ++ l:=by
 induction n generalizing acc y with
 | zero=>exact ⟨[],by simp [powsF]⟩
 | succ n ih =>
  rw [powsF]
  split
  ·exact ⟨[],by simp⟩
  ·obtain ⟨l,hl⟩:=ih (acc ++ [y]) (f y)
   exact ⟨y :: l,by rw [hl];simp⟩
theorem powL_ne (p:Int) (m:Nat) (mod:List Int) (x:Int):powL p m mod x ≠ []:=by
 unfold powL
 obtain ⟨l,hl⟩:=powsF_pre (f:=fun y=>mulS p m mod y x) (p ^ m).toNat [1] x
 rw [hl];simp
theorem powsF_all {f:Int→Int} {R:Int→Prop} (hf:∀ y,R (f y)) (n:Nat) (acc:List Int) (y:Int) (ha:∀ z ∈ acc,R z) (hy:R y):∀ z ∈ powsF f n acc y,R z:=by
 induction n generalizing acc y with
 | zero=>exact ha
 | succ n ih =>
  rw [powsF]
  split
  ·exact ha
  ·refine ih _ _ (fun z hz=>?_) (hf y)
   rcases List.mem_append.1 hz with h | h
   ·exact ha z h
   ·rw [List.mem_singleton.1 h];exact hy
theorem powL_bd {p:Int} (hp:2≤p) {m:Nat} (hm:1≤m) (mod:List Int) {x:Int} (h0:0≤x) (h1:x < p ^ m):∀ z ∈ powL p m mod x,0≤z∧z < p ^ m:=by
 have h2:p ^ 1≤p ^ m:=pow_le (by omega) hm
 rw [Int.pow_one] at h2
 exact powsF_all (R:=fun z=>0≤z∧z < p ^ m) (fun y=>mulS_bd (by omega) m mod y x) _ _ _ (fun z hz=>by rw [List.mem_singleton.1 hz];omega) ⟨h0,h1⟩
def ShapeP (P M:Int) (mod:List Int):Prop:=ordS P M ≠ 0∧Prm P∧(M=1→mod=[])∧(M ≠ 1→(mod.length:Int)=M∧Digs P mod)
def FieldP (P M:Int) (mod:List Int):Prop:=ShapeP P M mod∧∃ x,1≤x∧x < ordS P M∧IsGen P M.toNat mod (ordS P M).toNat x
end Cw
namespace Cw
structure GFd where
 P:Int
 M:Int
 q:Int
 mod:List Int
 exp:List Int
 log:List Int
structure Tabs (G:GFd):Prop where
 shape:ShapeP G.P G.M G.mod
 hq:G.q=ordS G.P G.M
 gen:∃ x,1≤x∧x < G.q∧IsGen G.P G.M.toNat G.mod G.q.toNat x∧G.exp=powL G.P G.M.toNat G.mod x
 llen:G.log.length=G.q.toNat
 log:∀ i,i < G.exp.length→G.log.getD (G.exp.getD i 0).toNat 0=i
theorem powsF_nodup {f:Int→Int} (n:Nat) (acc:List Int) (y:Int) (ha:acc.Nodup):(powsF f n acc y).Nodup:=by
 induction n generalizing acc y with
 | zero=>exact ha
 | succ n ih =>
  rw [powsF]
  split
  ·exact ha
  ·rename_i h
   refine ih _ _ ?_
   rw [List.nodup_append]
   refine ⟨ha,by simp,fun a hm b hb=>?_⟩
   rw [List.mem_singleton.1 hb]
   rintro rfl
   exact h (.inr hm)
theorem powL_nodup (p:Int) (m:Nat) (mod:List Int) (x:Int):(powL p m mod x).Nodup:=powsF_nodup _ _ _ (by simp)
theorem powsF_nz {f:Int→Int} (n:Nat) (acc:List Int) (y:Int) (ha:∀ z ∈ acc,z ≠ 0):∀ z ∈ powsF f n acc y,z ≠ 0:=by
 induction n generalizing acc y with
 | zero=>exact ha
 | succ n ih =>
  rw [powsF]
  split
  ·exact ha
  ·rename_i h
   refine ih _ _ (fun z hz=>?_)
   rcases List.mem_append.1 hz with g | g
   ·exact ha z g
   ·rw [List.mem_singleton.1 g];exact fun e=>h (.inl e)
theorem powL_nz (p:Int) (m:Nat) (mod:List Int) (x:Int):∀ z ∈ powL p m mod x,z ≠ 0:=powsF_nz _ _ _ (by simp)
theorem nodup_getD {l:List Int} (h:l.Nodup) {i j:Nat} (hi:i < l.length) (hj:j < l.length) (e:l.getD i 0=l.getD j 0):i=j:=by
 simp only [List.getD,List.getElem?_eq_getElem hi,List.getElem?_eq_getElem hj,Option.getD_some] at e
 exact (List.getElem_inj h).1 e
theorem log_step {ex lg:List Int} {q k:Nat} (hn:ex.Nodup) (hb:∀ z ∈ ex,0≤z∧z < (q:Int)) (hl:lg.length=q) (hk:k < ex.length) (h:∀ i,i < k→lg.getD (ex.getD i 0).toNat 0=i) :
  ∀ i,i < k + 1→(lg.set (ex.getD k 0).toNat k).getD (ex.getD i 0).toNat 0=i:=fun i hi=>by
 have hm:∀ j,j < ex.length→0≤ex.getD j 0∧ex.getD j 0 < (q:Int):=fun j hj=>hb _ (by
  simp only [List.getD,List.getElem?_eq_getElem hj,Option.getD_some];exact List.getElem_mem _)
 have h1:=hm k hk
 have h2:=hm i (by omega)
 by_cases e:i=k
 ·subst e
  rw [List.getD,List.getElem?_set_self (by omega)]
  rfl
 ·have hne:(ex.getD k 0).toNat ≠ (ex.getD i 0).toNat:=fun he=>e (nodup_getD hn (by omega) hk (by omega))
  rw [List.getD,List.getElem?_set_ne hne]
  exact h i (by omega)
end Cw
namespace Cw
def inn (q x:Int):Int:=if 0≤x∧x < q then x else 0
theorem inn_yes {q x:Int} (h:0≤x∧x < q):inn q x=x:=if_pos h
theorem inn_no {q x:Int} (h:¬ (0≤x∧x < q)):inn q x=0:=if_neg h
theorem inn_bd {q:Int} (hq:0 < q) (x:Int):0≤inn q x∧inn q x < q:=by unfold inn;split <;> omega
theorem inn_inn {q:Int} (hq:0 < q) (x:Int):inn q (inn q x)=inn q x:=inn_yes (inn_bd hq x)
def addD (P:Int):Nat→Int→Int→Int
 | 0,_,_=>0
 | k + 1,x,y=>(x + y) % P + P * addD P k (x / P) (y / P)
def negD (P:Int):Nat→Int→Int
 | 0,_=>0
 | k + 1,x=>-(x % P) % P + P * negD P k (x / P)
theorem addD_zero {P:Int}:∀ k,addD P k 0 0=0
 | 0=>rfl
 | k + 1=>by rw [addD,Int.zero_ediv,addD_zero k];simp
theorem negD_zero {P:Int}:∀ k,negD P k 0=0
 | 0=>rfl
 | k + 1=>by rw [negD,Int.zero_ediv,negD_zero k];simp
def AddInv (P:Int) (m:Nat) (X Y x y sum place:Int):Prop:=∃ k:Nat,0≤x∧x < P ^ k∧0≤y∧y < P ^ k∧0≤sum∧sum < place∧place * x≤X∧place * y≤Y∧sum + place * addD P k x y=addD P m X Y
theorem addInv_start {P X Y:Int} {m:Nat} (hX:0≤X∧X < P ^ m) (hY:0≤Y∧Y < P ^ m):AddInv P m X Y X Y 0 1:=⟨m,hX.1,hX.2,hY.1,hY.2,by omega,by omega,by omega,by omega,by omega⟩
theorem addInv_bd {P X Y x y sum place:Int} {m:Nat} (h:AddInv P m X Y x y sum place):0≤x∧0≤y∧0≤sum∧sum < place∧x≤X∧y≤Y:=by
 obtain ⟨k,h1,h2,h3,h4,h5,h6,h7,h8,_⟩:=h
 have a1:1 * x≤place * x:=Int.mul_le_mul_of_nonneg_right (by omega) h1
 have a2:1 * y≤place * y:=Int.mul_le_mul_of_nonneg_right (by omega) h3
 exact ⟨h1,h3,h5,h6,by omega,by omega⟩
theorem div_lt_pow {P x:Int} {k:Nat} (hP:0 < P) (h:x < P ^ (k + 1)):x / P < P ^ k:=by
 rw [Int.pow_succ] at h
 exact Int.ediv_lt_of_lt_mul hP h
theorem div_lt_self {P x:Int} (hP:2≤P) (hx:0 < x):x / P < x:=by
 refine Int.ediv_lt_of_lt_mul (by omega) ?_
 have:x * 2≤x * P:=Int.mul_le_mul_of_nonneg_left hP (by omega)
 omega
theorem place_le {P place x X:Int} (hP:0 < P) (hp:0≤place) (h:place * x≤X):place * P * (x / P)≤X:=by
 have h1:P * (x / P)≤x:=Int.mul_ediv_self_le (by omega)
 have h2:place * (P * (x / P))≤place * x:=Int.mul_le_mul_of_nonneg_left h1 hp
 rw [Int.mul_assoc]
 omega
theorem place_bd {place x X:Int} (hx:0 < x) (hp:0≤place) (h:place * x≤X):place≤X:=by
 have h1:place * 1≤place * x:=Int.mul_le_mul_of_nonneg_left (by omega) hp
 omega
theorem addInv_step {P X Y x y sum place:Int} {m:Nat} (hP2:2≤P) (hP3:P≤256) (hX:X≤255) (hY:Y≤255) (h:AddInv P m X Y x y sum place) (hxy:0 < x ∨ 0 < y) :
  place≤255∧0≤(x + y) % P * place∧(x + y) % P * place≤65535∧place * P≤65536∧0≤place * P∧AddInv P m X Y (x / P) (y / P) (sum + (x + y) % P * place) (place * P):=by
 obtain ⟨k,h1,h2,h3,h4,h5,h6,h7,h8,h9⟩:=h
 have hpl:place≤255:=by
  rcases hxy with g | g
  ·have:=place_bd g (by omega) h7;omega
  ·have:=place_bd g (by omega) h8;omega
 have d0:=Int.emod_nonneg (x + y) (show P ≠ 0 by omega)
 have d1:=Int.emod_lt_of_pos (x + y) (show 0 < P by omega)
 have e0:0≤(x + y) % P * place:=Int.mul_nonneg d0 (by omega)
 have e1:(x + y) % P * place≤255 * place:=Int.mul_le_mul_of_nonneg_right (by omega) (by omega)
 have e2:place * P≤255 * P:=Int.mul_le_mul_of_nonneg_right hpl (by omega)
 have e3:0≤place * P:=Int.mul_nonneg (by omega) (by omega)
 have e4:((x + y) % P + 1) * place≤P * place:=Int.mul_le_mul_of_nonneg_right (by omega) (by omega)
 rw [Int.add_mul,Int.one_mul,Int.mul_comm P place] at e4
 obtain ⟨j,rfl⟩:∃ j,k=j + 1:=by
  cases k with
  | zero=>rw [Int.pow_zero] at h2 h4;omega
  | succ j=>exact ⟨j,rfl⟩
 refine ⟨hpl,e0,by omega,by omega,e3,j,Int.ediv_nonneg h1 (by omega),div_lt_pow (by omega) h2,Int.ediv_nonneg h3 (by omega),div_lt_pow (by omega) h4,by omega,by omega,place_le (by omega) (by omega) h7,place_le (by omega) (by omega) h8, ?_⟩
 rw [← h9,addD,Int.mul_add,Int.mul_comm ((x + y) % P) place,Int.mul_assoc place P,Int.add_assoc]
theorem addInv_end {P X Y sum place:Int} {m:Nat} (h:AddInv P m X Y 0 0 sum place):sum=addD P m X Y:=by
 obtain ⟨k,_,_,_,_,_,_,_,_,h9⟩:=h
 rw [addD_zero,Int.mul_zero,Int.add_zero] at h9
 exact h9
def NegInv (P:Int) (m:Nat) (X x sum place:Int):Prop:=∃ k:Nat,0≤x∧x < P ^ k∧0≤sum∧sum < place∧place * x≤X∧sum + place * negD P k x=negD P m X
theorem negInv_start {P X:Int} {m:Nat} (hX:0≤X∧X < P ^ m):NegInv P m X X 0 1:=⟨m,hX.1,hX.2,by omega,by omega,by omega,by omega⟩
theorem negInv_bd {P X x sum place:Int} {m:Nat} (h:NegInv P m X x sum place):0≤x∧0≤sum∧sum < place∧x≤X:=by
 obtain ⟨k,h1,h2,h5,h6,h7,_⟩:=h
 have a1:1 * x≤place * x:=Int.mul_le_mul_of_nonneg_right (by omega) h1
 exact ⟨h1,h5,h6,by omega⟩
theorem negInv_step {P X x sum place:Int} {m:Nat} (hP2:2≤P) (hP3:P≤256) (hX:X≤255) (h:NegInv P m X x sum place) (hx:0 < x) :
  place≤255∧0≤-(x % P) % P * place∧-(x % P) % P * place≤65535∧place * P≤65536∧0≤place * P∧NegInv P m X (x / P) (sum + -(x % P) % P * place) (place * P):=by
 obtain ⟨k,h1,h2,h5,h6,h7,h9⟩:=h
 have hpl:place≤255:=by have:=place_bd hx (by omega) h7;omega
 have d0:=Int.emod_nonneg (-(x % P)) (show P ≠ 0 by omega)
 have d1:=Int.emod_lt_of_pos (-(x % P)) (show 0 < P by omega)
 have e0:0≤-(x % P) % P * place:=Int.mul_nonneg d0 (by omega)
 have e1:-(x % P) % P * place≤255 * place:=Int.mul_le_mul_of_nonneg_right (by omega) (by omega)
 have e2:place * P≤255 * P:=Int.mul_le_mul_of_nonneg_right hpl (by omega)
 have e3:0≤place * P:=Int.mul_nonneg (by omega) (by omega)
 have e4:(-(x % P) % P + 1) * place≤P * place:=Int.mul_le_mul_of_nonneg_right (by omega) (by omega)
 rw [Int.add_mul,Int.one_mul,Int.mul_comm P place] at e4
 obtain ⟨j,rfl⟩:∃ j,k=j + 1:=by
  cases k with
  | zero=>rw [Int.pow_zero] at h2;omega
  | succ j=>exact ⟨j,rfl⟩
 refine ⟨hpl,e0,by omega,by omega,e3,j,Int.ediv_nonneg h1 (by omega),div_lt_pow (by omega) h2,by omega,by omega,place_le (by omega) (by omega) h7, ?_⟩
 rw [← h9,negD,Int.mul_add,Int.mul_comm (-(x % P) % P) place,Int.mul_assoc place P,Int.add_assoc]
theorem negInv_end {P X sum place:Int} {m:Nat} (h:NegInv P m X 0 sum place):sum=negD P m X:=by
 obtain ⟨k,_,_,_,_,_,h9⟩:=h
 rw [negD_zero,Int.mul_zero,Int.add_zero] at h9
 exact h9
theorem addD_bd {P:Int} (hP:0 < P):∀ (k:Nat) (x y:Int),0≤addD P k x y∧addD P k x y < P ^ k
 | 0,_,_=>by simp [addD]
 | k + 1,x,y=>by
  obtain ⟨h1,h2⟩:=addD_bd hP k (x / P) (y / P)
  have d0:=Int.emod_nonneg (x + y) (show P ≠ 0 by omega)
  have d1:=Int.emod_lt_of_pos (x + y) hP
  have h3:0≤P * addD P k (x / P) (y / P):=Int.mul_nonneg (by omega) h1
  have h4:P * (addD P k (x / P) (y / P) + 1)≤P * P ^ k:=Int.mul_le_mul_of_nonneg_left (by omega) (by omega)
  rw [Int.mul_add,Int.mul_one] at h4
  rw [addD,Int.pow_succ,Int.mul_comm (P ^ k)]
  omega
theorem negD_bd {P:Int} (hP:0 < P):∀ (k:Nat) (x:Int),0≤negD P k x∧negD P k x < P ^ k
 | 0,_=>by simp [negD]
 | k + 1,x=>by
  obtain ⟨h1,h2⟩:=negD_bd hP k (x / P)
  have d0:=Int.emod_nonneg (-(x % P)) (show P ≠ 0 by omega)
  have d1:=Int.emod_lt_of_pos (-(x % P)) hP
  have h3:0≤P * negD P k (x / P):=Int.mul_nonneg (by omega) h1
  have h4:P * (negD P k (x / P) + 1)≤P * P ^ k:=Int.mul_le_mul_of_nonneg_left (by omega) (by omega)
  rw [Int.mul_add,Int.mul_one] at h4
  rw [negD,Int.pow_succ,Int.mul_comm (P ^ k)]
  omega
theorem nodup_le:∀ (n:Nat) (l:List Int) (a:Int),l.Nodup→(∀ x ∈ l,a≤x∧x < a + n)→l.length≤n
 | 0,l,a,_,h=>by
  cases l with
  | nil=>simp
  | cons x l=>have:=h x (by simp);omega
 | n + 1,l,a,hn,h=>by
  have h1:=nodup_le n (l.erase (a + n)) a (hn.erase _) (fun x hx=>by
   have h2:=h x (List.mem_of_mem_erase hx)
   have h3:x ≠ a + n:=(List.Nodup.mem_erase_iff hn).1 hx |>.1
   omega)
  have h2:=List.length_erase (a:=a + (n:Int)) (l:=l)
  split at h2 <;> omega
namespace Tabs
variable {G:GFd}
theorem qb (h:Tabs G):2≤G.q∧G.q≤256∧2≤G.P∧G.P≤256∧1≤G.M∧G.M≤8∧G.q=G.P ^ G.M.toNat:=by
 obtain ⟨o1,o2,o3,o4,o5,o6⟩:=ordS_pos h.shape.1
 have hq:=h.hq
 have h2:G.P ^ 1≤G.P ^ G.M.toNat:=pow_le (by omega) (by omega)
 rw [Int.pow_one] at h2
 omega
theorem elen (h:Tabs G):G.exp.length=G.q.toNat - 1:=by
 obtain ⟨x,_,_,hg,he⟩:=h.gen
 rw [he];exact hg.1
theorem ebd (h:Tabs G):∀ z ∈ G.exp,1≤z∧z < G.q:=fun z hz=>by
 obtain ⟨x,g1,g2,hg,he⟩:=h.gen
 obtain ⟨q1,q2,q3,q4,q5,q6,q7⟩:=h.qb
 rw [he] at hz
 have h1:=powL_bd q3 (show 1≤G.M.toNat by omega) G.mod (by omega) (by rw [← q7];exact g2) z hz
 have h2:=powL_nz _ _ _ _ z hz
 omega
theorem end' (h:Tabs G):G.exp.Nodup:=by
 obtain ⟨x,_,_,_,he⟩:=h.gen
 rw [he];exact powL_nodup _ _ _ _
theorem cover (h:Tabs G) {z:Int} (h1:1≤z) (h2:z < G.q):z ∈ G.exp:=by
 obtain ⟨q1,q2,_⟩:=h.qb
 refine Classical.byContradiction fun hn=>?_
 have:=nodup_le (G.q.toNat - 1) (z :: G.exp) 1 (List.nodup_cons.2 ⟨hn,h.end'⟩) (fun x hx=>by
  rcases List.mem_cons.1 hx with rfl | hx
  ·omega
  ·have:=h.ebd x hx;omega)
 rw [List.length_cons,h.elen] at this
 omega
theorem logOf (h:Tabs G) {z:Int} (h1:1≤z) (h2:z < G.q):∃ i:Nat,i < G.exp.length∧G.exp.getD i 0=z∧G.log.getD z.toNat 0=i:=by
 obtain ⟨i,hi,rfl⟩:=List.getElem_of_mem (h.cover h1 h2)
 have e:G.exp.getD i 0=G.exp[i]:=by simp only [List.getD,List.getElem?_eq_getElem hi,Option.getD_some]
 exact ⟨i,hi,e,by rw [← e];exact h.log i hi⟩
theorem log_bd (h:Tabs G) {z:Int} (h1:1≤z) (h2:z < G.q):0≤G.log.getD z.toNat 0∧G.log.getD z.toNat 0 < G.q - 1:=by
 obtain ⟨i,hi,_,h3⟩:=h.logOf h1 h2
 have:=h.elen
 rw [h3]
 have:=h.qb
 omega
end Tabs
def addG (G:GFd) (x y:Int):Int:=addD G.P G.M.toNat (inn G.q x) (inn G.q y)
def negG (G:GFd) (x:Int):Int:=negD G.P G.M.toNat (inn G.q x)
def logG (G:GFd) (x:Int):Int:=G.log.getD x.toNat 0
def expG (G:GFd) (i:Int):Int:=G.exp.getD (i % (G.q - 1)).toNat 0
def mulG (G:GFd) (x y:Int):Int:=if inn G.q x=0 ∨ inn G.q y=0 then 0 else expG G (logG G (inn G.q x) + logG G (inn G.q y))
def invG (G:GFd) (x:Int):Int:=if inn G.q x=0 then 0 else expG G (G.q - 1 - logG G (inn G.q x))
end Cw
namespace Cw
end Cw
namespace Cw
def divRow (p:Int) (low:List Int) (i:Nat) (r:List Int):List Int :=
 (List.range r.length).map fun k=>if k=i then 0 else if i - low.length≤k∧k < i then (r.getD k 0 + (p - r.getD i 0) * low.getD (k - (i - low.length)) 0) % p else r.getD k 0
def divF (p:Int) (low r:List Int):Nat→List Int
 | 0=>r
 | n + 1=>divRow p low (r.length - 1 - n) (divF p low r n)
def DivP (p:Int) (low mod:List Int):Prop:=∀ x ∈ divF p low (mod ++ [1]) (mod.length + 1 - low.length),x=0
def IrrP (p:Int) (mod:List Int):Prop:=∀ d:Nat,1≤d→2 * d≤mod.length→∀ v:Nat,(v:Int) < p ^ d→¬ DivP p (digL p v d) mod
def CheckP (P M:Int) (mod:List Int):Prop:=ShapeP P M mod∧(M ≠ 1→IrrP P mod)
theorem length_divRow (p:Int) (low:List Int) (i:Nat) (r:List Int):(divRow p low i r).length=r.length:=by simp [divRow]
theorem length_divF (p:Int) (low r:List Int) (n:Nat):(divF p low r n).length=r.length:=by
 induction n with
 | zero=>rfl
 | succ n ih=>rw [divF,length_divRow,ih]
theorem divRow_at {p:Int} {low:List Int} {i:Nat} {r:List Int} {k:Nat} (h:k < r.length) :
  (divRow p low i r).getD k 0=if k=i then 0 else if i - low.length≤k∧k < i then (r.getD k 0 + (p - r.getD i 0) * low.getD (k - (i - low.length)) 0) % p else r.getD k 0:=by
 simp [divRow,List.getD,h]
theorem digs_divRow {p:Int} (hp:0 < p) {low:List Int} {i:Nat} {r:List Int} (h:Digs p r):Digs p (divRow p low i r):=fun x hx=>by
 obtain ⟨k,_,rfl⟩:=List.mem_map.1 hx
 split
 ·omega
 ·split
  ·exact ⟨Int.emod_nonneg _ (by omega),Int.emod_lt_of_pos _ hp⟩
  ·exact digs_at hp h k
theorem digs_divF {p:Int} (hp:0 < p) {low r:List Int} (h:Digs p r) (n:Nat):Digs p (divF p low r n):=by
 induction n with
 | zero=>exact h
 | succ n ih=>exact digs_divRow hp ih
theorem quo_test {p Q:Int} (hp:0 < p):Q≤256 / p ↔ Q * p≤256:=by
 rw [Int.le_ediv_iff_mul_le hp]
end Cw
namespace Cw
def cvStep (p:Int) (a b:List Int) (i j:Nat) (c:List Int):List Int:=c.set (i + j) ((c.getD (i + j) 0 + a.getD i 0 * b.getD j 0) % p)
def cvRow (p:Int) (a b:List Int) (i:Nat) (c:List Int):Nat→List Int
 | 0=>c
 | j + 1=>cvStep p a b i j (cvRow p a b i c j)
def cvAll (p:Int) (m:Nat) (a b c:List Int):Nat→List Int
 | 0=>c
 | i + 1=>cvRow p a b i (cvAll p m a b c i) m
def rdStep (p:Int) (m:Nat) (mod:List Int) (i j:Nat) (c:List Int):List Int:=c.set (i - m + j) ((c.getD (i - m + j) 0 + (p - c.getD i 0) * mod.getD j 0) % p)
def rdRow (p:Int) (m:Nat) (mod:List Int) (i:Nat) (c:List Int):Nat→List Int
 | 0=>c
 | j + 1=>rdStep p m mod i j (rdRow p m mod i c j)
def rdAll (p:Int) (m:Nat) (mod c:List Int):Nat→List Int
 | 0=>c
 | n + 1=>rdRow p m mod (2 * m - 2 - n) (rdAll p m mod c n) m
def rMulL (p:Int) (m:Nat) (mod a b:List Int):List Int:=(rdAll p m mod (cvAll p m a b (List.replicate (2 * m - 1) 0) m) (m - 1)).take m
theorem length_cvStep (p:Int) (a b:List Int) (i j:Nat) (c:List Int):(cvStep p a b i j c).length=c.length:=by simp [cvStep]
theorem length_cvRow (p:Int) (a b:List Int) (i:Nat) (c:List Int) (n:Nat):(cvRow p a b i c n).length=c.length:=by
 induction n with
 | zero=>rfl
 | succ n ih=>rw [cvRow,length_cvStep,ih]
theorem length_cvAll (p:Int) (m:Nat) (a b c:List Int) (n:Nat):(cvAll p m a b c n).length=c.length:=by
 induction n with
 | zero=>rfl
 | succ n ih=>rw [cvAll,length_cvRow,ih]
theorem length_rdStep (p:Int) (m:Nat) (mod:List Int) (i j:Nat) (c:List Int):(rdStep p m mod i j c).length=c.length:=by simp [rdStep]
theorem length_rdRow (p:Int) (m:Nat) (mod:List Int) (i:Nat) (c:List Int) (n:Nat):(rdRow p m mod i c n).length=c.length:=by
 induction n with
 | zero=>rfl
 | succ n ih=>rw [rdRow,length_rdStep,ih]
theorem length_rdAll (p:Int) (m:Nat) (mod c:List Int) (n:Nat):(rdAll p m mod c n).length=c.length:=by
 induction n with
 | zero=>rfl
 | succ n ih=>rw [rdAll,length_rdRow,ih]
theorem digs_set {p:Int} (hp:0 < p) {c:List Int} (h:Digs p c) (i:Nat) (x:Int):Digs p (c.set i (x % p)):=fun y hy=>by
 rcases List.mem_or_eq_of_mem_set hy with e | e
 ·exact h y e
 ·rw [e];exact ⟨Int.emod_nonneg _ (by omega),Int.emod_lt_of_pos _ hp⟩
theorem digs_cvRow {p:Int} (hp:0 < p) (a b:List Int) (i:Nat) {c:List Int} (h:Digs p c) (n:Nat):Digs p (cvRow p a b i c n):=by
 induction n with
 | zero=>exact h
 | succ n ih=>exact digs_set hp ih _ _
theorem digs_cvAll {p:Int} (hp:0 < p) (m:Nat) (a b:List Int) {c:List Int} (h:Digs p c) (n:Nat):Digs p (cvAll p m a b c n):=by
 induction n with
 | zero=>exact h
 | succ n ih=>exact digs_cvRow hp _ _ _ ih _
theorem digs_rdRow {p:Int} (hp:0 < p) (m:Nat) (mod:List Int) (i:Nat) {c:List Int} (h:Digs p c) (n:Nat):Digs p (rdRow p m mod i c n):=by
 induction n with
 | zero=>exact h
 | succ n ih=>exact digs_set hp ih _ _
theorem digs_rdAll {p:Int} (hp:0 < p) (m:Nat) (mod:List Int) {c:List Int} (h:Digs p c) (n:Nat):Digs p (rdAll p m mod c n):=by
 induction n with
 | zero=>exact h
 | succ n ih=>exact digs_rdRow hp _ _ _ ih _
theorem digs_zeros {p:Int} (hp:0 < p) (n:Nat):Digs p (List.replicate n 0):=fun x hx=>by rw [(List.mem_replicate.1 hx).2];omega
theorem digs_take {p:Int} {l:List Int} (h:Digs p l) (k:Nat):Digs p (l.take k):=fun x hx=>h x (List.mem_of_mem_take hx)
theorem cv_bd {p x y z:Int} (hp2:p≤256) (hx:0≤x∧x < p) (hy:0≤y∧y < p) (hz:0≤z∧z < p):0≤x * y∧x * y≤65536∧0≤z + x * y:=by
 have h1:0≤x * y:=Int.mul_nonneg hx.1 hy.1
 have h2:x * y≤256 * y:=Int.mul_le_mul_of_nonneg_right (by omega) hy.1
 omega
theorem rMulL_len (p:Int) (m:Nat) (mod a b:List Int) (hm:1≤m):(rMulL p m mod a b).length=m:=by
 unfold rMulL
 rw [List.length_take,length_rdAll,length_cvAll,List.length_replicate]
 omega
theorem rMulL_digs {p:Int} (hp:0 < p) (m:Nat) (mod a b:List Int):Digs p (rMulL p m mod a b):=digs_take (digs_rdAll hp _ _ (digs_cvAll hp _ _ _ (digs_zeros hp _) _) _) _
/-! ### Sums and negatives,coefficient by coefficient. -/
def adL (p:Int) (a b:List Int):Nat→List Int
 | 0=>a
 | i + 1=>(adL p a b i).set i (((adL p a b i).getD i 0 + b.getD i 0) % p)
def ngL (p:Int) (a:List Int):Nat→List Int
 | 0=>a
 | i + 1=>(ngL p a i).set i ((p - (ngL p a i).getD i 0) % p)
theorem length_adL (p:Int) (a b:List Int) (n:Nat):(adL p a b n).length=a.length:=by
 induction n with
 | zero=>rfl
 | succ n ih=>rw [adL,List.length_set,ih]
theorem length_ngL (p:Int) (a:List Int) (n:Nat):(ngL p a n).length=a.length:=by
 induction n with
 | zero=>rfl
 | succ n ih=>rw [ngL,List.length_set,ih]
theorem digs_adL {p:Int} (hp:0 < p) {a:List Int} (b:List Int) (h:Digs p a) (n:Nat):Digs p (adL p a b n):=by
 induction n with
 | zero=>exact h
 | succ n ih=>exact digs_set hp ih _ _
theorem digs_ngL {p:Int} (hp:0 < p) {a:List Int} (h:Digs p a) (n:Nat):Digs p (ngL p a n):=by
 induction n with
 | zero=>exact h
 | succ n ih=>exact digs_set hp ih _ _
theorem adL_at (p:Int) (a b:List Int) (n k:Nat) (hk:k < a.length):(adL p a b n).getD k 0=if k < n then (a.getD k 0 + b.getD k 0) % p else a.getD k 0:=by
 induction n with
 | zero=>rw [if_neg (by omega)];rfl
 | succ n ih =>
  rw [adL]
  by_cases e:n=k
  ·subst e
   rw [if_neg (by omega)] at ih
   rw [List.getD,List.getElem?_set_self (by rw [length_adL];exact hk),Option.getD_some,ih,if_pos (by omega)]
  ·rw [List.getD,List.getElem?_set_ne e]
   by_cases h:k < n
   ·rw [if_pos h] at ih;rw [if_pos (by omega)];exact ih
   ·rw [if_neg h] at ih;rw [if_neg (by omega)];exact ih
theorem ngL_at (p:Int) (a:List Int) (n k:Nat) (hk:k < a.length):(ngL p a n).getD k 0=if k < n then (p - a.getD k 0) % p else a.getD k 0:=by
 induction n with
 | zero=>rw [if_neg (by omega)];rfl
 | succ n ih =>
  rw [ngL]
  by_cases e:n=k
  ·subst e
   rw [if_neg (by omega)] at ih
   rw [List.getD,List.getElem?_set_self (by rw [length_ngL];exact hk),Option.getD_some,ih,if_pos (by omega)]
  ·rw [List.getD,List.getElem?_set_ne e]
   by_cases h:k < n
   ·rw [if_pos h] at ih;rw [if_pos (by omega)];exact ih
   ·rw [if_neg h] at ih;rw [if_neg (by omega)];exact ih
end Cw
