/- A matrix in memory: rows in blocks of their own, in the blocks from lo on and below hi; what a call may change of it. No conditions. What the elimination of the reference computes: plain law. No conditions. The walk of the reference's rank. Conditions: a field's description; a matrix in blocks of its own. Rows in memory; the walk of the reference's system. Conditions: a field's description; lengths are bounded. The walks of the reference's Complexity and Unique. Conditions: a field's description; lengths are bounded. -/
import Derived.Test.YtmakdclgpeochaaIa
import Derived.Test.YtmakdclgpeochaaMwA
import Derived.Test.YtmakdclgpeochaaQc
import Derived.Test.YtmakdclgpeochaaRk
import Derived.Test.YtmakdclgpeochaaHc
import Derived.Test.YtmakdclgpeochaaHd
namespace Go.Proofs.Ytmakdclgpeochaa
open Go.RowKit Cw

theorem cSame {w : World} {a : Addr} {u v : Value} (h : w.cell? a = some u) : (w.setCell a v).cell? a = some v := by
  apply World.cell?_setCell_same
  exact h
theorem cOther {w : World} {b o b' o' : Nat} {v : Value} (h : b ≠ b' ∨ o ≠ o') : (w.setCell ⟨b, o, none⟩ v).cell? ⟨b', o', none⟩ = w.cell? ⟨b', o', none⟩ := by
  apply World.cell?_setCell_other
  intro e
  injection e with e1 e2
  rcases h with h | h
  · exact h e1
  · exact h e2
/-- Of the blocks of w only those from lo on and below hi may have turned. -/
structure Chg (lo hi : Nat) (w w' : World) : Prop where
  os : w'.os = w.os
  tape : w'.tape = w.tape
  output : w'.output = w.output
  size : w.heap.size ≤ w'.heap.size
  block : ∀ k, k < w.heap.size → (k < lo ∨ hi ≤ k) → w'.heap[k]? = w.heap[k]?
theorem Chg.refl (lo hi : Nat) (w : World) : Chg lo hi w w := ⟨rfl, rfl, rfl, Nat.le_refl _, fun _ _ _ => rfl⟩
theorem Chg.tr {lo hi : Nat} {a b c : World} (h : Chg lo hi a b) (k : Chg lo hi b c) : Chg lo hi a c :=
  ⟨k.os.trans h.os, k.tape.trans h.tape, k.output.trans h.output, Nat.le_trans h.size k.size, fun i h1 h2 => (k.block i (Nat.lt_of_lt_of_le h1 h.size) h2).trans (h.block i h1 h2)⟩
theorem Chg.of_kept {a b : World} (h : Kept a b) (lo hi : Nat) : Chg lo hi a b := ⟨h.os, h.tape, h.output, h.size, fun i h1 _ => h.block i h1⟩
theorem Chg.kept {lo hi : Nat} {a b c : World} (h : Chg lo hi a b) (k : Kept b c) : Chg lo hi a c := h.tr (Chg.of_kept k lo hi)
theorem chg_set {lo hi : Nat} (w : World) {p : Addr} (h1 : lo ≤ p.block) (h2 : p.block < hi) (u : Value) : Chg lo hi w (w.setCell p u) :=
  ⟨rfl, rfl, rfl, by simp [World.setCell], fun k _ hk => Below.heap_setCell _ _ _ _ (by omega)⟩
theorem Chg.set {lo hi : Nat} {a w : World} (h : Chg lo hi a w) {p : Addr} (h1 : lo ≤ p.block) (h2 : p.block < hi) (u : Value) : Chg lo hi a (w.setCell p u) := h.tr (chg_set w h1 h2 u)
theorem Chg.drew {lo hi : Nat} {a w : World} (h : Chg lo hi a w) : Chg lo hi a w.drew := h.kept (kept_drew w)
theorem Chg.drewN {lo hi : Nat} {a w : World} (h : Chg lo hi a w) (n : Nat) : Chg lo hi a (w.drewN n) := h.kept (kept_drewN w n)
theorem Chg.below {lo hi : Nat} {a b : World} (h : Chg lo hi a b) (hl : lo ≤ a.heap.size) : Below lo a b := ⟨h.os, h.tape, h.output, h.size, fun k hk => h.block k (by omega) (.inl hk)⟩
theorem Chg.old {lo hi : Nat} {w0 a b : World} (h : Chg lo hi a b) (k : Kept w0 a) (hl : w0.heap.size ≤ lo) : Kept w0 b :=
  ⟨h.os.trans k.os, h.tape.trans k.tape, h.output.trans k.output, Nat.le_trans k.size h.size, fun i hi => (h.block i (Nat.lt_of_lt_of_le hi k.size) (.inl (by omega))).trans (k.block i hi)⟩
theorem Chg.cell {lo hi b o : Nat} {w w' : World} (h : Chg lo hi w w') (hb : b < w.heap.size) (ho : b < lo ∨ hi ≤ b) : w'.cell? ⟨b, o, none⟩ = w.cell? ⟨b, o, none⟩ := World.cell?_of_block (w := w) (a := ⟨b, o, none⟩) (h.block b hb ho)
theorem Chg.box {lo hi b : Nat} {w w' : World} {p m : Int} {vm : Value} (h : Chg lo hi w w') (hb : BoxF w b p m vm) (ho : b < lo ∨ hi ≤ b) : BoxF w' b p m vm :=
  ⟨Nat.lt_of_lt_of_le hb.lt h.size, (h.cell hb.lt ho).trans hb.h0, (h.cell hb.lt ho).trans hb.h1, (h.cell hb.lt ho).trans hb.h2⟩

/-- A matrix of n rows of the length cols: the row number i lies in block b i. -/
structure Mat (w : World) (lo hi g n cols : Nat) (b cp : Nat → Nat) (E : Nat → Nat → Int) : Prop where
  g1 : lo ≤ g
  g2 : g < hi
  hs : hi ≤ w.heap.size
  row : ∀ i, i < n → w.cell? ⟨g, i, none⟩ = some (.slice (some ⟨b i, 0, none⟩) cols (cp i))
  ent : ∀ i k, i < n → k < cols → w.cell? ⟨b i, k, none⟩ = some (.int .i64 (E i k))
  b1 : ∀ i, i < n → lo ≤ b i
  b2 : ∀ i, i < n → b i < hi
  bg : ∀ i, i < n → b i ≠ g
  inj : ∀ i j, i < n → j < n → b i = b j → i = j
  cc : ∀ i, i < n → cols ≤ cp i ∧ cp i ≤ maxLen
  fg : ∀ i, w.frozen? ⟨g, i, none⟩ = false
  fb : ∀ i k, i < n → w.frozen? ⟨b i, k, none⟩ = false
/-- An entry is written. -/
def ent1 (E : Nat → Nat → Int) (i k : Nat) (x : Int) : Nat → Nat → Int := fun j m => if j = i ∧ m = k then x else E j m
/-- Rows number r and p change places. -/
def swpN {β : Type} (b : Nat → β) (r p : Nat) : Nat → β := fun i => if i = r then b p else if i = p then b r else b i
section
variable {w : World} {lo hi g n cols : Nat} {b cp : Nat → Nat} {E : Nat → Nat → Int}
theorem Mat.of_blocks (h : Mat w lo hi g n cols b cp E) {w' : World} (hs : w.heap.size ≤ w'.heap.size) (hb : ∀ k, k < hi → w'.heap[k]? = w.heap[k]?) : Mat w' lo hi g n cols b cp E :=
  ⟨h.g1, h.g2, Nat.le_trans h.hs hs, fun i hi => (World.cell?_of_block (w := w) (a := ⟨g, i, none⟩) (hb g h.g2)).trans (h.row i hi),
    fun i k hi hk => (World.cell?_of_block (w := w) (a := ⟨b i, k, none⟩) (hb _ (h.b2 i hi))).trans (h.ent i k hi hk), h.b1, h.b2, h.bg, h.inj, h.cc,
    fun i => (World.frozen?_of_block (w := w) (a := ⟨g, i, none⟩) (hb g h.g2)).trans (h.fg i),
    fun i k hi => (World.frozen?_of_block (w := w) (a := ⟨b i, k, none⟩) (hb _ (h.b2 i hi))).trans (h.fb i k hi)⟩
theorem Mat.kept (h : Mat w lo hi g n cols b cp E) {w' : World} (k : Kept w w') : Mat w' lo hi g n cols b cp E := h.of_blocks k.size fun i hi => k.block i (Nat.lt_of_lt_of_le hi h.hs)
/-- A matrix of other blocks. -/
theorem Mat.chg (h : Mat w lo hi g n cols b cp E) {w' : World} {lo' hi' : Nat} (k : Chg lo' hi' w w') (hd : hi ≤ lo' ∨ hi' ≤ lo) : Mat w' lo hi g n cols b cp E := by
  have hb : ∀ j, lo ≤ j → j < hi → w'.heap[j]? = w.heap[j]? := fun j h1 h2 => k.block j (Nat.lt_of_lt_of_le h2 h.hs) (by omega)
  exact ⟨h.g1, h.g2, Nat.le_trans h.hs k.size, fun i hi => (World.cell?_of_block (w := w) (a := ⟨g, i, none⟩) (hb g h.g1 h.g2)).trans (h.row i hi),
    fun i k hi hk => (World.cell?_of_block (w := w) (a := ⟨b i, k, none⟩) (hb _ (h.b1 i hi) (h.b2 i hi))).trans (h.ent i k hi hk), h.b1, h.b2, h.bg, h.inj, h.cc,
    fun i => (World.frozen?_of_block (w := w) (a := ⟨g, i, none⟩) (hb g h.g1 h.g2)).trans (h.fg i),
    fun i k hi => (World.frozen?_of_block (w := w) (a := ⟨b i, k, none⟩) (hb _ (h.b1 i hi) (h.b2 i hi))).trans (h.fb i k hi)⟩
theorem Mat.put (h : Mat w lo hi g n cols b cp E) {i k : Nat} (hi' : i < n) (hk : k < cols) (x : Int) : Mat (w.setCell ⟨b i, k, none⟩ (.int .i64 x)) lo hi g n cols b cp (ent1 E i k x) := by
  refine ⟨h.g1, h.g2, by simpa [World.setCell] using h.hs, fun j hj => ?_, fun j m hj hm => ?_, h.b1, h.b2, h.bg, h.inj, h.cc, fun j => ?_, fun j m hj => ?_⟩
  · rw [World.cell?_of_block (w := w) (a := ⟨g, j, none⟩) (Below.heap_setCell _ _ _ _ (fun e => h.bg i hi' e.symm))]
    exact h.row j hj
  · unfold ent1
    by_cases e : j = i ∧ m = k
    · obtain ⟨rfl, rfl⟩ := e
      rw [if_pos ⟨rfl, rfl⟩]
      exact cSame (h.ent j m hj hm)
    · rw [if_neg e, cOther]
      · exact h.ent j m hj hm
      · by_cases e2 : b i = b j
        · have := h.inj i j hi' hj e2
          exact .inr (fun e3 => e ⟨this.symm, e3.symm⟩)
        · exact .inl e2
  · rw [World.frozen?_setCell]; exact h.fg j
  · rw [World.frozen?_setCell]; exact h.fb j m hj
theorem Mat.swap (h : Mat w lo hi g n cols b cp E) {r p : Nat} (hr : r < n) (hp : p < n) :
    Mat ((w.setCell ⟨g, r, none⟩ (.slice (some ⟨b p, 0, none⟩) cols (cp p))).setCell ⟨g, p, none⟩ (.slice (some ⟨b r, 0, none⟩) cols (cp r))) lo hi g n cols (swpN b r p) (swpN cp r p) (swpN E r p) := by
  have hx : ∀ i, i < n → ∃ j, j < n ∧ swpN b r p i = b j ∧ swpN cp r p i = cp j ∧ swpN E r p i = E j ∧ (j = if i = r then p else if i = p then r else i) := fun i hi => by
    unfold swpN
    by_cases e1 : i = r
    · exact ⟨p, hp, by simp [e1]⟩
    · by_cases e2 : i = p
      · exact ⟨r, hr, by subst e2; simp [e1]⟩
      · exact ⟨i, hi, by simp [e1, e2]⟩
  have hblk : ∀ k, k ≠ g → ((w.setCell ⟨g, r, none⟩ (.slice (some ⟨b p, 0, none⟩) cols (cp p))).setCell ⟨g, p, none⟩ (.slice (some ⟨b r, 0, none⟩) cols (cp r))).heap[k]? = w.heap[k]? := fun k hk =>
    (Below.heap_setCell _ _ _ _ hk).trans (Below.heap_setCell _ _ _ _ hk)
  refine ⟨h.g1, h.g2, by simpa [World.setCell] using h.hs, fun i hi => ?_, fun i k hi hk => ?_, fun i hi => ?_, fun i hi => ?_, fun i hi => ?_, fun i j hi hj e => ?_, fun i hi => ?_, fun i => ?_, fun i k hi => ?_⟩
  · by_cases e2 : i = p
    · subst e2
      rw [cSame (u := .slice (some ⟨b i, 0, none⟩) cols (cp i))]
      · unfold swpN
        by_cases e1 : i = r
        · subst e1; simp
        · simp [e1]
      · by_cases e1 : i = r
        · subst e1; exact cSame (h.row i hi)
        · rw [cOther (.inr (fun e => e1 e.symm))]
          exact h.row i hi
    · rw [cOther (.inr (fun e => e2 e.symm))]
      unfold swpN
      by_cases e1 : i = r
      · subst e1; rw [cSame (h.row i hi), if_pos rfl, if_pos rfl]
      · rw [cOther (.inr (fun e => e1 e.symm)), if_neg e1, if_neg e2, if_neg e1, if_neg e2]
        exact h.row i hi
  · obtain ⟨j, hj, q1, _, q3, _⟩ := hx i hi
    rw [q1, q3, World.cell?_of_block (w := w) (a := ⟨b j, k, none⟩) (hblk _ (h.bg j hj))]
    exact h.ent j k hj hk
  · obtain ⟨j, hj, q1, _⟩ := hx i hi
    rw [q1]; exact h.b1 j hj
  · obtain ⟨j, hj, q1, _⟩ := hx i hi
    rw [q1]; exact h.b2 j hj
  · obtain ⟨j, hj, q1, _⟩ := hx i hi
    rw [q1]; exact h.bg j hj
  · obtain ⟨j1, hj1, q1, _, _, q4⟩ := hx i hi
    obtain ⟨j2, hj2, q2, _, _, q5⟩ := hx j hj
    rw [q1, q2] at e
    have := h.inj _ _ hj1 hj2 e
    rw [q4, q5] at this
    split at this <;> split at this <;> (try split at this) <;> (try split at this) <;> omega
  · obtain ⟨j, hj, _, q1, _⟩ := hx i hi
    rw [q1]; exact h.cc j hj
  · rw [World.frozen?_setCell, World.frozen?_setCell]; exact h.fg i
  · obtain ⟨j, hj, q1, _⟩ := hx i hi
    rw [q1, World.frozen?_setCell, World.frozen?_setCell]; exact h.fb j k hj
end
end Go.Proofs.Ytmakdclgpeochaa
namespace Cw
open Rg Fd PS
namespace Rk
theorem gs_congr {α : Type} [Fd α] {A B B' : Nat → Nat → α} {n cols c r : Nat} (h : GS A n cols c r B) (hc : c ≤ cols) (e : ∀ i k, i < n → k < cols → B i k = B' i k) : GS A n cols c r B' :=
  ⟨fun m x hm => (sol_congr (fun i k hi hk => (e i k hi (by omega)).symm)).trans (h.eqv m x hm), fun i k h1 h2 h3 => by rw [← e i k h2 (by omega)]; exact h.low i k h1 h2 h3,
    fun y => by
      obtain ⟨x, hx⟩ := h.sur y
      exact ⟨x, fun i hi => by rw [← hx i hi]; exact sm_congr fun k hk => by rw [e i k (Nat.lt_of_lt_of_le hi h.rn) (by omega)]⟩, h.cnt, h.rn⟩
end Rk
end Cw
namespace Go.Proofs.Ytmakdclgpeochaa
open Go.RowKit Cw
/-- The entries are elements. -/
def BE (G : GFd) (n cols : Nat) (E : Nat → Nat → Int) : Prop := ∀ j m, j < n → m < cols → 0 ≤ E j m ∧ E j m < G.q
/-- The rows below number i are done, and of row number i the first k entries. -/
def EL {G : GFd} (t : Tabs G) (D : Nat → Nat → Rs t.fs.mon) (n cols c r i k : Nat) (E : Nat → Nat → Int) : Prop :=
  ∀ j m, j < n → m < cols → t.e (E j m) = if j < i ∨ (j = i ∧ m < k) then Rk.elm D c r j m else D j m
section
variable {G : GFd} {t : Tabs G} {D : Nat → Nat → Rs t.fs.mon} {n cols c r i k : Nat} {E : Nat → Nat → Int}
theorem elm_top {j m : Nat} (h : j ≤ r) : Rk.elm D c r j m = D j m := if_pos h
theorem elm_low {j m : Nat} (h : D r m = 0) : Rk.elm D c r j m = D j m := by
  unfold Rk.elm
  split
  · rfl
  · rw [h, Rg.mul_zero, Rg.sub_zero]
theorem el_start (E : Nat → Nat → Int) : EL t (fun j m => t.e (E j m)) n cols c r (r + 1) 0 E := fun j m _ _ => by
  by_cases h : j < r + 1
  · rw [if_pos (.inl h), elm_top (by omega)]
  · rw [if_neg (by omega)]
theorem EL.col (h : EL t D n cols c r i 0 E) (low : ∀ m, m < c → D r m = 0) : EL t D n cols c r i c E := fun j m hj hm => by
  rw [h j m hj hm]
  by_cases e : j < i
  · rw [if_pos (.inl e), if_pos (.inl e)]
  · rw [if_neg (by omega)]
    by_cases e2 : j = i ∧ m < c
    · rw [if_pos (.inr e2), elm_low (low m e2.2)]
    · rw [if_neg (by omega)]
theorem EL.row (h : EL t D n cols c r i cols E) : EL t D n cols c r (i + 1) 0 E := fun j m hj hm => by
  rw [h j m hj hm]
  by_cases e : j < i + 1
  · rw [if_pos (by omega), if_pos (.inl e)]
  · rw [if_neg (by omega), if_neg (by omega)]
theorem EL.pivot (h : EL t D n cols c r i k E) (hr : r < n) {m : Nat} (hm : m < cols) : t.e (E r m) = D r m := by
  rw [h r m hr hm]
  split
  · exact elm_top (Nat.le_refl _)
  · rfl
theorem EL.cur (h : EL t D n cols c r i k E) (hi : i < n) {m : Nat} (hm : m < cols) (hk : k ≤ m) : t.e (E i m) = D i m := by
  rw [h i m hi hm, if_neg (by omega)]
theorem EL.cur' (h : EL t D n cols c r i 0 E) (hi : i < n) {m : Nat} (hm : m < cols) : t.e (E i m) = D i m := h.cur hi hm (Nat.zero_le _)
theorem EL.step (h : EL t D n cols c r i k E) (hi : i < n) (hk : k < cols) (hr : r < i) {a : Int} (ha : t.e a = D i c * Fd.inv (D r c)) :
    EL t D n cols c r i (k + 1) (ent1 E i k (addG G (E i k) (negG G (mulG G a (E r k))))) := fun j m hj hm => by
  unfold ent1
  by_cases e : j = i ∧ m = k
  · obtain ⟨rfl, rfl⟩ := e
    rw [if_pos ⟨rfl, rfl⟩, if_pos (.inr ⟨rfl, by omega⟩), t.e_add, t.e_neg, t.e_mul, ha, h.cur hj hm (Nat.le_refl _), h.pivot (by omega) hm]
    unfold Rk.elm
    rw [if_neg (by omega), Rg.sub_def]
  · rw [if_neg e, h j m hj hm]
    by_cases e2 : j < i ∨ (j = i ∧ m < k)
    · rw [if_pos e2, if_pos (by omega)]
    · rw [if_neg e2, if_neg (by omega)]
theorem BE.put (h : BE G n cols E) {x : Int} (hx : 0 ≤ x ∧ x < G.q) : BE G n cols (ent1 E i k x) := fun j m hj hm => by
  unfold ent1
  split
  · exact hx
  · exact h j m hj hm
theorem BE.swap (h : BE G n cols E) {p : Nat} (hr : r < n) (hp : p < n) : BE G n cols (swpN E r p) := fun j m hj hm => by
  unfold swpN
  split
  · exact h p m hp hm
  · split
    · exact h r m hr hm
    · exact h j m hj hm
theorem swp_e {p : Nat} : (fun j m => t.e (swpN E r p j m)) = Rk.swp (fun j m => t.e (E j m)) r p := by
  funext j m
  unfold swpN Rk.swp
  split
  · rfl
  · split <;> rfl
theorem BE.zero (h : BE G n cols E) {j m : Nat} (hj : j < n) (hm : m < cols) : t.e (E j m) = 0 ↔ E j m = 0 := by
  rw [t.e_nz, inn_yes (h j m hj hm)]
end
end Go.Proofs.Ytmakdclgpeochaa
namespace Go.Proofs.Ytmakdclgpeochaa
open Go.RowKit Cw

set_option maxRecDepth 100000 in
set_option maxHeartbeats 8000000 in
theorem rRank_m (G : GFd) (t : Tabs G) (P M : Int) (mod : List Int) (vm : Value) (w0 w : World) (lo hi g n cols : Nat) (b cp : Nat → Nat) (E : Nat → Nat → Int) (cap : Nat) (ho : Hid (Of G P M mod)) (hvm : Sl w0 vm mod) (h0 : Kept w0 w) (hlo : w0.heap.size ≤ lo) (hn0 : 0 < n) (hn : n ≤ 10000) (hc0 : 0 < cols) (hc : cols ≤ 10000) (hM : Mat w lo hi g n cols b cp E) (hE : BE G n cols E) (A : Nat → Nat → Rs t.fs.mon) (hA : Hid (A = fun j m => t.e (E j m))) (hcap : n ≤ cap) (hcm : cap ≤ maxLen) :
    Calls Try.prog 36 #[.agg #[.int .i64 P, .int .i64 M, vm], .slice (some ⟨g, 0, none⟩) n cap, .int .i64 cols] w fun e w' => e = .returned (.int .i64 (Rk.rk A n cols : Nat)) ∧ Chg lo hi w w' := by
  have hk0 := kept_alloc w (.cells #[.int .i64 P, .int .i64 M, vm] 24)
  have hbx := boxF_new w P M vm 24
  have hM0 := hM.kept hk0
  have hhi := hM.hs
  have k00 := h0.tr hk0
  have HZ1 : (w.alloc (.cells #[.int .i64 P, .int .i64 M, vm] 24)).heap.size = w.heap.size + 1 := by simp
  have HZ1 := hid HZ1
  obtain ⟨w1, hw1⟩ : ∃ w1, w1 = w.alloc (.cells #[.int .i64 P, .int .i64 M, vm] 24) := ⟨_, rfl⟩
  rw [← hw1] at hk0 hbx HZ1 hM0 k00
  unfold maxLen at hcm
  go_enter Try.func36, Try.ntmps36
  go_wp2_with (fail)
  rw [← hw1]
  clear hw1
  go_loopw [7, 8] (fun vr vc wr => ∃ (r c : Nat) (b' cp' : Nat → Nat) (E' : Nat → Nat → Int), c ≤ cols ∧ vr = .int .i64 r ∧ vc = .int .i64 c ∧ Chg lo hi w1 wr ∧ Mat wr lo hi g n cols b' cp' E' ∧ BE G n cols E' ∧ Hid (Rk.GS A n cols c r (fun j m => t.e (E' j m)))) (fun _ vc _ => cols - (intOf vc).toNat)
  case atStart => exact ⟨0, 0, b, cp, E, by omega, rfl, rfl, Chg.refl _ _ _, hM0, hE, hid (by rw [← hA.out]; exact Rk.gs_start _ _ _)⟩
  case round =>
    obtain ⟨r, c, b', cp', E', hcc, rfl, rfl, hch, hM1, hBE, hgs⟩ := hrel
    clear hM hM0 hE hA
    have hbw := hch.box hbx (.inr hhi)
    have c0 := hbw.h0
    have c1 := hbw.h1
    have c2 := hbw.h2
    have smw : Sl wr vm mod := hvm.kept (hch.old k00 hlo)
    have hrn := hgs.out.rn
    by_cases hlt : c < cols
    case neg =>
      have hce : c = cols := by omega
      subst hce
      clear hcc hlt
      go_wp2_with (fail)
      go_ret
      exact ⟨ret_int (by rw [← hgs.out.cnt]), (Chg.of_kept hk0 _ _).tr hch⟩
    have hci : (c : Int) < (cols : Int) := by omega
    have c00 : (0 : Int) ≤ (c : Int) := by omega
    have hcl : c ≤ 10000 := by omega
    go_wp2_with (fail)
    go_loopw [9] (fun vp wx => ∃ p : Nat, r ≤ p ∧ p ≤ n ∧ vp = .int .i64 p ∧ Kept wr wx ∧ Hid (∀ i, r ≤ i → i < p → E' i c = 0)) (fun vp _ => n - (intOf vp).toNat)
    case atStart => exact ⟨r, by omega, hrn, rfl, Kept.rfl' _, hid (fun i h1 h2 => by omega)⟩
    case round =>
      obtain ⟨p, hrp, hpn, rfl, hkx, hz⟩ := hrel
      have hn1 : (0 : Int) ≤ (p : Int) := by omega
      by_cases hp : p < n
      case neg =>
        have hpe : p = n := by omega
        subst hpe
        have hgs' := hid (Rk.gs_none hgs.out hlt (fun i h1 h2 => by show t.e (E' i c) = 0; rw [hz.out i h1 h2, t.e_zero]))
        clear hp hpn
        go_wp2_with (fail)
        go_roundw
        case rel => exact ⟨r, c + 1, b', cp', E', by omega, rfl, by go_num, by first | exact hch.kept hkx | exact (hch.kept hkx).drew | exact (hch.kept hkx).drewN _, by first | exact hM1.kept hkx | exact (hM1.kept hkx).kept (kept_drew _) | exact (hM1.kept hkx).kept (kept_drewN _ _), hBE, hgs'⟩
        case measure => simp [intOf]; omega
      have hpi : (p : Int) < (n : Int) := by omega
      have hpne : ((p : Int) == (n : Int)) = false := by simp; omega
      have hpe2 : ¬ (p : Int) = (n : Int) := by omega
      have hM2 := hM1.kept hkx
      have e1 := hM2.row p hp
      have e2 := hM2.ent p c hp hlt
      have e3 := hM2.cc p hp
      have e4 := Nat.lt_of_lt_of_le (hM2.b2 p hp) hM2.hs
      have e5 := Nat.lt_of_lt_of_le hM2.g2 hM2.hs
      unfold maxLen at e3
      obtain ⟨bp, hbp⟩ : ∃ y, y = b' p := ⟨_, rfl⟩
      obtain ⟨cpp, hcpp⟩ : ∃ y, y = cp' p := ⟨_, rfl⟩
      obtain ⟨z, hzz⟩ : ∃ y, y = E' p c := ⟨_, rfl⟩
      rw [← hbp, ← hcpp] at e1
      rw [← hbp, ← hzz] at e2
      rw [← hcpp] at e3
      rw [← hbp] at e4
      obtain ⟨e31, e32⟩ := e3
      by_cases hz0 : z = 0
      · subst hz0
        have hz' : Hid (∀ i, r ≤ i → i < p + 1 → E' i c = 0) := hid (fun i h1 h2 => by
          by_cases e : i = p
          · rw [e]; exact hzz.symm
          · exact hz.out i h1 (by omega))
        clear hz hzz hbp hcpp
        go_wp2_with (fail)
        go_roundw
        case rel => exact ⟨p + 1, by omega, by omega, by go_num, by first | exact hkx | exact hkx.drew | exact hkx.drewN _, hz'⟩
        case measure => simp [intOf]; omega
      have HZ0 : (z == 0) = false := by simp; exact hz0
      have HBP := hid hbp
      have HCP := hid hcpp
      have HZZ := hid hzz
      clear hbp hcpp hzz
      go_wp2_with (fail)
      have hr : r < n := by omega
      have hri : (r : Int) < (n : Int) := by omega
      have hr0 : (0 : Int) ≤ (r : Int) := by omega
      have a1 := hM2.row r hr
      have f1 := hM2.fg r
      have f2 := hM2.fg p
      obtain ⟨br, hbr⟩ : ∃ y, y = b' r := ⟨_, rfl⟩
      obtain ⟨cpr, hcpr⟩ : ∃ y, y = cp' r := ⟨_, rfl⟩
      rw [← hbr, ← hcpr] at a1
      have q1 : ∃ v, (wr.setCell ⟨g, r, none⟩ (.slice (some ⟨bp, 0, none⟩) cols cpp)).cell? ⟨g, p, none⟩ = some v := by
        by_cases e : p = r
        · exact ⟨_, by rw [e]; exact cSame a1⟩
        · exact ⟨_, by rw [cOther (.inr (fun h => e h.symm))]; exact e1⟩
      obtain ⟨q1v, q1⟩ := q1
      have q2 : (wr.setCell ⟨g, r, none⟩ (.slice (some ⟨bp, 0, none⟩) cols cpp)).frozen? ⟨g, p, none⟩ = false := by rw [World.frozen?_setCell]; exact f2
      have HBR := hid hbr
      have HCPR := hid hcpr
      clear hbr hcpr e2
      refine wp_region_noPanic ?_
      refine wp_region_held_drew (S := fun w' => True) (by kernel_rfl) ?_ (fun hHeld => ?_)
      · trivial
      refine wpAnyH_take (i := 0) (oi := ?oz1) (v := ?vz1) ?hiz1 (by kernel_rfl) (by kernel_rfl) (by kernel_rfl) (fun _ _ _ h => h) (Or.inl ⟨?hwz1, ?hyz1⟩) (by assumption) ?restz1
      case hiz1 => (simp only [List.getElem?_toArray, List.getElem?_cons_zero]; rfl)
      case hwz1 => rfl
      case hyz1 => (intro w hSw; (try dsimp only at hSw); go_simp; with_reducible rfl)
      try simp only [Act.put, List.setIfInBounds_toArray, List.set_cons_zero, List.set_cons_succ]
      refine wpAnyH_take (i := 1) (oi := ?oz2) (v := ?vz2) ?hiz2 (by kernel_rfl) (by kernel_rfl) (by kernel_rfl) (fun _ _ _ h => h) (Or.inl ⟨?hwz2, ?hyz2⟩) (by assumption) ?restz2
      case hiz2 => (simp only [List.getElem?_toArray, List.getElem?_cons_succ, List.getElem?_cons_zero]; rfl)
      case hwz2 => rfl
      case hyz2 => (intro w hSw; (try dsimp only at hSw); go_simp; with_reducible rfl)
      try simp only [Act.put, List.setIfInBounds_toArray, List.set_cons_zero, List.set_cons_succ]
      refine wpAnyH_take (i := 2) (oi := ?oz3) (v := ?vz3) ?hiz3 (by kernel_rfl) (by kernel_rfl) (by kernel_rfl) (fun _ _ _ h => h) (Or.inl ⟨?hwz3, ?hyz3⟩) (by assumption) ?restz3
      case hiz3 => (simp only [List.getElem?_toArray, List.getElem?_cons_succ, List.getElem?_cons_zero]; rfl)
      case hwz3 => rfl
      case hyz3 => (intro w hSw; (try dsimp only at hSw); go_simp; with_reducible rfl)
      try simp only [Act.put, List.setIfInBounds_toArray, List.set_cons_zero, List.set_cons_succ]
      refine wpAnyH_take (i := 3) (oi := ?oz4) (v := ?vz4) ?hiz4 (by kernel_rfl) (by kernel_rfl) (by kernel_rfl) (fun _ _ _ h => h) (Or.inl ⟨?hwz4, ?hyz4⟩) (by assumption) ?restz4
      case hiz4 => (simp only [List.getElem?_toArray, List.getElem?_cons_succ, List.getElem?_cons_zero]; rfl)
      case hwz4 => rfl
      case hyz4 => (intro w hSw; (try dsimp only at hSw); go_simp; with_reducible rfl)
      try simp only [Act.put, List.setIfInBounds_toArray, List.set_cons_zero, List.set_cons_succ]
      refine wpAnyH_take (i := 4) (oi := ?oz5) (v := ?vz5) ?hiz5 (by kernel_rfl) (by kernel_rfl) (by kernel_rfl) (fun _ _ _ h => h) (Or.inl ⟨?hwz5, ?hyz5⟩) (by assumption) ?restz5
      case hiz5 => (simp only [List.getElem?_toArray, List.getElem?_cons_succ, List.getElem?_cons_zero]; rfl)
      case hwz5 => rfl
      case hyz5 => (intro w hSw; (try dsimp only at hSw); go_simp; with_reducible rfl)
      try simp only [Act.put, List.setIfInBounds_toArray, List.set_cons_zero, List.set_cons_succ]
      refine wpAnyH_take (i := 5) (oi := ?oz6) (v := ?vz6) ?hiz6 (by kernel_rfl) (by kernel_rfl) (by kernel_rfl) (fun _ _ _ h => h) (Or.inl ⟨?hwz6, ?hyz6⟩) (by assumption) ?restz6
      case hiz6 => (simp only [List.getElem?_toArray, List.getElem?_cons_succ, List.getElem?_cons_zero]; rfl)
      case hwz6 => rfl
      case hyz6 => (intro w hSw; (try dsimp only at hSw); go_simp; with_reducible rfl)
      try simp only [Act.put, List.setIfInBounds_toArray, List.set_cons_zero, List.set_cons_succ]
      refine wpAnyH_take (i := 6) (oi := ?oz7) (v := ?vz7) ?hiz7 (by kernel_rfl) (by kernel_rfl) (by kernel_rfl) (fun _ _ _ h => h) (Or.inl ⟨?hwz7, ?hyz7⟩) (by assumption) ?restz7
      case hiz7 => (simp only [List.getElem?_toArray, List.getElem?_cons_succ, List.getElem?_cons_zero]; rfl)
      case hwz7 => rfl
      case hyz7 => (intro w hSw; (try dsimp only at hSw); go_simp; with_reducible rfl)
      try simp only [Act.put, List.setIfInBounds_toArray, List.set_cons_zero, List.set_cons_succ]
      refine wpAnyH_take (i := 8) (oi := ?oz8) (v := ?vz8) ?hiz8 (by kernel_rfl) (by kernel_rfl) (by kernel_rfl) (fun _ _ _ h => h) (Or.inl ⟨?hwz8, ?hyz8⟩) (by assumption) ?restz8
      case hiz8 => (simp only [List.getElem?_toArray, List.getElem?_cons_succ, List.getElem?_cons_zero]; rfl)
      case hwz8 => rfl
      case hyz8 => (intro w hSw; (try dsimp only at hSw); go_simp; with_reducible rfl)
      try simp only [Act.put, List.setIfInBounds_toArray, List.set_cons_zero, List.set_cons_succ]
      refine wpAnyH_take (i := 9) (oi := ?oz9) (v := ?vz9) ?hiz9 (by kernel_rfl) (by kernel_rfl) (by kernel_rfl) (fun _ _ _ h => h) (Or.inl ⟨?hwz9, ?hyz9⟩) (by assumption) ?restz9
      case hiz9 => (simp only [List.getElem?_toArray, List.getElem?_cons_succ, List.getElem?_cons_zero]; rfl)
      case hwz9 => rfl
      case hyz9 => (intro w hSw; (try dsimp only at hSw); go_simp; with_reducible rfl)
      try simp only [Act.put, List.setIfInBounds_toArray, List.set_cons_zero, List.set_cons_succ]
      refine wpAnyH_take (i := 10) (oi := ?oz10) (v := ?vz10) ?hiz10 (by kernel_rfl) (by kernel_rfl) (by kernel_rfl) (fun _ _ _ h => h) (Or.inl ⟨?hwz10, ?hyz10⟩) (by assumption) ?restz10
      case hiz10 => (simp only [List.getElem?_toArray, List.getElem?_cons_succ, List.getElem?_cons_zero]; rfl)
      case hwz10 => rfl
      case hyz10 => (intro w hSw; (try dsimp only at hSw); go_simp; with_reducible rfl)
      try simp only [Act.put, List.setIfInBounds_toArray, List.set_cons_zero, List.set_cons_succ]
      refine wpAnyH_ready (rs := [7, 11]) (by kernel_rfl) (by simp) ?_
      refine AllReadyH.cons (o := ?oAt11) ?hAt11 (fun K hK => ?bAt11) (AllReadyH.cons (o := ?oBt11) ?hBt11 (fun K hK => ?bBt11) AllReadyH.nil)
      case hAt11 => (simp only [List.getElem?_toArray, List.getElem?_cons_succ, List.getElem?_cons_zero]; rfl)
      case hBt11 => (simp only [List.getElem?_toArray, List.getElem?_cons_succ, List.getElem?_cons_zero]; rfl)
      case bAt11 =>
        go_simp
        refine hK.out _ _ ?_ (fun hHeld => ?_)
        · first | assumption | trivial
        clear hK K
        try simp only [Act.put, List.setIfInBounds_toArray, List.set_cons_zero, List.set_cons_succ]
        refine wpAnyH_ready (rs := [11]) (by kernel_rfl) (by simp) ?_
        refine AllReadyH.cons (o := ?oy12) ?hy12 (fun K hK => ?by12) AllReadyH.nil
        case hy12 => (simp only [List.getElem?_toArray, List.getElem?_cons_succ, List.getElem?_cons_zero]; rfl)
        go_simp
        refine hK.out _ _ ?_ (fun hHeld => ?_)
        · first | assumption | trivial
        clear hK K
        try simp only [Act.put, List.setIfInBounds_toArray, List.set_cons_zero, List.set_cons_succ]
        refine wpAnyH_take (i := 12) (oi := ?oz13) (v := ?vz13) ?hiz13 (by kernel_rfl) (by kernel_rfl) (by kernel_rfl) (fun _ _ _ h => h) (Or.inl ⟨?hwz13, ?hyz13⟩) (by assumption) ?restz13
        case hiz13 => (simp only [List.getElem?_toArray, List.getElem?_cons_succ, List.getElem?_cons_zero]; rfl)
        case hwz13 => rfl
        case hyz13 => (intro w hSw; (try dsimp only at hSw); go_simp; with_reducible rfl)
        try simp only [Act.put, List.setIfInBounds_toArray, List.set_cons_zero, List.set_cons_succ]
        refine wpAnyH_ready (rs := [13]) (by kernel_rfl) (by simp) ?_
        refine AllReadyH.cons (o := ?oy14) ?hy14 (fun K hK => ?by14) AllReadyH.nil
        case hy14 => (simp only [List.getElem?_toArray, List.getElem?_cons_succ, List.getElem?_cons_zero]; rfl)
        go_simp
        refine hK.out _ _ ?_ (fun hHeld => ?_)
        · first | assumption | trivial
        clear hK K
        try simp only [Act.put, List.setIfInBounds_toArray, List.set_cons_zero, List.set_cons_succ]
        refine wpAnyH_take (i := 14) (oi := ?oz15) (v := ?vz15) ?hiz15 (by kernel_rfl) (by kernel_rfl) (by kernel_rfl) (fun _ _ _ h => h) (Or.inl ⟨?hwz15, ?hyz15⟩) (by assumption) ?restz15
        case hiz15 => (simp only [List.getElem?_toArray, List.getElem?_cons_succ, List.getElem?_cons_zero]; rfl)
        case hwz15 => rfl
        case hyz15 => (intro w hSw; (try dsimp only at hSw); go_simp; with_reducible rfl)
        try simp only [Act.put, List.setIfInBounds_toArray, List.set_cons_zero, List.set_cons_succ]
        refine wpAnyH_ready (rs := [15]) (by kernel_rfl) (by simp) ?_
        refine AllReadyH.cons (o := ?oy16) ?hy16 (fun K hK => ?by16) AllReadyH.nil
        case hy16 => (simp only [List.getElem?_toArray, List.getElem?_cons_succ, List.getElem?_cons_zero]; rfl)
        go_simp
        refine hK.out _ _ ?_ (fun hHeld => ?_)
        · first | assumption | trivial
        clear hK K
        try simp only [Act.put, List.setIfInBounds_toArray, List.set_cons_zero, List.set_cons_succ]
        refine wpAnyH_done (by kernel_rfl) ?_ _
        refine NoPanic.normal ?_
        clear q1 q2 f1 f2 e1 a1 e4
        have hM3 := (hM2.swap hr hp).kept (kept_drew _)
        rw [← HBP.out, ← HCP.out, ← HBR.out, ← HCPR.out] at hM3
        have hch3 := (((hch.kept hkx).set (p := ⟨g, r, none⟩) hM2.g1 hM2.g2 (.slice (some ⟨bp, 0, none⟩) cols cpp)).set (p := ⟨g, p, none⟩) hM2.g1 hM2.g2 (.slice (some ⟨br, 0, none⟩) cols cpr)).drew
        obtain ⟨W2, hW2⟩ : ∃ W, W = ((wr.setCell ⟨g, r, none⟩ (.slice (some ⟨bp, 0, none⟩) cols cpp)).setCell ⟨g, p, none⟩ (.slice (some ⟨br, 0, none⟩) cols cpr)).drew := ⟨_, rfl⟩
        rw [← hW2] at hM3 hch3 ⊢
        obtain ⟨b2, hb2⟩ : ∃ y, y = swpN b' r p := ⟨_, rfl⟩
        obtain ⟨cp2, hcp2⟩ : ∃ y, y = swpN cp' r p := ⟨_, rfl⟩
        obtain ⟨E0, hE0⟩ : ∃ y, y = swpN E' r p := ⟨_, rfl⟩
        rw [← hb2, ← hcp2, ← hE0] at hM3
        have hBE0 : BE G n cols E0 := by rw [hE0]; exact hBE.swap hr hp
        obtain ⟨D, hD⟩ : ∃ D : Nat → Nat → Rs t.fs.mon, D = fun j m => t.e (E0 j m) := ⟨_, rfl⟩
        have hpz : E0 r c = z := by rw [hE0, HZZ.out]; unfold swpN; rw [if_pos rfl]
        have hzr : inn G.q z ≠ 0 := by
          rw [inn_yes (by rw [← hpz]; exact hBE0 r c hr hlt)]
          exact hz0
        have hgs3 : Hid (Rk.GS A n cols (c + 1) (r + 1) (Rk.elm D c r)) := hid (by
          rw [hD, hE0, swp_e]
          refine Rk.gs_pivot hgs.out hlt hrp hp ?_
          show t.e (E' p c) ≠ 0
          rw [← HZZ.out]
          exact fun e => hzr (t.e_nz.1 e))
        have hlow : Hid (∀ m, m < c → D r m = 0) := hid (fun m hm => by
          rw [hD, hE0]
          show t.e (swpN E' r p r m) = 0
          unfold swpN
          rw [if_pos rfl]
          exact hgs.out.low p m hrp hp hm)
        have hinv : Hid (t.e (invG G z) = Fd.inv (D r c)) := hid (by
          rw [t.e_invG hzr, hD]
          show Fd.inv (t.e z) = Fd.inv (t.e (E0 r c))
          rw [hpz])
        have hEL0 : Hid (EL t D n cols c r (r + 1) 0 E0) := hid (by rw [hD]; exact el_start E0)
        obtain ⟨iv, hiv⟩ : ∃ y, y = invG G z := ⟨_, rfl⟩
        have HIV : Hid (invG G z = iv) := hid hiv.symm
        rw [← hiv] at hinv
        clear hb2 hcp2 hD hE0 hW2 hiv hz hzr
        have hbw := hch3.box hbx (.inr hhi)
        have c0 := hbw.h0
        have c1 := hbw.h1
        have c2 := hbw.h2
        have smw : Sl W2 vm mod := hvm.kept (hch3.old k00 hlo)
        have lg := Nat.lt_of_lt_of_le hM3.g2 hM3.hs
        have r1 := hM3.row r hr
        have r2 := hM3.ent r c hr hlt
        have r3 := hM3.cc r hr
        have lr := Nat.lt_of_lt_of_le (hM3.b2 r hr) hM3.hs
        unfold maxLen at r3
        obtain ⟨r31, r32⟩ := r3
        rw [hpz] at r2
        obtain ⟨ar, har⟩ : ∃ y, y = b2 r := ⟨_, rfl⟩
        obtain ⟨cr, hcr⟩ : ∃ y, y = cp2 r := ⟨_, rfl⟩
        rw [← har, ← hcr] at r1
        rw [← har] at r2 lr
        rw [← hcr] at r31 r32
        have HAR := hid har
        have HCR := hid hcr
        have hkc := Kept.rfl' W2
        clear hpz har hcr
        go_wp2_with (fail)
        go_region_held3 (fun w' => w'.cell? ⟨w.heap.size, 0, none⟩ = some (.int .i64 P) ∧ w'.cell? ⟨w.heap.size, 1, none⟩ = some (.int .i64 M) ∧ w'.cell? ⟨w.heap.size, 2, none⟩ = some vm ∧ w'.cell? ⟨g, r, none⟩ = some (.slice (some ⟨ar, 0, none⟩) cols cr) ∧ w'.cell? ⟨ar, c, none⟩ = some (.int .i64 z)) (first | (simp [go_sem]; done) | (simp [*]; done))
          (first
            | (go_at_call 58; (with_reducible refine (rInv_p G t P M mod vm z _ ho (smw.kept (by first | exact hkc | exact hkc.tr (kept_drew _) | exact hkc.tr (kept_drewN _ _)))).mono ?_); rintro e wx ⟨rfl, kx⟩; rw [HIV.out]; have hkn := Kept.tr (b := _) (by first | exact hkc | exact hkc.tr (kept_drew _) | exact hkc.tr (kept_drewN _ _)) kx; clear hkc kx; have hkc := hkn; clear hkn; have bxx := hbw.kept hkc; have d0 := bxx.h0; have d1 := bxx.h1; have d2 := bxx.h2; have d3 := (Kept.cell' hkc lg).trans r1; have d4 := (Kept.cell' hkc lr).trans r2))
        all_goals
          have hM4 := hM3.kept hkc
          have hch4 := hch3.kept hkc
          clear r1 r2
          go_wp2_with (fail)
          go_loopw [11] (fun vi wx => ∃ (i : Nat) (E3 : Nat → Nat → Int), r + 1 ≤ i ∧ i ≤ n ∧ vi = .int .i64 i ∧ Chg lo hi w1 wx ∧ Mat wx lo hi g n cols b2 cp2 E3 ∧ BE G n cols E3 ∧ Hid (EL t D n cols c r i 0 E3)) (fun vi _ => n - (intOf vi).toNat)
          case atStart => exact ⟨r + 1, E0, by omega, by omega, by go_num, by first | exact hch4 | exact hch4.drew | exact hch4.drewN _, by first | exact hM4 | exact hM4.kept (kept_drew _) | exact hM4.kept (kept_drewN _ _), hBE0, hEL0⟩
          case round =>
            obtain ⟨i, E3, hri1, hin, rfl, hch5, hM5, hBE5, hEL5⟩ := hrel
            clear hM3 hM4 hch3 hch4 hM2 hkc
            have hbw := hch5.box hbx (.inr hhi)
            have c0 := hbw.h0
            have c1 := hbw.h1
            have c2 := hbw.h2
            have smw : Sl wr vm mod := hvm.kept (hch5.old k00 hlo)
            by_cases hi' : i < n
            case neg =>
              have hie : n = i := by omega
              subst hie
              have hgs6 : Hid (Rk.GS A n cols (c + 1) (r + 1) (fun j m => t.e (E3 j m))) := hid (Rk.gs_congr hgs3.out (by omega) (fun j m hj hm => by rw [hEL5.out j m hj hm, if_pos (.inl hj)]))
              clear hi' hin
              go_wp2_with (fail)
              go_roundw
              case rel => exact ⟨r + 1, c + 1, b2, cp2, E3, by omega, by go_num, by go_num, by first | exact hch5 | exact hch5.drew | exact hch5.drewN _, by first | exact hM5 | exact hM5.kept (kept_drew _) | exact hM5.kept (kept_drewN _ _), hBE5, hgs6⟩
              case measure => simp [intOf]; omega
            have hii : (i : Int) < (n : Int) := by omega
            have hi0 : (0 : Int) ≤ (i : Int) := by omega
            have lg := Nat.lt_of_lt_of_le hM5.g2 hM5.hs
            have r1 := hM5.row i hi'
            have r2 := hM5.ent i c hi' hlt
            have r3 := hM5.cc i hi'
            have li := Nat.lt_of_lt_of_le (hM5.b2 i hi') hM5.hs
            have ng := hM5.bg i hi'
            have nr : b2 i ≠ b2 r := fun e => by have := hM5.inj i r hi' hr e; omega
            have nw := Nat.lt_of_lt_of_le (hM5.b2 i hi') hhi
            have nl := hM5.b1 i hi'
            have nh := hM5.b2 i hi'
            unfold maxLen at r3
            obtain ⟨ri1, ri2⟩ := r3
            have hxe := hEL5.out.cur' hi' hlt
            obtain ⟨x, hx⟩ : ∃ y, y = E3 i c := ⟨_, rfl⟩
            obtain ⟨ai, hai⟩ : ∃ y, y = b2 i := ⟨_, rfl⟩
            obtain ⟨ci, hci2⟩ : ∃ y, y = cp2 i := ⟨_, rfl⟩
            rw [← hx] at r2 hxe
            rw [← hai, ← hci2] at r1
            rw [← hai] at r2 li ng nw nl nh nr
            rw [← HAR.out] at nr
            rw [← hci2] at ri1 ri2
            have ha : Hid (t.e (mulG G x iv) = D i c * Fd.inv (D r c)) := hid (by rw [t.e_mul, hxe, hinv.out])
            obtain ⟨av, hav⟩ : ∃ y, y = mulG G x iv := ⟨_, rfl⟩
            have HAV : Hid (mulG G x iv = av) := hid hav.symm
            rw [← hav] at ha
            have HAI := hid hai
            have HCI := hid hci2
            clear hx hai hci2 hav hxe
            have hkc := Kept.rfl' wr
            go_wp2_with (fail)
            go_region_held3 (fun w' => w'.cell? ⟨w.heap.size, 0, none⟩ = some (.int .i64 P) ∧ w'.cell? ⟨w.heap.size, 1, none⟩ = some (.int .i64 M) ∧ w'.cell? ⟨w.heap.size, 2, none⟩ = some vm ∧ w'.cell? ⟨g, i, none⟩ = some (.slice (some ⟨ai, 0, none⟩) cols ci) ∧ w'.cell? ⟨ai, c, none⟩ = some (.int .i64 x)) (first | (simp [go_sem]; done) | (simp [*]; done))
              (first
                | (go_at_call 24; (with_reducible refine (rMul_field G t P M mod vm x iv _ ho.out (smw.kept (by first | exact hkc | exact hkc.tr (kept_drew _) | exact hkc.tr (kept_drewN _ _)))).mono ?_); rintro e wx ⟨rfl, kx⟩; rw [HAV.out]; have hkn := Kept.tr (b := _) (by first | exact hkc | exact hkc.tr (kept_drew _) | exact hkc.tr (kept_drewN _ _)) kx; clear hkc kx; have hkc := hkn; clear hkn; have bxx := hbw.kept hkc; have d0 := bxx.h0; have d1 := bxx.h1; have d2 := bxx.h2; have d3 := (Kept.cell' hkc lg).trans r1; have d4 := (Kept.cell' hkc li).trans r2))
            all_goals
              have hM6 := hM5.kept hkc
              have hch6 := hch5.kept hkc
              have hEC : Hid (EL t D n cols c r i c E3) := hid (hEL5.out.col hlow.out)
              clear r1 r2
              go_wp2_with (fail)
              go_loopw [13] (fun vk wy => ∃ (k : Nat) (E4 : Nat → Nat → Int), c ≤ k ∧ k ≤ cols ∧ vk = .int .i64 k ∧ Chg lo hi w1 wy ∧ Mat wy lo hi g n cols b2 cp2 E4 ∧ BE G n cols E4 ∧ Hid (EL t D n cols c r i k E4)) (fun vk _ => cols - (intOf vk).toNat)
              case atStart => exact ⟨c, E3, Nat.le_refl _, hcc, rfl, by first | exact hch6 | exact hch6.drew | exact hch6.drewN _, by first | exact hM6 | exact hM6.kept (kept_drew _) | exact hM6.kept (kept_drewN _ _), hBE5, hEC⟩
              case round =>
                obtain ⟨k, E4, hck, hkc', rfl, hch7, hM7, hBE7, hEL7⟩ := hrel
                clear hM5 hM6 hch5 hch6 hkc
                have hbw := hch7.box hbx (.inr hhi)
                have c0 := hbw.h0
                have c1 := hbw.h1
                have c2 := hbw.h2
                have smw : Sl wr vm mod := hvm.kept (hch7.old k00 hlo)
                have kk0 : (0 : Int) ≤ (k : Int) := by omega
                by_cases hk' : k < cols
                case neg =>
                  have hke : cols = k := by omega
                  have hEL8 : Hid (EL t D n cols c r (i + 1) 0 E4) := hid (EL.row (by rw [hke]; rw [hke] at hEL7; exact hEL7.out))
                  have hkk : ¬ (k : Int) < (cols : Int) := by omega
                  clear hk' hkc' hke
                  go_wp2_with (fail)
                  go_roundw
                  case rel => exact ⟨i + 1, E4, by omega, by omega, by go_num, by first | exact hch7 | exact hch7.drew | exact hch7.drewN _, by first | exact hM7 | exact hM7.kept (kept_drew _) | exact hM7.kept (kept_drewN _ _), hBE7, hEL8⟩
                  case measure => simp [intOf]; omega
                have hkk : (k : Int) < (cols : Int) := by omega
                have s1 := hM7.row i hi'
                have s2 := hM7.row r hr
                have s3 := hM7.ent i k hi' hk'
                have s4 := hM7.ent r k hr hk'
                have s5 := hM7.fb i k hi'
                have lg := Nat.lt_of_lt_of_le hM7.g2 hM7.hs
                have la := Nat.lt_of_lt_of_le (hM7.b2 i hi') hM7.hs
                have lr := Nat.lt_of_lt_of_le (hM7.b2 r hr) hM7.hs
                have HST := hEL7.out.step hi' hk' (by omega) ha.out
                obtain ⟨x2, hx2⟩ : ∃ y, y = E4 i k := ⟨_, rfl⟩
                obtain ⟨y2, hy2⟩ : ∃ y, y = E4 r k := ⟨_, rfl⟩
                rw [← hx2] at s3 HST
                rw [← hy2] at s4 HST
                rw [← HAI.out, ← HCI.out] at s1
                rw [← HAR.out, ← HCR.out] at s2
                rw [← HAI.out] at s3 s5 la
                rw [← HAR.out] at s4 lr
                have HST := hid HST
                clear hx2 hy2
                have hkc := Kept.rfl' wr
                go_wp2_with (fail)
                refine wp_region_noPanic ?_
                refine wp_region_held_drew (S := fun w' => w'.cell? ⟨w.heap.size, 0, none⟩ = some (.int .i64 P) ∧ w'.cell? ⟨w.heap.size, 1, none⟩ = some (.int .i64 M) ∧ w'.cell? ⟨w.heap.size, 2, none⟩ = some vm ∧ w'.cell? ⟨g, i, none⟩ = some (.slice (some ⟨ai, 0, none⟩) cols ci) ∧ w'.cell? ⟨g, r, none⟩ = some (.slice (some ⟨ar, 0, none⟩) cols cr) ∧ w'.cell? ⟨ar, k, none⟩ = some (.int .i64 y2)) (by kernel_rfl) ?_ (fun hHeld => ?_)
                · (first | (simp [go_sem]; done) | (refine ⟨?_, ?_, ?_, ?_, ?_, ?_⟩ <;> (rw [cell_setNe _ (by omega)]; assumption)) | (simp [*]; done))
                refine wpAnyH_take (i := 0) (oi := ?ozq11) (v := ?vzq11) ?hizq11 (by kernel_rfl) (by kernel_rfl) (by kernel_rfl) (fun _ _ _ h => h) (Or.inl ⟨?hwzq11, ?hyzq11⟩) (by assumption) ?restzq11
                case hizq11 => (simp only [List.getElem?_toArray, List.getElem?_cons_zero]; rfl)
                case hwzq11 => rfl
                case hyzq11 => (intro w hSw; (try dsimp only at hSw); go_simp; with_reducible rfl)
                try simp only [Act.put, List.setIfInBounds_toArray, List.set_cons_zero, List.set_cons_succ]
                refine wpAnyH_take (i := 1) (oi := ?ozq12) (v := ?vzq12) ?hizq12 (by kernel_rfl) (by kernel_rfl) (by kernel_rfl) (fun _ _ _ h => h) (Or.inl ⟨?hwzq12, ?hyzq12⟩) (by assumption) ?restzq12
                case hizq12 => (simp only [List.getElem?_toArray, List.getElem?_cons_succ, List.getElem?_cons_zero]; rfl)
                case hwzq12 => rfl
                case hyzq12 => (intro w hSw; (try dsimp only at hSw); go_simp; with_reducible rfl)
                try simp only [Act.put, List.setIfInBounds_toArray, List.set_cons_zero, List.set_cons_succ]
                refine wpAnyH_take (i := 2) (oi := ?ozq13) (v := ?vzq13) ?hizq13 (by kernel_rfl) (by kernel_rfl) (by kernel_rfl) (fun _ _ _ h => h) (Or.inl ⟨?hwzq13, ?hyzq13⟩) (by assumption) ?restzq13
                case hizq13 => (simp only [List.getElem?_toArray, List.getElem?_cons_succ, List.getElem?_cons_zero]; rfl)
                case hwzq13 => rfl
                case hyzq13 => (intro w hSw; (try dsimp only at hSw); go_simp; with_reducible rfl)
                try simp only [Act.put, List.setIfInBounds_toArray, List.set_cons_zero, List.set_cons_succ]
                refine wpAnyH_take (i := 3) (oi := ?ozq14) (v := ?vzq14) ?hizq14 (by kernel_rfl) (by kernel_rfl) (by kernel_rfl) (fun _ _ _ h => h) (Or.inl ⟨?hwzq14, ?hyzq14⟩) (by assumption) ?restzq14
                case hizq14 => (simp only [List.getElem?_toArray, List.getElem?_cons_succ, List.getElem?_cons_zero]; rfl)
                case hwzq14 => rfl
                case hyzq14 => (intro w hSw; (try dsimp only at hSw); go_simp; with_reducible rfl)
                try simp only [Act.put, List.setIfInBounds_toArray, List.set_cons_zero, List.set_cons_succ]
                refine wpAnyH_take (i := 4) (oi := ?ozq15) (v := ?vzq15) ?hizq15 (by kernel_rfl) (by kernel_rfl) (by kernel_rfl) (fun _ _ _ h => h) (Or.inl ⟨?hwzq15, ?hyzq15⟩) (by assumption) ?restzq15
                case hizq15 => (simp only [List.getElem?_toArray, List.getElem?_cons_succ, List.getElem?_cons_zero]; rfl)
                case hwzq15 => rfl
                case hyzq15 => (intro w hSw; (try dsimp only at hSw); go_simp; with_reducible rfl)
                try simp only [Act.put, List.setIfInBounds_toArray, List.set_cons_zero, List.set_cons_succ]
                refine wpAnyH_take (i := 5) (oi := ?ozq16) (v := ?vzq16) ?hizq16 (by kernel_rfl) (by kernel_rfl) (by kernel_rfl) (fun _ _ _ h => h) (Or.inl ⟨?hwzq16, ?hyzq16⟩) (by assumption) ?restzq16
                case hizq16 => (simp only [List.getElem?_toArray, List.getElem?_cons_succ, List.getElem?_cons_zero]; rfl)
                case hwzq16 => rfl
                case hyzq16 => (intro w hSw; (try dsimp only at hSw); go_simp; with_reducible rfl)
                try simp only [Act.put, List.setIfInBounds_toArray, List.set_cons_zero, List.set_cons_succ]
                refine wpAnyH_take (i := 6) (oi := ?ozq17) (v := ?vzq17) ?hizq17 (by kernel_rfl) (by kernel_rfl) (by kernel_rfl) (fun _ _ _ h => h) (Or.inl ⟨?hwzq17, ?hyzq17⟩) (by assumption) ?restzq17
                case hizq17 => (simp only [List.getElem?_toArray, List.getElem?_cons_succ, List.getElem?_cons_zero]; rfl)
                case hwzq17 => rfl
                case hyzq17 => (intro w hSw; (try dsimp only at hSw); go_simp; with_reducible rfl)
                try simp only [Act.put, List.setIfInBounds_toArray, List.set_cons_zero, List.set_cons_succ]
                refine wpAnyH_take (i := 7) (oi := ?ozq18) (v := ?vzq18) ?hizq18 (by kernel_rfl) (by kernel_rfl) (by kernel_rfl) (fun _ _ _ h => h) (Or.inl ⟨?hwzq18, ?hyzq18⟩) (by assumption) ?restzq18
                case hizq18 => (simp only [List.getElem?_toArray, List.getElem?_cons_succ, List.getElem?_cons_zero]; rfl)
                case hwzq18 => rfl
                case hyzq18 => (intro w hSw; (try dsimp only at hSw); go_simp; with_reducible rfl)
                try simp only [Act.put, List.setIfInBounds_toArray, List.set_cons_zero, List.set_cons_succ]
                refine wpAnyH_take (i := 8) (oi := ?ozq19) (v := ?vzq19) ?hizq19 (by kernel_rfl) (by kernel_rfl) (by kernel_rfl) (fun _ _ _ h => h) (Or.inl ⟨?hwzq19, ?hyzq19⟩) (by assumption) ?restzq19
                case hizq19 => (simp only [List.getElem?_toArray, List.getElem?_cons_succ, List.getElem?_cons_zero]; rfl)
                case hwzq19 => rfl
                case hyzq19 => (intro w hSw; (try dsimp only at hSw); go_simp; with_reducible rfl)
                try simp only [Act.put, List.setIfInBounds_toArray, List.set_cons_zero, List.set_cons_succ]
                refine wpAnyH_take (i := 9) (oi := ?ozq110) (v := ?vzq110) ?hizq110 (by kernel_rfl) (by kernel_rfl) (by kernel_rfl) (fun _ _ _ h => h) (Or.inl ⟨?hwzq110, ?hyzq110⟩) (by assumption) ?restzq110
                case hizq110 => (simp only [List.getElem?_toArray, List.getElem?_cons_succ, List.getElem?_cons_zero]; rfl)
                case hwzq110 => rfl
                case hyzq110 => (intro w hSw; (try dsimp only at hSw); go_simp; with_reducible rfl)
                try simp only [Act.put, List.setIfInBounds_toArray, List.set_cons_zero, List.set_cons_succ]
                refine wpAnyH_take (i := 10) (oi := ?ozq111) (v := ?vzq111) ?hizq111 (by kernel_rfl) (by kernel_rfl) (by kernel_rfl) (fun _ _ _ h => h) (Or.inl ⟨?hwzq111, ?hyzq111⟩) (by assumption) ?restzq111
                case hizq111 => (simp only [List.getElem?_toArray, List.getElem?_cons_succ, List.getElem?_cons_zero]; rfl)
                case hwzq111 => rfl
                case hyzq111 => (intro w hSw; (try dsimp only at hSw); go_simp; with_reducible rfl)
                try simp only [Act.put, List.setIfInBounds_toArray, List.set_cons_zero, List.set_cons_succ]
                refine wpAnyH_take (i := 11) (oi := ?ozq112) (v := ?vzq112) ?hizq112 (by kernel_rfl) (by kernel_rfl) (by kernel_rfl) (fun _ _ _ h => h) (Or.inl ⟨?hwzq112, ?hyzq112⟩) (by assumption) ?restzq112
                case hizq112 => (simp only [List.getElem?_toArray, List.getElem?_cons_succ, List.getElem?_cons_zero]; rfl)
                case hwzq112 => rfl
                case hyzq112 => (intro w hSw; (try dsimp only at hSw); go_simp; with_reducible rfl)
                try simp only [Act.put, List.setIfInBounds_toArray, List.set_cons_zero, List.set_cons_succ]
                refine wpAnyH_take (i := 13) (oi := ?ozq113) (v := ?vzq113) ?hizq113 (by kernel_rfl) (by kernel_rfl) (by kernel_rfl) (fun _ _ _ h => h) (Or.inl ⟨?hwzq113, ?hyzq113⟩) (by assumption) ?restzq113
                case hizq113 => (simp only [List.getElem?_toArray, List.getElem?_cons_succ, List.getElem?_cons_zero]; rfl)
                case hwzq113 => rfl
                case hyzq113 => (intro w hSw; (try dsimp only at hSw); go_simp; with_reducible rfl)
                try simp only [Act.put, List.setIfInBounds_toArray, List.set_cons_zero, List.set_cons_succ]
                refine wpAnyH_take (i := 14) (oi := ?ozq114) (v := ?vzq114) ?hizq114 (by kernel_rfl) (by kernel_rfl) (by kernel_rfl) (fun _ _ _ h => h) (Or.inl ⟨?hwzq114, ?hyzq114⟩) (by assumption) ?restzq114
                case hizq114 => (simp only [List.getElem?_toArray, List.getElem?_cons_succ, List.getElem?_cons_zero]; rfl)
                case hwzq114 => rfl
                case hyzq114 => (intro w hSw; (try dsimp only at hSw); go_simp; with_reducible rfl)
                try simp only [Act.put, List.setIfInBounds_toArray, List.set_cons_zero, List.set_cons_succ]
                refine wpAnyH_take (i := 15) (oi := ?ozq115) (v := ?vzq115) ?hizq115 (by kernel_rfl) (by kernel_rfl) (by kernel_rfl) (fun _ _ _ h => h) (Or.inl ⟨?hwzq115, ?hyzq115⟩) (by assumption) ?restzq115
                case hizq115 => (simp only [List.getElem?_toArray, List.getElem?_cons_succ, List.getElem?_cons_zero]; rfl)
                case hwzq115 => rfl
                case hyzq115 => (intro w hSw; (try dsimp only at hSw); go_simp; with_reducible rfl)
                try simp only [Act.put, List.setIfInBounds_toArray, List.set_cons_zero, List.set_cons_succ]
                refine wpAnyH_take (i := 16) (oi := ?ozq116) (v := ?vzq116) ?hizq116 (by kernel_rfl) (by kernel_rfl) (by kernel_rfl) (fun _ _ _ h => h) (Or.inl ⟨?hwzq116, ?hyzq116⟩) (by assumption) ?restzq116
                case hizq116 => (simp only [List.getElem?_toArray, List.getElem?_cons_succ, List.getElem?_cons_zero]; rfl)
                case hwzq116 => rfl
                case hyzq116 => (intro w hSw; (try dsimp only at hSw); go_simp; with_reducible rfl)
                try simp only [Act.put, List.setIfInBounds_toArray, List.set_cons_zero, List.set_cons_succ]
                refine wpAnyH_take (i := 17) (oi := ?ozq117) (v := ?vzq117) ?hizq117 (by kernel_rfl) (by kernel_rfl) (by kernel_rfl) (fun _ _ _ h => h) (Or.inl ⟨?hwzq117, ?hyzq117⟩) (by assumption) ?restzq117
                case hizq117 => (simp only [List.getElem?_toArray, List.getElem?_cons_succ, List.getElem?_cons_zero]; rfl)
                case hwzq117 => rfl
                case hyzq117 => (intro w hSw; (try dsimp only at hSw); go_simp; with_reducible rfl)
                try simp only [Act.put, List.setIfInBounds_toArray, List.set_cons_zero, List.set_cons_succ]
                refine wpAnyH_take (i := 18) (oi := ?ozq118) (v := ?vzq118) ?hizq118 (by kernel_rfl) (by kernel_rfl) (by kernel_rfl) (fun _ _ _ h => h) (Or.inl ⟨?hwzq118, ?hyzq118⟩) (by assumption) ?restzq118
                case hizq118 => (simp only [List.getElem?_toArray, List.getElem?_cons_succ, List.getElem?_cons_zero]; rfl)
                case hwzq118 => rfl
                case hyzq118 => (intro w hSw; (try dsimp only at hSw); go_simp; with_reducible rfl)
                try simp only [Act.put, List.setIfInBounds_toArray, List.set_cons_zero, List.set_cons_succ]
                refine wpAnyH_take (i := 19) (oi := ?ozq119) (v := ?vzq119) ?hizq119 (by kernel_rfl) (by kernel_rfl) (by kernel_rfl) (fun _ _ _ h => h) (Or.inl ⟨?hwzq119, ?hyzq119⟩) (by assumption) ?restzq119
                case hizq119 => (simp only [List.getElem?_toArray, List.getElem?_cons_succ, List.getElem?_cons_zero]; rfl)
                case hwzq119 => rfl
                case hyzq119 => (intro w hSw; (try dsimp only at hSw); go_simp; with_reducible rfl)
                try simp only [Act.put, List.setIfInBounds_toArray, List.set_cons_zero, List.set_cons_succ]
                refine wpAnyH_take (i := 20) (oi := ?ozq120) (v := ?vzq120) ?hizq120 (by kernel_rfl) (by kernel_rfl) (by kernel_rfl) (fun _ _ _ h => h) (Or.inl ⟨?hwzq120, ?hyzq120⟩) (by assumption) ?restzq120
                case hizq120 => (simp only [List.getElem?_toArray, List.getElem?_cons_succ, List.getElem?_cons_zero]; rfl)
                case hwzq120 => rfl
                case hyzq120 => (intro w hSw; (try dsimp only at hSw); go_simp; with_reducible rfl)
                try simp only [Act.put, List.setIfInBounds_toArray, List.set_cons_zero, List.set_cons_succ]
                refine wpAnyH_take (i := 21) (oi := ?ozq121) (v := ?vzq121) ?hizq121 (by kernel_rfl) (by kernel_rfl) (by kernel_rfl) (fun _ _ _ h => h) (Or.inl ⟨?hwzq121, ?hyzq121⟩) (by assumption) ?restzq121
                case hizq121 => (simp only [List.getElem?_toArray, List.getElem?_cons_succ, List.getElem?_cons_zero]; rfl)
                case hwzq121 => rfl
                case hyzq121 => (intro w hSw; (try dsimp only at hSw); go_simp; with_reducible rfl)
                try simp only [Act.put, List.setIfInBounds_toArray, List.set_cons_zero, List.set_cons_succ]
                refine wpAnyH_ready (rs := [12, 22]) (by kernel_rfl) (by simp) ?_
                refine AllReadyH.cons (o := ?oAtq122) ?hAtq122 (fun K hK => ?bAtq122) (AllReadyH.cons (o := ?oBtq122) ?hBtq122 (fun K hK => ?bBtq122) AllReadyH.nil)
                case hAtq122 => (simp only [List.getElem?_toArray, List.getElem?_cons_succ, List.getElem?_cons_zero]; rfl)
                case hBtq122 => (simp only [List.getElem?_toArray, List.getElem?_cons_succ, List.getElem?_cons_zero]; rfl)
                case bAtq122 =>
                  go_simp
                  refine hK.out _ _ ?_ (fun hHeld => ?_)
                  · first | assumption | (first | (simp [go_sem]; done) | (refine ⟨?_, ?_, ?_, ?_, ?_, ?_⟩ <;> (rw [cell_setNe _ (by omega)]; assumption)) | (simp [*]; done))
                  clear hK K
                  try simp only [Act.put, List.setIfInBounds_toArray, List.set_cons_zero, List.set_cons_succ]
                  refine wpAnyH_ready (rs := [22]) (by kernel_rfl) (by simp) ?_
                  refine AllReadyH.cons (o := ?oyq123) ?hyq123 (fun K hK => ?byq123) AllReadyH.nil
                  case hyq123 => (simp only [List.getElem?_toArray, List.getElem?_cons_succ, List.getElem?_cons_zero]; rfl)
                  go_simp
                  go_at_call 24; (with_reducible refine (rMul_field G t P M mod vm av y2 _ ho.out (smw.kept (by first | exact hkc | exact hkc.tr (kept_drew _) | exact hkc.tr (kept_drewN _ _)))).mono ?_); rintro e wx ⟨rfl, kx⟩; have hkn := Kept.tr (b := _) (by first | exact hkc | exact hkc.tr (kept_drew _) | exact hkc.tr (kept_drewN _ _)) kx; clear hkc kx; have hkc := hkn; clear hkn; have bxx := hbw.kept hkc; have d0 := bxx.h0; have d1 := bxx.h1; have d2 := bxx.h2; have d3 := (Kept.cell' hkc lg).trans s1; have d4 := (Kept.cell' hkc lg).trans s2; have d5 := (Kept.cell' hkc la).trans s3; have d6 := (Kept.cell' hkc lr).trans s4; have d7 := (Kept.frozen' hkc la).trans s5
                  try go_wp2_with (fail)
                  refine hK.out _ _ ?_ (fun hHeld => ?_)
                  · first | assumption | (first | (simp [go_sem]; done) | (refine ⟨?_, ?_, ?_, ?_, ?_, ?_⟩ <;> (rw [cell_setNe _ (by omega)]; assumption)) | (simp [*]; done))
                  clear hK K
                  try simp only [Act.put, List.setIfInBounds_toArray, List.set_cons_zero, List.set_cons_succ]
                  refine wpAnyH_ready (rs := [23]) (by kernel_rfl) (by simp) ?_
                  refine AllReadyH.cons (o := ?oyq124) ?hyq124 (fun K hK => ?byq124) AllReadyH.nil
                  case hyq124 => (simp only [List.getElem?_toArray, List.getElem?_cons_succ, List.getElem?_cons_zero]; rfl)
                  go_simp
                  go_at_call 48; (with_reducible refine (rSub_field G t P M mod vm x2 (mulG G av y2) _ ho.out).mono ?_); rintro e wx ⟨rfl, kx⟩; have hkn := Kept.tr (b := _) (by first | exact hkc | exact hkc.tr (kept_drew _) | exact hkc.tr (kept_drewN _ _)) kx; clear hkc kx; have hkc := hkn; clear hkn; have bxx := hbw.kept hkc; have d0 := bxx.h0; have d1 := bxx.h1; have d2 := bxx.h2; have d3 := (Kept.cell' hkc lg).trans s1; have d4 := (Kept.cell' hkc lg).trans s2; have d5 := (Kept.cell' hkc la).trans s3; have d6 := (Kept.cell' hkc lr).trans s4; have d7 := (Kept.frozen' hkc la).trans s5
                  try go_wp2_with (fail)
                  refine hK.out _ _ ?_ (fun hHeld => ?_)
                  · first | assumption | (first | (simp [go_sem]; done) | (refine ⟨?_, ?_, ?_, ?_, ?_, ?_⟩ <;> (rw [cell_setNe _ (by omega)]; assumption)) | (simp [*]; done))
                  clear hK K
                  try simp only [Act.put, List.setIfInBounds_toArray, List.set_cons_zero, List.set_cons_succ]
                  refine wpAnyH_take (i := 24) (oi := ?ozq125) (v := ?vzq125) ?hizq125 (by kernel_rfl) (by kernel_rfl) (by kernel_rfl) (fun _ _ _ h => h) (Or.inl ⟨?hwzq125, ?hyzq125⟩) (by assumption) ?restzq125
                  case hizq125 => (simp only [List.getElem?_toArray, List.getElem?_cons_succ, List.getElem?_cons_zero]; rfl)
                  case hwzq125 => rfl
                  case hyzq125 => (intro w hSw; (try dsimp only at hSw); go_simp; with_reducible rfl)
                  try simp only [Act.put, List.setIfInBounds_toArray, List.set_cons_zero, List.set_cons_succ]
                  refine wpAnyH_ready (rs := [25]) (by kernel_rfl) (by simp) ?_
                  refine AllReadyH.cons (o := ?oyq126) ?hyq126 (fun K hK => ?byq126) AllReadyH.nil
                  case hyq126 => (simp only [List.getElem?_toArray, List.getElem?_cons_succ, List.getElem?_cons_zero]; rfl)
                  go_simp
                  refine hK.out _ _ ?_ (fun hHeld => ?_)
                  · first | assumption | (first | (simp [go_sem]; done) | (refine ⟨?_, ?_, ?_, ?_, ?_, ?_⟩ <;> (rw [cell_setNe _ (by omega)]; assumption)) | (simp [*]; done))
                  clear hK K
                  try simp only [Act.put, List.setIfInBounds_toArray, List.set_cons_zero, List.set_cons_succ]
                  refine wpAnyH_done (by kernel_rfl) ?_ _
                  refine NoPanic.normal ?_
                  go_wp2_with (fail)
                  go_roundw
                  case rel =>
                    refine ⟨k + 1, ent1 E4 i k (addG G x2 (negG G (mulG G av y2))), by omega, by omega, by go_num, ?_, ?_, hBE7.put (t.add_bd _ _), HST⟩
                    · first | exact (hch7.kept hkc).set (p := ⟨ai, k, none⟩) nl nh _ | exact ((hch7.kept hkc).set (p := ⟨ai, k, none⟩) nl nh _).drew | exact ((hch7.kept hkc).set (p := ⟨ai, k, none⟩) nl nh _).drewN _ | exact ((hch7.kept hkc).drew.set (p := ⟨ai, k, none⟩) nl nh _)
                    · rw [HAI.out]
                      first | exact (hM7.kept hkc).put hi' hk' _ | exact ((hM7.kept hkc).put hi' hk' _).kept (kept_drew _) | exact ((hM7.kept hkc).put hi' hk' _).kept (kept_drewN _ _) | exact ((hM7.kept hkc).kept (kept_drew _)).put hi' hk' _
                  case measure => simp [intOf]; omega
                case bBtq122 =>
                  go_simp
                  go_at_call 24; (with_reducible refine (rMul_field G t P M mod vm av y2 _ ho.out (smw.kept (by first | exact hkc | exact hkc.tr (kept_drew _) | exact hkc.tr (kept_drewN _ _)))).mono ?_); rintro e wx ⟨rfl, kx⟩; have hkn := Kept.tr (b := _) (by first | exact hkc | exact hkc.tr (kept_drew _) | exact hkc.tr (kept_drewN _ _)) kx; clear hkc kx; have hkc := hkn; clear hkn; have bxx := hbw.kept hkc; have d0 := bxx.h0; have d1 := bxx.h1; have d2 := bxx.h2; have d3 := (Kept.cell' hkc lg).trans s1; have d4 := (Kept.cell' hkc lg).trans s2; have d5 := (Kept.cell' hkc la).trans s3; have d6 := (Kept.cell' hkc lr).trans s4; have d7 := (Kept.frozen' hkc la).trans s5
                  try go_wp2_with (fail)
                  refine hK.out _ _ ?_ (fun hHeld => ?_)
                  · first | assumption | (first | (simp [go_sem]; done) | (refine ⟨?_, ?_, ?_, ?_, ?_, ?_⟩ <;> (rw [cell_setNe _ (by omega)]; assumption)) | (simp [*]; done))
                  clear hK K
                  try simp only [Act.put, List.setIfInBounds_toArray, List.set_cons_zero, List.set_cons_succ]
                  refine wpAnyH_ready (rs := [12]) (by kernel_rfl) (by simp) ?_
                  refine AllReadyH.cons (o := ?oyq127) ?hyq127 (fun K hK => ?byq127) AllReadyH.nil
                  case hyq127 => (simp only [List.getElem?_toArray, List.getElem?_cons_succ, List.getElem?_cons_zero]; rfl)
                  go_simp
                  refine hK.out _ _ ?_ (fun hHeld => ?_)
                  · first | assumption | (first | (simp [go_sem]; done) | (refine ⟨?_, ?_, ?_, ?_, ?_, ?_⟩ <;> (rw [cell_setNe _ (by omega)]; assumption)) | (simp [*]; done))
                  clear hK K
                  try simp only [Act.put, List.setIfInBounds_toArray, List.set_cons_zero, List.set_cons_succ]
                  refine wpAnyH_ready (rs := [23]) (by kernel_rfl) (by simp) ?_
                  refine AllReadyH.cons (o := ?oyq128) ?hyq128 (fun K hK => ?byq128) AllReadyH.nil
                  case hyq128 => (simp only [List.getElem?_toArray, List.getElem?_cons_succ, List.getElem?_cons_zero]; rfl)
                  go_simp
                  go_at_call 48; (with_reducible refine (rSub_field G t P M mod vm x2 (mulG G av y2) _ ho.out).mono ?_); rintro e wx ⟨rfl, kx⟩; have hkn := Kept.tr (b := _) (by first | exact hkc | exact hkc.tr (kept_drew _) | exact hkc.tr (kept_drewN _ _)) kx; clear hkc kx; have hkc := hkn; clear hkn; have bxx := hbw.kept hkc; have d0 := bxx.h0; have d1 := bxx.h1; have d2 := bxx.h2; have d3 := (Kept.cell' hkc lg).trans s1; have d4 := (Kept.cell' hkc lg).trans s2; have d5 := (Kept.cell' hkc la).trans s3; have d6 := (Kept.cell' hkc lr).trans s4; have d7 := (Kept.frozen' hkc la).trans s5
                  try go_wp2_with (fail)
                  refine hK.out _ _ ?_ (fun hHeld => ?_)
                  · first | assumption | (first | (simp [go_sem]; done) | (refine ⟨?_, ?_, ?_, ?_, ?_, ?_⟩ <;> (rw [cell_setNe _ (by omega)]; assumption)) | (simp [*]; done))
                  clear hK K
                  try simp only [Act.put, List.setIfInBounds_toArray, List.set_cons_zero, List.set_cons_succ]
                  refine wpAnyH_take (i := 24) (oi := ?ozq129) (v := ?vzq129) ?hizq129 (by kernel_rfl) (by kernel_rfl) (by kernel_rfl) (fun _ _ _ h => h) (Or.inl ⟨?hwzq129, ?hyzq129⟩) (by assumption) ?restzq129
                  case hizq129 => (simp only [List.getElem?_toArray, List.getElem?_cons_succ, List.getElem?_cons_zero]; rfl)
                  case hwzq129 => rfl
                  case hyzq129 => (intro w hSw; (try dsimp only at hSw); go_simp; with_reducible rfl)
                  try simp only [Act.put, List.setIfInBounds_toArray, List.set_cons_zero, List.set_cons_succ]
                  refine wpAnyH_ready (rs := [25]) (by kernel_rfl) (by simp) ?_
                  refine AllReadyH.cons (o := ?oyq130) ?hyq130 (fun K hK => ?byq130) AllReadyH.nil
                  case hyq130 => (simp only [List.getElem?_toArray, List.getElem?_cons_succ, List.getElem?_cons_zero]; rfl)
                  go_simp
                  refine hK.out _ _ ?_ (fun hHeld => ?_)
                  · first | assumption | (first | (simp [go_sem]; done) | (refine ⟨?_, ?_, ?_, ?_, ?_, ?_⟩ <;> (rw [cell_setNe _ (by omega)]; assumption)) | (simp [*]; done))
                  clear hK K
                  try simp only [Act.put, List.setIfInBounds_toArray, List.set_cons_zero, List.set_cons_succ]
                  refine wpAnyH_done (by kernel_rfl) ?_ _
                  refine NoPanic.normal ?_
                  go_wp2_with (fail)
                  go_roundw
                  case rel =>
                    refine ⟨k + 1, ent1 E4 i k (addG G x2 (negG G (mulG G av y2))), by omega, by omega, by go_num, ?_, ?_, hBE7.put (t.add_bd _ _), HST⟩
                    · first | exact (hch7.kept hkc).set (p := ⟨ai, k, none⟩) nl nh _ | exact ((hch7.kept hkc).set (p := ⟨ai, k, none⟩) nl nh _).drew | exact ((hch7.kept hkc).set (p := ⟨ai, k, none⟩) nl nh _).drewN _ | exact ((hch7.kept hkc).drew.set (p := ⟨ai, k, none⟩) nl nh _)
                    · rw [HAI.out]
                      first | exact (hM7.kept hkc).put hi' hk' _ | exact ((hM7.kept hkc).put hi' hk' _).kept (kept_drew _) | exact ((hM7.kept hkc).put hi' hk' _).kept (kept_drewN _ _) | exact ((hM7.kept hkc).kept (kept_drew _)).put hi' hk' _
                  case measure => simp [intOf]; omega
      case bBt11 =>
        go_simp
        refine hK.out _ _ ?_ (fun hHeld => ?_)
        · first | assumption | trivial
        clear hK K
        try simp only [Act.put, List.setIfInBounds_toArray, List.set_cons_zero, List.set_cons_succ]
        refine wpAnyH_ready (rs := [7]) (by kernel_rfl) (by simp) ?_
        refine AllReadyH.cons (o := ?oy17) ?hy17 (fun K hK => ?by17) AllReadyH.nil
        case hy17 => (simp only [List.getElem?_toArray, List.getElem?_cons_succ, List.getElem?_cons_zero]; rfl)
        go_simp
        refine hK.out _ _ ?_ (fun hHeld => ?_)
        · first | assumption | trivial
        clear hK K
        try simp only [Act.put, List.setIfInBounds_toArray, List.set_cons_zero, List.set_cons_succ]
        refine wpAnyH_take (i := 12) (oi := ?oz18) (v := ?vz18) ?hiz18 (by kernel_rfl) (by kernel_rfl) (by kernel_rfl) (fun _ _ _ h => h) (Or.inl ⟨?hwz18, ?hyz18⟩) (by assumption) ?restz18
        case hiz18 => (simp only [List.getElem?_toArray, List.getElem?_cons_succ, List.getElem?_cons_zero]; rfl)
        case hwz18 => rfl
        case hyz18 => (intro w hSw; (try dsimp only at hSw); go_simp; with_reducible rfl)
        try simp only [Act.put, List.setIfInBounds_toArray, List.set_cons_zero, List.set_cons_succ]
        refine wpAnyH_ready (rs := [13]) (by kernel_rfl) (by simp) ?_
        refine AllReadyH.cons (o := ?oy19) ?hy19 (fun K hK => ?by19) AllReadyH.nil
        case hy19 => (simp only [List.getElem?_toArray, List.getElem?_cons_succ, List.getElem?_cons_zero]; rfl)
        go_simp
        refine hK.out _ _ ?_ (fun hHeld => ?_)
        · first | assumption | trivial
        clear hK K
        try simp only [Act.put, List.setIfInBounds_toArray, List.set_cons_zero, List.set_cons_succ]
        refine wpAnyH_take (i := 14) (oi := ?oz20) (v := ?vz20) ?hiz20 (by kernel_rfl) (by kernel_rfl) (by kernel_rfl) (fun _ _ _ h => h) (Or.inl ⟨?hwz20, ?hyz20⟩) (by assumption) ?restz20
        case hiz20 => (simp only [List.getElem?_toArray, List.getElem?_cons_succ, List.getElem?_cons_zero]; rfl)
        case hwz20 => rfl
        case hyz20 => (intro w hSw; (try dsimp only at hSw); go_simp; with_reducible rfl)
        try simp only [Act.put, List.setIfInBounds_toArray, List.set_cons_zero, List.set_cons_succ]
        refine wpAnyH_ready (rs := [15]) (by kernel_rfl) (by simp) ?_
        refine AllReadyH.cons (o := ?oy21) ?hy21 (fun K hK => ?by21) AllReadyH.nil
        case hy21 => (simp only [List.getElem?_toArray, List.getElem?_cons_succ, List.getElem?_cons_zero]; rfl)
        go_simp
        refine hK.out _ _ ?_ (fun hHeld => ?_)
        · first | assumption | trivial
        clear hK K
        try simp only [Act.put, List.setIfInBounds_toArray, List.set_cons_zero, List.set_cons_succ]
        refine wpAnyH_done (by kernel_rfl) ?_ _
        refine NoPanic.normal ?_
        clear q1 q2 f1 f2 e1 a1 e4
        have hM3 := (hM2.swap hr hp).kept (kept_drew _)
        rw [← HBP.out, ← HCP.out, ← HBR.out, ← HCPR.out] at hM3
        have hch3 := (((hch.kept hkx).set (p := ⟨g, r, none⟩) hM2.g1 hM2.g2 (.slice (some ⟨bp, 0, none⟩) cols cpp)).set (p := ⟨g, p, none⟩) hM2.g1 hM2.g2 (.slice (some ⟨br, 0, none⟩) cols cpr)).drew
        obtain ⟨W2, hW2⟩ : ∃ W, W = ((wr.setCell ⟨g, r, none⟩ (.slice (some ⟨bp, 0, none⟩) cols cpp)).setCell ⟨g, p, none⟩ (.slice (some ⟨br, 0, none⟩) cols cpr)).drew := ⟨_, rfl⟩
        rw [← hW2] at hM3 hch3 ⊢
        obtain ⟨b2, hb2⟩ : ∃ y, y = swpN b' r p := ⟨_, rfl⟩
        obtain ⟨cp2, hcp2⟩ : ∃ y, y = swpN cp' r p := ⟨_, rfl⟩
        obtain ⟨E0, hE0⟩ : ∃ y, y = swpN E' r p := ⟨_, rfl⟩
        rw [← hb2, ← hcp2, ← hE0] at hM3
        have hBE0 : BE G n cols E0 := by rw [hE0]; exact hBE.swap hr hp
        obtain ⟨D, hD⟩ : ∃ D : Nat → Nat → Rs t.fs.mon, D = fun j m => t.e (E0 j m) := ⟨_, rfl⟩
        have hpz : E0 r c = z := by rw [hE0, HZZ.out]; unfold swpN; rw [if_pos rfl]
        have hzr : inn G.q z ≠ 0 := by
          rw [inn_yes (by rw [← hpz]; exact hBE0 r c hr hlt)]
          exact hz0
        have hgs3 : Hid (Rk.GS A n cols (c + 1) (r + 1) (Rk.elm D c r)) := hid (by
          rw [hD, hE0, swp_e]
          refine Rk.gs_pivot hgs.out hlt hrp hp ?_
          show t.e (E' p c) ≠ 0
          rw [← HZZ.out]
          exact fun e => hzr (t.e_nz.1 e))
        have hlow : Hid (∀ m, m < c → D r m = 0) := hid (fun m hm => by
          rw [hD, hE0]
          show t.e (swpN E' r p r m) = 0
          unfold swpN
          rw [if_pos rfl]
          exact hgs.out.low p m hrp hp hm)
        have hinv : Hid (t.e (invG G z) = Fd.inv (D r c)) := hid (by
          rw [t.e_invG hzr, hD]
          show Fd.inv (t.e z) = Fd.inv (t.e (E0 r c))
          rw [hpz])
        have hEL0 : Hid (EL t D n cols c r (r + 1) 0 E0) := hid (by rw [hD]; exact el_start E0)
        obtain ⟨iv, hiv⟩ : ∃ y, y = invG G z := ⟨_, rfl⟩
        have HIV : Hid (invG G z = iv) := hid hiv.symm
        rw [← hiv] at hinv
        clear hb2 hcp2 hD hE0 hW2 hiv hz hzr
        have hbw := hch3.box hbx (.inr hhi)
        have c0 := hbw.h0
        have c1 := hbw.h1
        have c2 := hbw.h2
        have smw : Sl W2 vm mod := hvm.kept (hch3.old k00 hlo)
        have lg := Nat.lt_of_lt_of_le hM3.g2 hM3.hs
        have r1 := hM3.row r hr
        have r2 := hM3.ent r c hr hlt
        have r3 := hM3.cc r hr
        have lr := Nat.lt_of_lt_of_le (hM3.b2 r hr) hM3.hs
        unfold maxLen at r3
        obtain ⟨r31, r32⟩ := r3
        rw [hpz] at r2
        obtain ⟨ar, har⟩ : ∃ y, y = b2 r := ⟨_, rfl⟩
        obtain ⟨cr, hcr⟩ : ∃ y, y = cp2 r := ⟨_, rfl⟩
        rw [← har, ← hcr] at r1
        rw [← har] at r2 lr
        rw [← hcr] at r31 r32
        have HAR := hid har
        have HCR := hid hcr
        have hkc := Kept.rfl' W2
        clear hpz har hcr
        go_wp2_with (fail)
        go_region_held3 (fun w' => w'.cell? ⟨w.heap.size, 0, none⟩ = some (.int .i64 P) ∧ w'.cell? ⟨w.heap.size, 1, none⟩ = some (.int .i64 M) ∧ w'.cell? ⟨w.heap.size, 2, none⟩ = some vm ∧ w'.cell? ⟨g, r, none⟩ = some (.slice (some ⟨ar, 0, none⟩) cols cr) ∧ w'.cell? ⟨ar, c, none⟩ = some (.int .i64 z)) (first | (simp [go_sem]; done) | (simp [*]; done))
          (first
            | (go_at_call 58; (with_reducible refine (rInv_p G t P M mod vm z _ ho (smw.kept (by first | exact hkc | exact hkc.tr (kept_drew _) | exact hkc.tr (kept_drewN _ _)))).mono ?_); rintro e wx ⟨rfl, kx⟩; rw [HIV.out]; have hkn := Kept.tr (b := _) (by first | exact hkc | exact hkc.tr (kept_drew _) | exact hkc.tr (kept_drewN _ _)) kx; clear hkc kx; have hkc := hkn; clear hkn; have bxx := hbw.kept hkc; have d0 := bxx.h0; have d1 := bxx.h1; have d2 := bxx.h2; have d3 := (Kept.cell' hkc lg).trans r1; have d4 := (Kept.cell' hkc lr).trans r2))
        all_goals
          have hM4 := hM3.kept hkc
          have hch4 := hch3.kept hkc
          clear r1 r2
          go_wp2_with (fail)
          go_loopw [11] (fun vi wx => ∃ (i : Nat) (E3 : Nat → Nat → Int), r + 1 ≤ i ∧ i ≤ n ∧ vi = .int .i64 i ∧ Chg lo hi w1 wx ∧ Mat wx lo hi g n cols b2 cp2 E3 ∧ BE G n cols E3 ∧ Hid (EL t D n cols c r i 0 E3)) (fun vi _ => n - (intOf vi).toNat)
          case atStart => exact ⟨r + 1, E0, by omega, by omega, by go_num, by first | exact hch4 | exact hch4.drew | exact hch4.drewN _, by first | exact hM4 | exact hM4.kept (kept_drew _) | exact hM4.kept (kept_drewN _ _), hBE0, hEL0⟩
          case round =>
            obtain ⟨i, E3, hri1, hin, rfl, hch5, hM5, hBE5, hEL5⟩ := hrel
            clear hM3 hM4 hch3 hch4 hM2 hkc
            have hbw := hch5.box hbx (.inr hhi)
            have c0 := hbw.h0
            have c1 := hbw.h1
            have c2 := hbw.h2
            have smw : Sl wr vm mod := hvm.kept (hch5.old k00 hlo)
            by_cases hi' : i < n
            case neg =>
              have hie : n = i := by omega
              subst hie
              have hgs6 : Hid (Rk.GS A n cols (c + 1) (r + 1) (fun j m => t.e (E3 j m))) := hid (Rk.gs_congr hgs3.out (by omega) (fun j m hj hm => by rw [hEL5.out j m hj hm, if_pos (.inl hj)]))
              clear hi' hin
              go_wp2_with (fail)
              go_roundw
              case rel => exact ⟨r + 1, c + 1, b2, cp2, E3, by omega, by go_num, by go_num, by first | exact hch5 | exact hch5.drew | exact hch5.drewN _, by first | exact hM5 | exact hM5.kept (kept_drew _) | exact hM5.kept (kept_drewN _ _), hBE5, hgs6⟩
              case measure => simp [intOf]; omega
            have hii : (i : Int) < (n : Int) := by omega
            have hi0 : (0 : Int) ≤ (i : Int) := by omega
            have lg := Nat.lt_of_lt_of_le hM5.g2 hM5.hs
            have r1 := hM5.row i hi'
            have r2 := hM5.ent i c hi' hlt
            have r3 := hM5.cc i hi'
            have li := Nat.lt_of_lt_of_le (hM5.b2 i hi') hM5.hs
            have ng := hM5.bg i hi'
            have nr : b2 i ≠ b2 r := fun e => by have := hM5.inj i r hi' hr e; omega
            have nw := Nat.lt_of_lt_of_le (hM5.b2 i hi') hhi
            have nl := hM5.b1 i hi'
            have nh := hM5.b2 i hi'
            unfold maxLen at r3
            obtain ⟨ri1, ri2⟩ := r3
            have hxe := hEL5.out.cur' hi' hlt
            obtain ⟨x, hx⟩ : ∃ y, y = E3 i c := ⟨_, rfl⟩
            obtain ⟨ai, hai⟩ : ∃ y, y = b2 i := ⟨_, rfl⟩
            obtain ⟨ci, hci2⟩ : ∃ y, y = cp2 i := ⟨_, rfl⟩
            rw [← hx] at r2 hxe
            rw [← hai, ← hci2] at r1
            rw [← hai] at r2 li ng nw nl nh nr
            rw [← HAR.out] at nr
            rw [← hci2] at ri1 ri2
            have ha : Hid (t.e (mulG G x iv) = D i c * Fd.inv (D r c)) := hid (by rw [t.e_mul, hxe, hinv.out])
            obtain ⟨av, hav⟩ : ∃ y, y = mulG G x iv := ⟨_, rfl⟩
            have HAV : Hid (mulG G x iv = av) := hid hav.symm
            rw [← hav] at ha
            have HAI := hid hai
            have HCI := hid hci2
            clear hx hai hci2 hav hxe
            have hkc := Kept.rfl' wr
            go_wp2_with (fail)
            go_region_held3 (fun w' => w'.cell? ⟨w.heap.size, 0, none⟩ = some (.int .i64 P) ∧ w'.cell? ⟨w.heap.size, 1, none⟩ = some (.int .i64 M) ∧ w'.cell? ⟨w.heap.size, 2, none⟩ = some vm ∧ w'.cell? ⟨g, i, none⟩ = some (.slice (some ⟨ai, 0, none⟩) cols ci) ∧ w'.cell? ⟨ai, c, none⟩ = some (.int .i64 x)) (first | (simp [go_sem]; done) | (simp [*]; done))
              (first
                | (go_at_call 24; (with_reducible refine (rMul_field G t P M mod vm x iv _ ho.out (smw.kept (by first | exact hkc | exact hkc.tr (kept_drew _) | exact hkc.tr (kept_drewN _ _)))).mono ?_); rintro e wx ⟨rfl, kx⟩; rw [HAV.out]; have hkn := Kept.tr (b := _) (by first | exact hkc | exact hkc.tr (kept_drew _) | exact hkc.tr (kept_drewN _ _)) kx; clear hkc kx; have hkc := hkn; clear hkn; have bxx := hbw.kept hkc; have d0 := bxx.h0; have d1 := bxx.h1; have d2 := bxx.h2; have d3 := (Kept.cell' hkc lg).trans r1; have d4 := (Kept.cell' hkc li).trans r2))
            all_goals
              have hM6 := hM5.kept hkc
              have hch6 := hch5.kept hkc
              have hEC : Hid (EL t D n cols c r i c E3) := hid (hEL5.out.col hlow.out)
              clear r1 r2
              go_wp2_with (fail)
              go_loopw [13] (fun vk wy => ∃ (k : Nat) (E4 : Nat → Nat → Int), c ≤ k ∧ k ≤ cols ∧ vk = .int .i64 k ∧ Chg lo hi w1 wy ∧ Mat wy lo hi g n cols b2 cp2 E4 ∧ BE G n cols E4 ∧ Hid (EL t D n cols c r i k E4)) (fun vk _ => cols - (intOf vk).toNat)
              case atStart => exact ⟨c, E3, Nat.le_refl _, hcc, rfl, by first | exact hch6 | exact hch6.drew | exact hch6.drewN _, by first | exact hM6 | exact hM6.kept (kept_drew _) | exact hM6.kept (kept_drewN _ _), hBE5, hEC⟩
              case round =>
                obtain ⟨k, E4, hck, hkc', rfl, hch7, hM7, hBE7, hEL7⟩ := hrel
                clear hM5 hM6 hch5 hch6 hkc
                have hbw := hch7.box hbx (.inr hhi)
                have c0 := hbw.h0
                have c1 := hbw.h1
                have c2 := hbw.h2
                have smw : Sl wr vm mod := hvm.kept (hch7.old k00 hlo)
                have kk0 : (0 : Int) ≤ (k : Int) := by omega
                by_cases hk' : k < cols
                case neg =>
                  have hke : cols = k := by omega
                  have hEL8 : Hid (EL t D n cols c r (i + 1) 0 E4) := hid (EL.row (by rw [hke]; rw [hke] at hEL7; exact hEL7.out))
                  have hkk : ¬ (k : Int) < (cols : Int) := by omega
                  clear hk' hkc' hke
                  go_wp2_with (fail)
                  go_roundw
                  case rel => exact ⟨i + 1, E4, by omega, by omega, by go_num, by first | exact hch7 | exact hch7.drew | exact hch7.drewN _, by first | exact hM7 | exact hM7.kept (kept_drew _) | exact hM7.kept (kept_drewN _ _), hBE7, hEL8⟩
                  case measure => simp [intOf]; omega
                have hkk : (k : Int) < (cols : Int) := by omega
                have s1 := hM7.row i hi'
                have s2 := hM7.row r hr
                have s3 := hM7.ent i k hi' hk'
                have s4 := hM7.ent r k hr hk'
                have s5 := hM7.fb i k hi'
                have lg := Nat.lt_of_lt_of_le hM7.g2 hM7.hs
                have la := Nat.lt_of_lt_of_le (hM7.b2 i hi') hM7.hs
                have lr := Nat.lt_of_lt_of_le (hM7.b2 r hr) hM7.hs
                have HST := hEL7.out.step hi' hk' (by omega) ha.out
                obtain ⟨x2, hx2⟩ : ∃ y, y = E4 i k := ⟨_, rfl⟩
                obtain ⟨y2, hy2⟩ : ∃ y, y = E4 r k := ⟨_, rfl⟩
                rw [← hx2] at s3 HST
                rw [← hy2] at s4 HST
                rw [← HAI.out, ← HCI.out] at s1
                rw [← HAR.out, ← HCR.out] at s2
                rw [← HAI.out] at s3 s5 la
                rw [← HAR.out] at s4 lr
                have HST := hid HST
                clear hx2 hy2
                have hkc := Kept.rfl' wr
                go_wp2_with (fail)
                refine wp_region_noPanic ?_
                refine wp_region_held_drew (S := fun w' => w'.cell? ⟨w.heap.size, 0, none⟩ = some (.int .i64 P) ∧ w'.cell? ⟨w.heap.size, 1, none⟩ = some (.int .i64 M) ∧ w'.cell? ⟨w.heap.size, 2, none⟩ = some vm ∧ w'.cell? ⟨g, i, none⟩ = some (.slice (some ⟨ai, 0, none⟩) cols ci) ∧ w'.cell? ⟨g, r, none⟩ = some (.slice (some ⟨ar, 0, none⟩) cols cr) ∧ w'.cell? ⟨ar, k, none⟩ = some (.int .i64 y2)) (by kernel_rfl) ?_ (fun hHeld => ?_)
                · (first | (simp [go_sem]; done) | (refine ⟨?_, ?_, ?_, ?_, ?_, ?_⟩ <;> (rw [cell_setNe _ (by omega)]; assumption)) | (simp [*]; done))
                refine wpAnyH_take (i := 0) (oi := ?ozq21) (v := ?vzq21) ?hizq21 (by kernel_rfl) (by kernel_rfl) (by kernel_rfl) (fun _ _ _ h => h) (Or.inl ⟨?hwzq21, ?hyzq21⟩) (by assumption) ?restzq21
                case hizq21 => (simp only [List.getElem?_toArray, List.getElem?_cons_zero]; rfl)
                case hwzq21 => rfl
                case hyzq21 => (intro w hSw; (try dsimp only at hSw); go_simp; with_reducible rfl)
                try simp only [Act.put, List.setIfInBounds_toArray, List.set_cons_zero, List.set_cons_succ]
                refine wpAnyH_take (i := 1) (oi := ?ozq22) (v := ?vzq22) ?hizq22 (by kernel_rfl) (by kernel_rfl) (by kernel_rfl) (fun _ _ _ h => h) (Or.inl ⟨?hwzq22, ?hyzq22⟩) (by assumption) ?restzq22
                case hizq22 => (simp only [List.getElem?_toArray, List.getElem?_cons_succ, List.getElem?_cons_zero]; rfl)
                case hwzq22 => rfl
                case hyzq22 => (intro w hSw; (try dsimp only at hSw); go_simp; with_reducible rfl)
                try simp only [Act.put, List.setIfInBounds_toArray, List.set_cons_zero, List.set_cons_succ]
                refine wpAnyH_take (i := 2) (oi := ?ozq23) (v := ?vzq23) ?hizq23 (by kernel_rfl) (by kernel_rfl) (by kernel_rfl) (fun _ _ _ h => h) (Or.inl ⟨?hwzq23, ?hyzq23⟩) (by assumption) ?restzq23
                case hizq23 => (simp only [List.getElem?_toArray, List.getElem?_cons_succ, List.getElem?_cons_zero]; rfl)
                case hwzq23 => rfl
                case hyzq23 => (intro w hSw; (try dsimp only at hSw); go_simp; with_reducible rfl)
                try simp only [Act.put, List.setIfInBounds_toArray, List.set_cons_zero, List.set_cons_succ]
                refine wpAnyH_take (i := 3) (oi := ?ozq24) (v := ?vzq24) ?hizq24 (by kernel_rfl) (by kernel_rfl) (by kernel_rfl) (fun _ _ _ h => h) (Or.inl ⟨?hwzq24, ?hyzq24⟩) (by assumption) ?restzq24
                case hizq24 => (simp only [List.getElem?_toArray, List.getElem?_cons_succ, List.getElem?_cons_zero]; rfl)
                case hwzq24 => rfl
                case hyzq24 => (intro w hSw; (try dsimp only at hSw); go_simp; with_reducible rfl)
                try simp only [Act.put, List.setIfInBounds_toArray, List.set_cons_zero, List.set_cons_succ]
                refine wpAnyH_take (i := 4) (oi := ?ozq25) (v := ?vzq25) ?hizq25 (by kernel_rfl) (by kernel_rfl) (by kernel_rfl) (fun _ _ _ h => h) (Or.inl ⟨?hwzq25, ?hyzq25⟩) (by assumption) ?restzq25
                case hizq25 => (simp only [List.getElem?_toArray, List.getElem?_cons_succ, List.getElem?_cons_zero]; rfl)
                case hwzq25 => rfl
                case hyzq25 => (intro w hSw; (try dsimp only at hSw); go_simp; with_reducible rfl)
                try simp only [Act.put, List.setIfInBounds_toArray, List.set_cons_zero, List.set_cons_succ]
                refine wpAnyH_take (i := 5) (oi := ?ozq26) (v := ?vzq26) ?hizq26 (by kernel_rfl) (by kernel_rfl) (by kernel_rfl) (fun _ _ _ h => h) (Or.inl ⟨?hwzq26, ?hyzq26⟩) (by assumption) ?restzq26
                case hizq26 => (simp only [List.getElem?_toArray, List.getElem?_cons_succ, List.getElem?_cons_zero]; rfl)
                case hwzq26 => rfl
                case hyzq26 => (intro w hSw; (try dsimp only at hSw); go_simp; with_reducible rfl)
                try simp only [Act.put, List.setIfInBounds_toArray, List.set_cons_zero, List.set_cons_succ]
                refine wpAnyH_take (i := 6) (oi := ?ozq27) (v := ?vzq27) ?hizq27 (by kernel_rfl) (by kernel_rfl) (by kernel_rfl) (fun _ _ _ h => h) (Or.inl ⟨?hwzq27, ?hyzq27⟩) (by assumption) ?restzq27
                case hizq27 => (simp only [List.getElem?_toArray, List.getElem?_cons_succ, List.getElem?_cons_zero]; rfl)
                case hwzq27 => rfl
                case hyzq27 => (intro w hSw; (try dsimp only at hSw); go_simp; with_reducible rfl)
                try simp only [Act.put, List.setIfInBounds_toArray, List.set_cons_zero, List.set_cons_succ]
                refine wpAnyH_take (i := 7) (oi := ?ozq28) (v := ?vzq28) ?hizq28 (by kernel_rfl) (by kernel_rfl) (by kernel_rfl) (fun _ _ _ h => h) (Or.inl ⟨?hwzq28, ?hyzq28⟩) (by assumption) ?restzq28
                case hizq28 => (simp only [List.getElem?_toArray, List.getElem?_cons_succ, List.getElem?_cons_zero]; rfl)
                case hwzq28 => rfl
                case hyzq28 => (intro w hSw; (try dsimp only at hSw); go_simp; with_reducible rfl)
                try simp only [Act.put, List.setIfInBounds_toArray, List.set_cons_zero, List.set_cons_succ]
                refine wpAnyH_take (i := 8) (oi := ?ozq29) (v := ?vzq29) ?hizq29 (by kernel_rfl) (by kernel_rfl) (by kernel_rfl) (fun _ _ _ h => h) (Or.inl ⟨?hwzq29, ?hyzq29⟩) (by assumption) ?restzq29
                case hizq29 => (simp only [List.getElem?_toArray, List.getElem?_cons_succ, List.getElem?_cons_zero]; rfl)
                case hwzq29 => rfl
                case hyzq29 => (intro w hSw; (try dsimp only at hSw); go_simp; with_reducible rfl)
                try simp only [Act.put, List.setIfInBounds_toArray, List.set_cons_zero, List.set_cons_succ]
                refine wpAnyH_take (i := 9) (oi := ?ozq210) (v := ?vzq210) ?hizq210 (by kernel_rfl) (by kernel_rfl) (by kernel_rfl) (fun _ _ _ h => h) (Or.inl ⟨?hwzq210, ?hyzq210⟩) (by assumption) ?restzq210
                case hizq210 => (simp only [List.getElem?_toArray, List.getElem?_cons_succ, List.getElem?_cons_zero]; rfl)
                case hwzq210 => rfl
                case hyzq210 => (intro w hSw; (try dsimp only at hSw); go_simp; with_reducible rfl)
                try simp only [Act.put, List.setIfInBounds_toArray, List.set_cons_zero, List.set_cons_succ]
                refine wpAnyH_take (i := 10) (oi := ?ozq211) (v := ?vzq211) ?hizq211 (by kernel_rfl) (by kernel_rfl) (by kernel_rfl) (fun _ _ _ h => h) (Or.inl ⟨?hwzq211, ?hyzq211⟩) (by assumption) ?restzq211
                case hizq211 => (simp only [List.getElem?_toArray, List.getElem?_cons_succ, List.getElem?_cons_zero]; rfl)
                case hwzq211 => rfl
                case hyzq211 => (intro w hSw; (try dsimp only at hSw); go_simp; with_reducible rfl)
                try simp only [Act.put, List.setIfInBounds_toArray, List.set_cons_zero, List.set_cons_succ]
                refine wpAnyH_take (i := 11) (oi := ?ozq212) (v := ?vzq212) ?hizq212 (by kernel_rfl) (by kernel_rfl) (by kernel_rfl) (fun _ _ _ h => h) (Or.inl ⟨?hwzq212, ?hyzq212⟩) (by assumption) ?restzq212
                case hizq212 => (simp only [List.getElem?_toArray, List.getElem?_cons_succ, List.getElem?_cons_zero]; rfl)
                case hwzq212 => rfl
                case hyzq212 => (intro w hSw; (try dsimp only at hSw); go_simp; with_reducible rfl)
                try simp only [Act.put, List.setIfInBounds_toArray, List.set_cons_zero, List.set_cons_succ]
                refine wpAnyH_take (i := 13) (oi := ?ozq213) (v := ?vzq213) ?hizq213 (by kernel_rfl) (by kernel_rfl) (by kernel_rfl) (fun _ _ _ h => h) (Or.inl ⟨?hwzq213, ?hyzq213⟩) (by assumption) ?restzq213
                case hizq213 => (simp only [List.getElem?_toArray, List.getElem?_cons_succ, List.getElem?_cons_zero]; rfl)
                case hwzq213 => rfl
                case hyzq213 => (intro w hSw; (try dsimp only at hSw); go_simp; with_reducible rfl)
                try simp only [Act.put, List.setIfInBounds_toArray, List.set_cons_zero, List.set_cons_succ]
                refine wpAnyH_take (i := 14) (oi := ?ozq214) (v := ?vzq214) ?hizq214 (by kernel_rfl) (by kernel_rfl) (by kernel_rfl) (fun _ _ _ h => h) (Or.inl ⟨?hwzq214, ?hyzq214⟩) (by assumption) ?restzq214
                case hizq214 => (simp only [List.getElem?_toArray, List.getElem?_cons_succ, List.getElem?_cons_zero]; rfl)
                case hwzq214 => rfl
                case hyzq214 => (intro w hSw; (try dsimp only at hSw); go_simp; with_reducible rfl)
                try simp only [Act.put, List.setIfInBounds_toArray, List.set_cons_zero, List.set_cons_succ]
                refine wpAnyH_take (i := 15) (oi := ?ozq215) (v := ?vzq215) ?hizq215 (by kernel_rfl) (by kernel_rfl) (by kernel_rfl) (fun _ _ _ h => h) (Or.inl ⟨?hwzq215, ?hyzq215⟩) (by assumption) ?restzq215
                case hizq215 => (simp only [List.getElem?_toArray, List.getElem?_cons_succ, List.getElem?_cons_zero]; rfl)
                case hwzq215 => rfl
                case hyzq215 => (intro w hSw; (try dsimp only at hSw); go_simp; with_reducible rfl)
                try simp only [Act.put, List.setIfInBounds_toArray, List.set_cons_zero, List.set_cons_succ]
                refine wpAnyH_take (i := 16) (oi := ?ozq216) (v := ?vzq216) ?hizq216 (by kernel_rfl) (by kernel_rfl) (by kernel_rfl) (fun _ _ _ h => h) (Or.inl ⟨?hwzq216, ?hyzq216⟩) (by assumption) ?restzq216
                case hizq216 => (simp only [List.getElem?_toArray, List.getElem?_cons_succ, List.getElem?_cons_zero]; rfl)
                case hwzq216 => rfl
                case hyzq216 => (intro w hSw; (try dsimp only at hSw); go_simp; with_reducible rfl)
                try simp only [Act.put, List.setIfInBounds_toArray, List.set_cons_zero, List.set_cons_succ]
                refine wpAnyH_take (i := 17) (oi := ?ozq217) (v := ?vzq217) ?hizq217 (by kernel_rfl) (by kernel_rfl) (by kernel_rfl) (fun _ _ _ h => h) (Or.inl ⟨?hwzq217, ?hyzq217⟩) (by assumption) ?restzq217
                case hizq217 => (simp only [List.getElem?_toArray, List.getElem?_cons_succ, List.getElem?_cons_zero]; rfl)
                case hwzq217 => rfl
                case hyzq217 => (intro w hSw; (try dsimp only at hSw); go_simp; with_reducible rfl)
                try simp only [Act.put, List.setIfInBounds_toArray, List.set_cons_zero, List.set_cons_succ]
                refine wpAnyH_take (i := 18) (oi := ?ozq218) (v := ?vzq218) ?hizq218 (by kernel_rfl) (by kernel_rfl) (by kernel_rfl) (fun _ _ _ h => h) (Or.inl ⟨?hwzq218, ?hyzq218⟩) (by assumption) ?restzq218
                case hizq218 => (simp only [List.getElem?_toArray, List.getElem?_cons_succ, List.getElem?_cons_zero]; rfl)
                case hwzq218 => rfl
                case hyzq218 => (intro w hSw; (try dsimp only at hSw); go_simp; with_reducible rfl)
                try simp only [Act.put, List.setIfInBounds_toArray, List.set_cons_zero, List.set_cons_succ]
                refine wpAnyH_take (i := 19) (oi := ?ozq219) (v := ?vzq219) ?hizq219 (by kernel_rfl) (by kernel_rfl) (by kernel_rfl) (fun _ _ _ h => h) (Or.inl ⟨?hwzq219, ?hyzq219⟩) (by assumption) ?restzq219
                case hizq219 => (simp only [List.getElem?_toArray, List.getElem?_cons_succ, List.getElem?_cons_zero]; rfl)
                case hwzq219 => rfl
                case hyzq219 => (intro w hSw; (try dsimp only at hSw); go_simp; with_reducible rfl)
                try simp only [Act.put, List.setIfInBounds_toArray, List.set_cons_zero, List.set_cons_succ]
                refine wpAnyH_take (i := 20) (oi := ?ozq220) (v := ?vzq220) ?hizq220 (by kernel_rfl) (by kernel_rfl) (by kernel_rfl) (fun _ _ _ h => h) (Or.inl ⟨?hwzq220, ?hyzq220⟩) (by assumption) ?restzq220
                case hizq220 => (simp only [List.getElem?_toArray, List.getElem?_cons_succ, List.getElem?_cons_zero]; rfl)
                case hwzq220 => rfl
                case hyzq220 => (intro w hSw; (try dsimp only at hSw); go_simp; with_reducible rfl)
                try simp only [Act.put, List.setIfInBounds_toArray, List.set_cons_zero, List.set_cons_succ]
                refine wpAnyH_take (i := 21) (oi := ?ozq221) (v := ?vzq221) ?hizq221 (by kernel_rfl) (by kernel_rfl) (by kernel_rfl) (fun _ _ _ h => h) (Or.inl ⟨?hwzq221, ?hyzq221⟩) (by assumption) ?restzq221
                case hizq221 => (simp only [List.getElem?_toArray, List.getElem?_cons_succ, List.getElem?_cons_zero]; rfl)
                case hwzq221 => rfl
                case hyzq221 => (intro w hSw; (try dsimp only at hSw); go_simp; with_reducible rfl)
                try simp only [Act.put, List.setIfInBounds_toArray, List.set_cons_zero, List.set_cons_succ]
                refine wpAnyH_ready (rs := [12, 22]) (by kernel_rfl) (by simp) ?_
                refine AllReadyH.cons (o := ?oAtq222) ?hAtq222 (fun K hK => ?bAtq222) (AllReadyH.cons (o := ?oBtq222) ?hBtq222 (fun K hK => ?bBtq222) AllReadyH.nil)
                case hAtq222 => (simp only [List.getElem?_toArray, List.getElem?_cons_succ, List.getElem?_cons_zero]; rfl)
                case hBtq222 => (simp only [List.getElem?_toArray, List.getElem?_cons_succ, List.getElem?_cons_zero]; rfl)
                case bAtq222 =>
                  go_simp
                  refine hK.out _ _ ?_ (fun hHeld => ?_)
                  · first | assumption | (first | (simp [go_sem]; done) | (refine ⟨?_, ?_, ?_, ?_, ?_, ?_⟩ <;> (rw [cell_setNe _ (by omega)]; assumption)) | (simp [*]; done))
                  clear hK K
                  try simp only [Act.put, List.setIfInBounds_toArray, List.set_cons_zero, List.set_cons_succ]
                  refine wpAnyH_ready (rs := [22]) (by kernel_rfl) (by simp) ?_
                  refine AllReadyH.cons (o := ?oyq223) ?hyq223 (fun K hK => ?byq223) AllReadyH.nil
                  case hyq223 => (simp only [List.getElem?_toArray, List.getElem?_cons_succ, List.getElem?_cons_zero]; rfl)
                  go_simp
                  go_at_call 24; (with_reducible refine (rMul_field G t P M mod vm av y2 _ ho.out (smw.kept (by first | exact hkc | exact hkc.tr (kept_drew _) | exact hkc.tr (kept_drewN _ _)))).mono ?_); rintro e wx ⟨rfl, kx⟩; have hkn := Kept.tr (b := _) (by first | exact hkc | exact hkc.tr (kept_drew _) | exact hkc.tr (kept_drewN _ _)) kx; clear hkc kx; have hkc := hkn; clear hkn; have bxx := hbw.kept hkc; have d0 := bxx.h0; have d1 := bxx.h1; have d2 := bxx.h2; have d3 := (Kept.cell' hkc lg).trans s1; have d4 := (Kept.cell' hkc lg).trans s2; have d5 := (Kept.cell' hkc la).trans s3; have d6 := (Kept.cell' hkc lr).trans s4; have d7 := (Kept.frozen' hkc la).trans s5
                  try go_wp2_with (fail)
                  refine hK.out _ _ ?_ (fun hHeld => ?_)
                  · first | assumption | (first | (simp [go_sem]; done) | (refine ⟨?_, ?_, ?_, ?_, ?_, ?_⟩ <;> (rw [cell_setNe _ (by omega)]; assumption)) | (simp [*]; done))
                  clear hK K
                  try simp only [Act.put, List.setIfInBounds_toArray, List.set_cons_zero, List.set_cons_succ]
                  refine wpAnyH_ready (rs := [23]) (by kernel_rfl) (by simp) ?_
                  refine AllReadyH.cons (o := ?oyq224) ?hyq224 (fun K hK => ?byq224) AllReadyH.nil
                  case hyq224 => (simp only [List.getElem?_toArray, List.getElem?_cons_succ, List.getElem?_cons_zero]; rfl)
                  go_simp
                  go_at_call 48; (with_reducible refine (rSub_field G t P M mod vm x2 (mulG G av y2) _ ho.out).mono ?_); rintro e wx ⟨rfl, kx⟩; have hkn := Kept.tr (b := _) (by first | exact hkc | exact hkc.tr (kept_drew _) | exact hkc.tr (kept_drewN _ _)) kx; clear hkc kx; have hkc := hkn; clear hkn; have bxx := hbw.kept hkc; have d0 := bxx.h0; have d1 := bxx.h1; have d2 := bxx.h2; have d3 := (Kept.cell' hkc lg).trans s1; have d4 := (Kept.cell' hkc lg).trans s2; have d5 := (Kept.cell' hkc la).trans s3; have d6 := (Kept.cell' hkc lr).trans s4; have d7 := (Kept.frozen' hkc la).trans s5
                  try go_wp2_with (fail)
                  refine hK.out _ _ ?_ (fun hHeld => ?_)
                  · first | assumption | (first | (simp [go_sem]; done) | (refine ⟨?_, ?_, ?_, ?_, ?_, ?_⟩ <;> (rw [cell_setNe _ (by omega)]; assumption)) | (simp [*]; done))
                  clear hK K
                  try simp only [Act.put, List.setIfInBounds_toArray, List.set_cons_zero, List.set_cons_succ]
                  refine wpAnyH_take (i := 24) (oi := ?ozq225) (v := ?vzq225) ?hizq225 (by kernel_rfl) (by kernel_rfl) (by kernel_rfl) (fun _ _ _ h => h) (Or.inl ⟨?hwzq225, ?hyzq225⟩) (by assumption) ?restzq225
                  case hizq225 => (simp only [List.getElem?_toArray, List.getElem?_cons_succ, List.getElem?_cons_zero]; rfl)
                  case hwzq225 => rfl
                  case hyzq225 => (intro w hSw; (try dsimp only at hSw); go_simp; with_reducible rfl)
                  try simp only [Act.put, List.setIfInBounds_toArray, List.set_cons_zero, List.set_cons_succ]
                  refine wpAnyH_ready (rs := [25]) (by kernel_rfl) (by simp) ?_
                  refine AllReadyH.cons (o := ?oyq226) ?hyq226 (fun K hK => ?byq226) AllReadyH.nil
                  case hyq226 => (simp only [List.getElem?_toArray, List.getElem?_cons_succ, List.getElem?_cons_zero]; rfl)
                  go_simp
                  refine hK.out _ _ ?_ (fun hHeld => ?_)
                  · first | assumption | (first | (simp [go_sem]; done) | (refine ⟨?_, ?_, ?_, ?_, ?_, ?_⟩ <;> (rw [cell_setNe _ (by omega)]; assumption)) | (simp [*]; done))
                  clear hK K
                  try simp only [Act.put, List.setIfInBounds_toArray, List.set_cons_zero, List.set_cons_succ]
                  refine wpAnyH_done (by kernel_rfl) ?_ _
                  refine NoPanic.normal ?_
                  go_wp2_with (fail)
                  go_roundw
                  case rel =>
                    refine ⟨k + 1, ent1 E4 i k (addG G x2 (negG G (mulG G av y2))), by omega, by omega, by go_num, ?_, ?_, hBE7.put (t.add_bd _ _), HST⟩
                    · first | exact (hch7.kept hkc).set (p := ⟨ai, k, none⟩) nl nh _ | exact ((hch7.kept hkc).set (p := ⟨ai, k, none⟩) nl nh _).drew | exact ((hch7.kept hkc).set (p := ⟨ai, k, none⟩) nl nh _).drewN _ | exact ((hch7.kept hkc).drew.set (p := ⟨ai, k, none⟩) nl nh _)
                    · rw [HAI.out]
                      first | exact (hM7.kept hkc).put hi' hk' _ | exact ((hM7.kept hkc).put hi' hk' _).kept (kept_drew _) | exact ((hM7.kept hkc).put hi' hk' _).kept (kept_drewN _ _) | exact ((hM7.kept hkc).kept (kept_drew _)).put hi' hk' _
                  case measure => simp [intOf]; omega
                case bBtq222 =>
                  go_simp
                  go_at_call 24; (with_reducible refine (rMul_field G t P M mod vm av y2 _ ho.out (smw.kept (by first | exact hkc | exact hkc.tr (kept_drew _) | exact hkc.tr (kept_drewN _ _)))).mono ?_); rintro e wx ⟨rfl, kx⟩; have hkn := Kept.tr (b := _) (by first | exact hkc | exact hkc.tr (kept_drew _) | exact hkc.tr (kept_drewN _ _)) kx; clear hkc kx; have hkc := hkn; clear hkn; have bxx := hbw.kept hkc; have d0 := bxx.h0; have d1 := bxx.h1; have d2 := bxx.h2; have d3 := (Kept.cell' hkc lg).trans s1; have d4 := (Kept.cell' hkc lg).trans s2; have d5 := (Kept.cell' hkc la).trans s3; have d6 := (Kept.cell' hkc lr).trans s4; have d7 := (Kept.frozen' hkc la).trans s5
                  try go_wp2_with (fail)
                  refine hK.out _ _ ?_ (fun hHeld => ?_)
                  · first | assumption | (first | (simp [go_sem]; done) | (refine ⟨?_, ?_, ?_, ?_, ?_, ?_⟩ <;> (rw [cell_setNe _ (by omega)]; assumption)) | (simp [*]; done))
                  clear hK K
                  try simp only [Act.put, List.setIfInBounds_toArray, List.set_cons_zero, List.set_cons_succ]
                  refine wpAnyH_ready (rs := [12]) (by kernel_rfl) (by simp) ?_
                  refine AllReadyH.cons (o := ?oyq227) ?hyq227 (fun K hK => ?byq227) AllReadyH.nil
                  case hyq227 => (simp only [List.getElem?_toArray, List.getElem?_cons_succ, List.getElem?_cons_zero]; rfl)
                  go_simp
                  refine hK.out _ _ ?_ (fun hHeld => ?_)
                  · first | assumption | (first | (simp [go_sem]; done) | (refine ⟨?_, ?_, ?_, ?_, ?_, ?_⟩ <;> (rw [cell_setNe _ (by omega)]; assumption)) | (simp [*]; done))
                  clear hK K
                  try simp only [Act.put, List.setIfInBounds_toArray, List.set_cons_zero, List.set_cons_succ]
                  refine wpAnyH_ready (rs := [23]) (by kernel_rfl) (by simp) ?_
                  refine AllReadyH.cons (o := ?oyq228) ?hyq228 (fun K hK => ?byq228) AllReadyH.nil
                  case hyq228 => (simp only [List.getElem?_toArray, List.getElem?_cons_succ, List.getElem?_cons_zero]; rfl)
                  go_simp
                  go_at_call 48; (with_reducible refine (rSub_field G t P M mod vm x2 (mulG G av y2) _ ho.out).mono ?_); rintro e wx ⟨rfl, kx⟩; have hkn := Kept.tr (b := _) (by first | exact hkc | exact hkc.tr (kept_drew _) | exact hkc.tr (kept_drewN _ _)) kx; clear hkc kx; have hkc := hkn; clear hkn; have bxx := hbw.kept hkc; have d0 := bxx.h0; have d1 := bxx.h1; have d2 := bxx.h2; have d3 := (Kept.cell' hkc lg).trans s1; have d4 := (Kept.cell' hkc lg).trans s2; have d5 := (Kept.cell' hkc la).trans s3; have d6 := (Kept.cell' hkc lr).trans s4; have d7 := (Kept.frozen' hkc la).trans s5
                  try go_wp2_with (fail)
                  refine hK.out _ _ ?_ (fun hHeld => ?_)
                  · first | assumption | (first | (simp [go_sem]; done) | (refine ⟨?_, ?_, ?_, ?_, ?_, ?_⟩ <;> (rw [cell_setNe _ (by omega)]; assumption)) | (simp [*]; done))
                  clear hK K
                  try simp only [Act.put, List.setIfInBounds_toArray, List.set_cons_zero, List.set_cons_succ]
                  refine wpAnyH_take (i := 24) (oi := ?ozq229) (v := ?vzq229) ?hizq229 (by kernel_rfl) (by kernel_rfl) (by kernel_rfl) (fun _ _ _ h => h) (Or.inl ⟨?hwzq229, ?hyzq229⟩) (by assumption) ?restzq229
                  case hizq229 => (simp only [List.getElem?_toArray, List.getElem?_cons_succ, List.getElem?_cons_zero]; rfl)
                  case hwzq229 => rfl
                  case hyzq229 => (intro w hSw; (try dsimp only at hSw); go_simp; with_reducible rfl)
                  try simp only [Act.put, List.setIfInBounds_toArray, List.set_cons_zero, List.set_cons_succ]
                  refine wpAnyH_ready (rs := [25]) (by kernel_rfl) (by simp) ?_
                  refine AllReadyH.cons (o := ?oyq230) ?hyq230 (fun K hK => ?byq230) AllReadyH.nil
                  case hyq230 => (simp only [List.getElem?_toArray, List.getElem?_cons_succ, List.getElem?_cons_zero]; rfl)
                  go_simp
                  refine hK.out _ _ ?_ (fun hHeld => ?_)
                  · first | assumption | (first | (simp [go_sem]; done) | (refine ⟨?_, ?_, ?_, ?_, ?_, ?_⟩ <;> (rw [cell_setNe _ (by omega)]; assumption)) | (simp [*]; done))
                  clear hK K
                  try simp only [Act.put, List.setIfInBounds_toArray, List.set_cons_zero, List.set_cons_succ]
                  refine wpAnyH_done (by kernel_rfl) ?_ _
                  refine NoPanic.normal ?_
                  go_wp2_with (fail)
                  go_roundw
                  case rel =>
                    refine ⟨k + 1, ent1 E4 i k (addG G x2 (negG G (mulG G av y2))), by omega, by omega, by go_num, ?_, ?_, hBE7.put (t.add_bd _ _), HST⟩
                    · first | exact (hch7.kept hkc).set (p := ⟨ai, k, none⟩) nl nh _ | exact ((hch7.kept hkc).set (p := ⟨ai, k, none⟩) nl nh _).drew | exact ((hch7.kept hkc).set (p := ⟨ai, k, none⟩) nl nh _).drewN _ | exact ((hch7.kept hkc).drew.set (p := ⟨ai, k, none⟩) nl nh _)
                    · rw [HAI.out]
                      first | exact (hM7.kept hkc).put hi' hk' _ | exact ((hM7.kept hkc).put hi' hk' _).kept (kept_drew _) | exact ((hM7.kept hkc).put hi' hk' _).kept (kept_drewN _ _) | exact ((hM7.kept hkc).kept (kept_drew _)).put hi' hk' _
                  case measure => simp [intOf]; omega
end Go.Proofs.Ytmakdclgpeochaa
namespace Go.Proofs.Ytmakdclgpeochaa
open Go.RowKit Cw

theorem Try.infoSl : (Try.prog.info? 22).map (fun i => (i.zero, i.size, i.bytes)) = some (some (.slice none 0 0), 1, 24) := by kernel_rfl
/-- append(v, y), v a slice of slices that the call itself made. -/
theorem wpList_append_row {w : World} {ops : Array Oper} {rest : List Oper} {o : Oper} {a : Act} {Q : Exit → Act → World → Prop} (hgd : o.guard = none) (s x : Operand)
    (ho : o.op = .call { callee := .builtin .append, args := #[s, x], argTypes := #[53, 53] }) (B : Nat) (v : Value) (m : Nat) (rs : List Value) (hs : a.eval s = v) (hown : w.ownsRow B 22 1 v m rs)
    (ad : Addr) (y : Value) (hx : a.eval x = .slice (some ad) 1 1) (hc : w.cell? ad = some y) (hy : y.oneCell' = true) (hlen : m + 1 ≤ 1000000) (hB : B ≤ w.heap.size)
    (h : ∀ v' w', w'.ownsRow B 22 1 v' (m + 1) (rs ++ [y]) → w.grownBy w' v.ownBlock → wpList Try.prog ops Q rest (a.put o.dst v') w') : wpList Try.prog ops Q (o :: rest) a w := by
  obtain ⟨i0, hi, hz0, hz1, hz2⟩ := info_parts Try.infoSl
  refine wpList_append_own _ hgd s x 53 ho B 22 i0 (.slice none 0 0) 1 24 Try.underlying53 hi hz0 hz1 hz2 rfl (by decide) v m rs hs hown ad 1 1 [y] hx rfl (fun j u hu => ?_) (fun u hu => ?_) (by unfold maxLen; omega) (by omega) hB
    fun v' w' h1 h2 _ => h v' w' h1 h2
  · match j with
    | 0 =>
      have e : u = y := by simpa using hu.symm
      rw [e]
      have : ad.add 0 = ad := by cases ad; simp [Addr.add]
      rw [this]; exact hc
    | j + 1 => simp at hu
  · rw [List.mem_singleton.1 hu]; exact hy
theorem rows_form {w : World} {B m : Nat} {v : Value} {rs : List Value} (h : w.ownsRow B 22 1 v m rs) : rs.length = m ∧ ((v = .slice none 0 0 ∧ m = 0) ∨ ∃ g cap, v = .slice (some ⟨g, 0, none⟩) m cap ∧ B ≤ g ∧ g < w.heap.size ∧ m ≤ cap ∧ cap ≤ maxLen) := by
  obtain ⟨h1, h⟩ := h
  refine ⟨by simpa using h1, ?_⟩
  rcases h with h | ⟨g, cap, cur, h, hb, hg, h2, h3, _⟩
  · exact .inl h
  · exact .inr ⟨g, cap, h, hb, (Array.getElem?_eq_some_iff.1 hg).1, h2, h3⟩
theorem rows_kept {w w' : World} {B m : Nat} {v : Value} {rs : List Value} (h : w.ownsRow B 22 1 v m rs) (k : Kept w w') : w'.ownsRow B 22 1 v m rs := by
  obtain ⟨h1, h⟩ := h
  rcases h with h | ⟨g, cap, cur, h, hb, hg, r⟩
  · exact ⟨h1, .inl h⟩
  · exact ⟨h1, .inr ⟨g, cap, cur, h, hb, by rw [k.block g (Array.getElem?_eq_some_iff.1 hg).1]; exact hg, r⟩⟩
/-- A row is no list of rows. -/
theorem row_ne {w : World} {B B' m g : Nat} {v x : Value} {rs : List Value} {xs : List Int} (h : w.ownsRow B 22 1 v m rs) (k : Own w B' x xs) (hx : x.ownBlock = some g) : v.ownBlock ≠ some g := fun e => by
  obtain ⟨_, h | ⟨g1, _, c1, rfl, _, hg, _⟩⟩ := h
  · rw [h.1] at e; cases e
  · obtain ⟨_, k | ⟨g2, _, c2, rfl, _, hg', _⟩⟩ := k
    · rw [k.1] at hx; cases hx
    · have e1 : g1 = g := by simpa [Value.ownBlock] using e
      have e2 : g2 = g := by simpa [Value.ownBlock] using hx
      rw [e1] at hg
      rw [e2, hg] at hg'
      simp at hg'
theorem row_past {w w' : World} {B B' m : Nat} {v x : Value} {rs : List Value} {xs : List Int} (h : w.ownsRow B 22 1 v m rs) (k : Own w B' x xs) (hg : w.grownBy w' v.ownBlock) : Own w' B' x xs := by
  rcases k.form with ⟨rfl, rfl⟩ | ⟨g, cap, e, _, h2, _⟩
  · exact own_nil _ _
  · have := row_ne h k (g := g) (by rw [e]; rfl)
    subst e
    exact k.of_block (hg.block g h2 (fun e => this e.symm))
/-- m rows, in blocks from B on, all apart. -/
structure Rws (w : World) (B : Nat) (v : Value) (m : Nat) (rv : Nat → Value) (R : Nat → List Int) : Prop where
  out : w.ownsRow B 22 1 v m ((List.range m).map rv)
  row : ∀ i, i < m → Own w B (rv i) (R i)
  dis : ∀ i k, i < k → k < m → ∀ g, (rv i).ownBlock = some g → (rv k).ownBlock ≠ some g
theorem rws_nil (w : World) (B : Nat) (R : Nat → List Int) : Rws w B (.slice none 0 0) 0 (fun _ => .slice none 0 0) R := ⟨⟨rfl, .inl ⟨rfl, rfl⟩⟩, fun i h => by omega, fun i k _ h => by omega⟩
theorem Rws.kept {w w' : World} {B m : Nat} {v : Value} {rv : Nat → Value} {R : Nat → List Int} (h : Rws w B v m rv R) (k : Kept w w') : Rws w' B v m rv R := ⟨rows_kept h.out k, fun i hi => (h.row i hi).kept k, h.dis⟩
theorem own_blk {w : World} {B g : Nat} {v : Value} {xs : List Int} (h : Own w B v xs) (e : v.ownBlock = some g) : B ≤ g ∧ g < w.heap.size := by
  rcases h.form with ⟨rfl, _⟩ | ⟨g', cap, rfl, h1, h2, _⟩
  · cases e
  · have : g' = g := by simpa [Value.ownBlock] using e
    subst this
    exact ⟨h1, h2⟩
theorem Rws.add {wO w w' : World} {B m : Nat} {v v' vr : Value} {rv : Nat → Value} {R : Nat → List Int} (h : Rws wO B v m rv R) (hk : Kept wO w) (hr : Own w wO.heap.size vr (R m)) (hB : B ≤ wO.heap.size)
    (o' : w'.ownsRow B 22 1 v' (m + 1) ((List.range m).map rv ++ [vr])) (hg : w.grownBy w' v.ownBlock) : Rws w' B v' (m + 1) (fun i => if i = m then vr else rv i) R := by
  have h' := h.kept hk
  refine ⟨?_, fun i hi => ?_, fun i k h1 h2 g hg1 => ?_⟩
  · have e : (List.range (m + 1)).map (fun i => if i = m then vr else rv i) = (List.range m).map rv ++ [vr] := by
      rw [List.range_succ, List.map_append]
      congr 1
      · refine List.map_congr_left fun i hi => ?_
        rw [if_neg (by have := List.mem_range.1 hi; omega)]
      · simp
    rw [e]; exact o'
  · by_cases e : i = m
    · subst e
      rw [if_pos rfl]
      exact row_past h'.out (hr.mono hB) hg
    · rw [if_neg e]
      exact row_past h'.out (h'.row i (by omega)) hg
  · rw [if_neg (by omega)] at hg1
    by_cases e : k = m
    · rw [if_pos e]
      intro e2
      have h3 := own_blk (h.row i (by omega)) hg1
      have h4 := own_blk hr e2
      omega
    · rw [if_neg e]
      exact h.dis i k h1 (by omega) g hg1
theorem rows_below {w0 w w' : World} {B m : Nat} {v : Value} {rs : List Value} (h : Below B w0 w) (hB : B ≤ w.heap.size) (hown : w.ownsRow B 22 1 v m rs) (hg : w.grownBy w' v.ownBlock) : Below B w0 w' :=
  h.grown hg hB (fun k hk => by
    rcases (rows_form hown).2 with ⟨rfl, _⟩ | ⟨g, cap, rfl, hg', _⟩
    · cases hk
    · cases hk; exact hg')
/-- A system in memory, in the blocks from lo on and below hi. -/
def Sm (w : World) (lo hi : Nat) (v : Value) (n cols : Nat) (E : Nat → Nat → Int) : Prop :=
  (∃ a cap, v = .slice a n cap ∧ n ≤ cap ∧ cap ≤ maxLen) ∧ hi ≤ w.heap.size ∧ (0 < n → 0 < cols → ∃ g b cp cap, v = .slice (some ⟨g, 0, none⟩) n cap ∧ n ≤ cap ∧ cap ≤ maxLen ∧ Mat w lo hi g n cols b cp E)
theorem Sm.kept {w w' : World} {lo hi : Nat} {v : Value} {n cols : Nat} {E : Nat → Nat → Int} (h : Sm w lo hi v n cols E) (k : Kept w w') : Sm w' lo hi v n cols E :=
  ⟨h.1, Nat.le_trans h.2.1 k.size, fun h1 h2 => by obtain ⟨g, b, cp, cap, e, e1, e2, hm⟩ := h.2.2 h1 h2; exact ⟨g, b, cp, cap, e, e1, e2, hm.kept k⟩⟩
theorem Sm.chg {w w' : World} {lo hi lo' hi' : Nat} {v : Value} {n cols : Nat} {E : Nat → Nat → Int} (h : Sm w lo hi v n cols E) (k : Chg lo' hi' w w') (hd : hi ≤ lo' ∨ hi' ≤ lo) : Sm w' lo hi v n cols E :=
  ⟨h.1, Nat.le_trans h.2.1 k.size, fun h1 h2 => by obtain ⟨g, b, cp, cap, e, e1, e2, hm⟩ := h.2.2 h1 h2; exact ⟨g, b, cp, cap, e, e1, e2, hm.chg k hd⟩⟩
theorem rws_sm {w : World} {B n cols : Nat} {v : Value} {rv : Nat → Value} {R : Nat → List Int} (h : Rws w B v n rv R) (hR : ∀ i, i < n → (R i).length = cols) : Sm w B w.heap.size v n cols (fun i k => (R i).getD k 0) := by
  have hf := rows_form h.out
  refine ⟨?_, Nat.le_refl _, fun hn hc => ?_⟩
  · rcases hf.2 with ⟨rfl, rfl⟩ | ⟨g, cap, rfl, _, _, h2, h3⟩
    · exact ⟨none, 0, rfl, Nat.le_refl _, Nat.zero_le _⟩
    · exact ⟨_, cap, rfl, h2, h3⟩
  · rcases hf.2 with ⟨_, e⟩ | ⟨g, cap, rfl, hg1, hg2, h2, h3⟩
    · omega
    · have hx : ∀ i, ∃ b cp, i < n → rv i = .slice (some ⟨b, 0, none⟩) cols cp ∧ B ≤ b ∧ b < w.heap.size ∧ cols ≤ cp ∧ cp ≤ maxLen := fun i => by
        by_cases hi : i < n
        · rcases (h.row i hi).form with ⟨_, e⟩ | ⟨b, cp, e, h4, h5, h6, h7⟩
          · have := hR i hi; rw [e] at this; simp at this; omega
          · rw [hR i hi] at e h6
            exact ⟨b, cp, fun _ => ⟨e, h4, h5, h6, h7⟩⟩
        · exact ⟨0, 0, fun h => absurd h hi⟩
      let b := fun i => (hx i).choose
      let cp := fun i => (hx i).choose_spec.choose
      have hb : ∀ i, i < n → rv i = .slice (some ⟨b i, 0, none⟩) cols (cp i) ∧ B ≤ b i ∧ b i < w.heap.size ∧ cols ≤ cp i ∧ cp i ≤ maxLen := fun i hi => (hx i).choose_spec.choose_spec hi
      refine ⟨g, b, cp, cap, rfl, h2, h3, ⟨hg1, hg2, Nat.le_refl _, fun i hi => ?_, fun i k hi hk => ?_, fun i hi => (hb i hi).2.1, fun i hi => (hb i hi).2.2.1, fun i hi e => ?_, fun i j hi hj e => ?_, fun i hi => (hb i hi).2.2.2, fun i => World.ownsRow.frozenAt h.out i, fun i k hi => ?_⟩⟩
      · have := World.ownsRow.cellAt h.out i (by omega)
        rw [this]
        simp [hi, (hb i hi).1]
      · have hr := h.row i hi
        rw [(hb i hi).1] at hr
        exact hr.cell (by rw [hR i hi]; exact hk)
      · have hr := h.row i hi
        refine row_ne h.out hr (g := b i) (by rw [(hb i hi).1]; rfl) ?_
        show some g = some (b i)
        rw [e]
      · rcases Nat.lt_trichotomy i j with g1 | g1 | g1
        · exact absurd (by rw [(hb j hj).1, e]; rfl) (h.dis i j g1 hj (b i) (by rw [(hb i hi).1]; rfl))
        · exact g1
        · exact absurd (by rw [(hb i hi).1, ← e]; rfl) (h.dis j i g1 hi (b j) (by rw [(hb j hj).1]; rfl))
      · have hr := h.row i hi
        rw [(hb i hi).1] at hr
        exact hr.frozen k
/-- The entries of a row of the equations. -/
def rwS (G : GFd) (s : List Int) (l i k : Nat) : Int := inn G.q (s.getD (l + i - (k + 1)) 0)
def rwK (G : GFd) (s : List Int) (l i : Nat) (k : Nat) : List Int := (List.range k).map (rwS G s l i)
def rwL (G : GFd) (s : List Int) (l : Nat) (whole : Bool) (i : Nat) : List Int := rwK G s l i l ++ if whole then [inn G.q (s.getD (l + i) 0)] else []
theorem rwK_succ (G : GFd) (s : List Int) (l i k : Nat) : rwK G s l i (k + 1) = rwK G s l i k ++ [rwS G s l i k] := by
  unfold rwK
  rw [List.range_succ, List.map_append]
  rfl
theorem rwK_len (G : GFd) (s : List Int) (l i k : Nat) : (rwK G s l i k).length = k := by unfold rwK; simp
theorem rwL_len (G : GFd) (s : List Int) (l : Nat) (whole : Bool) (i : Nat) : (rwL G s l whole i).length = l + if whole then 1 else 0 := by
  unfold rwL
  rw [List.length_append, rwK_len]
  cases whole <;> simp
theorem rwL_sys {G : GFd} (t : Tabs G) (s : List Int) (l : Nat) (whole : Bool) (i k : Nat) (hk : k < l + if whole then 1 else 0) : t.e ((rwL G s l whole i).getD k 0) = Rk.sys (t.po s) l i k := by
  unfold Rk.sys
  by_cases h : k < l
  · rw [if_pos h]
    have : (rwL G s l whole i).getD k 0 = rwS G s l i k := by
      unfold rwL rwK
      rw [List.getD, List.getElem?_append_left (by simpa using h)]
      simp [h]
    rw [this]
    exact t.e_inn _
  · rw [if_neg h]
    cases whole with
    | false => simp at hk; omega
    | true =>
      have e : k = l := by simp at hk; omega
      subst e
      have : (rwL G s k true i).getD k 0 = inn G.q (s.getD (k + i) 0) := by
        unfold rwL
        rw [List.getD, List.getElem?_append_right (by rw [rwK_len]; exact Nat.le_refl _), rwK_len]
        simp
      rw [this]
      exact t.e_inn _
theorem rwL_bd {G : GFd} (t : Tabs G) (s : List Int) (l : Nat) (whole : Bool) (n cols : Nat) : BE G n cols (fun i k => (rwL G s l whole i).getD k 0) := fun i k _ _ => by
  have hq := t.qb
  show 0 ≤ (rwL G s l whole i).getD k 0 ∧ (rwL G s l whole i).getD k 0 < G.q
  by_cases hk : k < (rwL G s l whole i).length
  · have : (rwL G s l whole i).getD k 0 ∈ rwL G s l whole i := by
      rw [List.getD, List.getElem?_eq_getElem hk, Option.getD_some]
      exact List.getElem_mem hk
    unfold rwL at this
    rcases List.mem_append.1 this with h | h
    · unfold rwK at h
      obtain ⟨j, _, e⟩ := List.mem_map.1 h
      unfold rwL rwK
      rw [← e]
      exact inn_bd (by omega) _
    · cases whole with
      | false => simp at h
      | true =>
        have e : (rwK G s l i l ++ if true = true then [inn G.q (s.getD (l + i) 0)] else []).getD k 0 = inn G.q (s.getD (l + i) 0) := by simpa using h
        unfold rwL
        rw [e]
        exact inn_bd (by omega) _
  · rw [ld_out (by omega)]; omega
set_option maxRecDepth 100000 in
set_option maxHeartbeats 8000000 in
theorem rSys_r (G : GFd) (t : Tabs G) (P M : Int) (mod : List Int) (vm : Value) (vs : Value) (s : List Int) (l : Nat) (whole : Bool) (w : World) (ho : Hid (Of G P M mod)) (hs : Sl w vs s) (hl : l ≤ s.length) (ns : s.length ≤ 1000) :
    Calls Try.prog 37 #[.agg #[.int .i64 P, .int .i64 M, vm], vs, .int .i64 l, .bool whole] w fun e w' => ∃ v rv, e = .returned v ∧ Kept w w' ∧ Rws w' w.heap.size v (s.length - l) rv (rwL G s l whole) := by
  have hk0 := kept_alloc w (.cells #[.int .i64 P, .int .i64 M, vm] 24)
  have hbx := boxF_new w P M vm 24
  have svs := hs.kept hk0
  have HZ1 : (w.alloc (.cells #[.int .i64 P, .int .i64 M, vm] 24)).heap.size = w.heap.size + 1 := by simp
  have HZ1 := hid HZ1
  obtain ⟨w1, hw1⟩ : ∃ w1, w1 = w.alloc (.cells #[.int .i64 P, .int .i64 M, vm] 24) := ⟨_, rfl⟩
  rw [← hw1] at hk0 hbx HZ1 svs
  obtain ⟨aS, cs, rfl, hcs, ⟨hcm, _⟩, hcell0⟩ := svs
  unfold maxLen at hcm
  have hq0 := t.qb
  have HQ : Hid (ordS P M = G.q) := hid (by rw [← ho.out.1, ← ho.out.2.1, ← t.hq])
  have hR0 := rws_nil w1 w1.heap.size (rwL G s l whole)
  have l0 : (0 : Int) ≤ (l : Int) := by omega
  have HL := hid hl
  clear hs hq0 hl
  go_enter Try.func37, Try.ntmps37
  go_wp2_with (fail)
  rw [← hw1]
  clear hw1
  go_loopw [9, 10] (fun vo vj wr => ∃ (m : Nat) (rv : Nat → Value), l + m ≤ s.length ∧ vj = .int .i64 (l + m : Nat) ∧ Rws wr w1.heap.size vo m rv (rwL G s l whole) ∧ Kept w1 wr) (fun _ vj _ => s.length - (intOf vj).toNat)
  case atStart => exact ⟨0, _, by have := HL.out; omega, rfl, hR0, Kept.rfl' _⟩
  case round =>
    obtain ⟨m, rv, hm, rfl, hRW, hkw⟩ := hrel
    clear hR0
    by_cases hlt : l + m < s.length
    case neg =>
      have em : m = s.length - l := by omega
      have hge : (s.length : Int) ≤ ((l + m : Nat) : Int) := by omega
      have HM := hid em
      clear hlt em
      go_wp2_with (fail)
      go_ret
      refine ⟨_, rv, rfl, hk0.tr hkw, ?_⟩
      have h := hRW
      rw [← HM.out]
      exact ⟨(show _ from by obtain ⟨h1, h2⟩ := h.out; exact ⟨h1, h2.imp id (fun ⟨g, cap, cur, e, hb, r⟩ => ⟨g, cap, cur, e, by have := hk0.size; omega, r⟩)⟩), fun i hi => (h.row i hi).mono hk0.size, h.dis⟩
    obtain ⟨bs, offs, rfl, hbs, hcell⟩ := hcell0 (by intro e; rw [e] at hlt; simp at hlt)
    have HC := hid hcell
    obtain ⟨j, hj⟩ : ∃ j, j = l + m := ⟨_, rfl⟩
    have HJ := hid hj
    rw [← hj] at hlt ⊢
    have hji : (j : Int) < (s.length : Int) := by omega
    have j0 : (0 : Int) ≤ (j : Int) := by omega
    have hlj : l ≤ j := by omega
    have hmb : m ≤ 1000 := by omega
    obtain ⟨wO, hwO⟩ : ∃ x, x = wr := ⟨_, rfl⟩
    subst hwO
    have hr0 : Own wO wO.heap.size (.slice none 0 0) (rwK G s l m 0) := own_nil _ _
    clear hcell hcell0 hj hm
    go_wp2_with (fail)
    go_loopw [11, 12] (fun va vi wr => ∃ (k : Nat) (vr : Value), k ≤ l ∧ vi = .int .i64 (k + 1 : Nat) ∧ vr = va ∧ Own wr wO.heap.size vr (rwK G s l m k) ∧ Kept wO wr) (fun _ vi _ => l + 1 - (intOf vi).toNat)
    case atStart => exact ⟨0, _, by omega, rfl, rfl, hr0, Kept.rfl' _⟩
    case round =>
      obtain ⟨k, vr, hk, rfl, rfl, hrow, hkO⟩ := hrel
      have hk1 := hkw.tr hkO
      have hbw := hbx.kept hk1
      have c0 := hbw.h0
      have c1 := hbw.h1
      have c2 := hbw.h2
      by_cases hkl : k < l
      · obtain ⟨i, hi⟩ : ∃ i, j = k + 1 + i := ⟨j - (k + 1), by omega⟩
        have hck := (Kept.cell' hk1 hbs).trans (HC.out i (by omega))
        have hbs' := Kept.lt hk1 hbs
        obtain ⟨z, hz⟩ : ∃ z, z = s.getD i 0 := ⟨_, rfl⟩
        rw [← hz] at hck
        obtain ⟨y, hy⟩ : ∃ y, y = inn G.q z := ⟨_, rfl⟩
        have HY : Hid (inn (ordS P M) z = y) := hid (by rw [HQ.out, hy])
        have HST : Hid (rwK G s l m k ++ [y] = rwK G s l m (k + 1)) := hid (by
          rw [rwK_succ]
          unfold rwS
          rw [← HJ.out, hi, Nat.add_sub_cancel_left, ← hz, ← hy])
        have hlen := rwK_len G s l m k
        have HLN := hid hlen
        have i2 : IntKind.i64.wrap ((j : Int) - ((k : Int) + 1)) = (j : Int) - ((k : Int) + 1) := IntWalk.i64_in _ (by omega)
        have i4 : (0 : Int) ≤ (j : Int) - ((k : Int) + 1) := by omega
        have i5 : (j : Int) - ((k : Int) + 1) < (s.length : Int) := by omega
        have i6 : ((j : Int) - ((k : Int) + 1)).toNat = i := by omega
        have i7 : (k : Int) + 1 ≤ (j : Int) := by omega
        have e5 : ((k + 1 : Nat) : Int) ≤ (l : Int) := by omega
        have e6 : (k : Int) + 1 ≤ (l : Int) := by omega
        have hlen2 : (rwK G s l m k).length + 1 ≤ 1000000 := by omega
        have HZZ := hid hz.symm
        have hil : i < s.length := by omega
        clear hz hy hi hlen
        go_wp2_with (fail)
        have hkc := Kept.rfl' wr
        go_region_held3 (fun w' => w'.cell? ⟨w.heap.size, 0, none⟩ = some (.int .i64 P) ∧ w'.cell? ⟨w.heap.size, 1, none⟩ = some (.int .i64 M) ∧ w'.cell? ⟨w.heap.size, 2, none⟩ = some vm ∧ w'.cell? ⟨bs, offs + i, none⟩ = some (.int .i64 z)) (first | (simp [go_sem]; done) | (refine ⟨?_, ?_, ?_, ?_⟩ <;> (rw [cell_allocNe (by assumption)]; assumption)) | (simp [*]; done))
          (first
            | (go_at_call 25; (with_reducible refine (rIn_any P M vm z _).mono ?_); rintro e wx ⟨rfl, kx⟩; rw [HY.out]; have hkn := Kept.tr (b := _) (by first | exact hkc | exact hkc.tr (kept_drew _) | exact hkc.tr (kept_drewN _ _)) kx; clear hkc kx; have hkc := hkn; clear hkn; have bxx := hbw.kept hkc; have d0 := bxx.h0; have d1 := bxx.h1; have d2 := bxx.h2; have d3 := (Kept.cell' hkc hbs').trans hck; have lt0 := bxx.lt; have lt1 := hkc.lt hbs')
            | (refine step_append_ints rfl (.tmp 25) (.tmp 34) rfl wO.heap.size _ (rwK G s l m k) rfl ((hrow.kept hkc).kept (kept_alloc wx (.cells #[.int .i64 y] 3))) (some ⟨wx.heap.size, 0, none⟩) 1 1 [y] rfl rfl (fun e => by cases e) (fun _ e => by cases e) (own_addr (own_one (w := wx) (B := 0) (x := y) (Nat.zero_le _))) hlen2 (by have := (hkO.tr hkc).size; simp; omega) ?_; intro v5 w5 o5 gr5 _; have hk5 : Kept wO w5 := below_append ((hkO.tr hkc).tr (kept_alloc wx (.cells #[.int .i64 y] 3))) (by have := (hkO.tr hkc).size; simp; omega) ((hrow.kept hkc).kept (kept_alloc wx (.cells #[.int .i64 y] 3))) (Nat.le_refl _) gr5; clear gr5; have bxx := hbx.kept (hkw.tr hk5); have d0 := bxx.h0; have d1 := bxx.h1; have d2 := bxx.h2; have d3 := (Kept.cell' (hkw.tr hk5) hbs).trans (HC.out i hil); rw [HZZ.out] at d3))
        all_goals
          go_wp2_with (fail)
          go_roundw
          case rel => exact ⟨k + 1, v5, by omega, by first | rfl | exact val_int (by omega), rfl, by rw [← HST.out]; first | exact o5 | exact o5.drew | exact o5.drewN _, by first | exact hk5 | exact hk5.drew | exact hk5.drewN _⟩
          case measure => simp [intOf]; omega
      · have ek : k = l := by omega
        have hrowl : Own wr wO.heap.size vr (rwK G s l m l) := by
          have h := hrow
          rw [ek] at h
          exact h
        have e5 : (l : Int) < ((k + 1 : Nat) : Int) := by omega
        have e6 : (l : Int) < (k : Int) + 1 := by omega
        have hlen := rwK_len G s l m l
        have HLN := hid hlen
        clear hkl ek hrow hlen
        cases whole with
        | false =>
          have hrowf : Own wr wO.heap.size vr (rwL G s l false m) := by
            have e : rwL G s l false m = rwK G s l m l := by unfold rwL; simp
            rw [e]; exact hrowl
          obtain ⟨ar, cr, rfl, hcr1, hcr2⟩ := hrowf.sh
          go_wp2_with (at_builtin; (go_loud (refine wpList_append_row rfl (.tmp 46) (.tmp 48) rfl w1.heap.size _ m _ rfl (rows_kept hRW.out (hkO.tr (kept_alloc wr (.cells #[.slice ar (rwL G s l false m).length cr] 22)))) ⟨wr.heap.size, 0, none⟩ (.slice ar (rwL G s l false m).length cr) rfl (cell_new rfl) rfl (by omega) (by have := (hkw.tr hkO).size; simp; omega) ?_)); intro v6 w6 o6 gr6; have gr6' : World.grownBy wr w6 _ := ⟨gr6.os.trans (kept_alloc wr (.cells #[.slice ar (rwL G s l false m).length cr] 22)).os, gr6.tape.trans (kept_alloc wr (.cells #[.slice ar (rwL G s l false m).length cr] 22)).tape, gr6.output.trans (kept_alloc wr (.cells #[.slice ar (rwL G s l false m).length cr] 22)).output, Nat.le_trans (kept_alloc wr (.cells #[.slice ar (rwL G s l false m).length cr] 22)).size gr6.size, fun k h1 h2 => (gr6.block k (Nat.lt_of_lt_of_le h1 (kept_alloc wr (.cells #[.slice ar (rwL G s l false m).length cr] 22)).size) h2).trans ((kept_alloc wr (.cells #[.slice ar (rwL G s l false m).length cr] 22)).block k h1)⟩)
          have hRW' := Rws.add hRW hkO hrowf hkw.size o6 gr6'
          have k6 : Kept w1 w6 := rows_below ((hkw.tr hkO).tr (kept_alloc wr (.cells #[.slice ar (rwL G s l false m).length cr] 22))) (by have := (hkw.tr hkO).size; simp; omega) (rows_kept hRW.out (hkO.tr (kept_alloc wr (.cells #[.slice ar (rwL G s l false m).length cr] 22)))) gr6
          go_roundw
          case rel => exact ⟨m + 1, _, by have := HJ.out; omega, by first | rfl | exact val_int (by have := HJ.out; omega), hRW', k6⟩
          case measure => simp [intOf]; omega
        | true =>
          have hck := (Kept.cell' hk1 hbs).trans (HC.out j hlt)
          have hbs' := Kept.lt hk1 hbs
          obtain ⟨z, hz⟩ : ∃ z, z = s.getD j 0 := ⟨_, rfl⟩
          rw [← hz] at hck
          obtain ⟨y, hy⟩ : ∃ y, y = inn G.q z := ⟨_, rfl⟩
          have HY : Hid (inn (ordS P M) z = y) := hid (by rw [HQ.out, hy])
          have HST : Hid (rwK G s l m l ++ [y] = rwL G s l true m) := hid (by unfold rwL; rw [if_pos rfl, ← HJ.out, ← hz, ← hy])
          have hlen2 : (rwK G s l m l).length + 1 ≤ 1000000 := by have := HLN.out; omega
          have HZZ := hid hz.symm
          clear hz hy
          go_wp2_with (fail)
          have hkc := Kept.rfl' wr
          go_region_held3 (fun w' => w'.cell? ⟨w.heap.size, 0, none⟩ = some (.int .i64 P) ∧ w'.cell? ⟨w.heap.size, 1, none⟩ = some (.int .i64 M) ∧ w'.cell? ⟨w.heap.size, 2, none⟩ = some vm ∧ w'.cell? ⟨bs, offs + j, none⟩ = some (.int .i64 z)) (first | (simp [go_sem]; done) | (refine ⟨?_, ?_, ?_, ?_⟩ <;> (rw [cell_allocNe (by assumption)]; assumption)) | (simp [*]; done))
            (first
              | (go_at_call 25; (with_reducible refine (rIn_any P M vm z _).mono ?_); rintro e wx ⟨rfl, kx⟩; rw [HY.out]; have hkn := Kept.tr (b := _) (by first | exact hkc | exact hkc.tr (kept_drew _) | exact hkc.tr (kept_drewN _ _)) kx; clear hkc kx; have hkc := hkn; clear hkn; have bxx := hbw.kept hkc; have d0 := bxx.h0; have d1 := bxx.h1; have d2 := bxx.h2; have d3 := (Kept.cell' hkc hbs').trans hck; have lt0 := bxx.lt; have lt1 := hkc.lt hbs')
              | (refine step_append_ints rfl (.tmp 37) (.tmp 44) rfl wO.heap.size _ (rwK G s l m l) rfl ((hrowl.kept hkc).kept (kept_alloc wx (.cells #[.int .i64 y] 3))) (some ⟨wx.heap.size, 0, none⟩) 1 1 [y] rfl rfl (fun e => by cases e) (fun _ e => by cases e) (own_addr (own_one (w := wx) (B := 0) (x := y) (Nat.zero_le _))) hlen2 (by have := (hkO.tr hkc).size; simp; omega) ?_; intro v5 w5 o5 gr5 _; have hk5 : Kept wO w5 := below_append ((hkO.tr hkc).tr (kept_alloc wx (.cells #[.int .i64 y] 3))) (by have := (hkO.tr hkc).size; simp; omega) ((hrowl.kept hkc).kept (kept_alloc wx (.cells #[.int .i64 y] 3))) (Nat.le_refl _) gr5; clear gr5; have bxx := hbx.kept (hkw.tr hk5); have d0 := bxx.h0; have d1 := bxx.h1; have d2 := bxx.h2; have d3 := (Kept.cell' (hkw.tr hk5) hbs).trans (HC.out j hlt); rw [HZZ.out] at d3))
          all_goals
            have hrowf : Own w5 wO.heap.size v5 (rwL G s l true m) := by rw [← HST.out]; exact o5
            obtain ⟨ar, cr, rfl, hcr1, hcr2⟩ := hrowf.sh
            go_wp2_with (at_builtin; (go_loud (refine wpList_append_row rfl (.tmp 46) (.tmp 48) rfl w1.heap.size _ m _ rfl (rows_kept hRW.out (hk5.tr (kept_alloc w5 (.cells #[.slice ar (rwL G s l true m).length cr] 22)))) ⟨w5.heap.size, 0, none⟩ (.slice ar (rwL G s l true m).length cr) rfl (cell_new rfl) rfl (by omega) (by have := (hkw.tr hk5).size; simp; omega) ?_)); intro v6 w6 o6 gr6; have gr6' : World.grownBy w5 w6 _ := ⟨gr6.os.trans (kept_alloc w5 (.cells #[.slice ar (rwL G s l true m).length cr] 22)).os, gr6.tape.trans (kept_alloc w5 (.cells #[.slice ar (rwL G s l true m).length cr] 22)).tape, gr6.output.trans (kept_alloc w5 (.cells #[.slice ar (rwL G s l true m).length cr] 22)).output, Nat.le_trans (kept_alloc w5 (.cells #[.slice ar (rwL G s l true m).length cr] 22)).size gr6.size, fun k h1 h2 => (gr6.block k (Nat.lt_of_lt_of_le h1 (kept_alloc w5 (.cells #[.slice ar (rwL G s l true m).length cr] 22)).size) h2).trans ((kept_alloc w5 (.cells #[.slice ar (rwL G s l true m).length cr] 22)).block k h1)⟩)
            have hRW' := Rws.add hRW hk5 hrowf hkw.size o6 gr6'
            have k6 : Kept w1 w6 := rows_below ((hkw.tr hk5).tr (kept_alloc w5 (.cells #[.slice ar (rwL G s l true m).length cr] 22))) (by have := (hkw.tr hk5).size; simp; omega) (rows_kept hRW.out (hk5.tr (kept_alloc w5 (.cells #[.slice ar (rwL G s l true m).length cr] 22)))) gr6
            go_roundw
            case rel => exact ⟨m + 1, _, by have := HJ.out; omega, by first | rfl | exact val_int (by have := HJ.out; omega), hRW', k6⟩
            case measure => simp [intOf]; omega
end Go.Proofs.Ytmakdclgpeochaa
namespace Go.Proofs.Ytmakdclgpeochaa
open Go.RowKit Cw

set_option maxRecDepth 100000 in
set_option maxHeartbeats 2000000 in
theorem rRank_0 (P M : Int) (vm : Value) (a : Option Addr) (cap cols : Nat) (w : World) (hc : cols ≤ 10000) :
    Calls Try.prog 36 #[.agg #[.int .i64 P, .int .i64 M, vm], .slice a 0 cap, .int .i64 cols] w fun e w' => e = .returned (.int .i64 0) ∧ Kept w w' := by
  have hk0 := kept_alloc w (.cells #[.int .i64 P, .int .i64 M, vm] 24)
  obtain ⟨w1, hw1⟩ : ∃ w1, w1 = w.alloc (.cells #[.int .i64 P, .int .i64 M, vm] 24) := ⟨_, rfl⟩
  rw [← hw1] at hk0
  go_enter Try.func36, Try.ntmps36
  go_wp2_with (fail)
  rw [← hw1]
  clear hw1
  go_loopw [7, 8] (fun vr vc wr => ∃ c : Nat, c ≤ cols ∧ vr = .int .i64 0 ∧ vc = .int .i64 c ∧ Kept w1 wr) (fun _ vc _ => cols - (intOf vc).toNat)
  case atStart => exact ⟨0, by omega, rfl, rfl, Kept.rfl' _⟩
  case round =>
    obtain ⟨c, hcc, rfl, rfl, hkw⟩ := hrel
    by_cases hlt : c < cols
    case neg =>
      have hge : (cols : Int) ≤ (c : Int) := by omega
      clear hlt
      go_wp2_with (fail)
      go_ret
      exact ⟨rfl, hk0.tr hkw⟩
    have hci : (c : Int) < (cols : Int) := by omega
    obtain ⟨wO, hwO⟩ : ∃ x, x = wr := ⟨_, rfl⟩
    subst hwO
    go_wp2_with (fail)
    go_loopw [9] (fun vp wr => vp = .int .i64 0 ∧ Kept wO wr) (fun _ _ => 0)
    case atStart => exact ⟨rfl, Kept.rfl' _⟩
    case round =>
      obtain ⟨rfl, hk2⟩ := hrel
      go_wp2_with (fail)
      go_roundw
      case rel => exact ⟨c + 1, by omega, rfl, by go_num, by first | exact hkw.tr hk2 | exact (hkw.tr hk2).drew | exact (hkw.tr hk2).drewN _⟩
      case measure => simp [intOf]; omega
set_option maxRecDepth 100000 in
set_option maxHeartbeats 2000000 in
theorem rRank_c (P M : Int) (vm : Value) (v : Value) (w : World) :
    Calls Try.prog 36 #[.agg #[.int .i64 P, .int .i64 M, vm], v, .int .i64 0] w fun e w' => e = .returned (.int .i64 0) ∧ Kept w w' := by
  have hk0 := kept_alloc w (.cells #[.int .i64 P, .int .i64 M, vm] 24)
  obtain ⟨w1, hw1⟩ : ∃ w1, w1 = w.alloc (.cells #[.int .i64 P, .int .i64 M, vm] 24) := ⟨_, rfl⟩
  rw [← hw1] at hk0
  go_enter Try.func36, Try.ntmps36
  go_wp2_with (fail)
  rw [← hw1]
  clear hw1
  go_loopw [7, 8] (fun vr vc wr => vr = .int .i64 0 ∧ vc = .int .i64 0 ∧ Kept w1 wr) (fun _ _ _ => 0)
  case atStart => exact ⟨rfl, rfl, Kept.rfl' _⟩
  case round =>
    obtain ⟨rfl, rfl, hkw⟩ := hrel
    go_wp2_with (fail)
    go_ret
    exact ⟨rfl, hk0.tr hkw⟩
theorem rRank_s (G : GFd) (t : Tabs G) (P M : Int) (mod : List Int) (vm : Value) (w0 w : World) (lo hi n cols : Nat) (v : Value) (C : Int) (E : Nat → Nat → Int) (ho : Hid (Of G P M mod)) (hvm : Sl w0 vm mod) (hk0 : Kept w0 w) (hlo : w0.heap.size ≤ lo) (hn : n ≤ 10000) (hc : cols ≤ 10000) (hC : Hid (C = (cols : Int))) (hS : Sm w lo hi v n cols E) (hE : BE G n cols E) (x : Nat) (hx : Hid (Rk.rk (fun j m => t.e (E j m)) n cols = x)) :
    Calls Try.prog 36 #[.agg #[.int .i64 P, .int .i64 M, vm], v, .int .i64 C] w fun e w' => e = .returned (.int .i64 (x : Nat)) ∧ Chg lo hi w w' := by
  rw [hC.out, ← hx.out]
  by_cases h0 : n = 0
  · subst h0
    obtain ⟨⟨a, cap, rfl, _, _⟩, _⟩ := hS
    have e : Rk.rk (fun j m => t.e (E j m)) 0 cols = 0 := Nat.le_zero.1 (Rk.rk_rows _ _ _)
    rw [e]
    exact (rRank_0 P M vm a cap cols w hc).mono fun _ _ ⟨h3, h4⟩ => ⟨h3, Chg.of_kept h4 _ _⟩
  by_cases hc0 : cols = 0
  · subst hc0
    exact (rRank_c P M vm v w).mono fun _ _ ⟨h3, h4⟩ => ⟨h3, Chg.of_kept h4 _ _⟩
  obtain ⟨g, bb, cp, cap, rfl, h1, h2, hM⟩ := hS.2.2 (by omega) (by omega)
  exact rRank_m G t P M mod vm w0 w lo hi g n cols bb cp E cap ho hvm hk0 hlo (by omega) hn (by omega) hc hM hE _ (hid rfl) h1 h2
/-- A system, as the text lays it. -/
theorem rSys_s (G : GFd) (t : Tabs G) (P M : Int) (mod : List Int) (vm : Value) (vs : Value) (s : List Int) (l : Nat) (whole : Bool) (w : World) (ho : Hid (Of G P M mod)) (hs : Sl w vs s) (hl : l ≤ s.length) (ns : s.length ≤ 1000) :
    Calls Try.prog 37 #[.agg #[.int .i64 P, .int .i64 M, vm], vs, .int .i64 l, .bool whole] w fun e w' => ∃ v lo hi, e = .returned v ∧ w.heap.size ≤ lo ∧ Sm w' lo hi v (s.length - l) (l + if whole then 1 else 0) (fun i k => (rwL G s l whole i).getD k 0) ∧ Kept w w' :=
  (rSys_r G t P M mod vm vs s l whole w ho hs hl ns).mono fun _ w' ⟨v, _, he, hk, hR⟩ => ⟨v, w.heap.size, w'.heap.size, he, Nat.le_refl _, rws_sm hR (fun i _ => rwL_len G s l whole i), hk⟩
theorem sys_e {G : GFd} (t : Tabs G) (s : List Int) (l : Nat) (whole : Bool) (n : Nat) : Rk.rk (fun i k => t.e ((rwL G s l whole i).getD k 0)) n (l + if whole then 1 else 0) = Rk.rk (Rk.sys (t.po s) l) n (l + if whole then 1 else 0) := Rk.rk_congr fun i k _ hk => rwL_sys t s l whole i k hk
set_option maxRecDepth 100000 in
set_option maxHeartbeats 8000000 in
theorem rCx_r (G : GFd) (t : Tabs G) (P M : Int) (mod : List Int) (vm : Value) (vs : Value) (s : List Int) (w : World) (ho : Hid (Of G P M mod)) (hvm : Sl w vm mod) (hs : Sl w vs s) (ns : s.length ≤ 1000) :
    Calls Try.prog 17 #[.agg #[.int .i64 P, .int .i64 M, vm], vs] w fun e w' => e = .returned (.int .i64 (Pl.cx (t.po s) s.length : Nat)) ∧ Kept w w' := by
  have hk0 := kept_alloc w (.cells #[.int .i64 P, .int .i64 M, vm] 24)
  have hbx := boxF_new w P M vm 24
  have smv := hvm.kept hk0
  have svs := hs.kept hk0
  have HZ1 : (w.alloc (.cells #[.int .i64 P, .int .i64 M, vm] 24)).heap.size = w.heap.size + 1 := by simp
  have HZ1 := hid HZ1
  obtain ⟨w1, hw1⟩ : ∃ w1, w1 = w.alloc (.cells #[.int .i64 P, .int .i64 M, vm] 24) := ⟨_, rfl⟩
  rw [← hw1] at hk0 hbx smv HZ1 svs
  have hcx := Pl.cx_is (t.po s) s.length
  have hcl := Pl.cx_len (t.po s) s.length
  obtain ⟨X, hX⟩ : ∃ X, X = Pl.cx (t.po s) s.length := ⟨_, rfl⟩
  rw [← hX] at hcx hcl ⊢
  have HCX := hid hcx
  clear hs hX hcx
  go_enter Try.func17, Try.ntmps17
  go_wp2_with (fail)
  rw [← hw1]
  clear hw1
  go_loopw [5] (fun vl wr => ∃ l : Nat, l ≤ X ∧ vl = .int .i64 l ∧ Kept w1 wr) (fun vl _ => X - (intOf vl).toNat)
  case atStart => exact ⟨0, by omega, rfl, Kept.rfl' _⟩
  case round =>
    obtain ⟨l, hl, rfl, hkw⟩ := hrel
    have hbw := hbx.kept hkw
    have c0 := hbw.h0
    have c1 := hbw.h1
    have c2 := hbw.h2
    have svw := svs.kept hkw
    have hln : l ≤ s.length := by omega
    have hrk := Rk.sys_rk (s := t.po s) hln
    obtain ⟨x, hx⟩ : ∃ x, x = Rk.rk (Rk.sys (t.po s) l) (s.length - l) l := ⟨_, rfl⟩
    obtain ⟨y, hy⟩ : ∃ y, y = Rk.rk (Rk.sys (t.po s) l) (s.length - l) (l + 1) := ⟨_, rfl⟩
    have HX : Hid (Rk.rk (fun i k => t.e ((rwL G s l false i).getD k 0)) (s.length - l) (l + if false = true then 1 else 0) = x) := hid ((sys_e t s l false _).trans hx.symm)
    have HY : Hid (Rk.rk (fun i k => t.e ((rwL G s l true i).getD k 0)) (s.length - l) (l + if true = true then 1 else 0) = y) := hid ((sys_e t s l true _).trans hy.symm)
    rw [← hx, ← hy] at hrk
    have HRK := hid hrk
    have H1 : Hid ((l : Int) = ((l + if false = true then 1 else 0 : Nat) : Int)) := hid (by simp)
    have H2 : Hid ((l : Int) + 1 = ((l + if true = true then 1 else 0 : Nat) : Int)) := hid (by simp)
    have hb1 : l + (if false = true then 1 else 0) ≤ 10000 := by simp; omega
    have hb2 : l + (if true = true then 1 else 0) ≤ 10000 := by simp; omega
    have hwl := hkw.size
    have w1' : IntKind.i64.wrap ((l : Int) + 1) = (l : Int) + 1 := IntWalk.i64_in _ (by omega)
    have w2' : (l : Int) + 1 ≤ 1001 := by omega
    clear hx hy hrk
    by_cases hlX : l = X
    · have hxy : x = y := HRK.out.2 (by rw [hlX]; exact HCX.out.ex)
      subst hxy
      have HLX := hid hlX
      clear hlX
      go_wp2_with (fail)
      have hkc := Kept.rfl' wr
      go_region_held3 (fun w' => w'.cell? ⟨w.heap.size, 0, none⟩ = some (.int .i64 P) ∧ w'.cell? ⟨w.heap.size, 1, none⟩ = some (.int .i64 M) ∧ w'.cell? ⟨w.heap.size, 2, none⟩ = some vm) (first | (simp [go_sem]; done) | (simp [*]; done))
        (first
          | (go_at_call 37; (with_reducible refine (rSys_s G t P M mod vm _ s l false _ ho (svw.kept (by first | exact hkc | exact hkc.tr (kept_drew _) | exact hkc.tr (kept_drewN _ _))) hln ns).mono ?_); rintro e wx ⟨v1, lo1, hi1, rfl, hA1, sm1, kx⟩; have hA1' : wr.heap.size ≤ lo1 := Nat.le_trans (Below.size (show Kept wr _ from (by first | exact hkc | exact hkc.tr (kept_drew _) | exact hkc.tr (kept_drewN _ _)))) hA1; (first | (have hdd := Nat.le_trans (sm2.kept (by first | exact Kept.rfl' _ | exact kept_alloc _ _ | exact kept_drew _ | exact kept_drewN _ _ | exact (kept_drew _).drewN _)).2.1 hA1) | skip); (first | (have sm2 := (sm2.kept (by first | exact Kept.rfl' _ | exact kept_alloc _ _ | exact kept_drew _ | exact kept_drewN _ _ | exact (kept_drew _).drewN _)).kept kx) | skip); have hkn := Kept.tr (b := _) (by first | exact hkc | exact hkc.tr (kept_drew _) | exact hkc.tr (kept_drewN _ _)) kx; clear hkc kx; have hkc := hkn; clear hkn; have bxx := hbw.kept hkc; have d0 := bxx.h0; have d1 := bxx.h1; have d2 := bxx.h2)
          | (go_at_call 37; (with_reducible refine (rSys_s G t P M mod vm _ s l true _ ho (svw.kept (by first | exact hkc | exact hkc.tr (kept_drew _) | exact hkc.tr (kept_drewN _ _))) hln ns).mono ?_); rintro e wx ⟨v2, lo2, hi2, rfl, hA2, sm2, kx⟩; have hA2' : wr.heap.size ≤ lo2 := Nat.le_trans (Below.size (show Kept wr _ from (by first | exact hkc | exact hkc.tr (kept_drew _) | exact hkc.tr (kept_drewN _ _)))) hA2; (first | (have hdd := Nat.le_trans (sm1.kept (by first | exact Kept.rfl' _ | exact kept_alloc _ _ | exact kept_drew _ | exact kept_drewN _ _ | exact (kept_drew _).drewN _)).2.1 hA2) | skip); (first | (have sm1 := (sm1.kept (by first | exact Kept.rfl' _ | exact kept_alloc _ _ | exact kept_drew _ | exact kept_drewN _ _ | exact (kept_drew _).drewN _)).kept kx) | skip); have hkn := Kept.tr (b := _) (by first | exact hkc | exact hkc.tr (kept_drew _) | exact hkc.tr (kept_drewN _ _)) kx; clear hkc kx; have hkc := hkn; clear hkn; have bxx := hbw.kept hkc; have d0 := bxx.h0; have d1 := bxx.h1; have d2 := bxx.h2)
          | (go_at_call 36; (with_reducible refine (rRank_s G t P M mod vm w1 _ lo1 hi1 _ _ v1 l _ ho smv (hkw.tr (by first | exact hkc | exact hkc.tr (kept_drew _) | exact hkc.tr (kept_drewN _ _))) (Nat.le_trans hwl hA1') (by omega) hb1 H1 (sm1.kept (by first | exact Kept.rfl' _ | exact kept_alloc _ _ | exact kept_drew _ | exact kept_drewN _ _ | exact (kept_drew _).drewN _)) (rwL_bd t s l false _ _) _ HX).mono ?_); rintro e wx ⟨rfl, kx⟩; (first | (have sm2 := (sm2.kept (by first | exact Kept.rfl' _ | exact kept_alloc _ _ | exact kept_drew _ | exact kept_drewN _ _ | exact (kept_drew _).drewN _)).chg kx (by omega)) | skip); clear sm1; have sm1 := trivial; have hkn := kx.old (by first | exact hkc | exact hkc.tr (kept_drew _) | exact hkc.tr (kept_drewN _ _)) hA1'; clear hkc kx; have hkc := hkn; clear hkn; have bxx := hbw.kept hkc; have d0 := bxx.h0; have d1 := bxx.h1; have d2 := bxx.h2)
          | (go_at_call 36; (with_reducible refine (rRank_s G t P M mod vm w1 _ lo2 hi2 _ _ v2 (l + 1) _ ho smv (hkw.tr (by first | exact hkc | exact hkc.tr (kept_drew _) | exact hkc.tr (kept_drewN _ _))) (Nat.le_trans hwl hA2') (by omega) hb2 H2 (sm2.kept (by first | exact Kept.rfl' _ | exact kept_alloc _ _ | exact kept_drew _ | exact kept_drewN _ _ | exact (kept_drew _).drewN _)) (rwL_bd t s l true _ _) _ HY).mono ?_); rintro e wx ⟨rfl, kx⟩; (first | (have sm1 := (sm1.kept (by first | exact Kept.rfl' _ | exact kept_alloc _ _ | exact kept_drew _ | exact kept_drewN _ _ | exact (kept_drew _).drewN _)).chg kx (by omega)) | skip); clear sm2; have sm2 := trivial; have hkn := kx.old (by first | exact hkc | exact hkc.tr (kept_drew _) | exact hkc.tr (kept_drewN _ _)) hA2'; clear hkc kx; have hkc := hkn; clear hkn; have bxx := hbw.kept hkc; have d0 := bxx.h0; have d1 := bxx.h1; have d2 := bxx.h2))
      all_goals
        clear sm1 sm2
        go_wp2_with (fail)
        go_ret
        exact ⟨ret_int (by rw [HLX.out]), by first | exact hk0.tr (hkw.tr hkc) | exact (hk0.tr (hkw.tr hkc)).drew | exact (hk0.tr (hkw.tr hkc)).drewN _⟩
    · have hne : x ≠ y := fun e => by
        obtain ⟨c, hc⟩ := HRK.out.1 e
        have := HCX.out.least c l hc
        omega
      have txy : ((x : Int) != (y : Int)) = true := by simp; omega
      have txy2 : ((x : Int) == (y : Int)) = false := by simp; omega
      clear hne
      go_wp2_with (fail)
      have hkc := Kept.rfl' wr
      go_region_held3 (fun w' => w'.cell? ⟨w.heap.size, 0, none⟩ = some (.int .i64 P) ∧ w'.cell? ⟨w.heap.size, 1, none⟩ = some (.int .i64 M) ∧ w'.cell? ⟨w.heap.size, 2, none⟩ = some vm) (first | (simp [go_sem]; done) | (simp [*]; done))
        (first
          | (go_at_call 37; (with_reducible refine (rSys_s G t P M mod vm _ s l false _ ho (svw.kept (by first | exact hkc | exact hkc.tr (kept_drew _) | exact hkc.tr (kept_drewN _ _))) hln ns).mono ?_); rintro e wx ⟨v1, lo1, hi1, rfl, hA1, sm1, kx⟩; have hA1' : wr.heap.size ≤ lo1 := Nat.le_trans (Below.size (show Kept wr _ from (by first | exact hkc | exact hkc.tr (kept_drew _) | exact hkc.tr (kept_drewN _ _)))) hA1; (first | (have hdd := Nat.le_trans (sm2.kept (by first | exact Kept.rfl' _ | exact kept_alloc _ _ | exact kept_drew _ | exact kept_drewN _ _ | exact (kept_drew _).drewN _)).2.1 hA1) | skip); (first | (have sm2 := (sm2.kept (by first | exact Kept.rfl' _ | exact kept_alloc _ _ | exact kept_drew _ | exact kept_drewN _ _ | exact (kept_drew _).drewN _)).kept kx) | skip); have hkn := Kept.tr (b := _) (by first | exact hkc | exact hkc.tr (kept_drew _) | exact hkc.tr (kept_drewN _ _)) kx; clear hkc kx; have hkc := hkn; clear hkn; have bxx := hbw.kept hkc; have d0 := bxx.h0; have d1 := bxx.h1; have d2 := bxx.h2)
          | (go_at_call 37; (with_reducible refine (rSys_s G t P M mod vm _ s l true _ ho (svw.kept (by first | exact hkc | exact hkc.tr (kept_drew _) | exact hkc.tr (kept_drewN _ _))) hln ns).mono ?_); rintro e wx ⟨v2, lo2, hi2, rfl, hA2, sm2, kx⟩; have hA2' : wr.heap.size ≤ lo2 := Nat.le_trans (Below.size (show Kept wr _ from (by first | exact hkc | exact hkc.tr (kept_drew _) | exact hkc.tr (kept_drewN _ _)))) hA2; (first | (have hdd := Nat.le_trans (sm1.kept (by first | exact Kept.rfl' _ | exact kept_alloc _ _ | exact kept_drew _ | exact kept_drewN _ _ | exact (kept_drew _).drewN _)).2.1 hA2) | skip); (first | (have sm1 := (sm1.kept (by first | exact Kept.rfl' _ | exact kept_alloc _ _ | exact kept_drew _ | exact kept_drewN _ _ | exact (kept_drew _).drewN _)).kept kx) | skip); have hkn := Kept.tr (b := _) (by first | exact hkc | exact hkc.tr (kept_drew _) | exact hkc.tr (kept_drewN _ _)) kx; clear hkc kx; have hkc := hkn; clear hkn; have bxx := hbw.kept hkc; have d0 := bxx.h0; have d1 := bxx.h1; have d2 := bxx.h2)
          | (go_at_call 36; (with_reducible refine (rRank_s G t P M mod vm w1 _ lo1 hi1 _ _ v1 l _ ho smv (hkw.tr (by first | exact hkc | exact hkc.tr (kept_drew _) | exact hkc.tr (kept_drewN _ _))) (Nat.le_trans hwl hA1') (by omega) hb1 H1 (sm1.kept (by first | exact Kept.rfl' _ | exact kept_alloc _ _ | exact kept_drew _ | exact kept_drewN _ _ | exact (kept_drew _).drewN _)) (rwL_bd t s l false _ _) _ HX).mono ?_); rintro e wx ⟨rfl, kx⟩; (first | (have sm2 := (sm2.kept (by first | exact Kept.rfl' _ | exact kept_alloc _ _ | exact kept_drew _ | exact kept_drewN _ _ | exact (kept_drew _).drewN _)).chg kx (by omega)) | skip); clear sm1; have sm1 := trivial; have hkn := kx.old (by first | exact hkc | exact hkc.tr (kept_drew _) | exact hkc.tr (kept_drewN _ _)) hA1'; clear hkc kx; have hkc := hkn; clear hkn; have bxx := hbw.kept hkc; have d0 := bxx.h0; have d1 := bxx.h1; have d2 := bxx.h2)
          | (go_at_call 36; (with_reducible refine (rRank_s G t P M mod vm w1 _ lo2 hi2 _ _ v2 (l + 1) _ ho smv (hkw.tr (by first | exact hkc | exact hkc.tr (kept_drew _) | exact hkc.tr (kept_drewN _ _))) (Nat.le_trans hwl hA2') (by omega) hb2 H2 (sm2.kept (by first | exact Kept.rfl' _ | exact kept_alloc _ _ | exact kept_drew _ | exact kept_drewN _ _ | exact (kept_drew _).drewN _)) (rwL_bd t s l true _ _) _ HY).mono ?_); rintro e wx ⟨rfl, kx⟩; (first | (have sm1 := (sm1.kept (by first | exact Kept.rfl' _ | exact kept_alloc _ _ | exact kept_drew _ | exact kept_drewN _ _ | exact (kept_drew _).drewN _)).chg kx (by omega)) | skip); clear sm2; have sm2 := trivial; have hkn := kx.old (by first | exact hkc | exact hkc.tr (kept_drew _) | exact hkc.tr (kept_drewN _ _)) hA2'; clear hkc kx; have hkc := hkn; clear hkn; have bxx := hbw.kept hkc; have d0 := bxx.h0; have d1 := bxx.h1; have d2 := bxx.h2))
      all_goals
        clear sm1 sm2
        go_wp2_with (fail)
        go_roundw
        case rel => exact ⟨l + 1, by omega, by go_num, by first | exact hkw.tr hkc | exact (hkw.tr hkc).drew | exact (hkw.tr hkc).drewN _⟩
        case measure => simp [intOf]; omega
set_option maxRecDepth 100000 in
set_option maxHeartbeats 8000000 in
theorem rUniq_r (G : GFd) (t : Tabs G) (P M : Int) (mod : List Int) (vm : Value) (vs : Value) (s : List Int) (res : Bool) (w : World) (ho : Hid (Of G P M mod)) (hvm : Sl w vm mod) (hs : Sl w vs s) (ns : s.length ≤ 1000) (hr : BIf res (2 * Pl.cx (t.po s) s.length ≤ s.length)) :
    Calls Try.prog 27 #[.agg #[.int .i64 P, .int .i64 M, vm], vs] w fun e w' => e = .returned (.bool res) ∧ Kept w w' := by
  have hk0 := kept_alloc w (.cells #[.int .i64 P, .int .i64 M, vm] 24)
  have hbx := boxF_new w P M vm 24
  have smv := hvm.kept hk0
  have svs := hs.kept hk0
  have HZ1 : (w.alloc (.cells #[.int .i64 P, .int .i64 M, vm] 24)).heap.size = w.heap.size + 1 := by simp
  have HZ1 := hid HZ1
  obtain ⟨w1, hw1⟩ : ∃ w1, w1 = w.alloc (.cells #[.int .i64 P, .int .i64 M, vm] 24) := ⟨_, rfl⟩
  rw [← hw1] at hk0 hbx smv HZ1 svs
  have hr : res = true ↔ _ := hr
  have hcx := Pl.cx_is (t.po s) s.length
  have hcl := Pl.cx_len (t.po s) s.length
  obtain ⟨l, hX⟩ : ∃ X, X = Pl.cx (t.po s) s.length := ⟨_, rfl⟩
  have HXX : Hid (Pl.cx (t.po s) s.length = l) := hid hX.symm
  rw [← hX] at hcx hcl hr
  have hun := Rk.sys_unique hcx hcl
  obtain ⟨x, hx⟩ : ∃ x, x = Rk.rk (Rk.sys (t.po s) l) (s.length - l) l := ⟨_, rfl⟩
  have HX : Hid (Rk.rk (fun i k => t.e ((rwL G s l false i).getD k 0)) (s.length - l) (l + if false = true then 1 else 0) = x) := hid ((sys_e t s l false _).trans hx.symm)
  rw [← hx] at hun
  have HR : Hid (((x : Int) == (l : Int)) = res) := hid (by
    cases hres : res with
    | true =>
      have := hun.2 (hr.1 hres)
      simp; omega
    | false =>
      have : x ≠ l := fun e => by rw [hr.2 (hun.1 e)] at hres; cases hres
      simp; omega)
  have H1 : Hid ((l : Int) = ((l + if false = true then 1 else 0 : Nat) : Int)) := hid (by simp)
  have hb1 : l + (if false = true then 1 else 0) ≤ 10000 := by simp; omega
  have hln : l ≤ s.length := hcl
  clear hs hX hcx hx hun hr
  go_enter Try.func27, Try.ntmps27
  go_wp2_with (fail)
  rw [← hw1]
  clear hw1
  have hbw := hbx
  have c0 := hbw.h0
  have c1 := hbw.h1
  have c2 := hbw.h2
  have hkc := Kept.rfl' w1
  go_wp2_with (go_at_call 17; (with_reducible refine (rCx_r G t P M mod vm _ s _ ho (smv.kept (by first | exact hkc | exact hkc.tr (kept_drew _) | exact hkc.tr (kept_drewN _ _))) (svs.kept (by first | exact hkc | exact hkc.tr (kept_drew _) | exact hkc.tr (kept_drewN _ _))) ns).mono ?_); rintro e wx ⟨rfl, kx⟩; rw [HXX.out]; have hkn := Kept.tr (b := _) (by first | exact hkc | exact hkc.tr (kept_drew _) | exact hkc.tr (kept_drewN _ _)) kx; clear hkc kx; have hkc := hkn; clear hkn; have bxx := hbw.kept hkc; have d0 := bxx.h0; have d1 := bxx.h1; have d2 := bxx.h2)
  obtain ⟨wr, hwr⟩ : ∃ x, x = wx := ⟨_, rfl⟩
  rw [← hwr] at hkc ⊢
  have hkw := hkc
  clear hkc d0 d1 d2 bxx hwr
  have hbw := hbx.kept hkw
  have d0 := hbw.h0
  have d1 := hbw.h1
  have d2 := hbw.h2
  have svw := svs.kept hkw
  have hwl := hkw.size
  have hkc := Kept.rfl' wr
  go_region_held3 (fun w' => w'.cell? ⟨w.heap.size, 0, none⟩ = some (.int .i64 P) ∧ w'.cell? ⟨w.heap.size, 1, none⟩ = some (.int .i64 M) ∧ w'.cell? ⟨w.heap.size, 2, none⟩ = some vm) (first | (simp [go_sem]; done) | (simp [*]; done))
    (first
      | (go_at_call 37; (with_reducible refine (rSys_s G t P M mod vm _ s l false _ ho (svw.kept (by first | exact hkc | exact hkc.tr (kept_drew _) | exact hkc.tr (kept_drewN _ _))) hln ns).mono ?_); rintro e wx ⟨v1, lo1, hi1, rfl, hA1, sm1, kx⟩; have hA1' : wr.heap.size ≤ lo1 := Nat.le_trans (Below.size (show Kept wr _ from (by first | exact hkc | exact hkc.tr (kept_drew _) | exact hkc.tr (kept_drewN _ _)))) hA1; (first | (have hdd := Nat.le_trans (sm2.kept (by first | exact Kept.rfl' _ | exact kept_alloc _ _ | exact kept_drew _ | exact kept_drewN _ _ | exact (kept_drew _).drewN _)).2.1 hA1) | skip); (first | (have sm2 := (sm2.kept (by first | exact Kept.rfl' _ | exact kept_alloc _ _ | exact kept_drew _ | exact kept_drewN _ _ | exact (kept_drew _).drewN _)).kept kx) | skip); have hkn := Kept.tr (b := _) (by first | exact hkc | exact hkc.tr (kept_drew _) | exact hkc.tr (kept_drewN _ _)) kx; clear hkc kx; have hkc := hkn; clear hkn; have bxx := hbw.kept hkc; have d0 := bxx.h0; have d1 := bxx.h1; have d2 := bxx.h2)
      | (go_at_call 36; (with_reducible refine (rRank_s G t P M mod vm w1 _ lo1 hi1 _ _ v1 l _ ho smv (hkw.tr (by first | exact hkc | exact hkc.tr (kept_drew _) | exact hkc.tr (kept_drewN _ _))) (Nat.le_trans hwl hA1') (by omega) hb1 H1 (sm1.kept (by first | exact Kept.rfl' _ | exact kept_alloc _ _ | exact kept_drew _ | exact kept_drewN _ _ | exact (kept_drew _).drewN _)) (rwL_bd t s l false _ _) _ HX).mono ?_); rintro e wx ⟨rfl, kx⟩; (first | (have sm2 := (sm2.kept (by first | exact Kept.rfl' _ | exact kept_alloc _ _ | exact kept_drew _ | exact kept_drewN _ _ | exact (kept_drew _).drewN _)).chg kx (by omega)) | skip); clear sm1; have sm1 := trivial; have hkn := kx.old (by first | exact hkc | exact hkc.tr (kept_drew _) | exact hkc.tr (kept_drewN _ _)) hA1'; clear hkc kx; have hkc := hkn; clear hkn; have bxx := hbw.kept hkc; have d0 := bxx.h0; have d1 := bxx.h1; have d2 := bxx.h2))
  all_goals
    go_wp2_with (fail)
    go_ret
    exact ⟨ret_bool (by first | exact HR.out | (have := HR.out; simpa using this)), by first | exact hk0.tr (hkw.tr hkc) | exact (hk0.tr (hkw.tr hkc)).drew | exact (hk0.tr (hkw.tr hkc)).drewN _⟩
end Go.Proofs.Ytmakdclgpeochaa
