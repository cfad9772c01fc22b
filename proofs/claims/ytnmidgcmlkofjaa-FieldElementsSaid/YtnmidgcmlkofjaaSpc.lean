/- A field's tables, in plain terms. -/
import Derived.Test.YtnmidgcmlkofjaaSpb
namespace Cw

/-- What a field in memory holds. -/
structure GFd where
  P : Int
  M : Int
  q : Int
  mod : List Int
  exp : List Int
  log : List Int

/-- The tables are those of a field. -/
structure Tabs (G : GFd) : Prop where
  shape : ShapeP G.P G.M G.mod
  hq : G.q = ordS G.P G.M
  gen : ∃ x, 1 ≤ x ∧ x < G.q ∧ IsGen G.P G.M.toNat G.mod G.q.toNat x ∧ G.exp = powL G.P G.M.toNat G.mod x
  llen : G.log.length = G.q.toNat
  log : ∀ i, i < G.exp.length → G.log.getD (G.exp.getD i 0).toNat 0 = i

theorem powsF_nodup {f : Int → Int} (n : Nat) (acc : List Int) (y : Int) (ha : acc.Nodup) : (powsF f n acc y).Nodup := by
  induction n generalizing acc y with
  | zero => exact ha
  | succ n ih =>
    rw [powsF]
    split
    · exact ha
    · rename_i h
      refine ih _ _ ?_
      rw [List.nodup_append]
      refine ⟨ha, by simp, fun a hm b hb => ?_⟩
      rw [List.mem_singleton.1 hb]
      rintro rfl
      exact h (.inr hm)
theorem powL_nodup (p : Int) (m : Nat) (mod : List Int) (x : Int) : (powL p m mod x).Nodup := powsF_nodup _ _ _ (by simp)
/-- No power is 0. -/
theorem powsF_nz {f : Int → Int} (n : Nat) (acc : List Int) (y : Int) (ha : ∀ z ∈ acc, z ≠ 0) : ∀ z ∈ powsF f n acc y, z ≠ 0 := by
  induction n generalizing acc y with
  | zero => exact ha
  | succ n ih =>
    rw [powsF]
    split
    · exact ha
    · rename_i h
      refine ih _ _ (fun z hz => ?_)
      rcases List.mem_append.1 hz with g | g
      · exact ha z g
      · rw [List.mem_singleton.1 g]; exact fun e => h (.inl e)
theorem powL_nz (p : Int) (m : Nat) (mod : List Int) (x : Int) : ∀ z ∈ powL p m mod x, z ≠ 0 := powsF_nz _ _ _ (by simp)
theorem nodup_getD {l : List Int} (h : l.Nodup) {i j : Nat} (hi : i < l.length) (hj : j < l.length) (e : l.getD i 0 = l.getD j 0) : i = j := by
  simp only [List.getD, List.getElem?_eq_getElem hi, List.getElem?_eq_getElem hj, Option.getD_some] at e
  exact (List.getElem_inj h).1 e
/-- One entry more of the table of logarithms. -/
theorem log_step {ex lg : List Int} {q k : Nat} (hn : ex.Nodup) (hb : ∀ z ∈ ex, 0 ≤ z ∧ z < (q : Int)) (hl : lg.length = q) (hk : k < ex.length) (h : ∀ i, i < k → lg.getD (ex.getD i 0).toNat 0 = i) :
    ∀ i, i < k + 1 → (lg.set (ex.getD k 0).toNat k).getD (ex.getD i 0).toNat 0 = i := fun i hi => by
  have hm : ∀ j, j < ex.length → 0 ≤ ex.getD j 0 ∧ ex.getD j 0 < (q : Int) := fun j hj => hb _ (by
    simp only [List.getD, List.getElem?_eq_getElem hj, Option.getD_some]; exact List.getElem_mem _)
  have h1 := hm k hk
  have h2 := hm i (by omega)
  by_cases e : i = k
  · subst e
    rw [List.getD, List.getElem?_set_self (by omega)]
    rfl
  · have hne : (ex.getD k 0).toNat ≠ (ex.getD i 0).toNat := fun he => e (nodup_getD hn (by omega) hk (by omega))
    rw [List.getD, List.getElem?_set_ne hne]
    exact h i (by omega)
end Cw
