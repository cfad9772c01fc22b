/- The walk of the laws' short; words for the walks of laws. No conditions. -/
import Derived.Test.YtmakdclgpeochaaNc
import Derived.Test.YtmakdclgpeochaaKg
namespace Go.Proofs.Ytmakdclgpeochaa
open Go.RowKit Cw

/-- The world in which the walk stands. -/
def Cur (_ : World) : Prop := True
theorem Kept.from {c a b : World} (_ : Cur c) (h : Kept c a) (k : Kept a b) : Kept c b := h.tr k
theorem cur (w : World) : Cur w := trivial
/-- What a field's description and its field in memory give, in one world. -/
structure Fw (w : World) (b : Nat) (G : GFd) (bx : Nat) (P M : Int) (vm : Value) (mod : List Int) : Prop where
  g : IsGF w b G
  b : BoxF w bx P M vm
  m : Sl w vm mod
theorem Fw.kept {w w' : World} {b bx : Nat} {G : GFd} {P M : Int} {vm : Value} {mod : List Int} (h : Fw w b G bx P M vm mod) (k : Kept w w') : Fw w' b G bx P M vm mod := ⟨h.g.kept k, h.b.kept k, h.m.kept k⟩
theorem sll_one (w : World) (a1 : Option Addr) (c1 : Nat) (l1 : List Int) (T : TypeId) (h1 : Sl w (.slice a1 l1.length c1) l1) :
    SlL (w.alloc (.cells #[.slice a1 l1.length c1] T)) (.slice (some ⟨w.heap.size, 0, none⟩) 1 1) [l1] := by
  have k := kept_alloc w (.cells #[.slice a1 l1.length c1] T)
  refine ⟨_, 1, rfl, by simp, by unfold maxLen; omega, fun _ => ⟨_, 0, rfl, by simp, fun i hi => ?_⟩⟩
  obtain rfl : i = 0 := by simp at hi; omega
  exact ⟨a1, c1, by simp, h1.kept k⟩
theorem sll_three (w : World) (a1 a2 a3 : Option Addr) (c1 c2 c3 : Nat) (l1 l2 l3 : List Int) (T : TypeId) (h1 : Sl w (.slice a1 l1.length c1) l1) (h2 : Sl w (.slice a2 l2.length c2) l2) (h3 : Sl w (.slice a3 l3.length c3) l3) :
    SlL (w.alloc (.cells #[.slice a1 l1.length c1, .slice a2 l2.length c2, .slice a3 l3.length c3] T)) (.slice (some ⟨w.heap.size, 0, none⟩) 3 3) [l1, l2, l3] := by
  have k := kept_alloc w (.cells #[.slice a1 l1.length c1, .slice a2 l2.length c2, .slice a3 l3.length c3] T)
  refine ⟨_, 3, rfl, by simp, by unfold maxLen; omega, fun _ => ⟨_, 0, rfl, by simp, fun i hi => ?_⟩⟩
  have : i = 0 ∨ i = 1 ∨ i = 2 := by simp at hi; omega
  rcases this with rfl | rfl | rfl
  · exact ⟨a1, c1, by simp, h1.kept k⟩
  · exact ⟨a2, c2, by simp, h2.kept k⟩
  · exact ⟨a3, c3, by simp, h3.kept k⟩
/-- All lists have at most 24 entries. -/
def Shrt (ls : List (List Int)) : Prop := ∀ l ∈ ls, l.length ≤ 24
theorem shrt_at {ls : List (List Int)} (h : Shrt ls) {i : Nat} (hi : i < ls.length) : (ls.getD i []).length ≤ 24 := by
  simp only [List.getD, List.getElem?_eq_getElem hi, Option.getD_some]
  exact h _ (List.getElem_mem _)
theorem shrt_no : ∀ {ls : List (List Int)}, ¬ Shrt ls → ∃ j, j < ls.length ∧ (∀ i, i < j → (ls.getD i []).length ≤ 24) ∧ 24 < (ls.getD j []).length
  | [], h => absurd (fun l hl => absurd hl (by simp)) h
  | l :: ls, h => by
    by_cases h0 : l.length ≤ 24
    · obtain ⟨j, h1, h2, h3⟩ := shrt_no (ls := ls) (fun k => h (fun x hx => by
        rcases List.mem_cons.1 hx with e | e
        · rw [e]; exact h0
        · exact k x e))
      refine ⟨j + 1, by simp; omega, fun i hi => ?_, h3⟩
      cases i with
      | zero => exact h0
      | succ i => exact h2 i (by omega)
    · exact ⟨0, by simp, fun i hi => by omega, by show 24 < l.length; omega⟩
theorem short_r (v : Value) (ls : List (List Int)) (w : World) (hv : SlL w v ls) (r : Bool) (hr : (r = true ∧ Shrt ls) ∨ (r = false ∧ ¬ Shrt ls)) :
    Calls Try.prog 15 #[v] w fun e w' => e = .returned (.bool r) ∧ Kept w w' := by
  have HV := hid hv
  obtain ⟨a, cap, rfl, hcap, hcm, _⟩ := hv
  unfold maxLen at hcm
  obtain ⟨N, hN⟩ : ∃ N, N = ls.length := ⟨_, rfl⟩
  have H : Hid (∃ m, m ≤ ls.length ∧ (∀ i, i < m → (ls.getD i []).length ≤ 24) ∧ ((r = true ∧ m = ls.length) ∨ (r = false ∧ m < ls.length ∧ 24 < (ls.getD m []).length))) := hid (by
    rcases hr with ⟨h1, h2⟩ | ⟨h1, h2⟩
    · exact ⟨ls.length, Nat.le_refl _, fun i hi => shrt_at h2 hi, .inl ⟨h1, rfl⟩⟩
    · obtain ⟨j, g1, g2, g3⟩ := shrt_no h2
      exact ⟨j, by omega, g2, .inr ⟨h1, g1, g3⟩⟩)
  obtain ⟨m, hm, hlo, hend⟩ := H.out
  have HL := hid hlo
  have HE := hid hend
  clear H hr hlo hend hN N
  go_enter Try.func15, Try.ntmps15
  go_wp2_with (fail)
  go_loopw [7] (fun vi wr => ∃ k : Nat, k ≤ m ∧ vi = .int .i64 k ∧ Kept w wr) (fun vi _ => ls.length - (intOf vi).toNat)
  case atStart => exact ⟨0, by omega, rfl, Kept.rfl' _⟩
  case round =>
    obtain ⟨k, hk, rfl, hkw⟩ := hrel
    by_cases hlt : k < ls.length
    · obtain ⟨a2, cap2, e2, _, _, hcc⟩ := HV.out.kept hkw
      cases e2
      obtain ⟨bb, off, e3, hbb, hcell⟩ := hcc (by intro e; rw [e] at hlt; simp at hlt)
      cases e3
      obtain ⟨a', c', hck, hsl⟩ := hcell k hlt
      obtain ⟨n, hn⟩ : ∃ n, n = (ls.getD k []).length := ⟨_, rfl⟩
      rw [← hn] at hck hsl
      have HN := hid hn
      have hki : (k : Int) < (ls.length : Int) := by omega
      have k0 : (0 : Int) ≤ (k : Int) := by omega
      clear hn hcell hcc hsl
      by_cases hkm : k < m
      · have hn24 : (n : Int) ≤ 24 := by have := HL.out k hkm; have := HN.out; omega
        go_wp2_with (fail)
        go_roundw
        case rel => exact ⟨k + 1, by omega, by go_num, hkw⟩
        case measure => simp [intOf]; omega
      · obtain rfl : k = m := by omega
        have hn24 : (24 : Int) < (n : Int) := by
          rcases HE.out with ⟨_, h2⟩ | ⟨_, _, h3⟩
          · omega
          · have := HN.out; omega
        have HR : Hid (r = false) := hid (by
          rcases HE.out with ⟨_, h2⟩ | ⟨h1, _⟩
          · omega
          · exact h1)
        clear hkm
        go_wp2_with (fail)
        go_ret
        exact ⟨ret_bool HR.out.symm, hkw⟩
    · have HR : Hid (r = true) := hid (by
        rcases HE.out with ⟨h1, _⟩ | ⟨_, h2, _⟩
        · exact h1
        · omega)
      have hge : (ls.length : Int) ≤ (k : Int) := by omega
      clear hlt
      go_wp2_with (fail)
      go_ret
      exact ⟨ret_bool HR.out.symm, hkw⟩
/-- The Bool says whether p holds. -/
def BIff (b : Bool) (p : Prop) : Prop := b = true ↔ p
theorem Sl.addr {w : World} {a : Option Addr} {n cap : Nat} {xs : List Int} (h : Sl w (.slice a n cap) xs) : ∀ ad, a = some ad → ∀ j, j < xs.length → w.cell? (ad.add j) = some (.int .i64 (xs.getD j 0)) := fun ad e j hj => by
  obtain ⟨_, _, e1, _, _, hc⟩ := h
  cases e1
  subst e
  obtain ⟨b, off, e2, _, hcell⟩ := hc (by intro e; rw [e] at hj; simp at hj)
  cases e2
  rw [Addr.add_lit]
  exact hcell j hj
theorem Sl.nn {w : World} {a : Option Addr} {n cap : Nat} {xs : List Int} (h : Sl w (.slice a n cap) xs) : (a = none → cap = 0) ∧ (xs ≠ [] → a ≠ none) := by
  obtain ⟨_, _, e1, _, ⟨_, h1⟩, hc⟩ := h
  cases e1
  exact ⟨h1, fun hne e => by obtain ⟨_, _, e2, _⟩ := hc hne; rw [e] at e2; cases e2⟩
theorem can_single {G : GFd} {x : Int} (h : 0 ≤ x ∧ x < G.q) (h0 : x ≠ 0) : Cano G [x] := ⟨fun y hy => by rw [List.mem_singleton.1 hy]; exact h, fun _ => h0⟩
theorem own_one' (w : World) (x : Int) : Sl (w.alloc (.cells #[.int .i64 x] 3)) (.slice (some ⟨w.heap.size, 0, none⟩) 1 1) [x] := (own_one (w := w) (B := 0) (Nat.zero_le _)).sl
theorem same_eq (v v' : Value) (l l' : List Int) (w : World) (hv : Sl w v l) (hv' : Sl w v' l') (h : l = l') :
    Calls Try.prog 19 #[v, v'] w fun e w' => e = .returned (.bool true) ∧ Kept w w' :=
  (sameL_any v v' l l' w hv hv' true (by simpa using h)).mono fun _ _ ⟨he, m, hw⟩ => ⟨he, by rw [hw]; exact kept_drewN _ _⟩
end Go.Proofs.Ytmakdclgpeochaa
