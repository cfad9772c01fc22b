/- The walk of the laws' made (chapter 05). No conditions. The walk of the laws' alive (chapter 05). No conditions. The walk of the laws' alive (chapter 05). No conditions. The walk of the laws' short; words for the walks of laws. No conditions. A cell of a boxed argument. No conditions. -/
import Derived.Test.YtmnbcnbhnclkhaaRd
import Derived.Test.YtmnbcnbhnclkhaaMcA
import Derived.Test.YtmnbcnbhnclkhaaMqA
import Derived.Test.YtmnbcnbhnclkhaaKw
import Derived.Test.YtmnbcnbhnclkhaaSd
import Derived.Test.YtmnbcnbhnclkhaaKg
namespace Go.Proofs.Ytmnbcnbhnclkhaa
open Go.RowKit Cw

theorem new_none (P M : Int) (vm : Value) (mod : List Int) (w : World) (hvm : Sl w vm mod) (hn : ¬ FieldP P M mod) :
    Calls Try.prog 41 #[.agg #[.int .i64 P, .int .i64 M, vm]] w fun e w' => e = .returned (.tuple #[.pointer none, .int .i64 1]) ∧ Kept w w' := by
  by_cases hs : ShapeP P M mod
  · exact new_noField P M vm mod w hvm hs hn
  · exact new_noShape P M vm mod w hvm hs

theorem made5_yes (P M : Int) (vm : Value) (mod : List Int) (w : World) (hvm : Sl w vm mod) (hf : FieldP P M mod) :
    Calls Try.prog 14 #[.agg #[.int .i64 P, .int .i64 M, vm]] w fun e w' => ∃ b G, e = .returned (.pointer (some ⟨b, 0, none⟩)) ∧ IsGF w' b G ∧ Tabs G ∧ G.P = P ∧ G.M = M ∧ G.mod = mod ∧ Kept w w' := by
  have hk0 := kept_alloc w (.cells #[.int .i64 P, .int .i64 M, vm] 24)
  have hbx := boxF_new w P M vm 24
  have HF := hid hf
  clear hf
  go_enter Try.func14, Try.ntmps14
  go_wp2_with (first
    | (go_at_call 40; (with_reducible refine (rCheck_any P M vm mod _ (hvm.kept hk0) 0 (.inl ⟨(field_check P M mod).1 HF.out, rfl⟩)).mono ?_); rintro e w2 ⟨rfl, k2⟩; have bx1 := hbx.kept k2; have c0 := bx1.h0; have c1 := bx1.h1; have c2 := bx1.h2)
    | (go_at_call 41; (with_reducible refine (new_field P M vm mod _ ((hvm.kept hk0).kept k2) HF.out).mono ?_); rintro e w1 ⟨b, G, rfl, g1, t1, p1, m1, o1, k1⟩))
  go_ret
  exact ⟨b, G, rfl, g1, t1, p1, m1, o1, (hk0.tr k2).tr k1⟩

theorem made5_no (P M : Int) (vm : Value) (mod : List Int) (w : World) (hvm : Sl w vm mod) (hn : ¬ FieldP P M mod) :
    Calls Try.prog 14 #[.agg #[.int .i64 P, .int .i64 M, vm]] w fun e w' => e = .returned (.pointer none) ∧ Kept w w' := by
  have hk0 := kept_alloc w (.cells #[.int .i64 P, .int .i64 M, vm] 24)
  have HN := hid (show ¬ CheckP P M mod from fun h => hn ((field_check P M mod).2 h))
  clear hn
  go_enter Try.func14, Try.ntmps14
  go_wp2_with (go_at_call 40; (with_reducible refine (rCheck_any P M vm mod _ (hvm.kept hk0) 1 (.inr ⟨HN.out, rfl⟩)).mono ?_); rintro e w2 ⟨rfl, k2⟩)
  go_ret
  exact ⟨rfl, hk0.tr k2⟩
end Go.Proofs.Ytmnbcnbhnclkhaa
namespace Go.Proofs.Ytmnbcnbhnclkhaa
open Go.RowKit Cw

theorem can5 {G : GFd} (hq : G.q = 5) : Cano G [1, 2, 1] ∧ Cano G [3] ∧ Cano G [3, 1] := by
  refine ⟨⟨fun x hx => ?_, fun _ => by simp⟩, ⟨fun x hx => ?_, fun _ => by simp⟩, ⟨fun x hx => ?_, fun _ => by simp⟩⟩ <;> simp at hx <;> omega
theorem can2 {G : GFd} (hq : G.q = 2) : Cano G [1, 0, 0, 1] := by
  refine ⟨fun x hx => ?_, fun _ => by simp⟩
  simp at hx; omega
/-- The quotient and the remainder of the example. -/
theorem div5 {G : GFd} (t : Tabs G) (h1 : G.P = 5) (h2 : G.M = 1) (h3 : G.mod = []) {lu lr : List Int} (hu : Cano G lu) (hr : Cano G lr) (h : t.po [1, 2, 0, 1] = t.po lu * t.po [3, 1] + t.po lr) (hd : ∀ d, PS.dl (t.po [3, 1]) (d + 1) → lr.length ≤ d) :
    lu = [1, 2, 1] ∧ lr = [3] := by
  obtain ⟨e, hq⟩ := ex5 t h1 h2 h3
  obtain ⟨c1, c2, c3⟩ := can5 hq
  have hl : PS.dl (t.po [3, 1]) (1 + 1) := t.po_dl [3, 1]
  have h0 : t.po [3, 1] 1 ≠ 0 := t.can_top c3 (by simp)
  have hlr := hd 1 hl
  obtain ⟨a1, a2⟩ := PS.div_unique hl h0 (t.po_dl lu) (t.po_dl [1, 2, 1]) (t.po_dl' hlr) (t.po_dl' (l := [3]) (n := 1) (by simp)) (h.symm.trans e)
  exact ⟨t.can_inj hu c1 a1, t.can_inj hr c2 a2⟩
theorem mul2 {G : GFd} (t : Tabs G) (h1 : G.P = 2) (h2 : G.M = 1) (h3 : G.mod = []) {l : List Int} (hl : Cano G l) (h : t.po l = prF t [[1, 1, 1], [1, 1]] 2) : l = [1, 0, 0, 1] := by
  obtain ⟨e, hq⟩ := ex2 t h1 h2 h3
  refine t.can_inj hl (can2 hq) ?_
  rw [h, e]
  show 1 * t.po [1, 1, 1] * t.po [1, 1] = _
  rw [Rg.one_mul]
end Go.Proofs.Ytmnbcnbhnclkhaa
namespace Go.Proofs.Ytmnbcnbhnclkhaa
open Go.RowKit Cw

theorem sll_two (w : World) (a1 a2 : Option Addr) (c1 c2 : Nat) (l1 l2 : List Int) (T : TypeId) (h1 : Sl w (.slice a1 l1.length c1) l1) (h2 : Sl w (.slice a2 l2.length c2) l2) :
    SlL (w.alloc (.cells #[.slice a1 l1.length c1, .slice a2 l2.length c2] T)) (.slice (some ⟨w.heap.size, 0, none⟩) 2 2) [l1, l2] := by
  have k := kept_alloc w (.cells #[.slice a1 l1.length c1, .slice a2 l2.length c2] T)
  refine ⟨_, 2, rfl, by simp, by unfold maxLen; omega, fun _ => ⟨_, 0, rfl, by simp, fun i hi => ?_⟩⟩
  have : i = 0 ∨ i = 1 := by simp at hi; omega
  rcases this with rfl | rfl
  · exact ⟨a1, c1, by simp, h1.kept k⟩
  · exact ⟨a2, c2, by simp, h2.kept k⟩

end Go.Proofs.Ytmnbcnbhnclkhaa
namespace Go.Proofs.Ytmnbcnbhnclkhaa
open Go.RowKit Cw

/-- The world in which the walk stands. -/
def Cur (_ : World) : Prop := True
theorem Kept.from {c a b : World} (_ : Cur c) (h : Kept c a) (k : Kept a b) : Kept c b := h.tr k
theorem cur (w : World) : Cur w := trivial
/-- What a field's description and its field in memory give, in one world. -/
structure Fw (w : World) (b : Nat) (G : GFd) (bx : Nat) (P M : Int) (vm : Value) (mod : List Int) : Prop where
  g : IsGF w b G
  b : BoxF w bx P M vm
  m : Sl w vm mod
theorem Fw.kept {w w' : World} {b bx : Nat} {G : GFd} {P M : Int} {vm : Value} {mod : List Int} (h : Fw w b G bx P M vm mod) (k : Kept w w') : Fw w' b G bx P M vm mod := ⟨h.g.kept k, h.b.kept k, h.m.kept k⟩
theorem sll_one (w : World) (a1 : Option Addr) (c1 : Nat) (l1 : List Int) (T : TypeId) (h1 : Sl w (.slice a1 l1.length c1) l1) :
    SlL (w.alloc (.cells #[.slice a1 l1.length c1] T)) (.slice (some ⟨w.heap.size, 0, none⟩) 1 1) [l1] := by
  have k := kept_alloc w (.cells #[.slice a1 l1.length c1] T)
  refine ⟨_, 1, rfl, by simp, by unfold maxLen; omega, fun _ => ⟨_, 0, rfl, by simp, fun i hi => ?_⟩⟩
  obtain rfl : i = 0 := by simp at hi; omega
  exact ⟨a1, c1, by simp, h1.kept k⟩
theorem sll_three (w : World) (a1 a2 a3 : Option Addr) (c1 c2 c3 : Nat) (l1 l2 l3 : List Int) (T : TypeId) (h1 : Sl w (.slice a1 l1.length c1) l1) (h2 : Sl w (.slice a2 l2.length c2) l2) (h3 : Sl w (.slice a3 l3.length c3) l3) :
    SlL (w.alloc (.cells #[.slice a1 l1.length c1, .slice a2 l2.length c2, .slice a3 l3.length c3] T)) (.slice (some ⟨w.heap.size, 0, none⟩) 3 3) [l1, l2, l3] := by
  have k := kept_alloc w (.cells #[.slice a1 l1.length c1, .slice a2 l2.length c2, .slice a3 l3.length c3] T)
  refine ⟨_, 3, rfl, by simp, by unfold maxLen; omega, fun _ => ⟨_, 0, rfl, by simp, fun i hi => ?_⟩⟩
  have : i = 0 ∨ i = 1 ∨ i = 2 := by simp at hi; omega
  rcases this with rfl | rfl | rfl
  · exact ⟨a1, c1, by simp, h1.kept k⟩
  · exact ⟨a2, c2, by simp, h2.kept k⟩
  · exact ⟨a3, c3, by simp, h3.kept k⟩
/-- All lists have at most 20 entries. -/
def Shrt (ls : List (List Int)) : Prop := ∀ l ∈ ls, l.length ≤ 20
theorem shrt_at {ls : List (List Int)} (h : Shrt ls) {i : Nat} (hi : i < ls.length) : (ls.getD i []).length ≤ 20 := by
  simp only [List.getD, List.getElem?_eq_getElem hi, Option.getD_some]
  exact h _ (List.getElem_mem _)
theorem shrt_no : ∀ {ls : List (List Int)}, ¬ Shrt ls → ∃ j, j < ls.length ∧ (∀ i, i < j → (ls.getD i []).length ≤ 20) ∧ 20 < (ls.getD j []).length
  | [], h => absurd (fun l hl => absurd hl (by simp)) h
  | l :: ls, h => by
    by_cases h0 : l.length ≤ 20
    · obtain ⟨j, h1, h2, h3⟩ := shrt_no (ls := ls) (fun k => h (fun x hx => by
        rcases List.mem_cons.1 hx with e | e
        · rw [e]; exact h0
        · exact k x e))
      refine ⟨j + 1, by simp; omega, fun i hi => ?_, h3⟩
      cases i with
      | zero => exact h0
      | succ i => exact h2 i (by omega)
    · exact ⟨0, by simp, fun i hi => by omega, by show 20 < l.length; omega⟩
theorem short_r (v : Value) (ls : List (List Int)) (w : World) (hv : SlL w v ls) (r : Bool) (hr : (r = true ∧ Shrt ls) ∨ (r = false ∧ ¬ Shrt ls)) :
    Calls Try.prog 15 #[v] w fun e w' => e = .returned (.bool r) ∧ Kept w w' := by
  have HV := hid hv
  obtain ⟨a, cap, rfl, hcap, hcm, _⟩ := hv
  unfold maxLen at hcm
  obtain ⟨N, hN⟩ : ∃ N, N = ls.length := ⟨_, rfl⟩
  have H : Hid (∃ m, m ≤ ls.length ∧ (∀ i, i < m → (ls.getD i []).length ≤ 20) ∧ ((r = true ∧ m = ls.length) ∨ (r = false ∧ m < ls.length ∧ 20 < (ls.getD m []).length))) := hid (by
    rcases hr with ⟨h1, h2⟩ | ⟨h1, h2⟩
    · exact ⟨ls.length, Nat.le_refl _, fun i hi => shrt_at h2 hi, .inl ⟨h1, rfl⟩⟩
    · obtain ⟨j, g1, g2, g3⟩ := shrt_no h2
      exact ⟨j, by omega, g2, .inr ⟨h1, g1, g3⟩⟩)
  obtain ⟨m, hm, hlo, hend⟩ := H.out
  have HL := hid hlo
  have HE := hid hend
  clear H hr hlo hend hN N
  go_enter Try.func15, Try.ntmps15
  go_wp2_with (fail)
  go_loopw [7] (fun vi wr => ∃ k : Nat, k ≤ m ∧ vi = .int .i64 k ∧ Kept w wr) (fun vi _ => ls.length - (intOf vi).toNat)
  case atStart => exact ⟨0, by omega, rfl, Kept.rfl' _⟩
  case round =>
    obtain ⟨k, hk, rfl, hkw⟩ := hrel
    by_cases hlt : k < ls.length
    · obtain ⟨a2, cap2, e2, _, _, hcc⟩ := HV.out.kept hkw
      cases e2
      obtain ⟨bb, off, e3, hbb, hcell⟩ := hcc (by intro e; rw [e] at hlt; simp at hlt)
      cases e3
      obtain ⟨a', c', hck, hsl⟩ := hcell k hlt
      obtain ⟨n, hn⟩ : ∃ n, n = (ls.getD k []).length := ⟨_, rfl⟩
      rw [← hn] at hck hsl
      have HN := hid hn
      have hki : (k : Int) < (ls.length : Int) := by omega
      have k0 : (0 : Int) ≤ (k : Int) := by omega
      clear hn hcell hcc hsl
      by_cases hkm : k < m
      · have hn24 : (n : Int) ≤ 20 := by have := HL.out k hkm; have := HN.out; omega
        go_wp2_with (fail)
        go_roundw
        case rel => exact ⟨k + 1, by omega, by go_num, hkw⟩
        case measure => simp [intOf]; omega
      · obtain rfl : k = m := by omega
        have hn24 : (20 : Int) < (n : Int) := by
          rcases HE.out with ⟨_, h2⟩ | ⟨_, _, h3⟩
          · omega
          · have := HN.out; omega
        have HR : Hid (r = false) := hid (by
          rcases HE.out with ⟨_, h2⟩ | ⟨h1, _⟩
          · omega
          · exact h1)
        clear hkm
        go_wp2_with (fail)
        go_ret
        exact ⟨ret_bool HR.out.symm, hkw⟩
    · have HR : Hid (r = true) := hid (by
        rcases HE.out with ⟨h1, _⟩ | ⟨_, h2, _⟩
        · exact h1
        · omega)
      have hge : (ls.length : Int) ≤ (k : Int) := by omega
      clear hlt
      go_wp2_with (fail)
      go_ret
      exact ⟨ret_bool HR.out.symm, hkw⟩
/-- The Bool says whether p holds. -/
def BIff (b : Bool) (p : Prop) : Prop := b = true ↔ p
theorem eval_k (b : Nat) (G : GFd) (t : Tabs G) (v : Value) (l : List Int) (x : Int) (w : World) (hg : IsGF w b G) (hv : Sl w v l) :
    Calls Try.prog 57 #[.pointer (some ⟨b, 0, none⟩), v, .int .i64 x] w fun e w' => e = .returned (.int .i64 (evL G l x)) ∧ Kept w w' :=
  (eval_p b G t v l x w hg hv).mono fun _ _ ⟨he, m, hw⟩ => ⟨he, by rw [hw]; exact kept_drewN _ _⟩
theorem Sl.addr {w : World} {a : Option Addr} {n cap : Nat} {xs : List Int} (h : Sl w (.slice a n cap) xs) : ∀ ad, a = some ad → ∀ j, j < xs.length → w.cell? (ad.add j) = some (.int .i64 (xs.getD j 0)) := fun ad e j hj => by
  obtain ⟨_, _, e1, _, _, hc⟩ := h
  cases e1
  subst e
  obtain ⟨b, off, e2, _, hcell⟩ := hc (by intro e; rw [e] at hj; simp at hj)
  cases e2
  rw [Addr.add_lit]
  exact hcell j hj
theorem Sl.nn {w : World} {a : Option Addr} {n cap : Nat} {xs : List Int} (h : Sl w (.slice a n cap) xs) : (a = none → cap = 0) ∧ (xs ≠ [] → a ≠ none) := by
  obtain ⟨_, _, e1, _, ⟨_, h1⟩, hc⟩ := h
  cases e1
  exact ⟨h1, fun hne e => by obtain ⟨_, _, e2, _⟩ := hc hne; rw [e] at e2; cases e2⟩
theorem can_single {G : GFd} {x : Int} (h : 0 ≤ x ∧ x < G.q) (h0 : x ≠ 0) : Cano G [x] := ⟨fun y hy => by rw [List.mem_singleton.1 hy]; exact h, fun _ => h0⟩
theorem own_one' (w : World) (x : Int) : Sl (w.alloc (.cells #[.int .i64 x] 3)) (.slice (some ⟨w.heap.size, 0, none⟩) 1 1) [x] := (own_one (w := w) (B := 0) (Nat.zero_le _)).sl
theorem same_eq (v v' : Value) (l l' : List Int) (w : World) (hv : Sl w v l) (hv' : Sl w v' l') (h : l = l') :
    Calls Try.prog 17 #[v, v'] w fun e w' => e = .returned (.bool true) ∧ Kept w w' :=
  (sameL_any v v' l l' w hv hv' true (by simpa using h)).mono fun _ _ ⟨he, m, hw⟩ => ⟨he, by rw [hw]; exact kept_drewN _ _⟩
end Go.Proofs.Ytmnbcnbhnclkhaa
namespace Go.Proofs.Ytmnbcnbhnclkhaa
open Go.RowKit Cw

/-- Cell i of the block b holds the value v. -/
structure Bx (w : World) (b i : Nat) (v : Value) : Prop where
  lt : b < w.heap.size
  h : w.cell? ⟨b, i, none⟩ = some v
theorem Bx.kept {w w' : World} {b i : Nat} {v : Value} (h : Bx w b i v) (k : Kept w w') : Bx w' b i v := ⟨k.lt h.lt, (Kept.cell' k h.lt).trans h.h⟩
theorem drewN_sz (w : World) (n : Nat) : w.heap.size = (w.drewN n).heap.size := rfl
theorem sllb_three (w : World) (b : Nat) (hb : b = w.heap.size) (a1 a2 a3 : Option Addr) (c1 c2 c3 : Nat) (l1 l2 l3 : List Int) (T : TypeId) (h1 : Sl w (.slice a1 l1.length c1) l1) (h2 : Sl w (.slice a2 l2.length c2) l2) (h3 : Sl w (.slice a3 l3.length c3) l3) :
    SlL (w.alloc (.cells #[.slice a1 l1.length c1, .slice a2 l2.length c2, .slice a3 l3.length c3] T)) (.slice (some ⟨b, 0, none⟩) 3 3) [l1, l2, l3] := by
  subst hb
  exact sll_three w _ _ _ _ _ _ _ _ _ T h1 h2 h3
theorem sllb_two (w : World) (b : Nat) (hb : b = w.heap.size) (a1 a2 : Option Addr) (c1 c2 : Nat) (l1 l2 : List Int) (T : TypeId) (h1 : Sl w (.slice a1 l1.length c1) l1) (h2 : Sl w (.slice a2 l2.length c2) l2) :
    SlL (w.alloc (.cells #[.slice a1 l1.length c1, .slice a2 l2.length c2] T)) (.slice (some ⟨b, 0, none⟩) 2 2) [l1, l2] := by
  subst hb
  exact sll_two w _ _ _ _ _ _ T h1 h2
end Go.Proofs.Ytmnbcnbhnclkhaa
