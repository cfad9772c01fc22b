/- What errors and erasures say of the solver, on lists; the walk of the laws' alive (chapter 38). No conditions. Slices of slices that a law lays behind a region that draws its order; lengths that Solve hands back. No conditions. -/
import Derived.Test.YtmnbcnbhnclkhaaYaA
import Derived.Test.YtmnbcnbhnclkhaaZaA
import Derived.Test.YtmnbcnbhnclkhaaMqA
import Derived.Test.YtmnbcnbhnclkhaaNaA
namespace Go.Proofs.Ytmnbcnbhnclkhaa
open Go.RowKit Cw

theorem kSolve_pair (b : Nat) (G : GFd) (t : Tabs G) (vs : Value) (s : List Int) (r f : Nat) (w : World) (hg : IsGF w b G) (hs : Sl w vs s) (ns : s.length ≤ 1000) (hr1 : 1 ≤ r) (hr2 : r ≤ 256) (hf : f ≤ r) {L V : Pl (Rs t.fs.mon)} (hp : Pl.PairP (t.pl s) r f L V) :
    Calls Try.prog 19 #[.pointer (some ⟨b, 0, none⟩), vs, .int .i64 r, .int .i64 f] w (OutS G t (t.pl s) r f w) :=
  (kSolve_p b G t vs s r f w hg hs ns hr1 hr2 hf).mono fun _ _ h => h.elim id (fun k => (k.2.2.no hp).elim)
theorem dif_e {G : GFd} {t : Tabs G} {l : List Int} (h : DifP G l) : ∀ i j, i < l.length → j < l.length → i ≠ j → eF t l i ≠ eF t l j := fun i j h1 h2 hne e => by
  have e2 : inn G.q (l.getD i 0) = inn G.q (l.getD j 0) := t.e_inn_eq.2 e
  rcases Nat.lt_or_ge j i with g | g
  · exact h i j g h1 e2
  · exact h j i (by omega) h2 e2.symm
/-- The pair of errors behind known points. -/
theorem era_list {G : GFd} {t : Tabs G} {all am kn pts : List Int} {r : Nat} {P : Pl (Rs t.fs.mon)} (hS : SyP t all am r P) (hall : all = kn ++ pts) (hd : DifP G all) (hv : ∀ i, i < pts.length → inn G.q (am.getD (kn.length + i) 0) ≠ 0) (hb : kn.length + 2 * pts.length ≤ r) :
    Pl.PairP (P * Pl.lcf (eF t kn) kn.length) r kn.length (Pl.lcf (eF t pts) pts.length) (Pl.evr (eF t all) (eF t am) all.length) ∧ Pl.Cop (Pl.lcf (eF t pts) pts.length) (Pl.evr (eF t all) (eF t am) all.length) := by
  have hlen : all.length = kn.length + pts.length := by rw [hall, List.length_append]
  have hk : Pl.lcf (eF t kn) kn.length = Pl.lcf (eF t all) kn.length := Pl.lcf_congr fun i hi => by
    unfold eF
    rw [hall, List.getD, List.getD, List.getElem?_append_left hi]
  rw [hk, hlen]
  refine Pl.era_pair (fun i hi => ?_) (fun i j h1 h2 hne => dif_e hd i j (by omega) (by omega) hne) (fun i hi e => hv i hi (t.e_nz.1 e)) hb (fun i hi => ?_)
  · unfold eF
    rw [hall, List.getD, List.getD, List.getElem?_append_right (by omega), Nat.add_sub_cancel_left]
  · rw [hS i, if_pos hi, hlen]
/-- The values of Forney. -/
theorem frn_list {G : GFd} {t : Tabs G} {all am L V : List Int} (hL : t.pl L = Pl.lcf (eF t all) all.length) (hV : t.pl V = Pl.evr (eF t all) (eF t am) all.length) (hd : DifP G all) {j : Nat} (hj : j < all.length) (h0 : inn G.q (all.getD j 0) ≠ 0) :
    FrP t L V (all.getD j 0) (inn G.q (am.getD j 0)) 0 := by
  obtain ⟨h1, h2⟩ := Pl.forney_val (v := eF t am) hj (show eF t all j ≠ 0 from fun e => h0 (t.e_nz.1 e)) (fun i hi hne => dif_e hd i j hi hj hne)
  refine .inr (.inr ⟨h0, ?_, rfl, inn_bd (by have := t.qb; omega) _, ?_⟩)
  · rw [hL]; exact h1
  · rw [t.e_inn, hL, hV]; exact h2.symm
/-- Where the locator is 0. -/
theorem ch_loc {G : GFd} {t : Tabs G} {L pts : List Int} {k : Nat} (hL : t.pl L = Pl.lcf (eF t pts) k) (l : List Int) (i : Nat) : chS G L l i = true ↔ inn G.q (l.getD i 0) ≠ 0 ∧ ∃ j, j < k ∧ inn G.q (pts.getD j 0) = inn G.q (l.getD i 0) := by
  unfold chS
  simp only [Bool.and_eq_true, decide_eq_true_eq]
  refine and_congr_right fun h0 => ?_
  have hx : t.e (l.getD i 0) ≠ 0 := fun e => h0 (t.e_nz.1 e)
  rw [t.evL_zero, t.e_invG h0, hL, Pl.ev_lcf]
  refine exists_congr fun j => and_congr_right fun _ => ?_
  rw [t.e_inn_eq]
  constructor
  · intro e
    have := congrArg (· * t.e (l.getD i 0)) e
    simp only [Rg.mul_assoc, Fd.inv_mul hx, Rg.mul_one, Rg.one_mul] at this
    exact this
  · intro e
    show eF t pts j * _ = 1
    unfold eF
    rw [e, Fd.mul_inv _ hx]
theorem tab38 {G : GFd} (t : Tabs G) (h1 : G.P = 5) (h2 : G.M = 1) (h3 : G.mod = []) : G.q = 5 ∧ mulG G 3 2 = 1 ∧ negG G 2 = 3 := by
  have hq : G.q = 5 := by rw [t.hq, h1, h2]; decide
  refine ⟨hq, ?_, ?_⟩
  · rw [t.mul_mulS, h1, h2, h3, hq]; decide +kernel
  · unfold negG; rw [h1, h2, hq]; decide +kernel
theorem can38 {G : GFd} (hq : G.q = 5) (l : List Int) (h1 : ∀ x ∈ l, 0 ≤ x ∧ x < 5) (h2 : l ≠ [] → l.getD (l.length - 1) 0 ≠ 0) : Cano G l := ⟨fun x hx => by rw [hq]; exact h1 x hx, h2⟩
theorem syp5 {G : GFd} (t : Tabs G) (h : mulG G 3 2 = 1) : SyP t [2] [3] 2 (t.pl [3, 1]) := fun i => by
  rw [t.pl_at]
  match i with
  | 0 =>
    rw [if_pos (by omega), Pl.synd_at]
    show t.e 3 = Rg.sm 0 _ + t.e 3 * Rg.pw (t.e 2) 0
    rw [Rg.sm_zero, Rg.zero_add, Rg.pw_zero, Rg.mul_one]
  | 1 =>
    rw [if_pos (by omega), Pl.synd_at]
    show t.e 1 = Rg.sm 0 _ + t.e 3 * Rg.pw (t.e 2) 1
    rw [Rg.sm_zero, Rg.zero_add, Rg.pw_one, ← t.e_mul, h]
  | i + 2 => rw [if_neg (by omega), ld_out (by simp), t.e_zero]
theorem dif5 {G : GFd} : DifP G [2] := fun i j h1 h2 => by simp at h2; omega
theorem loc5 {G : GFd} (t : Tabs G) (h : negG G 2 = 3) : t.pl [1, 3] = Pl.lcf (eF t [2]) [(2 : Int)].length := by
  rw [← h, pl_fac]
  show _ = 1 * Pl.fac (t.e 2)
  rw [Rg.one_mul]
theorem evr5 {G : GFd} (t : Tabs G) : t.pl [3] = Pl.evr (eF t [2]) (eF t [3]) [(2 : Int)].length := by
  rw [t.pl_single]
  show _ = Rg.sm 0 _ + Pl.c (t.e 3) * (if 0 = 0 then 1 else _)
  rw [Rg.sm_zero, Rg.zero_add, if_pos rfl, Rg.mul_one]
theorem own_one0 (w : World) (x : Int) : Sl (w.alloc (.cells #[.int .i64 x] 3)) (.slice (some ⟨w.heap.size, 0, none⟩) 1 1) [x] := (own_one (B := 0) (Nat.zero_le _)).sl
theorem own_two0 (w : World) (x y : Int) : Sl (w.alloc (.cells #[.int .i64 x, .int .i64 y] 3)) (.slice (some ⟨w.heap.size, 0, none⟩) 2 2) [x, y] := (own_two (B := 0) (Nat.zero_le _)).sl
theorem chl5 {G : GFd} (t : Tabs G) (hq : G.q = 5) (h : negG G 2 = 3) : chL (chS G [1, 3] [1, 2]) 2 = [1] := by
  have h0 : chS G [1, 3] [1, 2] 0 = false := by
    cases e : chS G [1, 3] [1, 2] 0 with
    | false => rfl
    | true =>
      obtain ⟨_, j, hj, h2⟩ := (ch_loc (loc5 t h) [1, 2] 0).1 e
      simp at hj
      subst hj
      rw [hq] at h2
      exact absurd h2 (by decide)
  have h1 : chS G [1, 3] [1, 2] 1 = true := (ch_loc (loc5 t h) [1, 2] 1).2 ⟨by rw [hq]; decide, 0, by simp, rfl⟩
  show (if chS G [1, 3] [1, 2] 1 then (if chS G [1, 3] [1, 2] 0 then _ else _) ++ _ else _) = _
  rw [if_pos h1, if_neg (by rw [h0]; simp)]
  rfl
set_option maxRecDepth 100000 in
set_option maxHeartbeats 4000000 in
theorem alive5_any (w : World) : Calls Try.prog 13 #[] w fun e w' => e = .returned (.bool true) ∧ Kept w w' := by
  go_enter Try.func13, Try.ntmps13
  go_wp2_with (go_at_call 14; (with_reducible refine (made5_yes 5 1 _ [] _ (sl_none _) field5).mono ?_); rintro e w1 ⟨b, G, rfl, g1, t, p1, m1, o1, k1⟩)
  obtain ⟨hq, hm, hn⟩ := tab38 t p1 m1 o1
  have HQ := hid hq
  have HM := hid hm
  have HN := hid hn
  have kA := (kept_alloc w1 (.cells #[.int .i64 2] 3)).tr (kept_alloc (w1.alloc (.cells #[.int .i64 2] 3)) (.cells #[.int .i64 3] 3))
  have sA := (own_one0 w1 2).kept (kept_alloc (w1.alloc (.cells #[.int .i64 2] 3)) (.cells #[.int .i64 3] 3))
  have sB := own_one0 (w1.alloc (.cells #[.int .i64 2] 3)) 3
  rw [World.size_alloc] at sB
  obtain ⟨w2, hw2⟩ : ∃ x, x = (w1.alloc (.cells #[.int .i64 2] 3)).alloc (.cells #[.int .i64 3] 3) := ⟨_, rfl⟩
  rw [← hw2] at kA sA sB
  have g2 := g1.kept kA
  have kk := k1.tr kA
  clear hq hm hn p1 m1 o1 k1 kA g1
  go_wp2_with (fail)
  rw [← hw2]
  clear hw2
  have H1 := kSyn_p b G t _ _ [2] [3] 2 _ g2 sA sB (by simp) rfl (by omega)
  rw [show ((2 : Nat) : Int) = 2 from rfl] at H1
  with_reducible refine H1.mono ?_
  clear H1
  rintro e w3 ⟨v3, l3, rfl, o3, k3, c3, hS⟩
  obtain rfl : l3 = [3, 1] := t.pl_inj c3 (can38 HQ.out _ (by simp) (by simp)) (hS.eq (syp5 t HM.out))
  have s3 := o3.sl
  have g3 := g2.kept k3
  have kk := kk.tr k3
  have hpr := era_list hS (kn := []) (pts := [2]) rfl dif5 (fun i hi => by
    obtain rfl : i = 0 := by simpa using hi
    show inn G.q 3 ≠ 0
    rw [HQ.out]; decide) (by simp)
  have HE : t.pl [3, 1] * Pl.lcf (eF t []) 0 = t.pl [3, 1] := Rg.mul_one _
  simp only [List.length_nil] at hpr
  rw [HE] at hpr
  have HP := hid hpr
  clear sA sB g2 k3 hS c3 o3 hpr HE
  go_wp2_with (fail)
  have H2 := kSolve_pair b G t _ [3, 1] 2 0 _ g3 s3 (by simp) (by omega) (by omega) (by omega) HP.out.1
  rw [show ((2 : Nat) : Int) = 2 from rfl, show ((0 : Nat) : Int) = 0 from rfl] at H2
  with_reducible refine H2.mono ?_
  clear H2
  rintro e w4 ⟨v4, v5, l4, l5, rfl, o4, o5, k4, c4, c5, hSP⟩
  obtain ⟨e4, e5⟩ := hSP.eq HP.out.1 HP.out.2
  obtain rfl : l4 = [1, 3] := t.pl_inj c4 (can38 HQ.out _ (by simp) (by simp)) (by rw [e4, loc5 t HN.out])
  obtain rfl : l5 = [3] := t.pl_inj c5 (can38 HQ.out _ (by simp) (by simp)) (by rw [e5, evr5 t])
  have s3 := s3.kept k4
  have s4 := o4.sl
  have s5 := o5.sl
  have g4 := g3.kept k4
  have kk := kk.tr k4
  clear hSP e4 e5 c4 c5 o4 o5 g3 k4
  go_wp2_with (fail)
  with_reducible refine (kForney_p b G t _ _ [1, 3] [3] 2 _ g4 s4 s5 (by simp)).mono ?_
  rintro e w5 ⟨x, k, rfl, hF, k5⟩
  have hF2 : FrP t [1, 3] [3] 2 (inn G.q 3) 0 := frn_list (all := [2]) (am := [3]) (j := 0) (loc5 t HN.out) (evr5 t) dif5 (by simp) (by show inn G.q 2 ≠ 0; rw [HQ.out]; decide)
  obtain ⟨rfl, rfl⟩ := hF.eq hF2
  have h3 : inn G.q 3 = 3 := by rw [HQ.out]; decide
  rw [h3]
  have s3 := s3.kept k5
  have s4 := s4.kept k5
  have s5 := s5.kept k5
  have g5 := g4.kept k5
  have kk := kk.tr k5
  have HCH := hid (chl5 t HQ.out HN.out)
  clear hF hF2 h3 g4 k5
  go_wp2_with (first
    | (go_at_call 17; (with_reducible refine (same_eq _ _ [3, 1] [3, 1] _ (s3.kept (kept_alloc _ _)) (own_two0 _ _ _) rfl).mono ?_); rintro e w6 ⟨rfl, k6⟩; have kz := (kept_alloc _ _).tr k6; have s4 := s4.kept kz; have s5 := s5.kept kz; have g6 := g5.kept kz; have kk := kk.tr kz; clear kz k6 s3)
    | (go_at_call 17; (with_reducible refine (same_eq _ _ [1, 3] [1, 3] _ (s4.kept (kept_alloc _ _)) (own_two0 _ _ _) rfl).mono ?_); rintro e w7 ⟨rfl, k7⟩; have kz := (kept_alloc _ _).tr k7; have s4 := s4.kept kz; have s5 := s5.kept kz; have g7 := g6.kept kz; have kk := kk.tr kz; clear kz k7)
    | (go_at_call 17; (with_reducible refine (same_eq _ _ [3] [3] _ (s5.kept (kept_alloc _ _)) (own_one0 _ _) rfl).mono ?_); rintro e w8 ⟨rfl, k8⟩; have kz := (kept_alloc _ _).tr k8; have s4 := s4.kept kz; have g8 := g7.kept kz; have kk := kk.tr kz; clear kz k8)
    | (go_at_call 28; (with_reducible refine (kChien_p b G t _ _ [1, 3] [1, 2] _ (g8.kept (kept_alloc _ _)) (s4.kept (kept_alloc _ _)) (own_two0 _ _ _) (by simp)).mono ?_); rintro e w9 ⟨v9, rfl, o9, k9⟩; have kz := (kept_alloc _ _).tr k9; have s9 := o9.sl; have s9 : Sl w9 v9 [1] := (by have := s9; rw [show chL (chS G [1, 3] [1, 2]) [(1 : Int), 2].length = [1] from HCH.out] at this; exact this); have kk := kk.tr kz; clear kz k9 o9)
    | (go_at_call 17; (with_reducible refine (same_eq _ _ [1] [1] _ (s9.kept (kept_alloc _ _)) (own_one0 _ _) rfl).mono ?_); rintro e w10 ⟨rfl, k10⟩; have kz := (kept_alloc _ _).tr k10; have kk := kk.tr kz; clear kz k10))
  go_ret
  exact ⟨rfl, kk⟩
end Go.Proofs.Ytmnbcnbhnclkhaa
namespace Go.Proofs.Ytmnbcnbhnclkhaa
open Go.RowKit Cw

theorem sll_four (w : World) (a1 a2 a3 a4 : Option Addr) (c1 c2 c3 c4 : Nat) (l1 l2 l3 l4 : List Int) (T : TypeId) (h1 : Sl w (.slice a1 l1.length c1) l1) (h2 : Sl w (.slice a2 l2.length c2) l2) (h3 : Sl w (.slice a3 l3.length c3) l3) (h4 : Sl w (.slice a4 l4.length c4) l4) :
    SlL (w.alloc (.cells #[.slice a1 l1.length c1, .slice a2 l2.length c2, .slice a3 l3.length c3, .slice a4 l4.length c4] T)) (.slice (some ⟨w.heap.size, 0, none⟩) 4 4) [l1, l2, l3, l4] := by
  have k := kept_alloc w (.cells #[.slice a1 l1.length c1, .slice a2 l2.length c2, .slice a3 l3.length c3, .slice a4 l4.length c4] T)
  refine ⟨_, 4, rfl, by simp, by unfold maxLen; omega, fun _ => ⟨_, 0, rfl, by simp, fun i hi => ?_⟩⟩
  have : i = 0 ∨ i = 1 ∨ i = 2 ∨ i = 3 := by simp at hi; omega
  rcases this with rfl | rfl | rfl | rfl
  · exact ⟨a1, c1, by simp, h1.kept k⟩
  · exact ⟨a2, c2, by simp, h2.kept k⟩
  · exact ⟨a3, c3, by simp, h3.kept k⟩
  · exact ⟨a4, c4, by simp, h4.kept k⟩
theorem sllb_one (w : World) (b : Nat) (hb : b = w.heap.size) (a1 : Option Addr) (c1 : Nat) (l1 : List Int) (T : TypeId) (h1 : Sl w (.slice a1 l1.length c1) l1) :
    SlL (w.alloc (.cells #[.slice a1 l1.length c1] T)) (.slice (some ⟨b, 0, none⟩) 1 1) [l1] := by
  subst hb
  exact sll_one w _ _ _ T h1
theorem sllb_four (w : World) (b : Nat) (hb : b = w.heap.size) (a1 a2 a3 a4 : Option Addr) (c1 c2 c3 c4 : Nat) (l1 l2 l3 l4 : List Int) (T : TypeId) (h1 : Sl w (.slice a1 l1.length c1) l1) (h2 : Sl w (.slice a2 l2.length c2) l2) (h3 : Sl w (.slice a3 l3.length c3) l3) (h4 : Sl w (.slice a4 l4.length c4) l4) :
    SlL (w.alloc (.cells #[.slice a1 l1.length c1, .slice a2 l2.length c2, .slice a3 l3.length c3, .slice a4 l4.length c4] T)) (.slice (some ⟨b, 0, none⟩) 4 4) [l1, l2, l3, l4] := by
  subst hb
  exact sll_four w _ _ _ _ _ _ _ _ _ _ _ _ T h1 h2 h3 h4
theorem solv_len {G : GFd} {t : Tabs G} {S : Pl (Rs t.fs.mon)} {lL lV : List Int} {r f : Nat} (h : Pl.SolvP S (t.pl lL) (t.pl lV) r f) (hL : Cano G lL) (hV : Cano G lV) (hr : r ≤ 24) (hf : f ≤ r) : lL.length ≤ 30 ∧ lV.length ≤ 30 := by
  have h1 := h.pair.1.dL
  have h2 := h.pair.1.dV
  rw [t.can_ln hL] at h1
  rw [t.can_ln hV] at h2
  omega
theorem bx_new (W : World) (cs : Array Value) (T : TypeId) (b i : Nat) {v : Value} (hb : b = W.heap.size) (hv : cs[i]? = some v) : Bx (W.alloc (.cells cs T)) b i v := by
  subst hb
  exact ⟨by simp, by simp [hv]⟩
theorem bif_yes {p : Prop} (h : p) : BIf true p := ⟨fun _ => h, fun _ => rfl⟩
theorem bif_no {p : Prop} (h : ¬ p) : BIf false p := ⟨(fun e => by cases e), fun e => absurd e h⟩
end Go.Proofs.Ytmnbcnbhnclkhaa
