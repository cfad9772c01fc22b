/- The walk of the product of many polynomials, and of Degree. Conditions: the field lies in memory with its tables; lengths are bounded. -/
import Derived.Test.YtmnbcnbhnclkhaaKd
namespace Go.Proofs.Ytmnbcnbhnclkhaa
open Go.RowKit Cw

/-- The value v is a slice of slices that reads as ls. -/
def SlL (w : World) (v : Value) (ls : List (List Int)) : Prop :=
  ∃ (a : Option Addr) (cap : Nat), v = .slice a ls.length cap ∧ ls.length ≤ cap ∧ cap ≤ maxLen ∧
    (ls ≠ [] → ∃ b off, a = some ⟨b, off, none⟩ ∧ b < w.heap.size ∧ ∀ i, i < ls.length → ∃ a' c, w.cell? ⟨b, off + i, none⟩ = some (.slice a' (ls.getD i []).length c) ∧ Sl w (.slice a' (ls.getD i []).length c) (ls.getD i []))
theorem SlL.kept {w w' : World} {v : Value} {ls : List (List Int)} (h : SlL w v ls) (k : Kept w w') : SlL w' v ls := by
  obtain ⟨a, cap, h1, h2, h3, h4⟩ := h
  refine ⟨a, cap, h1, h2, h3, fun hx => ?_⟩
  obtain ⟨b, off, e, hb, hc⟩ := h4 hx
  exact ⟨b, off, e, k.lt hb, fun i hi => by
    obtain ⟨a', c, g1, g2⟩ := hc i hi
    exact ⟨a', c, (Kept.cell' k hb).trans g1, g2.kept k⟩⟩

/-- The product of the first k polynomials. -/
noncomputable def prF {G : GFd} (t : Tabs G) (ls : List (List Int)) : Nat → PS (Rs t.fs.mon)
  | 0 => 1
  | k + 1 => prF t ls k * t.po (ls.getD k [])

theorem own_one {w : World} {B : Nat} {x : Int} (hB : B ≤ w.heap.size) : Own (w.alloc (.cells #[.int .i64 x] 3)) B (.slice (some ⟨w.heap.size, 0, none⟩) 1 1) [x] := by
  have h0 := World.ownsRow_lit (size := 1) (e := 3) (base := B) w #[.int .i64 x] 1 hB (by unfold maxLen; omega) rfl
  unfold Own; simpa using h0
theorem cano_one {G : GFd} (t : Tabs G) : Cano G [1] := by
  have := t.qb
  exact ⟨fun x hx => by rw [List.mem_singleton.1 hx]; omega, fun _ => by simp⟩

set_option maxRecDepth 100000 in
set_option maxHeartbeats 2000000 in
theorem pmul_any (b : Nat) (G : GFd) (t : Tabs G) (v : Value) (ls : List (List Int)) (w : World) (hg : IsGF w b G) (hv : SlL w v ls) (hl : ls.length ≤ 50) (hll : ∀ i, (ls.getD i []).length ≤ 1000) :
    Calls Try.prog 63 #[.pointer (some ⟨b, 0, none⟩), v] w (OutV G t (prF t ls ls.length) (1 + 1000 * ls.length) w) := by
  have HV := hid hv
  obtain ⟨a, cap, rfl, hcap, hcm, _⟩ := hv
  unfold maxLen at hcm
  have k0 := kept_alloc w (.cells #[.int .i64 1] 3)
  have o0 := own_one (w := w) (B := w.heap.size) (x := 1) (Nat.le_refl _)
  have HL := hid hll
  clear hll
  go_enter Try.func63, Try.ntmps63
  go_wp2_with (fail)
  go_loopw [5, 11] (fun vo vi wr => ∃ (k : Nat) (l : List Int), k ≤ ls.length ∧ vi = .int .i64 k ∧ Own wr w.heap.size vo l ∧ Kept w wr ∧ Cano G l ∧ Hid (t.po l = prF t ls k) ∧ l.length ≤ 1 + 1000 * k) (fun _ vi _ => ls.length - (intOf vi).toNat)
  case atStart => exact ⟨0, [1], by omega, rfl, o0, k0, cano_one t, hid t.po_one, by simp⟩
  case round =>
    obtain ⟨k, l, hk, rfl, ho, hkw, hc, hp, hn⟩ := hrel
    by_cases hlt : k < ls.length
    · obtain ⟨a2, cap2, e2, _, _, hcc⟩ := HV.out.kept hkw
      cases e2
      obtain ⟨bb, off, e3, hbb, hcell⟩ := hcc (by intro e; rw [e] at hlt; simp at hlt)
      cases e3
      obtain ⟨a', c', hck, hsl⟩ := hcell k hlt
      have hlk := HL.out k
      have HQ : Hid (prF t ls (k + 1) = prF t ls k * t.po (ls.getD k [])) := hid rfl
      obtain ⟨lk, hlke⟩ : ∃ x, x = ls.getD k [] := ⟨_, rfl⟩
      rw [← hlke] at hck hsl hlk HQ
      clear hlke
      have hgw := hg.kept hkw
      have hki : (k : Int) < (ls.length : Int) := by omega
      have hos := ho.sl
      clear hcell hcc
      go_wp2_with (go_at_call 87; (with_reducible refine (product_any b G t _ _ l lk _ hgw hos hsl (by omega) (by omega)).mono ?_); rintro e w2 ⟨v2, l2, rfl, o2, k2, c2, p2, n2⟩; have P2 := hid p2; clear p2)
      go_roundw
      case rel => exact ⟨k + 1, l2, by omega, by go_num, o2.mono hkw.size, hkw.tr k2, c2, hid (by rw [P2.out, hp.out, HQ.out]), by omega⟩
      case measure => simp [intOf]; omega
    · have ek : k = ls.length := by omega
      have HP : Hid (t.po l = prF t ls ls.length) := hid (by rw [hp.out, ek])
      have hn' : l.length ≤ 1 + 1000 * ls.length := by omega
      clear ek
      go_wp2_with (fail)
      go_ret
      exact ⟨_, l, rfl, ho, hkw, hc, HP.out, hn'⟩
theorem degree_any (b : Nat) (G : GFd) (t : Tabs G) (v : Value) (p l : List Int) (w : World) (hg : IsGF w b G) (hv : Sl w v p) (hl : p.length ≤ 1000000) (hc : Cano G l) (hp : t.po l = t.po p) :
    Calls Try.prog 61 #[.pointer (some ⟨b, 0, none⟩), v] w fun e w' => e = .returned (.int .i64 ((l.length : Int) - 1)) ∧ Kept w w' := by
  have HP := hid hp
  clear hp
  go_enter Try.func61, Try.ntmps61
  go_wp2_with (fail)
  refine (canon_any b G t v p _ hg hv hl).mono ?_
  rintro e w1 ⟨g1, k1, cap1, l1, rfl, o1, kk1, c1, p1, n1⟩
  have e1 := o1.len
  have e2 : l1 = l := t.can_inj c1 hc (by rw [p1, HP.out])
  subst e2
  subst e1
  clear p1
  go_wp2_with (fail)
  go_ret
  exact ⟨rfl, kk1⟩
end Go.Proofs.Ytmnbcnbhnclkhaa
