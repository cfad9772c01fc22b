/- The walk of (*GF).Elements and of the iterator it hands back: its contract as a sequence. Conditions: the field lies in memory. -/
import Derived.Test.YtjoednmoginhpaaGc
import Derived.RangeFuncNested
import Derived.RangeFuncBound
import Derived.RangeFuncCalls
import Derived.RangeFuncLeaves
import Derived.RangeFuncFrom
import Derived.Shelf.Abstract
import Derived.Shelf.RegionOpen
import Derived.OwnWalkIn
import Derived.TacticsInMore
import Derived.LoopNIn
import Derived.LoopIn
namespace Go.Proofs.Ytjoednmoginhpaa
open Go.RowKit Go.Shelf Cw
attribute [local go_sem] Oper.semAt_some

/-- The first k elements, ascending. -/
def upTo (k : Nat) : List Int := (List.range k).map (fun i : Nat => (i : Int))
theorem upTo_succ (k : Nat) : upTo (k + 1) = upTo k ++ [(k : Int)] := by simp [upTo, List.range_succ]
theorem upTo_len (k : Nat) : (upTo k).length = k := by simp [upTo]
theorem upTo_pre {a b : Nat} (h : a ≤ b) : upTo a <+: upTo b := by
  obtain ⟨d, rfl⟩ := Nat.exists_eq_add_of_le h
  clear h
  induction d with
  | zero => exact List.prefix_refl _
  | succ d ih => rw [← Nat.add_assoc, upTo_succ]; exact ih.trans (List.prefix_append _ _)

set_option maxHeartbeats 2000000 in
theorem elements1_in (n l bb b : Nat) (G : GFd) (t : Tabs G) (J Jx : List Int → World → Prop)
    (hY : ∀ pre x W, J pre W → pre.length < G.q.toNat → YieldAt Fence.wide (n - 1) Try.prog l #[.int .i64 x] W fun e W' =>
      (e = .returned (.bool true) ∧ J (pre ++ [x]) W' ∧ KeepsWalks W W') ∨ (e = .returned (.bool false) ∧ Jx (pre ++ [x]) W'))
    (W : World) (hbb : W.cell? ⟨bb, 0, none⟩ = some (.pointer (some ⟨b, 0, none⟩))) (hg : IsGF W b G) (h0 : J [] W) :
    CallsIn Fence.wide n Try.prog 94 #[.func (.yield l) #[] #[], .pointer (some ⟨bb, 0, none⟩)] W fun e W' => (∃ v, e = .returned v) ∧
      ((∃ ys, ys = upTo G.q.toNat ∧ J ys W') ∨ (∃ pre, pre <+: upTo G.q.toNat ∧ Jx pre W')) := by
  obtain ⟨q1, q2, -⟩ := t.qb
  refine callsIn_of_wp Try.func94 rfl trivial ?_ rfl
  simp only [Try.ntmps94, List.size_toArray, List.length_cons, List.length_nil, Nat.reduceAdd, Nat.reduceSub, Array.replicate_succ, Array.replicate_zero, List.push_toArray, List.append_toArray, List.nil_append, List.cons_append]
  have c1 := hg.hq
  gi_wp2
  gi_loopw [8] (fun vi wr => ∃ k : Nat, k ≤ G.q.toNat ∧ vi = .int .i64 k ∧ J (upTo k) wr) (fun vi _ => G.q.toNat - (intOf vi).toNat)
  case atStart => exact ⟨0, by omega, rfl, h0⟩
  case round =>
    obtain ⟨k, hk, rfl, hJ⟩ := hrel
    by_cases hlt : k < G.q.toNat
    · obtain ⟨fn, tmps, assign, body, hy, hR⟩ := hY (upTo k) k wr hJ (by rw [upTo_len]; exact hlt)
      have hlt' : (k : Int) < G.q := by omega
      gi_wp2
      refine ⟨fun h => (by cases h), ?_⟩
      refine hR.mono ?_
      rintro e W3 (⟨rfl, hJ3, hk3⟩ | ⟨rfl, hJx3⟩)
      · gi_wp2
        go_roundw
        case rel => exact ⟨k + 1, by omega, by go_num, by rw [upTo_succ]; exact hJ3⟩
        case measure => simp [intOf]; omega
      · gi_wp2
        refine bodyPost_ret (results_none rfl _ _ _) rfl ?_
        exact ⟨⟨_, rfl⟩, .inr ⟨upTo (k + 1), upTo_pre hlt, by rw [upTo_succ]; exact hJx3⟩⟩
    · have ek : k = G.q.toNat := by omega
      have hge : ¬ (k : Int) < G.q := by omega
      subst ek
      gi_wp2
      go_end0
      first | exact ⟨⟨_, rfl⟩, .inl ⟨_, rfl, hJ⟩⟩ | exact ⟨⟨_, rfl⟩, .inl hJ⟩

theorem elements_stops (n b bb : Nat) (G : GFd) (t : Tabs G) (w : World) (hlt : bb < w.heap.size) (hbb : w.cell? ⟨bb, 0, none⟩ = some (.pointer (some ⟨b, 0, none⟩))) (hg : IsGF w b G) :
    SeqStops Fence.wide n Try.prog 94 #[.pointer (some ⟨bb, 0, none⟩)] (fun x : Int => Value.int .i64 x) (fun ys => ys = upTo G.q.toNat) (fun pre => pre <+: upTo G.q.toNat) G.q.toNat w := fun l J Jx W hW _ _ hY h0 =>
  elements1_in n l bb b G t J Jx hY W ((hW.cell (p := ⟨bb, 0, none⟩) hlt).trans hbb) (hg.kept hW) h0

theorem elements_any (b : Nat) (w : World) :
    Calls Try.prog 82 #[.pointer (some ⟨b, 0, none⟩)] w fun e w' => e = .returned (.func (.func 94) #[] #[.pointer (some ⟨w.heap.size, 0, none⟩)]) ∧ w' = w.alloc (.cells #[.pointer (some ⟨b, 0, none⟩)] 26) := by
  go_enter Try.func82, Try.ntmps82
  go_wp2_with (fail)
  go_ret
  exact ⟨rfl, rfl⟩
end Go.Proofs.Ytjoednmoginhpaa
