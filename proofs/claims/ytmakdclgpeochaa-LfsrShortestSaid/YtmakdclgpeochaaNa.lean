/- The walk of the laws' made (chapter 05). No conditions. -/
import Derived.Test.YtmakdclgpeochaaRd
import Derived.Test.YtmakdclgpeochaaMcA
namespace Go.Proofs.Ytmakdclgpeochaa
open Go.RowKit Cw

theorem new_none (P M : Int) (vm : Value) (mod : List Int) (w : World) (hvm : Sl w vm mod) (hn : ¬ FieldP P M mod) :
    Calls Try.prog 33 #[.agg #[.int .i64 P, .int .i64 M, vm]] w fun e w' => e = .returned (.tuple #[.pointer none, .int .i64 1]) ∧ Kept w w' := by
  by_cases hs : ShapeP P M mod
  · exact new_noField P M vm mod w hvm hs hn
  · exact new_noShape P M vm mod w hvm hs

theorem made5_yes (P M : Int) (vm : Value) (mod : List Int) (w : World) (hvm : Sl w vm mod) (hf : FieldP P M mod) :
    Calls Try.prog 14 #[.agg #[.int .i64 P, .int .i64 M, vm]] w fun e w' => ∃ b G, e = .returned (.pointer (some ⟨b, 0, none⟩)) ∧ IsGF w' b G ∧ Tabs G ∧ G.P = P ∧ G.M = M ∧ G.mod = mod ∧ Kept w w' := by
  have hk0 := kept_alloc w (.cells #[.int .i64 P, .int .i64 M, vm] 24)
  have hbx := boxF_new w P M vm 24
  have HF := hid hf
  clear hf
  go_enter Try.func14, Try.ntmps14
  go_wp2_with (first
    | (go_at_call 32; (with_reducible refine (rCheck_any P M vm mod _ (hvm.kept hk0) 0 (.inl ⟨(field_check P M mod).1 HF.out, rfl⟩)).mono ?_); rintro e w2 ⟨rfl, k2⟩; have bx1 := hbx.kept k2; have c0 := bx1.h0; have c1 := bx1.h1; have c2 := bx1.h2)
    | (go_at_call 33; (with_reducible refine (new_field P M vm mod _ ((hvm.kept hk0).kept k2) HF.out).mono ?_); rintro e w1 ⟨b, G, rfl, g1, t1, p1, m1, o1, k1⟩))
  go_ret
  exact ⟨b, G, rfl, g1, t1, p1, m1, o1, (hk0.tr k2).tr k1⟩

theorem made5_no (P M : Int) (vm : Value) (mod : List Int) (w : World) (hvm : Sl w vm mod) (hn : ¬ FieldP P M mod) :
    Calls Try.prog 14 #[.agg #[.int .i64 P, .int .i64 M, vm]] w fun e w' => e = .returned (.pointer none) ∧ Kept w w' := by
  have hk0 := kept_alloc w (.cells #[.int .i64 P, .int .i64 M, vm] 24)
  have HN := hid (show ¬ CheckP P M mod from fun h => hn ((field_check P M mod).2 h))
  clear hn
  go_enter Try.func14, Try.ntmps14
  go_wp2_with (go_at_call 32; (with_reducible refine (rCheck_any P M vm mod _ (hvm.kept hk0) 1 (.inr ⟨HN.out, rfl⟩)).mono ?_); rintro e w2 ⟨rfl, k2⟩)
  go_ret
  exact ⟨rfl, hk0.tr k2⟩
end Go.Proofs.Ytmakdclgpeochaa
