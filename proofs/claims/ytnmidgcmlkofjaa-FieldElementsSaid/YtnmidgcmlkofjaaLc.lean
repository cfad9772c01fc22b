/- The walks of the laws' made and none. No conditions. -/
import Derived.Test.YtnmidgcmlkofjaaRd
import Derived.Test.YtnmidgcmlkofjaaMg
import Derived.Test.YtnmidgcmlkofjaaLa
namespace Go.Proofs.Ytnmidgcmlkofjaa
open Go.RowKit Cw

theorem new_no (P M : Int) (vm : Value) (mod : List Int) (w : World) (hvm : Sl w vm mod) (hn : ¬ FieldP P M mod) :
    Calls Try.prog 48 #[.agg #[.int .i64 P, .int .i64 M, vm]] w fun e w' => e = .returned (.tuple #[.pointer none, .int .i64 1]) ∧ Kept w w' := by
  by_cases hs : ShapeP P M mod
  · exact new_noField P M vm mod w hvm hs hn
  · exact new_noShape P M vm mod w hvm hs

theorem made_yes (P M : Int) (vm : Value) (mod : List Int) (w : World) (hvm : Sl w vm mod) (hf : FieldP P M mod) :
    Calls Try.prog 18 #[.agg #[.int .i64 P, .int .i64 M, vm]] w fun e w' => ∃ b G, e = .returned (.tuple #[.pointer (some ⟨b, 0, none⟩), .bool true]) ∧ IsGF w' b G ∧ Tabs G ∧ G.P = P ∧ G.M = M ∧ G.mod = mod ∧ Kept w w' := by
  have hk0 := kept_alloc w (.cells #[.int .i64 P, .int .i64 M, vm] 24)
  have hbx := boxF_new w P M vm 24
  have HF := hid hf
  clear hf
  go_enter Try.func18, Try.ntmps18
  go_wp2_with (first
    | (go_at_call 48; refine (new_field P M vm mod _ (hvm.kept hk0) HF.out).mono ?_; rintro e w1 ⟨b, G, rfl, g1, t1, p1, m1, o1, k1⟩; have bx1 := hbx.kept k1; have c0 := bx1.h0; have c1 := bx1.h1; have c2 := bx1.h2)
    | (go_at_call 47; refine (rCheck_any P M vm mod _ ((hvm.kept hk0).kept k1) 0 (.inl ⟨(field_check P M mod).1 HF.out, rfl⟩)).mono ?_; rintro e w2 ⟨rfl, k2⟩))
  go_ret2
  exact ⟨b, G, rfl, g1.kept k2, t1, p1, m1, o1, (hk0.tr k1).tr k2⟩

theorem made_no (P M : Int) (vm : Value) (mod : List Int) (w : World) (hvm : Sl w vm mod) (hn : ¬ FieldP P M mod) :
    Calls Try.prog 18 #[.agg #[.int .i64 P, .int .i64 M, vm]] w fun e w' => e = .returned (.tuple #[.pointer none, .bool false]) ∧ Kept w w' := by
  have hk0 := kept_alloc w (.cells #[.int .i64 P, .int .i64 M, vm] 24)
  have HF := hid hn
  clear hn
  go_enter Try.func18, Try.ntmps18
  go_wp2_with (go_at_call 48; refine (new_no P M vm mod _ (hvm.kept hk0) HF.out).mono ?_; rintro e w1 ⟨rfl, k1⟩)
  go_ret2
  exact ⟨rfl, hk0.tr k1⟩

theorem none_any (P M : Int) (vm : Value) (mod : List Int) (w : World) (hvm : Sl w vm mod) (hn : ¬ FieldP P M mod) :
    Calls Try.prog 19 #[.agg #[.int .i64 P, .int .i64 M, vm]] w fun e w' => e = .returned (.bool true) ∧ Kept w w' := by
  have hk0 := kept_alloc w (.cells #[.int .i64 P, .int .i64 M, vm] 24)
  have hbx := boxF_new w P M vm 24
  have HF := hid hn
  clear hn
  go_enter Try.func19, Try.ntmps19
  go_wp2_with (first
    | (go_at_call 48; refine (new_no P M vm mod _ (hvm.kept hk0) HF.out).mono ?_; rintro e w1 ⟨rfl, k1⟩; have bx1 := hbx.kept k1; have c0 := bx1.h0; have c1 := bx1.h1; have c2 := bx1.h2)
    | (go_at_call 47; refine (rCheck_any P M vm mod _ ((hvm.kept hk0).kept k1) 1 (.inr ⟨fun h => HF.out ((field_check P M mod).2 h), rfl⟩)).mono ?_; rintro e w2 ⟨rfl, k2⟩))
  go_ret
  exact ⟨rfl, (hk0.tr k1).tr k2⟩
end Go.Proofs.Ytnmidgcmlkofjaa
