/- The walk of the law FieldStandard. No conditions. -/
import Derived.Test.YtnmidgcmlkofjaaRj
import Derived.Test.YtnmidgcmlkofjaaLa
namespace Go.Proofs.Ytnmidgcmlkofjaa
open Go.RowKit Cw

set_option maxHeartbeats 1500000 in
theorem fieldStandard_law (q : Int) (w : World) : Calls Try.prog 16 #[.int .i64 q] w fun e w' => e = .returned (.bool true) ∧ Kept w w' := by
  by_cases hr : q < 2 ∨ 256 < q
  · have HR := hid hr
    clear hr
    go_enter Try.func16, Try.ntmps16
    go_wp2_with (first
      | (go_at_call 17; (with_reducible refine (alive_any _).mono ?_); rintro e w1 ⟨rfl, ka⟩)
      | (go_at_call 56; (with_reducible refine (standard_out q _ HR.out).mono ?_); rintro e w2 ⟨rfl, k2⟩; have bx2 := boxF_new w2 0 0 (.slice none 0 0) 24; have h2 := kept_alloc w2 (.cells #[.int .i64 0, .int .i64 0, .slice none 0 0] 24))
      | (go_at_call 57; (with_reducible refine (rStandard_out q _ HR.out).mono ?_); rintro e w3 ⟨rfl, k3⟩; have bx3 := (bx2.kept k3).kept (kept_alloc w3 (.cells #[.int .i64 0, .int .i64 0, .slice none 0 0] 24)); have c0 := bx3.h0; have c1 := bx3.h1; have c2 := bx3.h2)
      | (go_at_call 27; (with_reducible refine (rSame_any 0 0 _ [] 0 0 _ [] _ (sl_none _) (sl_none _) true ⟨fun _ => ⟨rfl, rfl, rfl⟩, fun _ => rfl⟩).mono ?_); rintro e w4 ⟨rfl, k4⟩))
    go_ret
    exact ⟨rfl, ((((ka.tr k2).tr h2).tr k3).tr (kept_alloc _ _)).tr k4⟩
  obtain ⟨n, rfl⟩ := Int.eq_ofNat_of_zero_le (show 0 ≤ q by omega)
  have n2 : 2 ≤ n := by omega
  have n256 : n ≤ 256 := by omega
  clear hr
  by_cases hex : ∃ (p : Int) (m : Nat) (mod : List Int), StdIs n p m mod
  · obtain ⟨p, m, mod, hs⟩ := hex
    have HS := hid hs
    clear hs
    go_enter Try.func16, Try.ntmps16
    go_wp2_with (first
      | (go_at_call 17; (with_reducible refine (alive_any _).mono ?_); rintro e w1 ⟨rfl, ka⟩)
      | (go_at_call 56; (with_reducible refine (standard_in n _ n2 n256).mono ?_); rintro e w2 ⟨(⟨p1, m1, mod1, v1, g1, rfl, sl1⟩ | ⟨hn, _⟩), k2⟩; rotate_left; (exact absurd HS.out (hn p m mod)); have G1 := hid g1; clear g1; obtain ⟨av1, cv1, hv1, _⟩ := id sl1; subst hv1; have bx2 := boxF_new w2 p1 m1 (.slice av1 mod1.length cv1) 24; have h2 := kept_alloc w2 (.cells #[.int .i64 p1, .int .i64 m1, .slice av1 mod1.length cv1] 24))
      | (go_at_call 57; (with_reducible refine (rStandard_in n _ n2 n256).mono ?_); rintro e w3 ⟨(⟨p2, m2, mod2, v2, g2, rfl, sl2⟩ | ⟨hn, _⟩), k3⟩; rotate_left; (exact absurd HS.out (hn p m mod)); have HE := hid (std_unique G1.out g2); clear g2; obtain ⟨av2, cv2, hv2, _⟩ := id sl2; subst hv2; have h3 := kept_alloc w3 (.cells #[.int .i64 p2, .int .i64 m2, .slice av2 mod2.length cv2] 24); have bx3 := (bx2.kept k3).kept h3; have by3 := boxF_new w3 p2 m2 (.slice av2 mod2.length cv2) 24; have c0 := bx3.h0; have c1 := bx3.h1; have c2 := bx3.h2; have d0 := by3.h0; have d1 := by3.h1; have d2 := by3.h2; have sl1' := ((sl1.kept h2).kept k3).kept h3; have sl2' := sl2.kept h3)
      | (go_at_call 27; (with_reducible refine (rSame_any p1 m1 _ mod1 p2 m2 _ mod2 _ sl1' sl2' true ⟨fun _ => ⟨HE.out.1, (by rw [HE.out.2.1]), HE.out.2.2⟩, fun _ => rfl⟩).mono ?_); rintro e w4 ⟨rfl, k4⟩))
    go_ret
    exact ⟨rfl, ((((ka.tr k2).tr h2).tr k3).tr h3).tr k4⟩
  · have HN : Hid (∀ (p : Int) (m : Nat) (mod : List Int), ¬ StdIs n p m mod) := hid (fun p m mod h => hex ⟨p, m, mod, h⟩)
    clear hex
    go_enter Try.func16, Try.ntmps16
    go_wp2_with (first
      | (go_at_call 17; (with_reducible refine (alive_any _).mono ?_); rintro e w1 ⟨rfl, ka⟩)
      | (go_at_call 56; (with_reducible refine (standard_in n _ n2 n256).mono ?_); rintro e w2 ⟨(⟨p1, m1, mod1, v1, g1, _, _⟩ | ⟨hn, rfl⟩), k2⟩; (exact absurd g1 (HN.out p1 m1 mod1)); have bx2 := boxF_new w2 0 0 (.slice none 0 0) 24; have h2 := kept_alloc w2 (.cells #[.int .i64 0, .int .i64 0, .slice none 0 0] 24); clear hn)
      | (go_at_call 57; (with_reducible refine (rStandard_in n _ n2 n256).mono ?_); rintro e w3 ⟨(⟨p2, m2, mod2, v2, g2, _, _⟩ | ⟨hn, rfl⟩), k3⟩; (exact absurd g2 (HN.out p2 m2 mod2)); have bx3 := (bx2.kept k3).kept (kept_alloc w3 (.cells #[.int .i64 0, .int .i64 0, .slice none 0 0] 24)); have c0 := bx3.h0; have c1 := bx3.h1; have c2 := bx3.h2; clear hn)
      | (go_at_call 27; (with_reducible refine (rSame_any 0 0 _ [] 0 0 _ [] _ (sl_none _) (sl_none _) true ⟨fun _ => ⟨rfl, rfl, rfl⟩, fun _ => rfl⟩).mono ?_); rintro e w4 ⟨rfl, k4⟩))
    go_ret
    exact ⟨rfl, ((((ka.tr k2).tr h2).tr k3).tr (kept_alloc _ _)).tr k4⟩
end Go.Proofs.Ytnmidgcmlkofjaa
