/- A cell of a boxed argument. No conditions. -/
import Derived.Test.YtmakdclgpeochaaNd
namespace Go.Proofs.Ytmakdclgpeochaa
open Go.RowKit Cw

/-- Cell i of the block b holds the value v. -/
structure Bx (w : World) (b i : Nat) (v : Value) : Prop where
  lt : b < w.heap.size
  h : w.cell? ⟨b, i, none⟩ = some v
theorem Bx.kept {w w' : World} {b i : Nat} {v : Value} (h : Bx w b i v) (k : Kept w w') : Bx w' b i v := ⟨k.lt h.lt, (Kept.cell' k h.lt).trans h.h⟩
theorem drewN_sz (w : World) (n : Nat) : w.heap.size = (w.drewN n).heap.size := rfl
theorem sllb_three (w : World) (b : Nat) (hb : b = w.heap.size) (a1 a2 a3 : Option Addr) (c1 c2 c3 : Nat) (l1 l2 l3 : List Int) (T : TypeId) (h1 : Sl w (.slice a1 l1.length c1) l1) (h2 : Sl w (.slice a2 l2.length c2) l2) (h3 : Sl w (.slice a3 l3.length c3) l3) :
    SlL (w.alloc (.cells #[.slice a1 l1.length c1, .slice a2 l2.length c2, .slice a3 l3.length c3] T)) (.slice (some ⟨b, 0, none⟩) 3 3) [l1, l2, l3] := by
  subst hb
  exact sll_three w _ _ _ _ _ _ _ _ _ T h1 h2 h3
theorem sllb_two (w : World) (b : Nat) (hb : b = w.heap.size) (a1 a2 : Option Addr) (c1 c2 : Nat) (l1 l2 : List Int) (T : TypeId) (h1 : Sl w (.slice a1 l1.length c1) l1) (h2 : Sl w (.slice a2 l2.length c2) l2) :
    SlL (w.alloc (.cells #[.slice a1 l1.length c1, .slice a2 l2.length c2] T)) (.slice (some ⟨b, 0, none⟩) 2 2) [l1, l2] := by
  subst hb
  exact sll_two w _ _ _ _ _ _ T h1 h2
end Go.Proofs.Ytmakdclgpeochaa
