/- The row FieldAxioms. No conditions. -/
import Derived.Test.YtnmidgcmlkofjaaJo
import Derived.Test.YtnmidgcmlkofjaaLd
import Derived.Laws.IdiomArrays
namespace Go.Proofs.Ytnmidgcmlkofjaa
open Go.ChangeShapes Go.WideShapes Go.ChangeAt Go.RowKit Go.Joins Cw

theorem Try.cellsA : Try.prog.cellsOf 33 = 3 := by kernel_rfl
/-- An array of three integers that came in by value. -/
theorem three_in {H : Type} {enc : TypeId × Value → H} {W : World} {base : Nat} {v : Value} {d : DataW H} {p : List MemPlace} (hv : Value.okWide Try.prog W .any base 33 v) (h : DataW.Trod enc Try.prog W 0 (fun _ => true) true 33 v d p) :
    ∃ x y z : Int, v = .agg #[.int .i64 x, .int .i64 y, .int .i64 z] := by
  have h2 := hv
  simp only [Value.okWide, Try.underlying33] at h2
  obtain ⟨cs, rfl, h3, _⟩ := h2
  rw [Try.cellsA] at h3
  obtain ⟨c0, c1, c2, rfl⟩ := array3 h3
  obtain ⟨fuel, hf⟩ := h
  obtain ⟨y0, y1, y2, n, _, hy0, hy1, hy2⟩ := trod_array3 Try.underlying33 Try.cellsI (by simpa [Value.cells] using hf)
  obtain ⟨x, e0, _, _⟩ := DataW.trod_int Try.underlying3 hy0
  obtain ⟨y, e1, _, _⟩ := DataW.trod_int Try.underlying3 hy1
  obtain ⟨z, e2, _, _⟩ := DataW.trod_int Try.underlying3 hy2
  simp at e0 e1 e2
  exact ⟨x, y, z, by rw [e0, e1, e2]⟩

set_option maxRecDepth 100000 in
theorem fieldAxioms_lifted (os : Os) (started : os.Started) (H : Type) (enc : TypeId × Value → H) :
    ReturnsInHanded {} Try.checked os 4 .any (Rows.fieldAxiomsSpec.pre6 enc Try.prog Try.f4 Rows.fieldAxiomsRow.domain false) (Rows.fieldAxiomsSpec.post enc Try.prog Try.f4 false true false false) := by
  refine returnsInHanded_of_change (C := Try.checked) Try.own started (by kernel_rfl) Try.func4
    (ChangeSpec.witness6 (enc := enc) (C := Try.checked) false ⟨#[], #[.agg #[.int .i64 0, .int .i64 0, .slice none 0 0], .agg #[.int .i64 0, .int .i64 0, .int .i64 0]], []⟩ 8 (by kernel_rfl) (by kernel_rfl) (by kernel_rfl) (by kernel_rfl)) ?_
  intro W base args ds gs before hval0 hW hcnd _
  have hval : ∀ (j : Nat) t v, Try.f4.params[j]? = some t → args[j]? = some v → Value.okWide Try.prog W .any base t v := hval0
  have hW' := hW
  obtain ⟨p, q, hA0, hV, rfl, hfz, hnd⟩ := hW
  have hA : DataW.TrodAll enc Try.prog W 0 (fun _ => true) true Try.f4.params.toList args.toList ds p := hA0
  rw [Try.params4] at hA hval
  obtain ⟨v0, v1, d0, d1, p0, p1, rfl, rfl, rfl, h0, h1⟩ := trodAll_two hA
  obtain ⟨rfl, rfl⟩ := trodVars_none hV
  obtain ⟨P0, M0, vm0, mod0, rfl, s0⟩ := field_in (hval 0 24 v0 rfl rfl) h0
  obtain ⟨x, y, z, rfl⟩ := three_in (hval 1 33 v1 rfl rfl) h1
  clear hA0 hval0
  simp only [List.append_nil] at hW'
  have hlt0 : ∀ x ∈ p0, x.block < W.heap.size := fun x hx => by simpa using hW'.lt x (List.mem_append_left _ hx)
  have hlt1 : ∀ x ∈ p1, x.block < W.heap.size := fun x hx => by simpa using hW'.lt x (List.mem_append_right _ hx)
  refine (fieldAxioms_law P0 M0 vm0 mod0 x y z W s0).mono fun e W' ⟨he, hb⟩ => ?_
  subst he
  refine ⟨_, rfl, _, _, _, [], _, [], hW', trodAll_mk1 (shut_bool Try.underlying4 _), trodAll_mk2 (Below.trod Try.laidOut (by kernel_rfl) (of_decide_eq_true (by kernel_rfl)) h0 hb hlt0) (Below.trod Try.laidOut (by kernel_rfl) (of_decide_eq_true (by kernel_rfl)) h1 hb hlt1), rfl, hb.frame _, fun h => by cases h⟩

theorem fieldAxioms_holds : Rows.FieldAxiomsSaid :=
  OpenClaim.holds_of_wide 4 Try.f4 rfl rfl rfl rfl rfl rfl rfl ⟨rfl, rfl, rfl, rfl, rfl⟩ rfl rfl rfl rfl rfl (by kernel_rfl) Try.func4 (by kernel_rfl)
    (of_decide_eq_true (by kernel_rfl)) (by unfold Func.isWrapper; first | (rw [if_pos (by decide +kernel)]; kernel_rfl) | (rw [if_neg (by decide +kernel)]; exact ⟨rfl, rfl⟩))
    (fun os started H enc _ => fieldAxioms_lifted os started H enc)
end Go.Proofs.Ytnmidgcmlkofjaa
