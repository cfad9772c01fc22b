/-
  No cell of these rows narrows 'for every input' (looked for: loops, veiled, ifaces, maps, wideKeys, modest, calm, conditions, laid).
  DERIVED. THE GIVEN ROWS OF THIS SEAT. 17 by the template 'for every input the law returns true; each argument reads behind the call as it read before'; 0 by the template 'total and deterministic' (their statements: YtjoednmoginhpaaTotals.lean).
  GIVEN WITH THE SEED: the statements are not yours to turn. If you find one false, say at which input.
  Laid BY PROGRAM, IN A SANDBOX (cutbox-rows.mjs): the forced cells as the released guide's own fill.sh prints them over the translation 3e85196802f4e1c2… (all of the seat's roots in one cut). By AI agents, Wed Nov 11 2026. No macro, syntax, notation, axiom, sorry.
-/
import Derived.Test.YtjoednmoginhpaaChecked
import GoSem.Claim
import GoSem.ClaimJoined
import GoSem.ClaimMapViews
import Derived.JoinedTies
import Derived.KernelRfl
namespace Go.Proofs.Ytjoednmoginhpaa
/- THE CELL 'sum', in the pinned program and in every row, IS THE sha256 OF THE DUMP (.gsa) THAT YtjoednmoginhpaaProg.lean LOADS. Nothing in Lean hashes anything: it is a label: what it is worth is what the hold of that sum in a sandbox is worth. -/
noncomputable def Try.pinned : Pinned := { name := "ytjoednmoginhpaa", sum := "3e85196802f4e1c27d2cf104cc60e5bc49b8957fa52b5b458b0546a4133d1f88", checked := Try.checked }
namespace Rows
def none {H : Type} : Left H := { results := [], args := [] }

/-- 'codewrightlaw05.PolyDivides': WHATEVER THE INPUT: true; the input reads as it did. -/
def polyDividesSpec : ChangeSpec := { name := "polyDivides", fn := fun _ => fun
  | [d1, d2, d3] => { results := [.lit (.bool true)], args := [d1, d2, d3] }
  | _ => none }
def polyDividesRow : OpenClaim := { program := "ytjoednmoginhpaa", sum := "3e85196802f4e1c27d2cf104cc60e5bc49b8957fa52b5b458b0546a4133d1f88", func := "codewright/codewrightlaw05.PolyDivides", spec := "polyDivides", apart := false }
def PolyDividesSaid : Prop := polyDividesRow.holds Try.pinned (OpenSpec.ofChange polyDividesSpec)

/-- ITS FALSE NEIGHBOUR: 'it returns false'. Refute it at one input. -/
def polyDividesWrong : ChangeSpec := { name := "polyDivides", fn := fun _ => fun
  | [d1, d2, d3] => { results := [.lit (.bool false)], args := [d1, d2, d3] }
  | _ => none }
def PolyDividesWrongFalsely : Prop := polyDividesRow.holds Try.pinned (OpenSpec.ofChange polyDividesWrong)

/-- 'codewrightlaw05.PolyCanon': WHATEVER THE INPUT: true; the input reads as it did. -/
def polyCanonSpec : ChangeSpec := { name := "polyCanon", fn := fun _ => fun
  | [d1, d2] => { results := [.lit (.bool true)], args := [d1, d2] }
  | _ => none }
def polyCanonRow : OpenClaim := { program := "ytjoednmoginhpaa", sum := "3e85196802f4e1c27d2cf104cc60e5bc49b8957fa52b5b458b0546a4133d1f88", func := "codewright/codewrightlaw05.PolyCanon", spec := "polyCanon", apart := false }
def PolyCanonSaid : Prop := polyCanonRow.holds Try.pinned (OpenSpec.ofChange polyCanonSpec)

/-- ITS FALSE NEIGHBOUR: 'it returns false'. Refute it at one input. -/
def polyCanonWrong : ChangeSpec := { name := "polyCanon", fn := fun _ => fun
  | [d1, d2] => { results := [.lit (.bool false)], args := [d1, d2] }
  | _ => none }
def PolyCanonWrongFalsely : Prop := polyCanonRow.holds Try.pinned (OpenSpec.ofChange polyCanonWrong)

/-- 'codewrightlaw05.PolyMultiplies': WHATEVER THE INPUT: true; the input reads as it did. -/
def polyMultipliesSpec : ChangeSpec := { name := "polyMultiplies", fn := fun _ => fun
  | [d1, d2, d3] => { results := [.lit (.bool true)], args := [d1, d2, d3] }
  | _ => none }
def polyMultipliesRow : OpenClaim := { program := "ytjoednmoginhpaa", sum := "3e85196802f4e1c27d2cf104cc60e5bc49b8957fa52b5b458b0546a4133d1f88", func := "codewright/codewrightlaw05.PolyMultiplies", spec := "polyMultiplies", apart := false }
def PolyMultipliesSaid : Prop := polyMultipliesRow.holds Try.pinned (OpenSpec.ofChange polyMultipliesSpec)

/-- ITS FALSE NEIGHBOUR: 'it returns false'. Refute it at one input. -/
def polyMultipliesWrong : ChangeSpec := { name := "polyMultiplies", fn := fun _ => fun
  | [d1, d2, d3] => { results := [.lit (.bool false)], args := [d1, d2, d3] }
  | _ => none }
def PolyMultipliesWrongFalsely : Prop := polyMultipliesRow.holds Try.pinned (OpenSpec.ofChange polyMultipliesWrong)

/-- 'codewrightlaw05.PolyShifts': WHATEVER THE INPUT: true; the input reads as it did. -/
def polyShiftsSpec : ChangeSpec := { name := "polyShifts", fn := fun _ => fun
  | [d1, d2, d3] => { results := [.lit (.bool true)], args := [d1, d2, d3] }
  | _ => none }
def polyShiftsRow : OpenClaim := { program := "ytjoednmoginhpaa", sum := "3e85196802f4e1c27d2cf104cc60e5bc49b8957fa52b5b458b0546a4133d1f88", func := "codewright/codewrightlaw05.PolyShifts", spec := "polyShifts", apart := false }
def PolyShiftsSaid : Prop := polyShiftsRow.holds Try.pinned (OpenSpec.ofChange polyShiftsSpec)

/-- ITS FALSE NEIGHBOUR: 'it returns false'. Refute it at one input. -/
def polyShiftsWrong : ChangeSpec := { name := "polyShifts", fn := fun _ => fun
  | [d1, d2, d3] => { results := [.lit (.bool false)], args := [d1, d2, d3] }
  | _ => none }
def PolyShiftsWrongFalsely : Prop := polyShiftsRow.holds Try.pinned (OpenSpec.ofChange polyShiftsWrong)

/-- 'codewrightlaw05.PolyReverses': WHATEVER THE INPUT: true; the input reads as it did. -/
def polyReversesSpec : ChangeSpec := { name := "polyReverses", fn := fun _ => fun
  | [d1, d2, d3] => { results := [.lit (.bool true)], args := [d1, d2, d3] }
  | _ => none }
def polyReversesRow : OpenClaim := { program := "ytjoednmoginhpaa", sum := "3e85196802f4e1c27d2cf104cc60e5bc49b8957fa52b5b458b0546a4133d1f88", func := "codewright/codewrightlaw05.PolyReverses", spec := "polyReverses", apart := false }
def PolyReversesSaid : Prop := polyReversesRow.holds Try.pinned (OpenSpec.ofChange polyReversesSpec)

/-- ITS FALSE NEIGHBOUR: 'it returns false'. Refute it at one input. -/
def polyReversesWrong : ChangeSpec := { name := "polyReverses", fn := fun _ => fun
  | [d1, d2, d3] => { results := [.lit (.bool false)], args := [d1, d2, d3] }
  | _ => none }
def PolyReversesWrongFalsely : Prop := polyReversesRow.holds Try.pinned (OpenSpec.ofChange polyReversesWrong)

/-- 'codewrightlaw05.PolyAdds': WHATEVER THE INPUT: true; the input reads as it did. -/
def polyAddsSpec : ChangeSpec := { name := "polyAdds", fn := fun _ => fun
  | [d1, d2, d3] => { results := [.lit (.bool true)], args := [d1, d2, d3] }
  | _ => none }
def polyAddsRow : OpenClaim := { program := "ytjoednmoginhpaa", sum := "3e85196802f4e1c27d2cf104cc60e5bc49b8957fa52b5b458b0546a4133d1f88", func := "codewright/codewrightlaw05.PolyAdds", spec := "polyAdds", apart := false }
def PolyAddsSaid : Prop := polyAddsRow.holds Try.pinned (OpenSpec.ofChange polyAddsSpec)

/-- ITS FALSE NEIGHBOUR: 'it returns false'. Refute it at one input. -/
def polyAddsWrong : ChangeSpec := { name := "polyAdds", fn := fun _ => fun
  | [d1, d2, d3] => { results := [.lit (.bool false)], args := [d1, d2, d3] }
  | _ => none }
def PolyAddsWrongFalsely : Prop := polyAddsRow.holds Try.pinned (OpenSpec.ofChange polyAddsWrong)

/-- 'codewrightlaw05.PolyRemainders': WHATEVER THE INPUT: true; the input reads as it did. -/
def polyRemaindersSpec : ChangeSpec := { name := "polyRemainders", fn := fun _ => fun
  | [d1, d2, d3] => { results := [.lit (.bool true)], args := [d1, d2, d3] }
  | _ => none }
def polyRemaindersRow : OpenClaim := { program := "ytjoednmoginhpaa", sum := "3e85196802f4e1c27d2cf104cc60e5bc49b8957fa52b5b458b0546a4133d1f88", func := "codewright/codewrightlaw05.PolyRemainders", spec := "polyRemainders", apart := false }
def PolyRemaindersSaid : Prop := polyRemaindersRow.holds Try.pinned (OpenSpec.ofChange polyRemaindersSpec)

/-- ITS FALSE NEIGHBOUR: 'it returns false'. Refute it at one input. -/
def polyRemaindersWrong : ChangeSpec := { name := "polyRemainders", fn := fun _ => fun
  | [d1, d2, d3] => { results := [.lit (.bool false)], args := [d1, d2, d3] }
  | _ => none }
def PolyRemaindersWrongFalsely : Prop := polyRemaindersRow.holds Try.pinned (OpenSpec.ofChange polyRemaindersWrong)

/-- 'codewrightlaw05.PolyFactors': WHATEVER THE INPUT: true; the input reads as it did. -/
def polyFactorsSpec : ChangeSpec := { name := "polyFactors", fn := fun _ => fun
  | [d1, d2, d3] => { results := [.lit (.bool true)], args := [d1, d2, d3] }
  | _ => none }
def polyFactorsRow : OpenClaim := { program := "ytjoednmoginhpaa", sum := "3e85196802f4e1c27d2cf104cc60e5bc49b8957fa52b5b458b0546a4133d1f88", func := "codewright/codewrightlaw05.PolyFactors", spec := "polyFactors", apart := false }
def PolyFactorsSaid : Prop := polyFactorsRow.holds Try.pinned (OpenSpec.ofChange polyFactorsSpec)

/-- ITS FALSE NEIGHBOUR: 'it returns false'. Refute it at one input. -/
def polyFactorsWrong : ChangeSpec := { name := "polyFactors", fn := fun _ => fun
  | [d1, d2, d3] => { results := [.lit (.bool false)], args := [d1, d2, d3] }
  | _ => none }
def PolyFactorsWrongFalsely : Prop := polyFactorsRow.holds Try.pinned (OpenSpec.ofChange polyFactorsWrong)

/-- 'codewrightlaw05.PolyMonic': WHATEVER THE INPUT: true; the input reads as it did. -/
def polyMonicSpec : ChangeSpec := { name := "polyMonic", fn := fun _ => fun
  | [d1, d2] => { results := [.lit (.bool true)], args := [d1, d2] }
  | _ => none }
def polyMonicRow : OpenClaim := { program := "ytjoednmoginhpaa", sum := "3e85196802f4e1c27d2cf104cc60e5bc49b8957fa52b5b458b0546a4133d1f88", func := "codewright/codewrightlaw05.PolyMonic", spec := "polyMonic", apart := false }
def PolyMonicSaid : Prop := polyMonicRow.holds Try.pinned (OpenSpec.ofChange polyMonicSpec)

/-- ITS FALSE NEIGHBOUR: 'it returns false'. Refute it at one input. -/
def polyMonicWrong : ChangeSpec := { name := "polyMonic", fn := fun _ => fun
  | [d1, d2] => { results := [.lit (.bool false)], args := [d1, d2] }
  | _ => none }
def PolyMonicWrongFalsely : Prop := polyMonicRow.holds Try.pinned (OpenSpec.ofChange polyMonicWrong)

/-- 'codewrightlaw05.PolyValues': WHATEVER THE INPUT: true; the input reads as it did. -/
def polyValuesSpec : ChangeSpec := { name := "polyValues", fn := fun _ => fun
  | [d1, d2, d3] => { results := [.lit (.bool true)], args := [d1, d2, d3] }
  | _ => none }
def polyValuesRow : OpenClaim := { program := "ytjoednmoginhpaa", sum := "3e85196802f4e1c27d2cf104cc60e5bc49b8957fa52b5b458b0546a4133d1f88", func := "codewright/codewrightlaw05.PolyValues", spec := "polyValues", apart := false }
def PolyValuesSaid : Prop := polyValuesRow.holds Try.pinned (OpenSpec.ofChange polyValuesSpec)

/-- ITS FALSE NEIGHBOUR: 'it returns false'. Refute it at one input. -/
def polyValuesWrong : ChangeSpec := { name := "polyValues", fn := fun _ => fun
  | [d1, d2, d3] => { results := [.lit (.bool false)], args := [d1, d2, d3] }
  | _ => none }
def PolyValuesWrongFalsely : Prop := polyValuesRow.holds Try.pinned (OpenSpec.ofChange polyValuesWrong)

/-- 'codewrightlaw05.PolyPowers': WHATEVER THE INPUT: true; the input reads as it did. -/
def polyPowersSpec : ChangeSpec := { name := "polyPowers", fn := fun _ => fun
  | [d1, d2, d3] => { results := [.lit (.bool true)], args := [d1, d2, d3] }
  | _ => none }
def polyPowersRow : OpenClaim := { program := "ytjoednmoginhpaa", sum := "3e85196802f4e1c27d2cf104cc60e5bc49b8957fa52b5b458b0546a4133d1f88", func := "codewright/codewrightlaw05.PolyPowers", spec := "polyPowers", apart := false }
def PolyPowersSaid : Prop := polyPowersRow.holds Try.pinned (OpenSpec.ofChange polyPowersSpec)

/-- ITS FALSE NEIGHBOUR: 'it returns false'. Refute it at one input. -/
def polyPowersWrong : ChangeSpec := { name := "polyPowers", fn := fun _ => fun
  | [d1, d2, d3] => { results := [.lit (.bool false)], args := [d1, d2, d3] }
  | _ => none }
def PolyPowersWrongFalsely : Prop := polyPowersRow.holds Try.pinned (OpenSpec.ofChange polyPowersWrong)

/-- 'codewrightlaw05.PolyComposes': WHATEVER THE INPUT: true; the input reads as it did. -/
def polyComposesSpec : ChangeSpec := { name := "polyComposes", fn := fun _ => fun
  | [d1, d2, d3] => { results := [.lit (.bool true)], args := [d1, d2, d3] }
  | _ => none }
def polyComposesRow : OpenClaim := { program := "ytjoednmoginhpaa", sum := "3e85196802f4e1c27d2cf104cc60e5bc49b8957fa52b5b458b0546a4133d1f88", func := "codewright/codewrightlaw05.PolyComposes", spec := "polyComposes", apart := false }
def PolyComposesSaid : Prop := polyComposesRow.holds Try.pinned (OpenSpec.ofChange polyComposesSpec)

/-- ITS FALSE NEIGHBOUR: 'it returns false'. Refute it at one input. -/
def polyComposesWrong : ChangeSpec := { name := "polyComposes", fn := fun _ => fun
  | [d1, d2, d3] => { results := [.lit (.bool false)], args := [d1, d2, d3] }
  | _ => none }
def PolyComposesWrongFalsely : Prop := polyComposesRow.holds Try.pinned (OpenSpec.ofChange polyComposesWrong)

/-- 'codewrightlaw05.PolyGcds': WHATEVER THE INPUT: true; the input reads as it did. -/
def polyGcdsSpec : ChangeSpec := { name := "polyGcds", fn := fun _ => fun
  | [d1, d2] => { results := [.lit (.bool true)], args := [d1, d2] }
  | _ => none }
def polyGcdsRow : OpenClaim := { program := "ytjoednmoginhpaa", sum := "3e85196802f4e1c27d2cf104cc60e5bc49b8957fa52b5b458b0546a4133d1f88", func := "codewright/codewrightlaw05.PolyGcds", spec := "polyGcds", apart := false }
def PolyGcdsSaid : Prop := polyGcdsRow.holds Try.pinned (OpenSpec.ofChange polyGcdsSpec)

/-- ITS FALSE NEIGHBOUR: 'it returns false'. Refute it at one input. -/
def polyGcdsWrong : ChangeSpec := { name := "polyGcds", fn := fun _ => fun
  | [d1, d2] => { results := [.lit (.bool false)], args := [d1, d2] }
  | _ => none }
def PolyGcdsWrongFalsely : Prop := polyGcdsRow.holds Try.pinned (OpenSpec.ofChange polyGcdsWrong)

/-- 'codewrightlaw05.PolyDerives': WHATEVER THE INPUT: true; the input reads as it did. -/
def polyDerivesSpec : ChangeSpec := { name := "polyDerives", fn := fun _ => fun
  | [d1, d2, d3] => { results := [.lit (.bool true)], args := [d1, d2, d3] }
  | _ => none }
def polyDerivesRow : OpenClaim := { program := "ytjoednmoginhpaa", sum := "3e85196802f4e1c27d2cf104cc60e5bc49b8957fa52b5b458b0546a4133d1f88", func := "codewright/codewrightlaw05.PolyDerives", spec := "polyDerives", apart := false }
def PolyDerivesSaid : Prop := polyDerivesRow.holds Try.pinned (OpenSpec.ofChange polyDerivesSpec)

/-- ITS FALSE NEIGHBOUR: 'it returns false'. Refute it at one input. -/
def polyDerivesWrong : ChangeSpec := { name := "polyDerives", fn := fun _ => fun
  | [d1, d2, d3] => { results := [.lit (.bool false)], args := [d1, d2, d3] }
  | _ => none }
def PolyDerivesWrongFalsely : Prop := polyDerivesRow.holds Try.pinned (OpenSpec.ofChange polyDerivesWrong)

/-- 'codewrightlaw05.PolyRoots': WHATEVER THE INPUT: true; the input reads as it did. -/
def polyRootsSpec : ChangeSpec := { name := "polyRoots", fn := fun _ => fun
  | [d1, d2] => { results := [.lit (.bool true)], args := [d1, d2] }
  | _ => none }
def polyRootsRow : OpenClaim := { program := "ytjoednmoginhpaa", sum := "3e85196802f4e1c27d2cf104cc60e5bc49b8957fa52b5b458b0546a4133d1f88", func := "codewright/codewrightlaw05.PolyRoots", spec := "polyRoots", unfollowed := true, recurses := true, apart := false }
def PolyRootsSaid : Prop := polyRootsRow.holds Try.pinned (OpenSpec.ofChange polyRootsSpec)

/-- ITS FALSE NEIGHBOUR: 'it returns false'. Refute it at one input. -/
def polyRootsWrong : ChangeSpec := { name := "polyRoots", fn := fun _ => fun
  | [d1, d2] => { results := [.lit (.bool false)], args := [d1, d2] }
  | _ => none }
def PolyRootsWrongFalsely : Prop := polyRootsRow.holds Try.pinned (OpenSpec.ofChange polyRootsWrong)

/-- 'codewrightlaw05.PolyInterpolates': WHATEVER THE INPUT: true; the input reads as it did. -/
def polyInterpolatesSpec : ChangeSpec := { name := "polyInterpolates", fn := fun _ => fun
  | [d1, d2, d3] => { results := [.lit (.bool true)], args := [d1, d2, d3] }
  | _ => none }
def polyInterpolatesRow : OpenClaim := { program := "ytjoednmoginhpaa", sum := "3e85196802f4e1c27d2cf104cc60e5bc49b8957fa52b5b458b0546a4133d1f88", func := "codewright/codewrightlaw05.PolyInterpolates", spec := "polyInterpolates", apart := false }
def PolyInterpolatesSaid : Prop := polyInterpolatesRow.holds Try.pinned (OpenSpec.ofChange polyInterpolatesSpec)

/-- ITS FALSE NEIGHBOUR: 'it returns false'. Refute it at one input. -/
def polyInterpolatesWrong : ChangeSpec := { name := "polyInterpolates", fn := fun _ => fun
  | [d1, d2, d3] => { results := [.lit (.bool false)], args := [d1, d2, d3] }
  | _ => none }
def PolyInterpolatesWrongFalsely : Prop := polyInterpolatesRow.holds Try.pinned (OpenSpec.ofChange polyInterpolatesWrong)

/-- 'codewrightlaw05.PolyBezouts': WHATEVER THE INPUT: true; the input reads as it did. -/
def polyBezoutsSpec : ChangeSpec := { name := "polyBezouts", fn := fun _ => fun
  | [d1, d2, d3] => { results := [.lit (.bool true)], args := [d1, d2, d3] }
  | _ => none }
def polyBezoutsRow : OpenClaim := { program := "ytjoednmoginhpaa", sum := "3e85196802f4e1c27d2cf104cc60e5bc49b8957fa52b5b458b0546a4133d1f88", func := "codewright/codewrightlaw05.PolyBezouts", spec := "polyBezouts", apart := false }
def PolyBezoutsSaid : Prop := polyBezoutsRow.holds Try.pinned (OpenSpec.ofChange polyBezoutsSpec)

/-- ITS FALSE NEIGHBOUR: 'it returns false'. Refute it at one input. -/
def polyBezoutsWrong : ChangeSpec := { name := "polyBezouts", fn := fun _ => fun
  | [d1, d2, d3] => { results := [.lit (.bool false)], args := [d1, d2, d3] }
  | _ => none }
def PolyBezoutsWrongFalsely : Prop := polyBezoutsRow.holds Try.pinned (OpenSpec.ofChange polyBezoutsWrong)

/- THE SECOND FORM. 'bulk': how many values and letters a reading holds, each counted each time it is reached (what is shared counts as often as it is met; a slice's spare places count too). A statement '..UptoSaid' is the law's where the arguments, and the package variables that the reading takes, are together of bulk at most 1048576: NARROWER than '..Said'. Prove '..Said' where nothing that the law and all that it calls make is longer than what came in: it says more and counts as full. Else prove '..UptoSaid'. A law counts once. -/
mutual
def uptoBulk {H : Type} : DataW H → Nat
  | .lit (.string bytes) => bytes.length + 1
  | .lit _ => 1
  | .nil => 1
  | .ptr d => uptoBulk d + 1
  | .slice elems spare => uptoBulkAll elems + uptoBulkAll spare + 1
  | .agg parts => uptoBulkAll parts + 1
  | .iface _ d => uptoBulk d + 1
  | .map entries => uptoBulkEntries entries + 1
  | .held _ => 1
def uptoBulkAll {H : Type} : List (DataW H) → Nat
  | [] => 0
  | d :: r => uptoBulk d + uptoBulkAll r
def uptoBulkEntries {H : Type} : List (Lit × DataW H) → Nat
  | [] => 0
  | x :: r => uptoBulkEntry x + uptoBulkEntries r
def uptoBulkEntry {H : Type} : Lit × DataW H → Nat
  | (.string bytes, d) => bytes.length + uptoBulk d + 1
  | (_, d) => uptoBulk d + 1
 end
def uptoSmall : (H : Type) → List (DataW H) → Bool := fun _ ds => decide (uptoBulkAll ds ≤ 1048576)
def OpenSpec.upto (s : _root_.Go.ChangeSpec) : _root_.Go.OpenSpec := { _root_.Go.OpenSpec.ofChange s with cond := some uptoSmall }

/-- 'codewrightlaw05.PolyDivides', WHERE WHAT IT READS IS OF BULK AT MOST 1048576: true; the input reads as it did. -/
def polyDividesUptoRow : OpenClaim := { program := "ytjoednmoginhpaa", sum := "3e85196802f4e1c27d2cf104cc60e5bc49b8957fa52b5b458b0546a4133d1f88", func := "codewright/codewrightlaw05.PolyDivides", spec := "polyDivides", apart := false, narrowed := true }
def PolyDividesUptoSaid : Prop := polyDividesUptoRow.holds Try.pinned (OpenSpec.upto polyDividesSpec)

/-- 'codewrightlaw05.PolyCanon', WHERE WHAT IT READS IS OF BULK AT MOST 1048576: true; the input reads as it did. -/
def polyCanonUptoRow : OpenClaim := { program := "ytjoednmoginhpaa", sum := "3e85196802f4e1c27d2cf104cc60e5bc49b8957fa52b5b458b0546a4133d1f88", func := "codewright/codewrightlaw05.PolyCanon", spec := "polyCanon", apart := false, narrowed := true }
def PolyCanonUptoSaid : Prop := polyCanonUptoRow.holds Try.pinned (OpenSpec.upto polyCanonSpec)

/-- 'codewrightlaw05.PolyMultiplies', WHERE WHAT IT READS IS OF BULK AT MOST 1048576: true; the input reads as it did. -/
def polyMultipliesUptoRow : OpenClaim := { program := "ytjoednmoginhpaa", sum := "3e85196802f4e1c27d2cf104cc60e5bc49b8957fa52b5b458b0546a4133d1f88", func := "codewright/codewrightlaw05.PolyMultiplies", spec := "polyMultiplies", apart := false, narrowed := true }
def PolyMultipliesUptoSaid : Prop := polyMultipliesUptoRow.holds Try.pinned (OpenSpec.upto polyMultipliesSpec)

/-- 'codewrightlaw05.PolyShifts', WHERE WHAT IT READS IS OF BULK AT MOST 1048576: true; the input reads as it did. -/
def polyShiftsUptoRow : OpenClaim := { program := "ytjoednmoginhpaa", sum := "3e85196802f4e1c27d2cf104cc60e5bc49b8957fa52b5b458b0546a4133d1f88", func := "codewright/codewrightlaw05.PolyShifts", spec := "polyShifts", apart := false, narrowed := true }
def PolyShiftsUptoSaid : Prop := polyShiftsUptoRow.holds Try.pinned (OpenSpec.upto polyShiftsSpec)

/-- 'codewrightlaw05.PolyReverses', WHERE WHAT IT READS IS OF BULK AT MOST 1048576: true; the input reads as it did. -/
def polyReversesUptoRow : OpenClaim := { program := "ytjoednmoginhpaa", sum := "3e85196802f4e1c27d2cf104cc60e5bc49b8957fa52b5b458b0546a4133d1f88", func := "codewright/codewrightlaw05.PolyReverses", spec := "polyReverses", apart := false, narrowed := true }
def PolyReversesUptoSaid : Prop := polyReversesUptoRow.holds Try.pinned (OpenSpec.upto polyReversesSpec)

/-- 'codewrightlaw05.PolyAdds', WHERE WHAT IT READS IS OF BULK AT MOST 1048576: true; the input reads as it did. -/
def polyAddsUptoRow : OpenClaim := { program := "ytjoednmoginhpaa", sum := "3e85196802f4e1c27d2cf104cc60e5bc49b8957fa52b5b458b0546a4133d1f88", func := "codewright/codewrightlaw05.PolyAdds", spec := "polyAdds", apart := false, narrowed := true }
def PolyAddsUptoSaid : Prop := polyAddsUptoRow.holds Try.pinned (OpenSpec.upto polyAddsSpec)

/-- 'codewrightlaw05.PolyRemainders', WHERE WHAT IT READS IS OF BULK AT MOST 1048576: true; the input reads as it did. -/
def polyRemaindersUptoRow : OpenClaim := { program := "ytjoednmoginhpaa", sum := "3e85196802f4e1c27d2cf104cc60e5bc49b8957fa52b5b458b0546a4133d1f88", func := "codewright/codewrightlaw05.PolyRemainders", spec := "polyRemainders", apart := false, narrowed := true }
def PolyRemaindersUptoSaid : Prop := polyRemaindersUptoRow.holds Try.pinned (OpenSpec.upto polyRemaindersSpec)

/-- 'codewrightlaw05.PolyFactors', WHERE WHAT IT READS IS OF BULK AT MOST 1048576: true; the input reads as it did. -/
def polyFactorsUptoRow : OpenClaim := { program := "ytjoednmoginhpaa", sum := "3e85196802f4e1c27d2cf104cc60e5bc49b8957fa52b5b458b0546a4133d1f88", func := "codewright/codewrightlaw05.PolyFactors", spec := "polyFactors", apart := false, narrowed := true }
def PolyFactorsUptoSaid : Prop := polyFactorsUptoRow.holds Try.pinned (OpenSpec.upto polyFactorsSpec)

/-- 'codewrightlaw05.PolyMonic', WHERE WHAT IT READS IS OF BULK AT MOST 1048576: true; the input reads as it did. -/
def polyMonicUptoRow : OpenClaim := { program := "ytjoednmoginhpaa", sum := "3e85196802f4e1c27d2cf104cc60e5bc49b8957fa52b5b458b0546a4133d1f88", func := "codewright/codewrightlaw05.PolyMonic", spec := "polyMonic", apart := false, narrowed := true }
def PolyMonicUptoSaid : Prop := polyMonicUptoRow.holds Try.pinned (OpenSpec.upto polyMonicSpec)

/-- 'codewrightlaw05.PolyValues', WHERE WHAT IT READS IS OF BULK AT MOST 1048576: true; the input reads as it did. -/
def polyValuesUptoRow : OpenClaim := { program := "ytjoednmoginhpaa", sum := "3e85196802f4e1c27d2cf104cc60e5bc49b8957fa52b5b458b0546a4133d1f88", func := "codewright/codewrightlaw05.PolyValues", spec := "polyValues", apart := false, narrowed := true }
def PolyValuesUptoSaid : Prop := polyValuesUptoRow.holds Try.pinned (OpenSpec.upto polyValuesSpec)

/-- 'codewrightlaw05.PolyPowers', WHERE WHAT IT READS IS OF BULK AT MOST 1048576: true; the input reads as it did. -/
def polyPowersUptoRow : OpenClaim := { program := "ytjoednmoginhpaa", sum := "3e85196802f4e1c27d2cf104cc60e5bc49b8957fa52b5b458b0546a4133d1f88", func := "codewright/codewrightlaw05.PolyPowers", spec := "polyPowers", apart := false, narrowed := true }
def PolyPowersUptoSaid : Prop := polyPowersUptoRow.holds Try.pinned (OpenSpec.upto polyPowersSpec)

/-- 'codewrightlaw05.PolyComposes', WHERE WHAT IT READS IS OF BULK AT MOST 1048576: true; the input reads as it did. -/
def polyComposesUptoRow : OpenClaim := { program := "ytjoednmoginhpaa", sum := "3e85196802f4e1c27d2cf104cc60e5bc49b8957fa52b5b458b0546a4133d1f88", func := "codewright/codewrightlaw05.PolyComposes", spec := "polyComposes", apart := false, narrowed := true }
def PolyComposesUptoSaid : Prop := polyComposesUptoRow.holds Try.pinned (OpenSpec.upto polyComposesSpec)

/-- 'codewrightlaw05.PolyGcds', WHERE WHAT IT READS IS OF BULK AT MOST 1048576: true; the input reads as it did. -/
def polyGcdsUptoRow : OpenClaim := { program := "ytjoednmoginhpaa", sum := "3e85196802f4e1c27d2cf104cc60e5bc49b8957fa52b5b458b0546a4133d1f88", func := "codewright/codewrightlaw05.PolyGcds", spec := "polyGcds", apart := false, narrowed := true }
def PolyGcdsUptoSaid : Prop := polyGcdsUptoRow.holds Try.pinned (OpenSpec.upto polyGcdsSpec)

/-- 'codewrightlaw05.PolyDerives', WHERE WHAT IT READS IS OF BULK AT MOST 1048576: true; the input reads as it did. -/
def polyDerivesUptoRow : OpenClaim := { program := "ytjoednmoginhpaa", sum := "3e85196802f4e1c27d2cf104cc60e5bc49b8957fa52b5b458b0546a4133d1f88", func := "codewright/codewrightlaw05.PolyDerives", spec := "polyDerives", apart := false, narrowed := true }
def PolyDerivesUptoSaid : Prop := polyDerivesUptoRow.holds Try.pinned (OpenSpec.upto polyDerivesSpec)

/-- 'codewrightlaw05.PolyRoots', WHERE WHAT IT READS IS OF BULK AT MOST 1048576: true; the input reads as it did. -/
def polyRootsUptoRow : OpenClaim := { program := "ytjoednmoginhpaa", sum := "3e85196802f4e1c27d2cf104cc60e5bc49b8957fa52b5b458b0546a4133d1f88", func := "codewright/codewrightlaw05.PolyRoots", spec := "polyRoots", unfollowed := true, recurses := true, apart := false, narrowed := true }
def PolyRootsUptoSaid : Prop := polyRootsUptoRow.holds Try.pinned (OpenSpec.upto polyRootsSpec)

/-- 'codewrightlaw05.PolyInterpolates', WHERE WHAT IT READS IS OF BULK AT MOST 1048576: true; the input reads as it did. -/
def polyInterpolatesUptoRow : OpenClaim := { program := "ytjoednmoginhpaa", sum := "3e85196802f4e1c27d2cf104cc60e5bc49b8957fa52b5b458b0546a4133d1f88", func := "codewright/codewrightlaw05.PolyInterpolates", spec := "polyInterpolates", apart := false, narrowed := true }
def PolyInterpolatesUptoSaid : Prop := polyInterpolatesUptoRow.holds Try.pinned (OpenSpec.upto polyInterpolatesSpec)

/-- 'codewrightlaw05.PolyBezouts', WHERE WHAT IT READS IS OF BULK AT MOST 1048576: true; the input reads as it did. -/
def polyBezoutsUptoRow : OpenClaim := { program := "ytjoednmoginhpaa", sum := "3e85196802f4e1c27d2cf104cc60e5bc49b8957fa52b5b458b0546a4133d1f88", func := "codewright/codewrightlaw05.PolyBezouts", spec := "polyBezouts", apart := false, narrowed := true }
def PolyBezoutsUptoSaid : Prop := polyBezoutsUptoRow.holds Try.pinned (OpenSpec.upto polyBezoutsSpec)

end Rows
end Go.Proofs.Ytjoednmoginhpaa
