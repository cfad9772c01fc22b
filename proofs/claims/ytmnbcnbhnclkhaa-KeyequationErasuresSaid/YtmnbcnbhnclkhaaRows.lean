/-
  No cell of these rows narrows 'for every input' (looked for: loops, veiled, ifaces, maps, wideKeys, modest, calm, conditions, laid).
  DERIVED. THE GIVEN ROWS OF THIS SEAT. 10 by the template 'for every input the law returns true; each argument reads behind the call as it read before'; 0 by the template 'total and deterministic' (their statements: YtmnbcnbhnclkhaaTotals.lean).
  GIVEN WITH THE SEED: the statements are not yours to turn. If you find one false, say at which input.
  Laid BY PROGRAM, IN A SANDBOX (cutbox-rows.mjs): the forced cells as the released guide's own fill.sh prints them over the translation 1850fad27fa04824… (all of the seat's roots in one cut). By AI agents, Wed Nov 11 2026. No macro, syntax, notation, axiom, sorry.
-/
import Derived.Test.YtmnbcnbhnclkhaaChecked
import GoSem.Claim
import GoSem.ClaimJoined
import GoSem.ClaimMapViews
import Derived.JoinedTies
import Derived.KernelRfl
namespace Go.Proofs.Ytmnbcnbhnclkhaa
/- THE CELL 'sum', in the pinned program and in every row, IS THE sha256 OF THE DUMP (.gsa) THAT YtmnbcnbhnclkhaaProg.lean LOADS. Nothing in Lean hashes anything: it is a label: what it is worth is what the hold of that sum in a sandbox is worth. -/
noncomputable def Try.pinned : Pinned := { name := "ytmnbcnbhnclkhaa", sum := "1850fad27fa048245c99cdad0ee0fa6f4d3d6b068892e21860f9939e49a08055", checked := Try.checked }
namespace Rows
def none {H : Type} : Left H := { results := [], args := [] }

/-- 'codewrightlaw38.KeyequationSyndromes': WHATEVER THE INPUT: true; the input reads as it did. -/
def keyequationSyndromesSpec : ChangeSpec := { name := "keyequationSyndromes", fn := fun _ => fun
  | [d1, d2, d3] => { results := [.lit (.bool true)], args := [d1, d2, d3] }
  | _ => none }
def keyequationSyndromesRow : OpenClaim := { program := "ytmnbcnbhnclkhaa", sum := "1850fad27fa048245c99cdad0ee0fa6f4d3d6b068892e21860f9939e49a08055", func := "codewright/codewrightlaw38.KeyequationSyndromes", spec := "keyequationSyndromes", apart := false }
def KeyequationSyndromesSaid : Prop := keyequationSyndromesRow.holds Try.pinned (OpenSpec.ofChange keyequationSyndromesSpec)

/-- ITS FALSE NEIGHBOUR: 'it returns false'. Refute it at one input. -/
def keyequationSyndromesWrong : ChangeSpec := { name := "keyequationSyndromes", fn := fun _ => fun
  | [d1, d2, d3] => { results := [.lit (.bool false)], args := [d1, d2, d3] }
  | _ => none }
def KeyequationSyndromesWrongFalsely : Prop := keyequationSyndromesRow.holds Try.pinned (OpenSpec.ofChange keyequationSyndromesWrong)

/-- 'codewrightlaw38.KeyequationSolves': WHATEVER THE INPUT: true; the input reads as it did. -/
def keyequationSolvesSpec : ChangeSpec := { name := "keyequationSolves", fn := fun _ => fun
  | [d1, d2, d3] => { results := [.lit (.bool true)], args := [d1, d2, d3] }
  | _ => none }
def keyequationSolvesRow : OpenClaim := { program := "ytmnbcnbhnclkhaa", sum := "1850fad27fa048245c99cdad0ee0fa6f4d3d6b068892e21860f9939e49a08055", func := "codewright/codewrightlaw38.KeyequationSolves", spec := "keyequationSolves", apart := false }
def KeyequationSolvesSaid : Prop := keyequationSolvesRow.holds Try.pinned (OpenSpec.ofChange keyequationSolvesSpec)

/-- ITS FALSE NEIGHBOUR: 'it returns false'. Refute it at one input. -/
def keyequationSolvesWrong : ChangeSpec := { name := "keyequationSolves", fn := fun _ => fun
  | [d1, d2, d3] => { results := [.lit (.bool false)], args := [d1, d2, d3] }
  | _ => none }
def KeyequationSolvesWrongFalsely : Prop := keyequationSolvesRow.holds Try.pinned (OpenSpec.ofChange keyequationSolvesWrong)

/-- 'codewrightlaw38.KeyequationOnly': WHATEVER THE INPUT: true; the input reads as it did. -/
def keyequationOnlySpec : ChangeSpec := { name := "keyequationOnly", fn := fun _ => fun
  | [d1, d2, d3] => { results := [.lit (.bool true)], args := [d1, d2, d3] }
  | _ => none }
def keyequationOnlyRow : OpenClaim := { program := "ytmnbcnbhnclkhaa", sum := "1850fad27fa048245c99cdad0ee0fa6f4d3d6b068892e21860f9939e49a08055", func := "codewright/codewrightlaw38.KeyequationOnly", spec := "keyequationOnly", apart := false }
def KeyequationOnlySaid : Prop := keyequationOnlyRow.holds Try.pinned (OpenSpec.ofChange keyequationOnlySpec)

/-- ITS FALSE NEIGHBOUR: 'it returns false'. Refute it at one input. -/
def keyequationOnlyWrong : ChangeSpec := { name := "keyequationOnly", fn := fun _ => fun
  | [d1, d2, d3] => { results := [.lit (.bool false)], args := [d1, d2, d3] }
  | _ => none }
def KeyequationOnlyWrongFalsely : Prop := keyequationOnlyRow.holds Try.pinned (OpenSpec.ofChange keyequationOnlyWrong)

/-- 'codewrightlaw38.KeyequationFinds': WHATEVER THE INPUT: true; the input reads as it did. -/
def keyequationFindsSpec : ChangeSpec := { name := "keyequationFinds", fn := fun _ => fun
  | [d1, d2, d3] => { results := [.lit (.bool true)], args := [d1, d2, d3] }
  | _ => none }
def keyequationFindsRow : OpenClaim := { program := "ytmnbcnbhnclkhaa", sum := "1850fad27fa048245c99cdad0ee0fa6f4d3d6b068892e21860f9939e49a08055", func := "codewright/codewrightlaw38.KeyequationFinds", spec := "keyequationFinds", apart := false }
def KeyequationFindsSaid : Prop := keyequationFindsRow.holds Try.pinned (OpenSpec.ofChange keyequationFindsSpec)

/-- ITS FALSE NEIGHBOUR: 'it returns false'. Refute it at one input. -/
def keyequationFindsWrong : ChangeSpec := { name := "keyequationFinds", fn := fun _ => fun
  | [d1, d2, d3] => { results := [.lit (.bool false)], args := [d1, d2, d3] }
  | _ => none }
def KeyequationFindsWrongFalsely : Prop := keyequationFindsRow.holds Try.pinned (OpenSpec.ofChange keyequationFindsWrong)

/-- 'codewrightlaw38.KeyequationErasures': WHATEVER THE INPUT: true; the input reads as it did. -/
def keyequationErasuresSpec : ChangeSpec := { name := "keyequationErasures", fn := fun _ => fun
  | [d1, d2, d3] => { results := [.lit (.bool true)], args := [d1, d2, d3] }
  | _ => none }
def keyequationErasuresRow : OpenClaim := { program := "ytmnbcnbhnclkhaa", sum := "1850fad27fa048245c99cdad0ee0fa6f4d3d6b068892e21860f9939e49a08055", func := "codewright/codewrightlaw38.KeyequationErasures", spec := "keyequationErasures", apart := false }
def KeyequationErasuresSaid : Prop := keyequationErasuresRow.holds Try.pinned (OpenSpec.ofChange keyequationErasuresSpec)

/-- ITS FALSE NEIGHBOUR: 'it returns false'. Refute it at one input. -/
def keyequationErasuresWrong : ChangeSpec := { name := "keyequationErasures", fn := fun _ => fun
  | [d1, d2, d3] => { results := [.lit (.bool false)], args := [d1, d2, d3] }
  | _ => none }
def KeyequationErasuresWrongFalsely : Prop := keyequationErasuresRow.holds Try.pinned (OpenSpec.ofChange keyequationErasuresWrong)

/-- 'codewrightlaw38.KeyequationForney': WHATEVER THE INPUT: true; the input reads as it did. -/
def keyequationForneySpec : ChangeSpec := { name := "keyequationForney", fn := fun _ => fun
  | [d1, d2, d3] => { results := [.lit (.bool true)], args := [d1, d2, d3] }
  | _ => none }
def keyequationForneyRow : OpenClaim := { program := "ytmnbcnbhnclkhaa", sum := "1850fad27fa048245c99cdad0ee0fa6f4d3d6b068892e21860f9939e49a08055", func := "codewright/codewrightlaw38.KeyequationForney", spec := "keyequationForney", apart := false }
def KeyequationForneySaid : Prop := keyequationForneyRow.holds Try.pinned (OpenSpec.ofChange keyequationForneySpec)

/-- ITS FALSE NEIGHBOUR: 'it returns false'. Refute it at one input. -/
def keyequationForneyWrong : ChangeSpec := { name := "keyequationForney", fn := fun _ => fun
  | [d1, d2, d3] => { results := [.lit (.bool false)], args := [d1, d2, d3] }
  | _ => none }
def KeyequationForneyWrongFalsely : Prop := keyequationForneyRow.holds Try.pinned (OpenSpec.ofChange keyequationForneyWrong)

/-- 'codewrightlaw38.KeyequationHolds': WHATEVER THE INPUT: true; the input reads as it did. -/
def keyequationHoldsSpec : ChangeSpec := { name := "keyequationHolds", fn := fun _ => fun
  | [d1, d2, d3] => { results := [.lit (.bool true)], args := [d1, d2, d3] }
  | _ => none }
def keyequationHoldsRow : OpenClaim := { program := "ytmnbcnbhnclkhaa", sum := "1850fad27fa048245c99cdad0ee0fa6f4d3d6b068892e21860f9939e49a08055", func := "codewright/codewrightlaw38.KeyequationHolds", spec := "keyequationHolds", apart := false }
def KeyequationHoldsSaid : Prop := keyequationHoldsRow.holds Try.pinned (OpenSpec.ofChange keyequationHoldsSpec)

/-- ITS FALSE NEIGHBOUR: 'it returns false'. Refute it at one input. -/
def keyequationHoldsWrong : ChangeSpec := { name := "keyequationHolds", fn := fun _ => fun
  | [d1, d2, d3] => { results := [.lit (.bool false)], args := [d1, d2, d3] }
  | _ => none }
def KeyequationHoldsWrongFalsely : Prop := keyequationHoldsRow.holds Try.pinned (OpenSpec.ofChange keyequationHoldsWrong)

/-- 'codewrightlaw38.KeyequationLocators': WHATEVER THE INPUT: true; the input reads as it did. -/
def keyequationLocatorsSpec : ChangeSpec := { name := "keyequationLocators", fn := fun _ => fun
  | [d1, d2, d3] => { results := [.lit (.bool true)], args := [d1, d2, d3] }
  | _ => none }
def keyequationLocatorsRow : OpenClaim := { program := "ytmnbcnbhnclkhaa", sum := "1850fad27fa048245c99cdad0ee0fa6f4d3d6b068892e21860f9939e49a08055", func := "codewright/codewrightlaw38.KeyequationLocators", spec := "keyequationLocators", apart := false }
def KeyequationLocatorsSaid : Prop := keyequationLocatorsRow.holds Try.pinned (OpenSpec.ofChange keyequationLocatorsSpec)

/-- ITS FALSE NEIGHBOUR: 'it returns false'. Refute it at one input. -/
def keyequationLocatorsWrong : ChangeSpec := { name := "keyequationLocators", fn := fun _ => fun
  | [d1, d2, d3] => { results := [.lit (.bool false)], args := [d1, d2, d3] }
  | _ => none }
def KeyequationLocatorsWrongFalsely : Prop := keyequationLocatorsRow.holds Try.pinned (OpenSpec.ofChange keyequationLocatorsWrong)

/-- 'codewrightlaw38.KeyequationRegisters': WHATEVER THE INPUT: true; the input reads as it did. -/
def keyequationRegistersSpec : ChangeSpec := { name := "keyequationRegisters", fn := fun _ => fun
  | [d1, d2] => { results := [.lit (.bool true)], args := [d1, d2] }
  | _ => none }
def keyequationRegistersRow : OpenClaim := { program := "ytmnbcnbhnclkhaa", sum := "1850fad27fa048245c99cdad0ee0fa6f4d3d6b068892e21860f9939e49a08055", func := "codewright/codewrightlaw38.KeyequationRegisters", spec := "keyequationRegisters", unfollowed := true, recurses := true, apart := false }
def KeyequationRegistersSaid : Prop := keyequationRegistersRow.holds Try.pinned (OpenSpec.ofChange keyequationRegistersSpec)

/-- ITS FALSE NEIGHBOUR: 'it returns false'. Refute it at one input. -/
def keyequationRegistersWrong : ChangeSpec := { name := "keyequationRegisters", fn := fun _ => fun
  | [d1, d2] => { results := [.lit (.bool false)], args := [d1, d2] }
  | _ => none }
def KeyequationRegistersWrongFalsely : Prop := keyequationRegistersRow.holds Try.pinned (OpenSpec.ofChange keyequationRegistersWrong)

/-- 'codewrightlaw38.KeyequationRecovers': WHATEVER THE INPUT: true; the input reads as it did. -/
def keyequationRecoversSpec : ChangeSpec := { name := "keyequationRecovers", fn := fun _ => fun
  | [d1, d2, d3] => { results := [.lit (.bool true)], args := [d1, d2, d3] }
  | _ => none }
def keyequationRecoversRow : OpenClaim := { program := "ytmnbcnbhnclkhaa", sum := "1850fad27fa048245c99cdad0ee0fa6f4d3d6b068892e21860f9939e49a08055", func := "codewright/codewrightlaw38.KeyequationRecovers", spec := "keyequationRecovers", apart := false }
def KeyequationRecoversSaid : Prop := keyequationRecoversRow.holds Try.pinned (OpenSpec.ofChange keyequationRecoversSpec)

/-- ITS FALSE NEIGHBOUR: 'it returns false'. Refute it at one input. -/
def keyequationRecoversWrong : ChangeSpec := { name := "keyequationRecovers", fn := fun _ => fun
  | [d1, d2, d3] => { results := [.lit (.bool false)], args := [d1, d2, d3] }
  | _ => none }
def KeyequationRecoversWrongFalsely : Prop := keyequationRecoversRow.holds Try.pinned (OpenSpec.ofChange keyequationRecoversWrong)

/- THE SECOND FORM. 'bulk': how many values and letters a reading holds, each counted each time it is reached (what is shared counts as often as it is met; a slice's spare places count too). A statement '..UptoSaid' is the law's where the arguments, and the package variables that the reading takes, are together of bulk at most 1048576: NARROWER than '..Said'. Prove '..Said' where nothing that the law and all that it calls make is longer than what came in: it says more and counts as full. Else prove '..UptoSaid'. A law counts once. -/
mutual
def uptoBulk {H : Type} : DataW H → Nat
  | .lit (.string bytes) => bytes.length + 1
  | .lit _ => 1
  | .nil => 1
  | .ptr d => uptoBulk d + 1
  | .slice elems spare => uptoBulkAll elems + uptoBulkAll spare + 1
  | .agg parts => uptoBulkAll parts + 1
  | .iface _ d => uptoBulk d + 1
  | .map entries => uptoBulkEntries entries + 1
  | .held _ => 1
def uptoBulkAll {H : Type} : List (DataW H) → Nat
  | [] => 0
  | d :: r => uptoBulk d + uptoBulkAll r
def uptoBulkEntries {H : Type} : List (Lit × DataW H) → Nat
  | [] => 0
  | x :: r => uptoBulkEntry x + uptoBulkEntries r
def uptoBulkEntry {H : Type} : Lit × DataW H → Nat
  | (.string bytes, d) => bytes.length + uptoBulk d + 1
  | (_, d) => uptoBulk d + 1
 end
def uptoSmall : (H : Type) → List (DataW H) → Bool := fun _ ds => decide (uptoBulkAll ds ≤ 1048576)
def OpenSpec.upto (s : _root_.Go.ChangeSpec) : _root_.Go.OpenSpec := { _root_.Go.OpenSpec.ofChange s with cond := some uptoSmall }

/-- 'codewrightlaw38.KeyequationSyndromes', WHERE WHAT IT READS IS OF BULK AT MOST 1048576: true; the input reads as it did. -/
def keyequationSyndromesUptoRow : OpenClaim := { program := "ytmnbcnbhnclkhaa", sum := "1850fad27fa048245c99cdad0ee0fa6f4d3d6b068892e21860f9939e49a08055", func := "codewright/codewrightlaw38.KeyequationSyndromes", spec := "keyequationSyndromes", apart := false, narrowed := true }
def KeyequationSyndromesUptoSaid : Prop := keyequationSyndromesUptoRow.holds Try.pinned (OpenSpec.upto keyequationSyndromesSpec)

/-- 'codewrightlaw38.KeyequationSolves', WHERE WHAT IT READS IS OF BULK AT MOST 1048576: true; the input reads as it did. -/
def keyequationSolvesUptoRow : OpenClaim := { program := "ytmnbcnbhnclkhaa", sum := "1850fad27fa048245c99cdad0ee0fa6f4d3d6b068892e21860f9939e49a08055", func := "codewright/codewrightlaw38.KeyequationSolves", spec := "keyequationSolves", apart := false, narrowed := true }
def KeyequationSolvesUptoSaid : Prop := keyequationSolvesUptoRow.holds Try.pinned (OpenSpec.upto keyequationSolvesSpec)

/-- 'codewrightlaw38.KeyequationOnly', WHERE WHAT IT READS IS OF BULK AT MOST 1048576: true; the input reads as it did. -/
def keyequationOnlyUptoRow : OpenClaim := { program := "ytmnbcnbhnclkhaa", sum := "1850fad27fa048245c99cdad0ee0fa6f4d3d6b068892e21860f9939e49a08055", func := "codewright/codewrightlaw38.KeyequationOnly", spec := "keyequationOnly", apart := false, narrowed := true }
def KeyequationOnlyUptoSaid : Prop := keyequationOnlyUptoRow.holds Try.pinned (OpenSpec.upto keyequationOnlySpec)

/-- 'codewrightlaw38.KeyequationFinds', WHERE WHAT IT READS IS OF BULK AT MOST 1048576: true; the input reads as it did. -/
def keyequationFindsUptoRow : OpenClaim := { program := "ytmnbcnbhnclkhaa", sum := "1850fad27fa048245c99cdad0ee0fa6f4d3d6b068892e21860f9939e49a08055", func := "codewright/codewrightlaw38.KeyequationFinds", spec := "keyequationFinds", apart := false, narrowed := true }
def KeyequationFindsUptoSaid : Prop := keyequationFindsUptoRow.holds Try.pinned (OpenSpec.upto keyequationFindsSpec)

/-- 'codewrightlaw38.KeyequationErasures', WHERE WHAT IT READS IS OF BULK AT MOST 1048576: true; the input reads as it did. -/
def keyequationErasuresUptoRow : OpenClaim := { program := "ytmnbcnbhnclkhaa", sum := "1850fad27fa048245c99cdad0ee0fa6f4d3d6b068892e21860f9939e49a08055", func := "codewright/codewrightlaw38.KeyequationErasures", spec := "keyequationErasures", apart := false, narrowed := true }
def KeyequationErasuresUptoSaid : Prop := keyequationErasuresUptoRow.holds Try.pinned (OpenSpec.upto keyequationErasuresSpec)

/-- 'codewrightlaw38.KeyequationForney', WHERE WHAT IT READS IS OF BULK AT MOST 1048576: true; the input reads as it did. -/
def keyequationForneyUptoRow : OpenClaim := { program := "ytmnbcnbhnclkhaa", sum := "1850fad27fa048245c99cdad0ee0fa6f4d3d6b068892e21860f9939e49a08055", func := "codewright/codewrightlaw38.KeyequationForney", spec := "keyequationForney", apart := false, narrowed := true }
def KeyequationForneyUptoSaid : Prop := keyequationForneyUptoRow.holds Try.pinned (OpenSpec.upto keyequationForneySpec)

/-- 'codewrightlaw38.KeyequationHolds', WHERE WHAT IT READS IS OF BULK AT MOST 1048576: true; the input reads as it did. -/
def keyequationHoldsUptoRow : OpenClaim := { program := "ytmnbcnbhnclkhaa", sum := "1850fad27fa048245c99cdad0ee0fa6f4d3d6b068892e21860f9939e49a08055", func := "codewright/codewrightlaw38.KeyequationHolds", spec := "keyequationHolds", apart := false, narrowed := true }
def KeyequationHoldsUptoSaid : Prop := keyequationHoldsUptoRow.holds Try.pinned (OpenSpec.upto keyequationHoldsSpec)

/-- 'codewrightlaw38.KeyequationLocators', WHERE WHAT IT READS IS OF BULK AT MOST 1048576: true; the input reads as it did. -/
def keyequationLocatorsUptoRow : OpenClaim := { program := "ytmnbcnbhnclkhaa", sum := "1850fad27fa048245c99cdad0ee0fa6f4d3d6b068892e21860f9939e49a08055", func := "codewright/codewrightlaw38.KeyequationLocators", spec := "keyequationLocators", apart := false, narrowed := true }
def KeyequationLocatorsUptoSaid : Prop := keyequationLocatorsUptoRow.holds Try.pinned (OpenSpec.upto keyequationLocatorsSpec)

/-- 'codewrightlaw38.KeyequationRegisters', WHERE WHAT IT READS IS OF BULK AT MOST 1048576: true; the input reads as it did. -/
def keyequationRegistersUptoRow : OpenClaim := { program := "ytmnbcnbhnclkhaa", sum := "1850fad27fa048245c99cdad0ee0fa6f4d3d6b068892e21860f9939e49a08055", func := "codewright/codewrightlaw38.KeyequationRegisters", spec := "keyequationRegisters", unfollowed := true, recurses := true, apart := false, narrowed := true }
def KeyequationRegistersUptoSaid : Prop := keyequationRegistersUptoRow.holds Try.pinned (OpenSpec.upto keyequationRegistersSpec)

/-- 'codewrightlaw38.KeyequationRecovers', WHERE WHAT IT READS IS OF BULK AT MOST 1048576: true; the input reads as it did. -/
def keyequationRecoversUptoRow : OpenClaim := { program := "ytmnbcnbhnclkhaa", sum := "1850fad27fa048245c99cdad0ee0fa6f4d3d6b068892e21860f9939e49a08055", func := "codewright/codewrightlaw38.KeyequationRecovers", spec := "keyequationRecovers", apart := false, narrowed := true }
def KeyequationRecoversUptoSaid : Prop := keyequationRecoversUptoRow.holds Try.pinned (OpenSpec.upto keyequationRecoversSpec)

end Rows
end Go.Proofs.Ytmnbcnbhnclkhaa
