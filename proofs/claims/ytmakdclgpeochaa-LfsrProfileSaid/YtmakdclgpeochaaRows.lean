/-
  No cell of these rows narrows 'for every input' (looked for: loops, veiled, ifaces, maps, wideKeys, modest, calm, conditions, laid).
  DERIVED. THE GIVEN ROWS OF THIS SEAT. 10 by the template 'for every input the law returns true; each argument reads behind the call as it read before'; 0 by the template 'total and deterministic' (their statements: YtmakdclgpeochaaTotals.lean).
  GIVEN WITH THE SEED: the statements are not yours to turn. If you find one false, say at which input.
  Laid BY PROGRAM, IN A SANDBOX (cutbox-rows.mjs): the forced cells as the released guide's own fill.sh prints them over the translation 0cd4af803e8d75c7… (all of the seat's roots in one cut). By AI agents, Wed Nov 11 2026. No macro, syntax, notation, axiom, sorry.
-/
import Derived.Test.YtmakdclgpeochaaChecked
import GoSem.Claim
import GoSem.ClaimJoined
import GoSem.ClaimMapViews
import Derived.JoinedTies
import Derived.KernelRfl
namespace Go.Proofs.Ytmakdclgpeochaa
/- THE CELL 'sum', in the pinned program and in every row, IS THE sha256 OF THE DUMP (.gsa) THAT YtmakdclgpeochaaProg.lean LOADS. Nothing in Lean hashes anything: it is a label: what it is worth is what the hold of that sum in a sandbox is worth. -/
noncomputable def Try.pinned : Pinned := { name := "ytmakdclgpeochaa", sum := "0cd4af803e8d75c7440345c1af5db37b551112d83b02c96c4615eda7b150da01", checked := Try.checked }
namespace Rows
def none {H : Type} : Left H := { results := [], args := [] }

/-- 'codewrightlaw37.LfsrShortest': WHATEVER THE INPUT: true; the input reads as it did. -/
def lfsrShortestSpec : ChangeSpec := { name := "lfsrShortest", fn := fun _ => fun
  | [d1, d2] => { results := [.lit (.bool true)], args := [d1, d2] }
  | _ => none }
def lfsrShortestRow : OpenClaim := { program := "ytmakdclgpeochaa", sum := "0cd4af803e8d75c7440345c1af5db37b551112d83b02c96c4615eda7b150da01", func := "codewright/codewrightlaw37.LfsrShortest", spec := "lfsrShortest", unfollowed := true, recurses := true, apart := false }
def LfsrShortestSaid : Prop := lfsrShortestRow.holds Try.pinned (OpenSpec.ofChange lfsrShortestSpec)

/-- ITS FALSE NEIGHBOUR: 'it returns false'. Refute it at one input. -/
def lfsrShortestWrong : ChangeSpec := { name := "lfsrShortest", fn := fun _ => fun
  | [d1, d2] => { results := [.lit (.bool false)], args := [d1, d2] }
  | _ => none }
def LfsrShortestWrongFalsely : Prop := lfsrShortestRow.holds Try.pinned (OpenSpec.ofChange lfsrShortestWrong)

/-- 'codewrightlaw37.LfsrNoShorter': WHATEVER THE INPUT: true; the input reads as it did. -/
def lfsrNoShorterSpec : ChangeSpec := { name := "lfsrNoShorter", fn := fun _ => fun
  | [d1, d2, d3] => { results := [.lit (.bool true)], args := [d1, d2, d3] }
  | _ => none }
def lfsrNoShorterRow : OpenClaim := { program := "ytmakdclgpeochaa", sum := "0cd4af803e8d75c7440345c1af5db37b551112d83b02c96c4615eda7b150da01", func := "codewright/codewrightlaw37.LfsrNoShorter", spec := "lfsrNoShorter", unfollowed := true, recurses := true, apart := false }
def LfsrNoShorterSaid : Prop := lfsrNoShorterRow.holds Try.pinned (OpenSpec.ofChange lfsrNoShorterSpec)

/-- ITS FALSE NEIGHBOUR: 'it returns false'. Refute it at one input. -/
def lfsrNoShorterWrong : ChangeSpec := { name := "lfsrNoShorter", fn := fun _ => fun
  | [d1, d2, d3] => { results := [.lit (.bool false)], args := [d1, d2, d3] }
  | _ => none }
def LfsrNoShorterWrongFalsely : Prop := lfsrNoShorterRow.holds Try.pinned (OpenSpec.ofChange lfsrNoShorterWrong)

/-- 'codewrightlaw37.LfsrProfile': WHATEVER THE INPUT: true; the input reads as it did. -/
def lfsrProfileSpec : ChangeSpec := { name := "lfsrProfile", fn := fun _ => fun
  | [d1, d2] => { results := [.lit (.bool true)], args := [d1, d2] }
  | _ => none }
def lfsrProfileRow : OpenClaim := { program := "ytmakdclgpeochaa", sum := "0cd4af803e8d75c7440345c1af5db37b551112d83b02c96c4615eda7b150da01", func := "codewright/codewrightlaw37.LfsrProfile", spec := "lfsrProfile", unfollowed := true, recurses := true, apart := false }
def LfsrProfileSaid : Prop := lfsrProfileRow.holds Try.pinned (OpenSpec.ofChange lfsrProfileSpec)

/-- ITS FALSE NEIGHBOUR: 'it returns false'. Refute it at one input. -/
def lfsrProfileWrong : ChangeSpec := { name := "lfsrProfile", fn := fun _ => fun
  | [d1, d2] => { results := [.lit (.bool false)], args := [d1, d2] }
  | _ => none }
def LfsrProfileWrongFalsely : Prop := lfsrProfileRow.holds Try.pinned (OpenSpec.ofChange lfsrProfileWrong)

/-- 'codewrightlaw37.LfsrJumps': WHATEVER THE INPUT: true; the input reads as it did. -/
def lfsrJumpsSpec : ChangeSpec := { name := "lfsrJumps", fn := fun _ => fun
  | [d1, d2] => { results := [.lit (.bool true)], args := [d1, d2] }
  | _ => none }
def lfsrJumpsRow : OpenClaim := { program := "ytmakdclgpeochaa", sum := "0cd4af803e8d75c7440345c1af5db37b551112d83b02c96c4615eda7b150da01", func := "codewright/codewrightlaw37.LfsrJumps", spec := "lfsrJumps", unfollowed := true, recurses := true, apart := false }
def LfsrJumpsSaid : Prop := lfsrJumpsRow.holds Try.pinned (OpenSpec.ofChange lfsrJumpsSpec)

/-- ITS FALSE NEIGHBOUR: 'it returns false'. Refute it at one input. -/
def lfsrJumpsWrong : ChangeSpec := { name := "lfsrJumps", fn := fun _ => fun
  | [d1, d2] => { results := [.lit (.bool false)], args := [d1, d2] }
  | _ => none }
def LfsrJumpsWrongFalsely : Prop := lfsrJumpsRow.holds Try.pinned (OpenSpec.ofChange lfsrJumpsWrong)

/-- 'codewrightlaw37.LfsrOnly': WHATEVER THE INPUT: true; the input reads as it did. -/
def lfsrOnlySpec : ChangeSpec := { name := "lfsrOnly", fn := fun _ => fun
  | [d1, d2, d3] => { results := [.lit (.bool true)], args := [d1, d2, d3] }
  | _ => none }
def lfsrOnlyRow : OpenClaim := { program := "ytmakdclgpeochaa", sum := "0cd4af803e8d75c7440345c1af5db37b551112d83b02c96c4615eda7b150da01", func := "codewright/codewrightlaw37.LfsrOnly", spec := "lfsrOnly", unfollowed := true, recurses := true, apart := false }
def LfsrOnlySaid : Prop := lfsrOnlyRow.holds Try.pinned (OpenSpec.ofChange lfsrOnlySpec)

/-- ITS FALSE NEIGHBOUR: 'it returns false'. Refute it at one input. -/
def lfsrOnlyWrong : ChangeSpec := { name := "lfsrOnly", fn := fun _ => fun
  | [d1, d2, d3] => { results := [.lit (.bool false)], args := [d1, d2, d3] }
  | _ => none }
def LfsrOnlyWrongFalsely : Prop := lfsrOnlyRow.holds Try.pinned (OpenSpec.ofChange lfsrOnlyWrong)

/-- 'codewrightlaw37.LfsrSums': WHATEVER THE INPUT: true; the input reads as it did. -/
def lfsrSumsSpec : ChangeSpec := { name := "lfsrSums", fn := fun _ => fun
  | [d1, d2, d3] => { results := [.lit (.bool true)], args := [d1, d2, d3] }
  | _ => none }
def lfsrSumsRow : OpenClaim := { program := "ytmakdclgpeochaa", sum := "0cd4af803e8d75c7440345c1af5db37b551112d83b02c96c4615eda7b150da01", func := "codewright/codewrightlaw37.LfsrSums", spec := "lfsrSums", unfollowed := true, recurses := true, apart := false }
def LfsrSumsSaid : Prop := lfsrSumsRow.holds Try.pinned (OpenSpec.ofChange lfsrSumsSpec)

/-- ITS FALSE NEIGHBOUR: 'it returns false'. Refute it at one input. -/
def lfsrSumsWrong : ChangeSpec := { name := "lfsrSums", fn := fun _ => fun
  | [d1, d2, d3] => { results := [.lit (.bool false)], args := [d1, d2, d3] }
  | _ => none }
def LfsrSumsWrongFalsely : Prop := lfsrSumsRow.holds Try.pinned (OpenSpec.ofChange lfsrSumsWrong)

/-- 'codewrightlaw37.LfsrUnique': WHATEVER THE INPUT: true; the input reads as it did. -/
def lfsrUniqueSpec : ChangeSpec := { name := "lfsrUnique", fn := fun _ => fun
  | [d1, d2] => { results := [.lit (.bool true)], args := [d1, d2] }
  | _ => none }
def lfsrUniqueRow : OpenClaim := { program := "ytmakdclgpeochaa", sum := "0cd4af803e8d75c7440345c1af5db37b551112d83b02c96c4615eda7b150da01", func := "codewright/codewrightlaw37.LfsrUnique", spec := "lfsrUnique", unfollowed := true, recurses := true, apart := false }
def LfsrUniqueSaid : Prop := lfsrUniqueRow.holds Try.pinned (OpenSpec.ofChange lfsrUniqueSpec)

/-- ITS FALSE NEIGHBOUR: 'it returns false'. Refute it at one input. -/
def lfsrUniqueWrong : ChangeSpec := { name := "lfsrUnique", fn := fun _ => fun
  | [d1, d2] => { results := [.lit (.bool false)], args := [d1, d2] }
  | _ => none }
def LfsrUniqueWrongFalsely : Prop := lfsrUniqueRow.holds Try.pinned (OpenSpec.ofChange lfsrUniqueWrong)

/-- 'codewrightlaw37.LfsrHolds': WHATEVER THE INPUT: true; the input reads as it did. -/
def lfsrHoldsSpec : ChangeSpec := { name := "lfsrHolds", fn := fun _ => fun
  | [d1, d2, d3] => { results := [.lit (.bool true)], args := [d1, d2, d3] }
  | _ => none }
def lfsrHoldsRow : OpenClaim := { program := "ytmakdclgpeochaa", sum := "0cd4af803e8d75c7440345c1af5db37b551112d83b02c96c4615eda7b150da01", func := "codewright/codewrightlaw37.LfsrHolds", spec := "lfsrHolds", unfollowed := true, recurses := true, apart := false }
def LfsrHoldsSaid : Prop := lfsrHoldsRow.holds Try.pinned (OpenSpec.ofChange lfsrHoldsSpec)

/-- ITS FALSE NEIGHBOUR: 'it returns false'. Refute it at one input. -/
def lfsrHoldsWrong : ChangeSpec := { name := "lfsrHolds", fn := fun _ => fun
  | [d1, d2, d3] => { results := [.lit (.bool false)], args := [d1, d2, d3] }
  | _ => none }
def LfsrHoldsWrongFalsely : Prop := lfsrHoldsRow.holds Try.pinned (OpenSpec.ofChange lfsrHoldsWrong)

/-- 'codewrightlaw37.LfsrGenerates': WHATEVER THE INPUT: true; the input reads as it did. -/
def lfsrGeneratesSpec : ChangeSpec := { name := "lfsrGenerates", fn := fun _ => fun
  | [d1, d2, d3] => { results := [.lit (.bool true)], args := [d1, d2, d3] }
  | _ => none }
def lfsrGeneratesRow : OpenClaim := { program := "ytmakdclgpeochaa", sum := "0cd4af803e8d75c7440345c1af5db37b551112d83b02c96c4615eda7b150da01", func := "codewright/codewrightlaw37.LfsrGenerates", spec := "lfsrGenerates", unfollowed := true, recurses := true, apart := false }
def LfsrGeneratesSaid : Prop := lfsrGeneratesRow.holds Try.pinned (OpenSpec.ofChange lfsrGeneratesSpec)

/-- ITS FALSE NEIGHBOUR: 'it returns false'. Refute it at one input. -/
def lfsrGeneratesWrong : ChangeSpec := { name := "lfsrGenerates", fn := fun _ => fun
  | [d1, d2, d3] => { results := [.lit (.bool false)], args := [d1, d2, d3] }
  | _ => none }
def LfsrGeneratesWrongFalsely : Prop := lfsrGeneratesRow.holds Try.pinned (OpenSpec.ofChange lfsrGeneratesWrong)

/-- 'codewrightlaw37.LfsrRecovers': WHATEVER THE INPUT: true; the input reads as it did. -/
def lfsrRecoversSpec : ChangeSpec := { name := "lfsrRecovers", fn := fun _ => fun
  | [d1, d2, d3] => { results := [.lit (.bool true)], args := [d1, d2, d3] }
  | _ => none }
def lfsrRecoversRow : OpenClaim := { program := "ytmakdclgpeochaa", sum := "0cd4af803e8d75c7440345c1af5db37b551112d83b02c96c4615eda7b150da01", func := "codewright/codewrightlaw37.LfsrRecovers", spec := "lfsrRecovers", unfollowed := true, recurses := true, apart := false }
def LfsrRecoversSaid : Prop := lfsrRecoversRow.holds Try.pinned (OpenSpec.ofChange lfsrRecoversSpec)

/-- ITS FALSE NEIGHBOUR: 'it returns false'. Refute it at one input. -/
def lfsrRecoversWrong : ChangeSpec := { name := "lfsrRecovers", fn := fun _ => fun
  | [d1, d2, d3] => { results := [.lit (.bool false)], args := [d1, d2, d3] }
  | _ => none }
def LfsrRecoversWrongFalsely : Prop := lfsrRecoversRow.holds Try.pinned (OpenSpec.ofChange lfsrRecoversWrong)

/- THE SECOND FORM. 'bulk': how many values and letters a reading holds, each counted each time it is reached (what is shared counts as often as it is met; a slice's spare places count too). A statement '..UptoSaid' is the law's where the arguments, and the package variables that the reading takes, are together of bulk at most 1048576: NARROWER than '..Said'. Prove '..Said' where nothing that the law and all that it calls make is longer than what came in: it says more and counts as full. Else prove '..UptoSaid'. A law counts once. -/
mutual
def uptoBulk {H : Type} : DataW H → Nat
  | .lit (.string bytes) => bytes.length + 1
  | .lit _ => 1
  | .nil => 1
  | .ptr d => uptoBulk d + 1
  | .slice elems spare => uptoBulkAll elems + uptoBulkAll spare + 1
  | .agg parts => uptoBulkAll parts + 1
  | .iface _ d => uptoBulk d + 1
  | .map entries => uptoBulkEntries entries + 1
  | .held _ => 1
def uptoBulkAll {H : Type} : List (DataW H) → Nat
  | [] => 0
  | d :: r => uptoBulk d + uptoBulkAll r
def uptoBulkEntries {H : Type} : List (Lit × DataW H) → Nat
  | [] => 0
  | x :: r => uptoBulkEntry x + uptoBulkEntries r
def uptoBulkEntry {H : Type} : Lit × DataW H → Nat
  | (.string bytes, d) => bytes.length + uptoBulk d + 1
  | (_, d) => uptoBulk d + 1
 end
def uptoSmall : (H : Type) → List (DataW H) → Bool := fun _ ds => decide (uptoBulkAll ds ≤ 1048576)
def OpenSpec.upto (s : _root_.Go.ChangeSpec) : _root_.Go.OpenSpec := { _root_.Go.OpenSpec.ofChange s with cond := some uptoSmall }

/-- 'codewrightlaw37.LfsrShortest', WHERE WHAT IT READS IS OF BULK AT MOST 1048576: true; the input reads as it did. -/
def lfsrShortestUptoRow : OpenClaim := { program := "ytmakdclgpeochaa", sum := "0cd4af803e8d75c7440345c1af5db37b551112d83b02c96c4615eda7b150da01", func := "codewright/codewrightlaw37.LfsrShortest", spec := "lfsrShortest", unfollowed := true, recurses := true, apart := false, narrowed := true }
def LfsrShortestUptoSaid : Prop := lfsrShortestUptoRow.holds Try.pinned (OpenSpec.upto lfsrShortestSpec)

/-- 'codewrightlaw37.LfsrNoShorter', WHERE WHAT IT READS IS OF BULK AT MOST 1048576: true; the input reads as it did. -/
def lfsrNoShorterUptoRow : OpenClaim := { program := "ytmakdclgpeochaa", sum := "0cd4af803e8d75c7440345c1af5db37b551112d83b02c96c4615eda7b150da01", func := "codewright/codewrightlaw37.LfsrNoShorter", spec := "lfsrNoShorter", unfollowed := true, recurses := true, apart := false, narrowed := true }
def LfsrNoShorterUptoSaid : Prop := lfsrNoShorterUptoRow.holds Try.pinned (OpenSpec.upto lfsrNoShorterSpec)

/-- 'codewrightlaw37.LfsrProfile', WHERE WHAT IT READS IS OF BULK AT MOST 1048576: true; the input reads as it did. -/
def lfsrProfileUptoRow : OpenClaim := { program := "ytmakdclgpeochaa", sum := "0cd4af803e8d75c7440345c1af5db37b551112d83b02c96c4615eda7b150da01", func := "codewright/codewrightlaw37.LfsrProfile", spec := "lfsrProfile", unfollowed := true, recurses := true, apart := false, narrowed := true }
def LfsrProfileUptoSaid : Prop := lfsrProfileUptoRow.holds Try.pinned (OpenSpec.upto lfsrProfileSpec)

/-- 'codewrightlaw37.LfsrJumps', WHERE WHAT IT READS IS OF BULK AT MOST 1048576: true; the input reads as it did. -/
def lfsrJumpsUptoRow : OpenClaim := { program := "ytmakdclgpeochaa", sum := "0cd4af803e8d75c7440345c1af5db37b551112d83b02c96c4615eda7b150da01", func := "codewright/codewrightlaw37.LfsrJumps", spec := "lfsrJumps", unfollowed := true, recurses := true, apart := false, narrowed := true }
def LfsrJumpsUptoSaid : Prop := lfsrJumpsUptoRow.holds Try.pinned (OpenSpec.upto lfsrJumpsSpec)

/-- 'codewrightlaw37.LfsrOnly', WHERE WHAT IT READS IS OF BULK AT MOST 1048576: true; the input reads as it did. -/
def lfsrOnlyUptoRow : OpenClaim := { program := "ytmakdclgpeochaa", sum := "0cd4af803e8d75c7440345c1af5db37b551112d83b02c96c4615eda7b150da01", func := "codewright/codewrightlaw37.LfsrOnly", spec := "lfsrOnly", unfollowed := true, recurses := true, apart := false, narrowed := true }
def LfsrOnlyUptoSaid : Prop := lfsrOnlyUptoRow.holds Try.pinned (OpenSpec.upto lfsrOnlySpec)

/-- 'codewrightlaw37.LfsrSums', WHERE WHAT IT READS IS OF BULK AT MOST 1048576: true; the input reads as it did. -/
def lfsrSumsUptoRow : OpenClaim := { program := "ytmakdclgpeochaa", sum := "0cd4af803e8d75c7440345c1af5db37b551112d83b02c96c4615eda7b150da01", func := "codewright/codewrightlaw37.LfsrSums", spec := "lfsrSums", unfollowed := true, recurses := true, apart := false, narrowed := true }
def LfsrSumsUptoSaid : Prop := lfsrSumsUptoRow.holds Try.pinned (OpenSpec.upto lfsrSumsSpec)

/-- 'codewrightlaw37.LfsrUnique', WHERE WHAT IT READS IS OF BULK AT MOST 1048576: true; the input reads as it did. -/
def lfsrUniqueUptoRow : OpenClaim := { program := "ytmakdclgpeochaa", sum := "0cd4af803e8d75c7440345c1af5db37b551112d83b02c96c4615eda7b150da01", func := "codewright/codewrightlaw37.LfsrUnique", spec := "lfsrUnique", unfollowed := true, recurses := true, apart := false, narrowed := true }
def LfsrUniqueUptoSaid : Prop := lfsrUniqueUptoRow.holds Try.pinned (OpenSpec.upto lfsrUniqueSpec)

/-- 'codewrightlaw37.LfsrHolds', WHERE WHAT IT READS IS OF BULK AT MOST 1048576: true; the input reads as it did. -/
def lfsrHoldsUptoRow : OpenClaim := { program := "ytmakdclgpeochaa", sum := "0cd4af803e8d75c7440345c1af5db37b551112d83b02c96c4615eda7b150da01", func := "codewright/codewrightlaw37.LfsrHolds", spec := "lfsrHolds", unfollowed := true, recurses := true, apart := false, narrowed := true }
def LfsrHoldsUptoSaid : Prop := lfsrHoldsUptoRow.holds Try.pinned (OpenSpec.upto lfsrHoldsSpec)

/-- 'codewrightlaw37.LfsrGenerates', WHERE WHAT IT READS IS OF BULK AT MOST 1048576: true; the input reads as it did. -/
def lfsrGeneratesUptoRow : OpenClaim := { program := "ytmakdclgpeochaa", sum := "0cd4af803e8d75c7440345c1af5db37b551112d83b02c96c4615eda7b150da01", func := "codewright/codewrightlaw37.LfsrGenerates", spec := "lfsrGenerates", unfollowed := true, recurses := true, apart := false, narrowed := true }
def LfsrGeneratesUptoSaid : Prop := lfsrGeneratesUptoRow.holds Try.pinned (OpenSpec.upto lfsrGeneratesSpec)

/-- 'codewrightlaw37.LfsrRecovers', WHERE WHAT IT READS IS OF BULK AT MOST 1048576: true; the input reads as it did. -/
def lfsrRecoversUptoRow : OpenClaim := { program := "ytmakdclgpeochaa", sum := "0cd4af803e8d75c7440345c1af5db37b551112d83b02c96c4615eda7b150da01", func := "codewright/codewrightlaw37.LfsrRecovers", spec := "lfsrRecovers", unfollowed := true, recurses := true, apart := false, narrowed := true }
def LfsrRecoversUptoSaid : Prop := lfsrRecoversUptoRow.holds Try.pinned (OpenSpec.upto lfsrRecoversSpec)

end Rows
end Go.Proofs.Ytmakdclgpeochaa
