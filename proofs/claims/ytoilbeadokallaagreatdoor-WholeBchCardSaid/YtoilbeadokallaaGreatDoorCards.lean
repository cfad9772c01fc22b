/-
  DERIVED. GIVEN WITH THE SEED: THE CARDS: each row of YtoilbeadokallaaGreatDoorRows.lean that lists a variable, with what it lists TIED to the program's text (the seventh form; the later family's looks); each row that meets fmt, with fmt's text TOLD by the authors' own Lean function (tested against real Go, not proved from fmt's source: count such statements apart). THE CARD IS WHAT COUNTS. Prove the row's statement (the work); the ties are given (YtoilbeadokallaaGreatDoorTie.lean); close each card by the builder's one call (the guide's Derived/Test/ToyasCard.lean, 'card_holds'). Laid BY PROGRAM, IN A SANDBOX (cutbox-door.mjs). By AI agents, Wed Nov 11 2026. No macro, syntax, notation, axiom, sorry.
-/
import Derived.Test.YtoilbeadokallaaGreatDoorRows
import GoSem.ClaimSeven
namespace Go.Proofs.YtoilbeadokallaaGreatDoor
namespace Rows

/-- THE TIED CARD OF 'codewrighttop.WholeBch'. -/
def wholeBchCard : Claim7 := { stood := { row := wholeBchRow, standIns := [], harness := (true, "65621a5c4ce0fb36a23db0ae402fc5e3ec3e794561867923e6604c1a3a636c8f"), looks := true }, kinds := [], alts := [], laidByText := true, laidKinds := [.data, .data, .data], laidTests := true, laidLooks := .later }
def WholeBchCardSaid : Prop := Claim7.holds Tryz.pinned (.plain (OpenSpec.ofChange wholeBchSpec)) wholeBchCard

/-- THE TIED CARD OF 'codewrighttop.WholeWei'. -/
def wholeWeiCard : Claim7 := { stood := { row := wholeWeiRow, standIns := [], harness := (true, "65621a5c4ce0fb36a23db0ae402fc5e3ec3e794561867923e6604c1a3a636c8f"), looks := true }, kinds := [], alts := [], laidByText := true, laidKinds := [.data, .data, .data], laidTests := true, laidLooks := .later }
def WholeWeiCardSaid : Prop := Claim7.holds Tryz.pinned (.plain (OpenSpec.ofChange wholeWeiSpec)) wholeWeiCard

/-- THE SECOND FORM's CARD OF 'codewrighttop.WholeBch'. -/
def wholeBchUptoCard : Claim7 := { stood := { row := wholeBchUptoRow, standIns := [], harness := (true, "65621a5c4ce0fb36a23db0ae402fc5e3ec3e794561867923e6604c1a3a636c8f"), looks := true }, kinds := [], alts := [], laidByText := true, laidKinds := [.data, .data, .data], laidTests := true, laidLooks := .later }
def WholeBchUptoCardSaid : Prop := Claim7.holds Tryz.pinned (.plain (OpenSpec.upto wholeBchSpec)) wholeBchUptoCard

/-- THE SECOND FORM's CARD OF 'codewrighttop.WholeWei'. -/
def wholeWeiUptoCard : Claim7 := { stood := { row := wholeWeiUptoRow, standIns := [], harness := (true, "65621a5c4ce0fb36a23db0ae402fc5e3ec3e794561867923e6604c1a3a636c8f"), looks := true }, kinds := [], alts := [], laidByText := true, laidKinds := [.data, .data, .data], laidTests := true, laidLooks := .later }
def WholeWeiUptoCardSaid : Prop := Claim7.holds Tryz.pinned (.plain (OpenSpec.upto wholeWeiSpec)) wholeWeiUptoCard
end Rows
end Go.Proofs.YtoilbeadokallaaGreatDoor
