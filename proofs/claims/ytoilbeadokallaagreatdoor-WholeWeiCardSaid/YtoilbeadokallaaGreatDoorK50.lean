/- Closed facts on the card of WholeWei. No conditions. -/
import Derived.Test.YtoilbeadokallaaGreatDoorRows
import Derived.ProofKit
import Derived.SevenTiedAt
namespace Go.Proofs.YtoilbeadokallaaGreatDoor
open Go.ChangeShapes Go.WideShapes Go.ChangeAt Go.RowKit
set_option maxRecDepth 100000
theorem wei_wf:Rows.wholeWeiRow.wfByText (OpenSpec.ofChange Rows.wholeWeiSpec)=true:=by as_aux_lemma=>kernel_rfl
theorem wei_main:Tryz.pinned.checked.prog.mainIs=some (true,"65621a5c4ce0fb36a23db0ae402fc5e3ec3e794561867923e6604c1a3a636c8f".toList):=by as_aux_lemma=>kernel_rfl
theorem wei_looks:true=Tryz.pinned.checked.prog.looks []:=by as_aux_lemma=>kernel_rfl
end Go.Proofs.YtoilbeadokallaaGreatDoor
