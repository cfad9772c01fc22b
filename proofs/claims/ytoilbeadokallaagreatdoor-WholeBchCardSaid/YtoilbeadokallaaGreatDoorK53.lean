/- Closed facts on the card of WholeBch. No conditions. -/
import Derived.Test.YtoilbeadokallaaGreatDoorK01
import Derived.Test.YtoilbeadokallaaGreatDoorRows
import Derived.ProofKit
import Derived.SevenTiedAt
namespace Go.Proofs.YtoilbeadokallaaGreatDoor
section
set_option maxRecDepth 100000
open Go.ChangeShapes Go.WideShapes Go.ChangeAt Go.RowKit
theorem agz:Rows.wholeBchRow.wfByText (OpenSpec.ofChange Rows.wholeBchSpec)=true:=by as_aux_lemma=>kernel_rfl
theorem Zy:Tryz.pinned.checked.prog.mainIs=some (true,"65621a5c4ce0fb36a23db0ae402fc5e3ec3e794561867923e6604c1a3a636c8f".toList):=by as_aux_lemma=>kernel_rfl
theorem Wi:true=Tryz.pinned.checked.prog.looks []:=by as_aux_lemma=>kernel_rfl
end
end Go.Proofs.YtoilbeadokallaaGreatDoor
