/- Closed facts on the card of WholeBch. No conditions. -/
import Derived.Test.YtoilbeadokallaaGreatDoorK01
import Derived.Test.YtoilbeadokallaaGreatDoorRows
import Derived.ProofKit
import Derived.SevenTiedAt
namespace Go.Proofs.YtoilbeadokallaaGreatDoor
section
set_option maxRecDepth 100000
open Go.ChangeShapes Go.WideShapes Go.ChangeAt Go.RowKit
theorem Zz:false=Rows.wholeBchRow.goesBy Tryz.pinned.checked.prog:=by as_aux_lemma=>kernel_rfl
theorem Wh:Tryz.prog.funcNamed "codewright/codewrighttop.WholeBch"=some 3:=by as_aux_lemma=>kernel_rfl
theorem Wj:([24,25].all fun u=>!Tryz.prog.wantsStandIn u)=true:=by as_aux_lemma=>kernel_rfl
end
end Go.Proofs.YtoilbeadokallaaGreatDoor
