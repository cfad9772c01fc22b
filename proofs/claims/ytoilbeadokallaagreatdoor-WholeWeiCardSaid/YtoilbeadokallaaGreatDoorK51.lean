/- Closed facts on the card of WholeWei. No conditions. -/
import Derived.Test.YtoilbeadokallaaGreatDoorRows
import Derived.ProofKit
import Derived.SevenTiedAt
namespace Go.Proofs.YtoilbeadokallaaGreatDoor
open Go.ChangeShapes Go.WideShapes Go.ChangeAt Go.RowKit
set_option maxRecDepth 100000
theorem wei_goes:false=Rows.wholeWeiRow.goesBy Tryz.pinned.checked.prog:=by as_aux_lemma=>kernel_rfl
theorem wei_named:Tryz.prog.funcNamed "codewright/codewrighttop.WholeWei"=some 4:=by as_aux_lemma=>kernel_rfl
theorem wei_stand:([29].all fun u=>!Tryz.prog.wantsStandIn u)=true:=by as_aux_lemma=>kernel_rfl
end Go.Proofs.YtoilbeadokallaaGreatDoor
