/- The card of WholeBch. No conditions. -/
import Derived.Test.YtoilbeadokallaaGreatDoorK50
import Derived.Test.YtoilbeadokallaaGreatDoorK52
import Derived.Test.YtoilbeadokallaaGreatDoorK53
import Derived.Test.YtoilbeadokallaaGreatDoorTie
import Derived.Test.YtoilbeadokallaaGreatDoorCards
import Derived.SevenTiedAt
namespace Go.Proofs.YtoilbeadokallaaGreatDoor
section
set_option maxRecDepth 100000
open Go.ChangeShapes Go.WideShapes Go.ChangeAt Go.RowKit Go.Joins Cw
theorem wholeBch_card:Rows.WholeBchCardSaid:=
 Claim7.holds_tied_plain_at .later [] [.data,.data,.data] true (true,"65621a5c4ce0fb36a23db0ae402fc5e3ec3e794561867923e6604c1a3a636c8f") true Ed (fun _ h=>by cases h) agz (fun _ h=>by cases h) wholeBch_row_tie rfl ⟨rfl,rfl⟩ Zy rfl
  (fun f fn hf hfn=>by
   obtain rfl:f=3:=wW (Wh.symm.trans hf)|>.symm;obtain rfl:fn=Tryz.f3:=(wW (Tryz.func3.symm.trans hfn)).symm;exact⟨Wi,fun j t ht=>by
    rw[Tryz.params3] at ht;have hm:t∈ [24,25]:=by simpa using Array.mem_of_getElem? ht
    exact(show Tryz.prog.wantsStandIn t=false by simpa using sZ.1 Wj t hm)⟩)
  Zz
end
end Go.Proofs.YtoilbeadokallaaGreatDoor
