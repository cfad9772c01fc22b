/- The card of WholeWei. No conditions. -/
import Derived.Test.YtoilbeadokallaaGreatDoorK48
import Derived.Test.YtoilbeadokallaaGreatDoorK50
import Derived.Test.YtoilbeadokallaaGreatDoorK51
import Derived.Test.YtoilbeadokallaaGreatDoorTie
import Derived.Test.YtoilbeadokallaaGreatDoorCards
import Derived.SevenTiedAt
namespace Go.Proofs.YtoilbeadokallaaGreatDoor
open Go.ChangeShapes Go.WideShapes Go.ChangeAt Go.RowKit Go.Joins Cw
set_option maxRecDepth 100000
theorem wholeWei_card:Rows.WholeWeiCardSaid :=
 Claim7.holds_tied_plain_at .later [] [.data,.data,.data] true (true,"65621a5c4ce0fb36a23db0ae402fc5e3ec3e794561867923e6604c1a3a636c8f") true wholeWei_holds (fun _ h=>by cases h) wei_wf (fun _ h=>by cases h) wholeWei_row_tie rfl ⟨rfl,rfl⟩ wei_main rfl
  (fun f fn hf hfn=>by
   obtain rfl:f=4:=Option.some.inj (wei_named.symm.trans hf) |>.symm
   obtain rfl:fn=Tryz.f4:=(Option.some.inj (Tryz.func4.symm.trans hfn)).symm
   exact ⟨wei_looks,fun j t ht=>by
    rw [Tryz.params4] at ht
    have hm:t ∈ [29]:=by simpa using Array.mem_of_getElem? ht
    exact (show Tryz.prog.wantsStandIn t=false by simpa using List.all_eq_true.1 wei_stand t hm)⟩)
  wei_goes
end Go.Proofs.YtoilbeadokallaaGreatDoor
