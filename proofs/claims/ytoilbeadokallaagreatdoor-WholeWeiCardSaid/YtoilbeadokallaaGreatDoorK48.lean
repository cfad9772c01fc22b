/- The row WholeWei. No conditions. -/
import Derived.Test.YtoilbeadokallaaGreatDoorK19
import Derived.Test.YtoilbeadokallaaGreatDoorK47
import Derived.ProofKit
import Derived.OpenShut
import Derived.LaidMore
import Derived.Lay
import Derived.Stop.Joined
namespace Go.Proofs.YtoilbeadokallaaGreatDoor
open Go.ChangeShapes Go.WideShapes Go.ChangeAt Go.RowKit Go.Joins Cw
set_option maxRecDepth 100000 in
theorem wholeWei_lifted (os:Os) (started:os.Started) (H:Type) (enc:TypeId × Value→H) :
  ReturnsInHanded {} Tryz.checked os 4 .any (fun w args=>(Rows.wholeWeiSpec.pre enc Tryz.prog Tryz.f4 Rows.wholeWeiRow.domain false w args∧laidMetH Tryz.prog Rows.wholeWeiRow.laid w)∧sizedMet enc Tryz.prog Tryz.f4 (OpenSpec.ofChange Rows.wholeWeiSpec) false w args)
   (Rows.wholeWeiSpec.post enc Tryz.prog Tryz.f4 false true false false):=by
 refine returnsInHanded_of_change_and (C:=Tryz.checked) (X:=fun w _=>laidMetH Tryz.prog Rows.wholeWeiRow.laid w) (fun _ _ _ hh h=>h.of_heap hh) Tryz.own started (by kernel_rfl) Tryz.func4
  (ChangeSpec.witness_shaped (enc:=enc) (C:=Tryz.checked) (os:=os) (X:=fun w _=>laidMetH Tryz.prog Rows.wholeWeiRow.laid w) false (World.laidAll Tryz.prog os Rows.wholeWeiRow.laid) #[.agg #[.int .i64 0,.int .i64 0,.slice none 0 0,.int .i64 0,.slice none 0 0]] 8 (World.laidAll_os _ _ _)
   (World.shaped_of_ZipB (by kernel_rfl) (by kernel_rfl)) (by kernel_rfl) (by kernel_rfl) (by kernel_rfl)
   (by rw [MakeChecks.laidMetH_plain _ _ _ (by kernel_rfl)];exact laidMet_laidAll _ (by kernel_rfl) (by kernel_rfl))) ?_
 intro W base args ds gs before hval0 hW hc _ hL _
 have hval:∀ (j:Nat) t v,Tryz.f4.params[j]?=some t→args[j]?=some v→Value.okWide Tryz.prog W .any base t v:=hval0
 have hW':=hW
 obtain ⟨p,q,hA0,hV,rfl,_,_⟩:=hW
 have hA:DataW.TrodAll enc Tryz.prog W 0 (fun _=>true) true Tryz.f4.params.toList args.toList ds p:=hA0
 rw [Tryz.params4] at hA hval
 obtain ⟨v0,d0,rfl,rfl,h0⟩:=trodAll_one hA
 obtain ⟨rfl,rfl⟩:=trodVars_none hV
 obtain ⟨P0,M0,ma,ml,mc,mod0,n0,va,vc,A0,rfl,s0,r0⟩:=code_in (hval 0 29 v0 rfl rfl) h0
 clear hA0 hval0
 simp only [List.append_nil] at hW'
 have hlt0:∀ x ∈ p,x.block < W.heap.size:=fun x hx=>by simpa using hW'.lt x hx
 refine (wholeWei_law P0 M0 ma ml mc mod0 n0 va vc A0 W s0 r0).mono fun e W' ⟨he,hb⟩=>?_
 subst he
 refine ⟨_,rfl,_,_,_,[],_,[],hW',trodAll_mk1 (shut_bool Tryz.underlying4 _),trodAll_mk1 (Below.trod Tryz.laidOut (by kernel_rfl) (of_decide_eq_true (by kernel_rfl)) h0 hb hlt0),rfl,hb.frame _,fun h=>by cases h⟩
set_option maxRecDepth 100000 in
set_option maxHeartbeats 4000000 in
theorem wholeWei_facts:joinedFacts Tryz.pinned.checked.prog 4 Tryz.f4 Rows.wholeWeiSpec Rows.wholeWeiRow=true:=by
 unfold joinedFacts
 refine band (band (band (band (band (band (band (band (band (band (band (band (band (band (band (band (band (band (band (band (band (band (band (band (band (band (band (band (band (band (band ?_ Tryz.fLaid) Tryz.fMaps) ?_) ?_) ?_) ?_) ?_) ?_) ?_) ?_) ?_) ?_) ?_) ?_) ?_) ?_) ?_) ?_) ?_) ?_) ?_) ?_) ?_) Tryz.fHeard) Tryz.fEnter) ?_) ?_) ?_) ?_) ?_) ?_
 all_goals (as_aux_lemma=>kernel_rfl)
theorem wholeWei_holds:Rows.WholeWeiSaid :=
 OpenClaim.holds_of_wide 4 Tryz.f4 rfl rfl rfl rfl rfl rfl rfl ⟨rfl,rfl,rfl,rfl,rfl⟩ rfl rfl rfl rfl rfl (by kernel_rfl) Tryz.func4 wholeWei_facts
  (of_decide_eq_true (by kernel_rfl)) (by unfold Func.isWrapper;first | (rw [if_pos (by decide +kernel)];kernel_rfl) | (rw [if_neg (by decide +kernel)];exact ⟨rfl,rfl⟩))
  (fun os started H enc _=>wholeWei_lifted os started H enc)
end Go.Proofs.YtoilbeadokallaaGreatDoor
