/- The row WholeBch. No conditions. -/
import Derived.Test.YtoilbeadokallaaGreatDoorK15
import Derived.Test.YtoilbeadokallaaGreatDoorK40
import Derived.Test.YtoilbeadokallaaGreatDoorK49
import Derived.ProofKit
import Derived.OpenShut
import Derived.LaidMore
import Derived.Lay
import Derived.Stop.Joined
namespace Go.Proofs.YtoilbeadokallaaGreatDoor
section
set_option maxRecDepth 100000
open Go.ChangeShapes Go.WideShapes Go.ChangeAt Go.RowKit Go.Joins Cw
theorem DT (os:Os) (started:os.Started) (H:Type) (enc:TypeId×Value->H):
  ReturnsInHanded {} Tryz.checked os 3 .any (fun w args=>(Rows.wholeBchSpec.pre enc Tryz.prog Tryz.f3 Rows.wholeBchRow.domain false w args/\laidMetH Tryz.prog Rows.wholeBchRow.laid w)/\sizedMet enc Tryz.prog Tryz.f3 (OpenSpec.ofChange Rows.wholeBchSpec) false w args)
   (Rows.wholeBchSpec.post enc Tryz.prog Tryz.f3 false true false false):=by
 refine returnsInHanded_of_change_and (C:=Tryz.checked) (X:=fun w _=>laidMetH Tryz.prog Rows.wholeBchRow.laid w) (fun _ _ _ hh h=>h.of_heap hh) Tryz.own started (by kernel_rfl) Tryz.func3
  (ChangeSpec.witness_shaped (enc:=enc) (C:=Tryz.checked) (os:=os) (X:=fun w _=>laidMetH Tryz.prog Rows.wholeBchRow.laid w) false (World.laidAll Tryz.prog os Rows.wholeBchRow.laid) #[.agg #[.int .i64 0,.int .i64 0,.slice none 0 0],.agg #[.int .i64 0,.int .i64 0,.slice none 0 0],.agg #[.int .i64 0,.int .i64 0,.int .i64 0]] 8 (World.laidAll_os _ _ _)
   (World.shaped_of_ZipB (by kernel_rfl) (by kernel_rfl)) (by kernel_rfl) (by kernel_rfl) (by kernel_rfl)
   (by rw[MakeChecks.laidMetH_plain _ _ _ (by kernel_rfl)];exact laidMet_laidAll _ (by kernel_rfl) (by kernel_rfl))) ?_
 intro W base args ds gs before hval0 hW hc _ hL _;have hval:∀ (j:Nat) t v,Tryz.f3.params[j]?=some t->args[j]?=some v->Value.okWide Tryz.prog W .any base t v:=hval0;have hW':=hW;obtain⟨p,q,hA0,hV,rfl,_,_⟩:=hW;have hA:DataW.TrodAll enc Tryz.prog W 0 (fun _=>true) true Tryz.f3.params.toList args.toList ds p:=hA0;rw[Tryz.params3] at hA hval;obtain⟨v0,v1,v2,d0,d1,d2,p0,p1,p2,rfl,rfl,rfl,h0,h1,h2⟩:=trodAll_three hA;obtain⟨rfl,rfl⟩:=trodVars_none hV;obtain⟨P0,M0,vm0,ano,rfl,s0⟩:=NC (hval 0 24 v0 rfl rfl) h0;obtain⟨P1,M1,vm1,anp,rfl,s1⟩:=NC (hval 1 24 v1 rfl rfl) h1;obtain⟨x2,y2,z2,rfl⟩:=LQ (hval 2 25 v2 rfl rfl) h2;clear hA0 hval0;simp only[List.append_nil,uY] at hW';have hlt0:∀ x∈p0,x.block<W.heap.size:=fun x hx=>by simpa using hW'.lt x (yH _ hx)
 have hlt1:∀ x∈p1,x.block<W.heap.size:=fun x hx=>by simpa using hW'.lt x (wK _ (yH _ hx))
 have hlt2:∀ x∈p2,x.block<W.heap.size:=fun x hx=>by simpa using hW'.lt x (wK _ (wK _ hx))
 refine(JI P0 M0 vm0 ano P1 M1 vm1 anp x2 y2 z2 W s0 s1).mono fun e W' ⟨he,hb⟩=>?_;subst he;refine⟨_,rfl,_,_,_,[],_,[],hW',trodAll_mk1 (shut_bool Tryz.underlying4 _),trodAll_mk3 (Below.trod Tryz.laidOut (by kernel_rfl) (of_decide_eq_true (by kernel_rfl)) h0 hb hlt0) (Below.trod Tryz.laidOut (by kernel_rfl) (of_decide_eq_true (by kernel_rfl)) h1 hb hlt1) (Below.trod Tryz.laidOut (by kernel_rfl) (of_decide_eq_true (by kernel_rfl)) h2 hb hlt2),rfl,hb.frame _,fun h=>by cases h⟩
set_option maxHeartbeats 4000000 in
theorem Ec:joinedFacts Tryz.pinned.checked.prog 3 Tryz.f3 Rows.wholeBchSpec Rows.wholeBchRow=true:=by
 unfold joinedFacts;refine band (band (band (band (band (band (band (band (band (band (band (band (band (band (band (band (band (band (band (band (band (band (band (band (band (band (band (band (band (band (band ?_ Tryz.fLaid) Tryz.fMaps) ?_) ?_) ?_) ?_) ?_) ?_) ?_) ?_) ?_) ?_) ?_) ?_) ?_) ?_) ?_) ?_) ?_) ?_) ?_) ?_) ?_) Tryz.fHeard) Tryz.fEnter) ?_) ?_) ?_) ?_) ?_) ?_;all_goals(as_aux_lemma=>kernel_rfl)
theorem Ed:Rows.WholeBchSaid:=
 OpenClaim.holds_of_wide 3 Tryz.f3 rfl rfl rfl rfl rfl rfl rfl ⟨rfl,rfl,rfl,rfl,rfl⟩ rfl rfl rfl rfl rfl (by kernel_rfl) Tryz.func3 Ec
  (of_decide_eq_true (by kernel_rfl)) (by unfold Func.isWrapper;first|(rw[zu (by decide+kernel)];kernel_rfl)|(rw[zx (by decide+kernel)];exact⟨rfl,rfl⟩))
  (fun os started H enc _=>DT os started H enc)
end
end Go.Proofs.YtoilbeadokallaaGreatDoor
