/- The walk of the law FieldDigits. No conditions. -/
import Derived.Test.YtnmidgcmlkofjaaLc
import Derived.Test.YtnmidgcmlkofjaaGe
import Derived.Test.YtnmidgcmlkofjaaSd
import Derived.Test.YtnmidgcmlkofjaaRg
namespace Go.Proofs.Ytnmidgcmlkofjaa
open Go.RowKit Cw

set_option maxHeartbeats 1500000 in
theorem fieldDigits_law (P M : Int) (vm : Value) (mod : List Int) (x : Int) (vd : Value) (l : List Int) (w : World) (hvm : Sl w vm mod) (hvd : Sl w vd l) :
    Calls Try.prog 9 #[.agg #[.int .i64 P, .int .i64 M, vm], .int .i64 x, vd] w fun e w' => e = .returned (.bool true) ∧ Kept w w' := by
  have hk := kept_alloc w (.cells #[.int .i64 P, .int .i64 M, vm] 24)
  have bx0 := boxF_new w P M vm 24
  have sv := hvm.kept hk
  by_cases hf : FieldP P M mod
  case neg =>
    have HF := hid hf
    clear hf
    go_enter Try.func9, Try.ntmps9
    go_wp2_with (first
      | (go_at_call 17; (with_reducible refine (alive_any _).mono ?_); rintro e w1 ⟨rfl, ka⟩; have b1 := bx0.kept ka; have s1 := sv.kept ka; have hkA := hk.tr ka; have c3 := b1.h0; have c4 := b1.h1; have c5 := b1.h2)
      | (go_at_call 18; (with_reducible refine (made_no P M vm mod _ s1 HF.out).mono ?_); rintro e w2 ⟨rfl, k2⟩; have hkB := hkA.tr k2; have s2 := hvm.kept hkB; have b2 := b1.kept k2; have d0 := b2.h0; have d1 := b2.h1; have d2 := b2.h2)
      | (go_at_call 19; (with_reducible refine (none_any P M vm mod _ s2 HF.out).mono ?_); rintro e w3 ⟨rfl, k3⟩))
    go_ret
    exact ⟨rfl, hkB.tr k3⟩
  have HF := hid hf
  clear hf
  obtain ⟨o1, o2, o3, o4, o5, o6⟩ := ordS_pos HF.out.1.1
  obtain ⟨m, rfl⟩ := Int.eq_ofNat_of_zero_le (show 0 ≤ M by omega)
  have HO5 : Hid (P ^ m ≤ 256) := hid (by have : (m : Int).toNat = m := by omega
                                          rw [this] at o5; exact o5)
  clear o5 o6
  go_enter Try.func9, Try.ntmps9
  go_wp2_with (first
    | (go_at_call 17; (with_reducible refine (alive_any _).mono ?_); rintro e w1 ⟨rfl, ka⟩; have b1 := bx0.kept ka; have s1 := sv.kept ka; have hkA := hk.tr ka; have c3 := b1.h0; have c4 := b1.h1; have c5 := b1.h2)
    | (go_at_call 18; (with_reducible refine (made_yes P m vm mod _ s1 HF.out).mono ?_); rintro e w2 ⟨b, G, rfl, hg2, t2, gP, gM, gm, k2⟩; have hkC := hkA.tr k2; have s2 := s1.kept k2; have b2 := b1.kept k2; have d0 := b2.h0; have d1 := b2.h1; have d2 := b2.h2; have HO : Hid (Of G P m mod) := hid ⟨gP, gM, gm⟩; clear gP gM gm))
  have HQ : Hid (ordS P m = G.q) := hid (by rw [← HO.out.1, ← HO.out.2.1, ← t2.hq])
  obtain ⟨q1, q2, q3, q4, q5, q6, q7⟩ := t2.qb
  have HM : Hid (G.M = m) := hid HO.out.2.1
  have HP : Hid (G.P = P) := hid HO.out.1
  have Hq7 : Hid (G.q = P ^ m) := hid (by rw [q7, HO.out.1, HO.out.2.1]; congr 1)
  have hX := inn_bd (q := G.q) (by omega) x
  have HV : Hid (valL G.P (digL G.P (inn G.q x) m) = inn G.q x) := hid (valL_digL (by omega) m _ hX.1 (by rw [HP.out, ← Hq7.out]; exact hX.2))
  have HD : Hid (Digs G.P (digL G.P (inn G.q x) m)) := hid (digs_digL (by omega) m)
  have HDL : Hid (((digL G.P (inn G.q x) m).length : Int) = G.M) := hid (by rw [length_digL, HM.out])
  have HDD : Hid (digL G.P (inn G.q x) m = digL P (inn (ordS P m) x) m) := hid (by rw [HP.out, HQ.out])
  have HQ0 : Hid (0 < ordS P m) := hid (by rw [HQ.out]; omega)
  have HQ2 : Hid (ordS P m ≤ 256) := hid (by rw [HQ.out]; exact q2)
  have sd2 := hvd.kept hkC
  have m8 : m ≤ 8 := by have := HM.out; omega
  clear hX q7 q5 q6
  go_wp2_with (first
    | (go_at_call 35; (with_reducible refine (gfDigits_any b G x _ (by first | exact hg2 | exact hg2.drew | exact hg2.drewN _ | exact hg2.drew.drewN _) t2 m HM.out).mono ?_); rintro e w11 ⟨g11, rfl, o11, k11⟩; have kk11 := Kept.tr (a := w2) (by first | exact Kept.rfl' _ | exact kept_drew _ | exact kept_drewN _ _ | exact (kept_drew _).drewN _) k11; have hg11 := hg2.kept kk11; have b11 := b2.kept kk11; have s11 := s2.kept kk11; have hk11 := hkC.tr kk11; have x11 := b11.h0; have y11 := b11.h1; have z11 := b11.h2)
    | (go_at_call 36; (with_reducible refine (fromDigits_any b G _ (digL G.P (inn G.q x) m) _ (by first | exact hg11 | exact hg11.drew | exact hg11.drewN _ | exact hg11.drew.drewN _) t2 (o11.sl.kept (by first | exact Kept.rfl' _ | exact kept_drew _ | exact kept_drewN _ _ | exact (kept_drew _).drewN _)) HDL.out _ (.inl ⟨HD.out, rfl⟩)).mono ?_); rintro e w12 ⟨rfl, n12, rfl⟩; rw [HV.out])
    | (go_at_call 38; (with_reducible refine (rDigits_any P m vm x _ o1 o2 m8 HQ0.out HQ2.out).mono ?_); rintro e w13 ⟨g13, rfl, o13, k13⟩; have kk13' := Kept.tr (a := w11) (by first | exact Kept.rfl' _ | exact kept_drew _ | exact kept_drewN _ _ | exact (kept_drew _).drewN _) k13; have kk13 := Kept.tr (a := w11) (by first | exact Kept.rfl' _ | exact kept_drew _ | exact kept_drewN _ _ | exact (kept_drew _).drewN _) k13; have hg13 := hg11.kept kk13; have b13 := b11.kept kk13; have s13 := s11.kept kk13; have hk13 := hk11.tr kk13; have x13 := b13.h0; have y13 := b13.h1; have z13 := b13.h2)
    | (go_at_call 37; (with_reducible refine (sameL_any _ _ (digL G.P (inn G.q x) m) (digL P (inn (ordS P m) x) m) _ ((o11.sl.kept kk13').kept (by first | exact Kept.rfl' _ | exact kept_drew _ | exact kept_drewN _ _ | exact (kept_drew _).drewN _)) (o13.sl.kept (by first | exact Kept.rfl' _ | exact kept_drew _ | exact kept_drewN _ _ | exact (kept_drew _).drewN _)) true ⟨fun _ => HDD.out, fun _ => rfl⟩).mono ?_); rintro e w14 ⟨rfl, n14, rfl⟩)
    | (go_at_call 23; (with_reducible refine (rIn_any P m vm x _).mono ?_); rintro e w15 ⟨rfl, k15⟩; rw [HQ.out]; have kk15 := Kept.tr (a := w13) (by first | exact Kept.rfl' _ | exact kept_drew _ | exact kept_drewN _ _ | exact (kept_drew _).drewN _) k15; have hg15 := hg13.kept kk15; have b15 := b13.kept kk15; have s15 := s13.kept kk15; have hk15 := hk13.tr kk15; have x15 := b15.h0; have y15 := b15.h1; have z15 := b15.h2))
  have sd15 := hvd.kept hk15
  by_cases hl : (l.length : Int) = (m : Int)
  case neg =>
    have tl : ((l.length : Int) != (m : Int)) = true := by simpa using hl
    have HL : Hid ((l.length : Int) ≠ G.M) := hid (by rw [HM.out]; exact hl)
    obtain ⟨av, cv, hvv, hcl, hcm⟩ := sl_len sd15
    subst hvv
    unfold maxLen at hcm
    clear hl
    go_wp2_with (first
      | (go_at_call 36; (with_reducible refine (fromDigits_len b G _ l _ (by first | exact hg15 | exact hg15.drew | exact hg15.drewN _ | exact hg15.drew.drewN _) (sd15.kept (by first | exact Kept.rfl' _ | exact kept_drew _ | exact kept_drewN _ _ | exact (kept_drew _).drewN _)) HL.out).mono ?_); rintro e w16 ⟨rfl, n16, rfl⟩))
    go_ret
    exact ⟨ret_bool (by simp), Kept.tr hk15 (by first | exact Kept.rfl' _ | exact kept_drew _ | exact kept_drewN _ _ | exact (kept_drew _).drewN _)⟩
  have tl : ((l.length : Int) != (m : Int)) = false := by simpa using hl
  have HL : Hid ((l.length : Int) = G.M) := hid (by rw [HM.out]; exact hl)
  have HLm : Hid (l.length = m) := hid (by omega)
  clear hl
  obtain ⟨av, cv, hvv, hcl, ⟨hcm, hcn⟩, hcc⟩ := id sd15
  subst hvv
  have hcm' := hcm
  unfold maxLen at hcm'
  clear hcm hcn
  by_cases hdd : Digs P l
  case neg =>
    have HDI := hid hdd
    have HDG : Hid (¬ Digs G.P l) := hid (by rw [HP.out]; exact hdd)
    clear hdd
    go_wp2_with (first
      | (go_at_call 36; (with_reducible refine (fromDigits_any b G _ l _ (by first | exact hg15 | exact hg15.drew | exact hg15.drewN _ | exact hg15.drew.drewN _) t2 (sd15.kept (by first | exact Kept.rfl' _ | exact kept_drew _ | exact kept_drewN _ _ | exact (kept_drew _).drewN _)) HL.out _ (.inr ⟨HDG.out, rfl⟩)).mono ?_); rintro e w16 ⟨rfl, n16, rfl⟩))
    have hkE := Kept.drewN hk15 n16
    have bE := b15.kept ((by first | exact Kept.rfl' _ | exact kept_drew _ | exact kept_drewN _ _ | exact (kept_drew _).drewN _))
    have p0 := bE.h0
    have p1 := bE.h1
    have p2 := bE.h2
    go_loop [72] (fun vi => ∃ k : Nat, k ≤ l.length ∧ vi = .int .i64 k ∧ Hid (∀ j, j < k → 0 ≤ l.getD j 0 ∧ l.getD j 0 < P)) (fun vi => l.length - (intOf vi).toNat)
    case atStart => exact ⟨0, by omega, rfl, hid (fun j hj => by omega)⟩
    case round =>
      obtain ⟨k, hk', rfl, hd⟩ := hrel
      by_cases hlt : k < l.length
      · obtain ⟨bb, off, rfl, hbb, hcell⟩ := hcc (by intro e; rw [e] at hlt; simp at hlt)
        have hck := hcell k hlt
        obtain ⟨z, hz⟩ : ∃ z, z = l.getD k 0 := ⟨_, rfl⟩
        rw [← hz] at hck
        have HZ := hid hz
        have hmem : Hid (z ∈ l) := hid (by rw [hz]; simp only [List.getD, List.getElem?_eq_getElem hlt, Option.getD_some]; exact List.getElem_mem _)
        clear hz hcell hcc
        by_cases hz0 : z < 0
        · go_wp2_with (fail)
          go_ret
          exact ⟨ret_bool (by simp), hkE⟩
        · by_cases hzP : P ≤ z
          · have z0 : 0 ≤ z := by omega
            clear hz0
            go_wp2_with (fail)
            go_ret
            exact ⟨ret_bool (by simp), hkE⟩
          · have z0 : 0 ≤ z := by omega
            have z1 : z < P := by omega
            have hd' : Hid (∀ j, j < k + 1 → 0 ≤ l.getD j 0 ∧ l.getD j 0 < P) := hid (fun j hj => by
              by_cases e : j = k
              · rw [e, ← HZ.out]; exact ⟨z0, z1⟩
              · exact hd.out j (by omega))
            clear hz0 hzP
            go_wp2_with (fail)
            go_round
            case rel => exact ⟨k + 1, by omega, by go_num, hd'⟩
            case measure => simp [intOf]; omega
      · exact absurd (fun z hz => by
          obtain ⟨j, hj, rfl⟩ := List.getElem_of_mem hz
          have := hd.out j (by omega)
          simpa only [List.getD, List.getElem?_eq_getElem hj, Option.getD_some] using this) HDI.out
  have HDI := hid hdd
  have HDG : Hid (Digs G.P l) := hid (by rw [HP.out]; exact hdd)
  have HVG : Hid (valL G.P l = valL P l) := hid (by rw [HP.out])
  clear hdd
  go_wp2_with (first
    | (go_at_call 36; (with_reducible refine (fromDigits_any b G _ l _ (by first | exact hg15 | exact hg15.drew | exact hg15.drewN _ | exact hg15.drew.drewN _) t2 (sd15.kept (by first | exact Kept.rfl' _ | exact kept_drew _ | exact kept_drewN _ _ | exact (kept_drew _).drewN _)) HL.out _ (.inl ⟨HDG.out, rfl⟩)).mono ?_); rintro e w16 ⟨rfl, n16, rfl⟩; rw [HVG.out]))
  have hkE := Kept.drewN hk15 n16
  have bE := b15.kept ((by first | exact Kept.rfl' _ | exact kept_drew _ | exact kept_drewN _ _ | exact (kept_drew _).drewN _))
  have p0 := bE.h0
  have p1 := bE.h1
  have p2 := bE.h2
  go_loop [72] (fun vi => ∃ k : Nat, k ≤ l.length ∧ vi = .int .i64 k ∧ Hid (∀ j, j < k → 0 ≤ l.getD j 0 ∧ l.getD j 0 < P)) (fun vi => l.length - (intOf vi).toNat)
  case atStart => exact ⟨0, by omega, rfl, hid (fun j hj => by omega)⟩
  case round =>
    obtain ⟨k, hk', rfl, hd⟩ := hrel
    by_cases hlt : k < l.length
    · obtain ⟨bb, off, rfl, hbb, hcell⟩ := hcc (by intro e; rw [e] at hlt; simp at hlt)
      have hck := hcell k hlt
      obtain ⟨z, hz⟩ : ∃ z, z = l.getD k 0 := ⟨_, rfl⟩
      rw [← hz] at hck
      have HZ := hid hz
      have hmem : Hid (z ∈ l) := hid (by rw [hz]; simp only [List.getD, List.getElem?_eq_getElem hlt, Option.getD_some]; exact List.getElem_mem _)
      clear hz hcell hcc
      obtain ⟨z0, z1⟩ := HDI.out z hmem.out
      have hd' : Hid (∀ j, j < k + 1 → 0 ≤ l.getD j 0 ∧ l.getD j 0 < P) := hid (fun j hj => by
        by_cases e : j = k
        · rw [e, ← HZ.out]; exact ⟨z0, z1⟩
        · exact hd.out j (by omega))
      go_wp2_with (fail)
      go_round
      case rel => exact ⟨k + 1, by omega, by go_num, hd'⟩
      case measure => simp [intOf]; omega
    · go_wp2_with (go_at_call 39; (with_reducible refine (rValue_any P m vm _ l _ (sd15.kept (by first | exact Kept.rfl' _ | exact kept_drew _ | exact kept_drewN _ _ | exact (kept_drew _).drewN _)) (by omega) o2 HDI.out (by rw [HLm.out]; exact HO5.out) (by rw [HLm.out]; exact m8)).mono ?_); rintro e w20 ⟨rfl, k20⟩)
      go_ret
      exact ⟨ret_bool (by simp), hkE.tr k20⟩
end Go.Proofs.Ytnmidgcmlkofjaa
