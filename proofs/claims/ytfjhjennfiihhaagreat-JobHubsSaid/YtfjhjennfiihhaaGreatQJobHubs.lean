/- What is proved here: whatever the arguments, the law JobHubs of chapter 20 returns true, and each argument reads behind the call as it read before. Conditions: none beyond the row's own. -/
import Derived.Test.YtfjhjennfiihhaaGreatRows
import Derived.Test.YtfjhjennfiihhaaGreatQJobHubs7
namespace Go.Proofs.YtfjhjennfiihhaaGreat
open Go Go.ChangeMaps Go.ChangeShapes Go.WideShapes Go.ChangeAt Go.RowKit
set_option maxRecDepth 100000 in
theorem jobHubs_lifted (os : Os) (started : os.Started) (H : Type) (enc : TypeId × Value → H) :
    ReturnsInHanded {} Tryz.checked os 13 .any (Rows.jobHubsSpec.pre6 enc Tryz.prog Tryz.f13 Rows.jobHubsRow.domain false) (Rows.jobHubsSpec.post enc Tryz.prog Tryz.f13 false true false false) := by
  refine returnsInHanded_of_change (C := Tryz.checked) own started (by kernel_rfl) Tryz.func13
    (ChangeSpec.witness6 (enc := enc) (C := Tryz.checked) false ⟨#[], #[.agg #[.int .i64 0, .int .i64 0, .int .i64 0, .slice none 0 0, .int .i64 0, .int .i64 0], .agg #[.slice none 0 0, .slice none 0 0, .slice none 0 0, .slice none 0 0]], []⟩ 8 (by kernel_rfl) (by kernel_rfl) (by kernel_rfl) (by kernel_rfl)) ?_
  intro W base args ds gs before hval0 hW hcnd _
  have hval : ∀ (j : Nat) t v, Tryz.f13.params[j]? = some t → args[j]? = some v → Value.okWide Tryz.prog W .any base t v := hval0
  have hW' := hW
  obtain ⟨p, q, hA0, hV, rfl, hfz, hnd⟩ := hW
  have hA : DataW.TrodAll enc Tryz.prog W 0 (fun _ => true) true Tryz.f13.params.toList args.toList ds p := hA0
  rw [Tryz.params13] at hA hval
  have hA1 := hA
  obtain ⟨v0, vs0, d0, ds0, p0, q0, hargs, rfl, hp0, h0, hr0⟩ := trodAll_cons hA
  obtain ⟨v1, vs1, d1, ds1, p1, q1, rfl, rfl, hp1, h1, hr1⟩ := trodAll_cons hr0
  obtain ⟨rfl, rfl, hpn⟩ := trodAll_nil hr1
  obtain rfl : args = #[v0, v1] := by cases args; simp_all
  clear hp0 hp1 hpn hargs
  obtain ⟨rfl, rfl⟩ := trodVars_none hV
  obtain ⟨k0, f0, t0, pw0, nw0, cw0, ws0, rad0, most0, rfl, cw_0, hw0, hI0, iR0, iM0⟩ := open_query (hval 0 24 v0 rfl rfl) h0
  obtain ⟨po1, no1, co1, O1, pt1, nt1, ct1, T1, pr1, nr1, cr1, R1, pv1, nv1, cv1, V1, rfl, hO1, hT1, hR1, hV1, co_1, ct_1, cr_1, cv_1⟩ := open_rowsarg (hval 1 27 v1 rfl rfl) h1
  refine (lawHubs20 k0 f0 t0 pw0 nw0 cw0 ws0 rad0 most0 po1 no1 co1 O1 pt1 nt1 ct1 T1 pr1 nr1 cr1 R1 pv1 nv1 cv1 V1 W hO1 hT1 hR1 hV1 ct_1 cv_1 hw0 cw_0).mono fun e W' ⟨he, hb⟩ => ?_
  subst he
  exact ⟨_, rfl, law_post hW' rfl rfl rfl (fun sp hsp => by
    rw [Tryz.params13]
    have hlt := fun x hx => hW'.lt x hx
    simp only [List.append_nil] at hlt hsp ⊢
    exact stays_all (by kernel_rfl) hA1 hb hlt hsp) hb⟩
set_option maxHeartbeats 16000000 in
theorem jobHubs_holds : Rows.JobHubsSaid :=
  OpenClaim.holds_of_wide 13 Tryz.f13 rfl rfl rfl rfl rfl rfl rfl ⟨rfl, rfl, rfl, rfl, rfl⟩ rfl rfl rfl rfl rfl (by kernel_rfl) Tryz.func13 (by unfold joinedFacts; refine andT (andT (andT (andT (andT (andT (andT (andT (andT (andT (andT (andT (andT (andT (andT (andT (andT (andT (andT (andT (andT (andT (andT (andT (andT (andT (andT (andT (andT (andT (andT ?_ ?_) ?_) ?_) ?_) ?_) ?_) ?_) ?_) ?_) ?_) ?_) ?_) ?_) ?_) ?_) ?_) ?_) ?_) ?_) ?_) ?_) ?_) ?_) ?_) ?_) ?_) ?_) ?_) ?_) ?_) ?_ <;> as_aux_lemma => kernel_rfl)
    (of_decide_eq_true (by kernel_rfl)) (by unfold Func.isWrapper; first | (rw [if_pos (by decide +kernel)]; kernel_rfl) | (rw [if_neg (by decide +kernel)]; exact ⟨rfl, rfl⟩))
    (fun os started H enc _ => jobHubs_lifted os started H enc)
#print axioms jobHubs_holds
end Go.Proofs.YtfjhjennfiihhaaGreat
