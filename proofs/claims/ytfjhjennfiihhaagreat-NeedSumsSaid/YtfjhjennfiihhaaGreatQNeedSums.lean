/- What is proved here: whatever the arguments, the law NeedSums of chapter 21 returns true, and each argument reads behind the call as it read before. Conditions: none beyond the row's own. -/
import Derived.Test.YtfjhjennfiihhaaGreatRows
import Derived.Test.YtfjhjennfiihhaaGreatQNeedFitsNeedSums6
namespace Go.Proofs.YtfjhjennfiihhaaGreat
open Go Go.ChangeMaps Go.ChangeShapes Go.WideShapes Go.ChangeAt Go.RowKit
set_option maxRecDepth 100000 in
theorem needSums_lifted (os : Os) (started : os.Started) (H : Type) (enc : TypeId × Value → H) :
    ReturnsInHanded {} Tryz.checked os 7 .any (Rows.needSumsSpec.pre6 enc Tryz.prog Tryz.f7 Rows.needSumsRow.domain false) (Rows.needSumsSpec.post enc Tryz.prog Tryz.f7 false true false false) := by
  refine returnsInHanded_of_change_sized (C := Tryz.checked) own started (by kernel_rfl) Tryz.func7
    (ChangeSpec.witness6 (enc := enc) (C := Tryz.checked) false ⟨#[], #[.slice none 0 0, .slice none 0 0, .slice none 0 0], []⟩ 8 (by kernel_rfl) (by kernel_rfl) (by kernel_rfl) (by kernel_rfl)) ?_
  intro W base args ds gs before hval0 hW hcnd hsz _
  have hval : ∀ (j : Nat) t v, Tryz.f7.params[j]? = some t → args[j]? = some v → Value.okWide Tryz.prog W .any base t v := hval0
  have hW' := hW
  obtain ⟨p, q, hA0, hV, rfl, hfz, hnd⟩ := hW
  have hA : DataW.TrodAll enc Tryz.prog W 0 (fun _ => true) true Tryz.f7.params.toList args.toList ds p := hA0
  rw [Tryz.params7] at hA hval
  have hA1 := hA
  obtain ⟨v0, vs0, d0, ds0, p0, q0, hargs, rfl, hp0, h0, hr0⟩ := trodAll_cons hA
  obtain ⟨v1, vs1, d1, ds1, p1, q1, rfl, rfl, hp1, h1, hr1⟩ := trodAll_cons hr0
  obtain ⟨v2, vs2, d2, ds2, p2, q2, rfl, rfl, hp2, h2, hr2⟩ := trodAll_cons hr1
  obtain ⟨rfl, rfl, hpn⟩ := trodAll_nil hr2
  obtain rfl : args = #[v0, v1, v2] := by cases args; simp_all
  have hw0 : ∀ m ∈ d0.weights Tryz.prog 45, m ≤ reachBytes := fun m hm => by
    have := List.all_eq_true.1 hsz m (by rw [Tryz.params7]; show m ∈ DataW.weightsEach Tryz.prog (_ :: _) (_ :: _); rw [DataW.weightsEach]; exact List.mem_append_left _ hm)
    simpa using this
  clear hp0 hp1 hp2 hpn hargs
  obtain ⟨rfl, rfl⟩ := trodVars_none hV
  obtain ⟨pl0, nl0, cl0, hs0, LL0, rfl, cl_0, hL0, bL0⟩ := open_introws (hval 0 45 v0 rfl rfl) h0 hw0
  obtain ⟨pi1, ni1, ci1, li1, rfl, hc1, hi1, hI1⟩ := open_introw (hval 1 25 v1 rfl rfl) h1
  obtain ⟨pi2, ni2, ci2, li2, rfl, hc2, hi2, hI2⟩ := open_introw (hval 2 25 v2 rfl rfl) h2
  refine (lawSums21 pl0 nl0 cl0 hs0 LL0 pi1 ni1 ci1 li1 pi2 ni2 ci2 li2 W hL0 bL0 cl_0 hi1 hi2 hI2).mono fun e W' ⟨he, hb⟩ => ?_
  subst he
  exact ⟨_, rfl, law_post hW' rfl rfl rfl (fun sp hsp => by
    rw [Tryz.params7]
    have hlt := fun x hx => hW'.lt x hx
    simp only [List.append_nil] at hlt hsp ⊢
    exact stays_all (by kernel_rfl) hA1 hb hlt hsp) hb⟩
set_option maxHeartbeats 16000000 in
theorem needSums_holds : Rows.NeedSumsSaid :=
  OpenClaim.holds_of_wide 7 Tryz.f7 rfl rfl rfl rfl rfl rfl rfl ⟨rfl, rfl, rfl, rfl, rfl⟩ rfl rfl rfl rfl rfl (by kernel_rfl) Tryz.func7 (by unfold joinedFacts; refine andT (andT (andT (andT (andT (andT (andT (andT (andT (andT (andT (andT (andT (andT (andT (andT (andT (andT (andT (andT (andT (andT (andT (andT (andT (andT (andT (andT (andT (andT (andT ?_ ?_) ?_) ?_) ?_) ?_) ?_) ?_) ?_) ?_) ?_) ?_) ?_) ?_) ?_) ?_) ?_) ?_) ?_) ?_) ?_) ?_) ?_) ?_) ?_) ?_) ?_) ?_) ?_) ?_) ?_) ?_ <;> as_aux_lemma => kernel_rfl)
    (of_decide_eq_true (by kernel_rfl)) (by unfold Func.isWrapper; first | (rw [if_pos (by decide +kernel)]; kernel_rfl) | (rw [if_neg (by decide +kernel)]; exact ⟨rfl, rfl⟩))
    (fun os started H enc _ => needSums_lifted os started H enc)
#print axioms needSums_holds
end Go.Proofs.YtfjhjennfiihhaaGreat
