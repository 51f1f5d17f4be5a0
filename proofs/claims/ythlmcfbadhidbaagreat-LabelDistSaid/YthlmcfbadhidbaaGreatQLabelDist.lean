/- What is proved here: whatever the arguments, the law LabelDist of chapter 12 returns true, and each argument reads behind the call as it read before. Conditions: none beyond the row's own. -/
import Derived.Test.YthlmcfbadhidbaaGreatRows
import Derived.Test.YthlmcfbadhidbaaGreatQLabelDistLabelNeededLabelSelfLabelTellsL6
namespace Go.Proofs.YthlmcfbadhidbaaGreat
open Go Go.ChangeMaps Go.ChangeShapes Go.WideShapes Go.ChangeAt Go.RowKit
set_option maxRecDepth 100000 in
theorem labelDist_lifted (os : Os) (started : os.Started) (H : Type) (enc : TypeId × Value → H) :
    ReturnsInHanded {} Tryz.checked os 8 .any (Rows.labelDistSpec.pre6 enc Tryz.prog Tryz.f8 Rows.labelDistRow.domain false) (Rows.labelDistSpec.post enc Tryz.prog Tryz.f8 false true false false) := by
  refine returnsInHanded_of_change (C := Tryz.checked) own started (by kernel_rfl) Tryz.func8
    (ChangeSpec.witness6 (enc := enc) (C := Tryz.checked) false ⟨#[], #[.agg #[.slice none 0 0, .slice none 0 0, .slice none 0 0, .slice none 0 0]], []⟩ 8 (by kernel_rfl) (by kernel_rfl) (by kernel_rfl) (by kernel_rfl)) ?_
  intro W base args ds gs before hval0 hW hcnd _
  have hval : ∀ (j : Nat) t v, Tryz.f8.params[j]? = some t → args[j]? = some v → Value.okWide Tryz.prog W .any base t v := hval0
  have hW' := hW
  obtain ⟨p, q, hA0, hV, rfl, hfz, hnd⟩ := hW
  have hA : DataW.TrodAll enc Tryz.prog W 0 (fun _ => true) true Tryz.f8.params.toList args.toList ds p := hA0
  rw [Tryz.params8] at hA hval
  have hA1 := hA
  obtain ⟨v0, vs0, d0, ds0, p0, q0, hargs, rfl, hp0, h0, hr0⟩ := trodAll_cons hA
  obtain ⟨rfl, rfl, hpn⟩ := trodAll_nil hr0
  obtain rfl : args = #[v0] := by cases args; simp_all
  clear hp0 hpn hargs
  obtain ⟨rfl, rfl⟩ := trodVars_none hV
  obtain ⟨po0, no0, co0, O0, pt0, nt0, ct0, T0, pr0, nr0, cr0, R0, pv0, nv0, cv0, V0, rfl, hO0, hT0, hR0, hV0, co_0, ct_0, cr_0, cv_0⟩ := open_rowsarg (hval 0 24 v0 rfl rfl) h0
  refine (lawDist12 po0 no0 co0 O0 pt0 nt0 ct0 T0 pr0 nr0 cr0 R0 pv0 nv0 cv0 V0 W hO0 hT0 hR0 hV0 ct_0 cv_0).mono fun e W' ⟨he, hb⟩ => ?_
  subst he
  exact ⟨_, rfl, law_post hW' rfl rfl rfl (fun sp hsp => by
    rw [Tryz.params8]
    have hlt := fun x hx => hW'.lt x hx
    simp only [List.append_nil] at hlt hsp ⊢
    exact stays_all (by kernel_rfl) hA1 hb hlt hsp) hb⟩
theorem labelDist_holds : Rows.LabelDistSaid :=
  OpenClaim.holds_of_wide 8 Tryz.f8 rfl rfl rfl rfl rfl rfl rfl ⟨rfl, rfl, rfl, rfl, rfl⟩ rfl rfl rfl rfl rfl (by kernel_rfl) Tryz.func8 (by kernel_rfl)
    (of_decide_eq_true (by kernel_rfl)) (by unfold Func.isWrapper; first | (rw [if_pos (by decide +kernel)]; kernel_rfl) | (rw [if_neg (by decide +kernel)]; exact ⟨rfl, rfl⟩))
    (fun os started H enc _ => labelDist_lifted os started H enc)
#print axioms labelDist_holds
end Go.Proofs.YthlmcfbadhidbaaGreat
