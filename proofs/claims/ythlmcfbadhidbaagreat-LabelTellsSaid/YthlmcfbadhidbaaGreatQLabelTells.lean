/- What is proved here: whatever the arguments, the law LabelTells of chapter 12 returns true, and each argument reads behind the call as it read before. Conditions: none beyond the row's own. -/
import Derived.Test.YthlmcfbadhidbaaGreatRows
import Derived.Test.YthlmcfbadhidbaaGreatQLabelDistLabelNeededLabelSelfLabelTellsL6
namespace Go.Proofs.YthlmcfbadhidbaaGreat
open Go Go.ChangeMaps Go.ChangeShapes Go.WideShapes Go.ChangeAt Go.RowKit
set_option maxRecDepth 100000 in
theorem labelTells_lifted (os : Os) (started : os.Started) (H : Type) (enc : TypeId × Value → H) :
    ReturnsInHanded {} Tryz.checked os 5 .any (Rows.labelTellsSpec.pre6 enc Tryz.prog Tryz.f5 Rows.labelTellsRow.domain false) (Rows.labelTellsSpec.post enc Tryz.prog Tryz.f5 false true false false) := by
  refine returnsInHanded_of_change_sized (C := Tryz.checked) own started (by kernel_rfl) Tryz.func5
    (ChangeSpec.witness6 (enc := enc) (C := Tryz.checked) false ⟨#[], #[.agg #[.slice none 0 0, .slice none 0 0], .int .i64 0, .int .i64 0], []⟩ 8 (by kernel_rfl) (by kernel_rfl) (by kernel_rfl) (by kernel_rfl)) ?_
  intro W base args ds gs before hval0 hW hcnd hsz _
  have hval : ∀ (j : Nat) t v, Tryz.f5.params[j]? = some t → args[j]? = some v → Value.okWide Tryz.prog W .any base t v := hval0
  have hW' := hW
  obtain ⟨p, q, hA0, hV, rfl, hfz, hnd⟩ := hW
  have hA : DataW.TrodAll enc Tryz.prog W 0 (fun _ => true) true Tryz.f5.params.toList args.toList ds p := hA0
  rw [Tryz.params5] at hA hval
  have hA1 := hA
  obtain ⟨v0, vs0, d0, ds0, p0, q0, hargs, rfl, hp0, h0, hr0⟩ := trodAll_cons hA
  obtain ⟨v1, vs1, d1, ds1, p1, q1, rfl, rfl, hp1, h1, hr1⟩ := trodAll_cons hr0
  obtain ⟨v2, vs2, d2, ds2, p2, q2, rfl, rfl, hp2, h2, hr2⟩ := trodAll_cons hr1
  obtain ⟨rfl, rfl, hpn⟩ := trodAll_nil hr2
  obtain rfl : args = #[v0, v1, v2] := by cases args; simp_all
  have hw0 : ∀ m ∈ d0.weights Tryz.prog 42, m ≤ reachBytes := fun m hm => by
    have := List.all_eq_true.1 hsz m (by rw [Tryz.params5]; show m ∈ DataW.weightsEach Tryz.prog (_ :: _) (_ :: _); rw [DataW.weightsEach]; exact List.mem_append_left _ hm)
    simpa using this
  clear hp0 hp1 hp2 hpn hargs
  obtain ⟨rfl, rfl⟩ := trodVars_none hV
  obtain ⟨pA0, nA0, cA0, sA0, A0, pB0, nB0, cB0, sB0, B0, rfl, RA0, RB0, bA0, bB0⟩ := open_labels (hval 0 42 v0 rfl rfl) h0 hw0
  obtain ⟨n1, rfl, rfl, rfl, wi1⟩ := open_int Tryz.underlying3 (hval 1 3 v1 rfl rfl) h1
  obtain ⟨n2, rfl, rfl, rfl, wi2⟩ := open_int Tryz.underlying3 (hval 2 3 v2 rfl rfl) h2
  refine (lawTells12 pA0 nA0 cA0 sA0 A0 pB0 nB0 cB0 sB0 B0 n1 n2 W RA0 RB0 bA0 bB0).mono fun e W' ⟨he, hb⟩ => ?_
  subst he
  exact ⟨_, rfl, law_post hW' rfl rfl rfl (fun sp hsp => by
    rw [Tryz.params5]
    have hlt := fun x hx => hW'.lt x hx
    simp only [List.append_nil] at hlt hsp ⊢
    exact stays_all (by kernel_rfl) hA1 hb hlt hsp) hb⟩
theorem labelTells_holds : Rows.LabelTellsSaid :=
  OpenClaim.holds_of_wide 5 Tryz.f5 rfl rfl rfl rfl rfl rfl rfl ⟨rfl, rfl, rfl, rfl, rfl⟩ rfl rfl rfl rfl rfl (by kernel_rfl) Tryz.func5 (by kernel_rfl)
    (of_decide_eq_true (by kernel_rfl)) (by unfold Func.isWrapper; first | (rw [if_pos (by decide +kernel)]; kernel_rfl) | (rw [if_neg (by decide +kernel)]; exact ⟨rfl, rfl⟩))
    (fun os started H enc _ => labelTells_lifted os started H enc)
#print axioms labelTells_holds
end Go.Proofs.YthlmcfbadhidbaaGreat
