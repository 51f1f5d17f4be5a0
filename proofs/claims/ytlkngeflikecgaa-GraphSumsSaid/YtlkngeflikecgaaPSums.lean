/- What is proved here: for every graph the law GraphSums of chapter 2 returns true, and its argument reads behind the call as it read before. Conditions: none beyond the row's own. -/
import Derived.Test.YtlkngeflikecgaaRows
import Derived.Test.YtlkngeflikecgaaLSums
import Derived.Test.YtlkngeflikecgaaOpen
import Derived.Test.YtlkngeflikecgaaPost
namespace Go.Proofs.Ytlkngeflikecgaa
open Go.ChangeShapes Go.WideShapes Go.ChangeAt Go.RowKit
set_option maxRecDepth 100000 in
theorem sums_lifted (os : Os) (started : os.Started) (H : Type) (enc : TypeId × Value → H) :
    ReturnsInHanded {} Try.checked os 5 .any (Rows.graphSumsSpec.pre6 enc Try.prog Try.f5 Rows.graphSumsRow.domain false) (Rows.graphSumsSpec.post enc Try.prog Try.f5 false true false false) := by
  refine returnsInHanded_of_change (C := Try.checked) own started (by kernel_rfl) Try.func5
    (ChangeSpec.witness6 (enc := enc) (C := Try.checked) false ⟨#[], #[.agg #[.int .i64 0, .slice none 0 0, .slice none 0 0]], []⟩ 8 (by kernel_rfl) (by kernel_rfl) (by kernel_rfl) (by kernel_rfl)) ?_
  intro W base args ds gs before hval0 hW hcnd _
  have hval : ∀ (j : Nat) t v, Try.f5.params[j]? = some t → args[j]? = some v → Value.okWide Try.prog W .any base t v := hval0
  have hW' := hW
  obtain ⟨p, q, hA0, hV, rfl, hfz, hnd⟩ := hW
  have hA : DataW.TrodAll enc Try.prog W 0 (fun _ => true) true Try.f5.params.toList args.toList ds p := hA0
  rw [Try.params5] at hA hval
  obtain ⟨v0, d0, rfl, rfl, h0⟩ := trodAll_one hA
  obtain ⟨rfl, rfl⟩ := trodVars_none hV
  obtain ⟨N, pe, ne, ce, pw, nw, cw, E, hs, WW, rfl, hE, hR⟩ := open_graph (hval 0 25 v0 rfl rfl) h0
  refine (lawSums N pe ne ce pw nw cw E hs WW W hE hR).mono fun e W' ⟨he, hb⟩ => ?_
  subst he
  exact ⟨_, rfl, law_post hW' rfl rfl rfl (fun sp hsp => by
    rw [Try.params5]
    have hlt := fun x hx => hW'.lt x hx
    simp only [List.append_nil] at hlt hsp ⊢
    exact trodAll_mk1 (stays (by kernel_rfl) (of_decide_eq_true (by kernel_rfl)) h0 hb hlt hsp)) hb⟩
theorem graphSums_holds : Rows.GraphSumsSaid :=
  OpenClaim.holds_of_wide 5 Try.f5 rfl rfl rfl rfl rfl rfl rfl ⟨rfl, rfl, rfl, rfl, rfl⟩ rfl rfl rfl rfl rfl (by kernel_rfl) Try.func5 (by kernel_rfl)
    (of_decide_eq_true (by kernel_rfl)) (by unfold Func.isWrapper; first | (rw [if_pos (by decide +kernel)]; kernel_rfl) | (rw [if_neg (by decide +kernel)]; exact ⟨rfl, rfl⟩))
    (fun os started H enc _ => sums_lifted os started H enc)
#print axioms graphSums_holds
end Go.Proofs.Ytlkngeflikecgaa
