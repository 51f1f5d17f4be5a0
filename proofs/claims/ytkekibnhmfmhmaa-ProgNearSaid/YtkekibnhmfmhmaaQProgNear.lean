/- What is proved here: whatever the arguments, the law ProgNear of chapter 18 returns true, and each argument reads behind the call as it read before. Conditions: none beyond the row's own. -/
import Derived.Test.YtkekibnhmfmhmaaRows
import Derived.Test.YtkekibnhmfmhmaaQProgNear3
namespace Go.Proofs.Ytkekibnhmfmhmaa
open Go Go.ChangeMaps Go.ChangeShapes Go.WideShapes Go.ChangeAt Go.RowKit
set_option maxRecDepth 100000 in
theorem progNear_lifted (os : Os) (started : os.Started) (H : Type) (enc : TypeId × Value → H) :
    ReturnsInHanded {} Try.checked os 6 .any (Rows.progNearSpec.pre6 enc Try.prog Try.f6 Rows.progNearRow.domain false) (Rows.progNearSpec.post enc Try.prog Try.f6 false true false false) := by
  refine returnsInHanded_of_change (C := Try.checked) own started (by kernel_rfl) Try.func6
    (ChangeSpec.witness6 (enc := enc) (C := Try.checked) false ⟨#[], #[.agg #[.int .i64 0, .int .i64 0, .int .i64 0, .slice none 0 0, .int .i64 0, .int .i64 0], .agg #[.slice none 0 0, .slice none 0 0, .slice none 0 0, .slice none 0 0], .agg #[.int .i64 0, .int .i64 0, .int .i64 0, .int .i64 0]], []⟩ 8 (by kernel_rfl) (by kernel_rfl) (by kernel_rfl) (by kernel_rfl)) ?_
  intro W base args ds gs before hval0 hW hcnd _
  have hval : ∀ (j : Nat) t v, Try.f6.params[j]? = some t → args[j]? = some v → Value.okWide Try.prog W .any base t v := hval0
  have hW' := hW
  obtain ⟨p, q, hA0, hV, rfl, hfz, hnd⟩ := hW
  have hA : DataW.TrodAll enc Try.prog W 0 (fun _ => true) true Try.f6.params.toList args.toList ds p := hA0
  rw [Try.params6] at hA hval
  have hA1 := hA
  obtain ⟨v0, vs0, d0, ds0, p0, q0, hargs, rfl, hp0, h0, hr0⟩ := trodAll_cons hA
  obtain ⟨v1, vs1, d1, ds1, p1, q1, rfl, rfl, hp1, h1, hr1⟩ := trodAll_cons hr0
  obtain ⟨v2, vs2, d2, ds2, p2, q2, rfl, rfl, hp2, h2, hr2⟩ := trodAll_cons hr1
  obtain ⟨rfl, rfl, hpn⟩ := trodAll_nil hr2
  obtain rfl : args = #[v0, v1, v2] := by cases args; simp_all
  clear hp0 hp1 hp2 hpn hargs
  obtain ⟨rfl, rfl⟩ := trodVars_none hV
  obtain ⟨k0, f0, t0, pw0, nw0, cw0, ws0, rad0, most0, rfl, cw_0, hw0, hI0, iR0, iM0⟩ := open_query (hval 0 24 v0 rfl rfl) h0
  obtain ⟨po1, no1, co1, O1, pt1, nt1, ct1, T1, pr1, nr1, cr1, R1, pv1, nv1, cv1, V1, rfl, hO1, hT1, hR1, hV1, co_1, ct_1, cr_1, cv_1⟩ := open_rowsarg (hval 1 53 v1 rfl rfl) h1
  obtain ⟨x2, rfl, xI2⟩ := open_State (hval 2 46 v2 rfl rfl) h2
  refine (lawNear18 k0 f0 t0 pw0 nw0 cw0 ws0 rad0 most0 po1 no1 co1 O1 pt1 nt1 ct1 T1 pr1 nr1 cr1 R1 pv1 nv1 cv1 V1 x2.s x2.r x2.v x2.d W hw0 hO1 hT1 hR1 hV1 ct_1 cv_1).mono fun e W' ⟨he, hb⟩ => ?_
  subst he
  exact ⟨_, rfl, law_post hW' rfl rfl rfl (fun sp hsp => by
    rw [Try.params6]
    have hlt := fun x hx => hW'.lt x hx
    simp only [List.append_nil] at hlt hsp ⊢
    exact stays_all (by kernel_rfl) hA1 hb hlt hsp) hb⟩
theorem progNear_holds : Rows.ProgNearSaid :=
  OpenClaim.holds_of_wide 6 Try.f6 rfl rfl rfl rfl rfl rfl rfl ⟨rfl, rfl, rfl, rfl, rfl⟩ rfl rfl rfl rfl rfl (by kernel_rfl) Try.func6 (by kernel_rfl)
    (of_decide_eq_true (by kernel_rfl)) (by unfold Func.isWrapper; first | (rw [if_pos (by decide +kernel)]; kernel_rfl) | (rw [if_neg (by decide +kernel)]; exact ⟨rfl, rfl⟩))
    (fun os started H enc _ => progNear_lifted os started H enc)
#print axioms progNear_holds
end Go.Proofs.Ytkekibnhmfmhmaa
