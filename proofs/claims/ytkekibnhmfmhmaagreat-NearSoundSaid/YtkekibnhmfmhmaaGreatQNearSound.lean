/- What is proved here: whatever the arguments, the law NearSound of chapter 9 returns true, and each argument reads behind the call as it read before. Conditions: none beyond the row's own. -/
import Derived.Test.YtkekibnhmfmhmaaGreatRows
import Derived.Test.YtkekibnhmfmhmaaGreatQNearSound5
namespace Go.Proofs.YtkekibnhmfmhmaaGreat
open Go Go.ChangeMaps Go.ChangeShapes Go.WideShapes Go.ChangeAt Go.RowKit
set_option maxRecDepth 100000 in
theorem nearSound_lifted (os : Os) (started : os.Started) (H : Type) (enc : TypeId × Value → H) :
    ReturnsInHanded {} Tryz.checked os 9 .any (Rows.nearSoundSpec.pre6 enc Tryz.prog Tryz.f9 Rows.nearSoundRow.domain false) (Rows.nearSoundSpec.post enc Tryz.prog Tryz.f9 false true false false) := by
  refine returnsInHanded_of_change (C := Tryz.checked) own started (by kernel_rfl) Tryz.func9
    (ChangeSpec.witness6 (enc := enc) (C := Tryz.checked) false ⟨#[], #[.agg #[.slice none 0 0, .slice none 0 0, .slice none 0 0, .slice none 0 0], .slice none 0 0, .int .i64 0, .slice none 0 0, .int .i64 0], []⟩ 8 (by kernel_rfl) (by kernel_rfl) (by kernel_rfl) (by kernel_rfl)) ?_
  intro W base args ds gs before hval0 hW hcnd _
  have hval : ∀ (j : Nat) t v, Tryz.f9.params[j]? = some t → args[j]? = some v → Value.okWide Tryz.prog W .any base t v := hval0
  have hW' := hW
  obtain ⟨p, q, hA0, hV, rfl, hfz, hnd⟩ := hW
  have hA : DataW.TrodAll enc Tryz.prog W 0 (fun _ => true) true Tryz.f9.params.toList args.toList ds p := hA0
  rw [Tryz.params9] at hA hval
  have hA1 := hA
  obtain ⟨v0, vs0, d0, ds0, p0, q0, hargs, rfl, hp0, h0, hr0⟩ := trodAll_cons hA
  obtain ⟨v1, vs1, d1, ds1, p1, q1, rfl, rfl, hp1, h1, hr1⟩ := trodAll_cons hr0
  obtain ⟨v2, vs2, d2, ds2, p2, q2, rfl, rfl, hp2, h2, hr2⟩ := trodAll_cons hr1
  obtain ⟨v3, vs3, d3, ds3, p3, q3, rfl, rfl, hp3, h3, hr3⟩ := trodAll_cons hr2
  obtain ⟨v4, vs4, d4, ds4, p4, q4, rfl, rfl, hp4, h4, hr4⟩ := trodAll_cons hr3
  obtain ⟨rfl, rfl, hpn⟩ := trodAll_nil hr4
  obtain rfl : args = #[v0, v1, v2, v3, v4] := by cases args; simp_all
  clear hp0 hp1 hp2 hp3 hp4 hpn hargs
  obtain ⟨rfl, rfl⟩ := trodVars_none hV
  obtain ⟨po0, no0, co0, O0, pt0, nt0, ct0, T0, pr0, nr0, cr0, R0, pv0, nv0, cv0, V0, rfl, hO0, hT0, hR0, hV0, co_0, ct_0, cr_0, cv_0⟩ := open_rowsarg (hval 0 41 v0 rfl rfl) h0
  obtain ⟨pp1, np1, cp1, hs1, L1, rfl, hc1, hL1, hI1⟩ := open_postings (hval 1 25 v1 rfl rfl) h1
  obtain ⟨n2, rfl, rfl, rfl, wi2⟩ := open_int Tryz.underlying3 (hval 2 3 v2 rfl rfl) h2
  obtain ⟨pt3, nt3, ct3, ws3, rfl, hc3, ht3⟩ := open_textrow (hval 3 22 v3 rfl rfl) h3
  obtain ⟨n4, rfl, rfl, rfl, wi4⟩ := open_int Tryz.underlying3 (hval 4 3 v4 rfl rfl) h4
  refine (lawSound9 po0 no0 co0 O0 pt0 nt0 ct0 T0 pr0 nr0 cr0 R0 pv0 nv0 cv0 V0 pp1 np1 cp1 hs1 L1 pt3 nt3 ct3 ws3 n2 n4 W hO0 hT0 hR0 hV0 ct_0 cv_0 hL1 hI1 ht3 hc3).mono fun e W' ⟨he, hb⟩ => ?_
  subst he
  exact ⟨_, rfl, law_post hW' rfl rfl rfl (fun sp hsp => by
    rw [Tryz.params9]
    have hlt := fun x hx => hW'.lt x hx
    simp only [List.append_nil] at hlt hsp ⊢
    exact stays_all (by kernel_rfl) hA1 hb hlt hsp) hb⟩
theorem nearSound_holds : Rows.NearSoundSaid :=
  OpenClaim.holds_of_wide 9 Tryz.f9 rfl rfl rfl rfl rfl rfl rfl ⟨rfl, rfl, rfl, rfl, rfl⟩ rfl rfl rfl rfl rfl (by kernel_rfl) Tryz.func9 (by kernel_rfl)
    (of_decide_eq_true (by kernel_rfl)) (by unfold Func.isWrapper; first | (rw [if_pos (by decide +kernel)]; kernel_rfl) | (rw [if_neg (by decide +kernel)]; exact ⟨rfl, rfl⟩))
    (fun os started H enc _ => nearSound_lifted os started H enc)
#print axioms nearSound_holds
end Go.Proofs.YtkekibnhmfmhmaaGreat
