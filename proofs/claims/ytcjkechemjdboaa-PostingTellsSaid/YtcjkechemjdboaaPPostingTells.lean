/- What is proved here: whatever the arguments, the law PostingTells of chapter 5 returns true, and each argument reads behind the call as it read before. Conditions: none beyond the row's own. -/
import Derived.Test.YtcjkechemjdboaaRows
import Derived.Test.YtcjkechemjdboaaLPTells
import Derived.Test.YtcjkechemjdboaaOpen
import Derived.Test.YtcjkechemjdboaaPost
import Derived.Test.YtcjkechemjdboaaOpen5
namespace Go.Proofs.Ytcjkechemjdboaa
open Go Go.ChangeMaps Go.ChangeShapes Go.WideShapes Go.ChangeAt Go.RowKit
set_option maxRecDepth 100000 in
theorem postingTells_lifted (os : Os) (started : os.Started) (H : Type) (enc : TypeId × Value → H) :
    ReturnsInHanded {} Try.checked os 6 .any (Rows.postingTellsSpec.pre6 enc Try.prog Try.f6 Rows.postingTellsRow.domain false) (Rows.postingTellsSpec.post enc Try.prog Try.f6 false true false false) := by
  refine returnsInHanded_of_change (C := Try.checked) own started (by kernel_rfl) Try.func6
    (ChangeSpec.witness6 (enc := enc) (C := Try.checked) false ⟨#[], #[.slice none 0 0, .int .i64 0, .slice none 0 0, .slice none 0 0, .slice none 0 0], []⟩ 8 (by kernel_rfl) (by kernel_rfl) (by kernel_rfl) (by kernel_rfl)) ?_
  intro W base args ds gs before hval0 hW hcnd _
  have hval : ∀ (j : Nat) t v, Try.f6.params[j]? = some t → args[j]? = some v → Value.okWide Try.prog W .any base t v := hval0
  have hW' := hW
  obtain ⟨p, q, hA0, hV, rfl, hfz, hnd⟩ := hW
  have hA : DataW.TrodAll enc Try.prog W 0 (fun _ => true) true Try.f6.params.toList args.toList ds p := hA0
  rw [Try.params6] at hA hval
  have hA1 := hA
  obtain ⟨v0, vs0, d0, ds0, p0, q0, hargs, rfl, hp0, h0, hr0⟩ := trodAll_cons hA
  obtain ⟨v1, vs1, d1, ds1, p1, q1, rfl, rfl, hp1, h1, hr1⟩ := trodAll_cons hr0
  obtain ⟨v2, vs2, d2, ds2, p2, q2, rfl, rfl, hp2, h2, hr2⟩ := trodAll_cons hr1
  obtain ⟨v3, vs3, d3, ds3, p3, q3, rfl, rfl, hp3, h3, hr3⟩ := trodAll_cons hr2
  obtain ⟨v4, vs4, d4, ds4, p4, q4, rfl, rfl, hp4, h4, hr4⟩ := trodAll_cons hr3
  obtain ⟨rfl, rfl, hpn⟩ := trodAll_nil hr4
  obtain rfl : args = #[v0, v1, v2, v3, v4] := by cases args; simp_all
  clear hp0 hp1 hp2 hp3 hp4 hpn hargs
  obtain ⟨rfl, rfl⟩ := trodVars_none hV
  obtain ⟨pp0, np0, cp0, hs0, L0, rfl, hc0, hL0, hI0⟩ := open_postings (hval 0 28 v0 rfl rfl) h0
  obtain ⟨n1, rfl, rfl, rfl, wi1⟩ := open_int Try.underlying3 (hval 1 3 v1 rfl rfl) h1
  obtain ⟨pt2, nt2, ct2, ws2, rfl, hc2, ht2⟩ := open_textrow (hval 2 35 v2 rfl rfl) h2
  obtain ⟨pi3, ni3, ci3, li3, rfl, hc3, hi3, hI3⟩ := open_introw (hval 3 38 v3 rfl rfl) h3
  obtain ⟨pi4, ni4, ci4, li4, rfl, hc4, hi4, hI4⟩ := open_introw (hval 4 38 v4 rfl rfl) h4
  refine (lawPTells pp0 np0 cp0 hs0 L0 n1 pt2 nt2 ct2 ws2 pi3 ni3 ci3 li3 pi4 ni4 ci4 li4 W hL0 hI0 ht2 hc2 hi3 hi4 hI3 hI4).mono fun e W' ⟨he, hb⟩ => ?_
  subst he
  exact ⟨_, rfl, law_post hW' rfl rfl rfl (fun sp hsp => by
    rw [Try.params6]
    have hlt := fun x hx => hW'.lt x hx
    simp only [List.append_nil] at hlt hsp ⊢
    exact stays_all (by kernel_rfl) hA1 hb hlt hsp) hb⟩
theorem postingTells_holds : Rows.PostingTellsSaid :=
  OpenClaim.holds_of_wide 6 Try.f6 rfl rfl rfl rfl rfl rfl rfl ⟨rfl, rfl, rfl, rfl, rfl⟩ rfl rfl rfl rfl rfl (by kernel_rfl) Try.func6 (by kernel_rfl)
    (of_decide_eq_true (by kernel_rfl)) (by unfold Func.isWrapper; first | (rw [if_pos (by decide +kernel)]; kernel_rfl) | (rw [if_neg (by decide +kernel)]; exact ⟨rfl, rfl⟩))
    (fun os started H enc _ => postingTells_lifted os started H enc)
#print axioms postingTells_holds
end Go.Proofs.Ytcjkechemjdboaa
