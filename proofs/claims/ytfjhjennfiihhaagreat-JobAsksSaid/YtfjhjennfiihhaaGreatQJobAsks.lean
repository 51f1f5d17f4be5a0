/- What is proved here: whatever the arguments, the law JobAsks of chapter 20 returns true, and each argument reads behind the call as it read before. Conditions: none beyond the row's own. -/
import Derived.Test.YtfjhjennfiihhaaGreatRows
import Derived.Test.YtfjhjennfiihhaaGreatQJobAsks7
namespace Go.Proofs.YtfjhjennfiihhaaGreat
open Go Go.ChangeMaps Go.ChangeShapes Go.WideShapes Go.ChangeAt Go.RowKit
set_option maxRecDepth 100000 in
theorem jobAsks_lifted (os : Os) (started : os.Started) (H : Type) (enc : TypeId × Value → H) :
    ReturnsInHanded {} Tryz.checked os 12 .any (Rows.jobAsksSpec.pre6 enc Tryz.prog Tryz.f12 Rows.jobAsksRow.domain false) (Rows.jobAsksSpec.post enc Tryz.prog Tryz.f12 false true false false) := by
  refine returnsInHanded_of_change_sized (C := Tryz.checked) oF started (by kernel_rfl) Tryz.func12
    (ChangeSpec.witness6 (enc := enc) (C := Tryz.checked) false ⟨#[], #[.agg #[.int .i64 0, .int .i64 0, .int .i64 0, .slice none 0 0, .int .i64 0, .int .i64 0], .agg #[.slice none 0 0, .slice none 0 0, .slice none 0 0, .slice none 0 0], .slice none 0 0, .agg #[.slice none 0 0, .slice none 0 0]], []⟩ 8 (by kernel_rfl) (by kernel_rfl) (by kernel_rfl) (by kernel_rfl)) ?_
  intro W base args ds gs before hval0 hW hcnd hsz _
  have hval : ∀ (j : Nat) t v, Tryz.f12.params[j]? = some t → args[j]? = some v → Value.okWide Tryz.prog W .any base t v := hval0
  have hW' := hW
  obtain ⟨p, q, Oh, hV, rfl, hfz, hnd⟩ := hW
  have hA : DataW.TrodAll enc Tryz.prog W 0 (fun _ => true) true Tryz.f12.params.toList args.toList ds p := Oh
  rw [Tryz.params12] at hA hval
  have hA1 := hA
  obtain ⟨v0, Vb, d0, ds0, p0, q0, hargs, rfl, hp0, h0, hr0⟩ := trodAll_cons hA
  obtain ⟨v1, vs1, d1, ds1, p1, q1, rfl, rfl, hp1, h1, hr1⟩ := trodAll_cons hr0
  obtain ⟨v2, vs2, d2, ZI, p2, q2, rfl, rfl, hp2, h2, hr2⟩ := trodAll_cons hr1
  obtain ⟨v3, vs3, d3, ds3, p3, q3, rfl, rfl, hp3, h3, hr3⟩ := trodAll_cons hr2
  obtain ⟨rfl, rfl, hpn⟩ := trodAll_nil hr3
  obtain rfl : args = #[v0, v1, v2, v3] := by cases args; simp_all
  have hw3 : ∀ m ∈ d3.weights Tryz.prog 67, m ≤ reachBytes := fun m hm => by
    have := List.all_eq_true.1 hsz m (by rw [Tryz.params12]; show m ∈ DataW.weightsEach Tryz.prog (_ :: _ :: _ :: _ :: _) (_ :: _ :: _ :: _ :: _); rw [DataW.weightsEach]; refine List.mem_append_right _ ?_; rw [DataW.weightsEach]; refine List.mem_append_right _ ?_; rw [DataW.weightsEach]; refine List.mem_append_right _ ?_; rw [DataW.weightsEach]; exact List.mem_append_left _ hm)
    simpa using this
  clear hp0 hp1 hp2 hp3 hpn hargs
  obtain ⟨rfl, rfl⟩ := trodVars_none hV
  obtain ⟨k0, f0, t0, Zj, Y5, Yk, Zp, Va, Qv, rfl, UA, hw0, hI0, ZT, ZR⟩ := vS (hval 0 24 v0 rfl rfl) h0
  obtain ⟨Za, YY, Yd, O1, Zh, Y3, Yi, T1, Zf, Y1, Yf, R1, Zi, Y4, Yj, V1, rfl, MH, hT1, Yx, hV1, Ye, Ux, Yg, Uy⟩ := rZ (hval 1 27 v1 rfl rfl) h1
  obtain ⟨Zc, YZ, cp2, hs2, L2, rfl, hc2, hL2, hI2⟩ := pK (hval 2 28 v2 rfl rfl) h2
  obtain ⟨Y7, YW, Yc, Zl, A3, Y9, YX, cB3, Zm, B3, rfl, XZ, X0, X7, X8⟩ := tV (hval 3 67 v3 rfl rfl) h3 hw3
  refine (yL k0 f0 t0 Zj Y5 Yk Zp Va Qv Za YY Yd O1 Zh Y3 Yi T1 Zf Y1 Yf R1 Zi Y4 Yj V1 Zc YZ cp2 hs2 L2 Y7 YW Yc Zl A3 Y9 YX cB3 Zm B3 W MH hT1 Yx hV1 Ux Uy hw0 UA hL2 hI2 XZ X0 X7 X8).mono fun e W' ⟨he, hb⟩ => ?_
  subst he
  exact ⟨_, rfl, Bg hW' rfl rfl rfl (fun sp hsp => by
    rw [Tryz.params12]
    have hlt := fun x hx => hW'.lt x hx
    simp only [List.append_nil] at hlt hsp ⊢
    exact zr (by kernel_rfl) hA1 hb hlt hsp) hb⟩
set_option maxHeartbeats 16000000 in
theorem jobAsks_holds : Rows.JobAsksSaid :=
  OpenClaim.holds_of_wide 12 Tryz.f12 rfl rfl rfl rfl rfl rfl rfl ⟨rfl, rfl, rfl, rfl, rfl⟩ rfl rfl rfl rfl rfl (by kernel_rfl) Tryz.func12 (by unfold joinedFacts; refine dU (dU (dU (dU (dU (dU (dU (dU (dU (dU (dU (dU (dU (dU (dU (dU (dU (dU (dU (dU (dU (dU (dU (dU (dU (dU (dU (dU (dU (dU (dU ?_ ?_) ?_) ?_) ?_) ?_) ?_) ?_) ?_) ?_) ?_) ?_) ?_) ?_) ?_) ?_) ?_) ?_) ?_) ?_) ?_) ?_) ?_) ?_) ?_) ?_) ?_) ?_) ?_) ?_) ?_) ?_ <;> as_aux_lemma => kernel_rfl)
    (of_decide_eq_true (by kernel_rfl)) (by unfold Func.isWrapper; first | (rw [if_pos (by decide +kernel)]; kernel_rfl) | (rw [if_neg (by decide +kernel)]; exact ⟨rfl, rfl⟩))
    (fun os started H enc _ => jobAsks_lifted os started H enc)
#print axioms jobAsks_holds
end Go.Proofs.YtfjhjennfiihhaaGreat
