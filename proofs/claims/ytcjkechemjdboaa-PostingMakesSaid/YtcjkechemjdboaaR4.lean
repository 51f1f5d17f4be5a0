import Derived.Test.YtcjkechemjdboaaR3
namespace Go.Proofs.Ytcjkechemjdboaa
open Go Go.RowKit
theorem bigB_bad {E : List (Int × Int)} {W : List (List ByteArray)} {k : Nat} (h : W.length ≤ 250) (hk : k < W.length) (hb : badRow (nth W k) = true) : true = bigB E W := by
  unfold bigB; rw [any_true_at badRow W k hk hb]; simp [h]
theorem bigB_ok {E : List (Int × Int)} {W : List (List ByteArray)} {k : Nat} (hk : ¬ k < W.length) (ha : (W.take k).any badRow = false) : bigB E W = (decide (250 < W.length) || (decide (60 < E.length) && decide (E.length ≤ 2000)) || decide (2100 < E.length)) := by
  unfold bigB; rw [any_end badRow W k hk ha]; simp
set_option maxHeartbeats 1000000 in
theorem Big02 (N : Int) (pe : Option Addr) (ne ce : Nat) (pw : Option Addr) (nw cw : Nat) (E : List (Int × Int)) (hs : List Hd) (W : List (List ByteArray)) (w : World) (hE : Rd w 2 pe ne (encE E)) (hW : RdW w pw nw hs W) :
    Calls Try.prog 13 #[.agg #[.int .i64 N, .slice pe ne ce, .slice pw nw cw]] w fun e w' => e = .returned (.bool (bigB E W)) ∧ Ext w w' := by
  have p2 := hW.row.ptr
  have n1 := hE.small
  have n2 := hW.row.small
  have l1 := hE.nE
  have l2 := hW.nW
  have HE := Lib.hid hE; clear hE
  have HW := Lib.hid hW; clear hW
  have L1 := Lib.hid l1; clear l1
  have L2 := Lib.hid l2; clear l2
  by_cases h250 : nw ≤ 250
  · have d250 : decide ((nw : Int) ≤ 250) = true := by simp; omega
    go_enter Try.func13, Try.ntmps13
    go_wp2
    go_loopw [3, 4] (fun i _ wr => ∃ k : Nat, k ≤ nw ∧ i = .int .i64 k ∧ (W.take k).any badRow = false ∧ Ext w wr ∧ GBox wr w.heap.size N pe ne ce pw nw cw) (fun i _ _ => nw - (intOf i).toNat)
    case atStart => exact ⟨0, Nat.zero_le _, rfl, rfl, (Below.refl _ _).alloc (Nat.le_refl _) _, GBox.new _ _⟩
    case round =>
      obtain ⟨k, hk, rfl, ha, hb, gb1⟩ := hrel
      have HA := Lib.hid ha; clear ha
      have HB := Lib.hid hb; clear hb
      have G1 := Lib.hid gb1
      obtain ⟨b0, b1, b2⟩ := gb1
      by_cases hlt : k < nw
      · have g1 := HB.out.cell (HW.out.row.cH hlt)
        have q1 := (HW.out.each k hlt).ext HB.out
        have p3 := q1.ptr
        have n3 := q1.small
        have l3 := q1.nS
        have Q1 := Lib.hid q1; clear q1
        have L3 := Lib.hid l3; clear l3
        by_cases h20 : (nth hs k).n ≤ 20
        · have d20 : decide (((nth hs k).n : Int) ≤ 20) = true := by simp; omega
          go_wp2
          obtain ⟨wo, rfl⟩ : ∃ wo : World, wo = wr := ⟨_, rfl⟩
          go_loopw [4] (fun i wx => ∃ j : Nat, j ≤ (nth hs k).n ∧ i = .int .i64 j ∧ ((nth W k).take j).any longB = false ∧ Ext wo wx) (fun i _ => (nth hs k).n - (intOf i).toNat)
          case atStart => exact ⟨0, Nat.zero_le _, rfl, rfl, Below.refl _ _⟩
          case round =>
            obtain ⟨j, hj, rfl, hja, hb⟩ := hrel
            have HJ := Lib.hid hja; clear hja
            replace b0 := hb.cell b0
            replace b1 := hb.cell b1
            replace b2 := hb.cell b2
            replace g1 := hb.cell g1
            replace G1 := Lib.hid (G1.out.ext hb)
            replace HB := Lib.hid (Ext.trans HB.out hb)
            replace Q1 := Lib.hid (Q1.out.ext hb)
            have HX := Lib.hid hb; clear hb
            by_cases hjt : j < (nth hs k).n
            · have g3 := Q1.out.cS hjt
              by_cases h50 : 50 < (nth (nth W k) j).size
              · go_wp2
                go_ret
                exact ⟨ret_bool (bigB_bad (by rw [← L2.out]; exact h250) (by rw [← L2.out]; exact hlt) (by unfold badRow; rw [any_true_at longB (nth W k) j (by rw [← L3.out]; exact hjt) (by simp [longB, h50])]; simp)), HB.out⟩
              · go_wp2
                go_roundw
                case rel => exact ⟨j + 1, by omega, by go_num, any_step longB _ _ (by rw [← L3.out]; exact hjt) HJ.out (by simp [longB]; omega), HX.out⟩
                case measure => simp [intOf]; omega
            · have HR := Lib.hid (any_end longB (nth W k) j (by rw [← L3.out]; exact hjt) HJ.out)
              go_wp2
              go_roundw
              case rel => exact ⟨k + 1, by omega, by go_num, any_step badRow _ _ (by rw [← L2.out]; exact hlt) HA.out (by unfold badRow; rw [HR.out, ← L3.out]; simp; omega), HB.out, G1.out⟩
              case measure => simp [intOf]; omega
        · have d20 : decide (((nth hs k).n : Int) ≤ 20) = false := by simp; omega
          have g20 : 20 < (nth hs k).n := by omega
          have HR := Lib.hid (bigB_bad (E := E) (by rw [← L2.out]; exact h250) (by rw [← L2.out]; exact hlt) (by unfold badRow; rw [← L3.out]; simp [g20]))
          go_wp2
          refine wp_loop_rounds 1 ?_
          rw [rounds_succ]
          go_wp2
          go_ret
          exact ⟨ret_bool HR.out, HB.out⟩
      · have HF := Lib.hid (bigB_ok (E := E) (by rw [← L2.out]; exact hlt) HA.out)
        by_cases c1 : 60 < ne
        · by_cases c2 : ne ≤ 2000
          · go_wp2
            go_ret
            exact ⟨ret_bool (by rw [HF.out, ← L1.out, ← L2.out]; simp [c1, c2]), HB.out⟩
          · go_wp2
            go_ret
            exact ⟨ret_bool (by rw [HF.out, ← L1.out, ← L2.out, Bool.eq_iff_iff]; simp; omega), HB.out⟩
        · go_wp2
          go_ret
          exact ⟨ret_bool (by rw [HF.out, ← L1.out, ← L2.out, Bool.eq_iff_iff]; simp; omega), HB.out⟩
  · have d250 : decide ((nw : Int) ≤ 250) = false := by simp; omega
    have g250 : 250 < nw := by omega
    have HF : Hid (bigB E W = true) := by unfold Hid bigB; rw [← L2.out]; simp [g250]
    by_cases h0 : 0 < nw
    · go_enter Try.func13, Try.ntmps13
      go_wp2
      refine wp_loop_rounds 1 ?_
      rw [rounds_succ]
      go_wp2
      go_ret
      exact ⟨ret_bool HF.out.symm, (Below.refl _ _).alloc (Nat.le_refl _) _⟩
    · omega
end Go.Proofs.Ytcjkechemjdboaa
