/- The reference's Check of postings. -/
import Derived.Test.YtcjkechemjdboaaChk5
namespace Go.Proofs.Ytcjkechemjdboaa
open Go Go.RowKit Go.Maps
theorem WordR (s : ByteArray) (w : World) (hs : s.size ≤ 140737488355328) : Calls Try.prog 71 #[.string s] w fun e w' => e = .returned (.bool (wordB s)) ∧ Ext w w' :=
  (Word02 s w hs).mono fun _ _ ⟨h, hw⟩ => ⟨h, by subst hw; exact Below.refl _ _⟩
set_option maxRecDepth 100000 in
set_option maxHeartbeats 4000000 in
theorem Check05 (p : Option Addr) (m c : Nat) (hs : List Hd) (L : List Po) (n : Int) (w : World) (hL : RdP w p m hs L) (hz : PoSz L) :
    Calls Try.prog 33 #[.slice p m c, .int .i64 n] w fun e w' => e = .returned (.bool (checkP n L)) ∧ Ext w w' := by
  have p1 := hL.ptr
  have n1 := hL.small
  have l1 := hL.hn
  have HL := Lib.hid hL; clear hL
  have L1 := Lib.hid l1; clear l1
  have HZ := Lib.hid hz; clear hz
  by_cases ha : n < 1
  · have hF : Hid (checkP n L = false) := by unfold Hid checkP; rw [decide_eq_false (by omega : ¬ 1 ≤ n)]; rfl
    go_enter Try.func33, Try.ntmps33
    go_wp2
    go_ret
    exact ⟨ret_bool hF.out.symm, Below.refl _ _⟩
  · by_cases hb : 200 < n
    · have hF : Hid (checkP n L = false) := by unfold Hid checkP; rw [decide_eq_false (by omega : ¬ n ≤ 200)]; simp
      go_enter Try.func33, Try.ntmps33
      go_wp2
      go_ret
      exact ⟨ret_bool hF.out.symm, Below.refl _ _⟩
    · go_enter Try.func33, Try.ntmps33
      go_wp2
      go_loopw [5, 6, 7] (fun i _ _ wr => ∃ k : Nat, k ≤ m ∧ i = .int .i64 k ∧ (List.range k).all (okP n L) = true ∧ Sep w wr []) (fun i _ _ _ => m - (intOf i).toNat)
      case atStart => exact ⟨0, Nat.zero_le _, rfl, rfl, Sep.start w⟩
      case round =>
        obtain ⟨k, hk, rfl, ha, S⟩ := hrel
        have HA := Lib.hid ha; clear ha
        by_cases hlt : k < m
        · have g1 := S.ext.cell (HL.out.c1 k hlt)
          have g2 := S.ext.cell (HL.out.c2 k hlt)
          have REs := S.ext
          have HEE := Lib.hid S.ext
          have LE := Lib.hid ((HL.out.each k hlt).nI)
          have pe := (HL.out.each k hlt).ptr
          have se := (HL.out.each k hlt).small
          clear REs
          have SH := Lib.hid S; clear S
          have d1 : (0:Int) ≤ k := by omega
          have d2 : (k:Int) < m := by omega
          have hkL : k < L.length := by rw [← L1.out]; exact hlt
          have HW := Lib.hid (fun x : ExtOf wr => WordR (nth L k).1 x.val (HZ.out.at hkL))
          have x1 := fun x : ExtOf wr => x.ext.cell g1
          have x2 := fun x : ExtOf wr => x.ext.cell g2
          have ho : Hid (okP n L k = (wordB (nth L k).1 && (decide (k = 0) || sLess (nth L (k - 1)).1 (nth L k).1) && riseP n (nth L k).2)) := rfl
          have HK : Hid ((decide (k = 0) || sLess (nth L (k - 1)).1 (nth L k).1) = true ∧ wordB (nth L k).1 = true → riseP n (nth L k).2 = true → okP n L k = true) := fun h1 h2 => by rw [ho.out, h1.1, h1.2, h2]; rfl
          cases hwb : wordB (nth L k).1 with
          | false =>
            have HF : Hid (checkP n L = false) := checkP_no hkL (by rw [ho.out, hwb]; rfl)
            rw [hwb] at HW
            clear hwb
            go_wp2
            refine wp_region_ext (by kernel_rfl) (by kernel_rfl) ?_
            repeat (go_big_quiet_step (((go_at_call 71; exact Calls.ext_of (HW.out _)))))
            refine wpQuiet_nil ?_
            rintro w1 ⟨⟨_, hb1⟩, rfl⟩
            go_wp2
            go_ret
            exact ⟨ret_bool HF.out.symm, Ext.trans SH.out.ext hb1⟩
          | true =>
            rw [hwb] at HW
            have HWB := Lib.hid hwb
            clear hwb
            have hstep : Hid (0 < k → (0:Int) ≤ (k:Int) - 1 ∧ (k:Int) - 1 < m ∧ wr.cell? (adr p ((k - 1) * 2)) = some (.string (nth L (k - 1)).1)) := fun h => ⟨by omega, by omega, SH.out.ext.cell (HL.out.c1 (k - 1) (by omega))⟩
            by_cases hsb : k = 0 ∨ sLess (nth L (k - 1)).1 (nth L k).1 = true
            · have HSB : Hid ((decide (k = 0) || sLess (nth L (k - 1)).1 (nth L k).1) = true) := by
                unfold Hid
                rcases hsb with h | h
                · rw [decide_eq_true h]; rfl
                · rw [h]; simp
              by_cases hle : (nth hs k).n = 0
              · have HF : Hid (checkP n L = false) := checkP_no hkL (by rw [ho.out]; unfold riseP; rw [← LE.out, hle]; simp)
                have e0 : ((((nth hs k).n : Nat) : Int) == 0) = true := by rw [hle]; rfl
                clear hle
                rcases hsb with h0 | h1
                · subst h0
                  go_wp2
                  refine wp_region_ext (by kernel_rfl) (by kernel_rfl) ?_
                  repeat (go_big_quiet_step (((go_at_call 71; exact Calls.ext_of (HW.out _)))))
                  refine wpQuiet_nil ?_
                  rintro w1 ⟨⟨_, hb1⟩, rfl⟩
                  go_wp2
                  go_ret
                  exact ⟨ret_bool HF.out.symm, Ext.trans SH.out.ext hb1⟩
                · by_cases h0 : k = 0
                  · subst h0
                    go_wp2
                    refine wp_region_ext (by kernel_rfl) (by kernel_rfl) ?_
                    repeat (go_big_quiet_step (((go_at_call 71; exact Calls.ext_of (HW.out _)))))
                    refine wpQuiet_nil ?_
                    rintro w1 ⟨⟨_, hb1⟩, rfl⟩
                    go_wp2
                    go_ret
                    exact ⟨ret_bool HF.out.symm, Ext.trans SH.out.ext hb1⟩
                  · obtain ⟨d6, d5, g3⟩ := hstep.out (by omega)
                    have d4 : (1:Int) ≤ (k:Int) := by omega
                    have b3 : decide ((0:Int) < (k:Int)) = true := by simp; omega
                    have b3n : decide (0 < k) = true := by simp; omega
                    have b4 : Op.bytesLess (nth L (k - 1)).1.toList (nth L k).1.toList = true := h1
                    have x3 := fun x : ExtOf wr => x.ext.cell g3
                    clear h1
                    go_wp2
                    refine wp_region_ext (by kernel_rfl) (by kernel_rfl) ?_
                    repeat (go_big_quiet_step (((go_at_call 71; exact Calls.ext_of (HW.out _)))))
                    refine wpQuiet_nil ?_
                    rintro w1 ⟨⟨_, hb1⟩, rfl⟩
                    go_wp2
                    go_ret
                    exact ⟨ret_bool HF.out.symm, Ext.trans SH.out.ext hb1⟩
              · have e0 : ((((nth hs k).n : Nat) : Int) == 0) = false := by simp; omega
                obtain ⟨wo, hwo⟩ : ∃ wo : World, wo = wr := ⟨_, rfl⟩
                clear hwo wo
                by_cases h0 : k = 0
                · have b3 : decide ((0:Int) < (k:Int)) = false := by simp; omega
                  have b3n : decide (0 < k) = false := by simp; omega
                  clear hsb hstep h0
                  go_wp2
                  refine wp_region_ext (by kernel_rfl) (by kernel_rfl) ?_
                  repeat (go_big_quiet_step (((go_at_call 71; exact Calls.ext_of (HW.out _)))))
                  refine wpQuiet_nil ?_
                  rintro w1 ⟨⟨_, hb1⟩, rfl⟩
                  go_wp2
                  go_loopw [6, 7] (fun j _ wx => ∃ i : Nat, i ≤ (nth hs k).n ∧ j = .int .i64 i ∧ (List.range i).all (okAt n (nth L k).2) = true ∧ Sep w wx []) (fun j _ _ => (nth hs k).n - (intOf j).toNat)
                  case atStart => exact ⟨0, Nat.zero_le _, rfl, rfl, SH.out.call hb1⟩
                  case round =>
                    clear g1 g2 x1 x2 SH hb1
                    obtain ⟨i, hi, rfl, hj, S⟩ := hrel
                    have g1 := S.ext.cell (HL.out.c1 k hlt)
                    have g2 := S.ext.cell (HL.out.c2 k hlt)
                    have RE := (HL.out.each k hlt).ext S.ext
                    have HJ := Lib.hid hj; clear hj
                    by_cases hit : i < (nth hs k).n
                    · have q1 := RE.cI hit
                      have hq2 : Hid (0 < i → wr.cell? (adr (nth hs k).p (i - 1)) = some (.int .i64 (nth (nth L k).2 (i - 1)))) := fun h => RE.cI (k := i - 1) (by omega)
                      clear RE
                      have SH := Lib.hid S; clear S
                      have i1 : (0:Int) ≤ i := by omega
                      have i2 : (i:Int) < (nth hs k).n := by omega
                      have hjt : i < (nth hs k).n := hit
                      have hNO : Hid (okAt n (nth L k).2 i = false → checkP n L = false) := fun h => checkP_no hkL (by rw [ho.out, riseP_no (by rw [← LE.out]; exact hjt) h]; simp)
                      by_cases h1 : nth (nth L k).2 i < 0
                      · have b1 : decide (nth (nth L k).2 i < 0) = true := by simpa using h1
                        have HF := Lib.hid (hNO.out (by unfold okAt; simp; omega))
                        go_wp2
                        go_ret
                        exact ⟨ret_bool HF.out.symm, SH.out.ext⟩
                      · have b1 : decide (nth (nth L k).2 i < 0) = false := by simpa using h1
                        by_cases h2 : n ≤ nth (nth L k).2 i
                        · have b2 : decide (n ≤ nth (nth L k).2 i) = true := by simpa using h2
                          have HF := Lib.hid (hNO.out (by unfold okAt; simp; omega))
                          go_wp2
                          go_ret
                          exact ⟨ret_bool HF.out.symm, SH.out.ext⟩
                        · have b2 : decide (n ≤ nth (nth L k).2 i) = false := by simpa using h2
                          by_cases i0 : i = 0
                          · subst i0
                            have HO : Hid (okAt n (nth L k).2 0 = true) := by unfold Hid okAt; simp; omega
                            go_wp2
                            go_roundw
                            case rel => exact ⟨1, by omega, by go_num, range_all_succ _ _ HJ.out HO.out, SH.out⟩
                            case measure => simp [intOf]; omega
                          · have c3 : decide ((0:Int) < (i:Int)) = true := by simp; omega
                            have c3n : decide (0 < i) = true := by simp; omega
                            have c4 : (1:Int) ≤ (i:Int) := by omega
                            have c5 : (i:Int) - 1 < (nth hs k).n := by omega
                            have c6 : (0:Int) ≤ (i:Int) - 1 := by omega
                            have q2 := hq2.out (by omega)
                            by_cases h3 : nth (nth L k).2 i ≤ nth (nth L k).2 (i - 1)
                            · have b4 : decide (nth (nth L k).2 i ≤ nth (nth L k).2 (i - 1)) = true := by simpa using h3
                              have HF := Lib.hid (hNO.out (by unfold okAt; simp; omega))
                              go_wp2
                              go_ret
                              exact ⟨ret_bool HF.out.symm, SH.out.ext⟩
                            · have b4 : decide (nth (nth L k).2 i ≤ nth (nth L k).2 (i - 1)) = false := by simpa using h3
                              have HO : Hid (okAt n (nth L k).2 i = true) := by unfold Hid okAt; simp; omega
                              go_wp2
                              go_roundw
                              case rel => exact ⟨i + 1, by omega, by go_num, range_all_succ _ _ HJ.out HO.out, SH.out⟩
                              case measure => simp [intOf]; omega
                    · have HO : Hid (okP n L k = true) := HK.out ⟨HSB.out, HWB.out⟩ (by rw [riseP_end (by rw [← LE.out]; exact hit) HJ.out]; simp; rw [← LE.out]; omega)
                      clear RE
                      have SH := Lib.hid S; clear S
                      go_wp2
                      go_roundw
                      case rel => exact ⟨k + 1, by omega, by go_num, range_all_succ _ _ HA.out HO.out, SH.out⟩
                      case measure => simp [intOf]; omega
                · have h1 : sLess (nth L (k - 1)).1 (nth L k).1 = true := hsb.resolve_left h0
                  obtain ⟨d6, d5, g3⟩ := hstep.out (by omega)
                  have d4 : (1:Int) ≤ (k:Int) := by omega
                  have b3 : decide ((0:Int) < (k:Int)) = true := by simp; omega
                  have b3n : decide (0 < k) = true := by simp; omega
                  have b4 : Op.bytesLess (nth L (k - 1)).1.toList (nth L k).1.toList = true := h1
                  have x3 := fun x : ExtOf wr => x.ext.cell g3
                  clear h1 hsb hstep
                  go_wp2
                  refine wp_region_ext (by kernel_rfl) (by kernel_rfl) ?_
                  repeat (go_big_quiet_step (((go_at_call 71; exact Calls.ext_of (HW.out _)))))
                  refine wpQuiet_nil ?_
                  rintro w1 ⟨⟨_, hb1⟩, rfl⟩
                  go_wp2
                  clear x3 g3 b4
                  go_loopw [6, 7] (fun j _ wx => ∃ i : Nat, i ≤ (nth hs k).n ∧ j = .int .i64 i ∧ (List.range i).all (okAt n (nth L k).2) = true ∧ Sep w wx []) (fun j _ _ => (nth hs k).n - (intOf j).toNat)
                  case atStart => exact ⟨0, Nat.zero_le _, rfl, rfl, SH.out.call hb1⟩
                  case round =>
                    clear g1 g2 x1 x2 SH hb1
                    obtain ⟨i, hi, rfl, hj, S⟩ := hrel
                    have g1 := S.ext.cell (HL.out.c1 k hlt)
                    have g2 := S.ext.cell (HL.out.c2 k hlt)
                    have RE := (HL.out.each k hlt).ext S.ext
                    have HJ := Lib.hid hj; clear hj
                    by_cases hit : i < (nth hs k).n
                    · have q1 := RE.cI hit
                      have hq2 : Hid (0 < i → wr.cell? (adr (nth hs k).p (i - 1)) = some (.int .i64 (nth (nth L k).2 (i - 1)))) := fun h => RE.cI (k := i - 1) (by omega)
                      clear RE
                      have SH := Lib.hid S; clear S
                      have i1 : (0:Int) ≤ i := by omega
                      have i2 : (i:Int) < (nth hs k).n := by omega
                      have hjt : i < (nth hs k).n := hit
                      have hNO : Hid (okAt n (nth L k).2 i = false → checkP n L = false) := fun h => checkP_no hkL (by rw [ho.out, riseP_no (by rw [← LE.out]; exact hjt) h]; simp)
                      by_cases h1 : nth (nth L k).2 i < 0
                      · have b1 : decide (nth (nth L k).2 i < 0) = true := by simpa using h1
                        have HF := Lib.hid (hNO.out (by unfold okAt; simp; omega))
                        go_wp2
                        go_ret
                        exact ⟨ret_bool HF.out.symm, SH.out.ext⟩
                      · have b1 : decide (nth (nth L k).2 i < 0) = false := by simpa using h1
                        by_cases h2 : n ≤ nth (nth L k).2 i
                        · have b2 : decide (n ≤ nth (nth L k).2 i) = true := by simpa using h2
                          have HF := Lib.hid (hNO.out (by unfold okAt; simp; omega))
                          go_wp2
                          go_ret
                          exact ⟨ret_bool HF.out.symm, SH.out.ext⟩
                        · have b2 : decide (n ≤ nth (nth L k).2 i) = false := by simpa using h2
                          by_cases i0 : i = 0
                          · subst i0
                            have HO : Hid (okAt n (nth L k).2 0 = true) := by unfold Hid okAt; simp; omega
                            go_wp2
                            go_roundw
                            case rel => exact ⟨1, by omega, by go_num, range_all_succ _ _ HJ.out HO.out, SH.out⟩
                            case measure => simp [intOf]; omega
                          · have c3 : decide ((0:Int) < (i:Int)) = true := by simp; omega
                            have c3n : decide (0 < i) = true := by simp; omega
                            have c4 : (1:Int) ≤ (i:Int) := by omega
                            have c5 : (i:Int) - 1 < (nth hs k).n := by omega
                            have c6 : (0:Int) ≤ (i:Int) - 1 := by omega
                            have q2 := hq2.out (by omega)
                            by_cases h3 : nth (nth L k).2 i ≤ nth (nth L k).2 (i - 1)
                            · have b4 : decide (nth (nth L k).2 i ≤ nth (nth L k).2 (i - 1)) = true := by simpa using h3
                              have HF := Lib.hid (hNO.out (by unfold okAt; simp; omega))
                              go_wp2
                              go_ret
                              exact ⟨ret_bool HF.out.symm, SH.out.ext⟩
                            · have b4 : decide (nth (nth L k).2 i ≤ nth (nth L k).2 (i - 1)) = false := by simpa using h3
                              have HO : Hid (okAt n (nth L k).2 i = true) := by unfold Hid okAt; simp; omega
                              go_wp2
                              go_roundw
                              case rel => exact ⟨i + 1, by omega, by go_num, range_all_succ _ _ HJ.out HO.out, SH.out⟩
                              case measure => simp [intOf]; omega
                    · have HO : Hid (okP n L k = true) := HK.out ⟨HSB.out, HWB.out⟩ (by rw [riseP_end (by rw [← LE.out]; exact hit) HJ.out]; simp; rw [← LE.out]; omega)
                      clear RE
                      have SH := Lib.hid S; clear S
                      go_wp2
                      go_roundw
                      case rel => exact ⟨k + 1, by omega, by go_num, range_all_succ _ _ HA.out HO.out, SH.out⟩
                      case measure => simp [intOf]; omega
            · have h0 : k ≠ 0 := fun h => hsb (.inl h)
              have b4 : Op.bytesLess (nth L (k - 1)).1.toList (nth L k).1.toList = false := by
                have : ¬ sLess (nth L (k - 1)).1 (nth L k).1 = true := fun h => hsb (.inr h)
                show sLess _ _ = false
                simpa using this
              have HF : Hid (checkP n L = false) := checkP_no hkL (by
                rw [ho.out, decide_eq_false h0]
                have : sLess (nth L (k - 1)).1 (nth L k).1 = false := b4
                rw [this]; simp)
              obtain ⟨d6, d5, g3⟩ := hstep.out (by omega)
              have d4 : (1:Int) ≤ (k:Int) := by omega
              have b3 : decide ((0:Int) < (k:Int)) = true := by simp; omega
              have b3n : decide (0 < k) = true := by simp; omega
              have x3 := fun x : ExtOf wr => x.ext.cell g3
              clear hsb
              go_wp2
              refine wp_region_ext (by kernel_rfl) (by kernel_rfl) ?_
              repeat (go_big_quiet_step (((go_at_call 71; exact Calls.ext_of (HW.out _)))))
              refine wpQuiet_nil ?_
              rintro w1 ⟨⟨_, hb1⟩, rfl⟩
              go_wp2
              go_ret
              exact ⟨ret_bool HF.out.symm, Ext.trans SH.out.ext hb1⟩
        · have HE := Lib.hid (checkP_end (by rw [← L1.out]; exact hlt) HA.out)
          have SH := Lib.hid S; clear S
          go_wp2
          go_ret
          exact ⟨ret_bool (by rw [HE.out]; simp; omega), SH.out.ext⟩
end Go.Proofs.Ytcjkechemjdboaa
