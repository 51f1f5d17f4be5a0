import Derived.Test.YtcjkechemjdboaaR5
namespace Go.Proofs.Ytcjkechemjdboaa
open Go Go.RowKit
set_option maxRecDepth 100000 in
set_option maxHeartbeats 1000000 in
theorem Is02_no (N : Int) (pe : Option Addr) (ne ce : Nat) (pw : Option Addr) (nw cw : Nat) (E : List (Int × Int)) (hs : List Hd) (W : List (List ByteArray)) (w : World) (hE : Rd w 2 pe ne (encE E)) (hW : RdW w pw nw hs W) (hz : SzW W) (hc : checkB N E W = false) :
    Calls Try.prog 58 #[.agg #[.int .i64 N, .slice pe ne ce, .slice pw nw cw]] w fun e w' => e = .returned (.bool (isB N E W)) ∧ Ext w w' := by
  have HF := Lib.hid (isB_chk hc)
  have HE := Lib.hid hE; clear hE
  have HW := Lib.hid hW; clear hW
  have HZ := Lib.hid hz; clear hz
  go_enter Try.func58, Try.ntmps58
  go_wp2_with (go_at_call 95; refine (Check02 _ _ _ _ _ _ _ E hs W _ (HE.out.ext (Ext.alloc (Below.refl _ _) _)) (HW.out.ext (Ext.alloc (Below.refl _ _) _)) HZ.out).mono ?_; rintro e w1 ⟨rfl, hb1⟩; have HB := Lib.hid (Ext.trans (Ext.alloc (Below.refl w.heap.size w) _) hb1); clear hb1)
  go_ret
  exact ⟨ret_bool HF.out.symm, HB.out⟩
set_option maxRecDepth 100000 in
set_option maxHeartbeats 1000000 in
theorem Is02_yes (N : Int) (pe : Option Addr) (ne ce : Nat) (pw : Option Addr) (nw cw : Nat) (E : List (Int × Int)) (hs : List Hd) (W : List (List ByteArray)) (w : World) (hE : Rd w 2 pe ne (encE E)) (hW : RdW w pw nw hs W) (hz : SzW W) (hc : checkB N E W = true) :
    Calls Try.prog 58 #[.agg #[.int .i64 N, .slice pe ne ce, .slice pw nw cw]] w fun e w' => e = .returned (.bool (isB N E W)) ∧ Ext w w' := by
  obtain ⟨_, hN, hE2, hWN, _, hW8⟩ := checkB_parts hc
  have hc2 := hc
  have p1 := hE.ptr
  have p2 := hW.row.ptr
  have l1 := hE.nE
  have l2 := hW.nW
  have n1 : ne ≤ 2000 := by omega
  have n2 : nw ≤ 200 := by omega
  obtain rfl : N = (nw : Int) := by omega
  have HE := Lib.hid hE; clear hE
  have HW := Lib.hid hW; clear hW
  have HZ := Lib.hid hz; clear hz
  have L1 := Lib.hid l1; clear l1
  have L2 := Lib.hid l2; clear l2
  have HC := Lib.hid hc2; clear hc2
  clear hE2 hN hWN hW8
  go_enter Try.func58, Try.ntmps58
  go_wp2_with (go_at_call 95; refine (Check02 _ _ _ _ _ _ _ E hs W _ (HE.out.ext (Ext.alloc (Below.refl _ _) _)) (HW.out.ext (Ext.alloc (Below.refl _ _) _)) HZ.out).mono ?_; rintro e w1 ⟨rfl, hb1⟩; have HB := Lib.hid (Ext.trans (Ext.alloc (Below.refl w.heap.size w) _) hb1); have HG := Lib.hid (GBox.ext (GBox.new w _) hb1); clear hb1)
  go_loopw [3] (fun i wr => ∃ k : Nat, 1 ≤ k ∧ (k ≤ ne ∨ k = 1) ∧ i = .int .i64 k ∧ (List.range (k - 1)).all (riseAt lessE E) = true ∧ Ext w wr ∧ GBox wr w.heap.size nw pe ne ce pw nw cw) (fun i _ => ne + 1 - (intOf i).toNat)
  case atStart => exact ⟨1, Nat.le_refl _, .inr rfl, rfl, rfl, HB.out, HG.out⟩
  case round =>
    clear HB HG
    obtain ⟨k, hk1, hk, rfl, ha, hb, gb1⟩ := hrel
    have HA := Lib.hid ha; clear ha
    have HB := Lib.hid hb; clear hb
    have G1 := Lib.hid gb1
    obtain ⟨b0, b1, b2⟩ := gb1
    have hk9 : k ≤ 2001 := by omega
    by_cases hlt : k < ne
    · have g1 := HB.out.cell (HE.out.cE hlt)
      have g2 := HB.out.cell (HE.out.cE2 hlt)
      have g3 := HB.out.cell (HE.out.cE (k := k - 1) (by omega))
      have g4 := HB.out.cell (HE.out.cE2 (k := k - 1) (by omega))
      have e1 : ∀ x : ExtOf wr, x.val.cell? (adr pe (k * 2)) = _ := fun x => x.ext.cell g1
      have e2 : ∀ x : ExtOf wr, x.val.cell? (adr pe (k * 2 + 1)) = _ := fun x => x.ext.cell g2
      have e3 : ∀ x : ExtOf wr, x.val.cell? (adr pe ((k - 1) * 2)) = _ := fun x => x.ext.cell g3
      have e4 : ∀ x : ExtOf wr, x.val.cell? (adr pe ((k - 1) * 2 + 1)) = _ := fun x => x.ext.cell g4
      have e5 : ∀ x : ExtOf wr, x.val.cell? ⟨w.heap.size, 1, none⟩ = _ := fun x => x.ext.cell b1
      have d1 : (0:Int) ≤ k := by omega
      have d2 : (k:Int) < ne := by omega
      have d3 : (0:Int) ≤ (k:Int) - 1 := by omega
      have d4 : (1:Int) ≤ (k:Int) := by omega
      have d5 : (k:Int) - 1 < ne := by omega
      have d6 : ((k:Int) - 1).toNat = k - 1 := by omega
      have hkk : k - 1 + 1 = k := by omega
      have HKK := Lib.hid hkk; clear hkk
      by_cases hless : lessE (nth E (k - 1)) (nth E k) = true
      · go_wp2
        refine wp_region_ext (by kernel_rfl) (by kernel_rfl) ?_
        repeat (go_big_quiet_step ((go_at_call 96; exact Calls.ext_of (Less02 _ _ _ _ _))))
        refine wpQuiet_nil ?_
        rintro w1 ⟨⟨_, hb1⟩, rfl⟩
        go_wp2
        go_roundw
        case rel => exact ⟨k + 1, by omega, .inl (by omega), by go_num, by rw [show k + 1 - 1 = k - 1 + 1 from by omega]; exact range_all_succ _ _ HA.out (by unfold riseAt; rw [HKK.out]; exact hless), Ext.trans HB.out hb1, G1.out.ext hb1⟩
        case measure => simp [intOf]; omega
      · have hless' : lessE (nth E (k - 1)) (nth E k) = false := by simpa using hless
        clear hless
        have HF := Lib.hid (isB_E (N := nw) (W := W) (riseB_no (lt := lessE) (l := E) (k := k - 1) (by rw [HKK.out, ← L1.out]; exact hlt) (by rw [HKK.out]; exact hless')))
        go_wp2
        refine wp_region_ext (by kernel_rfl) (by kernel_rfl) ?_
        repeat (go_big_quiet_step ((go_at_call 96; exact Calls.ext_of (Less02 _ _ _ _ _))))
        refine wpQuiet_nil ?_
        rintro w1 ⟨⟨_, hb1⟩, rfl⟩
        go_wp2
        go_ret
        exact ⟨ret_bool HF.out.symm, Ext.trans HB.out hb1⟩
    · have HEE := Lib.hid (riseB_end (by rw [← L1.out]; exact hlt) HA.out)
      go_wp2
      clear hlt HA hk hk1 hk9
      obtain ⟨wo, rfl⟩ : ∃ wo : World, wo = wr := ⟨_, rfl⟩
      go_loopw [4, 5] (fun i _ wr => ∃ k : Nat, k ≤ nw ∧ i = .int .i64 k ∧ (W.take k).all (riseB sLess) = true ∧ Ext w wr ∧ GBox wr w.heap.size nw pe ne ce pw nw cw) (fun i _ _ => nw - (intOf i).toNat)
      case atStart => exact ⟨0, Nat.zero_le _, rfl, rfl, HB.out, G1.out⟩
      case round =>
        clear HB G1 b0 b1 b2
        obtain ⟨k, hk, rfl, ha, hb, gb1⟩ := hrel
        have HA := Lib.hid ha; clear ha
        have HB := Lib.hid hb; clear hb
        have G1 := Lib.hid gb1
        obtain ⟨b0, b1, b2⟩ := gb1
        by_cases hlt : k < nw
        · have g1 := HB.out.cell (HW.out.row.cH hlt)
          have q1 := (HW.out.each k hlt).ext HB.out
          have p3 := q1.ptr
          have n3 := q1.small
          have l3 := q1.nS
          have Q1 := Lib.hid q1; clear q1
          have L3 := Lib.hid l3; clear l3
          go_wp2
          obtain ⟨wo2, rfl⟩ : ∃ wo2 : World, wo2 = wr := ⟨_, rfl⟩
          go_loopw [5] (fun i wr => ∃ j : Nat, 1 ≤ j ∧ (j ≤ (nth hs k).n ∨ j = 1) ∧ i = .int .i64 j ∧ (List.range (j - 1)).all (riseAt sLess (nth W k)) = true ∧ Ext wo2 wr) (fun i _ => (nth hs k).n + 1 - (intOf i).toNat)
          case atStart => exact ⟨1, Nat.le_refl _, .inr rfl, rfl, rfl, Below.refl _ _⟩
          case round =>
            obtain ⟨j, hj1, hj, rfl, hja, hb⟩ := hrel
            have HJ := Lib.hid hja; clear hja
            replace b0 := hb.cell b0
            replace b1 := hb.cell b1
            replace b2 := hb.cell b2
            replace g1 := hb.cell g1
            replace G1 := Lib.hid (G1.out.ext hb)
            replace HB := Lib.hid (Ext.trans HB.out hb)
            replace Q1 := Lib.hid (Q1.out.ext hb)
            have HX := Lib.hid hb; clear hb
            by_cases hjt : j < (nth hs k).n
            · have g3 := Q1.out.cS hjt
              have g4 := Q1.out.cS (k := j - 1) (by omega)
              have d1 : (0:Int) ≤ j := by omega
              have d2 : (j:Int) < (nth hs k).n := by omega
              have d3 : (0:Int) ≤ (j:Int) - 1 := by omega
              have d4 : (1:Int) ≤ (j:Int) := by omega
              have d5 : (j:Int) - 1 < (nth hs k).n := by omega
              have d6 : ((j:Int) - 1).toNat = j - 1 := by omega
              have c1 : (0:Int) ≤ k := by omega
              have c2 : (k:Int) < nw := by omega
              have hkk : j - 1 + 1 = j := by omega
              have HKK := Lib.hid hkk; clear hkk
              by_cases hless : sLess (nth (nth W k) (j - 1)) (nth (nth W k) j) = true
              · have hl2 : Op.bytesLess (nth (nth W k) (j - 1)).toList (nth (nth W k) j).toList = true := hless
                have HL := Lib.hid hless; clear hless
                go_wp2
                go_quiet (fail)
                go_wp2
                go_roundw
                case rel => exact ⟨j + 1, by omega, .inl (by omega), by go_num, by rw [show j + 1 - 1 = j - 1 + 1 from by omega]; exact range_all_succ _ _ HJ.out (by unfold riseAt; rw [HKK.out]; exact HL.out), HX.out.drewN _⟩
                case measure => simp [intOf]; omega
              · have hless' : sLess (nth (nth W k) (j - 1)) (nth (nth W k) j) = false := by simpa using hless
                clear hless
                have HF := Lib.hid (isB_W (N := nw) (E := E) (W := W) (k := k) (by rw [← L2.out]; exact hlt) (riseB_no (lt := sLess) (l := nth W k) (k := j - 1) (by rw [HKK.out, ← L3.out]; exact hjt) (by rw [HKK.out]; exact hless')))
                have hl2 : Op.bytesLess (nth (nth W k) (j - 1)).toList (nth (nth W k) j).toList = false := hless'
                clear hless'
                go_wp2
                go_quiet (fail)
                go_wp2
                go_ret
                exact ⟨ret_bool HF.out.symm, HB.out.drewN _⟩
            · have HR := Lib.hid (riseB_end (lt := sLess) (l := nth W k) (by rw [← L3.out]; exact hjt) HJ.out)
              go_wp2
              go_roundw
              case rel => exact ⟨k + 1, by omega, by go_num, all_step _ _ _ (by rw [← L2.out]; exact hlt) HA.out HR.out, HB.out, G1.out⟩
              case measure => simp [intOf]; omega
        · have HR := Lib.hid (all_end _ _ _ (by rw [← L2.out]; exact hlt) HA.out)
          go_wp2
          go_ret
          exact ⟨ret_bool (by unfold isB; rw [HC.out, HEE.out, HR.out]; rfl), HB.out⟩
theorem Is02 (N : Int) (pe : Option Addr) (ne ce : Nat) (pw : Option Addr) (nw cw : Nat) (E : List (Int × Int)) (hs : List Hd) (W : List (List ByteArray)) (w : World) (hE : Rd w 2 pe ne (encE E)) (hW : RdW w pw nw hs W) (hz : SzW W) :
    Calls Try.prog 58 #[.agg #[.int .i64 N, .slice pe ne ce, .slice pw nw cw]] w fun e w' => e = .returned (.bool (isB N E W)) ∧ Ext w w' := by
  by_cases hc : checkB N E W = true
  · exact Is02_yes N pe ne ce pw nw cw E hs W w hE hW hz hc
  · exact Is02_no N pe ne ce pw nw cw E hs W w hE hW hz (by simpa using hc)
end Go.Proofs.Ytcjkechemjdboaa
