/- Texts of this claim, one behind the other: Half4r, Chk4r, Out4r, Ex4, Edg4, Edg4r, Lev7r, Lev7s, Lev7t, Ref7a, PlainBall, KeepM, Lv7e, Lv7f, Ref7b, PlainFr, CmpI, Lv7g, Ex7, PlainLv, Dst8c, Dst8d, Dst8e, Dst8f, Dst8g, Dst9a, Dst9b, Dst9c, Ex8, Told4, LTell4, LHalf8, LBalls7. -/
import Derived.Deep.LoopGhost
import Derived.Test.YtblghmfhchlllaaGreatQLevelBallsLevelStepsLevelTells3
/- The reference's half: offsets and numbers that are right by themselves. -/
namespace Go.Proofs.YtblghmfhchlllaaGreat
open Go Go.RowKit
theorem halfB_no1 {O T : List Int} (h : ¬ (2 ≤ O.length ∧ O.length ≤ 201 ∧ T.length ≤ 2000 ∧ nth O 0 = 0 ∧ nth O (O.length - 1) = T.length ∧ sortB O = true)) : halfB O T = false := by
  cases h1 : halfB O T with
  | false => rfl
  | true => exact absurd (offB_parts (by unfold halfB at h1; rw [Bool.and_eq_true] at h1; exact h1.1)) h
theorem halfB_no2 {O T : List Int} {v : Nat} (hv : v < O.length - 1) (h : okRow ((O.length - 1 : Nat) : Int) (rowL O T v) = false) : halfB O T = false := by
  unfold halfB
  rw [range_all_no _ _ v hv h, Bool.and_false]
set_option maxRecDepth 100000 in
set_option maxHeartbeats 8000000 in
theorem half04 (po : Option Addr) (no co : Nat) (O : List Int) (pt : Option Addr) (nt ct : Nat) (T : List Int) (w : World) (hO : Rd w 1 po no (encI O)) (hT : Rd w 1 pt nt (encI T)) : Calls Tryz.prog 88 #[.slice po no co, .slice pt nt ct] w fun e w' => e = .returned (.bool (halfB O T)) ∧ Ext w w' := by
  have pO := hO.ptr
  have pT := hT.ptr
  have n1 := hO.small
  have n2 := hT.small
  have l1 := Lib.hid hO.nI
  have l2 := Lib.hid hT.nI
  have HNO := Lib.hid (fun h => halfB_no1 (O := O) (T := T) h)
  by_cases h1 : no < 2
  · have d1 : decide ((no:Int) < 2) = true := by simp; omega
    have HF : Hid (halfB O T = false) := HNO.out (by rw [← l1.out]; omega)
    clear hO hT
    go_enter Tryz.func88, Tryz.ntmps88
    go_wp2
    go_ret
    exact ⟨ret_bool HF.out.symm, Below.refl _ _⟩
  · have d1 : decide ((no:Int) < 2) = false := by simp; omega
    by_cases h2 : 201 < no
    · have d2 : decide ((201:Int) < no) = true := by simp; omega
      have HF : Hid (halfB O T = false) := HNO.out (by rw [← l1.out]; omega)
      clear hO hT
      go_enter Tryz.func88, Tryz.ntmps88
      go_wp2
      go_ret
      exact ⟨ret_bool HF.out.symm, Below.refl _ _⟩
    · have d2 : decide ((201:Int) < no) = false := by simp; omega
      have g0 := hO.cI (k := 0) (by omega)
      have q1 : (0:Int) < no := by omega
      have g5 := hO.cI (k := no - 1) (by omega)
      have q2 : (0:Int) ≤ (no:Int) - 1 := by omega
      have q2b : (1:Int) ≤ (no:Int) := by omega
      have q3 : (no:Int) - 1 < no := by omega
      by_cases h4 : nth O 0 = 0
      · have d4 : (nth O 0 != 0) = false := by simpa using h4
        by_cases h5 : nth O (no - 1) = nt
        · have d5 : (nth O (no - 1) != (nt:Int)) = false := by simpa using h5
          by_cases h3 : 2000 < nt
          · have d3 : decide ((2000:Int) < nt) = true := by simp; omega
            have HF : Hid (halfB O T = false) := HNO.out (by rw [← l2.out]; omega)
            clear hO hT
            go_enter Tryz.func88, Tryz.ntmps88
            go_wp2
            go_ret
            exact ⟨ret_bool HF.out.symm, Below.refl _ _⟩
          · have d3 : decide ((2000:Int) < nt) = false := by simp; omega
            have HOFF : Hid (sortB O = true → offB O T = true) := fun h6 => by
              unfold offB
              rw [h6, h4]
              rw [← l1.out, ← l2.out, h5]
              simp; omega
            have HO := Lib.hid hO; clear hO
            have HT := Lib.hid hT; clear hT
            have h4' := Lib.hid h4
            have h5' := Lib.hid h5
            clear h4 h5
            go_enter Tryz.func88, Tryz.ntmps88
            go_wp2
            go_loopw [5] (fun i wr => ∃ v : Nat, 1 ≤ v ∧ v ≤ no ∧ i = .int .i64 v ∧ (∀ u, u + 1 < v → nth O u ≤ nth O (u + 1)) ∧ Ext w wr) (fun i _ => no - (intOf i).toNat)
            case atStart => exact ⟨1, Nat.le_refl _, by omega, rfl, fun u hu => by omega, Below.refl _ _⟩
            case round =>
              obtain ⟨v, hv1, hv, rfl, ha, hE⟩ := hrel
              have HA := Lib.hid ha; clear ha
              by_cases hlt : v < no
              · have c1 := hE.cell (HO.out.cI hlt)
                have c0 := hE.cell (HO.out.cI (k := v - 1) (by omega))
                have e1 : (0:Int) ≤ v := by omega
                have e2 : (v:Int) < no := by omega
                have e3 : (1:Int) ≤ (v:Int) := by omega
                have e4 : (v:Int) - 1 < no := by omega
                have e5 : (0:Int) ≤ (v:Int) - 1 := by omega
                have HE := Lib.hid hE; clear hE
                by_cases hs : nth O v < nth O (v - 1)
                · have b1 : decide (nth O v < nth O (v - 1)) = true := by simpa using hs
                  have HF : Hid (halfB O T = false) := HNO.out (fun h => by
                    have := sortB_at h.2.2.2.2.2 (v := v - 1) (by rw [← l1.out]; omega)
                    rw [show v - 1 + 1 = v by omega] at this; omega)
                  go_wp2
                  have x1 := fun x : ExtOf wr => x.ext.cell c1
                  have x0 := fun x : ExtOf wr => x.ext.cell c0
                  refine wp_region_ext (by kernel_rfl) (by kernel_rfl) ?_
                  repeat (go_big_quiet_step ((fail)))
                  refine wpQuiet_nil ?_
                  rintro w1 ⟨⟨_, hb1⟩, rfl⟩
                  go_wp2
                  go_ret
                  exact ⟨ret_bool HF.out.symm, Ext.trans HE.out hb1⟩
                · have b1 : decide (nth O v < nth O (v - 1)) = false := by simpa using hs
                  go_wp2
                  have x1 := fun x : ExtOf wr => x.ext.cell c1
                  have x0 := fun x : ExtOf wr => x.ext.cell c0
                  refine wp_region_ext (by kernel_rfl) (by kernel_rfl) ?_
                  repeat (go_big_quiet_step ((fail)))
                  refine wpQuiet_nil ?_
                  rintro w1 ⟨⟨_, hb1⟩, rfl⟩
                  go_wp2
                  go_roundw
                  case rel => exact ⟨v + 1, by omega, by omega, by go_num, fun u hu => by
                    by_cases h : u + 1 = v
                    · have : v - 1 = u := by omega
                      rw [this] at hs; rw [h]; omega
                    · exact HA.out u (by omega), Ext.trans HE.out hb1⟩
                  case measure => simp [intOf]; omega
              · have hso : sortB O = true := by
                  unfold sortB
                  rw [List.all_eq_true]
                  intro u hu
                  rw [List.mem_range] at hu
                  exact decide_eq_true (HA.out u (by have := l1.out; omega))
                have HOF := Lib.hid (HOFF.out hso)
                have HOK := Lib.hid (offOk_of HOF.out)
                clear hso HA
                have HE := Lib.hid hE; clear hE
                go_wp2
                go_loopw [6, 7] (fun i _ wr => ∃ v : Nat, 1 ≤ v ∧ v ≤ no ∧ i = .int .i64 v ∧ (∀ u, u + 1 < v → okRow ((O.length - 1 : Nat) : Int) (rowL O T u) = true) ∧ Ext w wr) (fun i _ _ => no - (intOf i).toNat)
                case atStart => exact ⟨1, Nat.le_refl _, by omega, rfl, fun u hu => by omega, HE.out⟩
                case round =>
                  clear HE hlt hv1 hv
                  obtain ⟨v, hv1, hv, rfl, ha, hE⟩ := hrel
                  have HA := Lib.hid ha; clear ha
                  by_cases hlt : v < no
                  · have hvL : v - 1 + 1 < O.length := by have := l1.out; omega
                    have q1' := HOK.out.lo (v - 1) (by omega)
                    have q2' := HOK.out.le (v - 1) hvL
                    have q3' := HOK.out.hi (v - 1 + 1) hvL
                    rw [show v - 1 + 1 = v by omega] at q2' q3'
                    have hrl := rowL_len HOK.out hvL
                    rw [show v - 1 + 1 = v by omega] at hrl
                    have c1 := hE.cell (HO.out.cI hlt)
                    have c0 := hE.cell (HO.out.cI (k := v - 1) (by omega))
                    have hnth := Lib.hid (fun j (hj : j < (rowL O T (v - 1)).length) => rowL_nth (O := O) (T := T) (v := v - 1) hj)
                    obtain ⟨a, hA⟩ : ∃ a : Nat, nth O (v - 1) = (a : Int) := ⟨(nth O (v - 1)).toNat, by omega⟩
                    obtain ⟨b, hB⟩ : ∃ b : Nat, nth O v = (b : Int) := ⟨(nth O v).toNat, by omega⟩
                    rw [hA] at c0 q1' q2' hrl hnth
                    rw [hB] at c1 q2' q3' hrl
                    simp only [Int.toNat_natCast] at hrl hnth
                    have hbn : b ≤ nt := by have := l2.out; omega
                    have hab : a ≤ b := by omega
                    have e1 : (0:Int) ≤ v := by omega
                    have e2 : (v:Int) < no := by omega
                    have e3 : (1:Int) ≤ (v:Int) := by omega
                    have e4 : (v:Int) - 1 < no := by omega
                    have e5 : (0:Int) ≤ (v:Int) - 1 := by omega
                    have hn' : ((O.length - 1 : Nat) : Int) = (no:Int) - 1 := by have := l1.out; omega
                    have HNO2 := Lib.hid (fun h => halfB_no2 (O := O) (T := T) (v := v - 1) (by omega) h)
                    have HPRE := Lib.hid (fun (h : okRow ((O.length - 1 : Nat) : Int) (rowL O T (v - 1)) = true) => (fun u (hu : u + 1 < v + 1) => by
                      by_cases h2 : u = v - 1
                      · rw [h2]; exact h
                      · exact HA.out u (by omega) : ∀ u, u + 1 < v + 1 → okRow ((O.length - 1 : Nat) : Int) (rowL O T u) = true))
                    rw [hn'] at HNO2 HPRE ⊢
                    have c1w := Lib.hid (HO.out.cI hlt)
                    have c0w := Lib.hid (HO.out.cI (k := v - 1) (by omega))
                    rw [hB] at c1w
                    rw [hA] at c0w
                    generalize rowL O T (v - 1) = l at *
                    have HRL := Lib.hid hrl
                    have HE := Lib.hid hE; clear hE
                    clear hA hB hrl q1' q2' q3' hn' hvL
                    go_wp2
                    go_loopw [7] (fun i wr => ∃ m j : Nat, m = a + j ∧ j ≤ b - a ∧ i = .int .i64 m ∧ (List.range j).all (okAt ((no:Int) - 1) l) = true ∧ Ext w wr) (fun i _ => b - (intOf i).toNat)
                    case atStart => exact ⟨a, 0, rfl, Nat.zero_le _, rfl, rfl, HE.out⟩
                    case round =>
                      clear HE c1 c0
                      obtain ⟨m, j, hm, hj, rfl, ha, hE⟩ := hrel
                      have c1 := hE.cell c1w.out
                      have c0 := hE.cell c0w.out
                      have HA' := Lib.hid ha; clear ha
                      have hm1 : a + j ≤ m := by omega
                      have hm2 : m ≤ a + j := by omega
                      by_cases hlj : j < b - a
                      · have hjl : j < l.length := by rw [HRL.out]; exact hlj
                        have t1 := hE.cell (HT.out.cI (k := m) (by omega))
                        have hx := hnth.out j hjl
                        rw [← hm] at hx
                        rw [← hx] at t1
                        clear hm
                        have f1 : (0:Int) ≤ m := by omega
                        have f2 : (m:Int) < b := by omega
                        have f3 : (m:Int) < nt := by omega
                        by_cases g1 : nth l j < 0
                        · have b1 : decide (nth l j < 0) = true := by simpa using g1
                          have HF : Hid (halfB O T = false) := HNO2.out (range_all_no _ _ j hjl (by unfold okAt; simp; omega))
                          clear hx
                          have HE := Lib.hid hE; clear hE
                          go_wp2
                          have x0 := fun x : ExtOf wr => x.ext.cell c0
                          have x1 := fun x : ExtOf wr => x.ext.cell t1
                          refine wp_region_ext (by kernel_rfl) (by kernel_rfl) ?_
                          repeat (go_big_quiet_step ((fail)))
                          refine wpQuiet_nil ?_
                          rintro w1 ⟨⟨_, hb1⟩, rfl⟩
                          go_wp2
                          go_ret
                          exact ⟨ret_bool HF.out.symm, Ext.trans HE.out hb1⟩
                        · have b1 : decide (nth l j < 0) = false := by simpa using g1
                          by_cases g2 : (no:Int) - 1 ≤ nth l j
                          · have b2 : decide ((no:Int) - 1 ≤ nth l j) = true := by simpa using g2
                            have HF : Hid (halfB O T = false) := HNO2.out (range_all_no _ _ j hjl (by unfold okAt; simp; omega))
                            clear hx
                            have HE := Lib.hid hE; clear hE
                            go_wp2
                            have x0 := fun x : ExtOf wr => x.ext.cell c0
                            have x1 := fun x : ExtOf wr => x.ext.cell t1
                            refine wp_region_ext (by kernel_rfl) (by kernel_rfl) ?_
                            repeat (go_big_quiet_step ((fail)))
                            refine wpQuiet_nil ?_
                            rintro w1 ⟨⟨_, hb1⟩, rfl⟩
                            go_wp2
                            go_ret
                            exact ⟨ret_bool HF.out.symm, Ext.trans HE.out hb1⟩
                          · have b2 : decide ((no:Int) - 1 ≤ nth l j) = false := by simpa using g2
                            by_cases hj0 : j = 0
                            · have b3 : decide ((a:Int) < (m:Int)) = false := by simp; omega
                              have b3n : decide (a < m) = false := by simp; omega
                              have HK : Hid (okAt ((no:Int) - 1) l j = true) := by unfold Hid okAt; simp; omega
                              clear hx hj0
                              have HE := Lib.hid hE; clear hE
                              go_wp2
                              have x0 := fun x : ExtOf wr => x.ext.cell c0
                              have x1 := fun x : ExtOf wr => x.ext.cell t1
                              refine wp_region_ext (by kernel_rfl) (by kernel_rfl) ?_
                              repeat (go_big_quiet_step ((fail)))
                              refine wpQuiet_nil ?_
                              rintro w1 ⟨⟨_, hb1⟩, rfl⟩
                              go_wp2
                              go_roundw
                              case rel => exact ⟨m + 1, j + 1, by omega, by omega, by go_num, range_all_succ _ _ HA'.out HK.out, Ext.trans HE.out hb1⟩
                              case measure => simp [intOf]; omega
                            · have b3 : decide ((a:Int) < (m:Int)) = true := by simp; omega
                              have b3n : decide (a < m) = true := by simp; omega
                              have t0 := hE.cell (HT.out.cI (k := m - 1) (by omega))
                              have hy := hnth.out (j - 1) (by omega)
                              rw [show a + (j - 1) = m - 1 by omega] at hy
                              rw [← hy] at t0
                              have f4 : (1:Int) ≤ (m:Int) := by omega
                              have f5 : (m:Int) - 1 < nt := by omega
                              have f6 : (0:Int) ≤ (m:Int) - 1 := by omega
                              by_cases g3 : nth l j ≤ nth l (j - 1)
                              · have b4 : decide (nth l j ≤ nth l (j - 1)) = true := by simpa using g3
                                have HF : Hid (halfB O T = false) := HNO2.out (range_all_no _ _ j hjl (by unfold okAt; simp; omega))
                                clear hx hy
                                have HE := Lib.hid hE; clear hE
                                go_wp2
                                have x0 := fun x : ExtOf wr => x.ext.cell c0
                                have x1 := fun x : ExtOf wr => x.ext.cell t1
                                have x2 := fun x : ExtOf wr => x.ext.cell t0
                                refine wp_region_ext (by kernel_rfl) (by kernel_rfl) ?_
                                repeat (go_big_quiet_step ((fail)))
                                refine wpQuiet_nil ?_
                                rintro w1 ⟨⟨_, hb1⟩, rfl⟩
                                go_wp2
                                go_ret
                                exact ⟨ret_bool HF.out.symm, Ext.trans HE.out hb1⟩
                              · have b4 : decide (nth l j ≤ nth l (j - 1)) = false := by simpa using g3
                                have HK : Hid (okAt ((no:Int) - 1) l j = true) := by unfold Hid okAt; simp; omega
                                clear hx hy
                                have HE := Lib.hid hE; clear hE
                                go_wp2
                                have x0 := fun x : ExtOf wr => x.ext.cell c0
                                have x1 := fun x : ExtOf wr => x.ext.cell t1
                                have x2 := fun x : ExtOf wr => x.ext.cell t0
                                refine wp_region_ext (by kernel_rfl) (by kernel_rfl) ?_
                                repeat (go_big_quiet_step ((fail)))
                                refine wpQuiet_nil ?_
                                rintro w1 ⟨⟨_, hb1⟩, rfl⟩
                                go_wp2
                                go_roundw
                                case rel => exact ⟨m + 1, j + 1, by omega, by omega, by go_num, range_all_succ _ _ HA'.out HK.out, Ext.trans HE.out hb1⟩
                                case measure => simp [intOf]; omega
                      · clear hm
                        have HOKR : Hid (okRow ((no:Int) - 1) l = true) := by unfold Hid okRow; rw [HRL.out, show b - a = j by omega]; exact HA'.out
                        have f2 : decide ((m:Int) < b) = false := by simp; omega
                        have f2n : decide (m < b) = false := by simp; omega
                        have HE := Lib.hid hE; clear hE
                        go_wp2
                        go_roundw
                        case rel => exact ⟨v + 1, by omega, by omega, by go_num, HPRE.out HOKR.out, HE.out⟩
                        case measure => simp [intOf]; omega
                  · have HF : Hid (halfB O T = true) := by
                      unfold Hid halfB
                      rw [HOF.out, Bool.true_and, List.all_eq_true]
                      intro u hu
                      rw [List.mem_range] at hu
                      exact HA.out u (by have := l1.out; omega)
                    have HE := Lib.hid hE; clear hE
                    go_wp2
                    go_ret
                    exact ⟨ret_bool HF.out.symm, HE.out⟩
        · have d5 : (nth O (no - 1) != (nt:Int)) = true := by simpa using h5
          have HF : Hid (halfB O T = false) := HNO.out (by rw [← l1.out, ← l2.out]; exact fun h => h5 h.2.2.2.2.1)
          clear h4 h5
          clear hO hT
          go_enter Tryz.func88, Tryz.ntmps88
          go_wp2
          go_ret
          exact ⟨ret_bool HF.out.symm, Below.refl _ _⟩
      · have d4 : (nth O 0 != 0) = true := by simpa using h4
        have HF : Hid (halfB O T = false) := HNO.out (fun h => h4 h.2.2.2.1)
        clear h4
        clear hO hT
        go_enter Tryz.func88, Tryz.ntmps88
        go_wp2
        go_ret
        exact ⟨ret_bool HF.out.symm, Below.refl _ _⟩
end Go.Proofs.YtblghmfhchlllaaGreat
/- The reference's Check of rows. -/
namespace Go.Proofs.YtblghmfhchlllaaGreat
open Go Go.RowKit
set_option maxRecDepth 100000 in
set_option maxHeartbeats 4000000 in
theorem Check04_no (po : Option Addr) (no co : Nat) (O : List Int) (pt : Option Addr) (nt ct : Nat) (T : List Int) (pr : Option Addr) (nr cr : Nat) (R : List Int) (pv : Option Addr) (nv cv : Nat) (V : List Int) (w : World) (hO : Rd w 1 po no (encI O)) (hT : Rd w 1 pt nt (encI T)) (hR : Rd w 1 pr nr (encI R)) (hV : Rd w 1 pv nv (encI V)) (hct : nt ≤ ct) (hcv : nv ≤ cv) (h : no ≠ nr ∨ nt ≠ nv ∨ halfB O T = false ∨ halfB R V = false) :
    Calls Tryz.prog 65 #[.agg #[.slice po no co, .slice pt nt ct, .slice pr nr cr, .slice pv nv cv]] w fun e w' => e = .returned (.bool false) ∧ Ext w w' := by
  have _u := And.intro hct hcv
  have S0 := Lib.hid ((Sep.start w).al #[.slice po no co, .slice pt nt ct, .slice pr nr cr, .slice pv nv cv] 24 w.heap.size rfl)
  have HH1 := Lib.hid (fun W1 (h : Ext w W1) => half04 po no co O pt nt ct T W1 (hO.ext h) (hT.ext h))
  have HH2 := Lib.hid (fun W1 (h : Ext w W1) => half04 pr nr cr R pv nv cv V W1 (hR.ext h) (hV.ext h))
  clear hO hT hR hV
  by_cases h1 : no = nr
  · have d1 : ((no:Int) != (nr:Int)) = false := by simp; omega
    cases h3 : halfB O T with
    | false =>
      rw [h3] at HH1
      clear h h1 h3
      go_enter Tryz.func65, Tryz.ntmps65
      go_wp2_with (go_at_call 88; go_must (refine (HH1.out _ S0.out.ext).mono ?_; rintro e w1 ⟨rfl, hb⟩; have S1 := Lib.hid (S0.out.call hb); have az := (S1.out.blk 0 rfl).lt; have a0 := (S1.out.blk 0 rfl).cell 0; have a1 := (S1.out.blk 0 rfl).cell 1; have a2 := (S1.out.blk 0 rfl).cell 2; have a3 := (S1.out.blk 0 rfl).cell 3; clear hb))
      go_ret
      exact ⟨rfl, S1.out.ext⟩
    | true =>
      rw [h3] at HH1
      cases h4 : halfB R V with
      | false =>
        rw [h4] at HH2
        clear h h1 h3 h4
        go_enter Tryz.func65, Tryz.ntmps65
        go_wp2_with (first | (go_at_call 88; have _t := S1; go_must (refine (HH2.out _ S1.out.ext).mono ?_; rintro e w2 ⟨rfl, hb⟩; have S2 := Lib.hid (S1.out.call hb); have bz := (S2.out.blk 0 rfl).lt; have b0 := (S2.out.blk 0 rfl).cell 0; have b1 := (S2.out.blk 0 rfl).cell 1; have b2 := (S2.out.blk 0 rfl).cell 2; have b3 := (S2.out.blk 0 rfl).cell 3; clear hb)) | (go_at_call 88; go_must (refine (HH1.out _ S0.out.ext).mono ?_; rintro e w1 ⟨rfl, hb⟩; have S1 := Lib.hid (S0.out.call hb); have az := (S1.out.blk 0 rfl).lt; have a0 := (S1.out.blk 0 rfl).cell 0; have a1 := (S1.out.blk 0 rfl).cell 1; have a2 := (S1.out.blk 0 rfl).cell 2; have a3 := (S1.out.blk 0 rfl).cell 3; clear hb)))
        go_ret
        exact ⟨rfl, S2.out.ext⟩
      | true =>
        rw [h4] at HH2
        have d2 : ((nt:Int) != (nv:Int)) = true := by
          rcases h with h | h | h | h
          · exact absurd h1 h
          · simp; omega
          · rw [h3] at h; cases h
          · rw [h4] at h; cases h
        clear h h1 h3 h4
        go_enter Tryz.func65, Tryz.ntmps65
        go_wp2_with (first | (go_at_call 88; have _t := S1; go_must (refine (HH2.out _ S1.out.ext).mono ?_; rintro e w2 ⟨rfl, hb⟩; have S2 := Lib.hid (S1.out.call hb); have bz := (S2.out.blk 0 rfl).lt; have b0 := (S2.out.blk 0 rfl).cell 0; have b1 := (S2.out.blk 0 rfl).cell 1; have b2 := (S2.out.blk 0 rfl).cell 2; have b3 := (S2.out.blk 0 rfl).cell 3; clear hb)) | (go_at_call 88; go_must (refine (HH1.out _ S0.out.ext).mono ?_; rintro e w1 ⟨rfl, hb⟩; have S1 := Lib.hid (S0.out.call hb); have az := (S1.out.blk 0 rfl).lt; have a0 := (S1.out.blk 0 rfl).cell 0; have a1 := (S1.out.blk 0 rfl).cell 1; have a2 := (S1.out.blk 0 rfl).cell 2; have a3 := (S1.out.blk 0 rfl).cell 3; clear hb)))
        go_ret
        exact ⟨rfl, S2.out.ext⟩
  · have d1 : ((no:Int) != (nr:Int)) = true := by simp; omega
    clear h h1
    go_enter Tryz.func65, Tryz.ntmps65
    go_wp2
    go_ret
    exact ⟨rfl, S0.out.ext⟩
def ChkQ (m : List Int) (k : Int) (i : Nat) (v : Value) (W : World) : Prop :=
  match i with
  | 8 => ∃ q c, v = .slice q m.length c ∧ Rd W 1 q m.length (encI m)
  | 10 => v = .bool (inB m k)
  | _ => True
theorem ChkQ_mono {m : List Int} {k : Int} : ∀ i v W W', Ext W W' → ChkQ m k i v W → ChkQ m k i v W' := by
  intro i v W W' he h
  unfold ChkQ at *
  split at h
  · obtain ⟨q, c, h1, h2⟩ := h; exact ⟨q, c, h1, h2.ext he⟩
  · exact h
  · trivial
theorem rowX_take_all {O T R V : List Int} {k j : Nat} (hj : j < (rowL O T k).length) : ((rowX O T k).take (j + 1)).all (backB R V) = (((rowX O T k).take j).all (backB R V) && inB (rowL R V (nth (rowL O T k) j).toNat) k) := by
  rw [rowX_take hj, List.all_append]; simp [backB]
set_option maxRecDepth 100000 in
set_option maxHeartbeats 8000000 in
theorem Check04_yes (po : Option Addr) (no co : Nat) (O : List Int) (pt : Option Addr) (nt ct : Nat) (T : List Int) (pr : Option Addr) (nr cr : Nat) (R : List Int) (pv : Option Addr) (nv cv : Nat) (V : List Int) (w : World) (hO : Rd w 1 po no (encI O)) (hT : Rd w 1 pt nt (encI T)) (hR : Rd w 1 pr nr (encI R)) (hV : Rd w 1 pv nv (encI V)) (hct : nt ≤ ct) (hcv : nv ≤ cv) (e1 : no = nr) (e2 : nt = nv) (h1 : halfB O T = true) (h2 : halfB R V = true) :
    Calls Tryz.prog 65 #[.agg #[.slice po no co, .slice pt nt ct, .slice pr nr cr, .slice pv nv cv]] w fun e w' => e = .returned (.bool ((pairs O T).all (backB R V))) ∧ Ext w w' := by
  have l1 := hO.nI
  have l2 := hT.nI
  have l3 := hR.nI
  have l4 := hV.nI
  have n1 := hO.small
  have S0 := Lib.hid ((Sep.start w).al #[.slice po no co, .slice pt nt ct, .slice pr nr cr, .slice pv nv cv] 24 w.heap.size rfl)
  have HH1 := Lib.hid (fun W1 (h : Ext w W1) => half04 po no co O pt nt ct T W1 (hO.ext h) (hT.ext h))
  have HH2 := Lib.hid (fun W1 (h : Ext w W1) => half04 pr nr cr R pv nv cv V W1 (hR.ext h) (hV.ext h))
  rw [h1] at HH1
  rw [h2] at HH2
  have d1 : ((no:Int) != (nr:Int)) = false := by simp; omega
  have d2 : ((nt:Int) != (nv:Int)) = false := by simp; omega
  have r := offB_parts (halfB_off h1)
  have r' := offB_parts (halfB_off h2)
  have HR1 := Lib.hid (fun W1 (h : Ext w W1) k (hk : k + 1 < O.length) => row04 po no co O pt nt ct T k W1 (hO.ext h) (hT.ext h) hct (offOk_of (halfB_off h1)) hk (by omega))
  have HR2 := Lib.hid (fun W1 (h : Ext w W1) k (hk : k + 1 < R.length) => row04 pr nr cr R pv nv cv V k W1 (hR.ext h) (hV.ext h) hcv (offOk_of (halfB_off h2)) hk (by omega))
  have HPB := Lib.hid (fun x (hx : x ∈ pairs O T) => pair_bd h1 hx)
  have L1 := Lib.hid l1
  have L3 := Lib.hid l3
  have E1 := Lib.hid e1
  have rl2000 : ∀ k, (rowL O T k).length ≤ 2000 := fun k => by unfold rowL; rw [List.length_take, List.length_drop]; omega
  have ru2000 : ∀ k, (rowL R V k).length ≤ 2000 := fun k => by unfold rowL; rw [List.length_take, List.length_drop]; omega
  have RL := Lib.hid rl2000
  have RU := Lib.hid ru2000
  have no200 : no ≤ 201 := by omega
  clear hO hT hR hV h1 h2 l1 l2 l3 l4 e1 e2 r r' rl2000 ru2000
  go_enter Tryz.func65, Tryz.ntmps65
  go_wp2_with (first | (go_at_call 88; have _t := S1; go_must (refine (HH2.out _ S1.out.ext).mono ?_; rintro e w2 ⟨rfl, hb⟩; have S2 := Lib.hid (S1.out.call hb); have bz := (S2.out.blk 0 rfl).lt; have b0 := (S2.out.blk 0 rfl).cell 0; have b1 := (S2.out.blk 0 rfl).cell 1; have b2 := (S2.out.blk 0 rfl).cell 2; have b3 := (S2.out.blk 0 rfl).cell 3; clear hb)) | (go_at_call 88; go_must (refine (HH1.out _ S0.out.ext).mono ?_; rintro e w1 ⟨rfl, hb⟩; have S1 := Lib.hid (S0.out.call hb); have az := (S1.out.blk 0 rfl).lt; have a0 := (S1.out.blk 0 rfl).cell 0; have a1 := (S1.out.blk 0 rfl).cell 1; have a2 := (S1.out.blk 0 rfl).cell 2; have a3 := (S1.out.blk 0 rfl).cell 3; clear hb)))
  go_loopw [3, 4, 5] (fun v _ _ wr => ∃ k : Nat, k ≤ no - 1 ∧ v = .int .i64 k ∧ (pairsK O T k).all (backB R V) = true ∧ Sep w wr [.blk w.heap.size 24 #[.slice po no co, .slice pt nt ct, .slice pr nr cr, .slice pv nv cv]]) (fun v _ _ _ => no - 1 - (intOf v).toNat)
  case atStart => exact ⟨0, Nat.zero_le _, rfl, rfl, S2.out⟩
  case round =>
    clear S0 S1 S2
    obtain ⟨k, hk, rfl, ha, S⟩ := hrel
    have HA := Lib.hid ha; clear ha
    have az := (S.blk 0 rfl).lt; have a0 := (S.blk 0 rfl).cell 0; have a1 := (S.blk 0 rfl).cell 1; have a2 := (S.blk 0 rfl).cell 2; have a3 := (S.blk 0 rfl).cell 3
    by_cases hlt : k < no - 1
    · have hkO : k + 1 < O.length := by have := L1.out; omega
      have t1 : (k:Int) + 1 < no := by omega
      have t0 : (0:Int) ≤ k := by omega
      have HRk := Lib.hid (fun W1 (h : Ext w W1) => HR1.out W1 h k hkO)
      have rlk := RL.out k
      have hpair := Lib.hid (fun j (hj : j < (rowL O T k).length) => pairs_at (O := O) (T := T) (k := k) (by omega) hj)
      have hstep := Lib.hid (fun j (hj : j < (rowL O T k).length) => rowX_take_all (R := R) (V := V) hj)
      have hpre := Lib.hid (fun j => pairs_prefix (O := O) (T := T) (k := k) (j := j) (by omega))
      have hend : Hid ((rowX O T k).take (rowL O T k).length = rowX O T k) := by unfold Hid rowX; rw [List.take_of_length_le (by simp)]
      have hps := Lib.hid (pairsK_step O T k)
      generalize rowL O T k = l at *
      generalize rowX O T k = xs at *
      have SH := Lib.hid S; clear S
      go_wp2_with (go_at_call 66; go_must (refine (HRk.out _ SH.out.ext).mono ?_; rintro e w3 ⟨q, c, rfl, Z⟩; have P1 := Lib.hid (SH.out.comp Z); clear Z))
      go_loopw [5] (fun i wr => ∃ j : Nat, j ≤ l.length ∧ i = .int .i64 j ∧ (xs.take j).all (backB R V) = true ∧ Sep w wr [.own 3 1 q l.length c (encI l), .blk w.heap.size 24 #[.slice po no co, .slice pt nt ct, .slice pr nr cr, .slice pv nv cv]]) (fun i _ => l.length - (intOf i).toNat)
      case atStart => exact ⟨0, Nat.zero_le _, rfl, by simp, P1.out⟩
      case round =>
        clear SH P1 a0 a1 a2 a3 az
        obtain ⟨j, hj, rfl, hb, S⟩ := hrel
        have HB := Lib.hid hb; clear hb
        have az := (S.blk 1 rfl).lt; have a0 := (S.blk 1 rfl).cell 0; have a1 := (S.blk 1 rfl).cell 1; have a2 := (S.blk 1 rfl).cell 2; have a3 := (S.blk 1 rfl).cell 3
        have pq := (S.rd 0 rfl (by omega)).ptr
        by_cases hlj : j < l.length
        · have g1 := (S.rd 0 rfl (by omega)).cI hlj
          have hpb := HPB.out _ (hpair.out j hlj)
          simp only at hpb
          obtain ⟨u, hu⟩ : ∃ u : Nat, nth l j = (u : Int) := ⟨(nth l j).toNat, by omega⟩
          have huR : u + 1 < R.length := by have := L1.out; have := L3.out; have := E1.out; omega
          have HRu := Lib.hid (fun W1 (h : Ext w W1) => HR2.out W1 h u huR)
          have hst := hstep.out j hlj
          rw [HB.out, Bool.true_and, hu, Int.toNat_natCast] at hst
          have HST := Lib.hid hst
          have ruk := RU.out u
          rw [hu] at g1
          generalize rowL R V u = m at *
          have t2 : (0:Int) ≤ j := by omega
          have t3 : (j:Int) < l.length := by omega
          clear hst hpb hu
          have SH := Lib.hid S; clear S
          cases hin : inB m (k:Int) with
          | true =>
            rw [hin] at HST
            go_wp2
            have x2 := fun x : ExtOf wr => x.ext.cell a2
            have x3 := fun x : ExtOf wr => x.ext.cell a3
            have x1 := fun x : ExtOf wr => x.ext.cell g1
            refine wp_region_mix [true, true, true, true, true, true, true, true, false, true, false] (ChkQ m k) (by kernel_rfl) (by kernel_rfl) (by kernel_rfl) ChkQ_mono ?_
            simp only [nfM]
            repeat (go_big_quiet_step ((fail)))
            refine wpQuiet_nil ⟨⟨fun vs W1 hE hd => ?_, fun vs W1 hE hd => ?_, trivial⟩, fun vs W1 hE hkn => ?_⟩
            · simp [putM, go_sem]
              exact (HRu.out _ (Ext.trans SH.out.ext hE)).mono fun e w' ⟨q, c, h1, S⟩ => ⟨_, h1, ⟨q, c, rfl, S.rd 0 rfl (by omega)⟩, S.ext⟩
            · obtain ⟨q, c, e1, e2⟩ := hd 8 (by decide) rfl
              simp [putM, go_sem, e1]
              exact (In04x q _ c m k W1 e2).mono fun e w' ⟨h1, h2⟩ => ⟨_, h1, rfl, h2⟩
            obtain ⟨⟨q', c', k1, _⟩, k2, _⟩ := hkn
            have k2 : vs 10 = .bool (inB m k) := k2
            rw [hin] at k2
            have SY := Lib.hid (SH.out.call hE)
            simp only [putM, k1, k2, List.length_cons, List.length_nil, Nat.zero_add, Nat.reduceAdd, List.drop_succ_cons, List.drop_zero]
            clear x1 x2 x3 k1 k2 hE
            go_wp2
            go_roundw
            case rel => exact ⟨j + 1, by omega, by go_num, HST.out, SY.out⟩
            case measure => simp [intOf]; omega
          | false =>
            rw [hin] at HST
            have HF : Hid ((pairs O T).all (backB R V) = false) := by
              obtain ⟨t, ht⟩ := hpre.out (j + 1)
              unfold Hid
              rw [← ht, List.all_append, List.all_append, HST.out]; simp
            go_wp2
            have x2 := fun x : ExtOf wr => x.ext.cell a2
            have x3 := fun x : ExtOf wr => x.ext.cell a3
            have x1 := fun x : ExtOf wr => x.ext.cell g1
            refine wp_region_mix [true, true, true, true, true, true, true, true, false, true, false] (ChkQ m k) (by kernel_rfl) (by kernel_rfl) (by kernel_rfl) ChkQ_mono ?_
            simp only [nfM]
            repeat (go_big_quiet_step ((fail)))
            refine wpQuiet_nil ⟨⟨fun vs W1 hE hd => ?_, fun vs W1 hE hd => ?_, trivial⟩, fun vs W1 hE hkn => ?_⟩
            · simp [putM, go_sem]
              exact (HRu.out _ (Ext.trans SH.out.ext hE)).mono fun e w' ⟨q, c, h1, S⟩ => ⟨_, h1, ⟨q, c, rfl, S.rd 0 rfl (by omega)⟩, S.ext⟩
            · obtain ⟨q, c, e1, e2⟩ := hd 8 (by decide) rfl
              simp [putM, go_sem, e1]
              exact (In04x q _ c m k W1 e2).mono fun e w' ⟨h1, h2⟩ => ⟨_, h1, rfl, h2⟩
            obtain ⟨⟨q', c', k1, _⟩, k2, _⟩ := hkn
            have k2 : vs 10 = .bool (inB m k) := k2
            rw [hin] at k2
            have SY := Lib.hid (SH.out.call hE)
            simp only [putM, k1, k2, List.length_cons, List.length_nil, Nat.zero_add, Nat.reduceAdd, List.drop_succ_cons, List.drop_zero]
            clear x1 x2 x3 k1 k2 hE
            go_wp2
            go_ret
            exact ⟨ret_bool HF.out.symm, SY.out.ext⟩
        · obtain rfl : j = l.length := by omega
          have hb := HB.out
          rw [hend.out] at hb
          have HK : Hid ((pairsK O T (k + 1)).all (backB R V) = true) := by unfold Hid; rw [hps.out, List.all_append, HA.out, hb]; rfl
          clear hb
          have SH := Lib.hid S; clear S
          go_wp2
          go_roundw
          case rel => exact ⟨k + 1, by omega, by go_num, HK.out, SH.out.pick [1] (by decide) rfl⟩
          case measure => simp [intOf]; omega
    · have HF : Hid ((pairs O T).all (backB R V) = true) := by
        unfold Hid pairs
        rw [show O.length - 1 = k by have := L1.out; omega]; exact HA.out
      have t1 : decide ((k:Int) + 1 < no) = false := by simp; omega
      have SH := Lib.hid S; clear S
      go_wp2
      go_ret
      exact ⟨ret_bool HF.out.symm, SH.out.ext⟩
theorem Check04 (po : Option Addr) (no co : Nat) (O : List Int) (pt : Option Addr) (nt ct : Nat) (T : List Int) (pr : Option Addr) (nr cr : Nat) (R : List Int) (pv : Option Addr) (nv cv : Nat) (V : List Int) (w : World) (hO : Rd w 1 po no (encI O)) (hT : Rd w 1 pt nt (encI T)) (hR : Rd w 1 pr nr (encI R)) (hV : Rd w 1 pv nv (encI V)) (hct : nt ≤ ct) (hcv : nv ≤ cv) : Calls Tryz.prog 65 #[.agg #[.slice po no co, .slice pt nt ct, .slice pr nr cr, .slice pv nv cv]] w fun e w' => e = .returned (.bool (checkR O T R V)) ∧ Ext w w' := by
  have l1 := hO.nI
  have l2 := hT.nI
  have l3 := hR.nI
  have l4 := hV.nI
  by_cases h : no ≠ nr ∨ nt ≠ nv ∨ halfB O T = false ∨ halfB R V = false
  · rw [checkR_no (by rw [← l1, ← l2, ← l3, ← l4]; exact h)]
    exact Check04_no po no co O pt nt ct T pr nr cr R pv nv cv V w hO hT hR hV hct hcv h
  · have h1 : no = nr := by
      by_cases h1 : no = nr
      · exact h1
      · exact absurd (.inl h1) h
    have h2 : nt = nv := by
      by_cases h2 : nt = nv
      · exact h2
      · exact absurd (.inr (.inl h2)) h
    have h3 : halfB O T = true := by
      cases h3 : halfB O T with
      | true => rfl
      | false => exact absurd (.inr (.inr (.inl h3))) h
    have h4 : halfB R V = true := by
      cases h4 : halfB R V with
      | true => rfl
      | false => exact absurd (.inr (.inr (.inr h4))) h
    have : checkR O T R V = (pairs O T).all (backB R V) := by
      unfold checkR
      rw [h3, h4, ← l1, ← l2, ← l3, ← l4, h1, h2]
      simp only [decide_true, Bool.true_and]
      rfl
    rw [this]
    exact Check04_yes po no co O pt nt ct T pr nr cr R pv nv cv V w hO hT hR hV hct hcv h1 h2 h3 h4
end Go.Proofs.YtblghmfhchlllaaGreat
/- The reference's Out, In, Has, Own of rows. -/
namespace Go.Proofs.YtblghmfhchlllaaGreat
open Go Go.RowKit
end Go.Proofs.YtblghmfhchlllaaGreat
/- The document's example rows. -/
namespace Go.Proofs.YtblghmfhchlllaaGreat
open Go Go.RowKit
def exE3 : List (Int × Int) := [(0, 1), (0, 2), (2, 1)]
def exO : List Int := [0, 2, 2, 3]
def exT : List Int := [1, 2, 1]
def exR : List Int := [0, 0, 2, 3]
def exV : List Int := [0, 2, 0]
theorem exI3 : isB 3 exE3 [[], [], []] = true := by decide
theorem exO_eq : offL 3 exE3 = exO := by decide
theorem exT_eq : toL exE3 = exT := by decide
theorem exR_eq : offL 3 (turnE exE3) = exR := by decide
theorem exV_eq : toL (turnE exE3) = exV := by decide
theorem exCk : checkR exO exT exR exV = true := by decide
theorem exIn : outL true exR exV 1 = [0, 2] ∧ outB true exR 1 = true := by decide
theorem exH1 : hasB true exO exT 0 2 = true := by decide
theorem exH2 : hasB true exO exT 1 0 = false := by decide
theorem exI0 : isB 0 [] [] = false := by decide
/-- four slices are read -/
structure R4 (w : World) (po : Option Addr) (no : Nat) (pt : Option Addr) (nt : Nat) (pr : Option Addr) (nr : Nat) (pv : Option Addr) (nv : Nat) (O T R V : List Int) : Prop where
  o : Rd w 1 po no (encI O)
  t : Rd w 1 pt nt (encI T)
  r : Rd w 1 pr nr (encI R)
  v : Rd w 1 pv nv (encI V)
theorem R4.ext {w w' : World} {po : Option Addr} {no : Nat} {pt : Option Addr} {nt : Nat} {pr : Option Addr} {nr : Nat} {pv : Option Addr} {nv : Nat} {O T R V : List Int} (h : R4 w po no pt nt pr nr pv nv O T R V) (he : Ext w w') : R4 w' po no pt nt pr nr pv nv O T R V := ⟨h.o.ext he, h.t.ext he, h.r.ext he, h.v.ext he⟩
theorem exMk3 (w : World) : Calls Tryz.prog 27 #[.agg #[.int .i64 3, .slice (some ⟨w.heap.size, 0, none⟩) 3 3, .slice (some ⟨w.heap.size + 1, 0, none⟩) 3 3]] ((w.alloc (.cells #[.int .i64 0, .int .i64 1, .int .i64 0, .int .i64 2, .int .i64 2, .int .i64 1] 44)).alloc (.cells #[.slice none 0 0, .slice none 0 0, .slice none 0 0] 85)) fun e w' =>
    ∃ po no co pt nt ct pr nr cr pv nv cv, e = .returned (.tuple #[.agg #[.slice po no co, .slice pt nt ct, .slice pr nr cr, .slice pv nv cv], .int .i64 0]) ∧ R4 w' po no pt nt pr nr pv nv exO exT exR exV ∧ nt ≤ ct ∧ nv ≤ cv ∧ Ext w w' := by
  obtain ⟨a1, a2, a3⟩ := alloc2B w #[.int .i64 0, .int .i64 1, .int .i64 0, .int .i64 2, .int .i64 2, .int .i64 1] #[.slice none 0 0, .slice none 0 0, .slice none 0 0] 44 85
  generalize ((w.alloc (.cells #[.int .i64 0, .int .i64 1, .int .i64 0, .int .i64 2, .int .i64 2, .int .i64 1] 44)).alloc (.cells #[.slice none 0 0, .slice none 0 0, .slice none 0 0] 85)) = W at *
  have h1 : Rd W 2 (some ⟨w.heap.size, 0, none⟩) 3 (encE exE3) := a1.rd rfl rfl (by decide)
  have h2 : RdW W (some ⟨w.heap.size + 1, 0, none⟩) 3 [⟨none, 0, 0⟩, ⟨none, 0, 0⟩, ⟨none, 0, 0⟩] [[], [], []] := ⟨rfl, a2.rd rfl rfl (by decide), fun j hj => by
    have : j = 0 ∨ j = 1 ∨ j = 2 := by omega
    rcases this with rfl | rfl | rfl <;> exact Rd.nil _ _ _⟩
  have hz : SzW [[], [], []] := fun l hl s hs => by simp at hl; subst hl; cases hs
  refine (RMakeG_yes 3 _ 3 3 _ 3 3 exE3 _ _ W h1 h2 hz exI3).mono ?_
  rintro e w' ⟨v, rfl, ⟨po, no, co, pt, nt, ct, pr, nr, cr, pv, nv, cv, rfl, k1, k2, k3, k4, k5, k6, k7, k8⟩, hb⟩
  rw [exO_eq] at k1
  rw [exT_eq] at k2
  rw [exR_eq] at k3
  rw [exV_eq] at k4
  exact ⟨po, no, co, pt, nt, ct, pr, nr, cr, pv, nv, cv, rfl, ⟨k1, k2, k3, k4⟩, k6, k8, Ext.trans a3 hb⟩
theorem exMk0 (w : World) : Calls Tryz.prog 27 #[.agg #[.int .i64 0, .slice none 0 0, .slice none 0 0]] w fun e w' => e = .returned (.tuple #[.agg #[.slice none 0 0, .slice none 0 0, .slice none 0 0, .slice none 0 0], .int .i64 20]) ∧ Ext w w' :=
  RMakeG_no 0 none 0 0 none 0 0 [] [] [] w (Rd.nil _ _ _) ⟨rfl, Rd.nil _ _ _, fun j hj => by omega⟩ (fun l hl => nomatch hl) exI0
section
variable (po : Option Addr) (no co : Nat) (pt : Option Addr) (nt ct : Nat) (pr : Option Addr) (nr cr : Nat) (pv : Option Addr) (nv cv : Nat) (w : World) (h : R4 w po no pt nt pr nr pv nv exO exT exR exV) (hct : nt ≤ ct) (hcv : nv ≤ cv)
include h hct hcv
theorem exCkG : Calls Tryz.prog 9 #[.agg #[.slice po no co, .slice pt nt ct, .slice pr nr cr, .slice pv nv cv]] w fun e w' => e = .returned (.bool true) ∧ Ext w w' := by
  have := CheckR po no co exO pt nt ct exT pr nr cr exR pv nv cv exV w h.o h.t h.r h.v hct hcv
  rwa [exCk] at this
end
/-- the example's rows where they lie -/
theorem exWant4 (w : World) (cs : Array Value) : ∃ X, X = (((((w.alloc (.cells cs 24)).alloc (.cells #[.int .i64 0, .int .i64 2, .int .i64 2, .int .i64 3] 3)).alloc (.cells #[.int .i64 1, .int .i64 2, .int .i64 1] 3)).alloc (.cells #[.int .i64 0, .int .i64 0, .int .i64 2, .int .i64 3] 3)).alloc (.cells #[.int .i64 0, .int .i64 2, .int .i64 0] 3)) ∧
    Sep w X [.blk w.heap.size 24 cs] ∧ X.heap.size = w.heap.size + 1 + 1 + 1 + 1 + 1 ∧
    R4 X (some ⟨w.heap.size + 1, 0, none⟩) 4 (some ⟨w.heap.size + 1 + 1, 0, none⟩) 3 (some ⟨w.heap.size + 1 + 1 + 1, 0, none⟩) 4 (some ⟨w.heap.size + 1 + 1 + 1 + 1, 0, none⟩) 3 exO exT exR exV := by
  have S := (((((Sep.start w).al cs 24 w.heap.size rfl).al #[.int .i64 0, .int .i64 2, .int .i64 2, .int .i64 3] 3 (w.heap.size + 1) (by simp)).al #[.int .i64 1, .int .i64 2, .int .i64 1] 3 (w.heap.size + 1 + 1) (by simp)).al #[.int .i64 0, .int .i64 0, .int .i64 2, .int .i64 3] 3 (w.heap.size + 1 + 1 + 1) (by simp)).al #[.int .i64 0, .int .i64 2, .int .i64 0] 3 (w.heap.size + 1 + 1 + 1 + 1) (by simp)
  exact ⟨_, rfl, S.pick [4] (by decide) rfl, by simp, (S.blk 3 rfl).rd rfl rfl (by decide), (S.blk 2 rfl).rd rfl rfl (by decide), (S.blk 1 rfl).rd rfl rfl (by decide), (S.blk 0 rfl).rd rfl rfl (by decide)⟩
end Go.Proofs.YtblghmfhchlllaaGreat
/- The program's Edges of rows. -/
namespace Go.Proofs.YtblghmfhchlllaaGreat
open Go Go.RowKit Go.Shelf Go.Lib
attribute [local go_sem] Oper.semAt_some
def edgL (b : Bool) (O T : List Int) : List (Int × Int) := if b = true then pairs O T else []
def edgC (b : Bool) : Int := if b = true then 0 else 40
def edgPc (a b : Nat) (po : Option Addr) (no co : Nat) (pt : Option Addr) (nt ct : Nat) (cs : Array Value) (q : Option Addr) (c : Nat) (l : List (Int × Int)) : List Pc :=
  [.blk (b + 1 + 1) 22 #[.slice pt nt ct], .blk (b + 1) 22 #[.slice po no co], .blk b 39 #[.slice q l.length c], .blk a 24 cs, .own 44 2 q l.length c (encE l)]
theorem edgPc_cells (a b : Nat) (po : Option Addr) (no co : Nat) (pt : Option Addr) (nt ct : Nat) (cs : Array Value) (q : Option Addr) (c : Nat) (l : List (Int × Int)) : ∀ x ∈ edgPc a b po no co pt nt ct cs q c l, x.cells :=
  cells_all fun x hx => by simp [edgPc] at hx; rcases hx with h | h | h | h | h <;> first | exact .inl ⟨_, _, _, h⟩ | exact .inr ⟨_, _, _, _, _, _, h⟩
theorem pairs_len {O T : List Int} (h : OffOk O T) (h0 : nth O 0 = 0) : ∀ k, k < O.length → (pairsK O T k).length = (nth O k).toNat
  | 0, _ => by rw [h0]; rfl
  | k + 1, hk => by
    rw [pairsK_step, List.length_append, pairs_len h h0 k (by omega)]
    unfold rowX
    rw [List.length_map, rowL_len h hk]
    have := h.le k hk
    have := h.lo k (by omega)
    omega
set_option maxRecDepth 100000 in
set_option maxHeartbeats 4000000 in
theorem REdgesG_yes (po : Option Addr) (no co : Nat) (O : List Int) (pt : Option Addr) (nt ct : Nat) (T : List Int) (pr : Option Addr) (nr cr : Nat) (R : List Int) (pv : Option Addr) (nv cv : Nat) (V : List Int) (w : World) (hO : Rd w 1 po no (encI O)) (hT : Rd w 1 pt nt (encI T)) (hR : Rd w 1 pr nr (encI R)) (hV : Rd w 1 pv nv (encI V)) (hct : nt ≤ ct) (hcv : nv ≤ cv) (hck : checkR O T R V = true) :
    Calls Tryz.prog 23 #[.agg #[.slice po no co, .slice pt nt ct, .slice pr nr cr, .slice pv nv cv]] w fun e w' => ∃ q c, e = .returned (.tuple #[.slice q (pairs O T).length c, .int .i64 0]) ∧ Sep w w' [.own 44 2 q (pairs O T).length c (encE (pairs O T))] := by
  obtain ⟨i0, hi0, hz0, hz1, hz2⟩ := info_parts inf34
  have S0 := Lib.hid ((Sep.start w).al #[.slice po no co, .slice pt nt ct, .slice pr nr cr, .slice pv nv cv] 24 w.heap.size rfl)
  have HC := Lib.hid (fun W1 (h : Ext w W1) => CheckR po no co O pt nt ct T pr nr cr R pv nv cv V W1 (hO.ext h) (hT.ext h) (hR.ext h) (hV.ext h) hct hcv)
  rw [hck] at HC
  have hh := (checkR_half hck).2.2.1
  have HOK := Lib.hid (offOk_of (halfB_off hh))
  have hpl : (pairs O T).length ≤ 2000 := by
    obtain ⟨r1, r2, r3, r4, r5, r6⟩ := offB_parts (halfB_off hh)
    unfold pairs
    rw [pairs_len HOK.out r4 _ (by omega), r5]; omega
  have hO0 : 0 < no → (adr po 0).block < w.heap.size := fun h => hO.lt (by omega)
  have hT0 : 0 < nt → (adr pt 0).block < w.heap.size := fun h => hT.lt (by omega)
  have HO := Lib.hid hO; clear hO
  have HT := Lib.hid hT; clear hT
  clear hR hV hh hck
  refine (callsIn_wide (n := 9)).1 ?_
  refine callsIn_of_wp_marks Tryz.func23 rfl trivial ?_ rfl
  simp only [Tryz.ntmps23, List.size_toArray, List.length_cons, List.length_nil, Nat.reduceAdd, Nat.reduceSub, Array.replicate_succ, Array.replicate_zero, List.push_toArray, List.append_toArray, List.nil_append, List.cons_append]
  refine wpIn_wide.2 ?_
  go_wp2_with (first
    | (go_at_call 25; go_must (refine (allG po no co pt nt ct _).mono ?_; rintro e w3 ⟨rfl, hw3⟩; have S3 := (((S1.out.nilrow 44 2).al #[.slice none 0 0] 39 w1.heap.size rfl).al #[.slice po no co] 22 (w1.heap.size + 1) (by simp)).al #[.slice pt nt ct] 22 (w1.heap.size + 1 + 1) (by simp); rw [← hw3] at S3; have S4 := Lib.hid ((S3.pick [0, 1, 2, 4, 3] (by decide) rfl : Sep w w3 (edgPc w.heap.size w1.heap.size po no co pt nt ct #[.slice po no co, .slice pt nt ct, .slice pr nr cr, .slice pv nv cv] none 0 []))); clear S3 hw3))
    | (go_at_call 9; go_must (refine (HC.out _ S0.out.ext).mono ?_; rintro e w1 ⟨rfl, hb⟩; have S1 := Lib.hid (S0.out.call hb); have c0 := (S1.out.blk 0 rfl).cell 0; have c1 := (S1.out.blk 0 rfl).cell 1; have z0 := (S1.out.blk 0 rfl).lt; clear hb)))
  clear S0 S1 HC c0 c1
  generalize w1.heap.size = b at *
  refine wpIn_wide.1 (wpIn_rangeFunc_ownG (F := Fence.wide) (n := 9) rfl (by omega) (gf := 40) (lb := #[.pointer (some ⟨b + 1, 0, none⟩), .pointer (some ⟨b + 1 + 1, 0, none⟩)]) rfl trivial (enters_of Tryz.func40 (by kernel_rfl) rfl)
    (all_stops 8 (by omega) (b + 1) (b + 1 + 1) w.heap.size po no co pt nt ct O T w3 S4.out.ext.size (S4.out.blk 1 rfl) (S4.out.blk 0 rfl) (HO.out.ext S4.out.ext) (HT.out.ext S4.out.ext) hO0 hT0 HOK.out hct)
    (fun h k => KpA.trans h k) (kpA_b S4.out.ext.size (S4.out.blk 1 rfl).lt (S4.out.blk 0 rfl).lt) (Below.refl _ _) (fun _ => rfl)
    (fun pre W => ∃ q c, Sep w W (edgPc w.heap.size b po no co pt nt ct #[.slice po no co, .slice pt nt ct, .slice pr nr cr, .slice pv nv cv] q c (pre.map (·.1))))
    (fun _ _ _ => False)
    ?hI (fun _ _ _ _ _ hs _ _ => hs) ⟨none, 0, S4.out⟩ ?a1 ?assign ?body ?done (fun D c pre W _ _ h _ => h.elim))
  case hI => exact fun s A B row hs hg hr => hs.elim fun q h => h.elim fun c S => ⟨q, c, S.turn (edgPc_cells _ _ _ _ _ _ _ _ _ _ _ _) S4.out.ext.size hg hr⟩
  case assign =>
    intro l x W K hK
    gi_wp2
    exact hK
  case body =>
    rintro l pre ⟨⟨v, u⟩, hx⟩ W ⟨q, c, S⟩ hlen
    have hm : (pre ++ [(⟨(v, u), hx⟩ : PairOf O T)]).map (·.1) = pre.map (·.1) ++ [(v, u)] := by simp
    have HM := Lib.hid hm
    have hlm : (pre.map (·.1)).length ≤ 2000 := by rw [List.length_map]; omega
    have c4 := (S.blk 2 rfl).cell 0
    have f4 := (S.blk 2 rfl).frozen 0
    have z4 := (S.blk 2 rfl).lt
    have kE := Lib.hid (keeps_ext (Ext.alloc (Below.refl _ W) (.cells #[.int .i64 v, .int .i64 u] 44)))
    generalize pre.map (·.1) = ps at *
    have SH := Lib.hid S; clear S
    clear hm S4 HO HT hO0 hT0
    refine wpIn_block ?_
    refine wpIn_region_list (by rintro ⟨_, _, h⟩; exact h) (by kernel_rfl) ?_
    go_wp2_with (at_builtin; go_must (refine wpList_append_sepK rfl _ _ _ rfl 44 i0 _ 2 16 Tryz.underlying39 hi0 hz0 hz1 hz2 rfl (by omega) (SH.out.junk _) 4 q ps.length c _ rfl rfl _ 1 1 _ rfl (Rd.one2 _ _ _ _) (one_encE _) (by omega) (by omega) ?_; intro q' c' w' S' hsz hK1; have k4 := (S'.blk 2 rfl).cell 0; have kf := (S'.blk 2 rfl).frozen 0; have kz := (S'.blk 2 rfl).lt; have S5 := Lib.hid S'; have K5 := Lib.hid hK1; clear S' hsz hK1))
    have S6 := S5.out.set 2 rfl 0 (.slice q' (ps.length + 1) c')
    refine ⟨((kE.out.trans K5.out).trans (KeepsOthers.setCell _ _ _)).from _, kpA_of SH.out.ext S6.ext (Nat.le_trans kE.out.size (Nat.le_trans K5.out.size (KeepsOthers.setCell _ _ _).size)) (SH.out.blk 1 rfl) (SH.out.blk 0 rfl) (S6.blk 1 rfl) (S6.blk 0 rfl), q', c', ?_⟩
    rw [HM.out]
    unfold edgPc
    rw [List.length_append, encE_append]
    exact S6
  case done =>
    rintro D ys W hD hys ⟨q, c, S⟩ hK
    rw [hys] at S
    have c4 := (S.blk 2 rfl).cell 0
    have S' := S.putObj (edgPc_cells w.heap.size b po no co pt nt ct _ q c _) (.deferred none) (Nat.le_trans S4.out.ext.size hD) hK rfl
    have SH := Lib.hid S; clear S
    have SH' := Lib.hid S'; clear S'
    go_wp2
    refine ⟨by simp, .inl ⟨_, _, rfl, run_takeDeferred hK, ?_⟩⟩
    exact ⟨.tuple #[.slice q (pairs O T).length c, .int .i64 0], by simp [results, Tryz.results23, go_sem], q, c, rfl, SH'.out.pick [4] (by decide) rfl⟩
set_option maxHeartbeats 1000000 in
theorem REdgesG (po : Option Addr) (no co : Nat) (O : List Int) (pt : Option Addr) (nt ct : Nat) (T : List Int) (pr : Option Addr) (nr cr : Nat) (R : List Int) (pv : Option Addr) (nv cv : Nat) (V : List Int) (w : World) (hO : Rd w 1 po no (encI O)) (hT : Rd w 1 pt nt (encI T)) (hR : Rd w 1 pr nr (encI R)) (hV : Rd w 1 pv nv (encI V)) (hct : nt ≤ ct) (hcv : nv ≤ cv) : Calls Tryz.prog 23 #[.agg #[.slice po no co, .slice pt nt ct, .slice pr nr cr, .slice pv nv cv]] w fun e w' => ∃ q c, e = .returned (.tuple #[.slice q (edgL (checkR O T R V) O T).length c, .int .i64 (edgC (checkR O T R V))]) ∧ Sep w w' [.own 44 2 q (edgL (checkR O T R V) O T).length c (encE (edgL (checkR O T R V) O T))] := by
  cases hck : checkR O T R V with
  | true => exact REdgesG_yes po no co O pt nt ct T pr nr cr R pv nv cv V w hO hT hR hV hct hcv hck
  | false =>
    have S0 := Lib.hid ((Sep.start w).al #[.slice po no co, .slice pt nt ct, .slice pr nr cr, .slice pv nv cv] 24 w.heap.size rfl)
    have HC := Lib.hid (fun W1 (h : Ext w W1) => CheckR po no co O pt nt ct T pr nr cr R pv nv cv V W1 (hO.ext h) (hT.ext h) (hR.ext h) (hV.ext h) hct hcv)
    rw [hck] at HC
    clear hO hT hR hV hck
    show Calls _ _ _ _ fun e w' => ∃ q c, e = .returned (.tuple #[.slice q 0 c, .int .i64 40]) ∧ Sep w w' [.own 44 2 q 0 c []]
    go_enter Tryz.func23, Tryz.ntmps23
    go_wp2_with (go_at_call 9; go_must (refine (HC.out _ S0.out.ext).mono ?_; rintro e w1 ⟨rfl, hb⟩; have S1 := Lib.hid (S0.out.call hb); have c0 := (S1.out.blk 0 rfl).cell 0; have c1 := (S1.out.blk 0 rfl).cell 1; have z0 := (S1.out.blk 0 rfl).lt; clear hb))
    go_ret2
    exact ⟨none, 0, rfl, ((Sep.start w).call S1.out.ext).nilrow _ _⟩
end Go.Proofs.YtblghmfhchlllaaGreat
/- The reference's Edges and Own of rows. -/
namespace Go.Proofs.YtblghmfhchlllaaGreat
open Go Go.RowKit
def OwnQ (b : Nat) (no nt nr nv : Nat) (O T R V : List Int) (i : Nat) (v : Value) (W : World) : Prop :=
  match i with
  | 2 => ∃ q d, v = .slice q no d ∧ W.ownsRow b 3 1 (.slice q no d) no (encI O)
  | 5 => ∃ q d, v = .slice q nt d ∧ W.ownsRow b 3 1 (.slice q nt d) nt (encI T)
  | 8 => ∃ q d, v = .slice q nr d ∧ W.ownsRow b 3 1 (.slice q nr d) nr (encI R)
  | 11 => ∃ q d, v = .slice q nv d ∧ W.ownsRow b 3 1 (.slice q nv d) nv (encI V)
  | _ => True
theorem OwnQ_mono {b no nt nr nv : Nat} {O T R V : List Int} : ∀ i v W W', Ext W W' → OwnQ b no nt nr nv O T R V i v W → OwnQ b no nt nr nv O T R V i v W' := by
  intro i v W W' he h
  unfold OwnQ at *
  split at h <;> first | trivial | (obtain ⟨q, c, h1, h2⟩ := h; exact ⟨q, c, h1, he.own h2⟩)
set_option maxRecDepth 100000 in
set_option maxHeartbeats 4000000 in
theorem Own04 (po : Option Addr) (no co : Nat) (O : List Int) (pt : Option Addr) (nt ct : Nat) (T : List Int) (pr : Option Addr) (nr cr : Nat) (R : List Int) (pv : Option Addr) (nv cv : Nat) (V : List Int) (w : World) (hO : Rd w 1 po no (encI O)) (hT : Rd w 1 pt nt (encI T)) (hR : Rd w 1 pr nr (encI R)) (hV : Rd w 1 pv nv (encI V)) (b1 : no ≤ 100000) (b2 : nt ≤ 100000) (b3 : nr ≤ 100000) (b4 : nv ≤ 100000) :
    Calls Tryz.prog 12 #[.agg #[.slice po no co, .slice pt nt ct, .slice pr nr cr, .slice pv nv cv]] w fun e w' => ∃ qo do' qt dt qr dr qv dv, e = .returned (.agg #[.slice qo no do', .slice qt nt dt, .slice qr nr dr, .slice qv nv dv]) ∧ R4 w' qo no qt nt qr nr qv nv O T R V ∧ nt ≤ dt ∧ nv ≤ dv ∧ Ext w w' := by
  have HO := Lib.hid (fun W1 (h : Ext w W1) => OwnI01 po no co O W1 (hO.ext h) (by omega))
  have HT := Lib.hid (fun W1 (h : Ext w W1) => OwnI01 pt nt ct T W1 (hT.ext h) (by omega))
  have HR := Lib.hid (fun W1 (h : Ext w W1) => OwnI01 pr nr cr R W1 (hR.ext h) (by omega))
  have HV := Lib.hid (fun W1 (h : Ext w W1) => OwnI01 pv nv cv V W1 (hV.ext h) (by omega))
  have D1 := Lib.hid b1
  have D2 := Lib.hid b2
  have D3 := Lib.hid b3
  have D4 := Lib.hid b4
  obtain ⟨X, hX⟩ : ∃ X, X = (w.alloc (.cells #[.slice po no co, .slice pt nt ct, .slice pr nr cr, .slice pv nv cv] 24)).alloc (.cells #[.slice none 0 0, .slice none 0 0, .slice none 0 0, .slice none 0 0] 24) := ⟨_, rfl⟩
  have S0 := Lib.hid (hX ▸ (((Sep.start w).al #[.slice po no co, .slice pt nt ct, .slice pr nr cr, .slice pv nv cv] 24 w.heap.size rfl).al #[.slice none 0 0, .slice none 0 0, .slice none 0 0, .slice none 0 0] 24 (w.heap.size + 1) (by simp)) : Sep w X _)
  clear hO hT hR hV b1 b2 b3 b4
  go_enter Tryz.func12, Tryz.ntmps12
  go_wp2
  rw [← hX]
  clear hX
  have az := (S0.out.blk 1 rfl).lt; have a0 := (S0.out.blk 1 rfl).cell 0; have a1 := (S0.out.blk 1 rfl).cell 1; have a2 := (S0.out.blk 1 rfl).cell 2; have a3 := (S0.out.blk 1 rfl).cell 3
  have x0 := fun x : ExtOf X => x.ext.cell a0
  have x1 := fun x : ExtOf X => x.ext.cell a1
  have x2 := fun x : ExtOf X => x.ext.cell a2
  have x3 := fun x : ExtOf X => x.ext.cell a3
  refine wp_region_mix [true, true, false, true, true, false, true, true, false, true, true, false] (OwnQ X.heap.size no nt nr nv O T R V) (by kernel_rfl) (by kernel_rfl) (by kernel_rfl) OwnQ_mono ?_
  simp only [nfM]
  repeat (go_big_quiet_step ((fail)))
  refine wpQuiet_nil ⟨⟨fun vs W1 hE hd => ?_, fun vs W1 hE hd => ?_, fun vs W1 hE hd => ?_, fun vs W1 hE hd => ?_, trivial⟩, fun vs W1 hE hkn => ?_⟩
  · simp [putM, go_sem]
    exact (HO.out _ (Ext.trans S0.out.ext hE)).mono fun e w' ⟨q, d, h1, S⟩ => ⟨_, h1, ⟨q, d, rfl, own_base (S.own 0 rfl) hE.size⟩, S.ext⟩
  · simp [putM, go_sem]
    exact (HT.out _ (Ext.trans S0.out.ext hE)).mono fun e w' ⟨q, d, h1, S⟩ => ⟨_, h1, ⟨q, d, rfl, own_base (S.own 0 rfl) hE.size⟩, S.ext⟩
  · simp [putM, go_sem]
    exact (HR.out _ (Ext.trans S0.out.ext hE)).mono fun e w' ⟨q, d, h1, S⟩ => ⟨_, h1, ⟨q, d, rfl, own_base (S.own 0 rfl) hE.size⟩, S.ext⟩
  · simp [putM, go_sem]
    exact (HV.out _ (Ext.trans S0.out.ext hE)).mono fun e w' ⟨q, d, h1, S⟩ => ⟨_, h1, ⟨q, d, rfl, own_base (S.own 0 rfl) hE.size⟩, S.ext⟩
  obtain ⟨⟨qo, do', k1, r1⟩, ⟨qt, dt, k2, r2⟩, ⟨qr, dr, k3, r3⟩, ⟨qv, dv, k4, r4⟩, _⟩ := hkn
  have c2 := own_cap r2
  have c4 := own_cap r4
  have SY := Lib.hid (S0.out.call hE)
  have Y1 := Lib.hid (S0.out.fresh hE r1 (Nat.le_refl _))
  have Y2 := Lib.hid (S0.out.fresh hE r2 (Nat.le_refl _))
  have Y3 := Lib.hid (S0.out.fresh hE r3 (Nat.le_refl _))
  have Y4 := Lib.hid (S0.out.fresh hE r4 (Nat.le_refl _))
  simp only [putM, k1, k2, k3, k4, List.length_cons, List.length_nil, Nat.zero_add, Nat.reduceAdd, List.drop_succ_cons, List.drop_zero]
  clear x0 x1 x2 x3 k1 k2 k3 k4 hE r1 r2 r3 r4 a0 a1 a2 a3 az
  have uz := (SY.out.blk 0 rfl).lt; have u0 := (SY.out.blk 0 rfl).cell 0; have u1 := (SY.out.blk 0 rfl).cell 1; have u2 := (SY.out.blk 0 rfl).cell 2; have u3 := (SY.out.blk 0 rfl).cell 3
  have uf0 := (SY.out.blk 0 rfl).frozen 0
  have uf1 := (SY.out.blk 0 rfl).frozen 1
  have uf2 := (SY.out.blk 0 rfl).frozen 2
  have uf3 := (SY.out.blk 0 rfl).frozen 3
  go_wp2
  have S7 := (((SY.out.set 0 rfl 0 (.slice qo no do')).set 0 rfl 1 (.slice qt nt dt)).set 0 rfl 2 (.slice qr nr dr)).set 0 rfl 3 (.slice qv nv dv)
  have b0 := (S7.blk 0 rfl).cell 0
  have b1 := (S7.blk 0 rfl).cell 1
  have b2 := (S7.blk 0 rfl).cell 2
  have b3 := (S7.blk 0 rfl).cell 3
  refine bodyPost_ret (v := .agg #[.slice qo no do', .slice qt nt dt, .slice qr nr dr, .slice qv nv dv]) (by simp [results, Tryz.results12, go_sem, b0, b1, b2, b3, Tryz.sizeOf24, Tryz.isAgg24]) rfl ⟨qo, do', qt, dt, qr, dr, qv, dv, rfl, ?_, c2, c4, S7.ext⟩
  exact ⟨((((Y1.out.set 1 rfl 0 (.slice qo no do')).set 1 rfl 1 (.slice qt nt dt)).set 1 rfl 2 (.slice qr nr dr)).set 1 rfl 3 (.slice qv nv dv)).rd 0 rfl (by have := D1.out; omega), ((((Y2.out.set 1 rfl 0 (.slice qo no do')).set 1 rfl 1 (.slice qt nt dt)).set 1 rfl 2 (.slice qr nr dr)).set 1 rfl 3 (.slice qv nv dv)).rd 0 rfl (by have := D2.out; omega), ((((Y3.out.set 1 rfl 0 (.slice qo no do')).set 1 rfl 1 (.slice qt nt dt)).set 1 rfl 2 (.slice qr nr dr)).set 1 rfl 3 (.slice qv nv dv)).rd 0 rfl (by have := D3.out; omega), ((((Y4.out.set 1 rfl 0 (.slice qo no do')).set 1 rfl 1 (.slice qt nt dt)).set 1 rfl 2 (.slice qr nr dr)).set 1 rfl 3 (.slice qv nv dv)).rd 0 rfl (by have := D4.out; omega)⟩
set_option maxRecDepth 100000 in
set_option maxHeartbeats 8000000 in
theorem Edges04_yes (po : Option Addr) (no co : Nat) (O : List Int) (pt : Option Addr) (nt ct : Nat) (T : List Int) (pr : Option Addr) (nr cr : Nat) (R : List Int) (pv : Option Addr) (nv cv : Nat) (V : List Int) (w : World) (hO : Rd w 1 po no (encI O)) (hT : Rd w 1 pt nt (encI T)) (hR : Rd w 1 pr nr (encI R)) (hV : Rd w 1 pv nv (encI V)) (hct : nt ≤ ct) (hcv : nv ≤ cv) (hck : checkR O T R V = true) :
    Calls Tryz.prog 48 #[.agg #[.slice po no co, .slice pt nt ct, .slice pr nr cr, .slice pv nv cv]] w fun e w' => ∃ q c, e = .returned (.tuple #[.slice q (edgL true O T).length c, .int .i64 (edgC true)]) ∧ Sep w w' [.own 44 2 q (edgL true O T).length c (encE (edgL true O T))] := by
  obtain ⟨i0, hi0, hz0, hz1, hz2⟩ := info_parts inf34
  have S0 := Lib.hid ((Sep.start w).al #[.slice po no co, .slice pt nt ct, .slice pr nr cr, .slice pv nv cv] 24 w.heap.size rfl)
  have HC := Lib.hid (fun W1 (h : Ext w W1) => Check04 po no co O pt nt ct T pr nr cr R pv nv cv V W1 (hO.ext h) (hT.ext h) (hR.ext h) (hV.ext h) hct hcv)
  rw [hck] at HC
  have h1 := (checkR_half hck).2.2.1
  have r := offB_parts (halfB_off h1)
  have HOK := offOk_of (halfB_off h1)
  have l1 := hO.nI
  have l2 := hT.nI
  have n1 := hO.small
  have L1 := Lib.hid l1
  have hpk : Hid (∀ k, k < O.length - 1 → ∀ j, (pairsK O T k ++ (rowX O T k).take j).length ≤ 2000) := fun k hk j => by
    have h := (pairs_prefix (O := O) (T := T) (j := j) hk).length_le
    unfold pairs at h
    rw [pairs_len HOK r.2.2.2.1 (O.length - 1) (by omega), r.2.2.2.2.1] at h
    omega
  have HR1 := Lib.hid (fun W1 (h : Ext w W1) k (hk : k + 1 < O.length) => row04 po no co O pt nt ct T k W1 (hO.ext h) (hT.ext h) hct HOK hk (by omega))
  have no200 : no ≤ 201 := by omega
  have rl2000 : ∀ k, (rowL O T k).length ≤ 2000 := fun k => by unfold rowL; rw [List.length_take, List.length_drop]; omega
  have RL := Lib.hid rl2000
  clear hO hT hR hV hck h1 r HOK l1 l2 rl2000
  show Calls _ _ _ _ fun e w' => ∃ q c, e = .returned (.tuple #[.slice q (pairs O T).length c, .int .i64 0]) ∧ Sep w w' [.own 44 2 q (pairs O T).length c (encE (pairs O T))]
  go_enter Tryz.func48, Tryz.ntmps48
  go_wp2_with (go_at_call 65; go_must (refine (HC.out _ S0.out.ext).mono ?_; rintro e w1 ⟨rfl, hb⟩; have S1 := Lib.hid (S0.out.call hb); have az := (S1.out.blk 0 rfl).lt; have a0 := (S1.out.blk 0 rfl).cell 0; have a1 := (S1.out.blk 0 rfl).cell 1; have a2 := (S1.out.blk 0 rfl).cell 2; have a3 := (S1.out.blk 0 rfl).cell 3; clear hb))
  go_loopw [4, 5, 6, 7] (fun out v _ _ wr => ∃ (k : Nat) (q : Option Addr) (c : Nat), k ≤ no - 1 ∧ v = .int .i64 k ∧ out = .slice q (pairsK O T k).length c ∧ Sep w wr [.own 44 2 q (pairsK O T k).length c (encE (pairsK O T k)), .blk w.heap.size 24 #[.slice po no co, .slice pt nt ct, .slice pr nr cr, .slice pv nv cv]]) (fun _ v _ _ _ => no - 1 - (intOf v).toNat)
  case atStart => exact ⟨0, none, 0, Nat.zero_le _, rfl, rfl, S1.out.nilrow _ _⟩
  case round =>
    clear S0 S1 a0 a1 a2 a3 az
    obtain ⟨k, q, c, hk, rfl, rfl, S⟩ := hrel
    have az := (S.blk 1 rfl).lt; have a0 := (S.blk 1 rfl).cell 0; have a1 := (S.blk 1 rfl).cell 1; have a2 := (S.blk 1 rfl).cell 2; have a3 := (S.blk 1 rfl).cell 3
    by_cases hlt : k < no - 1
    · have hkO : k + 1 < O.length := by have := L1.out; omega
      have t1 : (k:Int) + 1 < no := by omega
      have t0 : (0:Int) ≤ k := by omega
      have HRk := Lib.hid (fun W1 (h : Ext w W1) => HR1.out W1 h k hkO)
      have rlk := RL.out k
      have hpl := Lib.hid (hpk.out k (by omega))
      have hst := Lib.hid (fun j (hj : j < (rowL O T k).length) => rowX_take (O := O) (T := T) hj)
      have hend : Hid ((rowX O T k).take (rowL O T k).length = rowX O T k) := by unfold Hid rowX; rw [List.take_of_length_le (by simp)]
      have hps := Lib.hid (pairsK_step O T k)
      generalize rowL O T k = l at *
      generalize rowX O T k = xs at *
      generalize pairsK O T k = ps at *
      have SH := Lib.hid S; clear S
      go_wp2_with (go_at_call 66; go_must (refine (HRk.out _ SH.out.ext).mono ?_; rintro e w3 ⟨q2, c2, rfl, Z⟩; have P1 := Lib.hid (SH.out.comp Z); clear Z))
      go_loopw [4, 7] (fun out i wr => ∃ (j : Nat) (q : Option Addr) (c : Nat), j ≤ l.length ∧ i = .int .i64 j ∧ out = .slice q (ps ++ xs.take j).length c ∧ Sep w wr [.own 3 1 q2 l.length c2 (encI l), .own 44 2 q (ps ++ xs.take j).length c (encE (ps ++ xs.take j)), .blk w.heap.size 24 #[.slice po no co, .slice pt nt ct, .slice pr nr cr, .slice pv nv cv]]) (fun _ i _ => l.length - (intOf i).toNat)
      case atStart => exact ⟨0, q, c, Nat.zero_le _, rfl, by simp, by simpa using P1.out⟩
      case round =>
        clear SH P1 a0 a1 a2 a3 az
        obtain ⟨j, q, c, hj, rfl, rfl, S⟩ := hrel
        have pq := (S.rd 0 rfl (by omega)).ptr
        by_cases hlj : j < l.length
        · have g1 := (S.rd 0 rfl (by omega)).cI hlj
          have h0 := hpl.out j
          have hs : Hid (ps ++ xs.take (j + 1) = (ps ++ xs.take j) ++ [((k:Int), nth l j)]) := by unfold Hid; rw [hst.out j hlj, List.append_assoc]
          generalize ps ++ xs.take j = ys at *
          generalize nth l j = x at *
          have t2 : (0:Int) ≤ j := by omega
          have t3 : (j:Int) < l.length := by omega
          have SH := Lib.hid S; clear S
          go_wp2_with (at_builtin; go_must (refine wpList_append_sep rfl _ _ _ rfl 44 i0 _ 2 16 Tryz.underlying39 hi0 hz0 hz1 hz2 rfl (by omega) (SH.out.junk _) 1 q ys.length c _ rfl rfl _ 1 1 _ rfl (Rd.one2 _ _ _ _) (one_encE _) (by omega) (by omega) ?_; intro q' c' w' S' hsz; have S5 := Lib.hid S'; clear S' hsz))
          go_roundw
          case rel => exact ⟨j + 1, q', c', by omega, by go_num, by rw [hs.out, List.length_append]; rfl, by rw [hs.out, List.length_append, encE_append]; exact S5.out⟩
          case measure => simp [intOf]; omega
        · obtain rfl : j = l.length := by omega
          rw [hend.out, ← hps.out] at S
          rw [hend.out, ← hps.out]
          have SH := Lib.hid S; clear S
          go_wp2
          go_roundw
          case rel => exact ⟨k + 1, q, c, by omega, by go_num, rfl, SH.out.pick [1, 2] (by decide) rfl⟩
          case measure => simp [intOf]; omega
    · have hend : pairsK O T k = pairs O T := by
        unfold pairs
        rw [show O.length - 1 = k by have := L1.out; omega]
      rw [hend] at S
      rw [hend]
      have t1 : decide ((k:Int) + 1 < no) = false := by simp; omega
      have SH := Lib.hid S; clear S
      clear hend
      go_wp2
      go_ret2
      exact ⟨q, c, rfl, SH.out.pick [0] (by decide) rfl⟩
theorem Edges04 (po : Option Addr) (no co : Nat) (O : List Int) (pt : Option Addr) (nt ct : Nat) (T : List Int) (pr : Option Addr) (nr cr : Nat) (R : List Int) (pv : Option Addr) (nv cv : Nat) (V : List Int) (w : World) (hO : Rd w 1 po no (encI O)) (hT : Rd w 1 pt nt (encI T)) (hR : Rd w 1 pr nr (encI R)) (hV : Rd w 1 pv nv (encI V)) (hct : nt ≤ ct) (hcv : nv ≤ cv) :
    Calls Tryz.prog 48 #[.agg #[.slice po no co, .slice pt nt ct, .slice pr nr cr, .slice pv nv cv]] w fun e w' => ∃ q c, e = .returned (.tuple #[.slice q (edgL (checkR O T R V) O T).length c, .int .i64 (edgC (checkR O T R V))]) ∧ Sep w w' [.own 44 2 q (edgL (checkR O T R V) O T).length c (encE (edgL (checkR O T R V) O T))] := by
  cases hck : checkR O T R V with
  | true => exact Edges04_yes po no co O pt nt ct T pr nr cr R pv nv cv V w hO hT hR hV hct hcv hck
  | false =>
    have S0 := Lib.hid ((Sep.start w).al #[.slice po no co, .slice pt nt ct, .slice pr nr cr, .slice pv nv cv] 24 w.heap.size rfl)
    have HC := Lib.hid (fun W1 (h : Ext w W1) => Check04 po no co O pt nt ct T pr nr cr R pv nv cv V W1 (hO.ext h) (hT.ext h) (hR.ext h) (hV.ext h) hct hcv)
    rw [hck] at HC
    clear hO hT hR hV hck
    show Calls _ _ _ _ fun e w' => ∃ q c, e = .returned (.tuple #[.slice q 0 c, .int .i64 40]) ∧ Sep w w' [.own 44 2 q 0 c []]
    go_enter Tryz.func48, Tryz.ntmps48
    go_wp2_with (go_at_call 65; go_must (refine (HC.out _ S0.out.ext).mono ?_; rintro e w1 ⟨rfl, hb⟩; have S1 := Lib.hid (S0.out.call hb); have az := (S1.out.blk 0 rfl).lt; have a0 := (S1.out.blk 0 rfl).cell 0; have a1 := (S1.out.blk 0 rfl).cell 1; have a2 := (S1.out.blk 0 rfl).cell 2; have a3 := (S1.out.blk 0 rfl).cell 3; clear hb))
    go_ret2
    exact ⟨none, 0, rfl, ((Sep.start w).call S1.out.ext).nilrow _ _⟩
end Go.Proofs.YtblghmfhchlllaaGreat
/- The reference's levels: edges in a direction, Levels. -/
namespace Go.Proofs.YtblghmfhchlllaaGreat
open Go Go.RowKit
def edgB (ck back : Bool) (O T : List Int) : List (Int × Int) := if ck = true then edgD back O T else []
theorem pairs_le {O T : List Int} (h : halfB O T = true) : (pairs O T).length ≤ 2000 := by
  obtain ⟨r1, r2, r3, r4, r5, r6⟩ := offB_parts (halfB_off h)
  unfold pairs
  rw [pairs_len (offOk_of (halfB_off h)) r4 _ (by omega), r5]; omega
theorem edgD_len {O T : List Int} (h : halfB O T = true) (back : Bool) : (edgD back O T).length ≤ 2000 := by
  cases back with
  | false => exact pairs_le h
  | true => show ((pairs O T).map swapE).length ≤ 2000; rw [List.length_map]; exact pairs_le h
set_option maxRecDepth 100000 in
set_option maxHeartbeats 4000000 in
theorem edges07 (po : Option Addr) (no co : Nat) (O : List Int) (pt : Option Addr) (nt ct : Nat) (T : List Int) (pr : Option Addr) (nr cr : Nat) (R : List Int) (pv : Option Addr) (nv cv : Nat) (V : List Int) (w : World) (back : Bool) (hO : Rd w 1 po no (encI O)) (hT : Rd w 1 pt nt (encI T)) (hR : Rd w 1 pr nr (encI R)) (hV : Rd w 1 pv nv (encI V)) (hct : nt ≤ ct) (hcv : nv ≤ cv) : Calls Tryz.prog 33 #[.agg #[.slice po no co, .slice pt nt ct, .slice pr nr cr, .slice pv nv cv], .bool back] w fun e w' => ∃ q c, e = .returned (.tuple #[.slice q (edgB (checkR O T R V) back O T).length c, .int .i64 (edgC (checkR O T R V))]) ∧ Sep w w' [.own 44 2 q (edgB (checkR O T R V) back O T).length c (encE (edgB (checkR O T R V) back O T))] := by
  obtain ⟨i0, hi0, hz0, hz1, hz2⟩ := info_parts inf34
  have S0 := Lib.hid ((Sep.start w).al #[.slice po no co, .slice pt nt ct, .slice pr nr cr, .slice pv nv cv] 24 w.heap.size rfl)
  have HE := Lib.hid (fun W1 (h : Ext w W1) => Edges04 po no co O pt nt ct T pr nr cr R pv nv cv V W1 (hO.ext h) (hT.ext h) (hR.ext h) (hV.ext h) hct hcv)
  clear hO hT hR hV
  cases hck : checkR O T R V with
  | false =>
    rw [hck] at HE
    show Calls _ _ _ _ fun e w' => ∃ q c, e = .returned (.tuple #[.slice q 0 c, .int .i64 40]) ∧ Sep w w' [.own 44 2 q 0 c []]
    have HE2 : Hid (∀ W1, Ext w W1 → Calls Tryz.prog 48 #[.agg #[.slice po no co, .slice pt nt ct, .slice pr nr cr, .slice pv nv cv]] W1 fun e w' => ∃ q c, e = .returned (.tuple #[.slice q 0 c, .int .i64 40]) ∧ Sep W1 w' [.own 44 2 q 0 c []]) := HE.out
    clear hck HE
    cases back <;>
    (go_enter Tryz.func33, Tryz.ntmps33
     go_wp2_with (go_at_call 48; go_must (refine (HE2.out _ S0.out.ext).mono ?_; rintro e w1 ⟨q, c, rfl, Z⟩; have S1 := Lib.hid (S0.out.comp Z); clear Z))
     go_ret2
     exact ⟨q, c, rfl, S1.out.pick [0] (by decide) rfl⟩)
  | true =>
    rw [hck] at HE
    have hl := pairs_le (checkR_half hck).2.2.1
    have HE2 : Hid (∀ W1, Ext w W1 → Calls Tryz.prog 48 #[.agg #[.slice po no co, .slice pt nt ct, .slice pr nr cr, .slice pv nv cv]] W1 fun e w' => ∃ q c, e = .returned (.tuple #[.slice q (pairs O T).length c, .int .i64 0]) ∧ Sep W1 w' [.own 44 2 q (pairs O T).length c (encE (pairs O T))]) := HE.out
    clear hck HE
    cases back with
    | false =>
      show Calls _ _ _ _ fun e w' => ∃ q c, e = .returned (.tuple #[.slice q (pairs O T).length c, .int .i64 0]) ∧ Sep w w' [.own 44 2 q (pairs O T).length c (encE (pairs O T))]
      generalize pairs O T = P at *
      go_enter Tryz.func33, Tryz.ntmps33
      go_wp2_with (go_at_call 48; go_must (refine (HE2.out _ S0.out.ext).mono ?_; rintro e w1 ⟨q, c, rfl, Z⟩; have S1 := Lib.hid (S0.out.comp Z); clear Z))
      go_ret2
      exact ⟨q, c, rfl, S1.out.pick [0] (by decide) rfl⟩
    | true =>
      show Calls _ _ _ _ fun e w' => ∃ q c, e = .returned (.tuple #[.slice q ((pairs O T).map swapE).length c, .int .i64 0]) ∧ Sep w w' [.own 44 2 q ((pairs O T).map swapE).length c (encE ((pairs O T).map swapE))]
      generalize pairs O T = P at *
      go_enter Tryz.func33, Tryz.ntmps33
      go_wp2_with (go_at_call 48; go_must (refine (HE2.out _ S0.out.ext).mono ?_; rintro e w1 ⟨q, c, rfl, Z⟩; have S1 := Lib.hid ((S0.out.comp Z).pick [0] (by decide) rfl); clear Z))
      go_loopw [8, 9] (fun out i wr => ∃ (k : Nat) (q2 : Option Addr) (c2 : Nat), k ≤ P.length ∧ i = .int .i64 k ∧ out = .slice q2 k c2 ∧ Sep w wr [.own 44 2 q2 k c2 (encE ((P.take k).map swapE)), .own 44 2 q P.length c (encE P)]) (fun _ i _ => P.length - (intOf i).toNat)
      case atStart => exact ⟨0, none, 0, Nat.zero_le _, rfl, rfl, S1.out.nilrow _ _⟩
      case round =>
        clear S0 S1
        obtain ⟨k, q2, c2, hk, rfl, rfl, S⟩ := hrel
        have pq := (S.rd 1 rfl (by omega)).ptr
        have pq2 := (S.rd 0 rfl (by omega)).ptr
        by_cases hlt : k < P.length
        · have e1 := (S.rd 1 rfl (by omega)).cE hlt
          have e2 := (S.rd 1 rfl (by omega)).cE2 hlt
          have d1 : (0:Int) ≤ k := by omega
          have d2 : (k:Int) < P.length := by omega
          have HT : Hid (encE ((P.take (k + 1)).map swapE) = encE ((P.take k).map swapE) ++ encE [swapE (nth P k)]) := by
            unfold Hid; rw [map_take_succ swapE P k hlt, encE_append]
          have SH := Lib.hid S; clear S
          go_wp2
          have xe1 := fun x : ExtOf wr => x.ext.cell e1
          have xe2 := fun x : ExtOf wr => x.ext.cell e2
          refine wp_region_mix [true, true, true, true, true, true, true, true, true, true, true, true, false] (fun _ v W => ∃ p, v = .slice p 1 1 ∧ Rd W 2 p 1 (encE [swapE (nth P k)])) (by kernel_rfl) (by kernel_rfl) (by kernel_rfl) (fun _ _ _ _ hE ⟨p, h1, h2⟩ => ⟨p, h1, h2.ext hE⟩) ?_
          simp only [nfM]
          repeat (go_big_quiet_step ((fail)))
          refine wpQuiet_nil ⟨⟨fun vs W1 hE hd => ?_, trivial⟩, fun vs W1 hE hkn => ?_⟩
          · simp [putM, execOp, go_sem]
            exact ⟨Rd.one2 _ _ _ _, Ext.alloc (Below.refl _ _) _⟩
          · obtain ⟨⟨p', hv, RA⟩, _⟩ := hkn
            have HRA := Lib.hid RA; clear RA
            have S1 := Lib.hid (SH.out.call hE)
            simp only [putM, hv, List.length_cons, List.length_nil, Nat.zero_add, Nat.reduceAdd, List.drop_succ_cons, List.drop_zero]
            clear xe1 xe2 hv
            go_wp2_with (at_builtin; go_must (refine wpList_append_sep rfl _ _ _ rfl 44 i0 _ 2 16 Tryz.underlying39 hi0 hz0 hz1 hz2 rfl (by omega) S1.out 0 q2 k c2 _ rfl rfl p' 1 1 _ rfl HRA.out (one_encE _) (by omega) (by omega) ?_; intro q' c' w' S' hsz; have S2 := Lib.hid S'; clear S'))
            go_roundw
            case rel => exact ⟨k + 1, q', c', by omega, by go_num, rfl, by rw [HT.out]; exact S2.out⟩
            case measure => simp [intOf]; omega
        · obtain rfl : k = P.length := by omega
          rw [List.take_length] at S
          have SH := Lib.hid S; clear S
          go_wp2
          go_ret2
          exact ⟨q2, c2, by rw [List.length_map]; rfl, by rw [List.length_map]; exact SH.out.pick [0] (by decide) rfl⟩
end Go.Proofs.YtblghmfhchlllaaGreat
/- The reference's Levels: levels are lowered edge by edge. -/
namespace Go.Proofs.YtblghmfhchlllaaGreat
open Go Go.RowKit
set_option maxRecDepth 100000 in
set_option maxHeartbeats 8000000 in
theorem Levels07_yes (po : Option Addr) (no co : Nat) (O : List Int) (pt : Option Addr) (nt ct : Nat) (T : List Int) (pr : Option Addr) (nr cr : Nat) (R : List Int) (pv : Option Addr) (nv cv : Nat) (V : List Int) (w : World) (n s : Nat) (back : Bool) (hO : Rd w 1 po no (encI O)) (hT : Rd w 1 pt nt (encI T)) (hR : Rd w 1 pr nr (encI R)) (hV : Rd w 1 pv nv (encI V)) (hct : nt ≤ ct) (hcv : nv ≤ cv) (hck : checkR O T R V = true) (hno : O.length = n + 1) (hs : s < n) :
    Calls Tryz.prog 13 #[.agg #[.slice po no co, .slice pt nt ct, .slice pr nr cr, .slice pv nv cv], .int .i64 s, .bool back] w fun e w' => ∃ q c, e = .returned (.tuple #[.slice q n c, .int .i64 0]) ∧ Sep w w' [.own 3 1 q n c (encI ((List.range n).map fun v => lev (nxR back O T R V) n s v))] := by
  obtain ⟨i0, hi0, hz0, hz1, hz2⟩ := info_parts infI
  have S0 := Lib.hid ((Sep.start w).al #[.slice po no co, .slice pt nt ct, .slice pr nr cr, .slice pv nv cv] 24 w.heap.size rfl)
  have HE := Lib.hid (fun W1 (h : Ext w W1) => edges07 po no co O pt nt ct T pr nr cr R pv nv cv V W1 back (hO.ext h) (hT.ext h) (hR.ext h) (hV.ext h) hct hcv)
  rw [hck] at HE
  have HE2 : Hid (∀ W1, Ext w W1 → Calls Tryz.prog 33 #[.agg #[.slice po no co, .slice pt nt ct, .slice pr nr cr, .slice pv nv cv], .bool back] W1 fun e w' => ∃ q c, e = .returned (.tuple #[.slice q (edgD back O T).length c, .int .i64 0]) ∧ Sep W1 w' [.own 44 2 q (edgD back O T).length c (encE (edgD back O T))]) := HE.out
  have h1 := (checkR_half hck).2.2.1
  have r := offB_parts (halfB_off h1)
  have hn : n ≤ 200 := by omega
  have l1 := hO.nI
  obtain rfl : no = n + 1 := by omega
  have hbd := edgD_bd h1 back
  have hmem := edgD_mem hck back
  have hml := edgD_len h1 back
  rw [hno, Nat.add_sub_cancel] at hbd hmem
  have HFIN : Hid (bfN (edgD back O T) (bf0 n s) n = (List.range n).map fun v => lev (nxR back O T R V) n s v) := bfN_lev hs hbd hmem (bf0_low hs) (by rw [bf0_nth hs s hs, if_pos rfl])
  have HBD := Lib.hid hbd
  generalize edgD back O T = l at *
  clear hO hT hR hV hck hno h1 r l1 hbd hmem HE
  have d1 : decide ((s:Int) < 0) = false := by simp
  have d2 : decide ((n:Int) ≤ s) = false := by simp; omega
  have d3 : decide (n ≤ s) = false := by simp; omega
  go_enter Tryz.func13, Tryz.ntmps13
  go_wp2_with (first
    | (at_make; go_must (refine wpList_make_sep rfl _ _ _ rfl 3 i0 _ 1 Tryz.underlying22 hi0 hz0 hz1 (n:Int) n rfl rfl rfl (by rw [hz2]; omega) (by unfold maxLen; omega) S1.out ?_; intro w2 S'; rw [made_encI] at S'; have S2 := Lib.hid S'; clear S'))
    | (go_at_call 33; go_must (refine (HE2.out _ S0.out.ext).mono ?_; rintro e w1 ⟨q1, c1, rfl, Z⟩; have S1 := Lib.hid (S0.out.comp Z); have az := (S1.out.blk 1 rfl).lt; have a0 := (S1.out.blk 1 rfl).cell 0; have a1 := (S1.out.blk 1 rfl).cell 1; have a2 := (S1.out.blk 1 rfl).cell 2; have a3 := (S1.out.blk 1 rfl).cell 3; clear Z)))
  generalize hql : (some ⟨w1.heap.size, 0, none⟩ : Option Addr) = qo at *
  clear hql S1 S0 a0 a1 a2 a3 az
  go_loopw [12] (fun v wr => ∃ k : Nat, k ≤ n ∧ v = .int .i64 k ∧ Sep w wr [.own 3 1 qo n n (encI (List.replicate k (-1) ++ List.replicate (n - k) 0)), .own 44 2 q1 l.length c1 (encE l), .blk w.heap.size 24 #[.slice po (n + 1) co, .slice pt nt ct, .slice pr nr cr, .slice pv nv cv]]) (fun v _ => n - (intOf v).toNat)
  case atStart => exact ⟨0, Nat.zero_le _, rfl, S2.out⟩
  case round =>
    clear S2
    obtain ⟨k, hk, rfl, S⟩ := hrel
    have pz := (S.rd 0 rfl (by omega)).ptr
    have fz := own_frozen (S.own 0 rfl) (by omega) k
    by_cases hlt : k < n
    · have HS := Lib.hid (rep_set hlt)
      have c1 := own_cell (S.own 0 rfl) (k := k) (by omega)
      have d1 : (0:Int) ≤ k := by omega
      have d2 : (k:Int) < n := by omega
      have SH := Lib.hid S; clear S
      go_wp2
      go_roundw
      case rel => exact ⟨k + 1, by omega, by go_num, by rw [← HS.out, ← encI_set]; exact SH.out.setRow 0 rfl k (by omega) (.int .i64 (-1))⟩
      case measure => simp [intOf]; omega
    · obtain rfl : n = k := by omega
      rw [Nat.sub_self, List.replicate_zero, List.append_nil] at S
      have fz2 := own_frozen (S.own 0 rfl) (by omega) s
      have c2 := own_cell (S.own 0 rfl) (k := s) (by omega)
      have d4 : (0:Int) ≤ s := by omega
      have d5 : (s:Int) < n := by omega
      have SH := Lib.hid S; clear S
      clear fz
      go_wp2
      go_loopw [13, 14, 15, 16] (fun v _ _ _ wr => ∃ t : Nat, t ≤ n ∧ v = .int .i64 t ∧ Sep w wr [.own 3 1 qo n n (encI (bfN l (bf0 n s) t)), .own 44 2 q1 l.length c1 (encE l), .blk w.heap.size 24 #[.slice po (n + 1) co, .slice pt nt ct, .slice pr nr cr, .slice pv nv cv]]) (fun v _ _ _ _ => n - (intOf v).toNat)
      case atStart => exact ⟨0, Nat.zero_le _, rfl, by show Sep _ _ (.own _ _ _ _ _ (encI (bf0 n s)) :: _); unfold bf0; rw [← encI_set]; exact SH.out.setRow 0 rfl s (by omega) (.int .i64 0)⟩
      case round =>
        clear SH fz2 c2 hlt
        obtain ⟨t, ht, rfl, S⟩ := hrel
        by_cases hlt : t < n
        · have d6 : (0:Int) ≤ t := by omega
          have d7 : (t:Int) < n := by omega
          have SH := Lib.hid S; clear S
          go_wp2
          go_loopw [14, 15, 16] (fun i _ _ wr => ∃ j : Nat, j ≤ l.length ∧ i = .int .i64 j ∧ Sep w wr [.own 3 1 qo n n (encI (bfR (l.take j) (bfN l (bf0 n s) t))), .own 44 2 q1 l.length c1 (encE l), .blk w.heap.size 24 #[.slice po (n + 1) co, .slice pt nt ct, .slice pr nr cr, .slice pv nv cv]]) (fun i _ _ _ => l.length - (intOf i).toNat)
          case atStart => exact ⟨0, Nat.zero_le _, rfl, SH.out⟩
          case round =>
            clear SH
            obtain ⟨j, hj, rfl, S⟩ := hrel
            have pz := (S.rd 0 rfl (by omega)).ptr
            have pe := (S.rd 1 rfl (by omega)).ptr
            by_cases hlj : j < l.length
            · have hs1 := Lib.hid (bfR_take (X := bfN l (bf0 n s) t) hlj)
              have hb : ∀ v, -1 ≤ nth (bfR (l.take j) (bfN l (bf0 n s) t)) v ∧ nth (bfR (l.take j) (bfN l (bf0 n s) t)) v ≤ 1000000 := fun v => by
                have g1 := bfR_bd (l := l) j (bfN l (bf0 n s) t) (Int.natCast_nonneg (t * l.length)) (bfN_bd t) v
                have g2 : t * l.length ≤ 200 * 2000 := Nat.mul_le_mul (by omega) (by omega)
                omega
              generalize bfR (l.take j) (bfN l (bf0 n s) t) = X at *
              have e1 := (S.rd 1 rfl (by omega)).cE hlj
              have e2 := (S.rd 1 rfl (by omega)).cE2 hlj
              obtain ⟨b1, b2, b3, b4⟩ := HBD.out _ (nth_mem hlj)
              obtain ⟨a, ha⟩ : ∃ a : Nat, (nth l j).1 = (a : Int) := ⟨(nth l j).1.toNat, by omega⟩
              obtain ⟨b, hb'⟩ : ∃ b : Nat, (nth l j).2 = (b : Int) := ⟨(nth l j).2.toNat, by omega⟩
              rw [ha] at b1 b2 e1
              rw [hb'] at b3 b4 e2
              have hs2 : Hid (bfR (l.take (j + 1)) (bfN l (bf0 n s) t) = if 0 ≤ nth X a ∧ (nth X b < 0 ∨ nth X a + 1 < nth X b) then X.set b (nth X a + 1) else X) := by
                unfold Hid; rw [hs1.out]; unfold bf1; rw [ha, hb', Int.toNat_natCast, Int.toNat_natCast]
              clear ha hb' hs1
              have fa := own_frozen (S.own 0 rfl) (by omega) b
              have ca := (S.rd 0 rfl (by omega)).cI (k := a) (by omega)
              have cb := (S.rd 0 rfl (by omega)).cI (k := b) (by omega)
              have ba := hb a
              have bb := hb b
              clear hb
              have d8 : (0:Int) ≤ j := by omega
              have d9 : (j:Int) < l.length := by omega
              have dA : (a:Int) < n := b2
              have dB : (b:Int) < n := b4
              generalize nth X a = x at *
              generalize nth X b = y at *
              by_cases k1 : 0 ≤ x
              · have f1 : decide (0 ≤ x) = true := by simpa using k1
                by_cases k2 : y < 0
                · have f2 : decide (y < 0) = true := by simpa using k2
                  rw [if_pos ⟨k1, .inl k2⟩] at hs2
                  have SH := Lib.hid S; clear S
                  go_wp2
                  go_roundw
                  case rel => exact ⟨j + 1, by omega, by go_num, by rw [hs2.out, ← encI_set]; exact SH.out.setRow 0 rfl b (by omega) (.int .i64 (x + 1))⟩
                  case measure => simp [intOf]; omega
                · have f2 : decide (y < 0) = false := by simpa using k2
                  by_cases k3 : x + 1 < y
                  · have f3 : decide (x + 1 < y) = true := by simpa using k3
                    rw [if_pos ⟨k1, .inr k3⟩] at hs2
                    have SH := Lib.hid S; clear S
                    go_wp2
                    go_roundw
                    case rel => exact ⟨j + 1, by omega, by go_num, by rw [hs2.out, ← encI_set]; exact SH.out.setRow 0 rfl b (by omega) (.int .i64 (x + 1))⟩
                    case measure => simp [intOf]; omega
                  · have f3 : decide (x + 1 < y) = false := by simpa using k3
                    rw [if_neg (by omega)] at hs2
                    have SH := Lib.hid S; clear S
                    go_wp2
                    go_roundw
                    case rel => exact ⟨j + 1, by omega, by go_num, by rw [hs2.out]; exact SH.out⟩
                    case measure => simp [intOf]; omega
              · have f1 : decide (0 ≤ x) = false := by simpa using k1
                rw [if_neg (by omega)] at hs2
                have SH := Lib.hid S; clear S
                go_wp2
                go_roundw
                case rel => exact ⟨j + 1, by omega, by go_num, by rw [hs2.out]; exact SH.out⟩
                case measure => simp [intOf]; omega
            · obtain rfl : j = l.length := by omega
              rw [List.take_length] at S
              have SH := Lib.hid S; clear S
              go_wp2
              go_roundw
              case rel => exact ⟨t + 1, by omega, by go_num, SH.out⟩
              case measure => simp [intOf]; omega
        · obtain rfl : n = t := by omega
          rw [HFIN.out] at S
          have SH := Lib.hid S; clear S
          go_wp2
          go_ret2
          exact ⟨qo, _, rfl, SH.out.pick [0] (by decide) rfl⟩
end Go.Proofs.YtblghmfhchlllaaGreat
/- The reference's Levels, whatever is asked. -/
namespace Go.Proofs.YtblghmfhchlllaaGreat
open Go Go.RowKit
set_option maxRecDepth 100000 in
set_option maxHeartbeats 4000000 in
theorem Levels07_no (po : Option Addr) (no co : Nat) (O : List Int) (pt : Option Addr) (nt ct : Nat) (T : List Int) (pr : Option Addr) (nr cr : Nat) (R : List Int) (pv : Option Addr) (nv cv : Nat) (V : List Int) (w : World) (s : Int) (back : Bool) (hO : Rd w 1 po no (encI O)) (hT : Rd w 1 pt nt (encI T)) (hR : Rd w 1 pr nr (encI R)) (hV : Rd w 1 pv nv (encI V)) (hct : nt ≤ ct) (hcv : nv ≤ cv) (hc : levC (checkR O T R V) O s ≠ 0) :
    Calls Tryz.prog 13 #[.agg #[.slice po no co, .slice pt nt ct, .slice pr nr cr, .slice pv nv cv], .int .i64 s, .bool back] w fun e w' => e = .returned (.tuple #[.slice none 0 0, .int .i64 (levC (checkR O T R V) O s)]) ∧ Ext w w' := by
  have S0 := Lib.hid ((Sep.start w).al #[.slice po no co, .slice pt nt ct, .slice pr nr cr, .slice pv nv cv] 24 w.heap.size rfl)
  have HE := Lib.hid (fun W1 (h : Ext w W1) => edges07 po no co O pt nt ct T pr nr cr R pv nv cv V W1 back (hO.ext h) (hT.ext h) (hR.ext h) (hV.ext h) hct hcv)
  have l1 := hO.nI
  have n1 := hO.small
  clear hO hT hR hV
  unfold levC at *
  cases hck : checkR O T R V with
  | false =>
    rw [hck] at HE
    rw [if_neg (by simp)]
    have HE2 : Hid (∀ W1, Ext w W1 → Calls Tryz.prog 33 #[.agg #[.slice po no co, .slice pt nt ct, .slice pr nr cr, .slice pv nv cv], .bool back] W1 fun e w' => ∃ q c, e = .returned (.tuple #[.slice q 0 c, .int .i64 40]) ∧ Sep W1 w' [.own 44 2 q 0 c []]) := HE.out
    clear HE hck hc l1
    have HE := HE2
    clear HE2
    go_enter Tryz.func13, Tryz.ntmps13
    go_wp2_with (go_at_call 33; go_must (refine (HE.out _ S0.out.ext).mono ?_; rintro e w1 ⟨q1, c1, rfl, Z⟩; have S1 := Lib.hid (S0.out.comp Z); have az := (S1.out.blk 1 rfl).lt; have a0 := (S1.out.blk 1 rfl).cell 0; have a1 := (S1.out.blk 1 rfl).cell 1; have a2 := (S1.out.blk 1 rfl).cell 2; have a3 := (S1.out.blk 1 rfl).cell 3; clear Z))
    go_ret2
    exact ⟨rfl, S1.out.ext⟩
  | true =>
    rw [hck, if_pos rfl] at hc
    rw [hck] at HE
    rw [if_pos rfl]
    have hno : ¬ (0 ≤ s ∧ s < (O.length : Int) - 1) := fun h => by rw [if_pos h] at hc; exact hc rfl
    rw [if_neg hno]
    have HE2 : Hid (∀ W1, Ext w W1 → Calls Tryz.prog 33 #[.agg #[.slice po no co, .slice pt nt ct, .slice pr nr cr, .slice pv nv cv], .bool back] W1 fun e w' => ∃ q c, e = .returned (.tuple #[.slice q (edgD back O T).length c, .int .i64 0]) ∧ Sep W1 w' [.own 44 2 q (edgD back O T).length c (encE (edgD back O T))]) := HE.out
    clear HE hck hc
    have HE := HE2
    clear HE2
    generalize edgD back O T = l at *
    by_cases h1 : s < 0
    · have d1 : decide (s < 0) = true := by simpa using h1
      clear hno l1
      go_enter Tryz.func13, Tryz.ntmps13
      go_wp2_with (go_at_call 33; go_must (refine (HE.out _ S0.out.ext).mono ?_; rintro e w1 ⟨q1, c1, rfl, Z⟩; have S1 := Lib.hid (S0.out.comp Z); have az := (S1.out.blk 1 rfl).lt; have a0 := (S1.out.blk 1 rfl).cell 0; have a1 := (S1.out.blk 1 rfl).cell 1; have a2 := (S1.out.blk 1 rfl).cell 2; have a3 := (S1.out.blk 1 rfl).cell 3; clear Z))
      go_ret2
      exact ⟨rfl, S1.out.ext⟩
    · have d1 : decide (s < 0) = false := by simpa using h1
      have d2 : decide ((no:Int) - 1 ≤ s) = true := by simp; omega
      clear hno l1
      go_enter Tryz.func13, Tryz.ntmps13
      go_wp2_with (go_at_call 33; go_must (refine (HE.out _ S0.out.ext).mono ?_; rintro e w1 ⟨q1, c1, rfl, Z⟩; have S1 := Lib.hid (S0.out.comp Z); have az := (S1.out.blk 1 rfl).lt; have a0 := (S1.out.blk 1 rfl).cell 0; have a1 := (S1.out.blk 1 rfl).cell 1; have a2 := (S1.out.blk 1 rfl).cell 2; have a3 := (S1.out.blk 1 rfl).cell 3; clear Z))
      go_ret2
      exact ⟨rfl, S1.out.ext⟩
/-- whatever is asked -/
theorem Levels07 (po : Option Addr) (no co : Nat) (O : List Int) (pt : Option Addr) (nt ct : Nat) (T : List Int) (pr : Option Addr) (nr cr : Nat) (R : List Int) (pv : Option Addr) (nv cv : Nat) (V : List Int) (w : World) (s : Int) (back : Bool) (hO : Rd w 1 po no (encI O)) (hT : Rd w 1 pt nt (encI T)) (hR : Rd w 1 pr nr (encI R)) (hV : Rd w 1 pv nv (encI V)) (hct : nt ≤ ct) (hcv : nv ≤ cv) :
    Calls Tryz.prog 13 #[.agg #[.slice po no co, .slice pt nt ct, .slice pr nr cr, .slice pv nv cv], .int .i64 s, .bool back] w fun e w' => ∃ q c, e = .returned (.tuple #[.slice q (levR (checkR O T R V) back O T R V s).length c, .int .i64 (levC (checkR O T R V) O s)]) ∧ Sep w w' [.own 3 1 q (levR (checkR O T R V) back O T R V s).length c (encI (levR (checkR O T R V) back O T R V s))] := by
  by_cases hc : levC (checkR O T R V) O s = 0
  · have hck : checkR O T R V = true := by
      apply Classical.byContradiction; intro h
      unfold levC at hc; rw [if_neg h] at hc; omega
    have hs : 0 ≤ s ∧ s < (O.length : Int) - 1 := by
      apply Classical.byContradiction; intro h
      unfold levC at hc; rw [if_pos hck, if_neg h] at hc; omega
    obtain ⟨n, hn⟩ : ∃ n, O.length = n + 1 := ⟨O.length - 1, by omega⟩
    obtain ⟨a, rfl⟩ : ∃ a : Nat, s = (a : Int) := ⟨s.toNat, by omega⟩
    have e : levR (checkR O T R V) back O T R V a = (List.range n).map fun v => lev (nxR back O T R V) n a v := by
      unfold levR; rw [if_pos hc, hn]; rfl
    rw [hc, e]
    refine (Levels07_yes po no co O pt nt ct T pr nr cr R pv nv cv V w n a back hO hT hR hV hct hcv hck hn (by omega)).mono ?_
    rintro e w' ⟨q, c, rfl, S⟩
    have hl : ((List.range n).map fun v => lev (nxR back O T R V) n a v).length = n := by simp
    refine ⟨q, c, by rw [hl], by rw [hl]; exact S⟩
  · have e : levR (checkR O T R V) back O T R V s = [] := by unfold levR; rw [if_neg hc]
    rw [e]
    refine (Levels07_no po no co O pt nt ct T pr nr cr R pv nv cv V w s back hO hT hR hV hct hcv hc).mono ?_
    rintro e w' ⟨rfl, h⟩
    exact ⟨none, 0, rfl, ((Sep.start w).call h).nilrow _ _⟩
end Go.Proofs.YtblghmfhchlllaaGreat
/- The reference's levels (chapter 7): Ball, Reach. -/
namespace Go.Proofs.YtblghmfhchlllaaGreat
open Go Go.RowKit
/-- the places of the first k whose numbers are 0 to rad -/
def ballT (A : List Int) (rad : Int) (k : Nat) : List Int := ((List.range k).filter fun v => decide (0 ≤ nth A v) && decide (nth A v ≤ rad)).map fun v : Nat => (v : Int)
theorem ballT_step (A : List Int) (rad : Int) (k : Nat) : ballT A rad (k + 1) = ballT A rad k ++ (if (decide (0 ≤ nth A k) && decide (nth A k ≤ rad)) = true then [(k : Int)] else []) := by
  unfold ballT
  rw [List.range_succ, List.filter_append, List.map_append]
  congr 1
  cases h : (decide (0 ≤ nth A k) && decide (nth A k ≤ rad)) <;> simp [h]
theorem ballT_len (A : List Int) (rad : Int) (k : Nat) : (ballT A rad k).length ≤ k := by
  unfold ballT
  rw [List.length_map]
  exact Nat.le_trans (List.length_filter_le _ _) (by simp)
def ballC (ck : Bool) (O : List Int) (s rad : Int) : Int := if levC ck O s = 0 then (if rad < 0 then 1 else 0) else levC ck O s
def ballV (ck back : Bool) (O T R V : List Int) (s rad : Int) : List Int := if ballC ck O s rad = 0 then ballT (levR ck back O T R V s) rad (levR ck back O T R V s).length else []
theorem levR_len {ck back : Bool} {O T R V : List Int} {s : Int} (h : levC ck O s = 0) : (levR ck back O T R V s).length = O.length - 1 := by unfold levR; rw [if_pos h]; simp
set_option maxRecDepth 100000 in
set_option maxHeartbeats 4000000 in
theorem Ball07 (po : Option Addr) (no co : Nat) (O : List Int) (pt : Option Addr) (nt ct : Nat) (T : List Int) (pr : Option Addr) (nr cr : Nat) (R : List Int) (pv : Option Addr) (nv cv : Nat) (V : List Int) (s rad : Int) (back : Bool) (w : World) (hO : Rd w 1 po no (encI O)) (hT : Rd w 1 pt nt (encI T)) (hR : Rd w 1 pr nr (encI R)) (hV : Rd w 1 pv nv (encI V)) (hct : nt ≤ ct) (hcv : nv ≤ cv) :
    Calls Tryz.prog 19 #[.agg #[.slice po no co, .slice pt nt ct, .slice pr nr cr, .slice pv nv cv], .int .i64 s, .int .i64 rad, .bool back] w fun e w' => ∃ q c, e = .returned (.tuple #[.slice q (ballV (checkR O T R V) back O T R V s rad).length c, .int .i64 (ballC (checkR O T R V) O s rad)]) ∧ Sep w w' [.own 3 1 q (ballV (checkR O T R V) back O T R V s rad).length c (encI (ballV (checkR O T R V) back O T R V s rad))] := by
  obtain ⟨i0, hi0, hz0, hz1, hz2⟩ := info_parts infI
  have S0 := Lib.hid ((Sep.start w).al #[.slice po no co, .slice pt nt ct, .slice pr nr cr, .slice pv nv cv] 24 w.heap.size rfl)
  have HL := Lib.hid (fun W1 (h : Ext w W1) => Levels07 po no co O pt nt ct T pr nr cr R pv nv cv V W1 s back (hO.ext h) (hT.ext h) (hR.ext h) (hV.ext h) hct hcv)
  have hA : levC (checkR O T R V) O s = 0 → (levR (checkR O T R V) back O T R V s).length ≤ 200 := fun h => by
    rw [levR_len h]
    have hck : checkR O T R V = true := by
      apply Classical.byContradiction; intro h2
      unfold levC at h; rw [if_neg h2] at h; omega
    have r := offB_parts (halfB_off (checkR_half hck).2.2.1)
    omega
  unfold ballV ballC
  generalize levC (checkR O T R V) O s = lc at *
  generalize levR (checkR O T R V) back O T R V s = A at *
  clear hO hT hR hV hct hcv
  by_cases h0 : lc = 0
  · have hA' := hA h0
    rw [if_pos h0]
    subst h0
    clear hA
    by_cases h1 : rad < 0
    · rw [if_pos h1, if_neg (by omega)]
      have d1 : decide (rad < 0) = true := by simpa using h1
      clear h1
      go_enter Tryz.func19, Tryz.ntmps19
      go_wp2_with (go_at_call 13; go_must (refine (HL.out _ S0.out.ext).mono ?_; rintro e w1 ⟨q1, c1, rfl, Z⟩; have S1 := Lib.hid (S0.out.comp Z); clear Z))
      go_ret2
      exact ⟨none, 0, rfl, ((Sep.start w).call S1.out.ext).nilrow _ _⟩
    · rw [if_neg h1, if_pos rfl]
      have d1 : decide (rad < 0) = false := by simpa using h1
      clear h1
      go_enter Tryz.func19, Tryz.ntmps19
      go_wp2_with (go_at_call 13; go_must (refine (HL.out _ S0.out.ext).mono ?_; rintro e w1 ⟨q1, c1, rfl, Z⟩; have S1 := Lib.hid (S0.out.comp Z); clear Z))
      go_loopw [12, 13] (fun v12 v13 wr => ∃ (k : Nat) (q2 : Option Addr) (c2 : Nat), k ≤ A.length ∧ v13 = .int .i64 k ∧ v12 = .slice q2 (ballT A rad k).length c2 ∧ Sep w wr [.own 3 1 q2 (ballT A rad k).length c2 (encI (ballT A rad k)), .own 3 1 q1 A.length c1 (encI A), .blk w.heap.size 24 #[.slice po no co, .slice pt nt ct, .slice pr nr cr, .slice pv nv cv]]) (fun _ v13 _ => A.length - (intOf v13).toNat)
      case atStart => exact ⟨0, none, 0, Nat.zero_le _, rfl, rfl, S1.out.nilrow _ _⟩
      case round =>
        clear S0 S1
        obtain ⟨k, q2, c2, hk, rfl, rfl, S⟩ := hrel
        have p1 := (S.rdx 1 rfl).ptr
        have p2 := (S.rdx 0 rfl).ptr
        by_cases hlt : k < A.length
        · have g1 := (S.rdx 1 rfl).cI hlt
          have d2 : (0:Int) ≤ k := by omega
          have d3 : (k:Int) < A.length := by omega
          have hst := ballT_step A rad k
          have hbl := ballT_len A rad k
          obtain ⟨x, hx⟩ : ∃ x, x = nth A k := ⟨_, rfl⟩
          rw [← hx] at g1 hst
          generalize ballT A rad k = l at *
          clear hx
          cases h1 : decide (0 ≤ x) with
          | false =>
            rw [h1, Bool.false_and, if_neg (by simp), List.append_nil] at hst
            have HS := Lib.hid hst
            have SH := Lib.hid S; clear S
            clear hst
            go_wp2
            go_roundw
            case rel => exact ⟨k + 1, q2, c2, by omega, by go_num, by rw [HS.out], by rw [HS.out]; exact SH.out⟩
            case measure => simp [intOf]; omega
          | true =>
            cases h2 : decide (x ≤ rad) with
            | false =>
              rw [h1, h2, Bool.true_and, if_neg (by simp), List.append_nil] at hst
              have HS := Lib.hid hst
              have SH := Lib.hid S; clear S
              clear hst
              go_wp2
              go_roundw
              case rel => exact ⟨k + 1, q2, c2, by omega, by go_num, by rw [HS.out], by rw [HS.out]; exact SH.out⟩
              case measure => simp [intOf]; omega
            | true =>
              rw [h1, h2, Bool.true_and, if_pos rfl] at hst
              have HS := Lib.hid hst
              have SH := Lib.hid S; clear S
              clear hst
              go_wp2_with (at_builtin; go_must (refine wpList_append_sep rfl _ _ _ rfl 3 i0 _ 1 8 Tryz.underlying22 hi0 hz0 hz1 hz2 rfl (by omega) (SH.out.junk _) 0 q2 l.length c2 _ rfl rfl _ 1 1 _ rfl (Rd.oneI _ _ _) (one_encI _) (by omega) (by omega) ?_; intro q' c' w7 S' hsz; have S6 := Lib.hid S'; clear S' hsz))
              go_roundw
              case rel => exact ⟨k + 1, q', c', by omega, by go_num, by rw [HS.out, List.length_append]; rfl, by rw [HS.out, List.length_append, encI_append]; exact S6.out⟩
              case measure => simp [intOf]; omega
        · obtain rfl : k = A.length := by omega
          have SH := Lib.hid S; clear S
          go_wp2
          go_ret2
          exact ⟨q2, c2, rfl, SH.out.pick [0] (by decide) rfl⟩
  · rw [if_neg h0, if_neg h0]
    have hc0 : (lc != 0) = true := by simpa using h0
    clear h0 hA
    go_enter Tryz.func19, Tryz.ntmps19
    go_wp2_with (go_at_call 13; go_must (refine (HL.out _ S0.out.ext).mono ?_; rintro e w1 ⟨q1, c1, rfl, Z⟩; have S1 := Lib.hid (S0.out.comp Z); clear Z))
    go_ret2
    exact ⟨none, 0, rfl, ((Sep.start w).call S1.out.ext).nilrow _ _⟩
set_option maxRecDepth 100000 in
theorem Reach07 (po : Option Addr) (no co : Nat) (O : List Int) (pt : Option Addr) (nt ct : Nat) (T : List Int) (pr : Option Addr) (nr cr : Nat) (R : List Int) (pv : Option Addr) (nv cv : Nat) (V : List Int) (s : Int) (back : Bool) (w : World) (hO : Rd w 1 po no (encI O)) (hT : Rd w 1 pt nt (encI T)) (hR : Rd w 1 pr nr (encI R)) (hV : Rd w 1 pv nv (encI V)) (hct : nt ≤ ct) (hcv : nv ≤ cv) :
    Calls Tryz.prog 15 #[.agg #[.slice po no co, .slice pt nt ct, .slice pr nr cr, .slice pv nv cv], .int .i64 s, .bool back] w fun e w' => ∃ q c, e = .returned (.tuple #[.slice q (ballV (checkR O T R V) back O T R V s 200).length c, .int .i64 (ballC (checkR O T R V) O s 200)]) ∧ Sep w w' [.own 3 1 q (ballV (checkR O T R V) back O T R V s 200).length c (encI (ballV (checkR O T R V) back O T R V s 200))] := by
  have S0 := Lib.hid ((Sep.start w).al #[.slice po no co, .slice pt nt ct, .slice pr nr cr, .slice pv nv cv] 24 w.heap.size rfl)
  have HB := Lib.hid (fun W1 (h : Ext w W1) => Ball07 po no co O pt nt ct T pr nr cr R pv nv cv V s 200 back W1 (hO.ext h) (hT.ext h) (hR.ext h) (hV.ext h) hct hcv)
  generalize ballV (checkR O T R V) back O T R V s 200 = L at *
  generalize ballC (checkR O T R V) O s 200 = cc at *
  clear hO hT hR hV hct hcv
  go_enter Tryz.func15, Tryz.ntmps15
  go_wp2_with (go_at_call 19; go_must (refine (HB.out _ S0.out.ext).mono ?_; rintro e w1 ⟨q, c, rfl, Z⟩; have S1 := Lib.hid (S0.out.comp Z); clear Z))
  go_ret2
  exact ⟨q, c, rfl, S1.out.pick [0] (by decide) rfl⟩
end Go.Proofs.YtblghmfhchlllaaGreat
/- A ball's places: the fronts up to a radius, sorted. -/
namespace Go.Proofs.YtblghmfhchlllaaGreat
open Go Go.RowKit
/-- what has been gone through -/
def ballP {nx : Nat → List Int} {n s : Nat} (xs : List (YlOf nx n s)) : List Int := xs.flatMap fun x => x.1.F
theorem ballP_snoc {nx : Nat → List Int} {n s : Nat} (xs : List (YlOf nx n s)) (x : YlOf nx n s) : ballP (xs ++ [x]) = ballP xs ++ x.1.F := by simp [ballP]
theorem ballP_mem {nx : Nat → List Int} {n s : Nat} {xs : List (YlOf nx n s)} {v : Int} : v ∈ ballP xs ↔ 0 ≤ v ∧ v < n ∧ ∃ x ∈ xs, lev nx n s v.toNat = x.1.k := by
  unfold ballP
  rw [List.mem_flatMap]
  constructor
  · rintro ⟨x, hx, hv⟩
    have := (x.2.1.2 v).1 hv
    exact ⟨this.1, this.2.1, x, hx, this.2.2⟩
  · rintro ⟨h1, h2, x, hx, h3⟩
    exact ⟨x, hx, (x.2.1.2 v).2 ⟨h1, h2, h3⟩⟩
theorem ballP_nodup {nx : Nat → List Int} {n s : Nat} {xs : List (YlOf nx n s)} (h : (xs.map (·.1.k)).Nodup) : (ballP xs).Nodup := by
  induction xs with
  | nil => exact List.nodup_nil
  | cons x xs ih =>
    rw [List.map_cons, List.nodup_cons] at h
    show (x.1.F ++ ballP xs).Nodup
    rw [List.nodup_append]
    refine ⟨x.2.1.1, ih h.2, fun a ha b hb e => ?_⟩
    subst e
    have h1 := (x.2.1.2 a).1 ha
    obtain ⟨_, _, y, hy, h2⟩ := ballP_mem.1 hb
    exact h.1 (List.mem_map.2 ⟨y, hy, by have := h1.2.2; omega⟩)
theorem ballT_rises (A : List Int) (rad : Int) (k : Nat) : Rises ltI (ballT A rad k) := by
  unfold ballT
  have h : (List.range k).Pairwise (· < ·) := List.pairwise_lt_range
  refine List.Pairwise.map _ ?_ (h.filter _)
  intro a b hab
  simp only [ltI, decide_eq_true_eq]; omega
theorem ballT_mem {A : List Int} {rad : Int} {k : Nat} {v : Int} : v ∈ ballT A rad k ↔ 0 ≤ v ∧ v < k ∧ 0 ≤ nth A v.toNat ∧ nth A v.toNat ≤ rad := by
  unfold ballT
  rw [List.mem_map]
  constructor
  · rintro ⟨u, hu, rfl⟩
    rw [List.mem_filter, List.mem_range, Bool.and_eq_true, decide_eq_true_eq, decide_eq_true_eq] at hu
    exact ⟨by omega, by omega, by simpa using hu.2.1, by simpa using hu.2.2⟩
  · rintro ⟨h1, h2, h3, h4⟩
    refine ⟨v.toNat, ?_, by omega⟩
    rw [List.mem_filter, List.mem_range, Bool.and_eq_true, decide_eq_true_eq, decide_eq_true_eq]
    exact ⟨by omega, h3, h4⟩
/-- the fronts of levels 0 to m - 1, sorted, are the ball, where no level that is left out is within -/
theorem ball_sort {nx : Nat → List Int} {n s m : Nat} {rad : Int} {xs : List (YlOf nx n s)} (_ : s < n) (hk : xs.map (·.1.k) = List.range m) (h1 : ∀ x ∈ xs, (x.1.k : Int) ≤ rad) (h2 : ∀ v, v < n → 0 ≤ lev nx n s v → lev nx n s v ≤ rad → lev nx n s v < m) :
    sortI (ballP xs) = ballT ((List.range n).map fun v => lev nx n s v) rad n := by
  refine rises_uniq stoI _ _ (sortI_rises (ballP_nodup (by rw [hk]; exact List.nodup_range))) (ballT_rises _ _ _) fun v => ?_
  rw [sortI_mem, ballP_mem, ballT_mem]
  constructor
  · rintro ⟨a, b, x, hx, hl⟩
    refine ⟨a, b, ?_⟩
    rw [levL_nth (by omega)]
    have := h1 x hx
    omega
  · rintro ⟨a, b, c, d⟩
    rw [levL_nth (by omega)] at c d
    refine ⟨a, b, ?_⟩
    have h3 := h2 v.toNat (by omega) c d
    have h4 : (lev nx n s v.toNat).toNat ∈ xs.map (·.1.k) := by rw [hk, List.mem_range]; omega
    obtain ⟨x, hx, he⟩ := List.mem_map.1 h4
    exact ⟨x, hx, by omega⟩
theorem ballP_len {nx : Nat → List Int} {n s : Nat} (xs : List (YlOf nx n s)) : (ballP xs).length ≤ xs.length * n := by
  induction xs with
  | nil => simp [ballP]
  | cons x xs ih =>
    show (x.1.F ++ ballP xs).length ≤ _
    have h : x.1.F.length ≤ n := nodup_small x.2.1.1 fun v hv => ⟨((x.2.1.2 v).1 hv).1, ((x.2.1.2 v).1 hv).2.1⟩
    rw [List.length_append, List.length_cons, Nat.add_mul]; omega
/-- all fronts were within -/
theorem ball_done {nx : Nat → List Int} {n s : Nat} {rad : Int} {ys : List (YlOf nx n s)} (hs : s < n) (hy : ylS ys) (h1 : ∀ x ∈ ys, (x.1.k : Int) ≤ rad) : sortI (ballP ys) = ballT ((List.range n).map fun v => lev nx n s v) rad n := by
  refine ball_sort hs hy.1 h1 fun v hv h2 _ => ?_
  rcases lev_cases (nx := nx) hs hv with ⟨h3, _⟩ | ⟨j, hj, h3, _⟩
  · omega
  · by_cases hjm : j < ys.length
    · omega
    · have := has_below hs (k := j) (j := ys.length) (by omega) (hasL_iff.2 ⟨v, hv, h3⟩)
      rw [hy.2] at this; cases this
/-- a front was not within -/
theorem ball_stop {nx : Nat → List Int} {n s : Nat} {rad : Int} {ys : List (YlOf nx n s)} {x : YlOf nx n s} (hs : s < n) (hy : (ys ++ [x]).map (·.1.k) = List.range (ys ++ [x]).length) (h1 : ∀ x ∈ ys, (x.1.k : Int) ≤ rad) (hx : rad < (x.1.k : Int)) : sortI (ballP ys) = ballT ((List.range n).map fun v => lev nx n s v) rad n := by
  rw [List.map_append, List.length_append, List.length_singleton, List.range_succ] at hy
  obtain ⟨h3, h4⟩ := List.append_inj' hy (by simp)
  simp at h4
  exact ball_sort hs h3 h1 fun v hv h5 h6 => by omega
theorem ball_len {nx : Nat → List Int} {n s : Nat} {rad : Int} {ys : List (YlOf nx n s)} (h : sortI (ballP ys) = ballT ((List.range n).map fun v => lev nx n s v) rad n) : (ballP ys).length ≤ n := by
  have e := congrArg List.length h
  rw [sortI_len] at e
  rw [e]; exact ballT_len _ _ _
end Go.Proofs.YtblghmfhchlllaaGreat
/- What a caller keeps while an iterator works on blocks of its own. -/
namespace Go.Proofs.YtblghmfhchlllaaGreat
open Go Go.RowKit Go.Shelf Go.Lib
theorem Sep.chg {w W W' : World} {Γ : List Pc} {M : Nat → Prop} (S : Sep w W Γ) (hf : ∀ p ∈ Γ, ∀ k, p.foot k → ¬ M k) (hM : ∀ k, M k → w.heap.size ≤ k) (hc : Chg M W W') : Sep w W' Γ :=
  ⟨⟨hc.os.trans S.ext.os, hc.tape.trans S.ext.tape, hc.output.trans S.ext.output, Nat.le_trans S.ext.size hc.size, fun k hk => (hc.block k (Nat.lt_of_lt_of_le hk S.ext.size) fun h => by have := hM k h; omega).trans (S.ext.block k hk)⟩,
    fun p hp => p.loc W W' (S.all p hp) fun k hk => hc.block k (S.lt hp hk) (hf p hp k hk), S.new, S.apart⟩
/-- what the caller keeps: its pieces, none of them the iterator's -/
def KeepM (w : World) (Γ : List Pc) (M : Nat → Prop) (W : World) : Prop := Sep w W Γ ∧ (∀ p ∈ Γ, ∀ k, p.foot k → ¬ M k) ∧ ∀ k, M k → w.heap.size ≤ k
theorem KeepM.stab {w : World} {Γ : List Pc} {M M' : Nat → Prop} {W W' : World} (h : KeepM w Γ M W) (hc : Chg M W W') (hm : ∀ k, M' k → M k ∨ W.heap.size ≤ k) : KeepM w Γ M' W' :=
  ⟨h.1.chg h.2.1 h.2.2 hc, fun p hp k hk hM => (hm k hM).elim (h.2.1 p hp k hk) fun h2 => by have := h.1.lt hp hk; omega, fun k hk => (hm k hk).elim (h.2.2 k) fun h2 => Nat.le_trans h.1.ext.size h2⟩
theorem KeepM.turn {w W W' : World} {Γ : List Pc} {M : Nat → Prop} {row : Option Nat} {B : Nat} (h : KeepM w Γ M W) (hΓ : ∀ p ∈ Γ, p.cells) (hB : w.heap.size ≤ B) (hg : W.grownBy W' row) (hr : ∀ r, row = some r → B ≤ r ∧ ∃ o : Obj, W.heap[r]? = some o ∧ o.isCells = false) : KeepM w Γ M W' := ⟨h.1.turn hΓ hB hg hr, h.2⟩
theorem ylM_own {nx : Nat → List Int} {n s C : Nat} (M : Nat → Prop) : OwnFrom C (fun x : YlOf nx n s => ylM x M) := fun _ _ W' _ h hg hr =>
  ⟨⟨h.1.len, h.1.ptr, h.1.small, fun j hj => cell_turn (h.1.cells j hj) hg fun r e => (hr r e).2⟩, h.2.1, fun k hk => Nat.lt_of_lt_of_le (h.2.2 k hk) hg.size⟩
theorem kpM_b {w4 : World} {n₀ b1 b2 b3 : Nat} (hn : n₀ ≤ w4.heap.size) (h1 : b1 < w4.heap.size) (h2 : b2 < w4.heap.size) (h3 : b3 < w4.heap.size) (M : Nat → Prop) (W : World) (l : Nat) (o o' : Obj) (hl : w4.heap.size ≤ l) (h : W.heap[l]? = some o) (hc : o.isCells = false) (hw : o.isWalk = false) : KpM n₀ b1 b2 b3 M W (W.putObj l o') :=
  ⟨belowK_b hn W l o o' hl h hc hw, World.putObj_heap_other (by omega), World.putObj_heap_other (by omega), World.putObj_heap_other (by omega), fun k o2 _ h2 h3 => by
    by_cases e : k = l
    · subst e; rw [h] at h2; cases h2; rw [hc] at h3; cases h3
    · rw [World.putObj_heap_other (by omega)]; exact h2⟩
/-- blocks that stay as they were in W -/
def Pc.fix (M : Nat → Prop) (W : World) : Pc :=
  ⟨M, fun w => ∀ k, M k → k < w.heap.size ∧ w.heap[k]? = W.heap[k]?, fun w h k hk => (h k hk).1, fun w w' h hk k hM => by
    have e := hk k hM
    obtain ⟨h1, h2⟩ := h k hM
    refine ⟨?_, e.trans h2⟩
    rw [Array.getElem?_eq_getElem h1] at e
    exact (Array.getElem?_eq_some_iff.1 e).1⟩
/-- an object of any kind -/
def Pc.obj (D : Nat) (o : Obj) : Pc :=
  ⟨fun k => k = D, fun w => w.heap[D]? = some o, fun w h k hk => by subst hk; exact (Array.getElem?_eq_some_iff.1 h).1, fun w w' h hk => (hk D rfl).trans h⟩
theorem KeepM.fix {w W : World} {Γ : List Pc} {M : Nat → Prop} (h : KeepM w Γ M W) (hM : ∀ k, M k → k < W.heap.size) : Sep w W (Γ ++ [Pc.fix M W]) := by
  refine ⟨h.1.ext, fun p hp => ?_, fun p hp k hk => ?_, ?_⟩
  · rcases List.mem_append.1 hp with hp | hp
    · exact h.1.all p hp
    · obtain rfl := List.mem_singleton.1 hp
      exact fun k hk => ⟨hM k hk, rfl⟩
  · rcases List.mem_append.1 hp with hp | hp
    · exact h.1.new p hp k hk
    · obtain rfl := List.mem_singleton.1 hp
      exact h.2.2 k hk
  · rw [List.pairwise_append]
    refine ⟨h.1.apart, List.pairwise_singleton _ _, fun p hp q hq k hk hk2 => ?_⟩
    obtain rfl := List.mem_singleton.1 hq
    exact h.2.1 p hp k hk hk2
theorem Sep.unfix {w W W' : World} {Γ : List Pc} {M : Nat → Prop} (S : Sep w W' (Γ ++ [Pc.fix M W])) : KeepM w Γ M W' ∧ ∀ k, M k → W'.heap[k]? = W.heap[k]? := by
  have hm : Pc.fix M W ∈ Γ ++ [Pc.fix M W] := List.mem_append.2 (.inr (List.mem_singleton.2 rfl))
  have ha := List.pairwise_append.1 S.apart
  exact ⟨⟨⟨S.ext, fun p hp => S.all p (List.mem_append.2 (.inl hp)), fun p hp => S.new p (List.mem_append.2 (.inl hp)), ha.1⟩,
    fun p hp k hk hM => ha.2.2 p hp _ (List.mem_singleton.2 rfl) k hk hM, fun k hk => S.new _ hm k hk⟩, fun k hk => (S.all _ hm k hk).2⟩
theorem Sep.obj {w W : World} {Γ : List Pc} {D : Nat} {o : Obj} (S : Sep w W Γ) (hΓ : ∀ p ∈ Γ, p.cells) (hD : w.heap.size ≤ D) (hK : W.heap[D]? = some o) (ho : o.isCells = false) : Sep w W (Γ ++ [Pc.obj D o]) := by
  refine ⟨S.ext, fun p hp => ?_, fun p hp k hk => ?_, ?_⟩
  · rcases List.mem_append.1 hp with hp | hp
    · exact S.all p hp
    · obtain rfl := List.mem_singleton.1 hp
      exact hK
  · rcases List.mem_append.1 hp with hp | hp
    · exact S.new p hp k hk
    · obtain rfl := List.mem_singleton.1 hp
      have : k = D := hk
      omega
  · rw [List.pairwise_append]
    refine ⟨S.apart, List.pairwise_singleton _ _, fun p hp q hq k hk hk2 => ?_⟩
    obtain rfl := List.mem_singleton.1 hq
    have e : k = D := hk2
    subst e
    obtain ⟨o', h1, h2⟩ := hΓ p hp W (S.all p hp) k hk
    rw [hK] at h1
    cases h1
    rw [ho] at h2; cases h2
theorem Sep.unobj {w W : World} {Γ : List Pc} {D : Nat} {o : Obj} (S : Sep w W (Γ ++ [Pc.obj D o])) : Sep w W Γ ∧ W.heap[D]? = some o :=
  ⟨⟨S.ext, fun p hp => S.all p (List.mem_append.2 (.inl hp)), fun p hp => S.new p (List.mem_append.2 (.inl hp)), (List.pairwise_append.1 S.apart).1⟩, S.all _ (List.mem_append.2 (.inr (List.mem_singleton.2 rfl)))⟩
/-- a ball's caller: what has been gathered -/
def BallI {nx : Nat → List Int} {n s : Nat} (w : World) (Γ : Option Addr → List Int → Nat → List Pc) (rad : Int) (pre : List (YlOf nx n s)) (M : Nat → Prop) (W : World) : Prop := ∃ q2 c2, KeepM w (Γ q2 (ballP pre) c2) M W ∧ ∀ x ∈ pre, (x.1.k : Int) ≤ rad
def BallX {nx : Nat → List Int} {n s : Nat} (w : World) (Γ : Option Addr → List Int → Nat → List Pc) (rad : Int) (pre : List (YlOf nx n s)) (M : Nat → Prop) (W : World) : Prop := ∃ (pre' : List (YlOf nx n s)) (x : YlOf nx n s), pre = pre' ++ [x] ∧ rad < (x.1.k : Int) ∧ BallI w Γ rad pre' M W
theorem BallI.stab {nx : Nat → List Int} {n s : Nat} {w : World} {Γ : Option Addr → List Int → Nat → List Pc} {rad : Int} : Stab (BallI w Γ rad : List (YlOf nx n s) → _) := fun _ _ M' _ W' h hc hm => let ⟨q2, c2, h1, h2⟩ := h; ⟨q2, c2, h1.stab hc hm, h2⟩
theorem BallX.stab {nx : Nat → List Int} {n s : Nat} {w : World} {Γ : Option Addr → List Int → Nat → List Pc} {rad : Int} : Stab (BallX w Γ rad : List (YlOf nx n s) → _) := fun _ M M' W W' h hc hm => let ⟨pre', x, e1, e2, h1⟩ := h; ⟨pre', x, e1, e2, BallI.stab pre' M M' W W' h1 hc hm⟩
theorem BallI.own {nx : Nat → List Int} {n s B : Nat} {w : World} {Γ : Option Addr → List Int → Nat → List Pc} {rad : Int} (hΓ : ∀ q l c, ∀ p ∈ Γ q l c, p.cells) (hB : w.heap.size ≤ B) (M : Nat → Prop) : OwnFrom B (fun pre : List (YlOf nx n s) => BallI w Γ rad pre M) := fun pre _ W' _ h hg hr => let ⟨q2, c2, h1, h2⟩ := h; ⟨q2, c2, h1.turn (hΓ q2 (ballP pre) c2) hB hg hr, h2⟩
theorem BallX.own {nx : Nat → List Int} {n s B : Nat} {w : World} {Γ : Option Addr → List Int → Nat → List Pc} {rad : Int} (hΓ : ∀ q l c, ∀ p ∈ Γ q l c, p.cells) (hB : w.heap.size ≤ B) (M : Nat → Prop) : OwnFrom B (fun pre : List (YlOf nx n s) => BallX w Γ rad pre M) := fun _ W W' row h hg hr => let ⟨pre', x, e1, e2, h1⟩ := h; ⟨pre', x, e1, e2, BallI.own hΓ hB M pre' W W' row h1 hg hr⟩
end Go.Proofs.YtblghmfhchlllaaGreat
/- The program's levels (chapter 7): Ball. -/
namespace Go.Proofs.YtblghmfhchlllaaGreat
open Go Go.RowKit Go.Shelf Go.Lib
attribute [local go_sem] Oper.semAt_some
set_option maxRecDepth 100000 in
set_option maxHeartbeats 4000000 in
theorem BallG_no (po : Option Addr) (no co : Nat) (O : List Int) (pt : Option Addr) (nt ct : Nat) (T : List Int) (pr : Option Addr) (nr cr : Nat) (R : List Int) (pv : Option Addr) (nv cv : Nat) (V : List Int) (s rad : Int) (back : Bool) (w : World) (hO : Rd w 1 po no (encI O)) (hT : Rd w 1 pt nt (encI T)) (hR : Rd w 1 pr nr (encI R)) (hV : Rd w 1 pv nv (encI V)) (hct : nt ≤ ct) (hcv : nv ≤ cv) (hc : ballC (checkR O T R V) O s rad ≠ 0) :
    Calls Tryz.prog 18 #[.agg #[.slice po no co, .slice pt nt ct, .slice pr nr cr, .slice pv nv cv], .int .i64 s, .int .i64 rad, .bool back] w fun e w' => e = .returned (.tuple #[.slice none 0 0, .int .i64 (ballC (checkR O T R V) O s rad)]) ∧ Ext w w' := by
  have S0 := Lib.hid ((((Sep.start w).al #[.slice po no co, .slice pt nt ct, .slice pr nr cr, .slice pv nv cv] 24 w.heap.size rfl).al #[.int .i64 rad] 3 (w.heap.size + 1) (by simp)).al #[.int .i64 s] 3 (w.heap.size + 1 + 1) (by simp))
  have HOp := Lib.hid (fun W1 p c (h : Ext w W1) (hl : Rd W1 1 p 1 (encI [s])) => openL po no co O pt nt ct T pr nr cr R pv nv cv V p 1 c [s] W1 (hO.ext h) (hT.ext h) (hR.ext h) (hV.ext h) hct hcv hl)
  rw [levC_open] at HOp
  unfold ballC at *
  generalize levC (checkR O T R V) O s = cc at *
  clear hO hT hR hV hct hcv
  by_cases h0 : cc = 0
  · rw [if_pos h0] at hc ⊢
    have hr : rad < 0 := by
      apply Classical.byContradiction; intro h; rw [if_neg h] at hc; exact hc rfl
    rw [if_pos hr]
    have d1 : decide (rad < 0) = true := by simpa using hr
    subst h0
    clear hc hr
    go_enter Tryz.func18, Tryz.ntmps18
    go_wp2
    go_step3
    go_wp2_with (go_at_call 28; go_must (refine (HOp.out _ _ _ S0.out.ext ((S0.out.blk 0 rfl).rd rfl rfl (by decide))).mono ?_; rintro e w1 ⟨rfl, hb⟩; have S1 := Lib.hid (S0.out.call hb); have r0 := (S1.out.blk 1 rfl).cell 0; have rz := (S1.out.blk 1 rfl).lt; clear hb))
    try rw [Exit.noGoto_ret]
    go_ret2
    exact ⟨rfl, (S1.out.al #[.slice po no co, .slice pt nt ct, .slice pr nr cr, .slice pv nv cv] 57 w1.heap.size rfl).ext⟩
  · rw [if_neg h0]
    have hc0 : (cc != 0) = true := by simpa using h0
    have hc1 : (cc == 0) = false := by simpa using h0
    clear hc h0
    go_enter Tryz.func18, Tryz.ntmps18
    go_wp2
    go_step3
    go_wp2_with (go_at_call 28; go_must (refine (HOp.out _ _ _ S0.out.ext ((S0.out.blk 0 rfl).rd rfl rfl (by decide))).mono ?_; rintro e w1 ⟨rfl, hb⟩; have S1 := Lib.hid (S0.out.call hb); have r0 := (S1.out.blk 1 rfl).cell 0; have rz := (S1.out.blk 1 rfl).lt; clear hb))
    try rw [Exit.noGoto_ret]
    go_ret2
    exact ⟨rfl, (S1.out.al #[.slice po no co, .slice pt nt ct, .slice pr nr cr, .slice pv nv cv] 57 w1.heap.size rfl).ext⟩
set_option maxRecDepth 100000 in
set_option maxHeartbeats 16000000 in
theorem BallG_out (po : Option Addr) (no co : Nat) (O : List Int) (pt : Option Addr) (nt ct : Nat) (T : List Int) (pr : Option Addr) (nr cr : Nat) (R : List Int) (pv : Option Addr) (nv cv : Nat) (V : List Int) (n s : Nat) (rad : Int) (w : World) (hO : Rd w 1 po no (encI O)) (hT : Rd w 1 pt nt (encI T)) (hR : Rd w 1 pr nr (encI R)) (hV : Rd w 1 pv nv (encI V)) (hct : nt ≤ ct) (hcv : nv ≤ cv) (hck : checkR O T R V = true) (hno : O.length = n + 1) (hs : s < n) (hrad : ¬ rad < 0) :
    Calls Tryz.prog 18 #[.agg #[.slice po no co, .slice pt nt ct, .slice pr nr cr, .slice pv nv cv], .int .i64 s, .int .i64 rad, .bool false] w fun e w' => ∃ q c, e = .returned (.tuple #[.slice q (ballT ((List.range n).map fun v => lev (rowL O T) n s v) rad n).length c, .int .i64 0]) ∧ Sep w w' [.own 3 1 q (ballT ((List.range n).map fun v => lev (rowL O T) n s v) rad n).length c (encI (ballT ((List.range n).map fun v => lev (rowL O T) n s v) rad n))] := by
  obtain ⟨i0, hi0, hz0, hz1, hz2⟩ := info_parts infI
  have S0 := Lib.hid ((((Sep.start w).al #[.slice po no co, .slice pt nt ct, .slice pr nr cr, .slice pv nv cv] 24 w.heap.size rfl).al #[.int .i64 rad] 3 (w.heap.size + 1) (by simp)).al #[.int .i64 s] 3 (w.heap.size + 1 + 1) (by simp))
  have HOp := Lib.hid (fun W1 p c (h : Ext w W1) (hl : Rd W1 1 p 1 (encI [(s:Int)])) => openL po no co O pt nt ct T pr nr cr R pv nv cv V p 1 c [(s:Int)] W1 (hO.ext h) (hT.ext h) (hR.ext h) (hV.ext h) hct hcv hl)
  have hl0 : levC (checkR O T R V) O s = 0 := by unfold levC; rw [if_pos hck, if_pos (by omega)]
  rw [levC_open, hl0] at HOp
  obtain ⟨e1, e2, e3, e4⟩ := checkR_half hck
  have r := offB_parts (halfB_off e3)
  have hn : n ≤ 200 := by omega
  have hin : InN (rowL O T) n := by have := nxR_in hck false; rw [hno] at this; exact this
  have l1 := hO.nI
  have hnn : no = n + 1 := by omega
  have hA0 : 0 < no → (adr po 0).block < w.heap.size := fun h => hO.lt (by omega)
  have hB0 : 0 < nt → (adr pt 0).block < w.heap.size := fun h => hT.lt (by omega)
  have HNX : Hid (∀ w4, Ext w w4 → ∀ k, k < n → ∃ q c, ∀ W, Below w.heap.size w4 W → Rd W 1 q ((rowL O T) k).length (encI ((rowL O T) k)) ∧ Calls Tryz.prog 50 #[.agg #[.slice po no co, .slice pt nt ct, .slice pr nr cr, .slice pv nv cv], .int .i64 k] W fun e w' => e = .returned (.slice q ((rowL O T) k).length c) ∧ Ext W w') := fun w4 h4 k hk => by
    have hok := offOk_of (halfB_off e3)
    have hkl : k + 1 < O.length := by omega
    refine ⟨cutp pt ct (nth O k).toNat 1, ct - (nth O k).toNat, fun W hW => ?_⟩
    have hx := (hO.ext h4).below hW (by simpa using hA0)
    have hy := (hT.ext h4).below hW (by simpa using hB0)
    refine ⟨?_, waysOut po no co O pt nt ct T pr nr cr R pv nv cv V k W hx hy hok hct hkl⟩
    have := hy.rowOf hok hct hkl
    rw [← rowL_len hok hkl] at this
    exact this
  have HIN := Lib.hid hin
  have HFR := Lib.hid (fun W => frontsG po (n + 1) co pt nt ct pr nr cr pv nv cv s false W)
  have dr : decide (rad < 0) = false := by simpa using hrad
  clear hO hT hR hV hct hcv hck hno hl0 e1 e2 e3 e4 r l1 hA0 hB0 hin hrad
  subst hnn
  generalize rowL O T = nx at *
  refine (callsIn_wide (n := 9)).1 ?_
  refine callsIn_of_wp_marks Tryz.func18 rfl trivial ?_ rfl
  simp only [Tryz.ntmps18, List.size_toArray, List.length_cons, List.length_nil, Nat.reduceAdd, Nat.reduceSub, Array.replicate_succ, Array.replicate_zero, List.push_toArray, List.append_toArray, List.nil_append, List.cons_append]
  refine wpIn_wide.2 ?_
  go_wp2
  go_step3
  go_wp2_with (first
    | (go_at_call 31; go_must (refine (HFR.out _).mono ?_; rintro e w4 ⟨b1, b2, b3, rfl, Z⟩; have S4 := Lib.hid (((S1.out.al #[.slice po (n + 1) co, .slice pt nt ct, .slice pr nr cr, .slice pv nv cv] 57 w1.heap.size rfl).al #[.slice none 0 0] 22 (w1.heap.size + 1) (by simp)).comp Z); clear Z))
    | (go_at_call 28; go_must (refine (HOp.out _ _ _ S0.out.ext ((S0.out.blk 0 rfl).rd rfl rfl (by decide))).mono ?_; rintro e w1 ⟨rfl, hb⟩; have S1 := Lib.hid (S0.out.call hb); have r0 := (S1.out.blk 1 rfl).cell 0; have rz := (S1.out.blk 1 rfl).lt; clear hb)))
  try go_step3
  go_wp2_with (first
    | (go_at_call 31; go_must (refine (HFR.out _).mono ?_; rintro e w4 ⟨b1, b2, b3, rfl, Z⟩; have S4 := Lib.hid (((S1.out.al #[.slice po (n + 1) co, .slice pt nt ct, .slice pr nr cr, .slice pv nv cv] 57 w1.heap.size rfl).al #[.slice none 0 0] 22 (w1.heap.size + 1) (by simp)).comp Z); clear Z)))
  clear S0 S1 HOp HFR r0 rz dr
  generalize w1.heap.size + 1 = g at *
  have S5 := Lib.hid (S4.out.nilrow 3 1 |>.pick [1, 2, 3, 4, 0, 7] (by decide) rfl : Sep w w4 [.blk b3 66 #[.func (.func 50) #[.agg #[.slice po (n + 1) co, .slice pt nt ct, .slice pr nr cr, .slice pv nv cv]] #[]], .blk b2 3 #[.int .i64 s], .blk b1 57 #[.slice po (n + 1) co, .slice pt nt ct, .slice pr nr cr, .slice pv nv cv], .blk g 22 #[.slice none ([] : List Int).length 0], .own 3 1 none ([] : List Int).length 0 (encI ([] : List Int)), .blk (w.heap.size + 1) 3 #[.int .i64 rad]])
  clear S4
  have HC := Lib.hid (fun (q : Option Addr) (l : List Int) (c : Nat) => (cells_all (Γ := [.blk b3 66 #[.func (.func 50) #[.agg #[.slice po (n + 1) co, .slice pt nt ct, .slice pr nr cr, .slice pv nv cv]] #[]], .blk b2 3 #[.int .i64 s], .blk b1 57 #[.slice po (n + 1) co, .slice pt nt ct, .slice pr nr cr, .slice pv nv cv], .blk g 22 #[.slice q l.length c], .own 3 1 q l.length c (encI l), .blk (w.heap.size + 1) 3 #[.int .i64 rad]]) fun p hp => by
      simp only [List.mem_cons, List.not_mem_nil, or_false] at hp
      rcases hp with rfl | rfl | rfl | rfl | rfl | rfl
      · exact .inl ⟨_, _, _, rfl⟩
      · exact .inl ⟨_, _, _, rfl⟩
      · exact .inl ⟨_, _, _, rfl⟩
      · exact .inl ⟨_, _, _, rfl⟩
      · exact .inr ⟨_, _, _, _, _, _, rfl⟩
      · exact .inl ⟨_, _, _, rfl⟩))
  refine wpIn_wide.1 (wpIn_rangeFunc_owned (F := Fence.wide) (n := 9) rfl (by omega) (gf := 47) (lb := #[.pointer (some ⟨b1, 0, none⟩), .pointer (some ⟨b2, 0, none⟩), .pointer (some ⟨b3, 0, none⟩)]) rfl trivial (enters_of Tryz.func47 (by kernel_rfl) rfl)
    (frontm_out 8 (by omega) po (n + 1) co pt nt ct pr nr cr pv nv cv b1 b2 b3 w.heap.size n s nx w4 S5.out.ext.size (S5.out.blk 2 rfl) (S5.out.blk 1 rfl) (S5.out.blk 0 rfl) hs hn rfl HIN.out (HNX.out w4 S5.out.ext))
    (fun h k => KpM.trans h k) (kpM_b S5.out.ext.size (S5.out.blk 2 rfl).lt (S5.out.blk 1 rfl).lt (S5.out.blk 0 rfl).lt) (Below.refl _ _) (fun _ => rfl)
    (BallI w (fun q l c => [.blk b3 66 #[.func (.func 50) #[.agg #[.slice po (n + 1) co, .slice pt nt ct, .slice pr nr cr, .slice pv nv cv]] #[]], .blk b2 3 #[.int .i64 s], .blk b1 57 #[.slice po (n + 1) co, .slice pt nt ct, .slice pr nr cr, .slice pv nv cv], .blk g 22 #[.slice q l.length c], .own 3 1 q l.length c (encI l), .blk (w.heap.size + 1) 3 #[.int .i64 rad]]) rad)
    (fun c pre M W => c = .exit 0 ∧ BallX w (fun q l c => [.blk b3 66 #[.func (.func 50) #[.agg #[.slice po (n + 1) co, .slice pt nt ct, .slice pr nr cr, .slice pv nv cv]] #[]], .blk b2 3 #[.int .i64 s], .blk b1 57 #[.slice po (n + 1) co, .slice pt nt ct, .slice pr nr cr, .slice pv nv cv], .blk g 22 #[.slice q l.length c], .own 3 1 q l.length c (encI l), .blk (w.heap.size + 1) 3 #[.int .i64 rad]]) rad pre M W)
    BallI.stab (fun c pre M M' W W' h hc hm => ⟨h.1, BallX.stab pre M M' W W' h.2 hc hm⟩)
    (BallI.own HC.out S5.out.ext.size) (fun c M pre W W' row h hg hr => ⟨h.1, BallX.own HC.out S5.out.ext.size M pre W W' row h.2 hg hr⟩)
    ylM_own ⟨none, 0, ⟨S5.out, fun _ _ _ _ h => h, fun _ h => h.elim⟩, fun _ h => (nomatch h)⟩ ?a1 ?assign ?body ?done ?stop)
  case assign =>
    intro l x W K hK
    simp only [ylE]
    gi_wp2
    exact hK
  case body =>
    rintro l pre ⟨⟨k, F, q', c'⟩, hF, lf⟩ M W ⟨q2, c2, hKM, hle⟩ hA hMw hlen
    obtain ⟨hRd, hMq, hMlt⟩ : Rd W 1 q' F.length (encI F) ∧ M (adr q' 0).block ∧ ∀ k, M k → k < W.heap.size := hA
    have hbl := ballP_len pre
    have hbl2 : pre.length * n ≤ n * n := Nat.mul_le_mul_right n (by omega)
    have hnn2 : n * n ≤ 200 * 200 := Nat.mul_le_mul hn hn
    have hF200 : F.length ≤ 200 := Nat.le_trans (front_bd8 (show IsFront (lev nx n s) n k F from hF)).2 hn
    have HSN := Lib.hid (ballP_snoc pre (⟨⟨k, F, q', c'⟩, hF, lf⟩ : YlOf nx n s))
    have HKM := Lib.hid hKM
    have HLE := Lib.hid hle
    have HM := Lib.hid hMlt
    have HR := Lib.hid hRd
    have c5 := (hKM.1.blk 5 rfl).cell 0
    have z5 := (hKM.1.blk 5 rfl).lt
    by_cases hk : rad < (k : Int)
    · have d1 : decide (rad < (k : Int)) = true := by simpa using hk
      have HX : Hid (BallX w (fun q l c => [.blk b3 66 #[.func (.func 50) #[.agg #[.slice po (n + 1) co, .slice pt nt ct, .slice pr nr cr, .slice pv nv cv]] #[]], .blk b2 3 #[.int .i64 s], .blk b1 57 #[.slice po (n + 1) co, .slice pt nt ct, .slice pr nr cr, .slice pv nv cv], .blk g 22 #[.slice q l.length c], .own 3 1 q l.length c (encI l), .blk (w.heap.size + 1) 3 #[.int .i64 rad]]) rad (pre ++ [(⟨⟨k, F, q', c'⟩, hF, lf⟩ : YlOf nx n s)]) M W) := ⟨pre, _, rfl, hk, q2, c2, hKM, hle⟩
      generalize pre ++ [(⟨⟨k, F, q', c'⟩, hF, lf⟩ : YlOf nx n s)] = pre2 at *
      clear hKM hle hRd hMlt hMq hMw hlen hbl hbl2 hnn2 hk
      gi_wp2
      exact ⟨KeepsFrom.refl _ _, rfl, HX.out⟩
    · have d1 : decide (rad < (k : Int)) = false := by simpa using hk
      have HLE2 : Hid (∀ y ∈ pre ++ [(⟨⟨k, F, q', c'⟩, hF, lf⟩ : YlOf nx n s)], (y.1.k : Int) ≤ rad) := fun y hy => by
        rcases List.mem_append.1 hy with hy | hy
        · exact hle y hy
        · obtain rfl := List.mem_singleton.1 hy
          show (k:Int) ≤ rad
          omega
      obtain ⟨X, hX⟩ : ∃ X, X = ballP pre := ⟨_, rfl⟩
      have HSN2 : Hid (ballP (pre ++ [(⟨⟨k, F, q', c'⟩, hF, lf⟩ : YlOf nx n s)]) = X ++ F) := by rw [hX]; exact HSN.out
      have hXl : X.length ≤ 40000 := by rw [hX]; omega
      rw [← hX] at HKM
      generalize pre ++ [(⟨⟨k, F, q', c'⟩, hF, lf⟩ : YlOf nx n s)] = pre2 at *
      have SF := Lib.hid (HKM.out.fix HM.out)
      have g0 := (SF.out.blk 3 rfl).cell 0
      have gf := (SF.out.blk 3 rfl).frozen 0
      have gz := (SF.out.blk 3 rfl).lt
      clear hKM hle hRd hMlt hMq hMw hlen hbl hbl2 hnn2 hk HSN hX HLE
      refine wpIn_block ?_
      refine wpIn_seq_k fun K hK => ?_
      have HK := Lib.hid hK
      clear hK
      gi_wp2
      refine HK.out _ _ ?_
      refine wpIn_region_list (by rintro ⟨_, _, h⟩; exact h) (by kernel_rfl) ?_
      go_wp2_with (at_builtin; go_must (refine wpList_append_sepK rfl _ _ _ rfl 3 i0 _ 1 8 Tryz.underlying22 hi0 hz0 hz1 hz2 rfl (by omega) SF.out 4 q2 X.length c2 _ rfl rfl _ F.length c' _ rfl HR.out (one_encI _) (by omega) (by omega) ?_; intro q3 c3 w' S' hsz hK1; have k4 := (S'.blk 3 rfl).cell 0; have kf := (S'.blk 3 rfl).frozen 0; have kz := (S'.blk 3 rfl).lt; have S6 := Lib.hid S'; have K6 := Lib.hid hK1; clear S' hsz hK1))
      have S7 := Lib.hid (S6.out.set 3 rfl 0 (.slice q3 (X.length + F.length) c3))
      obtain ⟨hk7, hfix⟩ := Sep.unfix (Γ := [.blk b3 66 #[.func (.func 50) #[.agg #[.slice po (n + 1) co, .slice pt nt ct, .slice pr nr cr, .slice pv nv cv]] #[]], .blk b2 3 #[.int .i64 s], .blk b1 57 #[.slice po (n + 1) co, .slice pt nt ct, .slice pr nr cr, .slice pv nv cv], .blk g 22 #[.slice q3 (X ++ F).length c3], .own 3 1 q3 (X ++ F).length c3 (encI (X ++ F)), .blk (w.heap.size + 1) 3 #[.int .i64 rad]]) (by rw [List.length_append, encI_append]; exact S7.out)
      have hsz : W.heap.size ≤ (w'.setCell ⟨g, 0, none⟩ (.slice q3 (X.length + F.length) c3)).heap.size := by simpa using K6.out.size
      exact ⟨(K6.out.trans (KeepsOthers.setCell _ _ _)).from _, ⟨⟨S7.out.ext.os.trans SF.out.ext.os.symm, S7.out.ext.tape.trans SF.out.ext.tape.symm, S7.out.ext.output.trans SF.out.ext.output.symm, hsz, fun kk hk => (S7.out.ext.block kk hk).trans (SF.out.ext.block kk hk).symm⟩, (S7.out.blk 2 rfl).trans (SF.out.blk 2 rfl).symm, (S7.out.blk 1 rfl).trans (SF.out.blk 1 rfl).symm, (S7.out.blk 0 rfl).trans (SF.out.blk 0 rfl).symm, fun kk o hM h1 _ => (hfix kk hM).trans h1⟩, q3, c3, by rw [HSN2.out]; exact hk7, HLE2.out⟩
  case done =>
    rintro D ys W hD hys ⟨M, q2, c2, hKM, hle⟩ hK
    have hb := ball_done hs hys hle
    have hbl := ball_len hb
    have c4 := (hKM.1.blk 3 rfl).cell 0
    have S6 := Lib.hid (hKM.1.obj (HC.out q2 _ c2) (Nat.le_trans S5.out.ext.size hD) hK rfl)
    clear hys hle hKM hK
    obtain ⟨X, hX⟩ : ∃ X, X = ballP ys := ⟨_, rfl⟩
    rw [← hX] at S6 hb hbl c4
    obtain ⟨L, hL⟩ : ∃ L, L = ballT ((List.range n).map fun v => lev nx n s v) rad n := ⟨_, rfl⟩
    rw [← hL] at hb
    have hle : X.length = L.length := by rw [← hb, sortI_len]
    have HL := Lib.hid hL
    have HX := Lib.hid hle
    clear hL hX hle
    go_wp2_with (go_at_call 35; go_must (refine (SortI_sep S6.out 4 rfl (by omega)).mono ?_; rintro e w7 ⟨rfl, S'⟩; rw [hb] at S'; have c5 := (S'.blk 3 rfl).cell 0; have S7 := Lib.hid S'; clear S'))
    rw [Exit.noGoto_ret]
    obtain ⟨S8, hK8⟩ := Sep.unobj (Γ := [.blk b3 66 #[.func (.func 50) #[.agg #[.slice po (n + 1) co, .slice pt nt ct, .slice pr nr cr, .slice pv nv cv]] #[]], .blk b2 3 #[.int .i64 s], .blk b1 57 #[.slice po (n + 1) co, .slice pt nt ct, .slice pr nr cr, .slice pv nv cv], .blk g 22 #[.slice q2 X.length c2], .own 3 1 q2 X.length c2 (encI L), .blk (w.heap.size + 1) 3 #[.int .i64 rad]]) S7.out
    have S9 := Lib.hid (S8.putObj (cells_all fun p hp => by
      simp only [List.mem_cons, List.not_mem_nil, or_false] at hp
      rcases hp with rfl | rfl | rfl | rfl | rfl | rfl
      · exact .inl ⟨_, _, _, rfl⟩
      · exact .inl ⟨_, _, _, rfl⟩
      · exact .inl ⟨_, _, _, rfl⟩
      · exact .inl ⟨_, _, _, rfl⟩
      · exact .inr ⟨_, _, _, _, _, _, rfl⟩
      · exact .inl ⟨_, _, _, rfl⟩) (.deferred none) (Nat.le_trans S5.out.ext.size hD) hK8 rfl)
    refine ⟨by simp, .inl ⟨_, _, rfl, run_takeDeferred hK8, ?_⟩⟩
    rw [← HL.out, ← HX.out]
    exact ⟨.tuple #[.slice q2 X.length c2, .int .i64 0], by simp [results, Tryz.results18, go_sem], q2, c2, rfl, S9.out.pick [4] (by decide) rfl⟩
  case stop =>
    rintro D c pre W hD hSp ⟨M, rfl, pre', x, rfl, hx, q2, c2, hKM, hle⟩ hK
    have hb := ball_stop hs hSp hle hx
    have hbl := ball_len hb
    have c4 := (hKM.1.blk 3 rfl).cell 0
    have S6 := Lib.hid (hKM.1.obj (HC.out q2 _ c2) (Nat.le_trans S5.out.ext.size hD) hK rfl)
    clear hSp hle hKM hK
    obtain ⟨X, hX⟩ : ∃ X, X = ballP pre' := ⟨_, rfl⟩
    rw [← hX] at S6 hb hbl c4
    obtain ⟨L, hL⟩ : ∃ L, L = ballT ((List.range n).map fun v => lev nx n s v) rad n := ⟨_, rfl⟩
    rw [← hL] at hb
    have hle : X.length = L.length := by rw [← hb, sortI_len]
    have HL := Lib.hid hL
    have HX := Lib.hid hle
    clear hL hX hle hx
    refine wpIn_wide.2 ?_
    go_wp2_with (go_at_call 35; go_must (refine (SortI_sep S6.out 4 rfl (by omega)).mono ?_; rintro e w7 ⟨rfl, S'⟩; rw [hb] at S'; have c5 := (S'.blk 3 rfl).cell 0; have S7 := Lib.hid S'; clear S'))
    rw [Exit.noGoto_ret]
    obtain ⟨S8, hK8⟩ := Sep.unobj (Γ := [.blk b3 66 #[.func (.func 50) #[.agg #[.slice po (n + 1) co, .slice pt nt ct, .slice pr nr cr, .slice pv nv cv]] #[]], .blk b2 3 #[.int .i64 s], .blk b1 57 #[.slice po (n + 1) co, .slice pt nt ct, .slice pr nr cr, .slice pv nv cv], .blk g 22 #[.slice q2 X.length c2], .own 3 1 q2 X.length c2 (encI L), .blk (w.heap.size + 1) 3 #[.int .i64 rad]]) S7.out
    have S9 := Lib.hid (S8.putObj (cells_all fun p hp => by
      simp only [List.mem_cons, List.not_mem_nil, or_false] at hp
      rcases hp with rfl | rfl | rfl | rfl | rfl | rfl
      · exact .inl ⟨_, _, _, rfl⟩
      · exact .inl ⟨_, _, _, rfl⟩
      · exact .inl ⟨_, _, _, rfl⟩
      · exact .inl ⟨_, _, _, rfl⟩
      · exact .inr ⟨_, _, _, _, _, _, rfl⟩
      · exact .inl ⟨_, _, _, rfl⟩) (.deferred none) (Nat.le_trans S5.out.ext.size hD) hK8 rfl)
    refine ⟨by simp, .inl ⟨_, _, rfl, run_takeDeferred hK8, ?_⟩⟩
    rw [← HL.out, ← HX.out]
    exact ⟨.tuple #[.slice q2 X.length c2, .int .i64 0], by simp [results, Tryz.results18, go_sem], q2, c2, rfl, S9.out.pick [4] (by decide) rfl⟩
set_option maxRecDepth 100000 in
set_option maxHeartbeats 16000000 in
theorem BallG_in (po : Option Addr) (no co : Nat) (O : List Int) (pt : Option Addr) (nt ct : Nat) (T : List Int) (pr : Option Addr) (nr cr : Nat) (R : List Int) (pv : Option Addr) (nv cv : Nat) (V : List Int) (n s : Nat) (rad : Int) (w : World) (hO : Rd w 1 po no (encI O)) (hT : Rd w 1 pt nt (encI T)) (hR : Rd w 1 pr nr (encI R)) (hV : Rd w 1 pv nv (encI V)) (hct : nt ≤ ct) (hcv : nv ≤ cv) (hck : checkR O T R V = true) (hno : O.length = n + 1) (hs : s < n) (hrad : ¬ rad < 0) :
    Calls Tryz.prog 18 #[.agg #[.slice po no co, .slice pt nt ct, .slice pr nr cr, .slice pv nv cv], .int .i64 s, .int .i64 rad, .bool true] w fun e w' => ∃ q c, e = .returned (.tuple #[.slice q (ballT ((List.range n).map fun v => lev (rowL R V) n s v) rad n).length c, .int .i64 0]) ∧ Sep w w' [.own 3 1 q (ballT ((List.range n).map fun v => lev (rowL R V) n s v) rad n).length c (encI (ballT ((List.range n).map fun v => lev (rowL R V) n s v) rad n))] := by
  obtain ⟨i0, hi0, hz0, hz1, hz2⟩ := info_parts infI
  have S0 := Lib.hid ((((Sep.start w).al #[.slice po no co, .slice pt nt ct, .slice pr nr cr, .slice pv nv cv] 24 w.heap.size rfl).al #[.int .i64 rad] 3 (w.heap.size + 1) (by simp)).al #[.int .i64 s] 3 (w.heap.size + 1 + 1) (by simp))
  have HOp := Lib.hid (fun W1 p c (h : Ext w W1) (hl : Rd W1 1 p 1 (encI [(s:Int)])) => openL po no co O pt nt ct T pr nr cr R pv nv cv V p 1 c [(s:Int)] W1 (hO.ext h) (hT.ext h) (hR.ext h) (hV.ext h) hct hcv hl)
  have hl0 : levC (checkR O T R V) O s = 0 := by unfold levC; rw [if_pos hck, if_pos (by omega)]
  rw [levC_open, hl0] at HOp
  obtain ⟨e1, e2, e3, e4⟩ := checkR_half hck
  have r := offB_parts (halfB_off e3)
  have hn : n ≤ 200 := by omega
  have hin : InN (rowL R V) n := by have := nxR_in hck true; rw [hno] at this; exact this
  have l1 := hO.nI
  have hnn : no = n + 1 := by omega
  have hA0 : 0 < nr → (adr pr 0).block < w.heap.size := fun h => hR.lt (by omega)
  have hB0 : 0 < nv → (adr pv 0).block < w.heap.size := fun h => hV.lt (by omega)
  have HNX : Hid (∀ w4, Ext w w4 → ∀ k, k < n → ∃ q c, ∀ W, Below w.heap.size w4 W → Rd W 1 q ((rowL R V) k).length (encI ((rowL R V) k)) ∧ Calls Tryz.prog 49 #[.agg #[.slice po no co, .slice pt nt ct, .slice pr nr cr, .slice pv nv cv], .int .i64 k] W fun e w' => e = .returned (.slice q ((rowL R V) k).length c) ∧ Ext W w') := fun w4 h4 k hk => by
    have hok := offOk_of (halfB_off e4)
    have hkl : k + 1 < R.length := by omega
    refine ⟨cutp pv cv (nth R k).toNat 1, cv - (nth R k).toNat, fun W hW => ?_⟩
    have hx := (hR.ext h4).below hW (by simpa using hA0)
    have hy := (hV.ext h4).below hW (by simpa using hB0)
    refine ⟨?_, waysIn po no co O pt nt ct T pr nr cr R pv nv cv V k W hx hy hok hcv hkl⟩
    have := hy.rowOf hok hcv hkl
    rw [← rowL_len hok hkl] at this
    exact this
  have HIN := Lib.hid hin
  have HFR := Lib.hid (fun W => frontsG po (n + 1) co pt nt ct pr nr cr pv nv cv s true W)
  have dr : decide (rad < 0) = false := by simpa using hrad
  clear hO hT hR hV hct hcv hck hno hl0 e1 e2 e3 e4 r l1 hA0 hB0 hin hrad
  subst hnn
  generalize rowL R V = nx at *
  refine (callsIn_wide (n := 9)).1 ?_
  refine callsIn_of_wp_marks Tryz.func18 rfl trivial ?_ rfl
  simp only [Tryz.ntmps18, List.size_toArray, List.length_cons, List.length_nil, Nat.reduceAdd, Nat.reduceSub, Array.replicate_succ, Array.replicate_zero, List.push_toArray, List.append_toArray, List.nil_append, List.cons_append]
  refine wpIn_wide.2 ?_
  go_wp2
  go_step3
  go_wp2_with (first
    | (go_at_call 31; go_must (refine (HFR.out _).mono ?_; rintro e w4 ⟨b1, b2, b3, rfl, Z⟩; have S4 := Lib.hid (((S1.out.al #[.slice po (n + 1) co, .slice pt nt ct, .slice pr nr cr, .slice pv nv cv] 57 w1.heap.size rfl).al #[.slice none 0 0] 22 (w1.heap.size + 1) (by simp)).comp Z); clear Z))
    | (go_at_call 28; go_must (refine (HOp.out _ _ _ S0.out.ext ((S0.out.blk 0 rfl).rd rfl rfl (by decide))).mono ?_; rintro e w1 ⟨rfl, hb⟩; have S1 := Lib.hid (S0.out.call hb); have r0 := (S1.out.blk 1 rfl).cell 0; have rz := (S1.out.blk 1 rfl).lt; clear hb)))
  try go_step3
  go_wp2_with (first
    | (go_at_call 31; go_must (refine (HFR.out _).mono ?_; rintro e w4 ⟨b1, b2, b3, rfl, Z⟩; have S4 := Lib.hid (((S1.out.al #[.slice po (n + 1) co, .slice pt nt ct, .slice pr nr cr, .slice pv nv cv] 57 w1.heap.size rfl).al #[.slice none 0 0] 22 (w1.heap.size + 1) (by simp)).comp Z); clear Z)))
  clear S0 S1 HOp HFR r0 rz dr
  generalize w1.heap.size + 1 = g at *
  have S5 := Lib.hid (S4.out.nilrow 3 1 |>.pick [1, 2, 3, 4, 0, 7] (by decide) rfl : Sep w w4 [.blk b3 66 #[.func (.func 49) #[.agg #[.slice po (n + 1) co, .slice pt nt ct, .slice pr nr cr, .slice pv nv cv]] #[]], .blk b2 3 #[.int .i64 s], .blk b1 57 #[.slice po (n + 1) co, .slice pt nt ct, .slice pr nr cr, .slice pv nv cv], .blk g 22 #[.slice none ([] : List Int).length 0], .own 3 1 none ([] : List Int).length 0 (encI ([] : List Int)), .blk (w.heap.size + 1) 3 #[.int .i64 rad]])
  clear S4
  have HC := Lib.hid (fun (q : Option Addr) (l : List Int) (c : Nat) => (cells_all (Γ := [.blk b3 66 #[.func (.func 49) #[.agg #[.slice po (n + 1) co, .slice pt nt ct, .slice pr nr cr, .slice pv nv cv]] #[]], .blk b2 3 #[.int .i64 s], .blk b1 57 #[.slice po (n + 1) co, .slice pt nt ct, .slice pr nr cr, .slice pv nv cv], .blk g 22 #[.slice q l.length c], .own 3 1 q l.length c (encI l), .blk (w.heap.size + 1) 3 #[.int .i64 rad]]) fun p hp => by
      simp only [List.mem_cons, List.not_mem_nil, or_false] at hp
      rcases hp with rfl | rfl | rfl | rfl | rfl | rfl
      · exact .inl ⟨_, _, _, rfl⟩
      · exact .inl ⟨_, _, _, rfl⟩
      · exact .inl ⟨_, _, _, rfl⟩
      · exact .inl ⟨_, _, _, rfl⟩
      · exact .inr ⟨_, _, _, _, _, _, rfl⟩
      · exact .inl ⟨_, _, _, rfl⟩))
  refine wpIn_wide.1 (wpIn_rangeFunc_owned (F := Fence.wide) (n := 9) rfl (by omega) (gf := 47) (lb := #[.pointer (some ⟨b1, 0, none⟩), .pointer (some ⟨b2, 0, none⟩), .pointer (some ⟨b3, 0, none⟩)]) rfl trivial (enters_of Tryz.func47 (by kernel_rfl) rfl)
    (frontm_in 8 (by omega) po (n + 1) co pt nt ct pr nr cr pv nv cv b1 b2 b3 w.heap.size n s nx w4 S5.out.ext.size (S5.out.blk 2 rfl) (S5.out.blk 1 rfl) (S5.out.blk 0 rfl) hs hn rfl HIN.out (HNX.out w4 S5.out.ext))
    (fun h k => KpM.trans h k) (kpM_b S5.out.ext.size (S5.out.blk 2 rfl).lt (S5.out.blk 1 rfl).lt (S5.out.blk 0 rfl).lt) (Below.refl _ _) (fun _ => rfl)
    (BallI w (fun q l c => [.blk b3 66 #[.func (.func 49) #[.agg #[.slice po (n + 1) co, .slice pt nt ct, .slice pr nr cr, .slice pv nv cv]] #[]], .blk b2 3 #[.int .i64 s], .blk b1 57 #[.slice po (n + 1) co, .slice pt nt ct, .slice pr nr cr, .slice pv nv cv], .blk g 22 #[.slice q l.length c], .own 3 1 q l.length c (encI l), .blk (w.heap.size + 1) 3 #[.int .i64 rad]]) rad)
    (fun c pre M W => c = .exit 0 ∧ BallX w (fun q l c => [.blk b3 66 #[.func (.func 49) #[.agg #[.slice po (n + 1) co, .slice pt nt ct, .slice pr nr cr, .slice pv nv cv]] #[]], .blk b2 3 #[.int .i64 s], .blk b1 57 #[.slice po (n + 1) co, .slice pt nt ct, .slice pr nr cr, .slice pv nv cv], .blk g 22 #[.slice q l.length c], .own 3 1 q l.length c (encI l), .blk (w.heap.size + 1) 3 #[.int .i64 rad]]) rad pre M W)
    BallI.stab (fun c pre M M' W W' h hc hm => ⟨h.1, BallX.stab pre M M' W W' h.2 hc hm⟩)
    (BallI.own HC.out S5.out.ext.size) (fun c M pre W W' row h hg hr => ⟨h.1, BallX.own HC.out S5.out.ext.size M pre W W' row h.2 hg hr⟩)
    ylM_own ⟨none, 0, ⟨S5.out, fun _ _ _ _ h => h, fun _ h => h.elim⟩, fun _ h => (nomatch h)⟩ ?a1 ?assign ?body ?done ?stop)
  case assign =>
    intro l x W K hK
    simp only [ylE]
    gi_wp2
    exact hK
  case body =>
    rintro l pre ⟨⟨k, F, q', c'⟩, hF, lf⟩ M W ⟨q2, c2, hKM, hle⟩ hA hMw hlen
    obtain ⟨hRd, hMq, hMlt⟩ : Rd W 1 q' F.length (encI F) ∧ M (adr q' 0).block ∧ ∀ k, M k → k < W.heap.size := hA
    have hbl := ballP_len pre
    have hbl2 : pre.length * n ≤ n * n := Nat.mul_le_mul_right n (by omega)
    have hnn2 : n * n ≤ 200 * 200 := Nat.mul_le_mul hn hn
    have hF200 : F.length ≤ 200 := Nat.le_trans (front_bd8 (show IsFront (lev nx n s) n k F from hF)).2 hn
    have HSN := Lib.hid (ballP_snoc pre (⟨⟨k, F, q', c'⟩, hF, lf⟩ : YlOf nx n s))
    have HKM := Lib.hid hKM
    have HLE := Lib.hid hle
    have HM := Lib.hid hMlt
    have HR := Lib.hid hRd
    have c5 := (hKM.1.blk 5 rfl).cell 0
    have z5 := (hKM.1.blk 5 rfl).lt
    by_cases hk : rad < (k : Int)
    · have d1 : decide (rad < (k : Int)) = true := by simpa using hk
      have HX : Hid (BallX w (fun q l c => [.blk b3 66 #[.func (.func 49) #[.agg #[.slice po (n + 1) co, .slice pt nt ct, .slice pr nr cr, .slice pv nv cv]] #[]], .blk b2 3 #[.int .i64 s], .blk b1 57 #[.slice po (n + 1) co, .slice pt nt ct, .slice pr nr cr, .slice pv nv cv], .blk g 22 #[.slice q l.length c], .own 3 1 q l.length c (encI l), .blk (w.heap.size + 1) 3 #[.int .i64 rad]]) rad (pre ++ [(⟨⟨k, F, q', c'⟩, hF, lf⟩ : YlOf nx n s)]) M W) := ⟨pre, _, rfl, hk, q2, c2, hKM, hle⟩
      generalize pre ++ [(⟨⟨k, F, q', c'⟩, hF, lf⟩ : YlOf nx n s)] = pre2 at *
      clear hKM hle hRd hMlt hMq hMw hlen hbl hbl2 hnn2 hk
      gi_wp2
      exact ⟨KeepsFrom.refl _ _, rfl, HX.out⟩
    · have d1 : decide (rad < (k : Int)) = false := by simpa using hk
      have HLE2 : Hid (∀ y ∈ pre ++ [(⟨⟨k, F, q', c'⟩, hF, lf⟩ : YlOf nx n s)], (y.1.k : Int) ≤ rad) := fun y hy => by
        rcases List.mem_append.1 hy with hy | hy
        · exact hle y hy
        · obtain rfl := List.mem_singleton.1 hy
          show (k:Int) ≤ rad
          omega
      obtain ⟨X, hX⟩ : ∃ X, X = ballP pre := ⟨_, rfl⟩
      have HSN2 : Hid (ballP (pre ++ [(⟨⟨k, F, q', c'⟩, hF, lf⟩ : YlOf nx n s)]) = X ++ F) := by rw [hX]; exact HSN.out
      have hXl : X.length ≤ 40000 := by rw [hX]; omega
      rw [← hX] at HKM
      generalize pre ++ [(⟨⟨k, F, q', c'⟩, hF, lf⟩ : YlOf nx n s)] = pre2 at *
      have SF := Lib.hid (HKM.out.fix HM.out)
      have g0 := (SF.out.blk 3 rfl).cell 0
      have gf := (SF.out.blk 3 rfl).frozen 0
      have gz := (SF.out.blk 3 rfl).lt
      clear hKM hle hRd hMlt hMq hMw hlen hbl hbl2 hnn2 hk HSN hX HLE
      refine wpIn_block ?_
      refine wpIn_seq_k fun K hK => ?_
      have HK := Lib.hid hK
      clear hK
      gi_wp2
      refine HK.out _ _ ?_
      refine wpIn_region_list (by rintro ⟨_, _, h⟩; exact h) (by kernel_rfl) ?_
      go_wp2_with (at_builtin; go_must (refine wpList_append_sepK rfl _ _ _ rfl 3 i0 _ 1 8 Tryz.underlying22 hi0 hz0 hz1 hz2 rfl (by omega) SF.out 4 q2 X.length c2 _ rfl rfl _ F.length c' _ rfl HR.out (one_encI _) (by omega) (by omega) ?_; intro q3 c3 w' S' hsz hK1; have k4 := (S'.blk 3 rfl).cell 0; have kf := (S'.blk 3 rfl).frozen 0; have kz := (S'.blk 3 rfl).lt; have S6 := Lib.hid S'; have K6 := Lib.hid hK1; clear S' hsz hK1))
      have S7 := Lib.hid (S6.out.set 3 rfl 0 (.slice q3 (X.length + F.length) c3))
      obtain ⟨hk7, hfix⟩ := Sep.unfix (Γ := [.blk b3 66 #[.func (.func 49) #[.agg #[.slice po (n + 1) co, .slice pt nt ct, .slice pr nr cr, .slice pv nv cv]] #[]], .blk b2 3 #[.int .i64 s], .blk b1 57 #[.slice po (n + 1) co, .slice pt nt ct, .slice pr nr cr, .slice pv nv cv], .blk g 22 #[.slice q3 (X ++ F).length c3], .own 3 1 q3 (X ++ F).length c3 (encI (X ++ F)), .blk (w.heap.size + 1) 3 #[.int .i64 rad]]) (by rw [List.length_append, encI_append]; exact S7.out)
      have hsz : W.heap.size ≤ (w'.setCell ⟨g, 0, none⟩ (.slice q3 (X.length + F.length) c3)).heap.size := by simpa using K6.out.size
      exact ⟨(K6.out.trans (KeepsOthers.setCell _ _ _)).from _, ⟨⟨S7.out.ext.os.trans SF.out.ext.os.symm, S7.out.ext.tape.trans SF.out.ext.tape.symm, S7.out.ext.output.trans SF.out.ext.output.symm, hsz, fun kk hk => (S7.out.ext.block kk hk).trans (SF.out.ext.block kk hk).symm⟩, (S7.out.blk 2 rfl).trans (SF.out.blk 2 rfl).symm, (S7.out.blk 1 rfl).trans (SF.out.blk 1 rfl).symm, (S7.out.blk 0 rfl).trans (SF.out.blk 0 rfl).symm, fun kk o hM h1 _ => (hfix kk hM).trans h1⟩, q3, c3, by rw [HSN2.out]; exact hk7, HLE2.out⟩
  case done =>
    rintro D ys W hD hys ⟨M, q2, c2, hKM, hle⟩ hK
    have hb := ball_done hs hys hle
    have hbl := ball_len hb
    have c4 := (hKM.1.blk 3 rfl).cell 0
    have S6 := Lib.hid (hKM.1.obj (HC.out q2 _ c2) (Nat.le_trans S5.out.ext.size hD) hK rfl)
    clear hys hle hKM hK
    obtain ⟨X, hX⟩ : ∃ X, X = ballP ys := ⟨_, rfl⟩
    rw [← hX] at S6 hb hbl c4
    obtain ⟨L, hL⟩ : ∃ L, L = ballT ((List.range n).map fun v => lev nx n s v) rad n := ⟨_, rfl⟩
    rw [← hL] at hb
    have hle : X.length = L.length := by rw [← hb, sortI_len]
    have HL := Lib.hid hL
    have HX := Lib.hid hle
    clear hL hX hle
    go_wp2_with (go_at_call 35; go_must (refine (SortI_sep S6.out 4 rfl (by omega)).mono ?_; rintro e w7 ⟨rfl, S'⟩; rw [hb] at S'; have c5 := (S'.blk 3 rfl).cell 0; have S7 := Lib.hid S'; clear S'))
    rw [Exit.noGoto_ret]
    obtain ⟨S8, hK8⟩ := Sep.unobj (Γ := [.blk b3 66 #[.func (.func 49) #[.agg #[.slice po (n + 1) co, .slice pt nt ct, .slice pr nr cr, .slice pv nv cv]] #[]], .blk b2 3 #[.int .i64 s], .blk b1 57 #[.slice po (n + 1) co, .slice pt nt ct, .slice pr nr cr, .slice pv nv cv], .blk g 22 #[.slice q2 X.length c2], .own 3 1 q2 X.length c2 (encI L), .blk (w.heap.size + 1) 3 #[.int .i64 rad]]) S7.out
    have S9 := Lib.hid (S8.putObj (cells_all fun p hp => by
      simp only [List.mem_cons, List.not_mem_nil, or_false] at hp
      rcases hp with rfl | rfl | rfl | rfl | rfl | rfl
      · exact .inl ⟨_, _, _, rfl⟩
      · exact .inl ⟨_, _, _, rfl⟩
      · exact .inl ⟨_, _, _, rfl⟩
      · exact .inl ⟨_, _, _, rfl⟩
      · exact .inr ⟨_, _, _, _, _, _, rfl⟩
      · exact .inl ⟨_, _, _, rfl⟩) (.deferred none) (Nat.le_trans S5.out.ext.size hD) hK8 rfl)
    refine ⟨by simp, .inl ⟨_, _, rfl, run_takeDeferred hK8, ?_⟩⟩
    rw [← HL.out, ← HX.out]
    exact ⟨.tuple #[.slice q2 X.length c2, .int .i64 0], by simp [results, Tryz.results18, go_sem], q2, c2, rfl, S9.out.pick [4] (by decide) rfl⟩
  case stop =>
    rintro D c pre W hD hSp ⟨M, rfl, pre', x, rfl, hx, q2, c2, hKM, hle⟩ hK
    have hb := ball_stop hs hSp hle hx
    have hbl := ball_len hb
    have c4 := (hKM.1.blk 3 rfl).cell 0
    have S6 := Lib.hid (hKM.1.obj (HC.out q2 _ c2) (Nat.le_trans S5.out.ext.size hD) hK rfl)
    clear hSp hle hKM hK
    obtain ⟨X, hX⟩ : ∃ X, X = ballP pre' := ⟨_, rfl⟩
    rw [← hX] at S6 hb hbl c4
    obtain ⟨L, hL⟩ : ∃ L, L = ballT ((List.range n).map fun v => lev nx n s v) rad n := ⟨_, rfl⟩
    rw [← hL] at hb
    have hle : X.length = L.length := by rw [← hb, sortI_len]
    have HL := Lib.hid hL
    have HX := Lib.hid hle
    clear hL hX hle hx
    refine wpIn_wide.2 ?_
    go_wp2_with (go_at_call 35; go_must (refine (SortI_sep S6.out 4 rfl (by omega)).mono ?_; rintro e w7 ⟨rfl, S'⟩; rw [hb] at S'; have c5 := (S'.blk 3 rfl).cell 0; have S7 := Lib.hid S'; clear S'))
    rw [Exit.noGoto_ret]
    obtain ⟨S8, hK8⟩ := Sep.unobj (Γ := [.blk b3 66 #[.func (.func 49) #[.agg #[.slice po (n + 1) co, .slice pt nt ct, .slice pr nr cr, .slice pv nv cv]] #[]], .blk b2 3 #[.int .i64 s], .blk b1 57 #[.slice po (n + 1) co, .slice pt nt ct, .slice pr nr cr, .slice pv nv cv], .blk g 22 #[.slice q2 X.length c2], .own 3 1 q2 X.length c2 (encI L), .blk (w.heap.size + 1) 3 #[.int .i64 rad]]) S7.out
    have S9 := Lib.hid (S8.putObj (cells_all fun p hp => by
      simp only [List.mem_cons, List.not_mem_nil, or_false] at hp
      rcases hp with rfl | rfl | rfl | rfl | rfl | rfl
      · exact .inl ⟨_, _, _, rfl⟩
      · exact .inl ⟨_, _, _, rfl⟩
      · exact .inl ⟨_, _, _, rfl⟩
      · exact .inl ⟨_, _, _, rfl⟩
      · exact .inr ⟨_, _, _, _, _, _, rfl⟩
      · exact .inl ⟨_, _, _, rfl⟩) (.deferred none) (Nat.le_trans S5.out.ext.size hD) hK8 rfl)
    refine ⟨by simp, .inl ⟨_, _, rfl, run_takeDeferred hK8, ?_⟩⟩
    rw [← HL.out, ← HX.out]
    exact ⟨.tuple #[.slice q2 X.length c2, .int .i64 0], by simp [results, Tryz.results18, go_sem], q2, c2, rfl, S9.out.pick [4] (by decide) rfl⟩
end Go.Proofs.YtblghmfhchlllaaGreat
/- The program's levels (chapter 7): Ball whatever is asked, Reach. -/
namespace Go.Proofs.YtblghmfhchlllaaGreat
open Go Go.RowKit
attribute [local go_sem] Oper.semAt_some
theorem levC_zero {O T R V : List Int} {s : Int} (hc : levC (checkR O T R V) O s = 0) : checkR O T R V = true ∧ ∃ n a : Nat, O.length = n + 1 ∧ s = a ∧ a < n := by
  have hck : checkR O T R V = true := by
    apply Classical.byContradiction; intro h
    unfold levC at hc; rw [if_neg h] at hc; omega
  have hs : 0 ≤ s ∧ s < (O.length : Int) - 1 := by
    apply Classical.byContradiction; intro h
    unfold levC at hc; rw [if_pos hck, if_neg h] at hc; omega
  exact ⟨hck, O.length - 1, s.toNat, by omega, by omega, by omega⟩
/-- whatever is asked -/
theorem BallG (po : Option Addr) (no co : Nat) (O : List Int) (pt : Option Addr) (nt ct : Nat) (T : List Int) (pr : Option Addr) (nr cr : Nat) (R : List Int) (pv : Option Addr) (nv cv : Nat) (V : List Int) (s rad : Int) (back : Bool) (w : World) (hO : Rd w 1 po no (encI O)) (hT : Rd w 1 pt nt (encI T)) (hR : Rd w 1 pr nr (encI R)) (hV : Rd w 1 pv nv (encI V)) (hct : nt ≤ ct) (hcv : nv ≤ cv) :
    Calls Tryz.prog 18 #[.agg #[.slice po no co, .slice pt nt ct, .slice pr nr cr, .slice pv nv cv], .int .i64 s, .int .i64 rad, .bool back] w fun e w' => ∃ q c, e = .returned (.tuple #[.slice q (ballV (checkR O T R V) back O T R V s rad).length c, .int .i64 (ballC (checkR O T R V) O s rad)]) ∧ Sep w w' [.own 3 1 q (ballV (checkR O T R V) back O T R V s rad).length c (encI (ballV (checkR O T R V) back O T R V s rad))] := by
  by_cases hc : ballC (checkR O T R V) O s rad = 0
  · have hl : levC (checkR O T R V) O s = 0 := by
      apply Classical.byContradiction; intro h
      unfold ballC at hc; rw [if_neg h] at hc; exact h hc
    have hr : ¬ rad < 0 := fun h => by unfold ballC at hc; rw [if_pos hl, if_pos h] at hc; omega
    obtain ⟨hck, n, a, hn, rfl, ha⟩ := levC_zero hl
    have e : levR (checkR O T R V) back O T R V a = (List.range n).map fun v => lev (nxR back O T R V) n a v := by
      unfold levR; rw [if_pos hl, hn]; rfl
    have hll : ((List.range n).map fun v => lev (nxR back O T R V) n a v).length = n := by simp
    have e2 : ballV (checkR O T R V) back O T R V a rad = ballT ((List.range n).map fun v => lev (nxR back O T R V) n a v) rad n := by
      unfold ballV; rw [if_pos hc, e, hll]
    rw [hc, e2]
    cases back with
    | false => exact BallG_out po no co O pt nt ct T pr nr cr R pv nv cv V n a rad w hO hT hR hV hct hcv hck hn ha hr
    | true => exact BallG_in po no co O pt nt ct T pr nr cr R pv nv cv V n a rad w hO hT hR hV hct hcv hck hn ha hr
  · have e : ballV (checkR O T R V) back O T R V s rad = [] := by unfold ballV; rw [if_neg hc]
    rw [e]
    refine (BallG_no po no co O pt nt ct T pr nr cr R pv nv cv V s rad back w hO hT hR hV hct hcv hc).mono ?_
    rintro e w' ⟨rfl, h⟩
    exact ⟨none, 0, rfl, ((Sep.start w).call h).nilrow _ _⟩
theorem ballC_200 {ck : Bool} {O : List Int} {s : Int} : ballC ck O s 200 = levC ck O s := by
  unfold ballC
  by_cases h : levC ck O s = 0
  · rw [if_pos h, if_neg (by omega), h]
  · rw [if_neg h]
set_option maxHeartbeats 1000000 in
theorem ReachG (po : Option Addr) (no co : Nat) (O : List Int) (pt : Option Addr) (nt ct : Nat) (T : List Int) (pr : Option Addr) (nr cr : Nat) (R : List Int) (pv : Option Addr) (nv cv : Nat) (V : List Int) (s : Int) (back : Bool) (w : World) (hO : Rd w 1 po no (encI O)) (hT : Rd w 1 pt nt (encI T)) (hR : Rd w 1 pr nr (encI R)) (hV : Rd w 1 pv nv (encI V)) (hct : nt ≤ ct) (hcv : nv ≤ cv) :
    Calls Tryz.prog 14 #[.agg #[.slice po no co, .slice pt nt ct, .slice pr nr cr, .slice pv nv cv], .int .i64 s, .bool back] w fun e w' => ∃ q c, e = .returned (.tuple #[.slice q (ballV (checkR O T R V) back O T R V s 200).length c, .int .i64 (ballC (checkR O T R V) O s 200)]) ∧ Sep w w' [.own 3 1 q (ballV (checkR O T R V) back O T R V s 200).length c (encI (ballV (checkR O T R V) back O T R V s 200))] := by
  have S0 := Lib.hid ((Sep.start w).al #[.slice po no co, .slice pt nt ct, .slice pr nr cr, .slice pv nv cv] 24 w.heap.size rfl)
  have HB := Lib.hid (fun W1 (h : Ext w W1) => BallG po no co O pt nt ct T pr nr cr R pv nv cv V s 200 back W1 (hO.ext h) (hT.ext h) (hR.ext h) (hV.ext h) hct hcv)
  generalize ballC (checkR O T R V) O s 200 = c at *
  generalize ballV (checkR O T R V) back O T R V s 200 = X at *
  clear hO hT hR hV hct hcv
  go_enter Tryz.func14, Tryz.ntmps14
  go_wp2_with (go_at_call 18; go_must (refine (HB.out _ S0.out.ext).mono ?_; rintro e w1 ⟨q1, c1, rfl, Z⟩; have S1 := Lib.hid (S0.out.comp Z); clear Z))
  go_ret2
  exact ⟨q1, c1, rfl, S1.out.pick [0] (by decide) rfl⟩
end Go.Proofs.YtblghmfhchlllaaGreat
/- The reference's levels (chapter 7): Front. -/
namespace Go.Proofs.YtblghmfhchlllaaGreat
open Go Go.RowKit
/-- the places that ways from these lead to, way by way -/
def frontE (E : List (Int × Int)) (l : List Int) (k : Nat) : List Int := ((E.take k).filter fun e => inB l e.1).map (·.2)
theorem frontE_step {E : List (Int × Int)} {l : List Int} {k : Nat} (h : k < E.length) : frontE E l (k + 1) = frontE E l k ++ (if inB l (nth E k).1 = true then [(nth E k).2] else []) := by
  unfold frontE
  rw [take_succ_nth E k h, List.filter_append, List.map_append]
  congr 1
  cases h2 : inB l (nth E k).1 <;> simp [h2]
theorem frontE_len (E : List (Int × Int)) (l : List Int) (k : Nat) : (frontE E l k).length ≤ E.length := by
  unfold frontE
  rw [List.length_map]
  exact Nat.le_trans (List.length_filter_le _ _) (by rw [List.length_take]; omega)
def frontV (ck back : Bool) (O T l : List Int) : List Int := if openC ck O l = 0 then putAll ltI (frontE (edgD back O T) l (edgD back O T).length) else []
set_option maxRecDepth 100000 in
set_option maxHeartbeats 8000000 in
theorem Front07 (po : Option Addr) (no co : Nat) (O : List Int) (pt : Option Addr) (nt ct : Nat) (T : List Int) (pr : Option Addr) (nr cr : Nat) (R : List Int) (pv : Option Addr) (nv cv : Nat) (V : List Int) (p : Option Addr) (m c : Nat) (l : List Int) (back : Bool) (w : World) (hO : Rd w 1 po no (encI O)) (hT : Rd w 1 pt nt (encI T)) (hR : Rd w 1 pr nr (encI R)) (hV : Rd w 1 pv nv (encI V)) (hct : nt ≤ ct) (hcv : nv ≤ cv) (hl : Rd w 1 p m (encI l)) :
    Calls Tryz.prog 17 #[.agg #[.slice po no co, .slice pt nt ct, .slice pr nr cr, .slice pv nv cv], .slice p m c, .bool back] w fun e w' => ∃ q c, e = .returned (.tuple #[.slice q (frontV (checkR O T R V) back O T l).length c, .int .i64 (openC (checkR O T R V) O l)]) ∧ Sep w w' [.own 3 1 q (frontV (checkR O T R V) back O T l).length c (encI (frontV (checkR O T R V) back O T l))] := by
  obtain ⟨i0, hi0, hz0, hz1, hz2⟩ := info_parts infI
  have S0 := Lib.hid ((Sep.start w).al #[.slice po no co, .slice pt nt ct, .slice pr nr cr, .slice pv nv cv] 24 w.heap.size rfl)
  have HEX := Lib.hid (fun W1 (h : Ext w W1) => edges07 po no co O pt nt ct T pr nr cr R pv nv cv V W1 back (hO.ext h) (hT.ext h) (hR.ext h) (hV.ext h) hct hcv)
  have l1 := hO.nI
  have n1 := hO.small
  have p1 := hl.ptr
  have n2 := hl.small
  have L1 := Lib.hid hl.nI
  have HL := Lib.hid hl; clear hl
  unfold frontV
  cases hck : checkR O T R V with
  | false =>
    rw [hck] at HEX
    have HE : Hid (∀ W1, Ext w W1 → Calls Tryz.prog 33 #[.agg #[.slice po no co, .slice pt nt ct, .slice pr nr cr, .slice pv nv cv], .bool back] W1 fun e w' => ∃ q c, e = .returned (.tuple #[.slice q 0 c, .int .i64 40]) ∧ Sep W1 w' [.own 44 2 q 0 c []]) := HEX.out
    have e40 : openC false O l = 40 := rfl
    rw [e40, if_neg (by omega)]
    clear HEX hO hT hR hV hct hcv hck l1 e40
    go_enter Tryz.func17, Tryz.ntmps17
    go_wp2_with (go_at_call 33; go_must (refine (HE.out _ S0.out.ext).mono ?_; rintro e w1 ⟨q1, c1, rfl, Z⟩; have S1 := Lib.hid (S0.out.comp Z); have az := (S1.out.blk 1 rfl).lt; have a0 := (S1.out.blk 1 rfl).cell 0; have a1 := (S1.out.blk 1 rfl).cell 1; have a2 := (S1.out.blk 1 rfl).cell 2; have a3 := (S1.out.blk 1 rfl).cell 3; clear Z))
    go_ret2
    exact ⟨none, 0, rfl, ((Sep.start w).call S1.out.ext).nilrow _ _⟩
  | true =>
    rw [hck] at HEX
    have HE : Hid (∀ W1, Ext w W1 → Calls Tryz.prog 33 #[.agg #[.slice po no co, .slice pt nt ct, .slice pr nr cr, .slice pv nv cv], .bool back] W1 fun e w' => ∃ q c, e = .returned (.tuple #[.slice q (edgD back O T).length c, .int .i64 0]) ∧ Sep W1 w' [.own 44 2 q (edgD back O T).length c (encE (edgD back O T))]) := HEX.out
    have hml := edgD_len (checkR_half hck).2.2.1 back
    have LO := Lib.hid l1
    have hno1 : 1 ≤ no := by have := offB_parts (halfB_off (checkR_half hck).2.2.1); omega
    generalize edgD back O T = E at *
    clear HEX hO hT hR hV hct hcv hck l1
    obtain ⟨fv, hfv⟩ : ∃ fv, fv = (if openC true O l = 0 then putAll ltI (frontE E l E.length) else []) := ⟨_, rfl⟩
    rw [← hfv]
    have HFV := Lib.hid hfv
    obtain ⟨oc, hoc⟩ : ∃ oc, oc = openC true O l := ⟨_, rfl⟩
    rw [← hoc]
    have HOC := Lib.hid hoc
    clear hfv hoc
    go_enter Tryz.func17, Tryz.ntmps17
    go_wp2_with (go_at_call 33; go_must (refine (HE.out _ S0.out.ext).mono ?_; rintro e w1 ⟨q1, c1, rfl, Z⟩; have S1 := Lib.hid (S0.out.comp Z); have az := (S1.out.blk 1 rfl).lt; have a0 := (S1.out.blk 1 rfl).cell 0; have a1 := (S1.out.blk 1 rfl).cell 1; have a2 := (S1.out.blk 1 rfl).cell 2; have a3 := (S1.out.blk 1 rfl).cell 3; clear Z))
    go_loopw [10] (fun i wr => ∃ k : Nat, k ≤ m ∧ i = .int .i64 k ∧ Hid ((l.take k).all (fun x => decide (0 ≤ x) && decide (x < (O.length : Int) - 1)) = true) ∧ Sep w wr [.own 44 2 q1 E.length c1 (encE E), .blk w.heap.size 24 #[.slice po no co, .slice pt nt ct, .slice pr nr cr, .slice pv nv cv]]) (fun i _ => m - (intOf i).toNat)
    case atStart => exact ⟨0, Nat.zero_le _, rfl, rfl, S1.out⟩
    case round =>
      clear S0 S1 a0 a1 a2 a3 az
      obtain ⟨k, hk, rfl, ha, S⟩ := hrel
      have az := (S.blk 1 rfl).lt; have a0 := (S.blk 1 rfl).cell 0; have a1 := (S.blk 1 rfl).cell 1; have a2 := (S.blk 1 rfl).cell 2; have a3 := (S.blk 1 rfl).cell 3
      by_cases hlt : k < m
      · have g1 := S.ext.cell (HL.out.cI hlt)
        have d1 : (0:Int) ≤ k := by omega
        have d2 : (k:Int) < m := by omega
        have hkL : k < l.length := by rw [← L1.out]; exact hlt
        obtain ⟨x, hx⟩ : ∃ x, x = nth l k := ⟨_, rfl⟩
        rw [← hx] at g1
        have HX := Lib.hid hx
        clear hx
        by_cases h1 : x < 0
        · have e1 : decide (x < 0) = true := by simpa using h1
          have HF : Hid (openC true O l = 1) := by
            unfold Hid openC
            rw [if_pos rfl, if_neg]
            rw [all_false_at _ l k hkL (by rw [← HX.out]; simp; omega)]; simp
          clear h1 ha
          have SH := Lib.hid S; clear S
          go_wp2
          have u1 := fun x : ExtOf wr => x.ext.cell g1
          have u2 := fun x : ExtOf wr => x.ext.cell a0
          refine wp_region_ext (by kernel_rfl) (by kernel_rfl) ?_
          repeat (go_big_quiet_step ((fail)))
          refine wpQuiet_nil ?_
          rintro w9 ⟨⟨_, hb9⟩, rfl⟩
          go_wp2
          go_ret2
          have hf0 : fv = [] := by rw [HFV.out, HF.out]; rfl
          have ho1 : oc = 1 := by rw [HOC.out, HF.out]
          exact ⟨none, 0, by rw [hf0, ho1]; rfl, by rw [hf0]; exact ((Sep.start w).call (Ext.trans SH.out.ext hb9)).nilrow _ _⟩
        · have e1 : decide (x < 0) = false := by simpa using h1
          by_cases h2 : (no:Int) - 1 ≤ x
          · have e2 : decide ((no:Int) - 1 ≤ x) = true := by simpa using h2
            have HF : Hid (openC true O l = 1) := by
              unfold Hid openC
              rw [if_pos rfl, if_neg]
              have := LO.out
              rw [all_false_at _ l k hkL (by rw [← HX.out]; simp; omega)]; simp
            clear h1 h2 ha
            have SH := Lib.hid S; clear S
            go_wp2
            have u1 := fun x : ExtOf wr => x.ext.cell g1
            have u2 := fun x : ExtOf wr => x.ext.cell a0
            refine wp_region_ext (by kernel_rfl) (by kernel_rfl) ?_
            repeat (go_big_quiet_step ((fail)))
            refine wpQuiet_nil ?_
            rintro w9 ⟨⟨_, hb9⟩, rfl⟩
            go_wp2
            go_ret2
            have hf0 : fv = [] := by rw [HFV.out, HF.out]; rfl
            have ho1 : oc = 1 := by rw [HOC.out, HF.out]
            exact ⟨none, 0, by rw [hf0, ho1]; rfl, by rw [hf0]; exact ((Sep.start w).call (Ext.trans SH.out.ext hb9)).nilrow _ _⟩
          · have e2 : decide ((no:Int) - 1 ≤ x) = false := by simpa using h2
            have HS : Hid ((l.take (k + 1)).all (fun x => decide (0 ≤ x) && decide (x < (O.length : Int) - 1)) = true) := by
              have := LO.out
              exact all_step _ l k hkL ha.out (by rw [← HX.out]; simp; omega)
            clear h1 h2 ha
            have SH := Lib.hid S; clear S
            go_wp2
            have u1 := fun x : ExtOf wr => x.ext.cell g1
            have u2 := fun x : ExtOf wr => x.ext.cell a0
            refine wp_region_ext (by kernel_rfl) (by kernel_rfl) ?_
            repeat (go_big_quiet_step ((fail)))
            refine wpQuiet_nil ?_
            rintro w9 ⟨⟨_, hb9⟩, rfl⟩
            have S4 := Lib.hid (SH.out.call hb9)
            clear u1 u2 hb9
            go_wp2
            go_roundw
            case rel => exact ⟨k + 1, by omega, by go_num, HS.out, S4.out⟩
            case measure => simp [intOf]; omega
      · have HF : Hid (openC true O l = 0) := by
          unfold Hid openC
          rw [if_pos rfl, if_pos (all_end _ l k (by rw [← L1.out]; exact hlt) ha.out)]
        clear ha
        have SH := Lib.hid S; clear S
        go_wp2
        go_loopw [11, 12] (fun v11 i wx => ∃ (j : Nat) (q2 : Option Addr) (c2 : Nat), j ≤ E.length ∧ i = .int .i64 j ∧ v11 = .slice q2 (frontE E l j).length c2 ∧ Sep w wx [.own 3 1 q2 (frontE E l j).length c2 (encI (frontE E l j)), .own 44 2 q1 E.length c1 (encE E), .blk w.heap.size 24 #[.slice po no co, .slice pt nt ct, .slice pr nr cr, .slice pv nv cv]]) (fun _ i _ => E.length - (intOf i).toNat)
        case atStart => exact ⟨0, none, 0, Nat.zero_le _, rfl, rfl, SH.out.nilrow 3 1⟩
        case round =>
          clear SH a0 a1 a2 a3 az
          obtain ⟨j, q2, c2, hj, rfl, rfl, S⟩ := hrel
          have pE := (S.rdx 1 rfl).ptr
          have p2 := (S.rdx 0 rfl).ptr
          have hfl := frontE_len E l j
          by_cases hlj : j < E.length
          · have g1 := (S.rdx 1 rfl).cE hlj
            have g2 := (S.rdx 1 rfl).cE2 hlj
            have hst := frontE_step (l := l) hlj
            have HIn := Lib.hid (In05 p m c l (nth E j).1 wr (HL.out.ext S.ext))
            have d1 : (0:Int) ≤ j := by omega
            have d2 : (j:Int) < E.length := by omega
            generalize nth E j = x at *
            cases hin : inB l x.1 with
            | true =>
              rw [hin] at HIn
              rw [hin, if_pos rfl] at hst
              have HS := Lib.hid hst
              generalize frontE E l j = y at *
              have SH := Lib.hid S; clear S
              clear hst hin
              go_wp2_with (first
                | (at_builtin; go_must (refine wpList_append_sep rfl _ _ _ rfl 3 i0 _ 1 8 Tryz.underlying22 hi0 hz0 hz1 hz2 rfl (by omega) (S5.out.junk _) 0 q2 y.length c2 _ rfl rfl _ 1 1 _ rfl (Rd.oneI _ _ _) (one_encI _) (by omega) (by omega) ?_; intro q' c' w7 S' hsz; have S6 := Lib.hid S'; clear S' hsz))
                | (go_at_call 37; go_must (refine HIn.out.mono ?_; rintro e w5 ⟨rfl, rfl⟩; have S5 := Lib.hid SH.out)))
              go_roundw
              case rel => exact ⟨j + 1, q', c', by omega, by go_num, by rw [HS.out, List.length_append]; rfl, by rw [HS.out, List.length_append, encI_append]; exact S6.out⟩
              case measure => simp [intOf]; omega
            | false =>
              rw [hin] at HIn
              rw [hin, if_neg (by simp), List.append_nil] at hst
              have HS := Lib.hid hst
              generalize frontE E l j = y at *
              have SH := Lib.hid S; clear S
              clear hst hin
              go_wp2_with (go_at_call 37; go_must (refine HIn.out.mono ?_; rintro e w5 ⟨rfl, rfl⟩; have S5 := Lib.hid SH.out))
              go_roundw
              case rel => exact ⟨j + 1, q2, c2, by omega, by go_num, by rw [HS.out], by rw [HS.out]; exact S5.out⟩
              case measure => simp [intOf]; omega
          · obtain rfl : j = E.length := by omega
            have HRi := Lib.hid (Rising05s q2 _ c2 (frontE E l E.length) wr (S.rdx 0 rfl) (by omega))
            obtain ⟨y, hy⟩ : ∃ y, y = frontE E l E.length := ⟨_, rfl⟩
            rw [← hy] at HRi S
            rw [← hy]
            have HY : Hid (frontE E l E.length = y) := hy.symm
            clear hy
            have SH := Lib.hid S; clear S
            go_wp2_with (go_at_call 22; go_must (refine HRi.out.mono ?_; rintro e w6 ⟨q6, c6, rfl, Z⟩; have S7 := Lib.hid (SH.out.comp Z); clear Z))
            go_ret2
            have hf0 : fv = putAll ltI y := by rw [HFV.out, HF.out, if_pos rfl, HY.out]
            have ho1 : oc = 0 := by rw [HOC.out, HF.out]
            exact ⟨q6, c6, by rw [hf0, ho1]; rfl, by rw [hf0]; exact S7.out.pick [0] (by decide) rfl⟩
end Go.Proofs.YtblghmfhchlllaaGreat
/- The program's front (chapter 7), in plain Lean. -/
namespace Go.Proofs.YtblghmfhchlllaaGreat
open Go Go.RowKit
/-- where these lead to, one after the other -/
def frontR (nx : Nat → List Int) (l : List Int) : List Int := l.flatMap fun v => nx v.toNat
theorem frontR_step {nx : Nat → List Int} {l : List Int} {k : Nat} (h : k < l.length) : frontR nx (l.take (k + 1)) = frontR nx (l.take k) ++ nx (nth l k).toNat := by
  unfold frontR
  rw [take_succ_nth l k h, List.flatMap_append]; simp
theorem frontR_len {nx : Nat → List Int} {B : Nat} : ∀ {l : List Int}, (∀ x ∈ l, (nx x.toNat).length ≤ B) → (frontR nx l).length ≤ l.length * B
  | [], _ => by simp [frontR]
  | a :: l, h => by
    have h1 := frontR_len (l := l) (nx := nx) (B := B) fun x hx => h x (List.mem_cons_of_mem _ hx)
    have h2 := h a List.mem_cons_self
    have e : frontR nx (a :: l) = nx a.toNat ++ frontR nx l := by simp [frontR]
    rw [e, List.length_append, List.length_cons, Nat.succ_mul]
    omega
theorem sortI_by (l : List Int) : sortI l = sortBy ltI l := by
  unfold sortI sortBy
  congr 1
  funext x y
  unfold ltI
  by_cases h : x ≤ y
  · rw [decide_eq_true h]; simp; omega
  · rw [decide_eq_false h]; simp; omega
theorem putAll_same {l m : List Int} (h : ∀ x, x ∈ l ↔ x ∈ m) : putAll ltI l = putAll ltI m :=
  rises_uniq stoI _ _ (putAll_rises stoI _) (putAll_rises stoI _) fun x => by rw [putAll_mem stoI, putAll_mem stoI, h]
theorem frontE_mem {E : List (Int × Int)} {l : List Int} {x : Int} : x ∈ frontE E l E.length ↔ ∃ u, u ∈ l ∧ (u, x) ∈ E := by
  unfold frontE
  rw [List.take_length, List.mem_map]
  constructor
  · rintro ⟨e, h, rfl⟩
    obtain ⟨h1, h2⟩ := List.mem_filter.1 h
    exact ⟨e.1, (inB_iff _ _).1 h2, h1⟩
  · rintro ⟨u, h1, h2⟩
    exact ⟨(u, x), List.mem_filter.2 ⟨h2, (inB_iff _ _).2 h1⟩, rfl⟩
theorem frontR_put {O T R V : List Int} (hck : checkR O T R V = true) (back : Bool) {l : List Int} {n : Nat} (hno : O.length = n + 1) (hl : ∀ x ∈ l, 0 ≤ x ∧ x < n) :
    dedup (sortI (frontR (nxR back O T R V) l)) = putAll ltI (frontE (edgD back O T) l (edgD back O T).length) := by
  rw [sortI_by, once_putAll stoI]
  refine putAll_same fun x => ?_
  have hin := nxR_in hck back
  have hbd := edgD_bd (checkR_half hck).2.2.1 back
  have hn : O.length - 1 = n := by omega
  rw [frontE_mem]
  unfold frontR
  rw [List.mem_flatMap]
  constructor
  · rintro ⟨u, h1, h2⟩
    obtain ⟨u1, u2⟩ := hl u h1
    obtain ⟨x1, x2⟩ := hin u.toNat (by omega) x h2
    refine ⟨u, h1, ?_⟩
    have := (edgD_mem hck back u.toNat x.toNat (by omega) (by omega)).2 (by rwa [Int.toNat_of_nonneg x1])
    rwa [Int.toNat_of_nonneg x1, Int.toNat_of_nonneg u1] at this
  · rintro ⟨u, h1, h2⟩
    obtain ⟨u1, u2⟩ := hl u h1
    obtain ⟨_, _, x1, x2⟩ := hbd _ h2
    simp only at x1 x2
    refine ⟨u, h1, ?_⟩
    have := (edgD_mem hck back u.toNat x.toNat (by omega) (by omega)).1 (by rwa [Int.toNat_of_nonneg x1, Int.toNat_of_nonneg u1])
    rwa [Int.toNat_of_nonneg x1] at this
theorem nxR_small {O T R V : List Int} (hck : checkR O T R V = true) (back : Bool) {n k : Nat} (hno : O.length = n + 1) (hk : k < n) : (nxR back O T R V k).length ≤ n := by
  have hn : O.length - 1 = n := by omega
  have hr := row_rises8 hck back (u := k) (by omega)
  refine nodup_small (hr.imp fun h => ?_) fun x hx => ?_
  · intro e; subst e; unfold ltI at h; simp at h
  · have := nxR_in hck back k (by omega) x hx
    rw [hn] at this; exact this
theorem openC_zero {O T R V l : List Int} (h : openC (checkR O T R V) O l = 0) : checkR O T R V = true ∧ ∃ n : Nat, O.length = n + 1 ∧ ∀ x ∈ l, 0 ≤ x ∧ x < n := by
  have hck : checkR O T R V = true := by
    apply Classical.byContradiction; intro h2
    unfold openC at h; rw [if_neg h2] at h; omega
  have r := offB_parts (halfB_off (checkR_half hck).2.2.1)
  refine ⟨hck, O.length - 1, by omega, fun x hx => ?_⟩
  unfold openC at h
  rw [if_pos hck] at h
  have ha : l.all (fun x => decide (0 ≤ x) && decide (x < (O.length : Int) - 1)) = true := by
    apply Classical.byContradiction; intro h2
    rw [if_neg h2] at h; omega
  have := List.all_eq_true.1 ha x hx
  rw [Bool.and_eq_true, decide_eq_true_eq, decide_eq_true_eq] at this
  omega
end Go.Proofs.YtblghmfhchlllaaGreat
/- The library's Compact of integers, onto a row of the call's own. -/
namespace Go.Proofs.YtblghmfhchlllaaGreat
open Go Go.RowKit Go.Shelf Go.Lib Go.Sort
theorem CompactI (base : Nat) (q : Option Addr) (n c : Nat) (l : List Int) (w : World) (ho : w.ownsRow base 3 1 (.slice q n c) n (encI l)) (hn : n ≤ 1000000) :
    Calls Tryz.prog 36 #[.slice q n c] w fun e w' => e = .returned (.slice q (dedup l).length c) ∧ w'.ownsRow base 3 1 (.slice q (dedup l).length c) (dedup l).length (encI (dedup l)) ∧ w.grownBy w' (blkOf q) := by
  have hl : n = l.length := by have := ho.1; rw [encI_len] at this; omega
  by_cases h0 : n = 0
  · subst h0
    have hnil : l = [] := List.eq_nil_of_length_eq_zero hl.symm
    subst hnil
    refine (Any.slices_Compact_int_empty Tryz.compI q c w).mono ?_
    rintro e w' ⟨he, rfl⟩
    exact ⟨he, ho, World.grownBy.refl _ _⟩
  · obtain ⟨g, hq, hg⟩ := own_block ho h0
    subst hq
    have hcon := Any.slices_Compact_int Tryz.compI g 0 c l w (holdsI ho hn) (by omega) (by have := own_cap ho; omega)
    rw [← hl] at hcon
    refine hcon.mono ?_
    rintro e w' ⟨he, m, rfl⟩
    have hd : Lib.compact l = dedup l := rfl
    rw [hd] at he ⊢
    have hdl : (dedup l).length ≤ n := by
      unfold dedup compactUpTo; rw [hl, List.length_map]
      exact Nat.le_trans (List.length_filter_le _ _) (by simp)
    have e3 : putRow (Value.int .i64) (Sort.ahead w m) g 0 (dedup l ++ List.replicate (n - (dedup l).length) 0).toArray = grow (putRow id (Sort.ahead w m) g 0 (encI (dedup l) ++ encI (List.replicate (n - (dedup l).length) 0)).toArray) #[] := by
      rw [putRow_mapI, grow_empty]; simp [encI]
    rw [e3]
    have hp := own_put ho (ys := encI (dedup l) ++ encI (List.replicate (n - (dedup l).length) 0)) (by rw [List.length_append, encI_len, encI_len, List.length_replicate]; omega) m #[]
    exact ⟨he, own_take hp.1 (by rw [encI_len, Nat.mul_one]) hdl, hp.2⟩
/-- onto a piece -/
theorem CompactI_sep {w0 w : World} {Γ : List Pc} (S : Sep w0 w Γ) (j : Nat) {q : Option Addr} {n c : Nat} {l : List Int} (hj : Γ[j]? = some (.own 3 1 q n c (encI l))) (hn : n ≤ 1000000) :
    Calls Tryz.prog 36 #[.slice q n c] w fun e w' => e = .returned (.slice q (dedup l).length c) ∧ Sep w0 w' (Γ.set j (.own 3 1 q (dedup l).length c (encI (dedup l)))) :=
  (CompactI _ q n c l w (S.own j hj) hn).mono fun _ _ ⟨he, ho, hg⟩ => ⟨he, S.put j hj _ hg (fun _ hk => hk) (own_base ho (Nat.zero_le _)) fun _ hk => .inl hk⟩
end Go.Proofs.YtblghmfhchlllaaGreat
/- The program's levels (chapter 7): Front. -/
namespace Go.Proofs.YtblghmfhchlllaaGreat
open Go Go.RowKit Go.Shelf Go.Lib
attribute [local go_sem] Oper.semAt_some
set_option maxRecDepth 100000 in
set_option maxHeartbeats 4000000 in
theorem FrontG_no (po : Option Addr) (no co : Nat) (O : List Int) (pt : Option Addr) (nt ct : Nat) (T : List Int) (pr : Option Addr) (nr cr : Nat) (R : List Int) (pv : Option Addr) (nv cv : Nat) (V : List Int) (p : Option Addr) (m c : Nat) (l : List Int) (back : Bool) (w : World) (hO : Rd w 1 po no (encI O)) (hT : Rd w 1 pt nt (encI T)) (hR : Rd w 1 pr nr (encI R)) (hV : Rd w 1 pv nv (encI V)) (hct : nt ≤ ct) (hcv : nv ≤ cv) (hl : Rd w 1 p m (encI l)) (hc : openC (checkR O T R V) O l ≠ 0) :
    Calls Tryz.prog 16 #[.agg #[.slice po no co, .slice pt nt ct, .slice pr nr cr, .slice pv nv cv], .slice p m c, .bool back] w fun e w' => e = .returned (.tuple #[.slice none 0 0, .int .i64 (openC (checkR O T R V) O l)]) ∧ Ext w w' := by
  have S0 := Lib.hid ((Sep.start w).al #[.slice po no co, .slice pt nt ct, .slice pr nr cr, .slice pv nv cv] 24 w.heap.size rfl)
  have HOp := Lib.hid (fun W1 (h : Ext w W1) => openL po no co O pt nt ct T pr nr cr R pv nv cv V p m c l W1 (hO.ext h) (hT.ext h) (hR.ext h) (hV.ext h) hct hcv (hl.ext h))
  generalize openC (checkR O T R V) O l = cc at *
  have hc0 : (cc != 0) = true := by simpa using hc
  clear hO hT hR hV hct hcv hc hl
  go_enter Tryz.func16, Tryz.ntmps16
  go_wp2_with (go_at_call 28; go_must (refine (HOp.out _ S0.out.ext).mono ?_; rintro e w1 ⟨rfl, hb⟩; have S1 := Lib.hid (S0.out.call hb); clear hb))
  go_ret2
  exact ⟨rfl, (S1.out.al #[.slice po no co, .slice pt nt ct, .slice pr nr cr, .slice pv nv cv] 57 w1.heap.size rfl).ext⟩
set_option maxRecDepth 100000 in
set_option maxHeartbeats 8000000 in
theorem FrontG_out (po : Option Addr) (no co : Nat) (O : List Int) (pt : Option Addr) (nt ct : Nat) (T : List Int) (pr : Option Addr) (nr cr : Nat) (R : List Int) (pv : Option Addr) (nv cv : Nat) (V : List Int) (p : Option Addr) (m c : Nat) (l : List Int) (w : World) (hO : Rd w 1 po no (encI O)) (hT : Rd w 1 pt nt (encI T)) (hR : Rd w 1 pr nr (encI R)) (hV : Rd w 1 pv nv (encI V)) (hct : nt ≤ ct) (hcv : nv ≤ cv) (hl : Rd w 1 p m (encI l)) (hm : m ≤ 4000) (hc : openC (checkR O T R V) O l = 0) :
    Calls Tryz.prog 16 #[.agg #[.slice po no co, .slice pt nt ct, .slice pr nr cr, .slice pv nv cv], .slice p m c, .bool false] w fun e w' => ∃ q c, e = .returned (.tuple #[.slice q (frontV true false O T l).length c, .int .i64 0]) ∧ Sep w w' [.own 3 1 q (frontV true false O T l).length c (encI (frontV true false O T l))] := by
  obtain ⟨i0, hi0, hz0, hz1, hz2⟩ := info_parts infI
  obtain ⟨hck, n, hno, hbd⟩ := openC_zero hc
  have S0 := Lib.hid ((Sep.start w).al #[.slice po no co, .slice pt nt ct, .slice pr nr cr, .slice pv nv cv] 24 w.heap.size rfl)
  have HOp := Lib.hid (fun W1 (h : Ext w W1) => openL po no co O pt nt ct T pr nr cr R pv nv cv V p m c l W1 (hO.ext h) (hT.ext h) (hR.ext h) (hV.ext h) hct hcv (hl.ext h))
  rw [hc] at HOp
  have HNT := Lib.hid (fun W => waysNext po no co pt nt ct pr nr cr pv nv cv false W)
  have en : nextV false (.agg #[.slice po no co, .slice pt nt ct, .slice pr nr cr, .slice pv nv cv]) = .func (.func 50) #[.agg #[.slice po no co, .slice pt nt ct, .slice pr nr cr, .slice pv nv cv]] #[] := rfl
  rw [en] at HNT
  obtain ⟨e1, e2, e3, e4⟩ := checkR_half hck
  have r := offB_parts (halfB_off e3)
  have hn : n ≤ 200 := by omega
  have HRW : Hid (∀ k, k < n → ∃ q c, Rd w 1 q ((rowL O T) k).length (encI ((rowL O T) k)) ∧ ∀ W, Ext w W → Calls Tryz.prog 50 #[.agg #[.slice po no co, .slice pt nt ct, .slice pr nr cr, .slice pv nv cv], .int .i64 k] W fun e w' => e = .returned (.slice q ((rowL O T) k).length c) ∧ Ext W w') := fun k hk =>
    waysOutR po no co O pt nt ct T pr nr cr R pv nv cv V k w hO hT (offOk_of (halfB_off e3)) hct (by omega)
  have HSM : Hid (∀ k, k < n → ((rowL O T) k).length ≤ 200) := fun k hk => Nat.le_trans (nxR_small hck false hno hk) hn
  have hfin := frontR_put hck false hno hbd
  have hfv : frontV true false O T l = dedup (sortI (frontR (rowL O T) l)) := by
    unfold frontV
    rw [hck] at hc
    rw [if_pos hc, ← hfin]; rfl
  rw [hfv]
  have HBD := Lib.hid hbd
  have L1 := Lib.hid hl.nI
  have p1 := hl.ptr
  have n2 := hl.small
  have HL := Lib.hid hl; clear hl
  clear hO hT hR hV hct hcv hck hno hc e1 e2 e3 e4 r hfin hfv hbd en
  generalize rowL O T = nx at *
  go_enter Tryz.func16, Tryz.ntmps16
  go_wp2_with (first
    | (go_at_call 34; go_must (refine (HNT.out _).mono ?_; rintro e w2 ⟨rfl, hb⟩; have S2 := Lib.hid ((S1.out.al #[.slice po no co, .slice pt nt ct, .slice pr nr cr, .slice pv nv cv] 57 w1.heap.size rfl).call hb); clear hb))
    | (go_at_call 28; go_must (refine (HOp.out _ S0.out.ext).mono ?_; rintro e w1 ⟨rfl, hb⟩; have S1 := Lib.hid (S0.out.call hb); clear hb)))
  go_loopw [11, 13, 28] (fun v11 _ i wr => ∃ (k : Nat) (q2 : Option Addr) (c2 : Nat), k ≤ m ∧ i = .int .i64 k ∧ v11 = .slice q2 (frontR nx (l.take k)).length c2 ∧ Sep w wr [.own 3 1 q2 (frontR nx (l.take k)).length c2 (encI (frontR nx (l.take k)))]) (fun _ _ i _ => m - (intOf i).toNat)
  case atStart => exact ⟨0, none, 0, Nat.zero_le _, rfl, rfl, ((Sep.start w).call S2.out.ext).nilrow 3 1⟩
  case round =>
    clear S0 S1 S2 HOp HNT
    obtain ⟨k, q2, c2, hk, rfl, rfl, S⟩ := hrel
    have hXl : (frontR nx (l.take k)).length ≤ 800000 := by
      have := frontR_len (nx := nx) (B := 200) (l := l.take k) fun x hx => by
        have := HBD.out x (List.mem_of_mem_take hx)
        exact HSM.out _ (by omega)
      rw [List.length_take] at this
      omega
    by_cases hlt : k < m
    · have g1 := S.ext.cell (HL.out.cI hlt)
      have d1 : (0:Int) ≤ k := by omega
      have d2 : (k:Int) < m := by omega
      have hkL : k < l.length := by rw [← L1.out]; exact hlt
      obtain ⟨a, ha, han⟩ : ∃ a : Nat, nth l k = (a:Int) ∧ a < n := by
        have := HBD.out _ (nth_mem hkL)
        exact ⟨(nth l k).toNat, by omega, by omega⟩
      have hst := frontR_step (nx := nx) hkL
      rw [ha] at g1
      rw [ha, Int.toNat_natCast] at hst
      have HST := Lib.hid hst
      have hRl := HSM.out a han
      obtain ⟨qr, cw, hrd, hcl⟩ := HRW.out a han
      have HC := Lib.hid (hcl wr S.ext)
      have HRD := Lib.hid hrd
      clear hst hrd hcl ha
      generalize frontR nx (l.take k) = X at *
      generalize nx a = RW at *
      have SH := Lib.hid S; clear S
      go_wp2_with (first
        | (at_builtin; go_must (refine wpList_append_sep rfl _ _ _ rfl 3 i0 _ 1 8 Tryz.underlying22 hi0 hz0 hz1 hz2 rfl (by omega) S5.out 0 q2 X.length c2 _ rfl rfl _ RW.length cw _ rfl (HRD.out.ext S5.out.ext) (one_encI _) (by omega) (by omega) ?_; intro q' c' w7 S' hsz; have S6 := Lib.hid S'; clear S' hsz))
        | (go_at_call 50; go_must (refine HC.out.mono ?_; rintro e w5 ⟨rfl, hb⟩; have S5 := Lib.hid (SH.out.call hb); clear hb)))
      go_roundw
      case rel => exact ⟨k + 1, q', c', by omega, by go_num, by rw [HST.out, List.length_append], by rw [HST.out, List.length_append, encI_append]; exact S6.out⟩
      case measure => simp [intOf]; omega
    · have hX : Hid (frontR nx (l.take k) = frontR nx l) := by
        unfold Hid
        rw [List.take_of_length_le (by rw [← L1.out]; omega)]
      rw [hX.out] at S hXl ⊢
      obtain ⟨X, hX2⟩ : ∃ X, X = frontR nx l := ⟨_, rfl⟩
      rw [← hX2] at S hXl ⊢
      have HX2 := Lib.hid hX2
      clear hX2 hX
      have SH := Lib.hid S; clear S
      go_wp2_with (first
        | (go_at_call 35; go_must (refine (SortI_sep SH.out 0 rfl (by omega)).mono ?_; rintro e w6 ⟨rfl, S'⟩; have S6 := Lib.hid S'; clear S'))
        | (go_at_call 36; go_must (refine (CompactI_sep S6.out 0 rfl (by omega)).mono ?_; rintro e w7 ⟨rfl, S'⟩; have S7 := Lib.hid S'; clear S')))
      go_ret2
      rw [← HX2.out]
      exact ⟨q2, c2, rfl, S7.out⟩
set_option maxRecDepth 100000 in
set_option maxHeartbeats 8000000 in
theorem FrontG_in (po : Option Addr) (no co : Nat) (O : List Int) (pt : Option Addr) (nt ct : Nat) (T : List Int) (pr : Option Addr) (nr cr : Nat) (R : List Int) (pv : Option Addr) (nv cv : Nat) (V : List Int) (p : Option Addr) (m c : Nat) (l : List Int) (w : World) (hO : Rd w 1 po no (encI O)) (hT : Rd w 1 pt nt (encI T)) (hR : Rd w 1 pr nr (encI R)) (hV : Rd w 1 pv nv (encI V)) (hct : nt ≤ ct) (hcv : nv ≤ cv) (hl : Rd w 1 p m (encI l)) (hm : m ≤ 4000) (hc : openC (checkR O T R V) O l = 0) :
    Calls Tryz.prog 16 #[.agg #[.slice po no co, .slice pt nt ct, .slice pr nr cr, .slice pv nv cv], .slice p m c, .bool true] w fun e w' => ∃ q c, e = .returned (.tuple #[.slice q (frontV true true O T l).length c, .int .i64 0]) ∧ Sep w w' [.own 3 1 q (frontV true true O T l).length c (encI (frontV true true O T l))] := by
  obtain ⟨i0, hi0, hz0, hz1, hz2⟩ := info_parts infI
  obtain ⟨hck, n, hno, hbd⟩ := openC_zero hc
  have S0 := Lib.hid ((Sep.start w).al #[.slice po no co, .slice pt nt ct, .slice pr nr cr, .slice pv nv cv] 24 w.heap.size rfl)
  have HOp := Lib.hid (fun W1 (h : Ext w W1) => openL po no co O pt nt ct T pr nr cr R pv nv cv V p m c l W1 (hO.ext h) (hT.ext h) (hR.ext h) (hV.ext h) hct hcv (hl.ext h))
  rw [hc] at HOp
  have HNT := Lib.hid (fun W => waysNext po no co pt nt ct pr nr cr pv nv cv true W)
  have en : nextV true (.agg #[.slice po no co, .slice pt nt ct, .slice pr nr cr, .slice pv nv cv]) = .func (.func 49) #[.agg #[.slice po no co, .slice pt nt ct, .slice pr nr cr, .slice pv nv cv]] #[] := rfl
  rw [en] at HNT
  obtain ⟨e1, e2, e3, e4⟩ := checkR_half hck
  have r := offB_parts (halfB_off e3)
  have hn : n ≤ 200 := by omega
  have HRW : Hid (∀ k, k < n → ∃ q c, Rd w 1 q ((rowL R V) k).length (encI ((rowL R V) k)) ∧ ∀ W, Ext w W → Calls Tryz.prog 49 #[.agg #[.slice po no co, .slice pt nt ct, .slice pr nr cr, .slice pv nv cv], .int .i64 k] W fun e w' => e = .returned (.slice q ((rowL R V) k).length c) ∧ Ext W w') := fun k hk =>
    waysInR po no co O pt nt ct T pr nr cr R pv nv cv V k w hR hV (offOk_of (halfB_off e4)) hcv (by omega)
  have HSM : Hid (∀ k, k < n → ((rowL R V) k).length ≤ 200) := fun k hk => Nat.le_trans (nxR_small hck true hno hk) hn
  have hfin := frontR_put hck true hno hbd
  have hfv : frontV true true O T l = dedup (sortI (frontR (rowL R V) l)) := by
    unfold frontV
    rw [hck] at hc
    rw [if_pos hc, ← hfin]; rfl
  rw [hfv]
  have HBD := Lib.hid hbd
  have L1 := Lib.hid hl.nI
  have p1 := hl.ptr
  have n2 := hl.small
  have HL := Lib.hid hl; clear hl
  clear hO hT hR hV hct hcv hck hno hc e1 e2 e3 e4 r hfin hfv hbd en
  generalize rowL R V = nx at *
  go_enter Tryz.func16, Tryz.ntmps16
  go_wp2_with (first
    | (go_at_call 34; go_must (refine (HNT.out _).mono ?_; rintro e w2 ⟨rfl, hb⟩; have S2 := Lib.hid ((S1.out.al #[.slice po no co, .slice pt nt ct, .slice pr nr cr, .slice pv nv cv] 57 w1.heap.size rfl).call hb); clear hb))
    | (go_at_call 28; go_must (refine (HOp.out _ S0.out.ext).mono ?_; rintro e w1 ⟨rfl, hb⟩; have S1 := Lib.hid (S0.out.call hb); clear hb)))
  go_loopw [11, 13, 28] (fun v11 _ i wr => ∃ (k : Nat) (q2 : Option Addr) (c2 : Nat), k ≤ m ∧ i = .int .i64 k ∧ v11 = .slice q2 (frontR nx (l.take k)).length c2 ∧ Sep w wr [.own 3 1 q2 (frontR nx (l.take k)).length c2 (encI (frontR nx (l.take k)))]) (fun _ _ i _ => m - (intOf i).toNat)
  case atStart => exact ⟨0, none, 0, Nat.zero_le _, rfl, rfl, ((Sep.start w).call S2.out.ext).nilrow 3 1⟩
  case round =>
    clear S0 S1 S2 HOp HNT
    obtain ⟨k, q2, c2, hk, rfl, rfl, S⟩ := hrel
    have hXl : (frontR nx (l.take k)).length ≤ 800000 := by
      have := frontR_len (nx := nx) (B := 200) (l := l.take k) fun x hx => by
        have := HBD.out x (List.mem_of_mem_take hx)
        exact HSM.out _ (by omega)
      rw [List.length_take] at this
      omega
    by_cases hlt : k < m
    · have g1 := S.ext.cell (HL.out.cI hlt)
      have d1 : (0:Int) ≤ k := by omega
      have d2 : (k:Int) < m := by omega
      have hkL : k < l.length := by rw [← L1.out]; exact hlt
      obtain ⟨a, ha, han⟩ : ∃ a : Nat, nth l k = (a:Int) ∧ a < n := by
        have := HBD.out _ (nth_mem hkL)
        exact ⟨(nth l k).toNat, by omega, by omega⟩
      have hst := frontR_step (nx := nx) hkL
      rw [ha] at g1
      rw [ha, Int.toNat_natCast] at hst
      have HST := Lib.hid hst
      have hRl := HSM.out a han
      obtain ⟨qr, cw, hrd, hcl⟩ := HRW.out a han
      have HC := Lib.hid (hcl wr S.ext)
      have HRD := Lib.hid hrd
      clear hst hrd hcl ha
      generalize frontR nx (l.take k) = X at *
      generalize nx a = RW at *
      have SH := Lib.hid S; clear S
      go_wp2_with (first
        | (at_builtin; go_must (refine wpList_append_sep rfl _ _ _ rfl 3 i0 _ 1 8 Tryz.underlying22 hi0 hz0 hz1 hz2 rfl (by omega) S5.out 0 q2 X.length c2 _ rfl rfl _ RW.length cw _ rfl (HRD.out.ext S5.out.ext) (one_encI _) (by omega) (by omega) ?_; intro q' c' w7 S' hsz; have S6 := Lib.hid S'; clear S' hsz))
        | (go_at_call 49; go_must (refine HC.out.mono ?_; rintro e w5 ⟨rfl, hb⟩; have S5 := Lib.hid (SH.out.call hb); clear hb)))
      go_roundw
      case rel => exact ⟨k + 1, q', c', by omega, by go_num, by rw [HST.out, List.length_append], by rw [HST.out, List.length_append, encI_append]; exact S6.out⟩
      case measure => simp [intOf]; omega
    · have hX : Hid (frontR nx (l.take k) = frontR nx l) := by
        unfold Hid
        rw [List.take_of_length_le (by rw [← L1.out]; omega)]
      rw [hX.out] at S hXl ⊢
      obtain ⟨X, hX2⟩ : ∃ X, X = frontR nx l := ⟨_, rfl⟩
      rw [← hX2] at S hXl ⊢
      have HX2 := Lib.hid hX2
      clear hX2 hX
      have SH := Lib.hid S; clear S
      go_wp2_with (first
        | (go_at_call 35; go_must (refine (SortI_sep SH.out 0 rfl (by omega)).mono ?_; rintro e w6 ⟨rfl, S'⟩; have S6 := Lib.hid S'; clear S'))
        | (go_at_call 36; go_must (refine (CompactI_sep S6.out 0 rfl (by omega)).mono ?_; rintro e w7 ⟨rfl, S'⟩; have S7 := Lib.hid S'; clear S')))
      go_ret2
      rw [← HX2.out]
      exact ⟨q2, c2, rfl, S7.out⟩
/-- whatever is asked -/
theorem FrontG (po : Option Addr) (no co : Nat) (O : List Int) (pt : Option Addr) (nt ct : Nat) (T : List Int) (pr : Option Addr) (nr cr : Nat) (R : List Int) (pv : Option Addr) (nv cv : Nat) (V : List Int) (p : Option Addr) (m c : Nat) (l : List Int) (back : Bool) (w : World) (hO : Rd w 1 po no (encI O)) (hT : Rd w 1 pt nt (encI T)) (hR : Rd w 1 pr nr (encI R)) (hV : Rd w 1 pv nv (encI V)) (hct : nt ≤ ct) (hcv : nv ≤ cv) (hl : Rd w 1 p m (encI l)) (hm : m ≤ 4000) :
    Calls Tryz.prog 16 #[.agg #[.slice po no co, .slice pt nt ct, .slice pr nr cr, .slice pv nv cv], .slice p m c, .bool back] w fun e w' => ∃ q c, e = .returned (.tuple #[.slice q (frontV (checkR O T R V) back O T l).length c, .int .i64 (openC (checkR O T R V) O l)]) ∧ Sep w w' [.own 3 1 q (frontV (checkR O T R V) back O T l).length c (encI (frontV (checkR O T R V) back O T l))] := by
  by_cases hc : openC (checkR O T R V) O l = 0
  · have hck := (openC_zero hc).1
    rw [hc, hck]
    cases back with
    | false => exact FrontG_out po no co O pt nt ct T pr nr cr R pv nv cv V p m c l w hO hT hR hV hct hcv hl hm hc
    | true => exact FrontG_in po no co O pt nt ct T pr nr cr R pv nv cv V p m c l w hO hT hR hV hct hcv hl hm hc
  · have e : frontV (checkR O T R V) back O T l = [] := by unfold frontV; rw [if_neg hc]
    rw [e]
    refine (FrontG_no po no co O pt nt ct T pr nr cr R pv nv cv V p m c l back w hO hT hR hV hct hcv hl hc).mono ?_
    rintro e w' ⟨rfl, h⟩
    exact ⟨none, 0, rfl, ((Sep.start w).call h).nilrow _ _⟩
end Go.Proofs.YtblghmfhchlllaaGreat
/- The document's example of chapter 7: its rows, and what is told of them. -/
namespace Go.Proofs.YtblghmfhchlllaaGreat
open Go Go.RowKit
def ex7E : List (Int × Int) := [(0, 1), (0, 2), (1, 2), (3, 0)]
def ex7O : List Int := [0, 2, 3, 3, 4]
def ex7T : List Int := [1, 2, 2, 0]
def ex7R : List Int := [0, 1, 2, 4, 4]
def ex7V : List Int := [3, 0, 0, 1]
theorem ex7I : isB 4 ex7E [[], [], [], []] = true := by decide +kernel
theorem ex7O_eq : offL 4 ex7E = ex7O := by decide +kernel
theorem ex7T_eq : toL ex7E = ex7T := by decide +kernel
theorem ex7R_eq : offL 4 (turnE ex7E) = ex7R := by decide +kernel
theorem ex7V_eq : toL (turnE ex7E) = ex7V := by decide +kernel
theorem ex7Ck : checkR ex7O ex7T ex7R ex7V = true := by decide +kernel
theorem ex7A : levR true false ex7O ex7T ex7R ex7V 0 = [0, 1, 1, -1] := by decide +kernel
theorem ex7B : levR true true ex7O ex7T ex7R ex7V 0 = [0, -1, -1, 1] := by decide +kernel
theorem ex7C : frontV true false ex7O ex7T [0, 1] = [1, 2] := by decide +kernel
theorem ex7D : ballV true false ex7O ex7T ex7R ex7V 3 1 = [0, 3] := by decide +kernel
theorem ex7c0 : levC true ex7O 0 = 0 := by decide +kernel
theorem ex7c4 : levC true ex7O 4 = 1 := by decide +kernel
theorem ex7oc : openC true ex7O [0, 1] = 0 := by decide +kernel
theorem ex7bc : ballC true ex7O 3 1 = 0 := by decide +kernel
theorem ex7no : levC (checkR [] [] [] []) [] 0 = 40 := by decide +kernel
theorem ex7Cells : (#[.int .i64 0, .int .i64 1, .int .i64 0, .int .i64 2, .int .i64 1, .int .i64 2, .int .i64 3, .int .i64 0] : Array Value).toList = encE ex7E := by simp [encE, ex7E]
theorem made4s : (madeCells (Value.slice none 0 0).cells (4 * 1)).toList = [.slice none 0 0, .slice none 0 0, .slice none 0 0, .slice none 0 0] := by kernel_rfl
theorem ex7Mk (p q : Option Addr) (W : World) (h1 : Rd W 2 p 4 (encE ex7E)) (h0 : Rd W 1 q 4 [.slice none 0 0, .slice none 0 0, .slice none 0 0, .slice none 0 0]) : Calls Tryz.prog 27 #[.agg #[.int .i64 4, .slice p 4 4, .slice q 4 4]] W fun e w' =>
    ∃ po no co pt nt ct pr nr cr pv nv cv, e = .returned (.tuple #[.agg #[.slice po no co, .slice pt nt ct, .slice pr nr cr, .slice pv nv cv], .int .i64 0]) ∧ R4 w' po no pt nt pr nr pv nv ex7O ex7T ex7R ex7V ∧ nt ≤ ct ∧ nv ≤ cv ∧ Ext W w' := by
  have h2 : RdW W q 4 [⟨none, 0, 0⟩, ⟨none, 0, 0⟩, ⟨none, 0, 0⟩, ⟨none, 0, 0⟩] [[], [], [], []] := ⟨rfl, h0, fun j hj => by
    have : j = 0 ∨ j = 1 ∨ j = 2 ∨ j = 3 := by omega
    rcases this with rfl | rfl | rfl | rfl <;> exact Rd.nil _ _ _⟩
  have hz : SzW [[], [], [], []] := fun l hl s hs => by simp at hl; subst hl; cases hs
  refine (RMakeG_yes 4 _ 4 4 _ 4 4 ex7E _ _ W h1 h2 hz ex7I).mono ?_
  rintro e w' ⟨v, rfl, ⟨po, no, co, pt, nt, ct, pr, nr, cr, pv, nv, cv, rfl, k1, k2, k3, k4, k5, k6, k7, k8⟩, hb⟩
  rw [ex7O_eq] at k1
  rw [ex7T_eq] at k2
  rw [ex7R_eq] at k3
  rw [ex7V_eq] at k4
  exact ⟨po, no, co, pt, nt, ct, pr, nr, cr, pv, nv, cv, rfl, ⟨k1, k2, k3, k4⟩, k6, k8, hb⟩
section
variable (po : Option Addr) (no co : Nat) (pt : Option Addr) (nt ct : Nat) (pr : Option Addr) (nr cr : Nat) (pv : Option Addr) (nv cv : Nat) (w : World) (h : R4 w po no pt nt pr nr pv nv ex7O ex7T ex7R ex7V) (hct : nt ≤ ct) (hcv : nv ≤ cv)
include h hct hcv
theorem ex7L1 : Calls Tryz.prog 11 #[.agg #[.slice po no co, .slice pt nt ct, .slice pr nr cr, .slice pv nv cv], .int .i64 0, .bool false] w fun e w' => ∃ q c, e = .returned (.tuple #[.slice q 4 c, .int .i64 0]) ∧ Sep w w' [.own 3 1 q 4 c (encI [0, 1, 1, -1])] := by
  have := LevelsG po no co ex7O pt nt ct ex7T pr nr cr ex7R pv nv cv ex7V 0 false w h.o h.t h.r h.v hct hcv
  rw [ex7Ck, ex7A, ex7c0] at this
  exact this
theorem ex7L2 : Calls Tryz.prog 11 #[.agg #[.slice po no co, .slice pt nt ct, .slice pr nr cr, .slice pv nv cv], .int .i64 0, .bool true] w fun e w' => ∃ q c, e = .returned (.tuple #[.slice q 4 c, .int .i64 0]) ∧ Sep w w' [.own 3 1 q 4 c (encI [0, -1, -1, 1])] := by
  have := LevelsG po no co ex7O pt nt ct ex7T pr nr cr ex7R pv nv cv ex7V 0 true w h.o h.t h.r h.v hct hcv
  rw [ex7Ck, ex7B, ex7c0] at this
  exact this
theorem ex7L3 : Calls Tryz.prog 11 #[.agg #[.slice po no co, .slice pt nt ct, .slice pr nr cr, .slice pv nv cv], .int .i64 4, .bool false] w fun e w' => ∃ q c, e = .returned (.tuple #[.slice q 0 c, .int .i64 1]) ∧ Ext w w' := by
  have := LevelsG po no co ex7O pt nt ct ex7T pr nr cr ex7R pv nv cv ex7V 4 false w h.o h.t h.r h.v hct hcv
  have e : levR true false ex7O ex7T ex7R ex7V 4 = [] := by decide +kernel
  rw [ex7Ck, e, ex7c4] at this
  exact this.mono fun e w' ⟨q, c, h1, S⟩ => ⟨q, c, h1, S.ext⟩
theorem ex7F (q : Option Addr) (c : Nat) (hl : Rd w 1 q 2 (encI [0, 1])) : Calls Tryz.prog 16 #[.agg #[.slice po no co, .slice pt nt ct, .slice pr nr cr, .slice pv nv cv], .slice q 2 c, .bool false] w fun e w' => ∃ q c, e = .returned (.tuple #[.slice q 2 c, .int .i64 0]) ∧ Sep w w' [.own 3 1 q 2 c (encI [1, 2])] := by
  have := FrontG po no co ex7O pt nt ct ex7T pr nr cr ex7R pv nv cv ex7V q 2 c [0, 1] false w h.o h.t h.r h.v hct hcv hl (by decide)
  rw [ex7Ck, ex7C, ex7oc] at this
  exact this
theorem ex7Bl : Calls Tryz.prog 18 #[.agg #[.slice po no co, .slice pt nt ct, .slice pr nr cr, .slice pv nv cv], .int .i64 3, .int .i64 1, .bool false] w fun e w' => ∃ q c, e = .returned (.tuple #[.slice q 2 c, .int .i64 0]) ∧ Sep w w' [.own 3 1 q 2 c (encI [0, 3])] := by
  have := BallG po no co ex7O pt nt ct ex7T pr nr cr ex7R pv nv cv ex7V 3 1 false w h.o h.t h.r h.v hct hcv
  rw [ex7Ck, ex7D, ex7bc] at this
  exact this
end
theorem ex7N (w : World) : Calls Tryz.prog 11 #[.agg #[.slice none 0 0, .slice none 0 0, .slice none 0 0, .slice none 0 0], .int .i64 0, .bool false] w fun e w' => e = .returned (.tuple #[.slice none 0 0, .int .i64 40]) ∧ Ext w w' := by
  have := LevelsG_no none 0 0 [] none 0 0 [] none 0 0 [] none 0 0 [] 0 false w (Rd.nil _ _ _) (Rd.nil _ _ _) (Rd.nil _ _ _) (Rd.nil _ _ _) (Nat.le_refl _) (Nat.le_refl _) (by rw [ex7no]; decide)
  rw [ex7no] at this
  exact this
theorem row1_cells (w : World) (c : Array Value) (l : List Int) (n g : Nat) (hg : w.heap.size = g) (hc : c.toList = encI l) (hn : c.size = n) (hm : n ≤ maxLen) : Rd (w.alloc (.cells c 3)) 1 (some ⟨g, 0, none⟩) n (encI l) := by
  subst hg
  have h := ((Sep.start w).alrow c 3 1 n w.heap.size rfl hm (by omega))
  rw [hc] at h
  exact h.rd 0 rfl (Nat.le_trans hm (by decide))
set_option maxRecDepth 100000 in
set_option maxHeartbeats 4000000 in
theorem Levels7 (w : World) : Calls Tryz.prog 10 #[] w fun e w' => e = .returned (.bool true) ∧ Ext w w' := by
  obtain ⟨i0, hi0, hz0, hz1, hz2⟩ := info_parts inf35
  have SE : Hid (Sep w (w.alloc (.cells #[.int .i64 0, .int .i64 1, .int .i64 0, .int .i64 2, .int .i64 1, .int .i64 2, .int .i64 3, .int .i64 0] 44)) [.own 44 2 (some ⟨w.heap.size, 0, none⟩) 4 4 (encE ex7E)]) := by
    have h := (Sep.start w).alrow #[.int .i64 0, .int .i64 1, .int .i64 0, .int .i64 2, .int .i64 1, .int .i64 2, .int .i64 3, .int .i64 0] 44 2 4 w.heap.size rfl (by decide) rfl
    rw [ex7Cells] at h
    exact h
  have HQ : Hid ((w.alloc (.cells #[.int .i64 0, .int .i64 1, .int .i64 0, .int .i64 2, .int .i64 1, .int .i64 2, .int .i64 3, .int .i64 0] 44)).heap.size = w.heap.size + 1) := by unfold Hid; simp
  go_enter Tryz.func10, Tryz.ntmps10
  go_wp2_with (first
    | (at_make; go_must (refine wpList_make_sep rfl _ _ _ rfl 85 i0 _ 1 Tryz.underlying53 hi0 hz0 hz1 (4:Int) 4 rfl rfl rfl (by rw [hz2]; omega) (by unfold maxLen; omega) SE.out ?_; intro w0 S'; rw [made4s, HQ.out] at S'; have S0 := Lib.hid S'; clear S'))
    | (go_at_call 20; have _t := S10; go_must (refine (IntsY _ _ _ _ _ _ [0, 3] _ (((S10.out.rdx 0 rfl)).ext (Ext.alloc (Below.refl _ _) _)) (row1_cells w10 _ [0, 3] _ _ rfl rfl rfl (by decide))).mono ?_; rintro e w11 ⟨rfl, hb0⟩; have hb := Ext.trans (Ext.alloc (Below.refl _ _) _) hb0; have S11 := Lib.hid (S10.out.call hb); clear hb hb0))
    | (go_at_call 20; have _t := S9; go_must (refine (IntsY _ _ _ _ _ _ [1, 2] _ (((S9.out.rdx 1 rfl)).ext (Ext.alloc (Below.refl _ _) _)) (row1_cells w9 _ [1, 2] _ _ rfl rfl rfl (by decide))).mono ?_; rintro e w10 ⟨rfl, hb0⟩; have hb := Ext.trans (Ext.alloc (Below.refl _ _) _) hb0; have S10 := Lib.hid (S9.out.call hb); clear hb hb0))
    | (go_at_call 20; have _t := S8; go_must (refine (IntsY _ _ _ _ _ _ [0, -1, -1, 1] _ (((S8.out.rdx 2 rfl)).ext (Ext.alloc (Below.refl _ _) _)) (row1_cells w8 _ [0, -1, -1, 1] _ _ rfl rfl rfl (by decide))).mono ?_; rintro e w9 ⟨rfl, hb0⟩; have hb := Ext.trans (Ext.alloc (Below.refl _ _) _) hb0; have S9 := Lib.hid (S8.out.call hb); clear hb hb0))
    | (go_at_call 20; have _t := S7; go_must (refine (IntsY _ _ _ _ _ _ [0, 1, 1, -1] _ (((S7.out.rdx 3 rfl)).ext (Ext.alloc (Below.refl _ _) _)) (row1_cells w7 _ [0, 1, 1, -1] _ _ rfl rfl rfl (by decide))).mono ?_; rintro e w8 ⟨rfl, hb0⟩; have hb := Ext.trans (Ext.alloc (Below.refl _ _) _) hb0; have S8 := Lib.hid (S7.out.call hb); clear hb hb0))
    | (go_at_call 11; have _t := S6; go_must (refine (ex7N _).mono ?_; rintro e w7 ⟨rfl, hb⟩; have S7 := Lib.hid (S6.out.call hb); clear hb))
    | (go_at_call 11; have _t := S5; go_must (refine (ex7L3 po no co pt nt ct pr nr cr pv nv cv _ (HR.out.ext S5.out.ext) hct hcv).mono ?_; rintro e w6 ⟨q6, c6, rfl, hb⟩; have S6 := Lib.hid (S5.out.call hb); clear hb))
    | (go_at_call 18; go_must (refine (ex7Bl po no co pt nt ct pr nr cr pv nv cv _ (HR.out.ext S4.out.ext) hct hcv).mono ?_; rintro e w5 ⟨q5, c5, rfl, Z⟩; have S5 := Lib.hid (S4.out.comp Z); have a5z := (S5.out.blk 4 rfl).lt; have a50 := (S5.out.blk 4 rfl).cell 0; have a51 := (S5.out.blk 4 rfl).cell 1; have a52 := (S5.out.blk 4 rfl).cell 2; have a53 := (S5.out.blk 4 rfl).cell 3; clear Z))
    | (go_at_call 16; go_must (refine (ex7F po no co pt nt ct pr nr cr pv nv cv _ (HR.out.ext (Ext.trans S3.out.ext (Ext.alloc (Below.refl _ _) _))) hct hcv _ _ (row1_cells w3 _ [0, 1] _ _ rfl rfl rfl (by decide))).mono ?_; rintro e w4 ⟨q4, c4, rfl, Z0⟩; have Z := Sep.comp (S3.out.junk (.cells #[.int .i64 0, .int .i64 1] 3)) Z0; have S4 := Lib.hid Z; have a4z := (S4.out.blk 3 rfl).lt; have a40 := (S4.out.blk 3 rfl).cell 0; have a41 := (S4.out.blk 3 rfl).cell 1; have a42 := (S4.out.blk 3 rfl).cell 2; have a43 := (S4.out.blk 3 rfl).cell 3; clear Z Z0))
    | (go_at_call 11; have _t := S2; go_must (refine (ex7L2 po no co pt nt ct pr nr cr pv nv cv _ (HR.out.ext S2.out.ext) hct hcv).mono ?_; rintro e w3 ⟨q3, c3, rfl, Z⟩; have S3 := Lib.hid (S2.out.comp Z); have a3z := (S3.out.blk 2 rfl).lt; have a30 := (S3.out.blk 2 rfl).cell 0; have a31 := (S3.out.blk 2 rfl).cell 1; have a32 := (S3.out.blk 2 rfl).cell 2; have a33 := (S3.out.blk 2 rfl).cell 3; clear Z))
    | (go_at_call 11; have _t := S1; go_must (refine (ex7L1 po no co pt nt ct pr nr cr pv nv cv _ (HR.out.ext S1.out.ext) hct hcv).mono ?_; rintro e w2 ⟨q2, c2, rfl, Z⟩; have S2 := Lib.hid (S1.out.comp Z); have a2z := (S2.out.blk 1 rfl).lt; have a20 := (S2.out.blk 1 rfl).cell 0; have a21 := (S2.out.blk 1 rfl).cell 1; have a22 := (S2.out.blk 1 rfl).cell 2; have a23 := (S2.out.blk 1 rfl).cell 3; clear Z))
    | (go_at_call 27; go_must (refine (ex7Mk _ _ _ (S0.out.rd 1 rfl (by decide)) (S0.out.rd 0 rfl (by decide))).mono ?_; rintro e w1 ⟨po, no, co, pt, nt, ct, pr, nr, cr, pv, nv, cv, rfl, hr, hct, hcv, hb⟩; have E1 := Lib.hid (Ext.trans S0.out.ext hb); have HR := Lib.hid hr; have S1 := Lib.hid ((Sep.start w1).al #[.slice po no co, .slice pt nt ct, .slice pr nr cr, .slice pv nv cv] 24 w1.heap.size rfl); clear hb hr)))
  go_ret
  exact ⟨rfl, Ext.trans E1.out S11.out.ext⟩
end Go.Proofs.YtblghmfhchlllaaGreat
/- The laws of chapter 7, in plain Lean. -/
namespace Go.Proofs.YtblghmfhchlllaaGreat
open Go Go.RowKit
/-- no further than by way of another place -/
theorem lev_tri {nx nb : Nat → List Int} {n u v w : Nat} (h : Rev nx nb n) (hu : u < n) (hv : v < n) (hw : w < n) (h1 : 0 ≤ lev nx n u v) (h2 : 0 ≤ lev nx n v w) :
    0 ≤ lev nx n u w ∧ lev nx n u w ≤ lev nx n u v + lev nx n v w := by
  have e := lev_rev h hv hw
  have := lev_over h hu hw hv h1 (by rw [← e]; exact h2)
  rw [← e] at this; exact this
theorem ball_law {O T R V : List Int} (hck : checkR O T R V = true) (back : Bool) {n a : Nat} {r : Int} (hno : O.length = n + 1) (ha : a < n) (hr : 1 ≤ r) :
    openC true O (ballV true back O T R V a (r - 1)) = 0 ∧ (ballV true back O T R V a (r - 1)).length ≤ n ∧ putAll ltI (ballV true back O T R V a (r - 1) ++ frontV true back O T (ballV true back O T R V a (r - 1))) = ballV true back O T R V a r := by
  have hl : levC true O a = 0 := by unfold levC; rw [if_pos rfl, if_pos (by omega)]
  have e1 : levR true back O T R V a = (List.range n).map fun v => lev (nxR back O T R V) n a v := by
    unfold levR; rw [if_pos hl, hno]; rfl
  have hll : ((List.range n).map fun v => lev (nxR back O T R V) n a v).length = n := by simp
  have e2 : ∀ rad : Int, 0 ≤ rad → ballV true back O T R V a rad = ballT ((List.range n).map fun v => lev (nxR back O T R V) n a v) rad n := fun rad h => by
    unfold ballV
    rw [if_pos (by unfold ballC; rw [if_pos hl, if_neg (by omega)]), e1, hll]
  have hb : ∀ x ∈ ballT ((List.range n).map fun v => lev (nxR back O T R V) n a v) (r - 1) n, 0 ≤ x ∧ x < n := fun x hx => by
    have := ballT_mem.1 hx; omega
  rw [e2 _ (by omega), e2 _ (by omega)]
  have ho : openC true O (ballT ((List.range n).map fun v => lev (nxR back O T R V) n a v) (r - 1) n) = 0 := by
    unfold openC
    rw [if_pos rfl, if_pos]
    rw [List.all_eq_true]
    intro x hx
    have := hb x hx
    rw [Bool.and_eq_true, decide_eq_true_eq, decide_eq_true_eq]; omega
  have lo := lev_ok (nxR back O T R V) n a ha
  have hin := nxR_in hck back
  have hn : O.length - 1 = n := by omega
  rw [hn] at hin
  refine ⟨ho, ballT_len _ _ _, ?_⟩
  refine rises_uniq stoI _ _ (putAll_rises stoI _) (ballT_rises _ _ _) fun x => ?_
  unfold frontV
  rw [if_pos ho, putAll_mem stoI, List.mem_append, putAll_mem stoI, frontE_mem]
  have hbd := edgD_bd (checkR_half hck).2.2.1 back
  have hem := edgD_mem hck back
  rw [hn] at hbd hem
  constructor
  · rintro (h | ⟨u, h1, h2⟩)
    · have := ballT_mem.1 h
      exact ballT_mem.2 ⟨this.1, this.2.1, this.2.2.1, by omega⟩
    · obtain ⟨u1, u2, u3, u4⟩ := ballT_mem.1 h1
      obtain ⟨_, _, x1, x2⟩ := hbd _ h2
      simp only at x1 x2
      rw [levL_nth (by omega)] at u3 u4
      have h3 := (hem u.toNat x.toNat (by omega) (by omega)).1 (by rwa [Int.toNat_of_nonneg x1, Int.toNat_of_nonneg u1])
      have h4 := lo.next u.toNat x.toNat (by omega) (by omega) h3 u3
      refine ballT_mem.2 ⟨x1, x2, ?_⟩
      rw [levL_nth (by omega)]
      omega
  · intro h
    obtain ⟨x1, x2, x3, x4⟩ := ballT_mem.1 h
    rw [levL_nth (by omega)] at x3 x4
    by_cases hx : lev (nxR back O T R V) n a x.toNat ≤ r - 1
    · exact .inl (ballT_mem.2 ⟨x1, x2, by rw [levL_nth (by omega)]; exact ⟨x3, hx⟩⟩)
    · obtain ⟨u, hu, h1, h2⟩ := lo.pred x.toNat (by omega) (by omega)
      refine .inr ⟨u, ballT_mem.2 ⟨by omega, by omega, ?_⟩, ?_⟩
      · rw [Int.toNat_natCast, levL_nth hu]; omega
      · have := (hem u x.toNat hu (by omega)).2 h2
        rwa [Int.toNat_of_nonneg x1] at this
theorem front_small {O T R V l : List Int} (hck : checkR O T R V = true) (back : Bool) {n : Nat} (hno : O.length = n + 1) : (frontV true back O T l).length ≤ n := by
  unfold frontV
  by_cases h : openC true O l = 0
  · rw [if_pos h]
    refine nodup_small ((putAll_rises stoI _).imp fun h => ?_) fun x hx => ?_
    · intro e; subst e; unfold ltI at h; simp at h
    · rw [putAll_mem stoI, frontE_mem] at hx
      obtain ⟨u, _, h2⟩ := hx
      have := edgD_bd (checkR_half hck).2.2.1 back _ h2
      simp only at this
      omega
  · rw [if_neg h]; exact Nat.zero_le _
/-- which places have one of the level below, as far as ways are gone through -/
def belowB (A : List Int) (E : List (Int × Int)) (i v : Nat) : Bool := (E.take i).any fun e => decide (e.2 = v) && (decide (0 ≤ nth A e.1.toNat) && decide (nth A e.2.toNat = nth A e.1.toNat + 1))
def belowL (A : List Int) (E : List (Int × Int)) (n i : Nat) : List Value := (List.range n).map fun v => .bool (belowB A E i v)
theorem belowL_len (A : List Int) (E : List (Int × Int)) (n i : Nat) : (belowL A E n i).length = n := by simp [belowL]
theorem belowL_0 (A : List Int) (E : List (Int × Int)) (n : Nat) : belowL A E n 0 = List.replicate n (.bool false) := by
  apply List.ext_getElem
  · simp [belowL]
  · intro j h1 h2; simp [belowL, belowB]
theorem belowB_step {A : List Int} {E : List (Int × Int)} {i v : Nat} (h : i < E.length) : belowB A E (i + 1) v = (belowB A E i v || (decide ((nth E i).2 = v) && (decide (0 ≤ nth A (nth E i).1.toNat) && decide (nth A (nth E i).2.toNat = nth A (nth E i).1.toNat + 1)))) := by
  unfold belowB
  rw [take_succ_nth E i h, List.any_append]
  simp
theorem belowL_yes {A : List Int} {E : List (Int × Int)} {n i b : Nat} (h : i < E.length) (hb : (nth E i).2 = b) (h1 : 0 ≤ nth A (nth E i).1.toNat) (h2 : nth A b = nth A (nth E i).1.toNat + 1) : (belowL A E n i).set b (.bool true) = belowL A E n (i + 1) := by
  apply List.ext_getElem
  · simp [belowL]
  · intro v k1 k2
    have e : belowB A E (i + 1) v = (belowB A E i v || decide (b = v)) := by
      rw [belowB_step h, hb, Int.toNat_natCast, decide_eq_true h1, decide_eq_true h2, Bool.true_and, Bool.and_true]
      congr 1
      rw [Bool.eq_iff_iff, decide_eq_true_eq, decide_eq_true_eq]
      omega
    rw [List.getElem_set]
    simp only [belowL, List.getElem_map, List.getElem_range, e]
    by_cases hbv : b = v
    · rw [if_pos hbv, decide_eq_true hbv, Bool.or_true]
    · rw [if_neg hbv, decide_eq_false hbv, Bool.or_false]
theorem belowL_no {A : List Int} {E : List (Int × Int)} {n i : Nat} (h : i < E.length) (h1 : ¬ (0 ≤ nth A (nth E i).1.toNat ∧ nth A (nth E i).2.toNat = nth A (nth E i).1.toNat + 1)) : belowL A E n (i + 1) = belowL A E n i := by
  unfold belowL
  apply List.map_congr_left
  intro v hv
  rw [belowB_step h]
  have : (decide (0 ≤ nth A (nth E i).1.toNat) && decide (nth A (nth E i).2.toNat = nth A (nth E i).1.toNat + 1)) = false := by
    rw [Bool.and_eq_false_iff, decide_eq_false_iff_not, decide_eq_false_iff_not]
    by_cases h0 : 0 ≤ nth A (nth E i).1.toNat
    · exact .inr fun h => h1 ⟨h0, h⟩
    · exact .inl h0
  rw [this, Bool.and_false, Bool.or_false]
theorem belowL_nth {A : List Int} {E : List (Int × Int)} {n i v : Nat} (hv : v < n) : (belowL A E n i)[v]? = some (.bool (belowB A E i v)) := by
  simp [belowL, hv]
/-- ways lead at most one level further; each place of a level above 0 has one of the level below -/
theorem steps_law {O T R V : List Int} (hck : checkR O T R V = true) {n a : Nat} (hno : O.length = n + 1) (ha : a < n) {A : List Int} (hA : A = (List.range n).map fun v => lev (rowL O T) n a v) :
    (∀ i, i < (pairs O T).length → 0 ≤ (nth (pairs O T) i).1 ∧ (nth (pairs O T) i).1 < n ∧ 0 ≤ (nth (pairs O T) i).2 ∧ (nth (pairs O T) i).2 < n ∧ (0 ≤ nth A (nth (pairs O T) i).1.toNat → 0 ≤ nth A (nth (pairs O T) i).2.toNat ∧ nth A (nth (pairs O T) i).2.toNat ≤ nth A (nth (pairs O T) i).1.toNat + 1)) ∧
    (∀ v, v < n → -1 ≤ nth A v ∧ nth A v < n ∧ (0 < nth A v → belowB A (pairs O T) (pairs O T).length v = true) ∧ (nth A v = 0 ↔ v = a)) := by
  have lo := lev_ok (rowL O T) n a ha
  have hbd := edgD_bd (checkR_half hck).2.2.1 false
  have hem := edgD_mem hck false
  have hn : O.length - 1 = n := by omega
  rw [hn] at hbd hem
  have hnx : nxR false O T R V = rowL O T := rfl
  have hed : edgD false O T = pairs O T := rfl
  rw [hnx, hed] at hem
  rw [hed] at hbd
  have hAt : ∀ v, v < n → nth A v = lev (rowL O T) n a v := fun v hv => by rw [hA]; exact levL_nth hv
  constructor
  · intro i hi
    have hm := nth_mem hi
    obtain ⟨b1, b2, b3, b4⟩ := hbd _ hm
    generalize nth (pairs O T) i = e at *
    refine ⟨b1, b2, b3, b4, ?_⟩
    rw [hAt _ (by omega), hAt _ (by omega)]
    refine lo.next _ _ (by omega) (by omega) ?_
    refine (hem e.1.toNat e.2.toNat (by omega) (by omega)).1 ?_
    rwa [Int.toNat_of_nonneg b1, Int.toNat_of_nonneg b3]
  · intro v hv
    rw [hAt v hv]
    refine ⟨lo.ge v hv, lev_lt ha hv, fun h => ?_, lo.zero v hv⟩
    obtain ⟨u, hu, h1, h2⟩ := lo.pred v hv h
    unfold belowB
    rw [List.take_length, List.any_eq_true]
    refine ⟨_, (hem u v hu hv).2 h2, ?_⟩
    have e : ((u : Int), (v : Int)).1.toNat = u := Int.toNat_natCast u
    have e2 : ((u : Int), (v : Int)).2.toNat = v := Int.toNat_natCast v
    rw [e, e2, hAt u hu, hAt v hv, Bool.and_eq_true, Bool.and_eq_true, decide_eq_true_eq, decide_eq_true_eq, decide_eq_true_eq]
    exact ⟨rfl, by omega, by omega⟩
end Go.Proofs.YtblghmfhchlllaaGreat
/- The program's searches (chapter 8): the places of the next level, of either side. -/
namespace Go.Proofs.YtblghmfhchlllaaGreat
open Go Go.RowKit Go.Maps
theorem zeroBm (w : World) : (zeroValue 4).run Tryz.prog w = .ok (.bool false) w := by kernel_rfl
noncomputable def EBm : Elm Tryz.prog 4 Bool := elmB Tryz.prog 4 Tryz.underlying4 zeroBm
end Go.Proofs.YtblghmfhchlllaaGreat
/- The program's searches (chapter 8): a side takes the next level's places. -/
namespace Go.Proofs.YtblghmfhchlllaaGreat
open Go Go.RowKit
theorem set_ne {α : Type} {Γ : List α} {i j : Nat} {p q : α} (h : Γ[i]? = some p) (hne : i ≠ j) : (Γ.set j q)[i]? = some p := by
  rw [List.getElem?_set_ne (fun e => hne e.symm)]; exact h
theorem set_eq {α : Type} {Γ : List α} {j : Nat} {p q : α} (h : Γ[j]? = some p) : (Γ.set j q)[j]? = some q := List.getElem?_set_self (List.getElem?_eq_some_iff.1 h).1
end Go.Proofs.YtblghmfhchlllaaGreat
/- The program's searches (chapter 8): the shortest walk over places that both sides have. -/
namespace Go.Proofs.YtblghmfhchlllaaGreat
open Go Go.RowKit
end Go.Proofs.YtblghmfhchlllaaGreat
/- The program's searches (chapter 8): both sides go on till they meet, or one can't. -/
namespace Go.Proofs.YtblghmfhchlllaaGreat
open Go Go.RowKit
theorem Sep.freshMany {w0 w w' : World} {Γ : List Pc} {e : TypeId} {size : Nat} {rows : List (Hd × List Value)} (S : Sep w0 w Γ) (h : Ext w w') (ho : ∀ r ∈ rows, w'.ownsRow w.heap.size e size (.slice r.1.p r.1.n r.1.c) r.1.n r.2) : Sep w0 w' (.many e size rows :: Γ) :=
  S.comp (Δ := [.many e size rows]) ⟨h, fun p hp => by rw [List.mem_singleton] at hp; subst hp; exact fun r hr => own_base (ho r hr) (Nat.zero_le _), fun p hp k hk => by
    rw [List.mem_singleton] at hp; subst hp
    obtain ⟨r, hr, hk⟩ := hk
    exact (own_lt (ho r hr) hk).1, List.pairwise_singleton _ _⟩
theorem Sep.rdMany {w0 w : World} {Γ : List Pc} (S : Sep w0 w Γ) (j : Nat) {e : TypeId} {size : Nat} {rows : List (Hd × List Value)} (hj : Γ[j]? = some (.many e size rows)) {r : Hd × List Value} (hr : r ∈ rows) (hs : r.1.n ≤ 9223372036854775807) : Rd w size r.1.p r.1.n r.2 := Rd.of_own (S.manyAt j hj r hr) hs
section
variable {nx nb : Nat → List Int} {n s t : Nat} (h : Rev nx nb n) (hs : s < n) (ht : t < n)
include h hs ht in
theorem go_has {k : Nat} (h0 : 0 ≤ lev nx n s t) (hm : meetB n (lev nx n s) (lev nb n t) k = false) : hasL n (lev nx n s) ((k:Int) + 1) = true ∧ hasL n (lev nb n t) ((k:Int) + 1) = true ∧ 2 * (k:Int) < lev nx n s t := by
  have h2 : 2 * (k:Int) < lev nx n s t := by
    have := mt (meet_lev h hs ht (k := k)).2 (by rw [hm]; simp); omega
  refine ⟨?_, ?_, h2⟩
  · obtain ⟨v, hv, g1, _⟩ := lev_mid h hs ht (j := k + 1) h0 (by omega)
    exact hasL_iff.2 ⟨v, hv, by omega⟩
  · obtain ⟨v, hv, _, g1⟩ := lev_mid h hs ht (j := (lev nx n s t).toNat - (k + 1)) h0 (by omega)
    exact hasL_iff.2 ⟨v, hv, by omega⟩
end
def RunQ (b : Nat) (x y : List Int) (i : Nat) (v : Value) (W : World) : Prop :=
  match i with
  | 2 => ∃ q c, v = .slice q x.length c ∧ W.ownsRow b 3 1 (.slice q x.length c) x.length (encI x)
  | 5 => ∃ q c, v = .slice q y.length c ∧ W.ownsRow b 3 1 (.slice q y.length c) y.length (encI y)
  | _ => True
theorem RunQ_mono {b : Nat} {x y : List Int} : ∀ i v W W', Ext W W' → RunQ b x y i v W → RunQ b x y i v W' := by
  intro i v W W' he h
  unfold RunQ at *
  split at h <;> first | trivial | (obtain ⟨q, c, h1, h2⟩ := h; exact ⟨q, c, h1, he.own h2⟩)
end Go.Proofs.YtblghmfhchlllaaGreat
/- The program's searches (chapter 8): open, Dist, Steps. -/
namespace Go.Proofs.YtblghmfhchlllaaGreat
open Go Go.RowKit
/-- the error of two places -/
def pairC (ck : Bool) (O : List Int) (s t : Int) : Int := if ck = true then (if (0 ≤ s ∧ s < (O.length : Int) - 1) ∧ 0 ≤ t ∧ t < (O.length : Int) - 1 then 0 else 1) else 40
end Go.Proofs.YtblghmfhchlllaaGreat
/- The program's searches (chapter 8): Dist, Steps. -/
namespace Go.Proofs.YtblghmfhchlllaaGreat
open Go Go.RowKit
end Go.Proofs.YtblghmfhchlllaaGreat
/- The program's searches (chapter 8): Path. -/
namespace Go.Proofs.YtblghmfhchlllaaGreat
open Go Go.RowKit
theorem ahead_front {nx : Nat → List Int} {n s : Nat} (hs : s < n) (hin : InN nx n) {k : Nat} {F : List Int} (hF : IsFront (lev nx n s) n k F) : IsFront (lev nx n s) n ((k + 1 : Nat) : Int) (ahF nx (cutL (lev nx n s) n k) F []) :=
  front_next hs hin hF fun v hv => by rw [cutL_nth hv]; exact cut_lt
theorem front_bd {f : Nat → Int} {n : Nat} {k : Int} {F : List Int} (hF : IsFront f n k F) : (∀ x ∈ F, 0 ≤ x ∧ x < n) ∧ F.length ≤ n :=
  ⟨fun x hx => ⟨((hF.2 x).1 hx).1, ((hF.2 x).1 hx).2.1⟩, nodup_small hF.1 fun x hx => ⟨((hF.2 x).1 hx).1, ((hF.2 x).1 hx).2.1⟩⟩
end Go.Proofs.YtblghmfhchlllaaGreat
/- The program's searches (chapter 8): Walk. -/
namespace Go.Proofs.YtblghmfhchlllaaGreat
open Go Go.RowKit
structure WalkQ (b : Bool) (i : Nat) (v : Value) (_ : World) : Prop where
  a : i = 4 → ∃ q n c, v = .tuple #[.slice q n c, .bool b]
  b' : i = 5 → ∃ q n c, v = .tuple #[.slice q n c, .bool b]
  c' : i = 7 → v = .bool b
  d' : i = 9 → v = .bool b
structure HasQ (b : Bool) (i : Nat) (v : Value) (_ : World) : Prop where
  a : i = 10 → v = .bool b
  b' : i = 11 → v = .bool (!b)
theorem WalkQ.of4 {b : Bool} {q : Option Addr} {n c : Nat} {w : World} : WalkQ b 4 (.tuple #[.slice q n c, .bool b]) w := ⟨fun _ => ⟨q, n, c, rfl⟩, fun h => absurd h (by decide), fun h => absurd h (by decide), fun h => absurd h (by decide)⟩
theorem WalkQ.of5 {b : Bool} {q : Option Addr} {n c : Nat} {w : World} : WalkQ b 5 (.tuple #[.slice q n c, .bool b]) w := ⟨fun h => absurd h (by decide), fun _ => ⟨q, n, c, rfl⟩, fun h => absurd h (by decide), fun h => absurd h (by decide)⟩
theorem WalkQ.of6 {b : Bool} {v : Value} {w : World} : WalkQ b 6 v w := ⟨fun h => absurd h (by decide), fun h => absurd h (by decide), fun h => absurd h (by decide), fun h => absurd h (by decide)⟩
theorem WalkQ.of7 {b : Bool} {w : World} : WalkQ b 7 (.bool b) w := ⟨fun h => absurd h (by decide), fun h => absurd h (by decide), fun _ => rfl, fun h => absurd h (by decide)⟩
theorem WalkQ.of8 {b : Bool} {v : Value} {w : World} : WalkQ b 8 v w := ⟨fun h => absurd h (by decide), fun h => absurd h (by decide), fun h => absurd h (by decide), fun h => absurd h (by decide)⟩
theorem WalkQ.of9 {b : Bool} {w : World} : WalkQ b 9 (.bool b) w := ⟨fun h => absurd h (by decide), fun h => absurd h (by decide), fun h => absurd h (by decide), fun _ => rfl⟩
theorem HasQ.of10 {b : Bool} {w : World} : HasQ b 10 (.bool b) w := ⟨fun _ => rfl, fun h => absurd h (by decide)⟩
theorem HasQ.of11 {b : Bool} {w : World} : HasQ b 11 (.bool (!b)) w := ⟨fun h => absurd h (by decide), fun _ => rfl⟩
end Go.Proofs.YtblghmfhchlllaaGreat
/- The document's example of chapter 8: its rows, and what is told of them. -/
namespace Go.Proofs.YtblghmfhchlllaaGreat
open Go Go.RowKit
def ex8E : List (Int × Int) := [(0, 1), (0, 2), (1, 3), (2, 3), (3, 4)]
def ex8O : List Int := [0, 2, 3, 4, 5, 5]
def ex8T : List Int := [1, 2, 3, 3, 4]
def ex8R : List Int := [0, 0, 1, 2, 4, 5]
def ex8V : List Int := [0, 0, 1, 2, 3]
theorem ex8I : isB 5 ex8E [[], [], [], [], []] = true := by decide +kernel
theorem ex8O_eq : offL 5 ex8E = ex8O := by decide +kernel
theorem ex8T_eq : toL ex8E = ex8T := by decide +kernel
theorem ex8R_eq : offL 5 (turnE ex8E) = ex8R := by decide +kernel
theorem ex8V_eq : toL (turnE ex8E) = ex8V := by decide +kernel
theorem ex8Ck : checkR ex8O ex8T ex8R ex8V = true := by decide +kernel
theorem ex8L1 : lev (rowL ex8O ex8T) 5 0 4 = 3 := by decide +kernel
theorem ex8L2 : lev (rowL ex8O ex8T) 5 4 0 = -1 := by decide +kernel
theorem ex8S : stepsN 5 (lev (rowL ex8O ex8T) 5 0) (lev (rowL ex8R ex8V) 5 4) = 2 := by decide +kernel
theorem ex8P : pathR (rowL ex8O ex8T) (rowL ex8R ex8V) 5 0 4 = [0, 1, 3, 4] := by decide +kernel
theorem ex8C : pairC true ex8O 5 0 = 1 := by decide +kernel
theorem ex8W1 : walkB true ex8O ex8T [0, 1, 3, 4] = true := by decide +kernel
theorem ex8W2 : walkB true ex8O ex8T [1, 0] = false := by decide +kernel
theorem ex8Cells : (#[.int .i64 0, .int .i64 1, .int .i64 0, .int .i64 2, .int .i64 1, .int .i64 3, .int .i64 2, .int .i64 3, .int .i64 3, .int .i64 4] : Array Value).toList = encE ex8E := by simp [encE, ex8E]
theorem made5 : (madeCells (Value.slice none 0 0).cells (5 * 1)).toList = [.slice none 0 0, .slice none 0 0, .slice none 0 0, .slice none 0 0, .slice none 0 0] := by kernel_rfl
theorem ex8Mk (p q : Option Addr) (W : World) (h1 : Rd W 2 p 5 (encE ex8E)) (h0 : Rd W 1 q 5 [.slice none 0 0, .slice none 0 0, .slice none 0 0, .slice none 0 0, .slice none 0 0]) : Calls Tryz.prog 27 #[.agg #[.int .i64 5, .slice p 5 5, .slice q 5 5]] W fun e w' =>
    ∃ po no co pt nt ct pr nr cr pv nv cv, e = .returned (.tuple #[.agg #[.slice po no co, .slice pt nt ct, .slice pr nr cr, .slice pv nv cv], .int .i64 0]) ∧ R4 w' po no pt nt pr nr pv nv ex8O ex8T ex8R ex8V ∧ nt ≤ ct ∧ nv ≤ cv ∧ Ext W w' := by
  have h2 : RdW W q 5 [⟨none, 0, 0⟩, ⟨none, 0, 0⟩, ⟨none, 0, 0⟩, ⟨none, 0, 0⟩, ⟨none, 0, 0⟩] [[], [], [], [], []] := ⟨rfl, h0, fun j hj => by
    have : j = 0 ∨ j = 1 ∨ j = 2 ∨ j = 3 ∨ j = 4 := by omega
    rcases this with rfl | rfl | rfl | rfl | rfl <;> exact Rd.nil _ _ _⟩
  have hz : SzW [[], [], [], [], []] := fun l hl s hs => by simp at hl; subst hl; cases hs
  refine (RMakeG_yes 5 _ 5 5 _ 5 5 ex8E _ _ W h1 h2 hz ex8I).mono ?_
  rintro e w' ⟨v, rfl, ⟨po, no, co, pt, nt, ct, pr, nr, cr, pv, nv, cv, rfl, k1, k2, k3, k4, k5, k6, k7, k8⟩, hb⟩
  rw [ex8O_eq] at k1
  rw [ex8T_eq] at k2
  rw [ex8R_eq] at k3
  rw [ex8V_eq] at k4
  exact ⟨po, no, co, pt, nt, ct, pr, nr, cr, pv, nv, cv, rfl, ⟨k1, k2, k3, k4⟩, k6, k8, hb⟩
section
variable (po : Option Addr) (no co : Nat) (pt : Option Addr) (nt ct : Nat) (pr : Option Addr) (nr cr : Nat) (pv : Option Addr) (nv cv : Nat) (w : World) (h : R4 w po no pt nt pr nr pv nv ex8O ex8T ex8R ex8V) (hct : nt ≤ ct) (hcv : nv ≤ cv)
include h hct hcv
end
end Go.Proofs.YtblghmfhchlllaaGreat
/- The document's example rows, told. -/
namespace Go.Proofs.YtblghmfhchlllaaGreat
open Go Go.RowKit
end Go.Proofs.YtblghmfhchlllaaGreat
/- The law RowsTell: rows are right, or not, and tell just these of a place, and just these edges. -/
namespace Go.Proofs.YtblghmfhchlllaaGreat
open Go Go.RowKit
theorem bigR_bd {O T R V : List Int} (h : bigR O T R V = false) : O.length ≤ 250 ∧ T.length ≤ 2100 ∧ R.length ≤ 250 ∧ V.length ≤ 2100 := by
  unfold bigR at h
  simp only [Bool.or_eq_false_iff, decide_eq_false_iff_not] at h
  omega
end Go.Proofs.YtblghmfhchlllaaGreat
/- The law DistHalf: Dist is 2 times Steps, or one less, if there is a walk; Steps is no more than places. -/
namespace Go.Proofs.YtblghmfhchlllaaGreat
open Go Go.RowKit
theorem pairC_zero {ck : Bool} {O : List Int} {s t : Int} (h : pairC ck O s t = 0) : ck = true ∧ ∃ n a b : Nat, O.length = n + 1 ∧ s = a ∧ t = b ∧ a < n ∧ b < n := by
  unfold pairC at h
  cases ck with
  | false => rw [if_neg (by simp)] at h; omega
  | true =>
    rw [if_pos rfl] at h
    by_cases h2 : (0 ≤ s ∧ s < (O.length : Int) - 1) ∧ 0 ≤ t ∧ t < (O.length : Int) - 1
    · exact ⟨rfl, O.length - 1, s.toNat, t.toNat, by omega, by omega, by omega, by omega, by omega⟩
    · rw [if_neg h2] at h; omega
theorem pairC_nn {ck : Bool} {O : List Int} {s t : Int} : 0 ≤ pairC ck O s t ∧ pairC ck O s t ≤ 40 := by
  unfold pairC; split
  · split <;> omega
  · omega
end Go.Proofs.YtblghmfhchlllaaGreat
/- The law LevelBalls: a ball is the one of a step less, and its front; a great one is what is reached. -/
namespace Go.Proofs.YtblghmfhchlllaaGreat
open Go Go.RowKit
set_option maxRecDepth 100000 in
set_option maxHeartbeats 16000000 in
theorem lawBalls7 (po : Option Addr) (no co : Nat) (O : List Int) (pt : Option Addr) (nt ct : Nat) (T : List Int) (pr : Option Addr) (nr cr : Nat) (R : List Int) (pv : Option Addr) (nv cv : Nat) (V : List Int) (s rad : Int) (back : Bool) (w : World) (hO : Rd w 1 po no (encI O)) (hT : Rd w 1 pt nt (encI T)) (hR : Rd w 1 pr nr (encI R)) (hV : Rd w 1 pv nv (encI V)) (hct : nt ≤ ct) (hcv : nv ≤ cv) : Calls Tryz.prog 6 #[.agg #[.slice po no co, .slice pt nt ct, .slice pr nr cr, .slice pv nv cv], .int .i64 s, .int .i64 rad, .bool back] w fun e w' => e = .returned (.bool true) ∧ Ext w w' := by
  obtain ⟨i0, hi0, hz0, hz1, hz2⟩ := info_parts infI
  have HBig := Lib.hid (fun W1 (h : Ext w W1) => Big04 po no co O pt nt ct T pr nr cr R pv nv cv V W1 (hO.ext h) (hT.ext h) (hR.ext h) (hV.ext h))
  have S0 := Lib.hid ((Sep.start w).al #[.slice po no co, .slice pt nt ct, .slice pr nr cr, .slice pv nv cv] 24 w.heap.size rfl)
  cases hbig : bigR O T R V with
  | true =>
    rw [hbig] at HBig
    clear hO hT hR hV
    go_enter Tryz.func6, Tryz.ntmps6
    go_wp2_with (first | (go_at_call 10; go_must (refine (Levels7 _).mono ?_; rintro e wz ⟨rfl, hb⟩; have SZ := Lib.hid (S1.out.call hb); clear hb)) | (go_at_call 8; go_must (refine (HBig.out _ S0.out.ext).mono ?_; rintro e w1 ⟨rfl, hb1⟩; have S1 := Lib.hid (S0.out.call hb1); have xz := (S1.out.blk 0 rfl).lt; have x0 := (S1.out.blk 0 rfl).cell 0; have x1 := (S1.out.blk 0 rfl).cell 1; have x2 := (S1.out.blk 0 rfl).cell 2; have x3 := (S1.out.blk 0 rfl).cell 3; clear hb1)))
    go_ret
    exact ⟨rfl, SZ.out.ext⟩
  | false =>
    rw [hbig] at HBig
    by_cases h1 : rad < 1
    · have c1 : decide (rad < 1) = true := by simpa using h1
      clear hO hT hR hV h1
      go_enter Tryz.func6, Tryz.ntmps6
      go_wp2_with (first | (go_at_call 10; go_must (refine (Levels7 _).mono ?_; rintro e wz ⟨rfl, hb⟩; have SZ := Lib.hid (S1.out.call hb); clear hb)) | (go_at_call 8; go_must (refine (HBig.out _ S0.out.ext).mono ?_; rintro e w1 ⟨rfl, hb1⟩; have S1 := Lib.hid (S0.out.call hb1); have xz := (S1.out.blk 0 rfl).lt; have x0 := (S1.out.blk 0 rfl).cell 0; have x1 := (S1.out.blk 0 rfl).cell 1; have x2 := (S1.out.blk 0 rfl).cell 2; have x3 := (S1.out.blk 0 rfl).cell 3; clear hb1)))
      go_ret
      exact ⟨rfl, SZ.out.ext⟩
    · have c1 : decide (rad < 1) = false := by simpa using h1
      by_cases h2 : 1000 < rad
      · have c2 : decide (1000 < rad) = true := by simpa using h2
        clear hO hT hR hV h1 h2
        go_enter Tryz.func6, Tryz.ntmps6
        go_wp2_with (first | (go_at_call 10; go_must (refine (Levels7 _).mono ?_; rintro e wz ⟨rfl, hb⟩; have SZ := Lib.hid (S1.out.call hb); clear hb)) | (go_at_call 8; go_must (refine (HBig.out _ S0.out.ext).mono ?_; rintro e w1 ⟨rfl, hb1⟩; have S1 := Lib.hid (S0.out.call hb1); have xz := (S1.out.blk 0 rfl).lt; have x0 := (S1.out.blk 0 rfl).cell 0; have x1 := (S1.out.blk 0 rfl).cell 1; have x2 := (S1.out.blk 0 rfl).cell 2; have x3 := (S1.out.blk 0 rfl).cell 3; clear hb1)))
        go_ret
        exact ⟨rfl, SZ.out.ext⟩
      · have c2 : decide (1000 < rad) = false := by simpa using h2
        have HA := Lib.hid (fun W1 (h : Ext w W1) => BallG po no co O pt nt ct T pr nr cr R pv nv cv V s (rad - 1) back W1 (hO.ext h) (hT.ext h) (hR.ext h) (hV.ext h) hct hcv)
        have c3 : (0:Int) ≤ rad - 1 := by omega
        have c4 : rad - 1 ≤ 999 := by omega
        by_cases hc : ballC (checkR O T R V) O s (rad - 1) = 0
        · have hl : levC (checkR O T R V) O s = 0 := by
            apply Classical.byContradiction; intro h
            unfold ballC at hc; rw [if_neg h] at hc; exact h hc
          obtain ⟨hck, n, a, hno, rfl, ha⟩ := levC_zero hl
          have hb1 : ballC true O a rad = 0 := by rw [hck] at hl; unfold ballC; rw [if_pos hl, if_neg (by omega)]
          have hb2 : ballC true O a 200 = 0 := by rw [hck] at hl; unfold ballC; rw [if_pos hl, if_neg (by omega)]
          obtain ⟨ho, hlen, hlaw⟩ := ball_law (r := rad) hck back hno ha (by omega)
          have hfl := front_small (l := ballV true back O T R V a (rad - 1)) hck back hno
          have r := offB_parts (halfB_off (checkR_half hck).2.2.1)
          have hn : n ≤ 200 := by omega
          have HB := Lib.hid (fun W1 (h : Ext w W1) => BallG po no co O pt nt ct T pr nr cr R pv nv cv V a rad back W1 (hO.ext h) (hT.ext h) (hR.ext h) (hV.ext h) hct hcv)
          have HX := Lib.hid (fun W1 (h : Ext w W1) => BallG po no co O pt nt ct T pr nr cr R pv nv cv V a 200 back W1 (hO.ext h) (hT.ext h) (hR.ext h) (hV.ext h) hct hcv)
          have HR := Lib.hid (fun W1 (h : Ext w W1) => ReachG po no co O pt nt ct T pr nr cr R pv nv cv V a back W1 (hO.ext h) (hT.ext h) (hR.ext h) (hV.ext h) hct hcv)
          have HF := Lib.hid (fun W1 p c (h : Ext w W1) (hl : Rd W1 1 p (ballV true back O T R V a (rad - 1)).length (encI (ballV true back O T R V a (rad - 1)))) => FrontG po no co O pt nt ct T pr nr cr R pv nv cv V p _ c (ballV true back O T R V a (rad - 1)) back W1 (hO.ext h) (hT.ext h) (hR.ext h) (hV.ext h) hct hcv hl (by omega))
          rw [hck] at HA HB HX HR HF hc
          rw [hc] at HA
          rw [hb1] at HB
          rw [hb2] at HX HR
          rw [ho] at HF
          generalize frontV true back O T (ballV true back O T R V a (rad - 1)) = FV at *
          generalize ballV true back O T R V a (rad - 1) = BV at *
          generalize ballV true back O T R V a rad = BR at *
          generalize ballV true back O T R V a 200 = BX at *
          have HLW := Lib.hid hlaw
          have hBV : BV.length ≤ 200 := by omega
          have hFV : FV.length ≤ 200 := by omega
          have HRi : Hid (∀ (p : Option Addr) (c : Nat) (W : World), Rd W 1 p (BV.length + FV.length) (encI BV ++ encI FV) → Calls Tryz.prog 22 #[.slice p (BV.length + FV.length) c] W fun e w' => ∃ q c', e = .returned (.slice q BR.length c') ∧ Sep W w' [.own 3 1 q BR.length c' (encI BR)]) := fun p c W h => by
            have := Rising05s p (BV.length + FV.length) c (BV ++ FV) W (by rw [encI_append]; exact h) (by omega)
            rw [HLW.out] at this; exact this
          clear hO hT hR hV hct hcv hl hck hc hb1 hb2 ho hlen hlaw hfl r hn hno ha h1 h2 hbig
          go_enter Tryz.func6, Tryz.ntmps6
          go_wp2_with (first
            | (go_at_call 20; have _t := S12; go_must (refine (IntsY _ _ _ _ _ _ BX _ (S12.out.rdx 2 rfl) (S12.out.rdx 1 rfl)).mono ?_; rintro e w13 ⟨rfl, hb⟩; have S13 := Lib.hid (S12.out.call hb); clear hb))
            | (go_at_call 20; have _t := S11; go_must (refine (IntsY _ _ _ _ _ _ BR _ (S11.out.rdx 5 rfl) (S11.out.rdx 0 rfl)).mono ?_; rintro e w12 ⟨rfl, hb⟩; have S12 := Lib.hid (S11.out.call hb); clear hb))
            | (go_at_call 22; go_must (refine (HRi.out _ _ _ (S10.out.rdx 2 rfl)).mono ?_; rintro e w11 ⟨q11, c11, rfl, Z⟩; have S11 := Lib.hid (S10.out.comp Z); clear Z))
            | (go_at_call 10; go_must (refine (Levels7 _).mono ?_; rintro e w10 ⟨rfl, hb⟩; have S10 := Lib.hid (S9.out.call hb); clear hb))
            | (go_at_call 18; have _t := S8; go_must (refine (HX.out _ S8.out.ext).mono ?_; rintro e w9 ⟨q9, c9, rfl, Z⟩; have S9 := Lib.hid (S8.out.comp Z); have y9z := (S9.out.blk 6 rfl).lt; have y90 := (S9.out.blk 6 rfl).cell 0; have y91 := (S9.out.blk 6 rfl).cell 1; have y92 := (S9.out.blk 6 rfl).cell 2; have y93 := (S9.out.blk 6 rfl).cell 3; clear Z))
            | (go_at_call 14; have _t := S7; go_must (refine (HR.out _ S7.out.ext).mono ?_; rintro e w8 ⟨q8, c8, rfl, Z⟩; have S8 := Lib.hid (S7.out.comp Z); have y8z := (S8.out.blk 5 rfl).lt; have y80 := (S8.out.blk 5 rfl).cell 0; have y81 := (S8.out.blk 5 rfl).cell 1; have y82 := (S8.out.blk 5 rfl).cell 2; have y83 := (S8.out.blk 5 rfl).cell 3; clear Z))
            | (at_builtin; have _t := S6; go_must (refine wpList_append_sep rfl _ _ _ rfl 3 i0 _ 1 8 Tryz.underlying22 hi0 hz0 hz1 hz2 rfl (by omega) S6.out 0 q6 BV.length c6 _ rfl rfl _ FV.length c4 _ rfl (S6.out.rdx 1 rfl) (one_encI _) (by omega) (by omega) ?_; intro q7 c7 w7 S' hsz; (try simp only [Nat.zero_add, List.nil_append] at S'); have S7 := Lib.hid S'; have y7z := (S7.out.blk 4 rfl).lt; have y70 := (S7.out.blk 4 rfl).cell 0; have y71 := (S7.out.blk 4 rfl).cell 1; have y72 := (S7.out.blk 4 rfl).cell 2; have y73 := (S7.out.blk 4 rfl).cell 3; clear S' hsz))
            | (at_builtin; have _t := S4; go_must (refine wpList_append_sep rfl _ _ _ rfl 3 i0 _ 1 8 Tryz.underlying22 hi0 hz0 hz1 hz2 rfl (by omega) (S4.out.nilrow 3 1) 0 none 0 0 _ rfl rfl _ BV.length c2 _ rfl (S4.out.rdx 2 rfl) (one_encI _) (by omega) (by omega) ?_; intro q6 c6 w6 S' hsz; (try simp only [Nat.zero_add, List.nil_append] at S'); have S6 := Lib.hid S'; have y6z := (S6.out.blk 4 rfl).lt; have y60 := (S6.out.blk 4 rfl).cell 0; have y61 := (S6.out.blk 4 rfl).cell 1; have y62 := (S6.out.blk 4 rfl).cell 2; have y63 := (S6.out.blk 4 rfl).cell 3; clear S' hsz))
            | (go_at_call 16; go_must (refine (HF.out _ _ _ S3.out.ext (S3.out.rdx 1 rfl)).mono ?_; rintro e w4 ⟨q4, c4, rfl, Z⟩; have S4 := Lib.hid (S3.out.comp Z); have y4z := (S4.out.blk 3 rfl).lt; have y40 := (S4.out.blk 3 rfl).cell 0; have y41 := (S4.out.blk 3 rfl).cell 1; have y42 := (S4.out.blk 3 rfl).cell 2; have y43 := (S4.out.blk 3 rfl).cell 3; clear Z))
            | (go_at_call 18; have _t := S2; go_must (refine (HB.out _ S2.out.ext).mono ?_; rintro e w3 ⟨q3, c3, rfl, Z⟩; have S3 := Lib.hid (S2.out.comp Z); have y3z := (S3.out.blk 2 rfl).lt; have y30 := (S3.out.blk 2 rfl).cell 0; have y31 := (S3.out.blk 2 rfl).cell 1; have y32 := (S3.out.blk 2 rfl).cell 2; have y33 := (S3.out.blk 2 rfl).cell 3; clear Z))
            | (go_at_call 18; have _t := S1; go_must (refine (HA.out _ S1.out.ext).mono ?_; rintro e w2 ⟨q2, c2, rfl, Z⟩; have S2 := Lib.hid (S1.out.comp Z); have y2z := (S2.out.blk 1 rfl).lt; have y20 := (S2.out.blk 1 rfl).cell 0; have y21 := (S2.out.blk 1 rfl).cell 1; have y22 := (S2.out.blk 1 rfl).cell 2; have y23 := (S2.out.blk 1 rfl).cell 3; clear Z))
            | (go_at_call 8; go_must (refine (HBig.out _ S0.out.ext).mono ?_; rintro e w1 ⟨rfl, hb1⟩; have S1 := Lib.hid (S0.out.call hb1); have xz := (S1.out.blk 0 rfl).lt; have x0 := (S1.out.blk 0 rfl).cell 0; have x1 := (S1.out.blk 0 rfl).cell 1; have x2 := (S1.out.blk 0 rfl).cell 2; have x3 := (S1.out.blk 0 rfl).cell 3; clear hb1)))
          go_ret
          exact ⟨rfl, S13.out.ext⟩
        · have hv : ballV (checkR O T R V) back O T R V s (rad - 1) = [] := by unfold ballV; rw [if_neg hc]
          rw [hv] at HA
          generalize ballC (checkR O T R V) O s (rad - 1) = cc at *
          have hc0 : (cc != 0) = true := by simpa using hc
          clear hO hT hR hV h1 h2 hc hv hbig
          go_enter Tryz.func6, Tryz.ntmps6
          go_wp2_with (first | (go_at_call 10; go_must (refine (Levels7 _).mono ?_; rintro e wz ⟨rfl, hb⟩; have SZ := Lib.hid (S2.out.call hb); clear hb)) | (go_at_call 18; have _t := S1; go_must (refine (HA.out _ S1.out.ext).mono ?_; rintro e w2 ⟨q2, c2, rfl, Z⟩; have S2 := Lib.hid (S1.out.comp Z); have y2z := (S2.out.blk 1 rfl).lt; have y20 := (S2.out.blk 1 rfl).cell 0; have y21 := (S2.out.blk 1 rfl).cell 1; have y22 := (S2.out.blk 1 rfl).cell 2; have y23 := (S2.out.blk 1 rfl).cell 3; clear Z)) | (go_at_call 8; go_must (refine (HBig.out _ S0.out.ext).mono ?_; rintro e w1 ⟨rfl, hb1⟩; have S1 := Lib.hid (S0.out.call hb1); have xz := (S1.out.blk 0 rfl).lt; have x0 := (S1.out.blk 0 rfl).cell 0; have x1 := (S1.out.blk 0 rfl).cell 1; have x2 := (S1.out.blk 0 rfl).cell 2; have x3 := (S1.out.blk 0 rfl).cell 3; clear hb1)))
          go_ret
          exact ⟨rfl, SZ.out.ext⟩
end Go.Proofs.YtblghmfhchlllaaGreat
