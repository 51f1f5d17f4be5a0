/- Texts of this claim, one behind the other: Lb18, Lb19, LTells12, Open12, LTurn12. -/
import Derived.SizedLaws
import Derived.Test.YthlmcfbadhidbaaGreatQLabelDistLabelNeededLabelSelfLabelTellsL5
/- Chapter 12 (reference): Check, Size, Query. -/
namespace Go.Proofs.YthlmcfbadhidbaaGreat
open Go Go.RowKit
set_option maxRecDepth 100000 in
set_option maxHeartbeats 8000000 in
theorem Row12 (p : Option Addr) (m c : Nat) (l : List (Int × Int)) (n : Nat) (w : World) (hl : Rd w 2 p m (encE l)) :
    Calls Tryz.prog 60 #[.slice p m c, .int .i64 n] w fun e w' => e = .returned (.bool (rightB l n)) ∧ Ext w w' := by
  have L1 := Lib.hid hl.nE
  have p1 := hl.ptr
  have n1 := hl.small
  have HL := Lib.hid hl; clear hl
  go_enter Tryz.func60, Tryz.ntmps60
  go_wp2
  go_loopw [5, 6] (fun i _ wr => ∃ k : Nat, k ≤ m ∧ i = .int .i64 k ∧ Hid (OkRt l n k) ∧ Ext w wr) (fun i _ _ => m - (intOf i).toNat)
  case atStart => exact ⟨0, Nat.zero_le _, rfl, ⟨rfl, List.nodup_nil⟩, Below.refl _ _⟩
  case round =>
    obtain ⟨k, hk, rfl, ok, hE⟩ := hrel
    by_cases hlt : k < m
    · have hkL : k < l.length := by rw [← L1.out]; exact hlt
      have g1 := hE.cell (HL.out.cE hlt)
      have g2 := hE.cell (HL.out.cE2 hlt)
      have d1 : (0:Int) ≤ k := by omega
      have d2 : (k:Int) < m := by omega
      have HN1 : Hid (okH n (nth l k) = false → rightB l n = false) := fun h => right_no1 hkL h
      have HN2 : Hid ((nth l k).1 ∈ (l.take k).map (·.1) → rightB l n = false) := fun h => right_no2 hkL h
      have HST : Hid (okH n (nth l k) = true → (nth l k).1 ∉ (l.take k).map (·.1) → OkRt l n (k + 1)) := fun h1 h2 => right_step hkL ok.out h1 h2
      obtain ⟨x, hx⟩ : ∃ x, nth l k = x := ⟨_, rfl⟩
      rw [hx] at g1 g2 HN1 HN2 HST
      obtain ⟨x1, x2⟩ := x
      simp only at g1 g2 HN2 HST HN1
      unfold okH at HN1 HST
      simp only at HN1 HST
      by_cases h1 : x1 < 0
      · have f1 : decide (x1 < 0) = true := by simpa using h1
        have HF : Hid (rightB l n = false) := HN1.out (decide_eq_false (by omega))
        clear HN1 HN2 HST h1 ok hx
        have HE := Lib.hid hE; clear hE
        go_wp2
        go_ret
        exact ⟨by rw [HF.out]; rfl, HE.out⟩
      · have f1 : decide (x1 < 0) = false := by simpa using h1
        by_cases h2 : (n:Int) ≤ x1
        · have f2 : decide ((n:Int) ≤ x1) = true := by simpa using h2
          have HF : Hid (rightB l n = false) := HN1.out (decide_eq_false (by omega))
          clear HN1 HN2 HST h1 h2 ok hx
          have HE := Lib.hid hE; clear hE
          go_wp2
          go_ret
          exact ⟨by rw [HF.out]; rfl, HE.out⟩
        · have f2 : decide ((n:Int) ≤ x1) = false := by simpa using h2
          by_cases h3 : x2 < 0
          · have f3 : decide (x2 < 0) = true := by simpa using h3
            have HF : Hid (rightB l n = false) := HN1.out (decide_eq_false (by omega))
            clear HN1 HN2 HST h1 h2 h3 ok hx
            have HE := Lib.hid hE; clear hE
            go_wp2
            go_ret
            exact ⟨by rw [HF.out]; rfl, HE.out⟩
          · have f3 : decide (x2 < 0) = false := by simpa using h3
            by_cases h4 : 200 < x2
            · have f4 : decide (200 < x2) = true := by simpa using h4
              have HF : Hid (rightB l n = false) := HN1.out (decide_eq_false (by omega))
              clear HN1 HN2 HST h1 h2 h3 h4 ok hx
              have HE := Lib.hid hE; clear hE
              go_wp2
              go_ret
              exact ⟨by rw [HF.out]; rfl, HE.out⟩
            · have f4 : decide (200 < x2) = false := by simpa using h4
              have HS2 : Hid (x1 ∉ (l.take k).map (·.1) → OkRt l n (k + 1)) := HST.out (decide_eq_true (by omega))
              have HG1 := Lib.hid (HL.out.cE hlt)
              rw [hx] at HG1
              clear HN1 HST h1 h2 h3 h4 ok hx
              have HE := Lib.hid hE; clear hE
              go_wp2
              go_loopw [6] (fun i wx => ∃ j : Nat, j ≤ k ∧ i = .int .i64 j ∧ Hid (x1 ∉ (l.take j).map (·.1)) ∧ Ext w wx) (fun i _ => k - (intOf i).toNat)
              case atStart => exact ⟨0, Nat.zero_le _, rfl, by simp [Hid], HE.out⟩
              case round =>
                clear HE g1 g2
                obtain ⟨j, hj, rfl, ha, hE⟩ := hrel
                by_cases hlj : j < k
                · have hjL : j < l.length := by omega
                  have g1 := hE.cell HG1.out
                  have g3 := hE.cell (HL.out.cE (show j < m by omega))
                  have d3 : (0:Int) ≤ j := by omega
                  have d4 : (j:Int) < k := by omega
                  have d5 : (j:Int) < m := by omega
                  have HT : Hid ((l.take (j + 1)).map (·.1) = (l.take j).map (·.1) ++ [(nth l j).1]) := by unfold Hid; rw [take_succ_nth l j hjL, List.map_append]; rfl
                  have HM : Hid ((nth l j).1 ∈ (l.take k).map (·.1)) := by
                    unfold Hid
                    refine List.mem_map.2 ⟨nth l j, ?_, rfl⟩
                    rw [nth_eq hjL, List.mem_take_iff_getElem]
                    exact ⟨j, by omega, rfl⟩
                  generalize (nth l j).1 = y at *
                  by_cases he : y = x1
                  · have f5 : (y == x1) = true := by rw [beq_iff_eq]; exact he
                    have HF : Hid (rightB l n = false) := HN2.out (he ▸ HM.out)
                    clear he HM HT ha
                    have HE := Lib.hid hE; clear hE
                    go_wp2
                    go_quiet (fail)
                    go_wp2
                    go_ret
                    exact ⟨by rw [HF.out]; rfl, HE.out.drewN _⟩
                  · have f5 : (y == x1) = false := by rw [beq_eq_false_iff_ne]; exact he
                    have HA2 : Hid (x1 ∉ (l.take (j + 1)).map (·.1)) := by
                      unfold Hid
                      rw [HT.out, List.mem_append, List.mem_singleton]
                      rintro (h | h)
                      · exact ha.out h
                      · exact he h.symm
                    clear he HM HT ha
                    have HE := Lib.hid hE; clear hE
                    go_wp2
                    go_quiet (fail)
                    go_wp2
                    go_roundw
                    case rel => exact ⟨j + 1, by omega, by go_num, HA2.out, HE.out.drewN _⟩
                    case measure => simp [intOf]; omega
                · obtain rfl : j = k := by omega
                  have HO := Lib.hid (HS2.out ha.out)
                  clear ha HS2
                  have HE := Lib.hid hE; clear hE
                  go_wp2
                  go_roundw
                  case rel => exact ⟨j + 1, by omega, by go_num, HO.out, HE.out⟩
                  case measure => simp [intOf]; omega
    · obtain rfl : k = m := by omega
      have HF := Lib.hid (right_end L1.out ok.out)
      clear ok
      have HE := Lib.hid hE; clear hE
      go_wp2
      go_ret
      exact ⟨by rw [HF.out]; rfl, HE.out⟩
set_option maxRecDepth 100000 in
set_option maxHeartbeats 8000000 in
theorem LCheck12 (pA : Option Addr) (nA cA : Nat) (hA : List Hd) (A : SrT) (pB : Option Addr) (nB cB : Nat) (hB : List Hd) (B : SrT) (w : World) (RA : RdT w pA nA hA A) (RB : RdT w pB nB hB B) : Calls Tryz.prog 35 #[.agg #[.slice pA nA cA, .slice pB nB cB]] w fun e w' => e = .returned (.bool (lchkB A B)) ∧ Ext w w' := by
  have S0 := Lib.hid ((Sep.start w).al #[.slice pA nA cA, .slice pB nB cB] 42 w.heap.size rfl)
  have hlA := RA.len
  have hlB := RB.len
  by_cases hp : 1 ≤ nA ∧ nA ≤ 200 ∧ nB = nA
  · obtain ⟨h1, h2, rfl⟩ := hp
    have c1 : decide ((nB:Int) < 1) = false := by simp; omega
    have c2 : decide ((200:Int) < nB) = false := by simp; omega
    have c3 : ((nB:Int) != (nB:Int)) = false := by simp
    have HY : Hid ((∀ v, v < nB → (rightB (nth A v) nB && rightB (nth B v) nB) = true) → lchkB A B = true) := fun h => lchk_yes ⟨by omega, by omega, by omega⟩ fun v hv => by have := h v (by omega); rw [hlA]; exact this
    have HN : Hid (∀ v, v < nB → (rightB (nth A v) nB && rightB (nth B v) nB) = false → lchkB A B = false) := fun v hv h => lchk_no2 (v := v) (by omega) (by rw [hlA]; exact h)
    have HPA := Lib.hid RA
    have HPB := Lib.hid RB
    have pA' := RA.row.ptr
    have pB' := RB.row.ptr
    clear hlA hlB RA RB
    go_enter Tryz.func35, Tryz.ntmps35
    go_wp2
    go_loopw [4] (fun i wr => ∃ k : Nat, k ≤ nB ∧ i = .int .i64 k ∧ Hid (∀ v, v < k → (rightB (nth A v) nB && rightB (nth B v) nB) = true) ∧ Sep w wr [.blk w.heap.size 42 #[.slice pA nB cA, .slice pB nB cB]]) (fun i _ => nB - (intOf i).toNat)
    case atStart => exact ⟨0, Nat.zero_le _, rfl, fun v hv => by omega, S0.out⟩
    case round =>
      clear S0
      obtain ⟨k, hk, rfl, HK, S⟩ := hrel
      have b0 := (S.blk 0 rfl).cell 0
      have b1 := (S.blk 0 rfl).cell 1
      have bz := (S.blk 0 rfl).lt
      by_cases hlt : k < nB
      · have gA := S.ext.cell (HPA.out.row.cH hlt)
        have gB := S.ext.cell (HPB.out.row.cH hlt)
        have d1 : (0:Int) ≤ k := by omega
        have d2 : (k:Int) < nB := by omega
        have eA := HPA.out.each k hlt
        have eB := HPB.out.each k hlt
        have HRA := Lib.hid (fun W (h : Ext w W) => Row12 (nth hA k).p (nth hA k).n (nth hA k).c (nth A k) nB W (eA.ext h))
        have HRB := Lib.hid (fun W (h : Ext w W) => Row12 (nth hB k).p (nth hB k).n (nth hB k).c (nth B k) nB W (eB.ext h))
        obtain ⟨ha, hha⟩ : ∃ x, nth hA k = x := ⟨_, rfl⟩
        obtain ⟨hb, hhb⟩ : ∃ x, nth hB k = x := ⟨_, rfl⟩
        rw [hha] at gA HRA
        rw [hhb] at gB HRB
        obtain ⟨ap, an, ac⟩ := ha
        obtain ⟨bp, bn, bc⟩ := hb
        simp only at gA gB HRA HRB
        have gB3 := fun W (h : Ext wr W) => h.cell gB
        clear eA eB hha hhb
        cases hr1 : rightB (nth A k) nB with
        | false =>
          have HF : Hid (lchkB A B = false) := HN.out k hlt (by rw [hr1]; rfl)
          rw [hr1] at HRA
          clear hr1 HN HY HK gB3
          have SH := Lib.hid S; clear S
          go_wp2_with (go_at_call 60; have _t := SH; go_must (refine (HRA.out _ SH.out.ext).mono ?_; rintro e w3 ⟨rfl, hb⟩; have S3 := Lib.hid (SH.out.call hb); have z0 := ((SH.out.call hb).blk 0 rfl).cell 0; have z1 := ((SH.out.call hb).blk 0 rfl).cell 1; have zz := ((SH.out.call hb).blk 0 rfl).lt; clear hb))
          go_ret
          exact ⟨by rw [HF.out]; rfl, S3.out.ext⟩
        | true =>
          rw [hr1] at HRA
          cases hr2 : rightB (nth B k) nB with
          | false =>
            have HF : Hid (lchkB A B = false) := HN.out k hlt (by rw [hr1, hr2]; rfl)
            rw [hr2] at HRB
            clear hr1 hr2 HN HY HK
            have HG3 := Lib.hid gB3
            clear gB3
            have SH := Lib.hid S; clear S
            go_wp2_with (first | (go_at_call 60; have _t := S3; go_must (refine (HRB.out _ S3.out.ext).mono ?_; rintro e w4 ⟨rfl, hb⟩; have S4 := Lib.hid (S3.out.call hb); clear hb)) | (go_at_call 60; have _t := SH; go_must (refine (HRA.out _ SH.out.ext).mono ?_; rintro e w3 ⟨rfl, hb⟩; have S3 := Lib.hid (SH.out.call hb); have g3 := HG3.out _ hb; have z0 := ((SH.out.call hb).blk 0 rfl).cell 0; have z1 := ((SH.out.call hb).blk 0 rfl).cell 1; have zz := ((SH.out.call hb).blk 0 rfl).lt; clear hb)))
            go_ret
            exact ⟨by rw [HF.out]; rfl, S4.out.ext⟩
          | true =>
            have HK2 : Hid (∀ v, v < k + 1 → (rightB (nth A v) nB && rightB (nth B v) nB) = true) := fun v hv => by
              by_cases e : v = k
              · subst e; rw [hr1, hr2]; rfl
              · exact HK.out v (by omega)
            rw [hr2] at HRB
            clear hr1 hr2 HN HY HK
            have HG3 := Lib.hid gB3
            clear gB3
            have SH := Lib.hid S; clear S
            go_wp2_with (first | (go_at_call 60; have _t := S3; go_must (refine (HRB.out _ S3.out.ext).mono ?_; rintro e w4 ⟨rfl, hb⟩; have S4 := Lib.hid (S3.out.call hb); clear hb)) | (go_at_call 60; have _t := SH; go_must (refine (HRA.out _ SH.out.ext).mono ?_; rintro e w3 ⟨rfl, hb⟩; have S3 := Lib.hid (SH.out.call hb); have g3 := HG3.out _ hb; have z0 := ((SH.out.call hb).blk 0 rfl).cell 0; have z1 := ((SH.out.call hb).blk 0 rfl).cell 1; have zz := ((SH.out.call hb).blk 0 rfl).lt; clear hb)))
            go_roundw
            case rel => exact ⟨k + 1, by omega, by go_num, HK2.out, S4.out⟩
            case measure => simp [intOf]; omega
      · obtain rfl : k = nB := by omega
        have HF : Hid (lchkB A B = true) := HY.out HK.out
        have SH := Lib.hid S; clear S
        go_wp2
        go_ret
        exact ⟨by rw [HF.out]; rfl, SH.out.ext⟩
  · have HF : Hid (lchkB A B = false) := lchk_no1 (by omega)
    clear RA RB hlA hlB
    by_cases h1 : nA < 1
    · have c1 : decide ((nA:Int) < 1) = true := by simp; omega
      clear hp h1
      go_enter Tryz.func35, Tryz.ntmps35
      go_wp2
      go_ret
      exact ⟨by rw [HF.out]; rfl, S0.out.ext⟩
    · have c1 : decide ((nA:Int) < 1) = false := by simp; omega
      by_cases h2 : 200 < nA
      · have c2 : decide ((200:Int) < nA) = true := by simp; omega
        clear hp h1 h2
        go_enter Tryz.func35, Tryz.ntmps35
        go_wp2
        go_ret
        exact ⟨by rw [HF.out]; rfl, S0.out.ext⟩
      · have c2 : decide ((200:Int) < nA) = false := by simp; omega
        have c3 : ((nB:Int) != (nA:Int)) = true := by simp; omega
        clear hp h1 h2
        go_enter Tryz.func35, Tryz.ntmps35
        go_wp2
        go_ret
        exact ⟨by rw [HF.out]; rfl, S0.out.ext⟩
set_option maxRecDepth 100000 in
set_option maxHeartbeats 8000000 in
theorem LSize12 (pA : Option Addr) (nA cA : Nat) (hA : List Hd) (A : SrT) (pB : Option Addr) (nB cB : Nat) (hB : List Hd) (B : SrT) (w : World) (RA : RdT w pA nA hA A) (RB : RdT w pB nB hB B) (hs : lsize A B ≤ 9223372036854775807) (hnA : nA ≤ 100000) (hnB : nB ≤ 100000) : Calls Tryz.prog 37 #[.agg #[.slice pA nA cA, .slice pB nB cB]] w fun e w' => e = .returned (.int .i64 (lsize A B : Nat)) ∧ Ext w w' := by
  have S0 := Lib.hid ((Sep.start w).al #[.slice pA nA cA, .slice pB nB cB] 42 w.heap.size rfl)
  have hlA := RA.len
  have hlB := RB.len
  have qA := RA.row.ptr
  have qB := RB.row.ptr
  have HA := Lib.hid RA
  have HB := Lib.hid RB
  have HSZ : Hid (lsize A B = hitsN A nA + hitsN B nB) := by unfold Hid lsize; rw [hlA, hlB]
  have HBD : Hid (∀ a b, a ≤ nA → b ≤ nB → hitsN A a + hitsN B b ≤ 9223372036854775807) := fun a b h1 h2 => by
    have := hitsN_le (T := A) h1
    have := hitsN_le (T := B) h2
    have := HSZ.out
    omega
  have HLA := Lib.hid hlA
  have HLB := Lib.hid hlB
  clear RA RB hlA hlB hs
  go_enter Tryz.func37, Tryz.ntmps37
  go_wp2
  go_loopw [3, 4] (fun v3 i wr => ∃ k : Nat, k ≤ nA ∧ i = .int .i64 k ∧ v3 = .int .i64 (hitsN A k : Nat) ∧ Sep w wr [.blk w.heap.size 42 #[.slice pA nA cA, .slice pB nB cB]]) (fun _ i _ => nA - (intOf i).toNat)
  case atStart => exact ⟨0, Nat.zero_le _, rfl, rfl, S0.out⟩
  case round =>
    clear S0
    obtain ⟨k, hk, rfl, rfl, S⟩ := hrel
    have b0 := (S.blk 0 rfl).cell 0
    have b1 := (S.blk 0 rfl).cell 1
    have bz := (S.blk 0 rfl).lt
    by_cases hlj : k < nA
    · have g1 := S.ext.cell (HA.out.row.cH hlj)
      have hen := (HA.out.each k hlj).nE
      have hst := hitsN_step (T := A) (k := k) (by rw [HLA.out]; exact hlj)
      have hbd := HBD.out (k + 1) 0 (by omega) (Nat.zero_le _)
      have d1 : (0:Int) ≤ k := by omega
      have d2 : (k:Int) < nA := by omega
      obtain ⟨x, hx⟩ : ∃ x, nth hA k = x := ⟨_, rfl⟩
      rw [hx] at g1 hen
      obtain ⟨xp, xn, xc⟩ := x
      simp only at g1 hen
      rw [← hen] at hst
      rw [hst] at hbd
      have HST := Lib.hid hst
      generalize hitsN A k = sj at *
      clear hx hst hen
      have SH := Lib.hid S; clear S
      go_wp2
      go_roundw
      case rel => exact ⟨k + 1, by omega, by go_num, by rw [HST.out]; go_num, SH.out⟩
      case measure => simp [intOf]; omega
    · obtain rfl : nA = k := by omega
      have hbd := HBD.out nA 0 (Nat.le_refl _) (Nat.zero_le _)
      obtain ⟨sa, hsa⟩ : ∃ sa, hitsN A nA = sa := ⟨_, rfl⟩
      rw [hsa] at hbd
      rw [hsa] at HSZ ⊢
      have HBD2 : Hid (∀ b, b ≤ nB → sa + hitsN B b ≤ 9223372036854775807) := fun b h => by rw [← hsa]; exact HBD.out nA b (Nat.le_refl _) h
      clear hsa HBD
      have SH := Lib.hid S; clear S
      go_wp2
      go_loopw [3, 5] (fun v3 i wr => ∃ j : Nat, j ≤ nB ∧ i = .int .i64 j ∧ v3 = .int .i64 ((sa + hitsN B j : Nat) : Int) ∧ Sep w wr [.blk w.heap.size 42 #[.slice pA nA cA, .slice pB nB cB]]) (fun _ i _ => nB - (intOf i).toNat)
      case atStart => exact ⟨0, Nat.zero_le _, rfl, rfl, SH.out⟩
      case round =>
        clear SH b0 b1 bz
        obtain ⟨j, hj, rfl, rfl, S⟩ := hrel
        have b0 := (S.blk 0 rfl).cell 0
        have b1 := (S.blk 0 rfl).cell 1
        have bz := (S.blk 0 rfl).lt
        by_cases hlj : j < nB
        · have g1 := S.ext.cell (HB.out.row.cH hlj)
          have hen := (HB.out.each j hlj).nE
          have hst := hitsN_step (T := B) (k := j) (by rw [HLB.out]; exact hlj)
          have hbd := HBD2.out (j + 1) (by omega)
          have d1 : (0:Int) ≤ j := by omega
          have d2 : (j:Int) < nB := by omega
          obtain ⟨x, hx⟩ : ∃ x, nth hB j = x := ⟨_, rfl⟩
          rw [hx] at g1 hen
          obtain ⟨xp, xn, xc⟩ := x
          simp only at g1 hen
          rw [← hen] at hst
          rw [hst] at hbd
          have HST := Lib.hid hst
          generalize hitsN B j = sj at *
          clear hx hst hen
          have SH := Lib.hid S; clear S
          go_wp2
          go_roundw
          case rel => exact ⟨j + 1, by omega, by go_num, by rw [HST.out]; go_num, SH.out⟩
          case measure => simp [intOf]; omega
        · obtain rfl : j = nB := by omega
          have SH := Lib.hid S; clear S
          go_wp2
          go_ret
          exact ⟨by rw [HSZ.out]; rfl, SH.out.ext⟩
end Go.Proofs.YthlmcfbadhidbaaGreat
/- Chapter 12 (reference): Query. -/
namespace Go.Proofs.YthlmcfbadhidbaaGreat
open Go Go.RowKit
set_option maxRecDepth 100000 in
set_option maxHeartbeats 8000000 in
theorem LQuery12 (pA : Option Addr) (nA cA : Nat) (hA : List Hd) (A : SrT) (pB : Option Addr) (nB cB : Nat) (hB : List Hd) (B : SrT) (f t : Int) (w : World) (RA : RdT w pA nA hA A) (RB : RdT w pB nB hB B) : Calls Tryz.prog 33 #[.agg #[.slice pA nA cA, .slice pB nB cB], .int .i64 f, .int .i64 t] w fun e w' => e = .returned (.tuple #[.int .i64 (queryN A B f t), .bool (queryO A B f t), .int .i64 (queryC A B f t)]) ∧ Ext w w' := by
  have S0 := Lib.hid ((Sep.start w).al #[.slice pA nA cA, .slice pB nB cB] 42 w.heap.size rfl)
  have HC := Lib.hid (fun W (h : Ext w W) => LCheck12 pA nA cA hA A pB nB cB hB B W (RA.ext h) (RB.ext h))
  have hlA := RA.len
  cases hc : lchkB A B with
  | false =>
    rw [hc] at HC
    clear RA RB
    have hq : queryB A B f t = false := by (unfold queryB; rw [hc]; rfl)
    have HQ : Hid (queryN A B f t = 0 ∧ queryO A B f t = false ∧ queryC A B f t = 1) := by (unfold Hid queryN queryO queryC; rw [hq]; exact ⟨rfl, rfl, rfl⟩)
    clear hq hlA hc
    go_enter Tryz.func33, Tryz.ntmps33
    go_wp2_with (go_at_call 35; go_must (refine (HC.out _ S0.out.ext).mono ?_; rintro e w1 ⟨rfl, hb⟩; have S1 := Lib.hid (S0.out.call hb); have x0 := ((S0.out.call hb).blk 0 rfl).cell 0; have x1 := ((S0.out.call hb).blk 0 rfl).cell 1; have xz := ((S0.out.call hb).blk 0 rfl).lt; clear hb))
    go_ret3
    exact ⟨by rw [HQ.out.1, HQ.out.2.1, HQ.out.2.2]; rfl, S1.out.ext⟩
  | true =>
    rw [hc] at HC
    by_cases h1 : f < 0
    · have c1 : decide (f < 0) = true := by simpa using h1
      clear RA RB
      have hq : queryB A B f t = false := by (unfold queryB; rw [hc, decide_eq_false (show ¬ 0 ≤ f by omega)]; rfl)
      have HQ : Hid (queryN A B f t = 0 ∧ queryO A B f t = false ∧ queryC A B f t = 1) := by (unfold Hid queryN queryO queryC; rw [hq]; exact ⟨rfl, rfl, rfl⟩)
      clear hq hlA hc h1
      go_enter Tryz.func33, Tryz.ntmps33
      go_wp2_with (go_at_call 35; go_must (refine (HC.out _ S0.out.ext).mono ?_; rintro e w1 ⟨rfl, hb⟩; have S1 := Lib.hid (S0.out.call hb); have x0 := ((S0.out.call hb).blk 0 rfl).cell 0; have x1 := ((S0.out.call hb).blk 0 rfl).cell 1; have xz := ((S0.out.call hb).blk 0 rfl).lt; clear hb))
      go_ret3
      exact ⟨by rw [HQ.out.1, HQ.out.2.1, HQ.out.2.2]; rfl, S1.out.ext⟩
    · have c1 : decide (f < 0) = false := by simpa using h1
      by_cases h2 : (nA:Int) ≤ f
      · have c2 : decide ((nA:Int) ≤ f) = true := by simpa using h2
        clear RA RB
        have hq : queryB A B f t = false := by (unfold queryB; rw [decide_eq_false (show ¬ f < A.length by omega)]; simp)
        have HQ : Hid (queryN A B f t = 0 ∧ queryO A B f t = false ∧ queryC A B f t = 1) := by (unfold Hid queryN queryO queryC; rw [hq]; exact ⟨rfl, rfl, rfl⟩)
        clear hq hlA hc h1 h2
        go_enter Tryz.func33, Tryz.ntmps33
        go_wp2_with (go_at_call 35; go_must (refine (HC.out _ S0.out.ext).mono ?_; rintro e w1 ⟨rfl, hb⟩; have S1 := Lib.hid (S0.out.call hb); have x0 := ((S0.out.call hb).blk 0 rfl).cell 0; have x1 := ((S0.out.call hb).blk 0 rfl).cell 1; have xz := ((S0.out.call hb).blk 0 rfl).lt; clear hb))
        go_ret3
        exact ⟨by rw [HQ.out.1, HQ.out.2.1, HQ.out.2.2]; rfl, S1.out.ext⟩
      · have c2 : decide ((nA:Int) ≤ f) = false := by simpa using h2
        by_cases h3 : t < 0
        · have c3 : decide (t < 0) = true := by simpa using h3
          clear RA RB
          have hq : queryB A B f t = false := by (unfold queryB; rw [decide_eq_false (show ¬ 0 ≤ t by omega)]; simp)
          have HQ : Hid (queryN A B f t = 0 ∧ queryO A B f t = false ∧ queryC A B f t = 1) := by (unfold Hid queryN queryO queryC; rw [hq]; exact ⟨rfl, rfl, rfl⟩)
          clear hq hlA hc h1 h2 h3
          go_enter Tryz.func33, Tryz.ntmps33
          go_wp2_with (go_at_call 35; go_must (refine (HC.out _ S0.out.ext).mono ?_; rintro e w1 ⟨rfl, hb⟩; have S1 := Lib.hid (S0.out.call hb); have x0 := ((S0.out.call hb).blk 0 rfl).cell 0; have x1 := ((S0.out.call hb).blk 0 rfl).cell 1; have xz := ((S0.out.call hb).blk 0 rfl).lt; clear hb))
          go_ret3
          exact ⟨by rw [HQ.out.1, HQ.out.2.1, HQ.out.2.2]; rfl, S1.out.ext⟩
        · have c3 : decide (t < 0) = false := by simpa using h3
          by_cases h4 : (nA:Int) ≤ t
          · have c4 : decide ((nA:Int) ≤ t) = true := by simpa using h4
            clear RA RB
            have hq : queryB A B f t = false := by (unfold queryB; rw [decide_eq_false (show ¬ t < A.length by omega)]; simp)
            have HQ : Hid (queryN A B f t = 0 ∧ queryO A B f t = false ∧ queryC A B f t = 1) := by (unfold Hid queryN queryO queryC; rw [hq]; exact ⟨rfl, rfl, rfl⟩)
            clear hq hlA hc h1 h2 h3 h4
            go_enter Tryz.func33, Tryz.ntmps33
            go_wp2_with (go_at_call 35; go_must (refine (HC.out _ S0.out.ext).mono ?_; rintro e w1 ⟨rfl, hb⟩; have S1 := Lib.hid (S0.out.call hb); have x0 := ((S0.out.call hb).blk 0 rfl).cell 0; have x1 := ((S0.out.call hb).blk 0 rfl).cell 1; have xz := ((S0.out.call hb).blk 0 rfl).lt; clear hb))
            go_ret3
            exact ⟨by rw [HQ.out.1, HQ.out.2.1, HQ.out.2.2]; rfl, S1.out.ext⟩
          · have c4 : decide ((nA:Int) ≤ t) = false := by simpa using h4
            have hq : queryB A B f t = true := by
              unfold queryB
              rw [hc, decide_eq_true (show 0 ≤ f by omega), decide_eq_true (show f < A.length by omega), decide_eq_true (show 0 ≤ t by omega), decide_eq_true (show t < A.length by omega)]; rfl
            unfold queryN queryO queryC
            rw [if_pos hq, if_pos hq, if_pos hq]
            obtain ⟨a, rfl⟩ : ∃ a : Nat, f = a := ⟨f.toNat, by omega⟩
            obtain ⟨b, rfl⟩ : ∃ b : Nat, t = b := ⟨t.toNat, by omega⟩
            rw [Int.toNat_natCast, Int.toNat_natCast]
            obtain ⟨⟨p1, p2, p3⟩, p4⟩ := lchk_parts hc
            have hlB := RB.len
            have ha : a < nA := by omega
            have hb : b < nB := by omega
            have eA := RA.each a ha
            have eB := RB.each b hb
            have gA := RA.row.cH ha
            have gB := RB.row.cH hb
            have qA := RA.row.ptr
            have qB := RB.row.ptr
            have HBX := Lib.hid (right_sm (p4 a (by omega)).1)
            have HBY := Lib.hid (right_sm (p4 b (by omega)).2)
            obtain ⟨xa, hxa⟩ : ∃ x, nth hA a = x := ⟨_, rfl⟩
            obtain ⟨xb, hxb⟩ : ∃ x, nth hB b = x := ⟨_, rfl⟩
            rw [hxa] at gA eA
            rw [hxb] at gB eB
            obtain ⟨ap, an, ac⟩ := xa
            obtain ⟨bp, bn, bc⟩ := xb
            simp only at gA gB eA eB
            have HX := Lib.hid eA
            have HY := Lib.hid eB
            have pX := eA.ptr
            have pY := eB.ptr
            have L1 := Lib.hid eA.nE
            have L2 := Lib.hid eB.nE
            have n1 := eA.small
            have n2 := eB.small
            generalize nth A a = X at *
            generalize nth B b = Y at *
            have d1 : (0:Int) ≤ a := by omega
            have d2 : (a:Int) < nA := by omega
            have d3 : (0:Int) ≤ b := by omega
            have d4 : (b:Int) < nB := by omega
            have HGA := Lib.hid gA
            have HGB := Lib.hid gB
            have c2n : decide (nA ≤ a) = false := by simp; omega
            have c4n : decide (nA ≤ b) = false := by simp; omega
            clear RA RB hlA hlB hq hc h1 h2 h3 h4 p1 p2 p3 p4 eA eB hxa hxb gA gB
            go_enter Tryz.func33, Tryz.ntmps33
            go_wp2_with (go_at_call 35; go_must (refine (HC.out _ S0.out.ext).mono ?_; rintro e w1 ⟨rfl, hb⟩; have S1 := Lib.hid (S0.out.call hb); have x0 := ((S0.out.call hb).blk 0 rfl).cell 0; have x1 := ((S0.out.call hb).blk 0 rfl).cell 1; have xz := ((S0.out.call hb).blk 0 rfl).lt; clear hb))
            clear S0 HC
            go_loopw [9, 10, 11, 12, 13, 14] (fun v9 v10 i _ _ _ wr => ∃ k : Nat, k ≤ an ∧ i = .int .i64 k ∧ v9 = .int .i64 (leastV (X.take k) Y).1 ∧ v10 = .bool (leastV (X.take k) Y).2 ∧ Sep w wr [.blk w.heap.size 42 #[.slice pA nA cA, .slice pB nB cB]]) (fun _ _ i _ _ _ _ => an - (intOf i).toNat)
            case atStart => exact ⟨0, Nat.zero_le _, rfl, rfl, rfl, S1.out⟩
            case round =>
              clear S1 x0 x1 xz
              obtain ⟨k, hk, rfl, rfl, rfl, S⟩ := hrel
              have b0 := (S.blk 0 rfl).cell 0
              have b1 := (S.blk 0 rfl).cell 1
              have bz := (S.blk 0 rfl).lt
              have gA := S.ext.cell HGA.out
              by_cases hlt : k < an
              · have hkX : k < X.length := by rw [← L1.out]; exact hlt
                have HST := Lib.hid (leastV_snoc (X.take k) Y (nth X k))
                rw [← take_succ_nth X k hkX] at HST
                have HXB := Lib.hid (HBX.out _ (nth_mem hkX))
                have HG1 := Lib.hid (HX.out.cE hlt)
                have HG2 := Lib.hid (HX.out.cE2 hlt)
                obtain ⟨acc, hacc⟩ : ∃ acc, leastV (X.take k) Y = acc := ⟨_, rfl⟩
                rw [hacc] at HST ⊢
                obtain ⟨x, hx⟩ : ∃ x, nth X k = x := ⟨_, rfl⟩
                rw [hx] at HST HXB HG1 HG2
                clear hacc hx
                have HN : Hid (leastV (X.take (k + 1)) Y = leastR acc x Y) := HST.out
                have d5 : (0:Int) ≤ k := by omega
                have d6 : (k:Int) < an := by omega
                have SH := Lib.hid S; clear S
                go_wp2
                go_loopw [9, 10, 12, 13, 14] (fun v9 v10 i _ _ wx => ∃ j : Nat, j ≤ bn ∧ i = .int .i64 j ∧ v9 = .int .i64 (leastR acc x (Y.take j)).1 ∧ v10 = .bool (leastR acc x (Y.take j)).2 ∧ Sep w wx [.blk w.heap.size 42 #[.slice pA nA cA, .slice pB nB cB]]) (fun _ _ i _ _ _ => bn - (intOf i).toNat)
                case atStart => exact ⟨0, Nat.zero_le _, rfl, rfl, rfl, SH.out⟩
                case round =>
                  clear SH b0 b1 bz gA
                  obtain ⟨j, hj, rfl, rfl, rfl, S⟩ := hrel
                  have b0 := (S.blk 0 rfl).cell 0
                  have b1 := (S.blk 0 rfl).cell 1
                  have bz := (S.blk 0 rfl).lt
                  have gA := S.ext.cell HGA.out
                  have gB := S.ext.cell HGB.out
                  by_cases hlj : j < bn
                  · have hjY : j < Y.length := by rw [← L2.out]; exact hlj
                    have g1 := S.ext.cell HG1.out
                    have g2 := S.ext.cell HG2.out
                    have g3 := S.ext.cell (HY.out.cE hlj)
                    have g4 := S.ext.cell (HY.out.cE2 hlj)
                    have zB := World.block_lt_of_cell? wr _ gB
                    have z3 := World.block_lt_of_cell? wr _ g3
                    have z4 := World.block_lt_of_cell? wr _ g4
                    have hst := leastR_snoc acc x (Y.take j) (nth Y j)
                    rw [← take_succ_nth Y j hjY] at hst
                    have hyb := HBY.out _ (nth_mem hjY)
                    have hxb := HXB.out
                    generalize leastR acc x (Y.take j) = r at *
                    generalize nth Y j = y at *
                    obtain ⟨rn, rk⟩ := r
                    obtain ⟨x1, x2⟩ := x
                    obtain ⟨y1, y2⟩ := y
                    unfold leastS at hst
                    simp only at *
                    have S2 := Lib.hid ((S.junk (.cells #[.int .i64 x1, .int .i64 x2] 54)).junk (.cells #[.int .i64 y1, .int .i64 y2] 54))
                    have d7 : (0:Int) ≤ j := by omega
                    have d8 : (j:Int) < bn := by omega
                    clear S
                    by_cases e1 : x1 = y1
                    · have f1 : (x1 == y1) = true := by simpa using e1
                      cases rk with
                      | false =>
                        rw [if_pos ⟨e1, .inl rfl⟩] at hst
                        have HS := Lib.hid hst
                        clear hst
                        subst e1
                        go_wp2
                        go_roundw
                        case rel => exact ⟨j + 1, by omega, by go_num, by rw [HS.out], by rw [HS.out], S2.out⟩
                        case measure => simp [intOf]; omega
                      | true =>
                        by_cases e2 : x2 + y2 < rn
                        · have f2 : decide (x2 + y2 < rn) = true := by simpa using e2
                          rw [if_pos ⟨e1, .inr e2⟩] at hst
                          have HS := Lib.hid hst
                          clear hst e2
                          subst e1
                          go_wp2
                          go_roundw
                          case rel => exact ⟨j + 1, by omega, by go_num, by rw [HS.out], by rw [HS.out], S2.out⟩
                          case measure => simp [intOf]; omega
                        · have f2 : decide (x2 + y2 < rn) = false := by simpa using e2
                          rw [if_neg (by rintro ⟨_, h | h⟩; · cases h
                                         · exact e2 h)] at hst
                          have HS := Lib.hid hst
                          clear hst e2
                          subst e1
                          go_wp2
                          go_roundw
                          case rel => exact ⟨j + 1, by omega, by go_num, by rw [HS.out], by rw [HS.out], S2.out⟩
                          case measure => simp [intOf]; omega
                    · have f1 : (x1 == y1) = false := by simpa using e1
                      rw [if_neg fun h => e1 h.1] at hst
                      have HS := Lib.hid hst
                      clear hst e1
                      go_wp2
                      go_roundw
                      case rel => exact ⟨j + 1, by omega, by go_num, by rw [HS.out], by rw [HS.out], S2.out⟩
                      case measure => simp [intOf]; omega
                  · obtain rfl : j = bn := by omega
                    rw [List.take_of_length_le (by rw [← L2.out]; exact Nat.le_refl _), ← HN.out]
                    have SH := Lib.hid S; clear S
                    go_wp2
                    go_roundw
                    case rel => exact ⟨k + 1, by omega, by go_num, rfl, rfl, SH.out⟩
                    case measure => simp [intOf]; omega
              · obtain rfl : k = an := by omega
                rw [List.take_of_length_le (by rw [← L1.out]; exact Nat.le_refl _)]
                have SH := Lib.hid S; clear S
                go_wp2
                go_ret3
                exact ⟨rfl, SH.out.ext⟩
end Go.Proofs.YthlmcfbadhidbaaGreat
/- The law LabelTells: labels are right, or not, are so many, and tell just this of two places. -/
namespace Go.Proofs.YthlmcfbadhidbaaGreat
open Go Go.RowKit
def bigL (A B : SrT) : Bool := decide (250 < A.length) || decide (250 < B.length) || decide (600 < lsize A B)
theorem hits_big {T : SrT} (h : ∀ v, v < T.length → (nth T v).length ≤ 8796093022207) (hl : T.length ≤ 250) : hitsN T T.length ≤ 2199023255551750 := by
  have := hitsN_bd h T.length (Nat.le_refl _)
  have := Nat.mul_le_mul_right 8796093022207 hl
  omega
theorem hits_row {T : SrT} {v : Nat} (hv : v < T.length) : (nth T v).length ≤ hitsN T T.length := by
  have h1 := hitsN_step hv
  have h2 := hitsN_le (T := T) (show v + 1 ≤ T.length by omega)
  omega
set_option maxRecDepth 100000 in
set_option maxHeartbeats 4000000 in
theorem LBig12 (pA : Option Addr) (nA cA : Nat) (hA : List Hd) (A : SrT) (pB : Option Addr) (nB cB : Nat) (hB : List Hd) (B : SrT) (w : World) (RA : RdT w pA nA hA A) (RB : RdT w pB nB hB B) (bA : ∀ v, v < nA → (nth A v).length ≤ 8796093022207) (bB : ∀ v, v < nB → (nth B v).length ≤ 8796093022207) : Calls Tryz.prog 30 #[.agg #[.slice pA nA cA, .slice pB nB cB]] w fun e w' => e = .returned (.bool (bigL A B)) ∧ Ext w w' := by
  have S0 := Lib.hid ((Sep.start w).al #[.slice pA nA cA, .slice pB nB cB] 42 w.heap.size rfl)
  have lA := RA.len
  have lB := RB.len
  by_cases h1 : 250 < nA
  · have HF : Hid (bigL A B = true) := by unfold Hid bigL; rw [lA, decide_eq_true h1]; rfl
    have c1 : decide ((250:Int) < nA) = true := by simp; omega
    clear RA RB lA lB bA bB h1
    go_enter Tryz.func30, Tryz.ntmps30
    go_wp2
    go_ret
    exact ⟨by rw [HF.out]; rfl, S0.out.ext⟩
  · have c1 : decide ((250:Int) < nA) = false := by simp; omega
    by_cases h2 : 250 < nB
    · have HF : Hid (bigL A B = true) := by unfold Hid bigL; rw [lB, decide_eq_true h2]; simp
      have c2 : decide ((250:Int) < nB) = true := by simp; omega
      clear RA RB lA lB bA bB h1 h2
      go_enter Tryz.func30, Tryz.ntmps30
      go_wp2
      go_ret
      exact ⟨by rw [HF.out]; rfl, S0.out.ext⟩
    · have c2 : decide ((250:Int) < nB) = false := by simp; omega
      have hz : lsize A B ≤ 9223372036854775807 := by
        have h3 := hits_big (T := A) (by rw [lA]; exact bA) (by omega)
        have h4 := hits_big (T := B) (by rw [lB]; exact bB) (by omega)
        unfold lsize; omega
      have HS := Lib.hid (fun W (h : Ext w W) => LSize12 pA nA cA hA A pB nB cB hB B W (RA.ext h) (RB.ext h) hz (by omega) (by omega))
      have HF : Hid (bigL A B = decide (600 < lsize A B)) := by
        unfold Hid bigL
        rw [decide_eq_false (show ¬ 250 < A.length by omega), decide_eq_false (show ¬ 250 < B.length by omega)]; rfl
      rw [HF.out]
      clear RA RB lA lB bA bB h1 h2 HF
      generalize lsize A B = s at *
      by_cases h3 : 600 < s
      · have c3 : decide ((600:Int) < s) = true := by simp; omega
        have c4 : decide (600 < s) = true := by simp; omega
        clear h3
        go_enter Tryz.func30, Tryz.ntmps30
        go_wp2_with (go_at_call 37; go_must (refine (HS.out _ S0.out.ext).mono ?_; rintro e w1 ⟨rfl, hb⟩; have S1 := Lib.hid (S0.out.call hb); clear hb))
        go_ret
        exact ⟨by rw [c4]; rfl, S1.out.ext⟩
      · have c3 : decide ((600:Int) < s) = false := by simp; omega
        have c4 : decide (600 < s) = false := by simp; omega
        clear h3
        go_enter Tryz.func30, Tryz.ntmps30
        go_wp2_with (go_at_call 37; go_must (refine (HS.out _ S0.out.ext).mono ?_; rintro e w1 ⟨rfl, hb⟩; have S1 := Lib.hid (S0.out.call hb); clear hb))
        go_ret
        exact ⟨by rw [c4]; rfl, S1.out.ext⟩
set_option maxRecDepth 100000 in
set_option maxHeartbeats 8000000 in
theorem lawTells12 (pA : Option Addr) (nA cA : Nat) (hA : List Hd) (A : SrT) (pB : Option Addr) (nB cB : Nat) (hB : List Hd) (B : SrT) (f t : Int) (w : World) (RA : RdT w pA nA hA A) (RB : RdT w pB nB hB B) (bA : ∀ v, v < nA → (nth A v).length ≤ 8796093022207) (bB : ∀ v, v < nB → (nth B v).length ≤ 8796093022207) :
    Calls Tryz.prog 5 #[.agg #[.slice pA nA cA, .slice pB nB cB], .int .i64 f, .int .i64 t] w fun e w' => e = .returned (.bool true) ∧ Ext w w' := by
  have S0 := Lib.hid ((Sep.start w).al #[.slice pA nA cA, .slice pB nB cB] 42 w.heap.size rfl)
  have HBig := Lib.hid (fun W (h : Ext w W) => LBig12 pA nA cA hA A pB nB cB hB B W (RA.ext h) (RB.ext h) bA bB)
  have lA := RA.len
  have lB := RB.len
  cases hbig : bigL A B with
  | true =>
    rw [hbig] at HBig
    clear RA RB lA lB bA bB hbig
    go_enter Tryz.func5, Tryz.ntmps5
    go_wp2_with (go_at_call 30; go_must (refine (HBig.out _ S0.out.ext).mono ?_; rintro e w1 ⟨rfl, hb⟩; have S1 := Lib.hid (S0.out.call hb); clear hb))
    go_ret
    exact ⟨rfl, S1.out.ext⟩
  | false =>
    rw [hbig] at HBig
    unfold bigL at hbig
    simp only [Bool.or_eq_false_iff, decide_eq_false_iff_not] at hbig
    have hz : lsize A B ≤ 600 := by omega
    have hn : nA ≤ 250 ∧ nB ≤ 250 := by omega
    have oA : ∀ v, v < nA → (nth A v).length ≤ 10000000 := fun v hv => by
      have := hits_row (T := A) (v := v) (by omega)
      unfold lsize at hz; omega
    have oB : ∀ v, v < nB → (nth B v).length ≤ 10000000 := fun v hv => by
      have := hits_row (T := B) (v := v) (by omega)
      unfold lsize at hz; omega
    have HOW := Lib.hid (fun W (h : Ext w W) => OwnL12 pA nA cA hA A pB nB cB hB B W (RA.ext h) (RB.ext h) oA oB (by omega) (by omega))
    have PA := Lib.hid RA
    have PB := Lib.hid RB
    have LA := Lib.hid lA
    have LB := Lib.hid lB
    clear RA RB lA lB bA bB hbig oA oB
    go_enter Tryz.func5, Tryz.ntmps5
    go_wp2_with (first
      | (go_at_call 33; have _t := S3; go_must (refine (LQuery12 qA nA kA hA' A qB nB kB hB' B f t _ (QA.out.ext Z3.out) (QB.out.ext Z3.out)).mono ?_; rintro e w4 ⟨rfl, hb⟩; have Z4 := Lib.hid (Ext.trans Z3.out hb); have S4 := Lib.hid (S3.out.call hb); clear hb))
      | (go_at_call 32; have _t := S2; go_must (refine (LQueryG pA nA cA hA A pB nB cB hB B f t _ (PA.out.ext S2.out.ext) (PB.out.ext S2.out.ext)).mono ?_; rintro e w3 ⟨rfl, hb⟩; have Z3 := Lib.hid hb; have S3 := Lib.hid (S2.out.call hb); have yz := (S3.out.blk 0 rfl).lt; have y0 := (S3.out.blk 0 rfl).cell 0; have y1 := (S3.out.blk 0 rfl).cell 1; clear hb))
      | (go_at_call 31; have _t := S1; go_must (refine (HOW.out _ S1.out.ext).mono ?_; rintro e w2 ⟨qA, kA, hA', qB, kB, hB', rfl, lA', lB', Z⟩; have EX := Lib.hid (Ext.trans Z.ext (Ext.alloc (Below.refl _ _) (.cells #[.slice qA nA kA, .slice qB nB kB] 42))); have QA := Lib.hid ((RdT.of_sep Z 2 3 rfl rfl (by rw [LA.out]; exact lA')).ext (Ext.alloc (Below.refl _ _) (.cells #[.slice qA nA kA, .slice qB nB kB] 42))); have QB := Lib.hid ((RdT.of_sep Z 0 1 rfl rfl (by rw [LB.out]; exact lB')).ext (Ext.alloc (Below.refl _ _) (.cells #[.slice qA nA kA, .slice qB nB kB] 42))); have S2 := Lib.hid ((S1.out.call Z.ext).al #[.slice qA nA kA, .slice qB nB kB] 42 w2.heap.size rfl); have xz := (S2.out.blk 1 rfl).lt; have x0 := (S2.out.blk 1 rfl).cell 0; have x1 := (S2.out.blk 1 rfl).cell 1; clear Z))
      | (go_at_call 30; go_must (refine (HBig.out _ S0.out.ext).mono ?_; rintro e w1 ⟨rfl, hb⟩; have S1 := Lib.hid (S0.out.call hb); have az := (S1.out.blk 0 rfl).lt; have a0 := (S1.out.blk 0 rfl).cell 0; have a1 := (S1.out.blk 0 rfl).cell 1; clear hb)))
    have H1 := Lib.hid (fun x : ExtOf w4 => Labels12 x.val)
    have H2 := Lib.hid (fun x : ExtOf w4 => LCheckG pA nA cA hA A pB nB cB hB B x.val (PA.out.ext (Ext.trans S4.out.ext x.ext)) (PB.out.ext (Ext.trans S4.out.ext x.ext)))
    have H3 := Lib.hid (fun x : ExtOf w4 => LCheck12 qA nA kA hA' A qB nB kB hB' B x.val (QA.out.ext (Ext.trans Z4.out x.ext)) (QB.out.ext (Ext.trans Z4.out x.ext)))
    have H4 := Lib.hid (fun x : ExtOf w4 => LSizeG pA nA cA hA A pB nB cB hB B x.val (PA.out.ext (Ext.trans S4.out.ext x.ext)) (PB.out.ext (Ext.trans S4.out.ext x.ext)) (by omega) (by omega) (by omega))
    have H5 := Lib.hid (fun x : ExtOf w4 => LSize12 qA nA kA hA' A qB nB kB hB' B x.val (QA.out.ext (Ext.trans Z4.out x.ext)) (QB.out.ext (Ext.trans Z4.out x.ext)) (by omega) (by omega) (by omega))
    have H6 := Lib.hid (fun x : ExtOf w4 => LSameY pA nA cA hA A pB nB cB hB B qA nA kA hA' qB nB kB hB' x.val (PA.out.ext (Ext.trans S4.out.ext x.ext)) (PB.out.ext (Ext.trans S4.out.ext x.ext)) (QA.out.ext (Ext.trans Z4.out x.ext)) (QB.out.ext (Ext.trans Z4.out x.ext)))
    generalize queryN A B f t = QN at *
    generalize queryO A B f t = QO at *
    generalize queryC A B f t = QC at *
    generalize lsize A B = s at *
    generalize lchkB A B = ck at *
    have f1 : (QN == QN) = true := by simp
    have f2 : (QO == QO) = true := by simp
    have f3 : (QC == QC) = true := by simp
    have f4 : ((s : Int) == (s : Int)) = true := by simp
    have f5 : (ck == ck) = true := by simp
    have g0 : w4.cell? ⟨w.heap.size, 0, none⟩ = some (.slice pA nA cA) := (S4.out.blk 1 rfl).cell 0
    have g1 : w4.cell? ⟨w.heap.size, 1, none⟩ = some (.slice pB nB cB) := (S4.out.blk 1 rfl).cell 1
    have g2 : w4.cell? ⟨w2.heap.size, 0, none⟩ = some (.slice qA nA kA) := (S4.out.blk 0 rfl).cell 0
    have g3 : w4.cell? ⟨w2.heap.size, 1, none⟩ = some (.slice qB nB kB) := (S4.out.blk 0 rfl).cell 1
    have o0 := fun x : ExtOf w4 => x.ext.cell g0
    have o1 := fun x : ExtOf w4 => x.ext.cell g1
    have o2 := fun x : ExtOf w4 => x.ext.cell g2
    have o3 := fun x : ExtOf w4 => x.ext.cell g3
    refine wp_region_ext (by kernel_rfl) (by kernel_rfl) ?_
    repeat (go_big_quiet_step (((first | (go_at_call 28; exact Calls.ext_of (H1.out _)) | (go_at_call 34; exact Calls.ext_of (H2.out _)) | (go_at_call 35; exact Calls.ext_of (H3.out _)) | (go_at_call 36; exact Calls.ext_of (H4.out _)) | (go_at_call 37; exact Calls.ext_of (H5.out _)) | (go_at_call 29; exact Calls.ext_of (H6.out _))))))
    refine wpQuiet_nil ?_
    rintro w9 ⟨⟨_, hb9⟩, rfl⟩
    go_wp2
    go_ret
    exact ⟨rfl, Ext.trans S4.out.ext hb9⟩
end Go.Proofs.YthlmcfbadhidbaaGreat
/- An argument that is labels, opened: each row takes no more than a process has. -/
namespace Go.Proofs.YthlmcfbadhidbaaGreat
open Go Go.RowKit Go.ChangeShapes Go.WideShapes Go.ChangeAt Go.Deep Go.Joins
section
variable {H : Type} {enc : TypeId × Value → H} {w : World} {base : Nat} {spare : Nat → Bool} {held : Bool}
theorem weights_mem {e : TypeId} : ∀ {l : List (DataW H)} {d : DataW H}, d ∈ l → ∀ n ∈ d.weights Tryz.prog e, n ∈ DataW.weightsAll Tryz.prog e l
  | [], _, h, _, _ => nomatch h
  | x :: l, d, h, n, hn => by
    rw [DataW.weightsAll, List.mem_append]
    rcases List.mem_cons.1 h with rfl | h
    · exact .inl hn
    · exact .inr (weights_mem h n hn)
/-- what a slice weighs -/
theorem slice_weight {t e : TypeId} {fuel : Nat} {v : Value} {x : DataW H × List MemPlace} (ht : Tryz.prog.underlying t = some (.slice e)) (h : DataW.trod enc Tryz.prog w base spare held fuel t [v] = some x) (hw : ∀ m ∈ x.1.weights Tryz.prog t, m ≤ reachBytes)
    {p : Option Addr} {n c : Nat} (hv : v = .slice p n c) : n * Tryz.prog.bytesOf e ≤ reachBytes := by
  rcases open_slice ht h with ⟨h0, _⟩ | ⟨a, len, cap, m, n', D, Pl, hcs, hb, hl, hm, hmm, hx, hi⟩
  · rw [hv] at h0; simp at h0; rw [h0.2.1]; simp [reachBytes]
  · rw [hv] at hcs; simp at hcs
    obtain ⟨_, rfl, _⟩ := hcs
    rw [hx] at hw
    have h1 := hw ((((List.range n).map D).length + ((List.range (m - n)).map fun j => D (n + j)).length) * Tryz.prog.bytesOf e) (by rw [DataW.weights, ht]; simp)
    refine Nat.le_trans (Nat.mul_le_mul_right _ ?_) h1
    simp
theorem trod_hits {t : TypeId} {fuel : Nat} {v : Value} {x : DataW H × List MemPlace} (ht : Tryz.prog.underlying t = some (.slice 54)) (h : DataW.trod enc Tryz.prog w base spare held fuel t [v] = some x) :
    ∃ p n c E, v = .slice p n c ∧ n ≤ c ∧ Rd w 2 p n (encE E) := by
  rcases open_slice_fields ht Tryz.underlying54 (by kernel_rfl) (by kernel_rfl) h with h0 | ⟨a, len, cap, hcs, hl, hm, hi⟩
  · simp at h0; exact ⟨none, 0, 0, [], h0, Nat.le_refl _, Rd.nil _ _ _⟩
  · simp at hcs
    have hl2 : len ≤ 9223372036854775807 := by unfold maxLen at hm; omega
    have hE : ∀ i, i < len → ∃ e : Int × Int, w.cell? (a.add (i * 2)) = some (.int .i64 e.1) ∧ w.cell? (a.add (i * 2 + 1)) = some (.int .i64 e.2) := by
      intro i hil
      obtain ⟨v1, y1, n1, c1, t1⟩ := hi i hil 0 _ rfl
      obtain ⟨v2, y2, n2, c2, t2⟩ := hi i hil 1 _ rfl
      obtain ⟨k1, e1, _⟩ := DataW.trod_int Tryz.underlying3 t1
      obtain ⟨k2, e2, _⟩ := DataW.trod_int Tryz.underlying3 t2
      simp at e1 e2
      subst e1 e2
      exact ⟨(k1, k2), c1, c2⟩
    obtain ⟨E, hEl, hEc⟩ := exists_list hE
    refine ⟨some a, len, cap, E, hcs, hl, Rd.of_cells (by decide) (by rw [encE_len, hEl]) hl2 fun j hj => ?_⟩
    have hd : j / 2 < len := by omega
    obtain ⟨g1, g2⟩ := encE_get E (j / 2) (by omega)
    obtain ⟨h1, h2⟩ := hEc (j / 2) hd
    have hm2 : j = j / 2 * 2 ∨ j = j / 2 * 2 + 1 := by omega
    rcases hm2 with e | e
    · rw [e, g1]; exact h1
    · rw [e, g2]; exact h2
theorem bytesHit : Tryz.prog.bytesOf 54 = 16 := by kernel_rfl
theorem trod_hitrows {t : TypeId} {fuel : Nat} {v : Value} {x : DataW H × List MemPlace} (ht : Tryz.prog.underlying t = some (.slice 52)) (h : DataW.trod enc Tryz.prog w base spare held fuel t [v] = some x) (hw : ∀ m ∈ x.1.weights Tryz.prog t, m ≤ reachBytes) :
    ∃ p n c hs T, v = .slice p n c ∧ n ≤ c ∧ RdT w p n hs T ∧ ∀ k, k < n → (nth T k).length ≤ 8796093022207 := by
  rcases open_slice ht h with ⟨h0, _⟩ | ⟨a, len, cap, m, n, D, Pl, hcs, hb, hl, hm, hmm, hx, hi⟩
  · simp at h0; exact ⟨none, 0, 0, [], [], h0, Nat.le_refl _, ⟨Rd.nil _ _ _, rfl, fun j hj => by omega⟩, fun k hk => by omega⟩
  · simp at hcs
    have hl2 : len ≤ 9223372036854775807 := by unfold maxLen at hm; omega
    have hc1 : Tryz.prog.cellsOf 52 = 1 := by kernel_rfl
    rw [hc1] at hi
    have hS : ∀ i, i < len → ∃ q : Hd × List (Int × Int), w.cell? (a.add i) = some (.slice q.1.p q.1.n q.1.c) ∧ Rd w 2 q.1.p q.1.n (encE q.2) ∧ q.2.length ≤ 8796093022207 := by
      intro i hil
      obtain ⟨cs', hc, ht'⟩ := hi i (by rw [hmm]; split <;> omega)
      obtain ⟨_, hcl, hat⟩ := World.cells?_some hc
      match cs', hcl with
      | [u], _ =>
        obtain ⟨p, n', c', l, e1, _, hr⟩ := trod_hits Tryz.underlying52 ht'
        have hwi : ∀ m ∈ (D i).weights Tryz.prog 52, m ≤ reachBytes := fun m hm' => by
          refine hw m ?_
          rw [hx, DataW.weights, ht]
          refine List.mem_cons_of_mem _ (List.mem_append_left _ (weights_mem (d := D i) ?_ m hm'))
          exact List.mem_map.2 ⟨i, List.mem_range.2 hil, rfl⟩
        have hwn := slice_weight (x := (D i, Pl i)) Tryz.underlying52 ht' hwi e1
        rw [bytesHit] at hwn
        have := hat 0 (by decide)
        rw [Go.Deep.add_add, Nat.mul_one, Nat.add_zero, e1] at this
        have hn := hr.nE
        unfold reachBytes at hwn
        exact ⟨(⟨p, n', c'⟩, l), this, hr, by simp only; omega⟩
    obtain ⟨l, hll, hlc⟩ := exists_list hS
    have hm : ∀ i, i < len → nth (l.map (·.1)) i = (nth l i).1 ∧ nth (l.map (·.2)) i = (nth l i).2 := fun i hil => by
      rw [nth_eq (l := l.map (·.1)) (by rw [List.length_map]; omega), nth_eq (l := l.map (·.2)) (by rw [List.length_map]; omega), nth_eq (l := l) (by omega)]; simp
    refine ⟨some a, len, cap, l.map (·.1), l.map (·.2), hcs, hl, ⟨Rd.of_cells (by decide) (by rw [encH_len, List.length_map, hll, Nat.mul_one]) hl2 fun j hj => ?_, by simp [hll], fun j hj => ?_⟩, fun k hk => ?_⟩
    · rw [encH_get _ j (by simp; omega), (hm j (by omega)).1]
      exact (hlc j (by omega)).1
    · rw [(hm j hj).1, (hm j hj).2]
      exact (hlc j hj).2.1
    · rw [(hm k hk).2]; exact (hlc k hk).2.2
set_option maxRecDepth 100000 in
/-- labels by value -/
theorem open_labels {r : Reach} {b0 : Nat} {v : Value} {d : DataW H} {p : List MemPlace} (hv : Value.okWide Tryz.prog w r b0 42 v) (h : DataW.Trod enc Tryz.prog w base spare held 42 v d p) (hw : ∀ m ∈ d.weights Tryz.prog 42, m ≤ reachBytes) :
    ∃ pA nA cA hA A pB nB cB hB B, v = .agg #[.slice pA nA cA, .slice pB nB cB] ∧ RdT w pA nA hA A ∧ RdT w pB nB hB B ∧ (∀ k, k < nA → (nth A k).length ≤ 8796093022207) ∧ ∀ k, k < nB → (nth B k).length ≤ 8796093022207 := by
  obtain ⟨v0, v1, y0, y1, n, rfl, rfl, _, t0, t1⟩ := open_agg2 Tryz.underlying42 (by kernel_rfl) (by kernel_rfl) hv h
  have e : (DataW.agg [y0.1, y1.1]).weights Tryz.prog 42 = y0.1.weights Tryz.prog 40 ++ (y1.1.weights Tryz.prog 40 ++ []) := by
    rw [DataW.weights, Tryz.underlying42]; rfl
  rw [e] at hw
  obtain ⟨pA, nA, cA, hA, A, rfl, _, h1, b1⟩ := trod_hitrows Tryz.underlying40 t0 fun m hm => hw m (List.mem_append_left _ hm)
  obtain ⟨pB, nB, cB, hB, B, rfl, _, h2, b2⟩ := trod_hitrows Tryz.underlying40 t1 fun m hm => hw m (List.mem_append_right _ (List.mem_append_left _ hm))
  exact ⟨pA, nA, cA, hA, A, pB, nB, cB, hB, B, rfl, h1, h2, b1, b2⟩
end
end Go.Proofs.YthlmcfbadhidbaaGreat
/- The law LabelTurned: rows that are turned have labels that tell the same, turned. -/
namespace Go.Proofs.YthlmcfbadhidbaaGreat
open Go Go.RowKit
set_option maxRecDepth 100000 in
set_option maxHeartbeats 8000000 in
theorem lawTurned12 (po : Option Addr) (no co : Nat) (O : List Int) (pt : Option Addr) (nt ct : Nat) (T : List Int) (pr : Option Addr) (nr cr : Nat) (R : List Int) (pv : Option Addr) (nv cv : Nat) (V : List Int) (f t : Int) (w : World) (hO : Rd w 1 po no (encI O)) (hT : Rd w 1 pt nt (encI T)) (hR : Rd w 1 pr nr (encI R)) (hV : Rd w 1 pv nv (encI V)) (hct : nt ≤ ct) (hcv : nv ≤ cv) : Calls Tryz.prog 7 #[.agg #[.slice po no co, .slice pt nt ct, .slice pr nr cr, .slice pv nv cv], .int .i64 f, .int .i64 t] w fun e w' => e = .returned (.bool true) ∧ Ext w w' := by
  have HBig := Lib.hid (fun W1 (h : Ext w W1) => Big04 po no co O pt nt ct T pr nr cr R pv nv cv V W1 (hO.ext h) (hT.ext h) (hR.ext h) (hV.ext h))
  have S0 := Lib.hid ((Sep.start w).al #[.slice po no co, .slice pt nt ct, .slice pr nr cr, .slice pv nv cv] 24 w.heap.size rfl)
  have lO := hO.nI
  have pz := hO.small
  cases hbig : bigR O T R V with
  | true =>
    rw [hbig] at HBig
    clear hbig hO hT hR hV hct hcv lO
    go_enter Tryz.func7, Tryz.ntmps7
    go_wp2_with (go_at_call 10; go_must (refine (HBig.out _ S0.out.ext).mono ?_; rintro e w1 ⟨rfl, hb⟩; have S1 := Lib.hid (S0.out.call hb); have xz := (S1.out.blk 0 rfl).lt; have x0 := (S1.out.blk 0 rfl).cell 0; have x1 := (S1.out.blk 0 rfl).cell 1; have x2 := (S1.out.blk 0 rfl).cell 2; have x3 := (S1.out.blk 0 rfl).cell 3; clear hb))
    go_ret
    exact ⟨rfl, S1.out.ext⟩
  | false =>
    rw [hbig] at HBig
    clear hbig
    by_cases hn : (30:Int) < no
    · have c1 : decide ((30:Int) < no) = true := by simpa using hn
      clear hn hO hT hR hV hct hcv lO
      go_enter Tryz.func7, Tryz.ntmps7
      go_wp2_with (go_at_call 10; go_must (refine (HBig.out _ S0.out.ext).mono ?_; rintro e w1 ⟨rfl, hb⟩; have S1 := Lib.hid (S0.out.call hb); have xz := (S1.out.blk 0 rfl).lt; have x0 := (S1.out.blk 0 rfl).cell 0; have x1 := (S1.out.blk 0 rfl).cell 1; have x2 := (S1.out.blk 0 rfl).cell 2; have x3 := (S1.out.blk 0 rfl).cell 3; clear hb))
      go_ret
      exact ⟨rfl, S1.out.ext⟩
    · have c1 : decide ((30:Int) < no) = false := by simpa using hn
      cases hck : checkR O T R V with
      | false =>
        have HBu := Lib.hid (fun W1 (h : Ext w W1) => BuildG_no po no co O pt nt ct T pr nr cr R pv nv cv V W1 (hO.ext h) (hT.ext h) (hR.ext h) (hV.ext h) hct hcv hck)
        have HBt := Lib.hid (fun W1 (h : Ext w W1) => BuildG_no pr nr cr R pv nv cv V po no co O pt nt ct T W1 (hR.ext h) (hV.ext h) (hO.ext h) (hT.ext h) hcv hct (by rw [checkR_turn]; exact hck))
        clear hO hT hR hV hct hcv lO hn hck
        go_enter Tryz.func7, Tryz.ntmps7
        go_wp2_with (first | (go_at_call 28; have _t := S3; go_must (refine (Labels12 _).mono ?_; rintro e w4 ⟨rfl, hb⟩; have S4 := Lib.hid (S3.out.call hb); clear hb)) | (go_at_call 26; have _t := S2; go_must (refine (HBt.out _ S2.out.ext).mono ?_; rintro e w3 ⟨rfl, hb⟩; have S3 := Lib.hid ((S2.out.call hb).al #[.slice none 0 0, .slice none 0 0] 42 w3.heap.size rfl); clear hb)) | (go_at_call 26; have _t := S1; go_must (refine (HBu.out _ S1.out.ext).mono ?_; rintro e w2 ⟨rfl, hb⟩; have S2 := Lib.hid ((S1.out.call hb).al #[.slice none 0 0, .slice none 0 0] 42 w2.heap.size rfl); have yz := (S2.out.blk 1 rfl).lt; have y0 := (S2.out.blk 1 rfl).cell 0; have y1 := (S2.out.blk 1 rfl).cell 1; have y2 := (S2.out.blk 1 rfl).cell 2; have y3 := (S2.out.blk 1 rfl).cell 3; clear hb)) | (go_at_call 10; go_must (refine (HBig.out _ S0.out.ext).mono ?_; rintro e w1 ⟨rfl, hb⟩; have S1 := Lib.hid (S0.out.call hb); have xz := (S1.out.blk 0 rfl).lt; have x0 := (S1.out.blk 0 rfl).cell 0; have x1 := (S1.out.blk 0 rfl).cell 1; have x2 := (S1.out.blk 0 rfl).cell 2; have x3 := (S1.out.blk 0 rfl).cell 3; clear hb)))
        go_ret
        exact ⟨rfl, S4.out.ext⟩
      | true =>
        have r := offB_parts (halfB_off (checkR_half hck).2.2.1)
        obtain ⟨n, hno⟩ : ∃ n, O.length = n + 1 := ⟨O.length - 1, by omega⟩
        have hck2 := checkR_turn1 hck
        have hnr : R.length = n + 1 := by rw [← (checkR_half hck).1]; exact hno
        have HBu := Lib.hid (fun W1 (h : Ext w W1) => BuildRd po no co O pt nt ct T pr nr cr R pv nv cv V n W1 (hO.ext h) (hT.ext h) (hR.ext h) (hV.ext h) hct hcv hck hno)
        have HBt := Lib.hid (fun W1 (h : Ext w W1) => BuildRd pr nr cr R pv nv cv V po no co O pt nt ct T n W1 (hR.ext h) (hV.ext h) (hO.ext h) (hT.ext h) hcv hct hck2 hnr)
        rw [byL_turn] at HBt
        have hn1 : 1 ≤ n ∧ n ≤ 200 ∧ no = n + 1 := by omega
        obtain ⟨g1, g2, rfl⟩ := hn1
        have c1 : decide ((30:Int) < (n:Int) + 1) = false := by simp; omega
        have HSZ := Lib.hid (lsize_lab (na := rowL R V) (nb := rowL O T) (L := byL O R n) g2)
        have lA := labT_len (rowL R V) n (byL O R n) n
        have lB := labT_len (rowL O T) n (byL O R n) n
        clear hO hT hR hV hct hcv lO r hck hck2 hnr hno hn
        generalize labT (rowL R V) n (byL O R n) n = A at *
        generalize labT (rowL O T) n (byL O R n) n = B at *
        have HQT := Lib.hid (query_turn (A := A) (B := B) (by omega) f t)
        have HLT := Lib.hid (lsize_turn A B)
        clear lA lB
        go_enter Tryz.func7, Tryz.ntmps7
        go_wp2_with (first
          | (go_at_call 32; have _t := S4; go_must (refine (LQueryG uO n dO KO B uI n dI KI A t f _ (RC.out.ext Z4.out) (RD.out.ext Z4.out)).mono ?_; rintro e w5 ⟨rfl, hb⟩; rw [HQT.out.1, HQT.out.2.1, HQT.out.2.2]; have Z5 := Lib.hid (Ext.trans Z4.out hb); have S5 := Lib.hid (S4.out.call hb); clear hb))
          | (go_at_call 32; have _t := S3; go_must (refine (LQueryG qO n cO HO A qI n cI HI B f t _ (RA.out.ext EX.out) (RB.out.ext EX.out)).mono ?_; rintro e w4 ⟨rfl, hb⟩; have Z4 := Lib.hid hb; have S4 := Lib.hid (S3.out.call hb); have uz := (S4.out.blk 0 rfl).lt; have u0 := (S4.out.blk 0 rfl).cell 0; have u1 := (S4.out.blk 0 rfl).cell 1; clear hb))
          | (go_at_call 26; have _t := S2; go_must (refine (HBt.out _ S2.out.ext).mono ?_; rintro e w3 ⟨uO, dO, uI, dI, KO, KI, rfl, rc, rd, hb⟩; have EX := Lib.hid (Ext.trans hb (Ext.alloc (Below.refl _ _) (.cells #[.slice uO n dO, .slice uI n dI] 42))); have RC := Lib.hid (rc.ext (Ext.alloc (Below.refl _ _) (.cells #[.slice uO n dO, .slice uI n dI] 42))); have RD := Lib.hid (rd.ext (Ext.alloc (Below.refl _ _) (.cells #[.slice uO n dO, .slice uI n dI] 42))); have S3 := Lib.hid ((S2.out.call hb).al #[.slice uO n dO, .slice uI n dI] 42 w3.heap.size rfl); have pz := (S3.out.blk 1 rfl).lt; have p0 := (S3.out.blk 1 rfl).cell 0; have p1 := (S3.out.blk 1 rfl).cell 1; have qz := (S3.out.blk 0 rfl).lt; have q0 := (S3.out.blk 0 rfl).cell 0; have q1 := (S3.out.blk 0 rfl).cell 1; clear hb rc rd)) | (go_at_call 26; have _t := S1; go_must (refine (HBu.out _ S1.out.ext).mono ?_; rintro e w2 ⟨qO, cO, qI, cI, HO, HI, rfl, ra, rb, hb⟩; have RA := Lib.hid (ra.ext (Ext.alloc (Below.refl _ _) (.cells #[.slice qO n cO, .slice qI n cI] 42))); have RB := Lib.hid (rb.ext (Ext.alloc (Below.refl _ _) (.cells #[.slice qO n cO, .slice qI n cI] 42))); have S2 := Lib.hid ((S1.out.call hb).al #[.slice qO n cO, .slice qI n cI] 42 w2.heap.size rfl); have yz := (S2.out.blk 1 rfl).lt; have y0 := (S2.out.blk 1 rfl).cell 0; have y1 := (S2.out.blk 1 rfl).cell 1; have y2 := (S2.out.blk 1 rfl).cell 2; have y3 := (S2.out.blk 1 rfl).cell 3; clear hb ra rb)) | (go_at_call 10; go_must (refine (HBig.out _ S0.out.ext).mono ?_; rintro e w1 ⟨rfl, hb⟩; have S1 := Lib.hid (S0.out.call hb); have xz := (S1.out.blk 0 rfl).lt; have x0 := (S1.out.blk 0 rfl).cell 0; have x1 := (S1.out.blk 0 rfl).cell 1; have x2 := (S1.out.blk 0 rfl).cell 2; have x3 := (S1.out.blk 0 rfl).cell 3; clear hb)))
        have f1 : (queryN A B f t == queryN A B f t) = true := by simp
        have f2 : (queryO A B f t == queryO A B f t) = true := by simp
        have f3 : (queryC A B f t == queryC A B f t) = true := by simp
        have f4 : (((lsize A B : Nat) : Int) == ((lsize A B : Nat) : Int)) = true := by simp
        have H1 := Lib.hid (fun x : ExtOf w5 => Labels12 x.val)
        have H2 := Lib.hid (fun x : ExtOf w5 => LSizeG qO n cO HO A qI n cI HI B x.val (RA.out.ext (Ext.trans EX.out (Ext.trans Z5.out x.ext))) (RB.out.ext (Ext.trans EX.out (Ext.trans Z5.out x.ext))) (by have := HSZ.out; omega) (by omega) (by omega))
        have H3' := fun x : ExtOf w5 => LSizeG uO n dO KO B uI n dI KI A x.val (RC.out.ext (Ext.trans Z5.out x.ext)) (RD.out.ext (Ext.trans Z5.out x.ext)) (by have := HSZ.out; have := HLT.out; omega) (by omega) (by omega)
        rw [HLT.out] at H3'
        have H3 := Lib.hid H3'
        clear H3' HSZ HLT HQT
        generalize queryN A B f t = QN at *
        generalize queryO A B f t = QO at *
        generalize queryC A B f t = QC at *
        generalize lsize A B = QS at *
        have i0 : w5.cell? ⟨w2.heap.size, 0, none⟩ = some (.slice qO n cO) := (S5.out.blk 1 rfl).cell 0
        have i1 : w5.cell? ⟨w2.heap.size, 1, none⟩ = some (.slice qI n cI) := (S5.out.blk 1 rfl).cell 1
        have j0 : w5.cell? ⟨w3.heap.size, 0, none⟩ = some (.slice uO n dO) := (S5.out.blk 0 rfl).cell 0
        have j1 : w5.cell? ⟨w3.heap.size, 1, none⟩ = some (.slice uI n dI) := (S5.out.blk 0 rfl).cell 1
        have o0 := fun x : ExtOf w5 => x.ext.cell i0
        have o1 := fun x : ExtOf w5 => x.ext.cell i1
        have o2 := fun x : ExtOf w5 => x.ext.cell j0
        have o3 := fun x : ExtOf w5 => x.ext.cell j1
        refine wp_region_ext (by kernel_rfl) (by kernel_rfl) ?_
        repeat (go_big_quiet_step (((first | (go_at_call 28; exact Calls.ext_of (H1.out _)) | (go_at_call 36; with_reducible exact Calls.ext_of (H2.out _)) | (go_at_call 36; exact Calls.ext_of (H3.out _))))))
        refine wpQuiet_nil ?_
        rintro w9 ⟨⟨_, hb9⟩, rfl⟩
        go_wp2
        go_ret
        exact ⟨rfl, Ext.trans S5.out.ext hb9⟩
end Go.Proofs.YthlmcfbadhidbaaGreat
