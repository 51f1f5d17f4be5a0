/- The program's Turned. -/
import Derived.Test.YtlkngeflikecgaaRT
import Derived.Test.YtlkngeflikecgaaG11
namespace Go.Proofs.Ytlkngeflikecgaa
open Go Go.RowKit Go.Shelf Go.Lib Go.Sort
/-- the first k turned, the others as they were -/
def turnK (E : List (Int × Int)) (k : Nat) : List (Int × Int) := (E.take k).map swapE ++ E.drop k
theorem turnK_len (E : List (Int × Int)) (k : Nat) : (turnK E k).length = E.length := by simp [turnK]; omega
theorem turnK_nth (E : List (Int × Int)) (k : Nat) (h : k < E.length) : nth (turnK E k) k = nth E k := by
  have hl : k < (turnK E k).length := by rw [turnK_len]; exact h
  unfold nth turnK
  rw [List.getD_eq_getElem?_getD, List.getD_eq_getElem?_getD, List.getElem?_append_right (by simp; omega)]
  simp [Nat.min_eq_left (Nat.le_of_lt h)]
theorem turnK_step (E : List (Int × Int)) (k : Nat) (h : k < E.length) : ((encE (turnK E k)).set (k * 2) (.int .i64 (nth E k).2)).set (k * 2 + 1) (.int .i64 (nth E k).1) = encE (turnK E (k + 1)) := by
  have h1 : encE (turnK E k) = encE ((E.take k).map swapE) ++ ([.int .i64 (nth E k).1, .int .i64 (nth E k).2] ++ encE (E.drop (k + 1))) := by
    unfold turnK
    rw [encE_append, drop_nth E k h]
    rfl
  have h2 : encE (turnK E (k + 1)) = encE ((E.take k).map swapE) ++ ([.int .i64 (nth E k).2, .int .i64 (nth E k).1] ++ encE (E.drop (k + 1))) := by
    unfold turnK
    rw [map_take_succ swapE E k h, encE_append, encE_append, List.append_assoc]
    rfl
  have hl : (encE ((E.take k).map swapE)).length = k * 2 := by rw [encE_len, List.length_map, List.length_take]; omega
  rw [h1, h2, List.set_append_right _ _ (by omega), List.set_append_right _ _ (by omega), hl]
  simp [show k * 2 + 1 - k * 2 = 1 from by omega]
set_option maxRecDepth 100000 in
set_option maxHeartbeats 2000000 in
theorem TurnedG (N : Int) (pe : Option Addr) (ne ce : Nat) (pw : Option Addr) (nw cw : Nat) (E : List (Int × Int)) (hs : List Hd) (W : List (List ByteArray)) (w : World) (hE : Rd w 2 pe ne (encE E)) (hW : RdW w pw nw hs W) (hz : SzW W) (hn : ne ≤ 100000) :
    Calls Try.prog 21 #[.agg #[.int .i64 N, .slice pe ne ce, .slice pw nw cw]] w fun e w' => ∃ v, e = .returned (.tuple #[v, .int .i64 (normC N (E.map swapE) W)]) ∧ GraphO w' w.heap.size v (normN N (E.map swapE) W) (normE N (E.map swapE) W) (normW N (E.map swapE) W) ∧ Ext w w' := by
  have l1 := hE.nE
  have HClone := Lib.hid (fun W1 (h : Ext w W1) => CloneE pe ne ce E W1 (hE.ext h) hn)
  have HW := Lib.hid hW; clear hW
  have HZ := Lib.hid hz; clear hz
  have L1 := Lib.hid l1; clear l1
  clear hE
  have S0 := Lib.hid (((Sep.start w).al #[.int .i64 N, .slice pe ne ce, .slice pw nw cw] 25 w.heap.size rfl).al #[.int .i64 0, .slice none 0 0, .slice none 0 0] 25 (w.heap.size + 1) (by simp))
  go_enter Try.func21, Try.ntmps21
  go_wp2_with (go_at_call 40; go_must (refine (HClone.out _ S0.out.ext).mono ?_; rintro e w1 ⟨q, c, rfl, ho, hb⟩; have S1 := S0.out.fresh hb ho (Nat.le_refl _); have c0 := (S1.blk 2 rfl).cell 0; have c1 := (S1.blk 2 rfl).cell 1; have c2 := (S1.blk 2 rfl).cell 2; have f1 := (S1.blk 2 rfl).frozen 1; have S2 := Lib.hid S1; clear S1 ho hb))
  go_loopw [4, 5, 13] (fun _ _ i wr => ∃ k : Nat, k ≤ ne ∧ i = .int .i64 k ∧ Sep w wr [.own 34 2 q ne c (encE (turnK E k)), .blk (w.heap.size + 1) 25 #[.int .i64 0, .slice none 0 0, .slice none 0 0], .blk w.heap.size 25 #[.int .i64 N, .slice q ne c, .slice pw nw cw]]) (fun _ _ i _ => ne - (intOf i).toNat)
  case atStart => exact ⟨0, Nat.zero_le _, rfl, by have := S2.out.set 2 rfl 1 (.slice q ne c); rwa [show turnK E 0 = E from by simp [turnK]]⟩
  case round =>
    clear S2 c0 c1 c2 f1
    obtain ⟨k, hk, rfl, S⟩ := hrel
    have cz := (S.blk 2 rfl).lt; have c0 := (S.blk 2 rfl).cell 0; have c1 := (S.blk 2 rfl).cell 1; have c2 := (S.blk 2 rfl).cell 2
    by_cases hlt : k < ne
    · have p1 := (S.rd 0 rfl (by omega)).ptr
      have e1 := (S.rd 0 rfl (by omega)).cE hlt
      have e2 := (S.rd 0 rfl (by omega)).cE2 hlt
      rw [turnK_nth E k (by rw [← L1.out]; exact hlt)] at e1 e2
      have k1 := own_frozen (S.own 0 rfl) (by omega) (k * 2)
      have k2 := own_frozen (S.own 0 rfl) (by omega) (k * 2 + 1)
      have z1 := (S.blt 0 rfl (by omega)).2
      have z2 : (adr q (k * 2)).block < wr.heap.size := z1
      have k3 : wr.frozen? ⟨(adr q (k * 2)).block, (adr q (k * 2)).off + 1, none⟩ = false := k2
      have e3 : wr.cell? ⟨(adr q (k * 2)).block, (adr q (k * 2)).off + 1, none⟩ = some (.int .i64 (nth E k).2) := e2
      have ya : _ ≠ _ := adr_other q (show (k * 2) ≠ (k * 2) + 1 by omega)
      have yb : _ ≠ _ := adr_other q (show (k * 2) + 1 ≠ (k * 2) by omega)
      have yc : adr q ((k * 2)) ≠ ⟨(adr q ((k * 2))).block, (adr q ((k * 2))).off + 1, none⟩ := ya
      have d1 : (0:Int) ≤ k := by omega
      have d2 : (k:Int) < ne := by omega
      have hst := Lib.hid (turnK_step E k (by rw [← L1.out]; exact hlt))
      have SH := Lib.hid S; clear S
      go_wp2
      go_roundw
      case rel => exact ⟨k + 1, by omega, by go_num, by rw [← hst.out]; exact (SH.out.junk _).setRow2 0 rfl (k * 2) (by omega) _ _⟩
      case measure => simp [intOf]; omega
    · obtain rfl : k = ne := by omega
      have HT : Hid (turnK E k = E.map swapE) := by unfold Hid turnK; rw [List.take_of_length_le (by rw [← L1.out]; omega), List.drop_of_length_le (by rw [← L1.out]; omega), List.append_nil]
      have RQ := Lib.hid (S.rd 0 rfl (by omega))
      rw [HT.out] at RQ
      have SH := Lib.hid S; clear S
      go_wp2_with (go_at_call 10; go_must (refine (NormalG N q k c pw nw cw (E.map swapE) hs W _ RQ.out (HW.out.ext SH.out.ext) HZ.out).mono ?_; rintro e w2 ⟨v, rfl, hG, hb2⟩; have S2 := SH.out.call hb2; have z2 : w.heap.size + 1 < wr.heap.size := (SH.out.blk 1 rfl).lt; have HG := Lib.hid hG; obtain ⟨pe', ce', pw', cw', hs', rfl, _, _⟩ := hG; have x0 := (S2.blk 1 rfl).cell 0; have x1 := (S2.blk 1 rfl).cell 1; have x2 := (S2.blk 1 rfl).cell 2; have f0 := (S2.blk 1 rfl).frozen 0; have f1 := (S2.blk 1 rfl).frozen 1; have f2 := (S2.blk 1 rfl).frozen 2; have S3 := Lib.hid S2; clear S2))
      have S4 := ((S3.out.set 1 rfl 0 (.int .i64 (normN N (E.map swapE) W))).set 1 rfl 1 (.slice pe' (normE N (E.map swapE) W).length ce')).set 1 rfl 2 (.slice pw' (normW N (E.map swapE) W).length cw')
      have b0 := (S4.blk 1 rfl).cell 0
      have b1 := (S4.blk 1 rfl).cell 1
      have b2 := (S4.blk 1 rfl).cell 2
      refine bodyPost_ret (v := .tuple #[.agg #[.int .i64 (normN N (E.map swapE) W), .slice pe' (normE N (E.map swapE) W).length ce', .slice pw' (normW N (E.map swapE) W).length cw'], .int .i64 (normC N (E.map swapE) W)]) (by simp [results, Try.results21, go_sem, b0, b1, b2, Try.sizeOf25, Try.isAgg25]) rfl ⟨_, rfl, ?_, S4.ext⟩
      have hg1 := HG.out.set z2 0 (.int .i64 (normN N (E.map swapE) W))
      exact ((hg1.set z2 1 (.slice pe' (normE N (E.map swapE) W).length ce')).set z2 2 (.slice pw' (normW N (E.map swapE) W).length cw')).mono (by omega)
end Go.Proofs.Ytlkngeflikecgaa
