/- The reference's Turned and Degrees. -/
import Derived.Test.YtlkngeflikecgaaR9
import Derived.Test.YtlkngeflikecgaaSep
import Derived.Test.YtlkngeflikecgaaMix
namespace Go.Proofs.Ytlkngeflikecgaa
open Go Go.RowKit
def swapE (x : Int × Int) : Int × Int := (x.2, x.1)
theorem encE_snoc (l : List (Int × Int)) (x : Int × Int) : encE (l ++ [x]) = encE l ++ encE [x] := by simp [encE]
set_option maxRecDepth 100000 in
set_option maxHeartbeats 1000000 in
theorem Turned02 (N : Int) (pe : Option Addr) (ne ce : Nat) (pw : Option Addr) (nw cw : Nat) (E : List (Int × Int)) (hs : List Hd) (W : List (List ByteArray)) (w : World) (hE : Rd w 2 pe ne (encE E)) (hW : RdW w pw nw hs W) (hz : SzW W) (hn : ne ≤ 1000000) :
    Calls Try.prog 22 #[.agg #[.int .i64 N, .slice pe ne ce, .slice pw nw cw]] w fun e w' => ∃ v, e = .returned (.tuple #[v, .int .i64 (normC N (E.map swapE) W)]) ∧ GraphN w' w.heap.size v (normN N (E.map swapE) W) (normE N (E.map swapE) W) (normW N (E.map swapE) W) ∧ Ext w w' := by
  obtain ⟨i0, hi0, hz0, hz1, hz2⟩ := info_parts inf34
  have p1 := hE.ptr
  have l1 := hE.nE
  have HE := Lib.hid hE; clear hE
  have HW := Lib.hid hW; clear hW
  have HZ := Lib.hid hz; clear hz
  have L1 := Lib.hid l1; clear l1
  have S0 := Lib.hid ((((Sep.start w).al #[.int .i64 N, .slice pe ne ce, .slice pw nw cw] 25 w.heap.size rfl).al #[.int .i64 0, .slice none 0 0, .slice none 0 0] 25 (w.heap.size + 1) (by simp)).al #[.int .i64 N, .slice none 0 0, .slice pw nw cw] 25 (w.heap.size + 1 + 1) (by simp))
  go_enter Try.func22, Try.ntmps22
  go_wp2
  go_loopw [5] (fun i wr => ∃ (k : Nat) (q : Option Addr) (c : Nat), k ≤ ne ∧ i = .int .i64 k ∧ Sep w wr [.own 34 2 q k c (encE ((E.take k).map swapE)), .blk (w.heap.size + 1 + 1) 25 #[.int .i64 N, .slice q k c, .slice pw nw cw], .blk (w.heap.size + 1) 25 #[.int .i64 0, .slice none 0 0, .slice none 0 0], .blk w.heap.size 25 #[.int .i64 N, .slice pe ne ce, .slice pw nw cw]]) (fun i _ => ne - (intOf i).toNat)
  case atStart => exact ⟨0, none, 0, Nat.zero_le _, rfl, S0.out.nilrow _ _⟩
  case round =>
    clear S0
    obtain ⟨k, q, c, hk, rfl, S⟩ := hrel
    have o0 := (S.blk 1 rfl).cell 0
    have o1 := (S.blk 1 rfl).cell 1
    have o2 := (S.blk 1 rfl).cell 2
    have g1 := (S.blk 3 rfl).cell 1
    have SH := Lib.hid S; clear S
    by_cases hlt : k < ne
    · have e1 := SH.out.ext.cell (HE.out.cE hlt)
      have e2 := SH.out.ext.cell (HE.out.cE2 hlt)
      have d1 : (0:Int) ≤ k := by omega
      have d2 : (k:Int) < ne := by omega
      have HT : Hid (encE ((E.take (k + 1)).map swapE) = encE ((E.take k).map swapE) ++ encE [swapE (nth E k)]) := by
        unfold Hid; rw [map_take_succ swapE E k (by rw [← L1.out]; exact hlt), encE_append]
      go_wp2
      have xo1 := fun x : ExtOf wr => x.ext.cell o1
      have xg1 := fun x : ExtOf wr => x.ext.cell g1
      have xe1 := fun x : ExtOf wr => x.ext.cell e1
      have xe2 := fun x : ExtOf wr => x.ext.cell e2
      refine wp_region_mix [true, true, true, true, true, true, true, true, true, true, true, true, true, true, true, false] (fun _ v W => ∃ p, v = .slice p 1 1 ∧ Rd W 2 p 1 (encE [swapE (nth E k)])) (by kernel_rfl) (by kernel_rfl) (by kernel_rfl) (fun _ _ _ _ hE ⟨p, h1, h2⟩ => ⟨p, h1, h2.ext hE⟩) ?_
      simp only [nfM]
      repeat (go_big_quiet_step ((fail)))
      refine wpQuiet_nil ⟨⟨fun vs W1 hE hd => ?_, trivial⟩, fun vs W1 hE hkn => ?_⟩
      · simp [putM, execOp, go_sem]
        exact ⟨Rd.one2 _ _ _ _, Ext.alloc (Below.refl _ _) _⟩
      · obtain ⟨⟨p', hv, RA⟩, _⟩ := hkn
        have HRA := Lib.hid RA; clear RA
        have S1 := Lib.hid (SH.out.call hE)
        simp only [putM, hv, List.length_cons, List.length_nil, Nat.zero_add, Nat.reduceAdd, List.drop_succ_cons, List.drop_zero]
        clear xo1 xg1 xe1 xe2 hv
        go_wp2_with (at_builtin; go_must (refine wpList_append_sep rfl _ _ _ rfl 34 i0 _ 2 16 Try.underlying22 hi0 hz0 hz1 hz2 rfl (by omega) S1.out 0 q k c _ rfl rfl p' 1 1 _ rfl HRA.out (one_encE _) (by omega) (by omega) ?_; intro q' c' w' S' hsz; have x1 := (S'.blk 1 rfl).cell 1; have xf := (S'.blk 1 rfl).frozen 1; have S2 := Lib.hid S'; clear S'))
        go_roundw
        case rel => exact ⟨k + 1, q', c', by omega, by go_num, by rw [HT.out]; exact S2.out.set 1 rfl 1 _⟩
        case measure => simp [intOf]; omega
    · obtain rfl : k = ne := by omega
      have HT : Hid ((E.take k).map swapE = E.map swapE) := by unfold Hid; rw [List.take_of_length_le (by rw [← L1.out]; omega)]
      have RQ := Lib.hid (SH.out.rd 0 rfl (by omega))
      rw [HT.out] at RQ
      go_wp2_with (go_at_call 11; go_must (refine (Normal02N N q k c pw nw cw (E.map swapE) hs W _ RQ.out (HW.out.ext SH.out.ext) HZ.out).mono ?_; rintro e w2 ⟨v, rfl, hG, hb2⟩; have S2 := SH.out.call hb2; have z2 : w.heap.size + 1 < wr.heap.size := (SH.out.blk 2 rfl).lt; have HG := Lib.hid hG; obtain ⟨pe', ne', ce', pw', nw', cw', hs', rfl, _⟩ := hG; have x0 := (S2.blk 2 rfl).cell 0; have x1 := (S2.blk 2 rfl).cell 1; have x2 := (S2.blk 2 rfl).cell 2; have f0 := (S2.blk 2 rfl).frozen 0; have f1 := (S2.blk 2 rfl).frozen 1; have f2 := (S2.blk 2 rfl).frozen 2; have S3 := Lib.hid S2; clear S2))
      have S4 := ((S3.out.set 2 rfl 0 (.int .i64 (normN N (E.map swapE) W))).set 2 rfl 1 (.slice pe' ne' ce')).set 2 rfl 2 (.slice pw' nw' cw')
      have c0 := (S4.blk 2 rfl).cell 0
      have c1 := (S4.blk 2 rfl).cell 1
      have c2 := (S4.blk 2 rfl).cell 2
      refine bodyPost_ret (v := .tuple #[.agg #[.int .i64 (normN N (E.map swapE) W), .slice pe' ne' ce', .slice pw' nw' cw'], .int .i64 (normC N (E.map swapE) W)]) (by simp [results, Try.results22, go_sem, c0, c1, c2, Try.sizeOf25, Try.isAgg25]) rfl ⟨_, rfl, ?_, S4.ext⟩
      exact (((HG.out.set z2 _ _).set z2 _ _).set z2 _ _).mono (by omega)
end Go.Proofs.Ytlkngeflikecgaa
