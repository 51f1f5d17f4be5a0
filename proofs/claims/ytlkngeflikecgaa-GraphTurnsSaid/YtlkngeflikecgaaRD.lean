/- The reference's Degrees. -/
import Derived.Test.YtlkngeflikecgaaRT
import Derived.Test.YtlkngeflikecgaaG11
namespace Go.Proofs.Ytlkngeflikecgaa
open Go Go.RowKit
set_option maxRecDepth 100000 in
set_option maxHeartbeats 4000000 in
theorem Degrees02 (N : Int) (pe : Option Addr) (ne ce : Nat) (pw : Option Addr) (nw cw : Nat) (E : List (Int × Int)) (hs : List Hd) (W : List (List ByteArray)) (w : World) (v : Int) (hE : Rd w 2 pe ne (encE E)) (hW : RdW w pw nw hs W) (hz : SzW W) :
    Calls Try.prog 23 #[.agg #[.int .i64 N, .slice pe ne ce, .slice pw nw cw], .int .i64 v] w fun e w' => e = .returned (.tuple #[.int .i64 (degO N E W v), .int .i64 (degI N E W v), .bool (placeB N E W v)]) ∧ Ext w w' := by
  unfold degO degI
  have S0 := Lib.hid ((Sep.start w).al #[.int .i64 N, .slice pe ne ce, .slice pw nw cw] 25 w.heap.size rfl)
  have HN := Lib.hid (fun W1 (h : Ext w W1) => Normal02N N pe ne ce pw nw cw E hs W W1 (hE.ext h) (hW.ext h) hz)
  clear hE hW hz
  by_cases hc : checkB N E W = true
  · have hcc : normC N E W = 0 := by unfold normC; rw [hc]; rfl
    have hnE : normE N E W = putAll lessE E := by unfold normE; rw [hc]; rfl
    have hnN : normN N E W = N := by unfold normN; rw [hc]; rfl
    have hp : placeB N E W v = decide (0 ≤ v ∧ v < N) := by unfold placeB; rw [hc]; rfl
    have hl8 : (putAll lessE E).length ≤ 2000 := Nat.le_trans (putAll_len lessE E) (checkB_parts hc).2.2.1
    rw [hcc, hnE, hnN] at HN
    rw [hp]
    clear hcc hnE hnN hp hc
    generalize normW N E W = W2 at HN
    generalize putAll lessE E = D at *
    by_cases h0 : v < 0
    · have hv : decide (0 ≤ v ∧ v < N) = false := by simp; omega
      rw [hv]; simp only [Bool.false_eq_true, if_false]; clear hv
      go_enter Try.func23, Try.ntmps23
      go_wp2_with (go_at_call 11; go_must (refine (HN.out _ S0.out.ext).mono ?_; rintro e w1 ⟨v', rfl, hG, hb1⟩; obtain ⟨pe', ne', ce', pw', nw', cw', hs', rfl, RE, hne, _⟩ := hG; have R1 := Lib.hid RE; have S1 := Lib.hid ((S0.out.call hb1).al #[.int .i64 N, .slice pe' ne' ce', .slice pw' nw' cw'] 25 w1.heap.size rfl); clear RE hb1))
      exact bodyPost_ret (v := .tuple #[.int .i64 0, .int .i64 0, .bool false]) (by simp [results, Try.results23, go_sem]) rfl ⟨rfl, S1.out.ext⟩
    · by_cases h1 : N ≤ v
      · have hv : decide (0 ≤ v ∧ v < N) = false := by simp; omega
        rw [hv]; simp only [Bool.false_eq_true, if_false]; clear hv
        go_enter Try.func23, Try.ntmps23
        go_wp2_with (go_at_call 11; go_must (refine (HN.out _ S0.out.ext).mono ?_; rintro e w1 ⟨v', rfl, hG, hb1⟩; obtain ⟨pe', ne', ce', pw', nw', cw', hs', rfl, RE, hne, _⟩ := hG; have R1 := Lib.hid RE; have S1 := Lib.hid ((S0.out.call hb1).al #[.int .i64 N, .slice pe' ne' ce', .slice pw' nw' cw'] 25 w1.heap.size rfl); clear RE hb1))
        exact bodyPost_ret (v := .tuple #[.int .i64 0, .int .i64 0, .bool false]) (by simp [results, Try.results23, go_sem]) rfl ⟨rfl, S1.out.ext⟩
      · have hv : decide (0 ≤ v ∧ v < N) = true := by simp; omega
        rw [hv]; simp only [if_true]; clear hv
        go_enter Try.func23, Try.ntmps23
        go_wp2_with (go_at_call 11; go_must (refine (HN.out _ S0.out.ext).mono ?_; rintro e w1 ⟨v', rfl, hG, hb1⟩; obtain ⟨pe', ne', ce', pw', nw', cw', hs', rfl, RE, hne, _⟩ := hG; have R1 := Lib.hid RE; have S1 := Lib.hid ((S0.out.call hb1).al #[.int .i64 N, .slice pe' ne' ce', .slice pw' nw' cw'] 25 w1.heap.size rfl); clear RE hb1))
        have l1 := Lib.hid R1.out.nE
        have p1 := R1.out.ptr
        have l2 : ne' ≤ 2000 := by rw [l1.out]; exact hl8
        go_loopw [9, 10, 11] (fun a b i wr => ∃ k : Nat, k ≤ ne' ∧ i = .int .i64 k ∧ a = .int .i64 (outN (D.take k) v) ∧ b = .int .i64 (inN (D.take k) v) ∧ Ext w1 wr ∧ Sep w wr [.blk w1.heap.size 25 #[.int .i64 N, .slice pe' ne' ce', .slice pw' nw' cw']]) (fun _ _ i _ => ne' - (intOf i).toNat)
        case atStart => exact ⟨0, Nat.zero_le _, rfl, rfl, rfl, Ext.alloc (Below.refl _ _) _, S1.out.pick [0] (by decide) rfl⟩
        case round =>
          clear S1
          obtain ⟨k, hk, rfl, rfl, rfl, hb, S⟩ := hrel
          have c1 := (S.blk 0 rfl).cell 1
          have SH := Lib.hid S; clear S
          by_cases hlt : k < ne'
          · have g1 := (R1.out.ext hb).cE hlt
            have g2 := (R1.out.ext hb).cE2 hlt
            have HB := Lib.hid hb; clear hb
            have hlt' : k < D.length := by rw [← l1.out]; exact hlt
            have ho := Lib.hid (outN_step (v := v) hlt')
            have hi := Lib.hid (inN_step (v := v) hlt')
            have l3 := outN_le (D.take k) v
            have l4 := inN_le (D.take k) v
            have l5 : (D.take k).length ≤ k := List.length_take_le _ _
            have d1 : (0:Int) ≤ k := by omega
            have d2 : (k:Int) < ne' := by omega
            cases h1 : ((nth D k).1 == v) <;> cases h2 : ((nth D k).2 == v) <;>
            (go_wp2
             go_roundw
             case rel => exact ⟨k + 1, by omega, by go_num, by rw [ho.out, h1]; first | rfl | go_num, by rw [hi.out, h2]; first | rfl | go_num, HB.out, SH.out⟩
             case measure => simp [intOf]; omega)
          · have HT : Hid (D.take k = D) := by unfold Hid; rw [List.take_of_length_le (by rw [← l1.out]; omega)]
            go_wp2
            rw [HT.out]
            exact bodyPost_ret (v := .tuple #[.int .i64 (outN D v), .int .i64 (inN D v), .bool true]) (by simp [results, Try.results23, go_sem]) rfl ⟨rfl, SH.out.ext⟩
  · have hc' : checkB N E W = false := by simpa using hc
    have hcc : normC N E W = 20 := by unfold normC; rw [hc']; rfl
    have hnN : normN N E W = 0 := by unfold normN; rw [hc']; rfl
    have hp : placeB N E W v = false := by unfold placeB; rw [hc']; rfl
    rw [hcc, hnN] at HN
    rw [hp]
    simp only [Bool.false_eq_true, if_false]
    clear hcc hnN hp hc hc'
    go_enter Try.func23, Try.ntmps23
    go_wp2_with (go_at_call 11; go_must (refine (HN.out _ S0.out.ext).mono ?_; rintro e w1 ⟨v', rfl, hG, hb1⟩; obtain ⟨pe', ne', ce', pw', nw', cw', hs', rfl, RE, hne, _⟩ := hG; have R1 := Lib.hid RE; have S1 := Lib.hid ((S0.out.call hb1).al #[.int .i64 0, .slice pe' ne' ce', .slice pw' nw' cw'] 25 w1.heap.size rfl); clear RE hb1))
    exact bodyPost_ret (v := .tuple #[.int .i64 0, .int .i64 0, .bool false]) (by simp [results, Try.results23, go_sem]) rfl ⟨rfl, S1.out.ext⟩
end Go.Proofs.Ytlkngeflikecgaa
