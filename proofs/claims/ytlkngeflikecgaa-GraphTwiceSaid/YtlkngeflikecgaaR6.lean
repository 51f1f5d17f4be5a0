import Derived.Test.YtlkngeflikecgaaR3
import Derived.Test.YtlkngeflikecgaaGr
namespace Go.Proofs.Ytlkngeflikecgaa
open Go Go.RowKit
attribute [local go_sem ↓] eqEdge neqEdge guardEdge
theorem inf34 : (Try.prog.info? 34).map (fun i => (i.zero, i.size, i.bytes)) = some (some (.agg #[.int .i64 0, .int .i64 0]), 2, 16) := by kernel_rfl
set_option maxRecDepth 100000 in
set_option maxHeartbeats 1000000 in
theorem put02 (p : Option Addr) (n c : Nat) (l : List (Int × Int)) (a b : Int) (w : World) (hl : Rd w 2 p n (encE l)) (hc : n ≤ c) (hz : n ≤ 1000000) :
    Calls Try.prog 29 #[.slice p n c, .agg #[.int .i64 a, .int .i64 b]] w fun e w' => ∃ p' n' c', e = .returned (.slice p' n' c') ∧ Rd w' 2 p' n' (encE (putL lessE l (a, b))) ∧ n' ≤ c' ∧ ((p' = p ∧ n' = n) ∨ n' = 0 ∨ w.heap.size ≤ (adr p' 0).block) ∧ n' ≤ n + 1 ∧ Ext w w' := by
  obtain ⟨i0, hi0, hz0, hz1, hz2⟩ := info_parts inf34
  have p1 := hl.ptr
  have n1 := hl.small
  have l1 := hl.nE
  have HL := Lib.hid hl; clear hl
  have L1 := Lib.hid l1; clear l1
  go_enter Try.func29, Try.ntmps29
  go_wp2
  go_loopw [5] (fun i wr => ∃ k : Nat, k ≤ n ∧ i = .int .i64 k ∧ (l.take k).all (fun y => lessE y (a, b)) = true ∧ Ext w wr ∧ wr.cell? ⟨w.heap.size, 0, none⟩ = some (.int .i64 a) ∧ wr.cell? ⟨w.heap.size, 1, none⟩ = some (.int .i64 b)) (fun i _ => n - (intOf i).toNat)
  case atStart => exact ⟨0, Nat.zero_le _, rfl, rfl, (Below.refl _ _).alloc (Nat.le_refl _) _, by simp, by simp⟩
  case round =>
    obtain ⟨k, hk, rfl, ha, hb, b0, b1⟩ := hrel
    have HA := Lib.hid ha; clear ha
    have HB := Lib.hid hb; clear hb
    have e3 : ∀ x : ExtOf wr, x.val.cell? ⟨w.heap.size, 0, none⟩ = _ := fun x => x.ext.cell b0
    have e4 : ∀ x : ExtOf wr, x.val.cell? ⟨w.heap.size, 1, none⟩ = _ := fun x => x.ext.cell b1
    have d1 : (0:Int) ≤ k := by omega
    have HSTOP : Hid (∀ (hs : k < n → lessE (nth l k) (a, b) = false), ahead lessE l (a, b) = k) := fun hs => ahead_of lessE l (a, b) k (by rw [← L1.out]; exact hk) HA.out (fun h => hs (by rw [L1.out]; exact h))
    by_cases hlt : k < n
    · have g1 := HB.out.cell (HL.out.cE hlt)
      have g2 := HB.out.cell (HL.out.cE2 hlt)
      have e1 : ∀ x : ExtOf wr, x.val.cell? (adr p (k * 2)) = _ := fun x => x.ext.cell g1
      have e2 : ∀ x : ExtOf wr, x.val.cell? (adr p (k * 2 + 1)) = _ := fun x => x.ext.cell g2
      have d2 : (k:Int) < n := by omega
      have d3 : decide ((k:Int) < n) = true := by simp; omega
      have d4 : decide (k < n) = true := by simp; omega
      by_cases hless : lessE (nth l k) (a, b) = true
      · go_wp2
        refine wp_region_ext (by kernel_rfl) (by kernel_rfl) ?_
        repeat (go_big_quiet_step ((go_at_call 39; exact Calls.ext_of (Less02 _ _ _ _ _))))
        refine wpQuiet_nil ?_
        rintro w1 ⟨⟨_, hb1⟩, rfl⟩
        go_wp2
        go_roundw
        case rel => exact ⟨k + 1, by omega, by go_num, all_step _ _ _ (by rw [← L1.out]; exact hlt) HA.out hless, Ext.trans HB.out hb1, hb1.cell b0, hb1.cell b1⟩
        case measure => simp [intOf]; omega
      · have hless' : lessE (nth l k) (a, b) = false := by simpa using hless
        clear hless
        have HAT := Lib.hid (HSTOP.out (fun _ => hless'))
        go_wp2
        refine wp_region_ext (by kernel_rfl) (by kernel_rfl) ?_
        repeat (go_big_quiet_step ((go_at_call 39; exact Calls.ext_of (Less02 _ _ _ _ _))))
        refine wpQuiet_nil ?_
        rintro w1 ⟨⟨_, hb1⟩, rfl⟩
        replace g1 := hb1.cell g1
        replace g2 := hb1.cell g2
        replace b0 := hb1.cell b0
        replace b1 := hb1.cell b1
        clear e1 e2 e3 e4
        by_cases heq : nth l k = (a, b)
        · have hq : eqE (nth l k) (a, b) = true := by simp [eqE, heq]
          have HF := Lib.hid (putL_same HAT.out (by rw [← L1.out]; exact hlt) heq)
          clear heq
          go_wp2
          go_quiet (fail)
          go_wp2
          go_ret
          exact ⟨p, n, c, rfl, by rw [HF.out]; exact ((HL.out.ext HB.out).ext hb1).drewN _, hc, .inl ⟨rfl, rfl⟩, Nat.le_succ _, (Ext.trans HB.out hb1).drewN _⟩
        · have hq : eqE (nth l k) (a, b) = false := by simp [eqE, heq]
          have HF := Lib.hid (putL_new HAT.out (fun _ => heq))
          clear heq
          have z1 := World.block_lt_of_cell? w1 _ b0
          have R1 := Lib.hid (HL.out.ext HB.out |>.ext hb1)
          go_wp2
          go_quiet (fail)
          have RA : Hid (∀ W, Ext w W → Rd W 2 p k (encE (l.take k))) := fun W hW => by
            have := (HL.out.ext hW).take hk
            rwa [encE_take] at this
          have RC : Hid (∀ W, Ext w W → Rd W 2 (cutp p c k 2) (n - k) (encE (l.drop k))) := fun W hW => by
            have := (HL.out.ext hW).cut hk (Nat.le_refl n) hc
            rw [encE_drop, List.take_of_length_le (by rw [encE_len, List.length_drop, ← L1.out]; omega)] at this
            exact this
          have BW : Hid (∀ i, Ext w (w1.drewN i)) := fun i => (Ext.trans HB.out hb1).drewN i
          have Z1 := Lib.hid z1
          go_wp2_with (first | (at_builtin; have _t := OW2; go_must ((refine wpList_append_rd rfl _ _ _ rfl (w.heap.size + 1) 34 i0 _ 2 16 Try.underlying22 hi0 hz0 hz1 hz2 rfl (by omega) q2 (k + 1) c2 _ rfl OW2.out (cutp p c k 2) (n - k) (c - k) (encE (l.drop k)) rfl (RC.out _ BW3.out) (one_encE _) (by omega) (by omega) (by exact Nat.le_trans Z1.out (Nat.le_trans BS2.out (Nat.le_trans (Nat.le_succ _) BS3.out))) ?_; intro q3 c3 w4 own3 hg3 hat3 hl3; have BW4 := Lib.hid (Below.trans BW3.out (hl3.mono (Nat.le_succ _))); have OW3 := Lib.hid own3; clear own3 hg3 hat3 hl3))) | (at_builtin; have _t := OW1; go_must ((refine wpList_append_rd rfl _ _ _ rfl (w.heap.size + 1) 34 i0 _ 2 16 Try.underlying22 hi0 hz0 hz1 hz2 rfl (by omega) q1 k c1 _ rfl (World.ownsRow.alloc OW1.out _) _ 1 1 _ rfl (Rd.one2 w2 _ a b) (one_encE _) (by omega) (by omega) (by rw [World.size_alloc]; exact Nat.le_succ_of_le (Nat.le_trans Z1.out BS2.out)) ?_; intro q2 c2 w3 own2 hg2 hat2 hl2; have BW3 := Lib.hid (Below.trans (Ext.alloc BW2.out _) (hl2.mono (Nat.le_succ _))); have BS3 := Lib.hid (by have := hl2.size; rwa [World.size_alloc] at this); have OW2 := Lib.hid own2; clear own2 hg2 hat2 hl2))) | (at_builtin; go_must ((refine wpList_append_rd rfl _ _ _ rfl (w.heap.size + 1) 34 i0 _ 2 16 Try.underlying22 hi0 hz0 hz1 hz2 rfl (by omega) none 0 0 [] rfl (World.ownsRow_nil _ _ _ _) p k c (encE (l.take k)) rfl (RA.out _ (BW.out _)) (one_encE _) (by omega) (by omega) (by exact Z1.out) ?_; intro q1 c1 w2 own1 hg1 hat1 hl1; have b0' := celly hl1 (p := ⟨w.heap.size, 0, none⟩) (a := w1.drewN _) b0 (Nat.lt_succ_self _); have b1' := celly hl1 (p := ⟨w.heap.size, 1, none⟩) (a := w1.drewN _) b1 (Nat.lt_succ_self _); have BW2 := Lib.hid (Below.trans (BW.out _) (hl1.mono (Nat.le_succ _))); have BS2 := Lib.hid hl1.size; simp only [Nat.zero_add, List.nil_append] at own1; have OW1 := Lib.hid own1; clear own1 hg1 hat1 hl1))))
          go_ret
          exact ⟨q3, _, c3, rfl, by rw [HF.out]; have := Rd.of_own OW3.out (by omega); simpa [encE_append, encE] using this, own_cap OW3.out, .inr ((own_fresh OW3.out).imp id (fun h => Nat.le_trans (Nat.le_succ _) h)), by omega, BW4.out⟩
    · have HAT := Lib.hid (HSTOP.out (fun h => absurd h hlt))
      have HF := Lib.hid (putL_new HAT.out (fun h => absurd (by rw [L1.out]; exact h) hlt))
      have d3 : decide ((k:Int) < n) = false := by simp; omega
      have d4 : decide (k < n) = false := by simp; omega
      obtain ⟨w1, rfl⟩ : ∃ w1 : World, w1 = wr := ⟨_, rfl⟩
      have z1 := World.block_lt_of_cell? w1 _ b0
      clear e3 e4
      have RA : Hid (∀ W, Ext w W → Rd W 2 p k (encE (l.take k))) := fun W hW => by
        have := (HL.out.ext hW).take hk
        rwa [encE_take] at this
      have RC : Hid (∀ W, Ext w W → Rd W 2 (cutp p c k 2) (n - k) (encE (l.drop k))) := fun W hW => by
        have := (HL.out.ext hW).cut hk (Nat.le_refl n) hc
        rw [encE_drop, List.take_of_length_le (by rw [encE_len, List.length_drop, ← L1.out]; omega)] at this
        exact this
      have BW : Hid (∀ i, Ext w (w1.drewN i)) := fun i => HB.out.drewN i
      have Z1 := Lib.hid z1
      go_wp2
      go_quiet (fail)
      go_wp2
      go_quiet (fail)
      go_wp2_with (first | (at_builtin; have _t := OW2; go_must ((refine wpList_append_rd rfl _ _ _ rfl (w.heap.size + 1) 34 i0 _ 2 16 Try.underlying22 hi0 hz0 hz1 hz2 rfl (by omega) q2 (k + 1) c2 _ rfl OW2.out (cutp p c k 2) (n - k) (c - k) (encE (l.drop k)) rfl (RC.out _ BW3.out) (one_encE _) (by omega) (by omega) (by exact Nat.le_trans Z1.out (Nat.le_trans BS2.out (Nat.le_trans (Nat.le_succ _) BS3.out))) ?_; intro q3 c3 w4 own3 hg3 hat3 hl3; have BW4 := Lib.hid (Below.trans BW3.out (hl3.mono (Nat.le_succ _))); have OW3 := Lib.hid own3; clear own3 hg3 hat3 hl3))) | (at_builtin; have _t := OW1; go_must ((refine wpList_append_rd rfl _ _ _ rfl (w.heap.size + 1) 34 i0 _ 2 16 Try.underlying22 hi0 hz0 hz1 hz2 rfl (by omega) q1 k c1 _ rfl (World.ownsRow.alloc OW1.out _) _ 1 1 _ rfl (Rd.one2 w2 _ a b) (one_encE _) (by omega) (by omega) (by rw [World.size_alloc]; exact Nat.le_succ_of_le (Nat.le_trans Z1.out BS2.out)) ?_; intro q2 c2 w3 own2 hg2 hat2 hl2; have BW3 := Lib.hid (Below.trans (Ext.alloc BW2.out _) (hl2.mono (Nat.le_succ _))); have BS3 := Lib.hid (by have := hl2.size; rwa [World.size_alloc] at this); have OW2 := Lib.hid own2; clear own2 hg2 hat2 hl2))) | (at_builtin; go_must ((refine wpList_append_rd rfl _ _ _ rfl (w.heap.size + 1) 34 i0 _ 2 16 Try.underlying22 hi0 hz0 hz1 hz2 rfl (by omega) none 0 0 [] rfl (World.ownsRow_nil _ _ _ _) p k c (encE (l.take k)) rfl (RA.out _ (BW.out _)) (one_encE _) (by omega) (by omega) (by exact Z1.out) ?_; intro q1 c1 w2 own1 hg1 hat1 hl1; have b0' := celly hl1 (p := ⟨w.heap.size, 0, none⟩) (a := w1.drewN _) b0 (Nat.lt_succ_self _); have b1' := celly hl1 (p := ⟨w.heap.size, 1, none⟩) (a := w1.drewN _) b1 (Nat.lt_succ_self _); have BW2 := Lib.hid (Below.trans (BW.out _) (hl1.mono (Nat.le_succ _))); have BS2 := Lib.hid hl1.size; simp only [Nat.zero_add, List.nil_append] at own1; have OW1 := Lib.hid own1; clear own1 hg1 hat1 hl1))))
      go_ret
      exact ⟨q3, _, c3, rfl, by rw [HF.out]; have := Rd.of_own OW3.out (by omega); simpa [encE_append, encE] using this, own_cap OW3.out, .inr ((own_fresh OW3.out).imp id (fun h => Nat.le_trans (Nat.le_succ _) h)), by omega, BW4.out⟩
end Go.Proofs.Ytlkngeflikecgaa
