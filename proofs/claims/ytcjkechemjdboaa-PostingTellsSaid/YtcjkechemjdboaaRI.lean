/- The reference's Rising, in the way of its Texts. -/
import Derived.Test.YtcjkechemjdboaaR2
import Derived.Test.YtcjkechemjdboaaRise5
namespace Go.Proofs.Ytcjkechemjdboaa
open Go Go.RowKit
theorem encI_take (l : List Int) (k : Nat) : (encI l).take (k * 1) = encI (l.take k) := by simp [encI, List.map_take]
theorem encI_drop (l : List Int) (k : Nat) : (encI l).drop (k * 1) = encI (l.drop k) := by simp [encI, List.map_drop]
set_option maxRecDepth 100000 in
set_option maxHeartbeats 1000000 in
theorem Rising05 (p : Option Addr) (n c : Nat) (l : List Int) (w : World) (hl : Rd w 1 p n (encI l)) (hz : n ≤ 1000000) :
    Calls Try.prog 67 #[.slice p n c] w fun e w' => ∃ p' n' c', e = .returned (.slice p' n' c') ∧ n' = (putAll ltI l).length ∧ w'.ownsRow w.heap.size 3 1 (.slice p' n' c') n' (encI (putAll ltI l)) ∧ Ext w w' := by
  obtain ⟨i0, hi0, hz0, hz1, hz2⟩ := info_parts infI
  have p1 := hl.ptr
  have n1 := hl.small
  have l1 := hl.nI
  have HL := Lib.hid hl; clear hl
  have L1 := Lib.hid l1; clear l1
  go_enter Try.func67, Try.ntmps67
  go_wp2
  go_loopw [3, 4, 5, 6] (fun s i _ _ wr => ∃ (k : Nat) (o : List Int) (q : Option Addr) (m cq : Nat), k ≤ n ∧ i = .int .i64 k ∧ s = .slice q m cq ∧ o = (l.take k).foldl (putL ltI) [] ∧ m = ((l.take k).foldl (putL ltI) []).length ∧ wr.ownsRow w.heap.size 3 1 (.slice q m cq) m (encI ((l.take k).foldl (putL ltI) [])) ∧ Ext w wr) (fun _ i _ _ _ => n - (intOf i).toNat)
  case atStart => exact ⟨0, [], none, 0, 0, Nat.zero_le _, rfl, rfl, rfl, rfl, World.ownsRow_nil _ _ _ _, Below.refl _ _⟩
  case round =>
    obtain ⟨k, o, q, m, cq, hk, rfl, rfl, ho, hm, hown, hb⟩ := hrel
    rw [← ho] at hm hown
    have hmk : m ≤ k := by
      rw [hm, ho]; have := foldl_put_len ltI (l.take k) []; rw [List.length_take] at this; simp at this ⊢; omega
    have hmc := own_cap hown
    have hq := Rd.of_own hown (by omega)
    have p2 := hq.ptr
    have HO := Lib.hid ho; clear ho
    have HM := Lib.hid hm; clear hm
    have HB := Lib.hid hb; clear hb
    have HQ := Lib.hid hq; clear hq
    have HOWN := Lib.hid hown; clear hown
    by_cases hlt : k < n
    · have g0 := HB.out.cell (HL.out.cI hlt)
      go_wp2
      obtain ⟨wo, rfl⟩ : ∃ wo : World, wo = wr := ⟨_, rfl⟩
      go_loopw [5] (fun a wx => ∃ j : Nat, j ≤ m ∧ a = .int .i64 j ∧ (o.take j).all (fun y => ltI y (nth l k)) = true ∧ Ext wo wx) (fun a _ => m - (intOf a).toNat)
      case atStart => exact ⟨0, Nat.zero_le _, rfl, rfl, Below.refl _ _⟩
      case round =>
        obtain ⟨j, hj, rfl, ha, hb⟩ := hrel
        have g1 := g0
        replace g0 := hb.cell g0
        have HA := Lib.hid ha; clear ha
        have HX := Lib.hid hb; clear hb
        have d1 : (0:Int) ≤ j := by omega
        have k1 : (0:Int) ≤ k := by omega
        have k2 : (k:Int) < n := by omega
        have HSTOP : Hid (∀ (hs : j < m → ltI (nth o j) (nth l k) = false), ahead ltI o (nth l k) = j) := fun hs => ahead_of ltI o (nth l k) j (by rw [← HM.out]; exact hj) HA.out (fun h => hs (by rw [HM.out]; exact h))
        have RA : Hid (∀ W, Ext wo W → Rd W 1 q j (encI (o.take j))) := fun W hW => by
          have := (HQ.out.ext hW).take hj
          rwa [encI_take] at this
        have RC : Hid (∀ W, Ext wo W → Rd W 1 (cutp q cq j 1) (m - j) (encI (o.drop j))) := fun W hW => by
          have := (HQ.out.ext hW).cut hj (Nat.le_refl m) hmc
          rw [encI_drop, List.take_of_length_le (by rw [encI_len, List.length_drop, ← HM.out]; omega)] at this
          exact this
        have BW : Hid (∀ i, Ext wo (wr.drewN i)) := fun i => HX.out.drewN i
        have Z1 := Lib.hid HX.out.size
        by_cases hjt : j < m
        · have g3 := HX.out.cell (HQ.out.cI hjt)
          have d2 : (j:Int) < m := by omega
          have d3 : decide ((j:Int) < m) = true := by simp; omega
          have d4 : decide (j < m) = true := by simp; omega
          by_cases hless : ltI (nth o j) (nth l k) = true
          · have hless2 : decide (nth o j < nth l k) = true := hless
            go_wp2
            go_quiet (fail)
            go_wp2
            go_roundw
            case rel => exact ⟨j + 1, by omega, by go_num, all_step _ _ _ (by rw [← HM.out]; exact hjt) HA.out hless, HX.out.drewN _⟩
            case measure => simp [intOf]; omega
          · have hless' : ltI (nth o j) (nth l k) = false := by simpa using hless
            clear hless
            have hless2 : decide (nth o j < nth l k) = false := hless'
            have HAT := Lib.hid (HSTOP.out (fun _ => hless'))
            by_cases heq : nth o j = nth l k
            · have hq2 : (nth o j == nth l k) = true := by simp [heq]
              have HF := Lib.hid (putL_same HAT.out (by rw [← HM.out]; exact hjt) heq)
              clear heq
              go_wp2
              go_quiet (fail)
              go_wp2
              go_quiet (fail)
              go_wp2
              go_roundw
              case rel => exact ⟨k + 1, _, q, m, cq, by omega, by go_num, rfl, rfl, by rw [foldl_take_succ _ _ _ _ (by rw [← L1.out]; exact hlt), ← HO.out, HF.out]; exact HM.out, by rw [foldl_take_succ _ _ _ _ (by rw [← L1.out]; exact hlt), ← HO.out, HF.out]; exact (BW.out _).own HOWN.out, Ext.trans HB.out (BW.out _)⟩
              case measure => simp [intOf]; omega
            · have hq2 : (nth o j == nth l k) = false := by simp [heq]
              have HF := Lib.hid (putL_new HAT.out (fun _ => heq))
              clear heq
              go_wp2
              go_quiet (fail)
              go_wp2
              go_quiet (fail)
              go_wp2_with (first | (at_builtin; have _t := OW2; go_must ((refine wpList_append_rd rfl _ _ _ rfl wo.heap.size 3 i0 _ 1 8 Try.underlying38 hi0 hz0 hz1 hz2 rfl (by omega) q2 (j + 1) c2 _ rfl OW2.out (cutp q cq j 1) (m - j) (cq - j) (encI (o.drop j)) rfl (RC.out _ BW3.out) (one_encI _) (by omega) (by omega) (by exact Nat.le_trans Z1.out (Nat.le_trans BS2.out (Nat.le_trans (Nat.le_succ _) BS3.out))) ?_; intro q3 c3 w4 own3 hg3 hat3 hl3; have BW4 := Lib.hid (Below.trans BW3.out hl3); have OW3 := Lib.hid own3; clear own3 hg3 hat3 hl3))) | (at_builtin; have _t := OW1; go_must ((refine wpList_append_rd rfl _ _ _ rfl wo.heap.size 3 i0 _ 1 8 Try.underlying38 hi0 hz0 hz1 hz2 rfl (by omega) q1 j c1 _ rfl (World.ownsRow.alloc OW1.out _) _ 1 1 _ rfl (Rd.oneI w2 _ (nth l k)) (one_encI _) (by omega) (by omega) (by rw [World.size_alloc]; exact Nat.le_succ_of_le (Nat.le_trans Z1.out BS2.out)) ?_; intro q2 c2 w3 own2 hg2 hat2 hl2; have BW3 := Lib.hid (Below.trans (Ext.alloc BW2.out _) hl2); have BS3 := Lib.hid (by have := hl2.size; rwa [World.size_alloc] at this); have OW2 := Lib.hid own2; clear own2 hg2 hat2 hl2))) | (at_builtin; go_must ((refine wpList_append_rd rfl _ _ _ rfl wo.heap.size 3 i0 _ 1 8 Try.underlying38 hi0 hz0 hz1 hz2 rfl (by omega) none 0 0 [] rfl (World.ownsRow_nil _ _ _ _) q j cq (encI (o.take j)) rfl (RA.out _ (BW.out _)) (one_encI _) (by omega) (by omega) (by exact Z1.out) ?_; intro q1 c1 w2 own1 hg1 hat1 hl1; have g1' := Ext.cell (Below.trans (BW.out _) hl1) g1; have BW2 := Lib.hid (Below.trans (BW.out _) hl1); have BS2 := Lib.hid hl1.size; simp only [Nat.zero_add, List.nil_append] at own1; have OW1 := Lib.hid own1; clear own1 hg1 hat1 hl1))))
              go_roundw
              case rel => exact ⟨k + 1, _, q3, _, c3, by omega, by go_num, rfl, rfl, by rw [foldl_take_succ _ _ _ _ (by rw [← L1.out]; exact hlt), ← HO.out, HF.out, List.length_append, List.length_append, List.length_take, List.length_drop]; have hm9 := HM.out; simp only [List.length_cons, List.length_nil]; omega, by rw [foldl_take_succ _ _ _ _ (by rw [← L1.out]; exact hlt), ← HO.out, HF.out]; have := own_base OW3.out (b := w.heap.size) HB.out.size; simpa [encI_append, encI] using this, Ext.trans HB.out BW4.out⟩
              case measure => simp [intOf]; omega
        · have HAT := Lib.hid (HSTOP.out (fun h => absurd h hjt))
          have HF := Lib.hid (putL_new HAT.out (fun h => absurd (by rw [HM.out]; exact h) hjt))
          have d3 : decide ((j:Int) < m) = false := by simp; omega
          have d4 : decide (j < m) = false := by simp; omega
          go_wp2
          go_quiet (fail)
          go_wp2
          go_quiet (fail)
          go_wp2_with (first | (at_builtin; have _t := OW2; go_must ((refine wpList_append_rd rfl _ _ _ rfl wo.heap.size 3 i0 _ 1 8 Try.underlying38 hi0 hz0 hz1 hz2 rfl (by omega) q2 (j + 1) c2 _ rfl OW2.out (cutp q cq j 1) (m - j) (cq - j) (encI (o.drop j)) rfl (RC.out _ BW3.out) (one_encI _) (by omega) (by omega) (by exact Nat.le_trans Z1.out (Nat.le_trans BS2.out (Nat.le_trans (Nat.le_succ _) BS3.out))) ?_; intro q3 c3 w4 own3 hg3 hat3 hl3; have BW4 := Lib.hid (Below.trans BW3.out hl3); have OW3 := Lib.hid own3; clear own3 hg3 hat3 hl3))) | (at_builtin; have _t := OW1; go_must ((refine wpList_append_rd rfl _ _ _ rfl wo.heap.size 3 i0 _ 1 8 Try.underlying38 hi0 hz0 hz1 hz2 rfl (by omega) q1 j c1 _ rfl (World.ownsRow.alloc OW1.out _) _ 1 1 _ rfl (Rd.oneI w2 _ (nth l k)) (one_encI _) (by omega) (by omega) (by rw [World.size_alloc]; exact Nat.le_succ_of_le (Nat.le_trans Z1.out BS2.out)) ?_; intro q2 c2 w3 own2 hg2 hat2 hl2; have BW3 := Lib.hid (Below.trans (Ext.alloc BW2.out _) hl2); have BS3 := Lib.hid (by have := hl2.size; rwa [World.size_alloc] at this); have OW2 := Lib.hid own2; clear own2 hg2 hat2 hl2))) | (at_builtin; go_must ((refine wpList_append_rd rfl _ _ _ rfl wo.heap.size 3 i0 _ 1 8 Try.underlying38 hi0 hz0 hz1 hz2 rfl (by omega) none 0 0 [] rfl (World.ownsRow_nil _ _ _ _) q j cq (encI (o.take j)) rfl (RA.out _ (BW.out _)) (one_encI _) (by omega) (by omega) (by exact Z1.out) ?_; intro q1 c1 w2 own1 hg1 hat1 hl1; have g1' := Ext.cell (Below.trans (BW.out _) hl1) g1; have BW2 := Lib.hid (Below.trans (BW.out _) hl1); have BS2 := Lib.hid hl1.size; simp only [Nat.zero_add, List.nil_append] at own1; have OW1 := Lib.hid own1; clear own1 hg1 hat1 hl1))))
          go_roundw
          case rel => exact ⟨k + 1, _, q3, _, c3, by omega, by go_num, rfl, rfl, by rw [foldl_take_succ _ _ _ _ (by rw [← L1.out]; exact hlt), ← HO.out, HF.out, List.length_append, List.length_append, List.length_take, List.length_drop]; have hm9 := HM.out; simp only [List.length_cons, List.length_nil]; omega, by rw [foldl_take_succ _ _ _ _ (by rw [← L1.out]; exact hlt), ← HO.out, HF.out]; have := own_base OW3.out (b := w.heap.size) HB.out.size; simpa [encI_append, encI] using this, Ext.trans HB.out BW4.out⟩
          case measure => simp [intOf]; omega
    · go_wp2
      go_ret
      have hkn : l.take k = l := List.take_of_length_le (by rw [← L1.out]; omega)
      have := HO.out
      rw [hkn] at this
      exact ⟨q, m, cq, rfl, by unfold putAll; rw [← this]; exact HM.out, by unfold putAll; rw [← this]; exact HOWN.out, HB.out⟩
end Go.Proofs.Ytcjkechemjdboaa
