import Derived.Test.YtcjkechemjdboaaR1
namespace Go.Proofs.Ytcjkechemjdboaa
open Go Go.RowKit
set_option maxHeartbeats 400000 in
theorem Texts01 (p q : Option Addr) (n m c d : Nat) (ss ts : List ByteArray) (w : World) (hs : Rd w 1 p n (encS ss)) (ht : Rd w 1 q m (encS ts)) :
    Calls Try.prog 60 #[.slice p n c, .slice q m d] w fun e w' => e = .returned (.bool (decide (ss = ts))) ∧ Ext w w' := by
  have hp := hs.ptr
  have hq := ht.ptr
  have hn := hs.small
  have hm := ht.small
  have HS := Lib.hid hs; clear hs
  have HT := Lib.hid ht; clear ht
  have L1 := Lib.hid HS.out.nS
  have L2 := Lib.hid HT.out.nS
  by_cases hnm : n = m
  · subst hnm
    have hl := Lib.hid (L1.out.symm.trans L2.out)
    go_enter Try.func60, Try.ntmps60
    go_wp2
    go_loopw [5] (fun i wr => ∃ k : Nat, k ≤ n ∧ i = .int .i64 k ∧ ss.take k = ts.take k ∧ Ext w wr) (fun i _ => n - (intOf i).toNat)
    case atStart => exact ⟨0, Nat.zero_le _, rfl, rfl, Below.refl _ _⟩
    case round =>
      obtain ⟨k, hk, rfl, he, hb⟩ := hrel
      have HE := Lib.hid he; clear he
      have HB := Lib.hid hb; clear hb
      by_cases hlt : k < n
      · have g3 := HB.out.cell (HS.out.cS hlt)
        have g4 := HB.out.cell (HT.out.cS hlt)
        have d1 : (0:Int) ≤ k := by omega
        have d2 : (k:Int) < n := by omega
        have hb0 := Lib.hid (str_beq (nth ss k) (nth ts k))
        by_cases hne : nth ss k = nth ts k
        · have hb1 : ((nth ss k).toList == (nth ts k).toList) = true := by rw [hb0.out]; simp [hne]
          have HN := Lib.hid hne; clear hne
          go_wp2
          go_quiet (fail)
          go_wp2
          go_roundw
          case rel => exact ⟨k + 1, by omega, by go_num, eq_step hl.out (by rw [← L1.out]; exact hlt) HE.out HN.out, HB.out.drewN _⟩
          case measure => simp [intOf]; omega
        · have hb1 : ((nth ss k).toList == (nth ts k).toList) = false := by rw [hb0.out]; simp [hne]
          have HN := Lib.hid hne; clear hne
          go_wp2
          go_quiet (fail)
          go_wp2
          go_ret
          exact ⟨ret_bool (by rw [decide_eq_false (eq_no hl.out (by rw [← L1.out]; exact hlt) HN.out)]), HB.out.drewN _⟩
      · go_wp2
        go_ret
        exact ⟨ret_bool (by rw [decide_eq_true (eq_end hl.out (by rw [← L1.out]; exact hlt) HE.out)]), HB.out⟩
  · have h1 : ((n : Int) != (m : Int)) = true := by rw [bne_iff_ne]; omega
    have hne : ss ≠ ts := by rintro rfl; exact hnm (L1.out.trans L2.out.symm)
    have HN := Lib.hid hne; clear hne hnm
    go_enter Try.func60, Try.ntmps60
    go_wp2
    go_ret
    exact ⟨ret_bool (by rw [decide_eq_false HN.out]), Below.refl _ _⟩
theorem inf9 : (Try.prog.info? 9).map (fun i => (i.zero, i.size, i.bytes)) = some (some (.string ByteArray.empty), 1, 16) := by kernel_rfl
set_option maxHeartbeats 400000 in
theorem OwnTexts01 (p : Option Addr) (n c : Nat) (ss : List ByteArray) (w : World) (hs : Rd w 1 p n (encS ss)) (hsz : n ≤ 1000000) :
    Calls Try.prog 25 #[.slice p n c] w fun e w' => ∃ p' c', e = .returned (.slice p' n c') ∧ w'.ownsRow w.heap.size 9 1 (.slice p' n c') n (encS ss) ∧ Ext w w' := by
  obtain ⟨i0, hi0, hz0, hz1, hz2⟩ := info_parts inf9
  have HS := Lib.hid hs; clear hs
  go_enter Try.func25, Try.ntmps25
  go_wp2_with (at_builtin; refine wpList_append_rd rfl _ _ _ rfl w.heap.size 9 i0 _ 1 16 Try.underlying35 hi0 hz0 hz1 hz2 rfl (by omega) none 0 0 [] rfl (World.ownsRow_nil _ _ _ _) p n c (encS ss) rfl HS.out (one_encS ss) (by omega) (by omega) (Nat.le_refl _) ?_; intro q' c' w1 hown hg hat hb)
  go_ret
  simp only [Nat.zero_add, List.nil_append] at hown
  exact ⟨q', c', rfl, hown, hb⟩
end Go.Proofs.Ytcjkechemjdboaa
