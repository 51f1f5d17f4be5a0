/- Postings: the same; too many; few words. -/
import Derived.Test.YtcjkechemjdboaaOwn5
import Derived.Test.YtcjkechemjdboaaChk5
namespace Go.Proofs.Ytcjkechemjdboaa
open Go Go.RowKit Go.Maps
set_option maxRecDepth 100000 in
set_option maxHeartbeats 1000000 in
theorem Same05 (p q : Option Addr) (n m c d : Nat) (hs ht : List Hd) (L M : List Po) (w : World) (hL : RdP w p n hs L) (hM : RdP w q m ht M) :
    Calls Try.prog 18 #[.slice p n c, .slice q m d] w fun e w' => e = .returned (.bool (decide (L = M))) ∧ Ext w w' := by
  have p1 := hL.ptr
  have p2 := hM.ptr
  have n1 := hL.small
  have n2 := hM.small
  have L1 := Lib.hid hL.hn
  have L2 := Lib.hid hM.hn
  have HL := Lib.hid hL; clear hL
  have HM := Lib.hid hM; clear hM
  by_cases hnm : n = m
  · subst hnm
    have hl := Lib.hid (L1.out.symm.trans L2.out)
    go_enter Try.func18, Try.ntmps18
    go_wp2
    go_loopw [5] (fun i wr => ∃ k : Nat, k ≤ n ∧ i = .int .i64 k ∧ L.take k = M.take k ∧ Ext w wr) (fun i _ => n - (intOf i).toNat)
    case atStart => exact ⟨0, Nat.zero_le _, rfl, rfl, Below.refl _ _⟩
    case round =>
      obtain ⟨k, hk, rfl, he, hb⟩ := hrel
      have HE := Lib.hid he; clear he
      have HB := Lib.hid hb; clear hb
      by_cases hlt : k < n
      · have g1 := HB.out.cell (HL.out.c1 k hlt)
        have g2 := HB.out.cell (HL.out.c2 k hlt)
        have g3 := HB.out.cell (HM.out.c1 k hlt)
        have g4 := HB.out.cell (HM.out.c2 k hlt)
        have x1 := fun x : ExtOf wr => x.ext.cell g1
        have x2 := fun x : ExtOf wr => x.ext.cell g2
        have x3 := fun x : ExtOf wr => x.ext.cell g3
        have x4 := fun x : ExtOf wr => x.ext.cell g4
        have d1 : (0:Int) ≤ k := by omega
        have d2 : (k:Int) < n := by omega
        have HI := Lib.hid (fun x : ExtOf wr => Ints01 (nth hs k).p (nth ht k).p (nth hs k).n (nth ht k).n (nth hs k).c (nth ht k).c (nth L k).2 (nth M k).2 x.val (((HL.out.each k hlt).ext HB.out).ext x.ext) (((HM.out.each k hlt).ext HB.out).ext x.ext))
        have hb0 := Lib.hid (str_beq (nth L k).1 (nth M k).1)
        by_cases hw : (nth L k).1 = (nth M k).1
        · have hb1 : ((nth L k).1.toList == (nth M k).1.toList) = true := by rw [hb0.out]; simp [hw]
          by_cases hp : (nth L k).2 = (nth M k).2
          · rw [decide_eq_true hp] at HI
            have HN : Hid (nth L k = nth M k) := Prod.ext hw hp
            clear hw hp
            go_wp2
            refine wp_region_ext (by kernel_rfl) (by kernel_rfl) ?_
            repeat (go_big_quiet_step (((go_at_call 24; exact Calls.ext_of (HI.out _)))))
            refine wpQuiet_nil ?_
            rintro w1 ⟨⟨_, hb1⟩, rfl⟩
            go_wp2
            go_roundw
            case rel => exact ⟨k + 1, by omega, by go_num, eq_step hl.out (by rw [← L1.out]; exact hlt) HE.out HN.out, Ext.trans HB.out hb1⟩
            case measure => simp [intOf]; omega
          · rw [decide_eq_false hp] at HI
            have HN : Hid (nth L k ≠ nth M k) := fun h => hp (by rw [h])
            clear hw hp
            go_wp2
            refine wp_region_ext (by kernel_rfl) (by kernel_rfl) ?_
            repeat (go_big_quiet_step (((go_at_call 24; exact Calls.ext_of (HI.out _)))))
            refine wpQuiet_nil ?_
            rintro w1 ⟨⟨_, hb1⟩, rfl⟩
            go_wp2
            go_ret
            exact ⟨ret_bool (by rw [decide_eq_false (eq_no hl.out (by rw [← L1.out]; exact hlt) HN.out)]), Ext.trans HB.out hb1⟩
        · have hb1 : ((nth L k).1.toList == (nth M k).1.toList) = false := by rw [hb0.out]; simp [hw]
          have HN : Hid (nth L k ≠ nth M k) := fun h => hw (by rw [h])
          clear hw
          go_wp2
          refine wp_region_ext (by kernel_rfl) (by kernel_rfl) ?_
          repeat (go_big_quiet_step (((go_at_call 24; exact Calls.ext_of (HI.out _)))))
          refine wpQuiet_nil ?_
          rintro w1 ⟨⟨_, hb1⟩, rfl⟩
          go_wp2
          go_ret
          exact ⟨ret_bool (by rw [decide_eq_false (eq_no hl.out (by rw [← L1.out]; exact hlt) HN.out)]), Ext.trans HB.out hb1⟩
      · go_wp2
        go_ret
        exact ⟨ret_bool (by rw [decide_eq_true (eq_end hl.out (by rw [← L1.out]; exact hlt) HE.out)]), HB.out⟩
  · have h1 : ((n : Int) != (m : Int)) = true := by rw [bne_iff_ne]; omega
    have hne : L ≠ M := by rintro rfl; exact hnm (L1.out.trans L2.out.symm)
    have HN := Lib.hid hne; clear hne hnm
    go_enter Try.func18, Try.ntmps18
    go_wp2
    go_ret
    exact ⟨ret_bool (by rw [decide_eq_false HN.out]), Below.refl _ _⟩
def fewB (ws : List ByteArray) : Bool := ws.all (fun s => decide (s.size ≤ 60)) && decide (ws.length ≤ 12)
theorem fewG (p : Option Addr) (n c : Nat) (ws : List ByteArray) (w : World) (hl : Rd w 1 p n (encS ws)) :
    Calls Try.prog 21 #[.slice p n c] w fun e w' => e = .returned (.bool (fewB ws)) ∧ Ext w w' := by
  have p1 := hl.ptr
  have n1 := hl.small
  have L1 := Lib.hid hl.nS
  have HL := Lib.hid hl; clear hl
  go_enter Try.func21, Try.ntmps21
  go_wp2
  go_loop [3] (fun i => ∃ k : Nat, k ≤ n ∧ i = .int .i64 k ∧ (ws.take k).all (fun s => decide (s.size ≤ 60)) = true) (fun i => n - (intOf i).toNat)
  case atStart => exact ⟨0, Nat.zero_le _, rfl, rfl⟩
  case round =>
    obtain ⟨k, hk, rfl, ha⟩ := hrel
    have HA := Lib.hid ha; clear ha
    by_cases hlt : k < n
    · have g1 := HL.out.cS hlt
      have d1 : (0:Int) ≤ k := by omega
      have d2 : (k:Int) < n := by omega
      have hkL : k < ws.length := by rw [← L1.out]; exact hlt
      by_cases h6 : 60 < (nth ws k).size
      · have HF : Hid (fewB ws = false) := by unfold Hid fewB; rw [all_false_at (fun s : ByteArray => decide (s.size ≤ 60)) ws k hkL (by simp; omega)]; rfl
        go_wp2
        go_ret
        exact ⟨ret_bool HF.out.symm, Below.refl _ _⟩
      · have HF := Lib.hid (all_step (fun s : ByteArray => decide (s.size ≤ 60)) ws k hkL HA.out (by simp; omega))
        go_wp2
        go_round
        case rel => exact ⟨k + 1, by omega, by go_num, HF.out⟩
        case measure => simp [intOf]; omega
    · have HF : Hid (fewB ws = decide (ws.length ≤ 12)) := by unfold Hid fewB; rw [all_end _ ws k (by rw [← L1.out]; exact hlt) HA.out]; rfl
      go_wp2
      go_ret
      exact ⟨ret_bool (by rw [HF.out, ← L1.out]; simp; try omega), Below.refl _ _⟩
def badPo (p : Po) : Bool := decide (60 < p.1.size) || decide (60 < p.2.length)
def bigP (L : List Po) : Bool := (decide (L.length ≤ 40) && L.any badPo) || decide (40 < L.length)
theorem Big05 (p : Option Addr) (n c : Nat) (hs : List Hd) (L : List Po) (w : World) (hL : RdP w p n hs L) :
    Calls Try.prog 20 #[.slice p n c] w fun e w' => e = .returned (.bool (bigP L)) ∧ Ext w w' := by
  have p1 := hL.ptr
  have n1 := hL.small
  have L1 := Lib.hid hL.hn
  have HL := Lib.hid hL; clear hL
  by_cases h40 : n ≤ 40
  · have b0 : decide ((n : Int) ≤ 40) = true := by simp; omega
    have b0n : decide (n ≤ 40) = true := by simp; omega
    go_enter Try.func20, Try.ntmps20
    go_wp2
    go_loop [3] (fun i => ∃ k : Nat, k ≤ n ∧ i = .int .i64 k ∧ (L.take k).any badPo = false) (fun i => n - (intOf i).toNat)
    case atStart => exact ⟨0, Nat.zero_le _, rfl, rfl⟩
    case round =>
      obtain ⟨k, hk, rfl, ha⟩ := hrel
      have HA := Lib.hid ha; clear ha
      by_cases hlt : k < n
      · have g1 := HL.out.c1 k hlt
        have g2 := HL.out.c2 k hlt
        have LE := Lib.hid (HL.out.each k hlt).nI
        have d1 : (0:Int) ≤ k := by omega
        have d2 : (k:Int) < n := by omega
        have hkL : k < L.length := by rw [← L1.out]; exact hlt
        have HT : Hid (badPo (nth L k) = true → bigP L = true) := fun h => by unfold bigP; rw [any_true_at badPo L k hkL h, decide_eq_true (by rw [← L1.out]; exact h40)]; rfl
        by_cases h6 : 60 < (nth L k).1.size
        · have HF : Hid (bigP L = true) := HT.out (by unfold badPo; simp [h6])
          go_wp2
          go_ret
          exact ⟨ret_bool HF.out.symm, Below.refl _ _⟩
        · by_cases h7 : 60 < (nth hs k).n
          · have HF : Hid (bigP L = true) := HT.out (by unfold badPo; rw [← LE.out]; simp [h7])
            go_wp2
            go_ret
            exact ⟨ret_bool HF.out.symm, Below.refl _ _⟩
          · have HF := Lib.hid (any_step badPo L k hkL HA.out (by unfold badPo; rw [← LE.out]; simp; omega))
            go_wp2
            go_round
            case rel => exact ⟨k + 1, by omega, by go_num, HF.out⟩
            case measure => simp [intOf]; omega
      · have HF : Hid (bigP L = false) := by unfold Hid bigP; rw [any_end badPo L k (by rw [← L1.out]; exact hlt) HA.out, ← L1.out]; simp; omega
        go_wp2
        go_ret
        exact ⟨ret_bool (by rw [HF.out]; simp; try omega), Below.refl _ _⟩
  · have b0 : decide ((n : Int) ≤ 40) = false := by simp; omega
    have b0n : decide (n ≤ 40) = false := by simp; omega
    have HF : Hid (bigP L = true) := by unfold Hid bigP; rw [← L1.out]; simp; omega
    go_enter Try.func20, Try.ntmps20
    go_wp2
    refine wp_loop_rounds 1 ?_
    rw [rounds_succ]
    go_wp2
    go_ret
    exact ⟨ret_bool (by rw [HF.out]; simp; try omega), Below.refl _ _⟩
end Go.Proofs.Ytcjkechemjdboaa
