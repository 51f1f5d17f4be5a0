/- What right postings are: the program's rise and Check, the reference's Check. -/
import Derived.Test.YtcjkechemjdboaaPst5
import Derived.Test.YtcjkechemjdboaaG1
namespace Go.Proofs.Ytcjkechemjdboaa
open Go Go.RowKit Go.Maps
def okAt (n : Int) (l : List Int) (i : Nat) : Bool := decide (0 ≤ nth l i) && decide (nth l i < n) && (decide (i = 0) || decide (nth l (i - 1) < nth l i))
def riseP (n : Int) (l : List Int) : Bool := decide (0 < l.length) && (List.range l.length).all (okAt n l)
def okP (n : Int) (L : List Po) (i : Nat) : Bool := wordB (nth L i).1 && (decide (i = 0) || sLess (nth L (i - 1)).1 (nth L i).1) && riseP n (nth L i).2
def checkP (n : Int) (L : List Po) : Bool := decide (1 ≤ n) && decide (n ≤ 200) && (List.range L.length).all (okP n L)
theorem riseP_no {n : Int} {l : List Int} {k : Nat} (hk : k < l.length) (h : okAt n l k = false) : riseP n l = false := by
  unfold riseP; rw [range_all_no _ _ k hk h]; simp
theorem riseP_end {n : Int} {l : List Int} {k : Nat} (hk : ¬ k < l.length) (h : (List.range k).all (okAt n l) = true) : riseP n l = decide (0 < l.length) := by
  unfold riseP
  have : (List.range l.length).all (okAt n l) = true := by
    rw [List.all_eq_true] at h ⊢
    exact fun i hi => h i (List.mem_range.2 (by have := List.mem_range.1 hi; omega))
  rw [this]; simp
theorem checkP_no {n : Int} {L : List Po} {k : Nat} (hk : k < L.length) (h : okP n L k = false) : checkP n L = false := by
  unfold checkP; rw [range_all_no _ _ k hk h]; simp
theorem checkP_end {n : Int} {L : List Po} {k : Nat} (hk : ¬ k < L.length) (h : (List.range k).all (okP n L) = true) : checkP n L = (decide (1 ≤ n) && decide (n ≤ 200)) := by
  unfold checkP
  have : (List.range L.length).all (okP n L) = true := by
    rw [List.all_eq_true] at h ⊢
    exact fun i hi => h i (List.mem_range.2 (by have := List.mem_range.1 hi; omega))
  rw [this]; simp
set_option maxHeartbeats 1000000 in
theorem riseG (p : Option Addr) (m c : Nat) (l : List Int) (n : Int) (w : World) (hl : Rd w 1 p m (encI l)) :
    Calls Try.prog 70 #[.slice p m c, .int .i64 n] w fun e w' => e = .returned (.bool (riseP n l)) ∧ w = w' := by
  have p1 := hl.ptr
  have n1 := hl.small
  have l1 := hl.nI
  have HL := Lib.hid hl; clear hl
  have L1 := Lib.hid l1; clear l1
  go_enter Try.func70, Try.ntmps70
  go_wp2
  go_loop [5, 6, 9] (fun _ _ i => ∃ k : Nat, k ≤ m ∧ i = .int .i64 k ∧ (List.range k).all (okAt n l) = true) (fun _ _ i => m - (intOf i).toNat)
  case atStart => exact ⟨0, Nat.zero_le _, rfl, rfl⟩
  case round =>
    obtain ⟨k, hk, rfl, ha⟩ := hrel
    have HA := Lib.hid ha; clear ha
    by_cases hlt : k < m
    · have g1 := HL.out.cI hlt
      have d1 : (0:Int) ≤ k := by omega
      have d2 : (k:Int) < m := by omega
      by_cases h1 : nth l k < 0
      · have b1 : decide (nth l k < 0) = true := by simpa using h1
        go_wp2
        go_ret
        exact ⟨ret_bool (riseP_no (by rw [← L1.out]; exact hlt) (by unfold okAt; simp; omega)).symm, rfl⟩
      · have b1 : decide (nth l k < 0) = false := by simpa using h1
        by_cases h2 : n ≤ nth l k
        · have b2 : decide (n ≤ nth l k) = true := by simpa using h2
          go_wp2
          go_ret
          exact ⟨ret_bool (riseP_no (by rw [← L1.out]; exact hlt) (by unfold okAt; simp; omega)).symm, rfl⟩
        · have b2 : decide (n ≤ nth l k) = false := by simpa using h2
          by_cases h0 : k = 0
          · subst h0
            have HO : Hid (okAt n l 0 = true) := by unfold Hid okAt; simp; omega
            go_wp2
            go_round
            case rel => exact ⟨1, by omega, by go_num, range_all_succ _ _ HA.out HO.out⟩
            case measure => simp [intOf]; omega
          · have b3 : decide ((0:Int) < (k:Int)) = true := by simp; omega
            have d4 : (1:Int) ≤ (k:Int) := by omega
            have d5 : (k:Int) - 1 < m := by omega
            have d6 : (0:Int) ≤ (k:Int) - 1 := by omega
            have g2 := HL.out.cI (k := k - 1) (by omega)
            by_cases h3 : nth l k ≤ nth l (k - 1)
            · have b4 : decide (nth l k ≤ nth l (k - 1)) = true := by simpa using h3
              go_wp2
              go_ret
              exact ⟨ret_bool (riseP_no (by rw [← L1.out]; exact hlt) (by unfold okAt; simp; omega)).symm, rfl⟩
            · have b4 : decide (nth l k ≤ nth l (k - 1)) = false := by simpa using h3
              have HO : Hid (okAt n l k = true) := by unfold Hid okAt; simp; omega
              go_wp2
              go_round
              case rel => exact ⟨k + 1, by omega, by go_num, range_all_succ _ _ HA.out HO.out⟩
              case measure => simp [intOf]; omega
    · have HE := Lib.hid (riseP_end (by rw [← L1.out]; exact hlt) HA.out)
      go_wp2
      go_ret
      exact ⟨ret_bool (by rw [HE.out, ← L1.out]), rfl⟩
theorem WordX (s : ByteArray) (w : World) (hs : s.size ≤ 140737488355328) : Calls Try.prog 69 #[.string s] w fun e w' => e = .returned (.bool (wordB s)) ∧ Ext w w' :=
  (WordG s w hs).mono fun _ _ ⟨h, hw⟩ => ⟨h, by subst hw; exact Below.refl _ _⟩
theorem riseX (p : Option Addr) (m c : Nat) (l : List Int) (n : Int) (w : World) (hl : Rd w 1 p m (encI l)) :
    Calls Try.prog 70 #[.slice p m c, .int .i64 n] w fun e w' => e = .returned (.bool (riseP n l)) ∧ Ext w w' :=
  (riseG p m c l n w hl).mono fun _ _ ⟨h, hw⟩ => ⟨h, by subst hw; exact Below.refl _ _⟩
/-- texts that are not too long -/
def PoSz (L : List Po) : Prop := ∀ p ∈ L, p.1.size ≤ 1000000
theorem PoSz.at {L : List Po} (h : PoSz L) {k : Nat} (hk : k < L.length) : (nth L k).1.size ≤ 140737488355328 := by
  have := h (nth L k) (by rw [nth_eq hk]; exact List.getElem_mem _); omega
theorem sLess_eq (a b : ByteArray) : Op.bytesLess a.toList b.toList = sLess a b := rfl
set_option maxRecDepth 100000 in
set_option maxHeartbeats 2000000 in
theorem CheckP (p : Option Addr) (m c : Nat) (hs : List Hd) (L : List Po) (n : Int) (w : World) (hL : RdP w p m hs L) (hz : PoSz L) :
    Calls Try.prog 32 #[.slice p m c, .int .i64 n] w fun e w' => e = .returned (.bool (checkP n L)) ∧ Ext w w' := by
  have p1 := hL.ptr
  have n1 := hL.small
  have l1 := hL.hn
  have HL := Lib.hid hL; clear hL
  have L1 := Lib.hid l1; clear l1
  have HZ := Lib.hid hz; clear hz
  go_enter Try.func32, Try.ntmps32
  go_wp2
  go_loopw [5, 6, 9] (fun _ _ i wr => ∃ k : Nat, k ≤ m ∧ i = .int .i64 k ∧ (List.range k).all (okP n L) = true ∧ Sep w wr []) (fun _ _ i _ => m - (intOf i).toNat)
  case atStart => exact ⟨0, Nat.zero_le _, rfl, rfl, Sep.start w⟩
  case round =>
    obtain ⟨k, hk, rfl, ha, S⟩ := hrel
    have HA := Lib.hid ha; clear ha
    by_cases hlt : k < m
    · have g1 := S.ext.cell (HL.out.c1 k hlt)
      have g2 := S.ext.cell (HL.out.c2 k hlt)
      have RE := Lib.hid ((HL.out.each k hlt).ext S.ext)
      have SH := Lib.hid S; clear S
      have d1 : (0:Int) ≤ k := by omega
      have d2 : (k:Int) < m := by omega
      have hkL : k < L.length := by rw [← L1.out]; exact hlt
      have HW := Lib.hid (fun x : ExtOf (wr.alloc (.cells #[.string (nth L k).1, .slice (nth hs k).p (nth hs k).n (nth hs k).c] 69)) => WordX (nth L k).1 x.val (HZ.out.at hkL))
      have HR := Lib.hid (fun x : ExtOf (wr.alloc (.cells #[.string (nth L k).1, .slice (nth hs k).p (nth hs k).n (nth hs k).c] 69)) => riseX (nth hs k).p (nth hs k).n (nth hs k).c (nth L k).2 n x.val ((RE.out.ext (Ext.alloc (Below.refl _ _) _)).ext x.ext))
      have x1 := fun x : ExtOf (wr.alloc (.cells #[.string (nth L k).1, .slice (nth hs k).p (nth hs k).n (nth hs k).c] 69)) => x.ext.cell ((Blk.new wr 69 #[.string (nth L k).1, .slice (nth hs k).p (nth hs k).n (nth hs k).c]).cell 0)
      have x2 := fun x : ExtOf (wr.alloc (.cells #[.string (nth L k).1, .slice (nth hs k).p (nth hs k).n (nth hs k).c] 69)) => x.ext.cell ((Blk.new wr 69 #[.string (nth L k).1, .slice (nth hs k).p (nth hs k).n (nth hs k).c]).cell 1)
      have ho : okP n L k = (wordB (nth L k).1 && (decide (k = 0) || sLess (nth L (k - 1)).1 (nth L k).1) && riseP n (nth L k).2) := rfl
      cases hwb : wordB (nth L k).1 with
      | false =>
        have HF : Hid (checkP n L = false) := checkP_no hkL (by rw [ho, hwb]; rfl)
        rw [hwb] at HW
        clear ho hwb
        go_wp2
        refine wp_region_ext (by kernel_rfl) (by kernel_rfl) ?_
        repeat (go_big_quiet_step ((first | (go_at_call 69; exact Calls.ext_of (HW.out _)) | (go_at_call 70; exact Calls.ext_of (HR.out _)))))
        refine wpQuiet_nil ?_
        rintro w1 ⟨⟨_, hb1⟩, rfl⟩
        go_wp2
        go_ret
        exact ⟨ret_bool HF.out.symm, Ext.trans SH.out.ext (Ext.trans (Ext.alloc (Below.refl _ _) _) hb1)⟩
      | true =>
        rw [hwb] at HW
        by_cases h0 : k = 0
        · subst h0
          cases hrb : riseP n (nth L 0).2 with
          | false =>
            have HF : Hid (checkP n L = false) := checkP_no hkL (by rw [ho, hwb, hrb]; rfl)
            rw [hrb] at HR
            clear ho hwb hrb
            go_wp2
            refine wp_region_ext (by kernel_rfl) (by kernel_rfl) ?_
            repeat (go_big_quiet_step ((first | (go_at_call 69; exact Calls.ext_of (HW.out _)) | (go_at_call 70; exact Calls.ext_of (HR.out _)))))
            refine wpQuiet_nil ?_
            rintro w1 ⟨⟨_, hb1⟩, rfl⟩
            go_wp2
            go_ret
            exact ⟨ret_bool HF.out.symm, Ext.trans SH.out.ext (Ext.trans (Ext.alloc (Below.refl _ _) _) hb1)⟩
          | true =>
            have HF : Hid (okP n L 0 = true) := by unfold Hid; rw [ho, hwb, hrb]; rfl
            rw [hrb] at HR
            clear ho hwb hrb
            obtain ⟨k, hk0⟩ : ∃ k : Nat, k = 0 := ⟨0, rfl⟩
            go_wp2
            refine wp_region_ext (by kernel_rfl) (by kernel_rfl) ?_
            repeat (go_big_quiet_step ((first | (go_at_call 69; exact Calls.ext_of (HW.out _)) | (go_at_call 70; exact Calls.ext_of (HR.out _)))))
            refine wpQuiet_nil ?_
            rintro w1 ⟨⟨_, hb1⟩, rfl⟩
            go_wp2
            go_roundw
            case rel => exact ⟨1, by omega, by go_num, range_all_succ _ _ HA.out HF.out, (SH.out.junk _).call hb1⟩
            case measure => simp [intOf]; omega
        · have b3 : decide ((0:Int) < (k:Int)) = true := by simp; omega
          have b3n : decide (0 < k) = true := by simp; omega
          have d4 : (1:Int) ≤ (k:Int) := by omega
          have d5 : (k:Int) - 1 < m := by omega
          have d6 : (0:Int) ≤ (k:Int) - 1 := by omega
          have g3 := SH.out.ext.cell (HL.out.c1 (k - 1) (by omega))
          have x3 := fun x : ExtOf (wr.alloc (.cells #[.string (nth L k).1, .slice (nth hs k).p (nth hs k).n (nth hs k).c] 69)) => x.ext.cell ((Ext.alloc (Below.refl wr.heap.size wr) _).cell g3)
          have hk0 : decide (k = 0) = false := by simpa using h0
          cases hsb : sLess (nth L (k - 1)).1 (nth L k).1 with
          | false =>
            have HF : Hid (checkP n L = false) := checkP_no hkL (by rw [ho, hwb, hk0, hsb]; rfl)
            have b4 : Op.bytesLess (nth L (k - 1)).1.toList (nth L k).1.toList = false := hsb
            clear ho hwb hsb hk0
            go_wp2
            refine wp_region_ext (by kernel_rfl) (by kernel_rfl) ?_
            repeat (go_big_quiet_step ((first | (go_at_call 69; exact Calls.ext_of (HW.out _)) | (go_at_call 70; exact Calls.ext_of (HR.out _)))))
            refine wpQuiet_nil ?_
            rintro w1 ⟨⟨_, hb1⟩, rfl⟩
            go_wp2
            go_ret
            exact ⟨ret_bool HF.out.symm, Ext.trans SH.out.ext (Ext.trans (Ext.alloc (Below.refl _ _) _) hb1)⟩
          | true =>
            have b4 : Op.bytesLess (nth L (k - 1)).1.toList (nth L k).1.toList = true := hsb
            cases hrb : riseP n (nth L k).2 with
            | false =>
              have HF : Hid (checkP n L = false) := checkP_no hkL (by rw [ho, hwb, hk0, hsb, hrb]; rfl)
              rw [hrb] at HR
              clear ho hwb hsb hk0 hrb
              go_wp2
              refine wp_region_ext (by kernel_rfl) (by kernel_rfl) ?_
              repeat (go_big_quiet_step ((first | (go_at_call 69; exact Calls.ext_of (HW.out _)) | (go_at_call 70; exact Calls.ext_of (HR.out _)))))
              refine wpQuiet_nil ?_
              rintro w1 ⟨⟨_, hb1⟩, rfl⟩
              go_wp2
              go_ret
              exact ⟨ret_bool HF.out.symm, Ext.trans SH.out.ext (Ext.trans (Ext.alloc (Below.refl _ _) _) hb1)⟩
            | true =>
              have HF : Hid (okP n L k = true) := by unfold Hid; rw [ho, hwb, hk0, hsb, hrb]; rfl
              rw [hrb] at HR
              clear ho hwb hsb hk0 hrb
              go_wp2
              refine wp_region_ext (by kernel_rfl) (by kernel_rfl) ?_
              repeat (go_big_quiet_step ((first | (go_at_call 69; exact Calls.ext_of (HW.out _)) | (go_at_call 70; exact Calls.ext_of (HR.out _)))))
              refine wpQuiet_nil ?_
              rintro w1 ⟨⟨_, hb1⟩, rfl⟩
              go_wp2
              go_roundw
              case rel => exact ⟨k + 1, by omega, by go_num, range_all_succ _ _ HA.out HF.out, (SH.out.junk _).call hb1⟩
              case measure => simp [intOf]; omega
    · have HE := Lib.hid (checkP_end (by rw [← L1.out]; exact hlt) HA.out)
      have SH := Lib.hid S; clear S
      by_cases h1 : 1 ≤ n
      · have b1 : decide (1 ≤ n) = true := by simpa using h1
        go_wp2
        go_ret
        exact ⟨ret_bool (by rw [HE.out, b1]; rfl), SH.out.ext⟩
      · have b1 : decide (1 ≤ n) = false := by simpa using h1
        go_wp2
        go_ret
        exact ⟨ret_bool (by rw [HE.out, b1]; rfl), SH.out.ext⟩
end Go.Proofs.Ytcjkechemjdboaa
