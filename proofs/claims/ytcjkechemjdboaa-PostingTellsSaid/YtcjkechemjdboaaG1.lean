import Derived.Test.YtcjkechemjdboaaR3
import Derived.Test.YtcjkechemjdboaaSpec
namespace Go.Proofs.Ytcjkechemjdboaa
open Go Go.RowKit
set_option maxHeartbeats 400000 in
theorem WordG (s : ByteArray) (w : World) (hs : s.size ≤ 140737488355328) : Calls Try.prog 69 #[.string s] w fun e w' => e = .returned (.bool (wordB s)) ∧ w = w' := by
  go_enter Try.func69, Try.ntmps69
  go_wp2
  go_loop [3, 6] (fun _ i => ∃ k : Nat, k ≤ s.size ∧ i = .int .i64 k ∧ (s.data.toList.take k).all lowB = true) (fun _ i => s.size - (intOf i).toNat)
  case atStart => exact ⟨0, Nat.zero_le _, rfl, rfl⟩
  case round =>
    obtain ⟨k, hk, rfl, ha⟩ := hrel
    have HA := Lib.hid ha; clear ha
    by_cases hlt : k < s.size
    · by_cases h1 : (s[k].toNat : Int) < 97
      · go_wp2
        go_ret
        exact ⟨ret_bool (wordB_no s k hlt (by omega)), rfl⟩
      · by_cases h2 : 122 < (s[k].toNat : Int)
        · go_wp2
          go_ret
          exact ⟨ret_bool (wordB_no s k hlt (by omega)), rfl⟩
        · go_wp2
          go_round
          case rel => exact ⟨k + 1, by omega, by go_num, wordB_step s k hlt HA.out (by omega) (by omega)⟩
          case measure => simp [intOf]; omega
    · have HE := Lib.hid (wordB_end s k hlt HA.out)
      by_cases h1 : s.size = 0
      · have he : s.toList = [] := by rw [ByteArray.toList_eq]; have : s.data.size = 0 := h1; exact List.length_eq_zero_iff.1 (by simpa using this)
        have he2 : (!s.toList.isEmpty) = false := by rw [he]; rfl
        have HZ := Lib.hid h1; clear h1
        go_wp2
        go_ret
        exact ⟨ret_bool (by rw [HE.out, HZ.out]; rfl), rfl⟩
      · have he : s.toList ≠ [] := by rw [ByteArray.toList_eq]; intro h; apply h1; have : s.data.toList.length = 0 := by rw [h]; rfl
                                      simpa using this
        have he2 : (!s.toList.isEmpty) = true := by simp [he]
        go_wp2
        go_ret
        exact ⟨ret_bool (by rw [HE.out, Bool.eq_iff_iff]; simp; omega), rfl⟩
theorem isPlaceG (N : Int) (pe : Option Addr) (ne ce : Nat) (pw : Option Addr) (nw cw : Nat) (v : Int) (w : World) :
    Calls Try.prog 106 #[.agg #[.int .i64 N, .slice pe ne ce, .slice pw nw cw], .int .i64 v] w fun e w' => e = .returned (.bool (decide (0 ≤ v ∧ v < N))) ∧ Ext w w' := by
  by_cases h : 0 ≤ v
  · go_enter Try.func106, Try.ntmps106
    go_wp2
    go_ret
    exact ⟨ret_bool (by rw [Bool.eq_iff_iff]; simp [h]), (Below.refl _ _).alloc (Nat.le_refl _) _⟩
  · go_enter Try.func106, Try.ntmps106
    go_wp2
    go_ret
    exact ⟨ret_bool (by rw [Bool.eq_iff_iff]; simp; omega), (Below.refl _ _).alloc (Nat.le_refl _) _⟩
theorem CheckLit (s : ByteArray) (w : World) (hs : s.size ≤ 140737488355328) : Calls Try.prog 108 #[.string s] w fun e w' => e = .returned (.bool (!wordB s)) ∧ w = w' := by
  go_enter Try.func108, Try.ntmps108
  go_wp2_with (go_at_call 69; refine (WordG _ _ hs).mono ?_; rintro e w' ⟨rfl, rfl⟩)
  go_ret
  exact ⟨rfl, rfl⟩
set_option maxHeartbeats 400000 in
/-- the first place of a text that is no word, or -1 -/
theorem IndexWord (p : Option Addr) (n c : Nat) (l : List ByteArray) (w : World) (hl : Rd w 1 p n (encS l)) (hz : ∀ s ∈ l, s.size ≤ 1000000) :
    Calls Try.prog 132 #[.slice p n c, .func (.func 108) #[] #[]] w fun e w' => ∃ i : Int, e = .returned (.int .i64 i) ∧ decide (0 ≤ i) = l.any (fun s => !wordB s) ∧ w = w' := by
  have p1 := hl.ptr
  have n1 := hl.small
  have l1 := hl.nS
  have HL := Lib.hid hl; clear hl
  have L1 := Lib.hid l1; clear l1
  have HZ := Lib.hid hz; clear hz
  go_enter Try.func132, Try.ntmps132
  go_wp2
  go_loop [5, 8] (fun _ i => ∃ k : Nat, k ≤ n ∧ i = .int .i64 k ∧ (l.take k).any (fun s => !wordB s) = false) (fun _ i => n - (intOf i).toNat)
  case atStart => exact ⟨0, Nat.zero_le _, rfl, rfl⟩
  case round =>
    obtain ⟨k, hk, rfl, ha⟩ := hrel
    have HA := Lib.hid ha; clear ha
    by_cases hlt : k < n
    · have g1 := HL.out.cS hlt
      have hsz : (nth l k).size ≤ 140737488355328 := by
        have := HZ.out (nth l k) (by rw [nth_eq (by rw [← L1.out]; exact hlt)]; exact List.getElem_mem _)
        omega
      by_cases hw : (!wordB (nth l k)) = true
      · have HF := Lib.hid (any_true_at (fun s => !wordB s) l k (by rw [← L1.out]; exact hlt) hw)
        go_wp2_with (go_at_call 108; refine (CheckLit _ _ hsz).mono ?_; rintro e w' ⟨rfl, rfl⟩)
        go_ret
        exact ⟨_, rfl, by rw [HF.out]; simp, rfl⟩
      · have hw' : (!wordB (nth l k)) = false := by simpa using hw
        have HW' := Lib.hid hw'
        clear hw
        go_wp2_with (go_at_call 108; refine (CheckLit _ _ hsz).mono ?_; rintro e w' ⟨rfl, rfl⟩)
        go_round
        case rel => exact ⟨k + 1, by omega, by go_num, any_step _ _ _ (by rw [← L1.out]; exact hlt) HA.out HW'.out⟩
        case measure => simp [intOf]; omega
    · have HF := Lib.hid (any_end _ _ _ (by rw [← L1.out]; exact hlt) HA.out)
      go_wp2
      go_ret
      exact ⟨_, rfl, by rw [HF.out]; rfl, rfl⟩
theorem ContainsWord (p : Option Addr) (n c : Nat) (l : List ByteArray) (w : World) (hl : Rd w 1 p n (encS l)) (hz : ∀ s ∈ l, s.size ≤ 1000000) :
    Calls Try.prog 107 #[.slice p n c, .func (.func 108) #[] #[]] w fun e w' => e = .returned (.bool (l.any (fun s => !wordB s))) ∧ w = w' := by
  have HC := Lib.hid (IndexWord p n c l w hl hz)
  clear hl hz
  go_enter Try.func107, Try.ntmps107
  go_wp2_with (go_at_call 132; refine HC.out.mono ?_; rintro e w' ⟨i, rfl, hi, rfl⟩; have HI := Lib.hid hi; clear hi)
  go_ret
  exact ⟨ret_bool HI.out, rfl⟩
end Go.Proofs.Ytcjkechemjdboaa
