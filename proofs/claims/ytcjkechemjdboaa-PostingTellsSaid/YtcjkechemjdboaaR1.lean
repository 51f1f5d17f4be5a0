import Derived.Test.YtcjkechemjdboaaSpec
import Derived.Test.YtcjkechemjdboaaProg
namespace Go.Proofs.Ytcjkechemjdboaa
open Go Go.RowKit
theorem ret_bool {a b : Bool} (h : a = b) : Ending.returned (.bool a) = .returned (.bool b) := by rw [h]
theorem str_nth (s : ByteArray) (k : Nat) (h : k < s.size) : nth s.data.toList k = s[k] := by
  rw [nth_eq (by simpa using h)]; rfl
theorem wordB_no (s : ByteArray) (k : Nat) (h : k < s.size) (hb : (s[k].toNat : Int) < 97 ∨ 122 < (s[k].toNat : Int)) : false = wordB s := by
  unfold wordB
  rw [all_false_at lowB s.data.toList k (by simpa using h) (by rw [str_nth s k h]; unfold lowB; rw [decide_eq_false_iff_not]; omega)]
  rfl
theorem wordB_step (s : ByteArray) (k : Nat) (h : k < s.size) (ha : (s.data.toList.take k).all lowB = true) (h1 : 97 ≤ (s[k].toNat : Int)) (h2 : (s[k].toNat : Int) ≤ 122) : (s.data.toList.take (k + 1)).all lowB = true := by
  rw [take_all_succ lowB s.data.toList k (by simpa using h), ha, str_nth s k h]
  simp [lowB]; omega
theorem wordB_end (s : ByteArray) (k : Nat) (h : ¬ k < s.size) (ha : (s.data.toList.take k).all lowB = true) : wordB s = (decide (1 ≤ s.size) && decide (s.size ≤ 12)) := by
  unfold wordB
  rw [List.take_of_length_le (by simp; omega)] at ha
  rw [ha]; simp
set_option maxHeartbeats 400000 in
theorem Word02 (s : ByteArray) (w : World) (hs : s.size ≤ 140737488355328) : Calls Try.prog 71 #[.string s] w fun e w' => e = .returned (.bool (wordB s)) ∧ w = w' := by
  go_enter Try.func71, Try.ntmps71
  go_wp2
  go_loop [3] (fun i => ∃ k : Nat, k ≤ s.size ∧ i = .int .i64 k ∧ (s.data.toList.take k).all lowB = true) (fun i => s.size - (intOf i).toNat)
  case atStart => exact ⟨0, Nat.zero_le _, rfl, rfl⟩
  case round =>
    obtain ⟨k, hk, rfl, ha⟩ := hrel
    have HA := Lib.hid ha; clear ha
    by_cases hlt : k < s.size
    · by_cases h1 : (s[k].toNat : Int) < 97
      · go_wp2
        go_ret
        exact ⟨ret_bool (wordB_no s k hlt (by omega)), rfl⟩
      · by_cases h2 : 122 < (s[k].toNat : Int)
        · go_wp2
          go_ret
          exact ⟨ret_bool (wordB_no s k hlt (by omega)), rfl⟩
        · go_wp2
          go_round
          case rel => exact ⟨k + 1, by omega, by go_num, wordB_step s k hlt HA.out (by omega) (by omega)⟩
          case measure => simp [intOf]; omega
    · have HE := Lib.hid (wordB_end s k hlt HA.out)
      by_cases h1 : 1 ≤ s.size
      · go_wp2
        go_ret
        exact ⟨ret_bool (by rw [HE.out]; simp [h1]; try omega), rfl⟩
      · go_wp2
        go_ret
        exact ⟨ret_bool (by rw [HE.out]; simp [h1]; try omega), rfl⟩
theorem Less02 (a b c d : Int) (w : World) :
    Calls Try.prog 96 #[.agg #[.int .i64 a, .int .i64 b], .agg #[.int .i64 c, .int .i64 d]] w fun e w' => e = .returned (.bool (lessE (a, b) (c, d))) ∧ Ext w w' := by
  go_enter Try.func96, Try.ntmps96
  go_wp2
  all_goals
    go_ret
    refine ⟨ret_bool ?_, ((Below.refl _ _).alloc (Nat.le_refl _) _).alloc (by simp) _⟩
    rw [Bool.eq_iff_iff]
    simp [lessE]
    omega
end Go.Proofs.Ytcjkechemjdboaa
