import Derived.Test.YtcjkechemjdboaaR3
import Derived.Shelf.SlSortCmp.WholeK
namespace Go.Proofs.Ytcjkechemjdboaa
open Go Go.RowKit
/-- cmp.Compare at int; cmp.Or of two; how edges compare -/
def cmpI (x y : Int) : Int := if x < y then -1 else if x = y then 0 else 1
def orI (x y : Int) : Int := if x = 0 then y else x
def cmpE (a b : Int × Int) : Int := orI (cmpI a.1 b.1) (cmpI a.2 b.2)
theorem ret_int {k : IntKind} {a b : Int} (h : a = b) : Ending.returned (.int k a) = .returned (.int k b) := by rw [h]
theorem CompareInt (x y : Int) (w : World) : Calls Try.prog 113 #[.int .i64 x, .int .i64 y] w fun e w' => e = .returned (.int .i64 (cmpI x y)) ∧ w' = w := by
  have hx : (x != x) = false := by simp
  have hy : (y != y) = false := by simp
  by_cases h1 : x < y
  · have h2 : Hid (cmpI x y = -1) := by unfold Hid cmpI; simp [h1]
    go_enter Try.func113, Try.ntmps113
    go_wp2
    go_ret
    exact ⟨ret_int h2.out.symm, rfl⟩
  · by_cases h3 : y < x
    · have h2 : Hid (cmpI x y = 1) := by unfold Hid cmpI; rw [if_neg h1, if_neg (by omega)]
      go_enter Try.func113, Try.ntmps113
      go_wp2
      go_ret
      exact ⟨ret_int h2.out.symm, rfl⟩
    · have h4 : x = y := by omega
      subst h4
      have h2 : Hid (cmpI x x = 0) := by unfold Hid cmpI; simp
      go_enter Try.func113, Try.ntmps113
      go_wp2
      go_ret
      exact ⟨ret_int h2.out.symm, rfl⟩
theorem OrInt (b : Nat) (x y : Int) (w : World) (h0 : w.cell? ⟨b, 0, none⟩ = some (.int .i64 x)) (h1 : w.cell? ⟨b, 1, none⟩ = some (.int .i64 y)) :
    Calls Try.prog 112 #[.slice (some ⟨b, 0, none⟩) 2 2] w fun e w' => e = .returned (.int .i64 (orI x y)) ∧ w' = w := by
  by_cases hx : x = 0
  · have h2 : Hid (orI x y = y) := by unfold Hid orI; rw [if_pos hx]
    have hx2 : (x != 0) = false := by simp [hx]
    have HX := Lib.hid hx; clear hx
    by_cases hy : y = 0
    · have hy2 : (y != 0) = false := by simp [hy]
      have HY := Lib.hid hy; clear hy
      go_enter Try.func112, Try.ntmps112
      go_wp2
      refine wp_loop_rounds 3 ?_
      rw [rounds_succ]
      go_wp2
      rw [rounds_succ]
      go_wp2
      rw [rounds_succ]
      go_wp2
      go_ret
      exact ⟨ret_int (by rw [h2.out, HY.out]), rfl⟩
    · have hy2 : (y != 0) = true := by simp [hy]
      have HY := Lib.hid hy; clear hy
      go_enter Try.func112, Try.ntmps112
      go_wp2
      refine wp_loop_rounds 2 ?_
      rw [rounds_succ]
      go_wp2
      rw [rounds_succ]
      go_wp2
      go_ret
      exact ⟨ret_int h2.out.symm, rfl⟩
  · have h2 : Hid (orI x y = x) := by unfold Hid orI; rw [if_neg hx]
    have hx2 : (x != 0) = true := by simp [hx]
    have HX := Lib.hid hx; clear hx
    go_enter Try.func112, Try.ntmps112
    go_wp2
    refine wp_loop_rounds 1 ?_
    rw [rounds_succ]
    go_wp2
    go_ret
    exact ⟨ret_int h2.out.symm, rfl⟩
end Go.Proofs.Ytcjkechemjdboaa
