import Derived.Test.YtcjkechemjdboaaG7
import Derived.Test.YtcjkechemjdboaaR6
import Derived.Test.YtcjkechemjdboaaR2
import Derived.Laws.EntriesVeiled
namespace Go.Proofs.Ytcjkechemjdboaa
open Go Go.RowKit Go.Shelf Go.Lib Go.Sort
set_option maxRecDepth 100000 in
theorem CloneE (p : Option Addr) (n c : Nat) (l : List (Int × Int)) (w : World) (hl : Rd w 2 p n (encE l)) (hn : n ≤ 100000) :
    Calls Try.prog 85 #[.slice p n c] w fun e w' => ∃ q c', e = .returned (.slice q n c') ∧ w'.ownsRow w.heap.size 71 2 (.slice q n c') n (encE l) ∧ Ext w w' := by
  obtain ⟨i0, hi0, hz0, hz1, hz2⟩ := info_parts inf34
  have hp := hl.ptr
  cases p with
  | none =>
    have h0 : n = 0 := by rcases hp with h | ⟨_, _, h⟩; exact h; cases h
    subst h0
    have hnil : encE l = [] := List.eq_nil_of_length_eq_zero (by have := hl.len; simpa using this)
    rw [hnil]
    clear hl hp hnil
    have hr := fun W => Lib.run_eql_slice_nil (P := Try.prog) W 22 71 none 0 c 0 0 Try.underlying22
    go_enter Try.func85, Try.ntmps85
    go_wp2
    go_ret
    exact ⟨none, 0, rfl, World.ownsRow_nil _ _ _ _, Below.refl _ _⟩
  | some ad =>
    have hr := fun W => Lib.run_eql_slice_nil (P := Try.prog) W 22 71 (some ad) n c 0 0 Try.underlying22
    have HL := Lib.hid hl; clear hl hp
    go_enter Try.func85, Try.ntmps85
    go_wp2_with (at_builtin; refine wpList_append_rd rfl _ _ _ rfl w.heap.size 71 i0 _ 2 16 Try.underlying22 hi0 hz0 hz1 hz2 rfl (by omega) (some ⟨w.heap.size, 0, none⟩) 0 0 [] rfl (World.ownsRow_made w #[] 0 (Nat.le_refl _) (by simp [maxLen]) rfl) (some ad) n c (encE l) rfl (HL.out.ext (Ext.alloc (Below.refl _ _) _)) (one_encE l) (by omega) (by omega) (by simp) ?_; intro q' c' w1 hown hg hat hb)
    go_ret
    simp only [Nat.zero_add, List.nil_append] at hown
    exact ⟨q', c', rfl, hown, Below.trans ((Below.refl _ _).alloc (Nat.le_refl _) _) hb⟩
set_option maxRecDepth 100000 in
theorem CloneS (p : Option Addr) (n c : Nat) (l : List ByteArray) (w : World) (hl : Rd w 1 p n (encS l)) (hn : n ≤ 100000) :
    Calls Try.prog 114 #[.slice p n c] w fun e w' => ∃ q c', e = .returned (.slice q n c') ∧ w'.ownsRow w.heap.size 9 1 (.slice q n c') n (encS l) ∧ Ext w w' := by
  obtain ⟨i0, hi0, hz0, hz1, hz2⟩ := info_parts inf9
  have hp := hl.ptr
  cases p with
  | none =>
    have h0 : n = 0 := by rcases hp with h | ⟨_, _, h⟩; exact h; cases h
    subst h0
    have hnil : encS l = [] := List.eq_nil_of_length_eq_zero (by have := hl.len; simpa using this)
    rw [hnil]
    clear hl hp hnil
    have hr := fun W => Lib.run_eql_slice_nil (P := Try.prog) W 35 9 none 0 c 0 0 Try.underlying35
    go_enter Try.func114, Try.ntmps114
    go_wp2
    go_ret
    exact ⟨none, 0, rfl, World.ownsRow_nil _ _ _ _, Below.refl _ _⟩
  | some ad =>
    have hr := fun W => Lib.run_eql_slice_nil (P := Try.prog) W 35 9 (some ad) n c 0 0 Try.underlying35
    have HL := Lib.hid hl; clear hl hp
    go_enter Try.func114, Try.ntmps114
    go_wp2_with (at_builtin; refine wpList_append_rd rfl _ _ _ rfl w.heap.size 9 i0 _ 1 16 Try.underlying35 hi0 hz0 hz1 hz2 rfl (by omega) (some ⟨w.heap.size, 0, none⟩) 0 0 [] rfl (World.ownsRow_made w #[] 0 (Nat.le_refl _) (by simp [maxLen]) rfl) (some ad) n c (encS l) rfl (HL.out.ext (Ext.alloc (Below.refl _ _) _)) (one_encS l) (by omega) (by omega) (by simp) ?_; intro q' c' w1 hown hg hat hb)
    go_ret
    simp only [Nat.zero_add, List.nil_append] at hown
    exact ⟨q', c', rfl, hown, Below.trans ((Below.refl _ _).alloc (Nat.le_refl _) _) hb⟩
set_option maxRecDepth 100000 in
/-- elements that rise, each once -/
theorem OnceE (p : Option Addr) (n c : Nat) (l : List (Int × Int)) (w : World) (hl : Rd w 2 p n (encE l)) (hn : n ≤ 100000) :
    Calls Try.prog 81 #[.slice p n c, .agg #[.func (.func 111) #[] #[]]] w fun e w' => ∃ q c', e = .returned (.slice q (dedup (sortBy lessE l)).length c') ∧ w'.ownsRow w.heap.size 71 2 (.slice q (dedup (sortBy lessE l)).length c') (dedup (sortBy lessE l)).length (encE (dedup (sortBy lessE l))) ∧ Ext w w' := by
  have HL := Lib.hid hl; clear hl
  go_enter Try.func81, Try.ntmps81
  go_wp2_with (first
    | (go_at_call 85; go_must ((refine (CloneE p n c l _ (HL.out.ext (Ext.alloc (Below.refl _ _) _)) hn).mono ?_; rintro e w1 ⟨q, c1, rfl, own, hb1⟩; have O1 := Lib.hid own; have B1 := Lib.hid hb1; have x0 := Ext.cell hb1 (cellnew0 _ _ _ _); clear own hb1)))
    | (go_at_call 109; have _t := O1; go_must ((refine (SortE _ q n c1 l _ O1.out (Nat.le_trans hn (by omega)) B1.out.size).mono ?_; rintro e w2 ⟨rfl, own, hgr, hb2⟩; have O2 := Lib.hid own; have B2 := Lib.hid hb2; clear own hgr hb2)))
    | (go_at_call 110; have _t := O2; go_must ((refine (CompactE _ q n c1 _ _ O2.out hn (Nat.le_trans B1.out.size B2.out.size)).mono ?_; rintro e w3 ⟨rfl, own, hgr, hb3⟩; have O3 := Lib.hid own; have B3 := Lib.hid hb3; clear own hgr hb3))))
  go_ret
  refine ⟨q, c1, rfl, own_base O3.out (by simp), ?_⟩
  have h1 := Below.trans (Below.trans B1.out B2.out) B3.out
  exact Below.trans ((Below.refl w.heap.size w).alloc (Nat.le_refl _) _) (h1.mono (by simp))
set_option maxRecDepth 100000 in
/-- elements that rise, each once -/
theorem OnceS (p : Option Addr) (n c : Nat) (l : List ByteArray) (w : World) (hl : Rd w 1 p n (encS l)) (hn : n ≤ 100000) :
    Calls Try.prog 83 #[.slice p n c, .agg #[.func (.func 117) #[] #[]]] w fun e w' => ∃ q c', e = .returned (.slice q (dedup (sortBy sLess l)).length c') ∧ w'.ownsRow w.heap.size 9 1 (.slice q (dedup (sortBy sLess l)).length c') (dedup (sortBy sLess l)).length (encS (dedup (sortBy sLess l))) ∧ Ext w w' := by
  have HL := Lib.hid hl; clear hl
  go_enter Try.func83, Try.ntmps83
  go_wp2_with (first
    | (go_at_call 114; go_must ((refine (CloneS p n c l _ (HL.out.ext (Ext.alloc (Below.refl _ _) _)) hn).mono ?_; rintro e w1 ⟨q, c1, rfl, own, hb1⟩; have O1 := Lib.hid own; have B1 := Lib.hid hb1; have x0 := Ext.cell hb1 (cellnew0 _ _ _ _); clear own hb1)))
    | (go_at_call 115; have _t := O1; go_must ((refine (SortS _ q n c1 l _ O1.out (Nat.le_trans hn (by omega)) B1.out.size).mono ?_; rintro e w2 ⟨rfl, own, hgr, hb2⟩; have O2 := Lib.hid own; have B2 := Lib.hid hb2; clear own hgr hb2)))
    | (go_at_call 116; have _t := O2; go_must ((refine (CompactSC _ q n c1 _ _ O2.out (Nat.le_trans hn (by omega)) (Nat.le_trans B1.out.size B2.out.size)).mono ?_; rintro e w3 ⟨rfl, own, hgr, hb3⟩; have O3 := Lib.hid own; have B3 := Lib.hid hb3; clear own hgr hb3))))
  go_ret
  refine ⟨q, c1, rfl, own_base O3.out (by simp), ?_⟩
  have h1 := Below.trans (Below.trans B1.out B2.out) B3.out
  exact Below.trans ((Below.refl w.heap.size w).alloc (Nat.le_refl _) _) (h1.mono (by simp))
theorem EdgesG (w : World) : Calls Try.prog 82 #[] w fun e w' => e = .returned (.agg #[.func (.func 111) #[] #[]]) ∧ Ext w w' := by
  go_enter Try.func82, Try.ntmps82
  go_wp2
  exact bodyPost_ret (v := .agg #[.func (.func 111) #[] #[]]) (by simp [results, Try.results82, go_sem, Try.sizeOf93, Try.isAgg93]) rfl ⟨rfl, (Below.refl _ _).alloc (Nat.le_refl _) _⟩
theorem WordsG (w : World) : Calls Try.prog 84 #[] w fun e w' => e = .returned (.agg #[.func (.func 117) #[] #[]]) ∧ Ext w w' := by
  go_enter Try.func84, Try.ntmps84
  go_wp2
  exact bodyPost_ret (v := .agg #[.func (.func 117) #[] #[]]) (by simp [results, Try.results84, go_sem, Try.sizeOf98, Try.isAgg98]) rfl ⟨rfl, (Below.refl _ _).alloc (Nat.le_refl _) _⟩
end Go.Proofs.Ytcjkechemjdboaa
