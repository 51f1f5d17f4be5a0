/- The library's sort of integers, onto a row of the call's own. -/
import Derived.Test.YtcjkechemjdboaaSep
import Derived.Test.YtcjkechemjdboaaG5
import Derived.Test.YtcjkechemjdboaaPlain
namespace Go.Proofs.Ytcjkechemjdboaa
open Go Go.RowKit Go.Shelf Go.Lib Go.Sort
def ltI (a b : Int) : Bool := decide (a < b)
theorem stoI : STO ltI := ⟨fun a => by simp [ltI], fun a b c h k => by simp [ltI] at *; omega, fun a b h k => by simp [ltI] at *; omega⟩
theorem holdsI {w : World} {base n c g : Nat} {l : List Int} (ho : w.ownsRow base 3 1 (.slice (some ⟨g, 0, none⟩) n c) n (encI l)) (hn : n ≤ 1000000) : Holds (Value.int .i64) w g 0 l.toArray := by
  intro j hj
  have hl : n = l.length := by have := ho.1; rw [encI_len] at this; omega
  have r := Rd.of_own ho (by omega)
  have hj2 : j < n := by simp at hj; omega
  have hc := r.cI hj2
  rw [adr_some] at hc
  refine ⟨?_, own_free ho _⟩
  rw [hc, getElem!_pos _ j hj, nth_eq (by omega)]; simp
theorem putRow_mapI (w : World) (g : Nat) (l : List Int) : putRow (Value.int .i64) w g 0 l.toArray = putRow id w g 0 (encI l).toArray := by
  unfold putRow
  congr 1
  funext c
  unfold putCells
  apply Array.ext_getElem?
  intro i
  simp only [Array.getElem?_mapIdx]
  cases c[i]? with
  | none => rfl
  | some v =>
    simp only [Option.map_some]
    by_cases h : i < l.length
    · simp [encI, h]
    · simp [encI, h]
def sortI (l : List Int) : List Int := l.mergeSort fun x y => decide (x ≤ y)
theorem sortI_len (l : List Int) : (sortI l).length = l.length := by simp [sortI]
theorem sortI_mem (l : List Int) (x : Int) : x ∈ sortI l ↔ x ∈ l := by simp [sortI]
theorem sortI_pairwise (l : List Int) : (sortI l).Pairwise fun a b => a ≤ b := by
  have := List.pairwise_mergeSort (le := fun x y : Int => decide (x ≤ y)) (fun a b c h k => by simp at *; omega) (fun a b => by simp; omega) l
  exact this.imp fun h => by simpa using h
theorem sortI_rises {l : List Int} (h : l.Nodup) : Rises ltI (sortI l) := by
  have h1 := sortI_pairwise l
  have h2 : (sortI l).Nodup := (List.mergeSort_perm l _).nodup_iff.2 h
  refine (h1.and h2).imp ?_
  rintro a b ⟨h3, h4⟩
  simp only [ltI, decide_eq_true_eq]; omega
/-- numbers that are each there once, sorted: put each in its place -/
theorem sortI_put {l s : List Int} (h : l.Nodup) (hm : ∀ x, x ∈ l ↔ x ∈ s) : sortI l = putAll ltI s :=
  rises_uniq stoI _ _ (sortI_rises h) (putAll_rises stoI s) fun x => by rw [sortI_mem, hm, putAll_mem stoI]
theorem SortI (base : Nat) (q : Option Addr) (n c : Nat) (l : List Int) (w : World) (ho : w.ownsRow base 3 1 (.slice q n c) n (encI l)) (hn : n ≤ 1000000) :
    Calls Try.prog 99 #[.slice q n c] w fun e w' => e = .returned (.tuple #[]) ∧ w'.ownsRow base 3 1 (.slice q n c) n (encI (sortI l)) ∧ w.grownBy w' (blkOf q) := by
  have hl : n = l.length := by have := ho.1; rw [encI_len] at this; omega
  by_cases h0 : n = 0
  · subst h0
    have hnil : l = [] := List.eq_nil_of_length_eq_zero hl.symm
    subst hnil
    refine (Any.slices_Sort_int_none Try.sortI q c w).mono ?_
    rintro e w' ⟨he, rfl⟩
    exact ⟨he, by simpa [sortI] using ho, World.grownBy.refl _ _⟩
  · obtain ⟨g, hq, hg⟩ := own_block ho h0
    subst hq
    have hcon := Any.slices_Sort_int Try.sortI g 0 c l w (holdsI ho hn) hg (by omega)
    rw [← hl] at hcon
    refine hcon.mono ?_
    rintro e w' ⟨he, m, os, rfl⟩
    have hp := own_put ho (ys := encI (sortI l)) (by rw [encI_len, sortI_len, hl, Nat.mul_one]) m os
    rw [putRow_mapI]
    exact ⟨he, hp.1, hp.2⟩
/-- onto a piece -/
theorem SortI_sep {w0 w : World} {Γ : List Pc} (S : Sep w0 w Γ) (j : Nat) {q : Option Addr} {n c : Nat} {l : List Int} (hj : Γ[j]? = some (.own 3 1 q n c (encI l))) (hn : n ≤ 1000000) :
    Calls Try.prog 99 #[.slice q n c] w fun e w' => e = .returned (.tuple #[]) ∧ Sep w0 w' (Γ.set j (.own 3 1 q n c (encI (sortI l)))) :=
  (SortI _ q n c l w (S.own j hj) hn).mono fun _ _ ⟨he, ho, hg⟩ => ⟨he, S.put j hj _ hg (fun k hk => hk) (own_base ho (Nat.zero_le _)) fun k hk => .inl hk⟩
end Go.Proofs.Ytcjkechemjdboaa
