/- The library's sort of texts, onto a row of the call's own. -/
import Derived.Test.YtcjkechemjdboaaSortI
namespace Go.Proofs.Ytcjkechemjdboaa
open Go Go.RowKit Go.Shelf Go.Lib Go.Sort
theorem bl_lt : ∀ a b : List UInt8, Op.bytesLess a b = decide (a < b)
  | [], [] => by simp [Op.bytesLess]
  | [], _ :: _ => by simp [Op.bytesLess]
  | _ :: _, [] => by simp [Op.bytesLess]
  | a :: x, b :: y => by
    have ih := bl_lt x y
    rw [Bool.eq_iff_iff]
    simp only [Op.bytesLess, Bool.or_eq_true, Bool.and_eq_true, decide_eq_true_eq, beq_iff_eq, List.cons_lt_cons_iff]
    rw [ih, decide_eq_true_eq]
def toBA (x : List UInt8) : ByteArray := ⟨x.toArray⟩
theorem toBA_toList (x : List UInt8) : (toBA x).toList = x := by rw [ByteArray.toList_eq]; simp [toBA]
theorem putRow_gen {α : Type} [Inhabited α] (enc : α → Value) (w : World) (g : Nat) (l : List α) : putRow enc w g 0 l.toArray = putRow id w g 0 (l.map enc).toArray := by
  unfold putRow
  congr 1
  funext c
  unfold putCells
  apply Array.ext_getElem?
  intro i
  simp only [Array.getElem?_mapIdx]
  cases c[i]? with
  | none => rfl
  | some v =>
    simp only [Option.map_some]
    by_cases h : i < l.length
    · simp [h]
    · simp [h]
def sortT (l : List ByteArray) : List ByteArray := ((l.map fun s => s.data.toList).mergeSort fun x y => decide (x ≤ y)).map toBA
theorem sortT_len (l : List ByteArray) : (sortT l).length = l.length := by simp [sortT]
theorem toBA_data (s : ByteArray) : toBA s.data.toList = s := by simp [toBA]
theorem sortT_perm (l : List ByteArray) : (sortT l).Perm l := by
  unfold sortT
  have h := (List.mergeSort_perm (l.map fun s : ByteArray => s.data.toList) fun x y => decide (x ≤ y)).map toBA
  rw [List.map_map] at h
  have e : (toBA ∘ fun s : ByteArray => s.data.toList) = id := by funext s; exact toBA_data s
  rw [e, List.map_id] at h
  exact h
theorem sortT_rises {l : List ByteArray} (h : l.Nodup) : Rises sLess (sortT l) := by
  have h2 : (sortT l).Nodup := (sortT_perm l).nodup_iff.2 h
  have h1 : (sortT l).Pairwise fun a b => sLess b a = false := by
    unfold sortT
    rw [List.pairwise_map]
    have := List.pairwise_mergeSort (le := fun x y : List UInt8 => decide (x ≤ y)) (fun a b c h k => by simp only [decide_eq_true_eq] at *; exact List.le_trans h k) (fun a b => by simp only [Bool.or_eq_true, decide_eq_true_eq]; exact List.le_total a b) (l.map fun s : ByteArray => s.data.toList)
    refine this.imp ?_
    intro a b hab
    simp only [decide_eq_true_eq] at hab
    show Op.bytesLess (toBA b).toList (toBA a).toList = false
    rw [toBA_toList, toBA_toList, bl_lt]
    simpa using hab
  refine (h1.and h2).imp ?_
  rintro a b ⟨h3, h4⟩
  cases h5 : sLess a b with
  | true => rfl
  | false => exact (h4 (sLess_tri a b h5 h3)).elim
theorem sortT_put {l s : List ByteArray} (h : l.Nodup) (hm : ∀ x, x ∈ l ↔ x ∈ s) : sortT l = putAll sLess s :=
  rises_uniq stoS _ _ (sortT_rises h) (putAll_rises stoS s) fun x => by rw [(sortT_perm l).mem_iff, hm, putAll_mem stoS]
theorem SortTx (base : Nat) (q : Option Addr) (n c : Nat) (l : List ByteArray) (w : World) (ho : w.ownsRow base 9 1 (.slice q n c) n (encS l)) (hn : n ≤ 1000000) :
    Calls Try.prog 57 #[.slice q n c] w fun e w' => e = .returned (.tuple #[]) ∧ w'.ownsRow base 9 1 (.slice q n c) n (encS (sortT l)) ∧ w.grownBy w' (blkOf q) := by
  have hl : n = l.length := by have := ho.1; rw [encS_len] at this; omega
  by_cases h0 : n = 0
  · subst h0
    have hnil : l = [] := List.eq_nil_of_length_eq_zero hl.symm
    subst hnil
    refine (Any.slices_Sort_string_none Try.sortT q c w).mono ?_
    rintro e w' ⟨he, rfl⟩
    exact ⟨he, by simpa [sortT] using ho, World.grownBy.refl _ _⟩
  · obtain ⟨g, hq, hg⟩ := own_block ho h0
    subst hq
    have hH : Holds encStr w g 0 (l.map fun s => s.data.toList).toArray := by
      intro j hj
      have hj2 : j < l.length := by simpa using hj
      have := holdsS ho hn j (by simpa using hj2)
      rw [getElem!_pos _ j (by simpa using hj2)] at this
      rw [getElem!_pos _ j hj]
      simpa [encStr] using this
    have hcon := Any.slices_Sort_string Try.sortT g 0 c (l.map fun s => s.data.toList) w hH hg (by simp; omega)
    rw [List.length_map, ← hl] at hcon
    refine hcon.mono ?_
    rintro e w' ⟨he, m, os, rfl⟩
    have hp := own_put ho (ys := encS (sortT l)) (by rw [encS_len, sortT_len, hl, Nat.mul_one]) m os
    rw [putRow_gen]
    have e1 : ((l.map fun s => s.data.toList).mergeSort fun x y => decide (x ≤ y)).map encStr = encS (sortT l) := by
      unfold encS sortT; rw [List.map_map]; rfl
    rw [e1]
    exact ⟨he, hp.1, hp.2⟩
theorem SortT_sep {w0 w : World} {Γ : List Pc} (S : Sep w0 w Γ) (j : Nat) {q : Option Addr} {n c : Nat} {l : List ByteArray} (hj : Γ[j]? = some (.own 9 1 q n c (encS l))) (hn : n ≤ 1000000) :
    Calls Try.prog 57 #[.slice q n c] w fun e w' => e = .returned (.tuple #[]) ∧ Sep w0 w' (Γ.set j (.own 9 1 q n c (encS (sortT l)))) :=
  (SortTx _ q n c l w (S.own j hj) hn).mono fun _ _ ⟨he, ho, hg⟩ => ⟨he, S.put j hj _ hg (fun k hk => hk) (own_base ho (Nat.zero_le _)) fun k hk => .inl hk⟩
end Go.Proofs.Ytcjkechemjdboaa
