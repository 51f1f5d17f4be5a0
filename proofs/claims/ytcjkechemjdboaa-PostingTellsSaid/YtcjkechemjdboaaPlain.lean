/- Sorting and dropping what is twice is putting each in its place; no program in sight. -/
import Derived.Test.YtcjkechemjdboaaG5
namespace Go.Proofs.Ytcjkechemjdboaa
open Go Go.Lib
/-- a strict order that is total -/
structure STO {α : Type} (lt : α → α → Bool) : Prop where
  irrefl : ∀ a, lt a a = false
  trans : ∀ a b c, lt a b = true → lt b c = true → lt a c = true
  tri : ∀ a b, lt a b = false → lt b a = false → a = b
theorem stoE : STO lessE where
  irrefl a := by simp [lessE]
  trans a b c h k := by simp only [lessE, decide_eq_true_eq] at *; omega
  tri a b h k := by
    simp only [lessE, decide_eq_false_iff_not] at *
    exact Prod.ext (by omega) (by omega)
theorem stoS : STO sLess := ⟨sLess_irrefl, sLess_trans, sLess_tri⟩
section
variable {α : Type} {lt : α → α → Bool}
theorem STO.asymm (h : STO lt) {a b : α} (k : lt a b = true) : lt b a = false := by
  cases hb : lt b a with
  | false => rfl
  | true => have := h.trans a b a k hb; rw [h.irrefl] at this; cases this
theorem STO.le_lt (h : STO lt) {a b c : α} (k : lt b a = false) (m : lt b c = true) : lt a c = true := by
  cases hab : lt a b with
  | true => exact h.trans a b c hab m
  | false => have := h.tri a b hab k; subst this; exact m
/-- each before the next, all of them -/
abbrev Rises (lt : α → α → Bool) (l : List α) : Prop := l.Pairwise fun a b => lt a b = true
theorem rises_uniq (h : STO lt) : ∀ l m : List α, Rises lt l → Rises lt m → (∀ x, x ∈ l ↔ x ∈ m) → l = m := by
  intro l
  induction l with
  | nil =>
    intro m _ _ hm
    exact (List.eq_nil_iff_forall_not_mem.2 fun x hx => by have := (hm x).2 hx; cases this).symm
  | cons a l ih =>
    intro m hl hm hmem
    cases m with
    | nil => have := (hmem a).1 (List.mem_cons_self ..); cases this
    | cons b m =>
      have hl1 := List.pairwise_cons.1 hl
      have hm1 := List.pairwise_cons.1 hm
      have hab : a = b := by
        rcases List.mem_cons.1 ((hmem a).1 (List.mem_cons_self ..)) with h1 | h1
        · exact h1
        · rcases List.mem_cons.1 ((hmem b).2 (List.mem_cons_self ..)) with h2 | h2
          · exact h2.symm
          · have h3 := hm1.1 a h1
            have h4 := hl1.1 b h2
            rw [h.asymm h3] at h4; cases h4
      subst hab
      rw [ih m hl1.2 hm1.2 (fun x => ?_)]
      constructor
      · intro hx
        rcases List.mem_cons.1 ((hmem x).1 (List.mem_cons_of_mem _ hx)) with h1 | h1
        · subst h1; have := hl1.1 x hx; rw [h.irrefl] at this; cases this
        · exact h1
      · intro hx
        rcases List.mem_cons.1 ((hmem x).2 (List.mem_cons_of_mem _ hx)) with h1 | h1
        · subst h1; have := hm1.1 x hx; rw [h.irrefl] at this; cases this
        · exact h1
variable [DecidableEq α]
theorem putL_cons (l : List α) (a x : α) : putL lt (a :: l) x = if lt a x = true then a :: putL lt l x else if a = x then a :: l else x :: a :: l := by
  unfold putL ahead
  rw [List.takeWhile_cons]
  by_cases h : lt a x = true
  · simp only [h, if_true, List.length_cons, List.getElem?_cons_succ, List.take_succ_cons, List.drop_succ_cons]
    split <;> simp_all
  · simp only [h, if_false, List.length_nil, List.getElem?_cons_zero, List.take_zero, List.drop_zero, Option.some.injEq]
    split <;> simp_all
theorem putL_nil (x : α) : putL lt [] x = [x] := by simp [putL, ahead]
theorem putL_mem (l : List α) (x y : α) : y ∈ putL lt l x ↔ y = x ∨ y ∈ l := by
  induction l with
  | nil => rw [putL_nil]; simp
  | cons a l ih =>
    rw [putL_cons]
    by_cases h : lt a x = true
    · rw [if_pos h, List.mem_cons, ih, List.mem_cons]
      constructor
      · rintro (h1 | h1 | h1)
        · exact .inr (.inl h1)
        · exact .inl h1
        · exact .inr (.inr h1)
      · rintro (h1 | h1 | h1)
        · exact .inr (.inl h1)
        · exact .inl h1
        · exact .inr (.inr h1)
    · rw [if_neg h]
      by_cases e : a = x
      · rw [if_pos e]; subst e; simp
      · rw [if_neg e]; simp
theorem putL_rises (h : STO lt) (l : List α) (x : α) (hl : Rises lt l) : Rises lt (putL lt l x) := by
  induction l with
  | nil => rw [putL_nil]; exact List.pairwise_singleton _ _
  | cons a l ih =>
    have hl1 := List.pairwise_cons.1 hl
    rw [putL_cons]
    by_cases hax : lt a x = true
    · rw [if_pos hax]
      refine List.pairwise_cons.2 ⟨fun y hy => ?_, ih hl1.2⟩
      rcases (putL_mem l x y).1 hy with h1 | h1
      · subst h1; exact hax
      · exact hl1.1 y h1
    · rw [if_neg hax]
      by_cases e : a = x
      · rw [if_pos e]; exact hl
      · rw [if_neg e]
        have hxa : lt x a = true := by
          cases hx : lt x a with
          | true => rfl
          | false => exact absurd (h.tri a x (by simpa using hax) hx) e
        refine List.pairwise_cons.2 ⟨fun y hy => ?_, hl⟩
        rcases List.mem_cons.1 hy with h1 | h1
        · subst h1; exact hxa
        · exact h.trans x a y hxa (hl1.1 y h1)
theorem foldl_put (h : STO lt) (l b : List α) (hb : Rises lt b) : Rises lt (l.foldl (putL lt) b) ∧ ∀ y, y ∈ l.foldl (putL lt) b ↔ y ∈ l ∨ y ∈ b := by
  induction l generalizing b with
  | nil => exact ⟨hb, fun y => by simp⟩
  | cons a l ih =>
    have := ih (putL lt b a) (putL_rises h b a hb)
    refine ⟨this.1, fun y => ?_⟩
    rw [List.foldl_cons, this.2 y, putL_mem, List.mem_cons]
    constructor
    · rintro (h1 | h1 | h1)
      · exact .inl (.inr h1)
      · exact .inl (.inl h1)
      · exact .inr h1
    · rintro ((h1 | h1) | h1)
      · exact .inr (.inl h1)
      · exact .inl h1
      · exact .inr (.inr h1)
theorem putAll_rises (h : STO lt) (l : List α) : Rises lt (putAll lt l) := (foldl_put h l [] List.Pairwise.nil).1
theorem putAll_mem (h : STO lt) (l : List α) (y : α) : y ∈ putAll lt l ↔ y ∈ l := by
  have := (foldl_put h l [] List.Pairwise.nil).2 y
  simpa [putAll] using this
variable [Inhabited α]
theorem dedup_mem (l : List α) (y : α) : y ∈ dedup l ↔ y ∈ l := by
  unfold dedup compactUpTo
  rw [List.mem_map]
  constructor
  · rintro ⟨j, hj, rfl⟩
    have h1 := (List.mem_filter.1 hj).1
    have h2 := List.mem_range.1 h1
    rw [getElem!_pos _ j (by simpa using h2)]
    simp
  · intro hy
    obtain ⟨j, hj, e⟩ := List.getElem_of_mem hy
    induction j using Nat.strongRecOn with
    | _ j ih =>
      have ej : l.toArray[j]! = y := by rw [getElem!_pos _ j (by simpa using hj)]; simpa using e
      by_cases hk : keeps l.toArray j = true
      · exact ⟨j, List.mem_filter.2 ⟨List.mem_range.2 hj, hk⟩, ej⟩
      · unfold keeps at hk
        simp only [decide_eq_true_eq] at hk
        obtain ⟨h1, h2⟩ := not_or.1 hk
        have h3 : l.toArray[j]! = l.toArray[j - 1]! := Classical.not_not.1 h2
        refine ih (j - 1) (by omega) (by omega) ?_
        rw [ej] at h3
        rw [getElem!_pos _ (j - 1) (by simp; omega)] at h3
        simpa using h3.symm
omit [DecidableEq α] [Inhabited α] in
theorem sortBy_mem (l : List α) (y : α) : y ∈ sortBy lt l ↔ y ∈ l := by unfold sortBy; exact List.mem_mergeSort
omit [DecidableEq α] [Inhabited α] in
theorem sortBy_pairwise (h : STO lt) (l : List α) : (sortBy lt l).Pairwise fun a b => lt b a = false := by
  have := List.pairwise_mergeSort (le := fun x y => !lt y x) (fun a b c h1 h2 => ?_) (fun a b => ?_) l
  · unfold sortBy
    exact this.imp fun hab => by simpa using hab
  · simp only [Bool.not_eq_true'] at h1 h2 ⊢
    cases hca : lt c a with
    | false => rfl
    | true =>
      have := h.le_lt (a := b) (b := c) (c := a) h2 hca
      rw [h1] at this; cases this
  · simp only [Bool.or_eq_true, Bool.not_eq_true']
    cases hba : lt b a with
    | false => exact .inl rfl
    | true => exact .inr (h.asymm hba)
theorem dedup_rises (h : STO lt) (l : List α) (hl : l.Pairwise fun a b => lt b a = false) : Rises lt (dedup l) := by
  unfold dedup compactUpTo Rises
  rw [List.pairwise_map, List.pairwise_filter]
  have hp := List.pairwise_iff_getElem.1 hl
  have hg : ∀ i (hi : i < l.length), l.toArray[i]! = l[i] := fun i hi => by rw [getElem!_pos _ i (by simpa using hi)]; simp
  refine (List.pairwise_lt_range (n := l.length)).imp_of_mem fun {i j} hi hj hij _ hkj => ?_
  have hj2 := List.mem_range.1 hj
  unfold keeps at hkj
  simp only [decide_eq_true_eq] at hkj
  have hne : l.toArray[j]! ≠ l.toArray[j - 1]! := by
    rcases hkj with h0 | h0
    · omega
    · exact h0
  rw [hg j hj2, hg (j - 1) (by omega)] at hne
  rw [hg i (by omega), hg j hj2]
  have h1 : lt (l[j - 1]'(by omega)) l[j] = true := by
    cases hx : lt (l[j - 1]'(by omega)) l[j] with
    | true => rfl
    | false => exact absurd (h.tri _ _ (hp (j - 1) j (by omega) hj2 (by omega)) hx) hne
  rcases Nat.lt_or_ge i (j - 1) with h2 | h2
  · exact h.le_lt (hp i (j - 1) (by omega) (by omega) h2) h1
  · have : i = j - 1 := by omega
    subst this; exact h1
/-- sorted and each once is each put in its place -/
theorem once_putAll (h : STO lt) (l : List α) : dedup (sortBy lt l) = putAll lt l :=
  rises_uniq h _ _ (dedup_rises h _ (sortBy_pairwise h l)) (putAll_rises h l) fun x => by rw [dedup_mem, sortBy_mem, putAll_mem h]
end
end Go.Proofs.Ytcjkechemjdboaa
