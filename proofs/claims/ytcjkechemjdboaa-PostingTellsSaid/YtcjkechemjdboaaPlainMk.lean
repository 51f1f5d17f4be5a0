/- What postings of a graph's words are: gathered word by word, or by definition. No program in sight. -/
import Derived.Test.YtcjkechemjdboaaOwn5
import Derived.Test.YtcjkechemjdboaaSortT
namespace Go.Proofs.Ytcjkechemjdboaa
open Go Go.RowKit
/-- a place has a word: all such, in their order -/
abbrev Occ := Int × ByteArray
def occR (v : Nat) (l : List ByteArray) : List Occ := l.map fun s => ((v : Int), s)
def occK (W : List (List ByteArray)) (k : Nat) : List Occ := (List.range k).flatMap fun v => occR v (nth W v)
theorem occK_step (W : List (List ByteArray)) (k : Nat) : occK W (k + 1) = occK W k ++ occR k (nth W k) := by
  unfold occK; rw [List.range_succ, List.flatMap_append]; simp
theorem occR_len (v : Nat) (l : List ByteArray) : (occR v l).length = l.length := by simp [occR]
theorem occR_take (v : Nat) (l : List ByteArray) (j : Nat) (h : j < l.length) : occR v (l.take (j + 1)) = occR v (l.take j) ++ [((v : Int), nth l j)] := by
  unfold occR; rw [take_succ_nth l j h, List.map_append]; rfl
theorem occK_len {W : List (List ByteArray)} (h : ∀ l ∈ W, l.length ≤ 8) : ∀ k, k ≤ W.length → (occK W k).length ≤ 8 * k
  | 0, _ => by simp [occK]
  | k + 1, hk => by
    rw [occK_step, List.length_append, occR_len]
    have := occK_len h k (by omega)
    have h2 := h (nth W k) (by rw [nth_eq (by omega)]; exact List.getElem_mem _)
    omega
theorem occK_mem {W : List (List ByteArray)} {s : ByteArray} : (∃ x ∈ occK W W.length, x.2 = s) ↔ s ∈ W.flatten := by
  unfold occK occR
  simp only [List.mem_flatMap, List.mem_range, List.mem_map, List.mem_flatten]
  constructor
  · rintro ⟨x, ⟨v, hv, t, ht, rfl⟩, rfl⟩
    exact ⟨nth W v, by rw [nth_eq hv]; exact List.getElem_mem _, ht⟩
  · rintro ⟨l, hl, hs⟩
    obtain ⟨v, hv, rfl⟩ := List.mem_iff_getElem.1 hl
    exact ⟨((v : Int), s), ⟨v, hv, s, by rw [nth_eq hv]; exact hs, rfl⟩, rfl⟩
/-- a word's places -/
def plc (O : List Occ) (s : ByteArray) : List Int := (O.filter fun x => decide (x.2 = s)).map (·.1)
theorem plc_snoc (O : List Occ) (v : Int) (t s : ByteArray) : plc (O ++ [(v, t)]) s = if t = s then plc O s ++ [v] else plc O s := by
  unfold plc
  rw [List.filter_append, List.filter_cons]
  by_cases h : t = s <;> simp [h]
theorem plc_len (O : List Occ) (s : ByteArray) : (plc O s).length ≤ O.length := by unfold plc; rw [List.length_map]; exact List.length_filter_le _ _
theorem plc_nil {O : List Occ} {s : ByteArray} : plc O s = [] ↔ ∀ x ∈ O, x.2 ≠ s := by
  unfold plc
  rw [List.map_eq_nil_iff, List.filter_eq_nil_iff]
  simp
theorem nodup_ne {α : Type} {l : List α} (h : l.Nodup) {i j : Nat} (hi : i < l.length) (hj : j < l.length) (hne : i ≠ j) : l[i] ≠ l[j] := by
  rcases Nat.lt_or_gt_of_ne hne with h1 | h1
  · exact List.pairwise_iff_getElem.1 h i j hi hj h1
  · exact (List.pairwise_iff_getElem.1 h j i hj hi h1).symm
/-- what is gathered of the occurrences -/
structure Gath (O : List Occ) (A : List Po) : Prop where
  nodup : (A.map (·.1)).Nodup
  keys : ∀ s, s ∈ A.map (·.1) ↔ ∃ x ∈ O, x.2 = s
  at_ : ∀ p ∈ A, p.2 = plc O p.1
theorem Gath.nil : Gath [] [] := ⟨List.nodup_nil, fun s => by simp, fun p hp => by cases hp⟩
theorem Gath.new {O : List Occ} {A : List Po} (h : Gath O A) {v : Int} {s : ByteArray} (hs : s ∉ A.map (·.1)) : Gath (O ++ [(v, s)]) (A ++ [(s, [v])]) := by
  have hno : ∀ x ∈ O, x.2 ≠ s := fun x hx e => hs ((h.keys s).2 ⟨x, hx, e⟩)
  refine ⟨?_, fun t => ?_, fun p hp => ?_⟩
  · rw [List.map_append, List.nodup_append]
    refine ⟨h.nodup, by simp, fun a ha b hb => ?_⟩
    simp at hb; subst hb; rintro rfl; exact hs ha
  · rw [List.map_append, List.mem_append, h.keys t]
    constructor
    · rintro (⟨x, hx, e⟩ | ht)
      · exact ⟨x, List.mem_append_left _ hx, e⟩
      · simp at ht; subst ht; exact ⟨(v, t), by simp, rfl⟩
    · rintro ⟨x, hx, e⟩
      rcases List.mem_append.1 hx with hx | hx
      · exact .inl ⟨x, hx, e⟩
      · rw [List.mem_singleton] at hx; subst hx; right; simp [e.symm]
  · rw [plc_snoc]
    rcases List.mem_append.1 hp with hp1 | hp1
    · have hne : s ≠ p.1 := fun e => hs (by rw [e]; exact List.mem_map_of_mem hp1)
      rw [if_neg hne]; exact h.at_ p hp1
    · rw [List.mem_singleton] at hp1; subst hp1
      rw [if_pos rfl, plc_nil.2 hno]; rfl
theorem Gath.more {O : List Occ} {A : List Po} (h : Gath O A) {v : Int} {r : Nat} (hr : r < A.length) : Gath (O ++ [(v, (nth A r).1)]) (A.set r ((nth A r).1, (nth A r).2 ++ [v])) := by
  have hmap : (A.set r ((nth A r).1, (nth A r).2 ++ [v])).map (·.1) = A.map (·.1) := by
    rw [List.map_set]
    have e : (nth A r).1 = (A.map (·.1))[r]'(by simpa using hr) := by rw [nth_eq hr, List.getElem_map]
    show (A.map (·.1)).set r (nth A r).1 = _
    rw [e, List.set_getElem_self]
  refine ⟨by rw [hmap]; exact h.nodup, fun t => ?_, fun p hp => ?_⟩
  · rw [hmap, h.keys t]
    constructor
    · rintro ⟨x, hx, e⟩; exact ⟨x, List.mem_append_left _ hx, e⟩
    · rintro ⟨x, hx, e⟩
      rcases List.mem_append.1 hx with hx | hx
      · exact ⟨x, hx, e⟩
      · rw [List.mem_singleton] at hx; subst hx
        have : t ∈ A.map (·.1) := by rw [← e, nth_eq hr]; exact List.mem_map_of_mem (List.getElem_mem _)
        exact (h.keys t).1 this
  · rw [plc_snoc]
    obtain ⟨i, hi, rfl⟩ := List.mem_iff_getElem.1 hp
    rw [List.length_set] at hi
    rw [List.getElem_set]
    by_cases e : r = i
    · rw [if_pos e, if_pos rfl]
      rw [← h.at_ (nth A r) (by rw [nth_eq hr]; exact List.getElem_mem _)]
    · rw [if_neg e]
      have hne : (nth A r).1 ≠ A[i].1 := by
        rw [nth_eq hr]
        intro he
        exact nodup_ne h.nodup (i := r) (j := i) (by simpa using hr) (by simpa using hi) e (by simpa using he)
      rw [if_neg hne]; exact h.at_ _ (List.getElem_mem _)
/-- the postings of a graph's words -/
def makeP (W : List (List ByteArray)) : List Po := (putAll sLess W.flatten).map fun s => (s, plc (occK W W.length) s)
theorem Gath.sorted {W : List (List ByteArray)} {A : List Po} (h : Gath (occK W W.length) A) : sortT (A.map (·.1)) = putAll sLess W.flatten :=
  sortT_put h.nodup fun s => by rw [h.keys s, occK_mem]
theorem Gath.find {O : List Occ} {A : List Po} (h : Gath O A) {s : ByteArray} (hs : s ∈ A.map (·.1)) : ∃ r, r < A.length ∧ (nth A r).1 = s ∧ (nth A r).2 = plc O s := by
  obtain ⟨p, hp, rfl⟩ := List.mem_map.1 hs
  obtain ⟨r, hr, rfl⟩ := List.mem_iff_getElem.1 hp
  refine ⟨r, hr, by rw [nth_eq hr], ?_⟩
  rw [nth_eq hr]; exact h.at_ _ hp
theorem nodup_len {α : Type} [DecidableEq α] : ∀ {l m : List α}, l.Nodup → (∀ x ∈ l, x ∈ m) → l.length ≤ m.length
  | [], _, _, _ => by simp
  | a :: l, m, h, hm => by
    obtain ⟨h1, h2⟩ := List.nodup_cons.1 h
    have ha := hm a (by simp)
    have ih := nodup_len (m := m.erase a) h2 fun x hx => (List.mem_erase_of_ne (fun e => h1 (by rw [← e]; exact hx))).2 (hm x (by simp [hx]))
    rw [List.length_erase_of_mem ha] at ih
    have := List.length_pos_of_mem ha
    rw [List.length_cons]; omega
theorem Gath.len {O : List Occ} {A : List Po} (h : Gath O A) : A.length ≤ O.length := by
  have h1 := nodup_len (m := O.map (·.2)) h.nodup fun s hs => by
    obtain ⟨x, hx, e⟩ := (h.keys s).1 hs
    exact e ▸ List.mem_map_of_mem hx
  simpa using h1
end Go.Proofs.Ytcjkechemjdboaa
