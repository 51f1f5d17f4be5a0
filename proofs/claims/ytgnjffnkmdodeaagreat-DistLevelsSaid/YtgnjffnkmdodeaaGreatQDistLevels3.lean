/- Texts of this claim, one behind the other: PlainA, PlainB, PlainP8, PlainR2, PlainN, Dst8a, Dst8b, Dst8c, Dst8d, Dst8e, Dst8f, Dst8g, Dst9a, Eq4, Has4, PlainQ, PlainP9, Dst9b, Dst9c, Ex4, Ex8, Told4, Row4r, Half4r, Chk4r, Out4r, Edg4. -/
import Derived.Deep.LoopGhost
import Derived.Test.YtgnjffnkmdodeaaGreatQDistLevels2
/- The next level's places, gone through in their order, each once. -/
namespace Go.Proofs.YtgnjffnkmdodeaaGreat
open Go Go.RowKit
/-- one place that a way leads to -/
def ah1 (X : List Int) (l : List Int) (w : Int) : List Int := if nth X w.toNat < 0 ∧ w ∉ l then l ++ [w] else l
def ahR (X : List Int) (m : List Int) (l : List Int) : List Int := m.foldl (ah1 X) l
def ahF (nx : Nat → List Int) (X : List Int) (F : List Int) (l : List Int) : List Int := F.foldl (fun l v => ahR X (nx v.toNat) l) l
theorem ahR_take {X m l : List Int} {j : Nat} (h : j < m.length) : ahR X (m.take (j + 1)) l = ah1 X (ahR X (m.take j) l) (nth m j) := by
  unfold ahR; rw [take_succ_nth m j h, List.foldl_append]; rfl
theorem ahF_take {nx : Nat → List Int} {X F l : List Int} {j : Nat} (h : j < F.length) : ahF nx X (F.take (j + 1)) l = ahR X (nx (nth F j).toNat) (ahF nx X (F.take j) l) := by
  unfold ahF; rw [take_succ_nth F j h, List.foldl_append]; rfl
theorem ah1_mem {X l : List Int} {w x : Int} : x ∈ ah1 X l w ↔ x ∈ l ∨ (x = w ∧ nth X w.toNat < 0) := by
  unfold ah1
  split
  · rename_i h
    rw [List.mem_append, List.mem_singleton]
    constructor
    · rintro (h1 | h1)
      · exact .inl h1
      · exact .inr ⟨h1, h.1⟩
    · rintro (h1 | h1)
      · exact .inl h1
      · exact .inr h1.1
  · rename_i h
    constructor
    · exact .inl
    · rintro (h1 | ⟨h1, h2⟩)
      · exact h1
      · subst h1
        by_cases h3 : x ∈ l
        · exact h3
        · exact absurd ⟨h2, h3⟩ h
theorem ahR_mem {X : List Int} {x : Int} : ∀ {m l : List Int}, x ∈ ahR X m l ↔ x ∈ l ∨ (x ∈ m ∧ nth X x.toNat < 0)
  | [], l => by simp [ahR]
  | a :: m, l => by
    have := ahR_mem (X := X) (x := x) (m := m) (l := ah1 X l a)
    unfold ahR at *
    rw [List.foldl_cons, this, ah1_mem, List.mem_cons]
    constructor
    · rintro ((h | ⟨rfl, h⟩) | h)
      · exact .inl h
      · exact .inr ⟨.inl rfl, h⟩
      · exact .inr ⟨.inr h.1, h.2⟩
    · rintro (h | ⟨rfl | h, h2⟩)
      · exact .inl (.inl h)
      · exact .inl (.inr ⟨rfl, h2⟩)
      · exact .inr ⟨h, h2⟩
theorem ahF_mem {nx : Nat → List Int} {X : List Int} {x : Int} : ∀ {F l : List Int}, x ∈ ahF nx X F l ↔ x ∈ l ∨ (∃ v ∈ F, x ∈ nx v.toNat ∧ nth X x.toNat < 0)
  | [], l => by simp [ahF]
  | a :: F, l => by
    have := ahF_mem (nx := nx) (X := X) (x := x) (F := F) (l := ahR X (nx a.toNat) l)
    unfold ahF at *
    rw [List.foldl_cons, this, ahR_mem]
    constructor
    · rintro ((h | h) | ⟨v, h1, h2⟩)
      · exact .inl h
      · exact .inr ⟨a, List.mem_cons_self .., h⟩
      · exact .inr ⟨v, List.mem_cons_of_mem _ h1, h2⟩
    · rintro (h | ⟨v, h1, h2⟩)
      · exact .inl (.inl h)
      · rcases List.mem_cons.1 h1 with rfl | h1
        · exact .inl (.inr h2)
        · exact .inr ⟨v, h1, h2⟩
theorem ah1_nodup {X l : List Int} {w : Int} (h : l.Nodup) : (ah1 X l w).Nodup := by
  unfold ah1
  split
  · rename_i h1
    rw [List.nodup_append]
    exact ⟨h, by simp, fun a ha b hb e => by rw [List.mem_singleton] at hb; subst hb; subst e; exact h1.2 ha⟩
  · exact h
theorem ahR_nodup {X : List Int} : ∀ {m l : List Int}, l.Nodup → (ahR X m l).Nodup
  | [], _, h => h
  | a :: m, l, h => by
    have := ahR_nodup (X := X) (m := m) (ah1_nodup (X := X) (w := a) h)
    unfold ahR at *
    exact this
theorem ahF_nodup {nx : Nat → List Int} {X : List Int} : ∀ {F l : List Int}, l.Nodup → (ahF nx X F l).Nodup
  | [], _, h => h
  | a :: F, l, h => by
    have := ahF_nodup (nx := nx) (X := X) (F := F) (ahR_nodup (X := X) (m := nx a.toNat) h)
    unfold ahF at *
    exact this
/-- numbers of places, each once: no more than places -/
theorem nodup_small {l : List Int} {n : Nat} (h : l.Nodup) (hb : ∀ x ∈ l, 0 ≤ x ∧ x < n) : l.length ≤ n := by
  have := nodup_len (m := (List.range n).map fun v : Nat => (v : Int)) h fun x hx => by
    obtain ⟨h1, h2⟩ := hb x hx
    rw [List.mem_map]
    exact ⟨x.toNat, List.mem_range.2 (by omega), by omega⟩
  simpa using this
/-- one level's places -/
def IsFront (f : Nat → Int) (n : Nat) (k : Int) (F : List Int) : Prop := F.Nodup ∧ ∀ x, x ∈ F ↔ 0 ≤ x ∧ x < n ∧ f x.toNat = k
/-- rows lead to places -/
def InN (nx : Nat → List Int) (n : Nat) : Prop := ∀ u, u < n → ∀ x ∈ nx u, 0 ≤ x ∧ x < n
theorem front_next {nx : Nat → List Int} {n s : Nat} (hs : s < n) (hin : InN nx n) {k : Nat} {F X : List Int} (hF : IsFront (lev nx n s) n k F)
    (hX : ∀ v, v < n → (nth X v < 0 ↔ ¬ (0 ≤ lev nx n s v ∧ lev nx n s v ≤ k))) : IsFront (lev nx n s) n (k + 1 : Nat) (ahF nx X F []) := by
  refine ⟨ahF_nodup List.nodup_nil, fun x => ?_⟩
  rw [ahF_mem]
  have L := lev_ok nx n s hs
  constructor
  · rintro (h | ⟨v, h1, h2, h3⟩)
    · cases h
    · obtain ⟨g1, g2, g3⟩ := (hF.2 v).1 h1
      obtain ⟨g4, g5⟩ := hin v.toNat (by omega) x h2
      have g6 := (hX x.toNat (by omega)).1 h3
      have g7 := L.next v.toNat x.toNat (by omega) (by omega) (by rw [Int.toNat_of_nonneg g4]; exact h2) (by omega)
      exact ⟨g4, g5, by omega⟩
  · rintro ⟨h1, h2, h3⟩
    obtain ⟨u, hu, g1, g2⟩ := L.pred x.toNat (by omega) (by omega)
    rw [Int.toNat_of_nonneg h1] at g2
    refine .inr ⟨(u : Int), (hF.2 u).2 ⟨by omega, by omega, by rw [Int.toNat_natCast]; omega⟩, by rw [Int.toNat_natCast]; exact g2, (hX x.toNat (by omega)).2 (by omega)⟩
theorem front_0 {nx : Nat → List Int} {n s : Nat} (hs : s < n) : IsFront (lev nx n s) n 0 [(s : Int)] := by
  refine ⟨by simp, fun x => ?_⟩
  rw [List.mem_singleton]
  have L := lev_ok nx n s hs
  constructor
  · rintro rfl
    exact ⟨by omega, by omega, by rw [Int.toNat_natCast]; exact (L.zero s hs).2 rfl⟩
  · rintro ⟨h1, h2, h3⟩
    have := (L.zero x.toNat (by omega)).1 h3
    omega
/-- levels up to k, as a row -/
def cutL (f : Nat → Int) (n : Nat) (k : Int) : List Int := (List.range n).map fun v => cut f k v
theorem cutL_len (f : Nat → Int) (n : Nat) (k : Int) : (cutL f n k).length = n := by simp [cutL]
theorem cutL_nth {f : Nat → Int} {n : Nat} {k : Int} {v : Nat} (hv : v < n) : nth (cutL f n k) v = cut f k v := by
  rw [nth_eq (by rw [cutL_len]; exact hv)]; simp [cutL]
/-- the level's places set -/
def tkR (c : Int) (m : List Int) (X : List Int) : List Int := m.foldl (fun X w => X.set w.toNat c) X
theorem tkR_take {c : Int} {X m : List Int} {j : Nat} (h : j < m.length) : tkR c (m.take (j + 1)) X = (tkR c (m.take j) X).set (nth m j).toNat c := by
  unfold tkR; rw [take_succ_nth m j h, List.foldl_append]; rfl
theorem tkR_len {c : Int} : ∀ {m X : List Int}, (tkR c m X).length = X.length
  | [], X => rfl
  | a :: m, X => by
    have := tkR_len (c := c) (m := m) (X := X.set a.toNat c)
    unfold tkR at *
    rw [List.foldl_cons, this, List.length_set]
theorem tkR_nth {c : Int} {v : Nat} : ∀ {m X : List Int}, (∀ x ∈ m, 0 ≤ x ∧ x < X.length) → nth (tkR c m X) v = if (v : Int) ∈ m then c else nth X v
  | [], X, _ => by simp [tkR]
  | a :: m, X, h => by
    have h0 := h a (List.mem_cons_self ..)
    have := tkR_nth (c := c) (v := v) (m := m) (X := X.set a.toNat c) (fun x hx => by rw [List.length_set]; exact h x (List.mem_cons_of_mem _ hx))
    unfold tkR at *
    rw [List.foldl_cons, this, nth_set _ _ _ _ (by omega)]
    simp only [List.mem_cons]
    by_cases h1 : (v : Int) ∈ m
    · simp [h1]
    · by_cases h2 : v = a.toNat
      · rw [if_neg h1, if_pos h2, if_pos (.inl (by omega))]
      · rw [if_neg h1, if_neg h2, if_neg]
        rintro (h3 | h3)
        · omega
        · exact h1 h3
theorem take_cut {f : Nat → Int} {n : Nat} {k : Nat} {m : List Int} (hm : IsFront f n (k + 1 : Nat) m) : tkR ((k : Int) + 1) m (cutL f n k) = cutL f n (k + 1 : Nat) := by
  apply List.ext_getElem
  · rw [tkR_len, cutL_len, cutL_len]
  · intro v h1 h2
    have hv : v < n := by rw [cutL_len] at h2; exact h2
    rw [← nth_eq h1, ← nth_eq h2, cutL_nth hv, tkR_nth (fun x hx => by have := (hm.2 x).1 hx; rw [cutL_len]; omega), cutL_nth hv]
    have h3 := hm.2 (v : Int)
    rw [Int.toNat_natCast] at h3
    unfold cut
    by_cases h4 : (v : Int) ∈ m
    · have := h3.1 h4
      rw [if_pos h4, if_pos (by omega)]; omega
    · have : ¬ f v = ((k + 1 : Nat) : Int) := fun e => h4 (h3.2 ⟨by omega, by omega, e⟩)
      rw [if_neg h4]
      by_cases h5 : 0 ≤ f v ∧ f v ≤ k
      · rw [if_pos h5, if_pos (by omega)]
      · rw [if_neg h5, if_neg (by omega)]
theorem cut_0 {nx : Nat → List Int} {n s : Nat} (hs : s < n) : cutL (lev nx n s) n 0 = bf0 n s := by
  apply List.ext_getElem
  · rw [cutL_len]; simp [bf0]
  · intro v h1 h2
    have hv : v < n := by rw [cutL_len] at h1; exact h1
    rw [← nth_eq h1, ← nth_eq h2, cutL_nth hv, bf0_nth hs v hv]
    have L := (lev_ok nx n s hs).zero v hv
    unfold cut
    by_cases h : v = s
    · rw [if_pos h, if_pos (by have := L.2 h; omega)]; exact L.2 h
    · have : ¬ lev nx n s v = 0 := fun e => h (L.1 e)
      rw [if_neg h, if_neg (by omega)]
theorem cut_lt {f : Nat → Int} {k : Int} {v : Nat} : cut f k v < 0 ↔ ¬ (0 ≤ f v ∧ f v ≤ k) := by
  have := cut_ge (f := f) (k := k) (v := v); omega
end Go.Proofs.YtgnjffnkmdodeaaGreat
/- The shortest walk over places that both searches have; how both searches go on. -/
namespace Go.Proofs.YtgnjffnkmdodeaaGreat
open Go Go.RowKit
def best1 (X Y : List Int) (s : Int × Bool) (v : Nat) : Int × Bool := if 0 ≤ nth X v ∧ 0 ≤ nth Y v ∧ (s.2 = false ∨ nth X v + nth Y v < s.1) then (nth X v + nth Y v, true) else s
def bestR (X Y : List Int) (k : Nat) : Int × Bool := (List.range k).foldl (best1 X Y) (0, false)
theorem bestR_succ (X Y : List Int) (k : Nat) : bestR X Y (k + 1) = best1 X Y (bestR X Y k) k := by
  unfold bestR; rw [List.range_succ, List.foldl_append]; rfl
theorem bestR_is (X Y : List Int) : ∀ k, ((bestR X Y k).2 = false → (bestR X Y k).1 = 0 ∧ ∀ v, v < k → ¬ (0 ≤ nth X v ∧ 0 ≤ nth Y v)) ∧
    ((bestR X Y k).2 = true → (∃ v, v < k ∧ 0 ≤ nth X v ∧ 0 ≤ nth Y v ∧ (bestR X Y k).1 = nth X v + nth Y v) ∧ ∀ v, v < k → 0 ≤ nth X v → 0 ≤ nth Y v → (bestR X Y k).1 ≤ nth X v + nth Y v)
  | 0 => ⟨fun _ => ⟨rfl, fun v hv => by omega⟩, fun h => by cases h⟩
  | k + 1 => by
    obtain ⟨h1, h2⟩ := bestR_is X Y k
    rw [bestR_succ]
    generalize bestR X Y k = s at *
    obtain ⟨m, b⟩ := s
    unfold best1
    by_cases hc : 0 ≤ nth X k ∧ 0 ≤ nth Y k ∧ (b = false ∨ nth X k + nth Y k < m)
    · rw [if_pos hc]
      refine ⟨fun h => by (simp at h), fun _ => ⟨⟨k, by omega, hc.1, hc.2.1, rfl⟩, fun v hv g1 g2 => ?_⟩⟩
      by_cases hv' : v = k
      · subst hv'; exact Int.le_refl _
      · cases b with
        | false => exact absurd ⟨g1, g2⟩ ((h1 rfl).2 v (by omega))
        | true =>
          have := (h2 rfl).2 v (by omega) g1 g2
          rcases hc.2.2 with h | h
          · cases h
          · simp only at this ⊢; omega
    · rw [if_neg hc]
      cases b with
      | false =>
        refine ⟨fun _ => ⟨(h1 rfl).1, fun v hv g => ?_⟩, fun h => by cases h⟩
        by_cases hv' : v = k
        · subst hv'; exact hc ⟨g.1, g.2, .inl rfl⟩
        · exact (h1 rfl).2 v (by omega) g
      | true =>
        refine ⟨fun h => (by cases h), fun _ => ⟨?_, fun v hv g1 g2 => ?_⟩⟩
        · obtain ⟨v, hv, g⟩ := (h2 rfl).1
          exact ⟨v, by omega, g⟩
        · by_cases hv' : v = k
          · subst hv'
            apply Classical.byContradiction
            intro hlt
            exact hc ⟨g1, g2, .inr (by simp only at hlt ⊢; omega)⟩
          · exact (h2 rfl).2 v (by omega) g1 g2
section
variable {nx nb : Nat → List Int} {n s t : Nat} (h : Rev nx nb n) (hs : s < n) (ht : t < n)
include h hs ht in
/-- what both searches have when they have taken k steps -/
theorem best_lev {k : Nat} (hk : 0 ≤ lev nx n s t → 2 * (k:Int) ≤ lev nx n s t + 1) :
    (meetB n (lev nx n s) (lev nb n t) k = true → bestR (cutL (lev nx n s) n k) (cutL (lev nb n t) n k) n = (lev nx n s t, true)) ∧
    (meetB n (lev nx n s) (lev nb n t) k = false → bestR (cutL (lev nx n s) n k) (cutL (lev nb n t) n k) n = (0, false)) := by
  obtain ⟨h1, h2⟩ := bestR_is (cutL (lev nx n s) n k) (cutL (lev nb n t) n k) n
  generalize hb : bestR (cutL (lev nx n s) n k) (cutL (lev nb n t) n k) n = b at *
  obtain ⟨m, o⟩ := b
  constructor
  · intro hm
    obtain ⟨g1, g2⟩ := (meet_lev h hs ht).1 hm
    have hex : ∃ v, v < n ∧ lev nx n s v ≤ k ∧ 0 ≤ lev nx n s v ∧ lev nb n t v ≤ k ∧ 0 ≤ lev nb n t v ∧ lev nx n s v + lev nb n t v = lev nx n s t := by
      by_cases h3 : lev nx n s t ≤ k
      · obtain ⟨v, hv, e1, e2⟩ := lev_mid h hs ht (j := (lev nx n s t).toNat) g1 (by omega)
        exact ⟨v, hv, by omega, by omega, by omega, by omega, by omega⟩
      · obtain ⟨v, hv, e1, e2⟩ := lev_mid h hs ht (j := k) g1 (by omega)
        exact ⟨v, hv, by omega, by omega, by omega, by omega, by omega⟩
    obtain ⟨v, hv, e1, e2, e3, e4, e5⟩ := hex
    have c1 : nth (cutL (lev nx n s) n k) v = lev nx n s v := by rw [cutL_nth hv]; unfold cut; rw [if_pos ⟨e2, e1⟩]
    have c2 : nth (cutL (lev nb n t) n k) v = lev nb n t v := by rw [cutL_nth hv]; unfold cut; rw [if_pos ⟨e4, e3⟩]
    cases o with
    | false => exact absurd ⟨by rw [c1]; exact e2, by rw [c2]; exact e4⟩ ((h1 rfl).2 v hv)
    | true =>
      obtain ⟨⟨u, hu, f1, f2, f3⟩, f4⟩ := h2 rfl
      have f5 := f4 v hv (by rw [c1]; exact e2) (by rw [c2]; exact e4)
      rw [c1, c2] at f5
      rw [cutL_nth hu] at f1 f3
      rw [cutL_nth hu] at f2 f3
      have f6 := cut_eq f1
      have f7 := cut_eq f2
      have f8 := lev_over h hs ht hu (by rw [← f6]; exact f1) (by rw [← f7]; exact f2)
      simp only at f3 f5
      have : m = lev nx n s t := by omega
      rw [this]
  · intro hm
    cases o with
    | false => rw [show m = 0 from (h1 rfl).1]
    | true =>
      obtain ⟨⟨u, hu, f1, f2, _⟩, _⟩ := h2 rfl
      rw [cutL_nth hu] at f1
      rw [cutL_nth hu] at f2
      have f3 := cut_ge.1 f1
      have f4 := cut_ge.1 f2
      rw [meetB_iff.2 ⟨u, hu, f3.1, f3.2, f4.1, f4.2⟩] at hm
      cases hm
theorem front_has {f : Nat → Int} {k : Int} {F : List Int} (hF : IsFront f n k F) : (hasL n f k = true ↔ 0 < F.length) := by
  rw [hasL_iff]
  constructor
  · rintro ⟨v, hv, e⟩
    exact List.length_pos_of_mem ((hF.2 (v : Int)).2 ⟨by omega, by omega, by rw [Int.toNat_natCast]; exact e⟩)
  · intro h
    obtain ⟨x, hx⟩ := List.exists_mem_of_length_pos h
    obtain ⟨h1, h2, h3⟩ := (hF.2 x).1 hx
    exact ⟨x.toNat, by omega, h3⟩
end
/-- how far, and whether -/
def distN (d : Int) : Int := if 0 ≤ d then d else 0
def distB (d : Int) : Bool := decide (0 ≤ d)
theorem stepsK_meet {n m k : Nat} {f g : Nat → Int} (h : meetB n f g k = true) : stepsK n f g (m + 1) k = k := by unfold stepsK; rw [if_pos h]
theorem stepsK_end {n m k : Nat} {f g : Nat → Int} (h : meetB n f g k = false) (h2 : ¬ (hasL n f (k + 1) = true ∧ hasL n g (k + 1) = true)) : stepsK n f g (m + 1) k = k := by
  unfold stepsK; rw [if_neg (by rw [h]; simp), if_neg h2]
theorem stepsK_go {n m k : Nat} {f g : Nat → Int} (h : meetB n f g k = false) (h2 : hasL n f (k + 1) = true ∧ hasL n g (k + 1) = true) : stepsK n f g (m + 1) k = stepsK n f g m (k + 1) := by
  conv => lhs; unfold stepsK
  rw [if_neg (by rw [h]; simp), if_pos h2]
end Go.Proofs.YtgnjffnkmdodeaaGreat
/- The path from place to place, in plain words. -/
namespace Go.Proofs.YtgnjffnkmdodeaaGreat
open Go Go.RowKit
section
variable {nx nb : Nat → List Int} {n t : Nat} (h : Rev nx nb n) (ht : t < n) (hin : InN nx n)
include h ht hin in
/-- a place that is a step nearer is there -/
theorem stepL_is {u k : Nat} (hu : u < n) (hk : lev nb n t u = (k + 1 : Nat)) : ∃ x, (nx u).find? (fun x => lev nb n t x.toNat == lev nb n t u - 1) = some x ∧ x ∈ nx u ∧ 0 ≤ x ∧ x < n ∧ stepL nx (lev nb n t) u = x.toNat ∧ lev nb n t x.toNat = k := by
  obtain ⟨y, hy, h1, h2⟩ := (lev_ok nb n t ht).pred u hu (by omega)
  have h3 := (h u y hu hy).2 h2
  cases hf : (nx u).find? (fun x => lev nb n t x.toNat == lev nb n t u - 1) with
  | none =>
    have := List.find?_eq_none.1 hf (y : Int) h3
    rw [Int.toNat_natCast] at this
    exact absurd (by simpa using h1) this
  | some x =>
    have hx := List.mem_of_find?_eq_some hf
    have hp := List.find?_some hf
    have hb := hin u hu x hx
    refine ⟨x, rfl, hx, hb.1, hb.2, ?_, ?_⟩
    · unfold stepL; rw [hf]; rfl
    · have : lev nb n t x.toNat = lev nb n t u - 1 := by simpa using hp
      omega
include h ht hin in
theorem pathL_at : ∀ (k u : Nat), u < n → lev nb n t u = k → ∀ i, i ≤ k → nth (pathL nx (lev nb n t) k u) i < n ∧ lev nb n t (nth (pathL nx (lev nb n t) k u) i) = ((k - i : Nat) : Int) ∧
    (pathL nx (lev nb n t) k u).drop i = pathL nx (lev nb n t) (k - i) (nth (pathL nx (lev nb n t) k u) i)
  | 0, u, hu, hk, i, hi => by
    obtain rfl : i = 0 := by omega
    exact ⟨hu, hk, rfl⟩
  | k + 1, u, hu, hk, 0, _ => ⟨hu, hk, rfl⟩
  | k + 1, u, hu, hk, i + 1, hi => by
    obtain ⟨x, _, _, h2, h3, h4, h5⟩ := stepL_is h ht hin hu hk
    have := pathL_at k x.toNat (by omega) h5 i (by omega)
    rw [pathL, h4]
    rw [show k + 1 - (i + 1) = k - i by omega]
    exact this
include h ht hin in
theorem pathL_next {k u : Nat} (hu : u < n) (hk : lev nb n t u = k) {i : Nat} (hi : i < k) : ((nth (pathL nx (lev nb n t) k u) (i + 1) : Nat) : Int) ∈ nx (nth (pathL nx (lev nb n t) k u) i) ∧
    nth (pathL nx (lev nb n t) k u) (i + 1) = stepL nx (lev nb n t) (nth (pathL nx (lev nb n t) k u) i) := by
  obtain ⟨h1, h2, h3⟩ := pathL_at h ht hin k u hu hk i (by omega)
  obtain ⟨j, hj⟩ : ∃ j, k - i = j + 1 := ⟨k - i - 1, by omega⟩
  rw [hj] at h2 h3
  obtain ⟨x, _, g1, g2, g3, g4, g5⟩ := stepL_is h ht hin h1 h2
  have e : nth (pathL nx (lev nb n t) k u) (i + 1) = stepL nx (lev nb n t) (nth (pathL nx (lev nb n t) k u) i) := by
    have e1 : nth ((pathL nx (lev nb n t) k u).drop i) 1 = nth (pathL nx (lev nb n t) k u) (i + 1) := by
      unfold nth; rw [List.getD_eq_getElem?_getD, List.getD_eq_getElem?_getD, List.getElem?_drop]
    rw [← e1, h3]
    cases j with
    | zero => rfl
    | succ j => rfl
  refine ⟨?_, e⟩
  rw [e, g4, Int.toNat_of_nonneg g2]
  exact g1
include h ht hin in
theorem pathL_last {k u : Nat} (hu : u < n) (hk : lev nb n t u = k) : nth (pathL nx (lev nb n t) k u) k = t := by
  obtain ⟨h1, h2, _⟩ := pathL_at h ht hin k u hu hk k (Nat.le_refl _)
  exact ((lev_ok nb n t ht).zero _ h1).1 (by rw [h2]; simp)
theorem pathL_first (nx : Nat → List Int) (g : Nat → Int) (k u : Nat) : nth (pathL nx g k u) 0 = u := by cases k <;> rfl
include h ht hin in
theorem pathL_nodup {k u : Nat} (hu : u < n) (hk : lev nb n t u = k) : (pathL nx (lev nb n t) k u).Nodup := by
  rw [List.nodup_iff_pairwise_ne, List.pairwise_iff_getElem]
  intro i j hi hj hij e
  rw [pathL_len] at hi hj
  have h1 := (pathL_at h ht hin k u hu hk i (by omega)).2.1
  have h2 := (pathL_at h ht hin k u hu hk j (by omega)).2.1
  rw [nth_eq (by rw [pathL_len]; omega)] at h1
  rw [nth_eq (by rw [pathL_len]; omega)] at h2
  rw [e] at h1
  omega
end
/-- what stands ahead of the first one that is found is less, and is not it -/
theorem find_less {l : List Int} (hl : Rises ltI l) {p : Int → Bool} {x y : Int} (hf : l.find? p = some x) (hy : y ∈ l) (hlt : y < x) : p y = false := by
  obtain ⟨hx, a, b, rfl, ha⟩ := List.find?_eq_some_iff_append.1 hf
  rcases List.mem_append.1 hy with h | h
  · have := ha y h; simpa using this
  · rcases List.mem_cons.1 h with rfl | h
    · omega
    · have h1 := (List.pairwise_append.1 hl).2.1
      have h2 := (List.pairwise_cons.1 h1).1 y h
      simp [ltI] at h2; omega
end Go.Proofs.YtgnjffnkmdodeaaGreat
/- Rows made of a graph are right, and tell the graph's edges; rows that are right tell the same, either way. No program in sight. -/
namespace Go.Proofs.YtgnjffnkmdodeaaGreat
open Go Go.RowKit
theorem nodup_le {α : Type} [DecidableEq α] : ∀ {l m : List α}, l.Nodup → (∀ x ∈ l, x ∈ m) → l.length ≤ m.length
  | [], _, _, _ => by simp
  | a :: l, m, h, hm => by
    obtain ⟨h1, h2⟩ := List.nodup_cons.1 h
    have ha := hm a (by simp)
    have ih := nodup_le (m := m.erase a) h2 fun x hx => (List.mem_erase_of_ne (fun e => h1 (by rw [← e]; exact hx))).2 (hm x (by simp [hx]))
    rw [List.length_erase_of_mem ha] at ih
    have := List.length_pos_of_mem ha
    rw [List.length_cons]; omega
theorem rises_pick {α : Type} {lt : α → α → Bool} {l m : List α} (h : Rises lt l) (hs : m.Sublist l) : Rises lt m := List.Pairwise.sublist hs h
section
variable {n : Nat} {A : List (Int × Int)}
/-- the k-th offset is the length of what comes ahead -/
theorem off_at (hb : ∀ x ∈ A, 0 ≤ x.1 ∧ x.1 < n) {k : Nat} (hk : k < n + 1) : (nth (offL n A) k).toNat = (placesK A k).length := by
  rw [offL_nth A hk, placesK_len A (fun x hx => (hb x hx).1) k]; omega
theorem to_split (h : Rises lessE A) (hb : ∀ x ∈ A, 0 ≤ x.1 ∧ x.1 < n) {k : Nat} (hk : k < n) : ∃ t, toL A = (placesK A k).map (·.2) ++ ((placeE A k).map (·.2) ++ t) := by
  have h1 : placesK A n = A := places_all h hb
  have h2 : ∀ d j, ∃ t, placesK A (j + d) = placesK A j ++ t := by
    intro d
    induction d with
    | zero => intro j; exact ⟨[], by simp⟩
    | succ d ih =>
      intro j
      obtain ⟨t, ht⟩ := ih j
      exact ⟨t ++ placeE A (j + d), by rw [← Nat.add_assoc, placesK_step, ht, List.append_assoc]⟩
  obtain ⟨t, ht⟩ := h2 (n - (k + 1)) (k + 1)
  rw [show k + 1 + (n - (k + 1)) = n by omega, h1] at ht
  refine ⟨t.map (·.2), ?_⟩
  unfold toL
  conv => lhs; rw [ht, placesK_step]
  simp
theorem row_of (h : Rises lessE A) (hb : ∀ x ∈ A, 0 ≤ x.1 ∧ x.1 < n) {k : Nat} (hk : k < n) : rowL (offL n A) (toL A) k = (placeE A k).map (·.2) := by
  obtain ⟨t, ht⟩ := to_split h hb hk
  unfold rowL
  rw [off_at hb (by omega), off_at hb (by omega), placesK_step, List.length_append, ht]
  rw [List.drop_left' (by simp), Nat.add_sub_cancel_left, List.take_left' (by simp)]
theorem rowX_of (h : Rises lessE A) (hb : ∀ x ∈ A, 0 ≤ x.1 ∧ x.1 < n) {k : Nat} (hk : k < n) : rowX (offL n A) (toL A) k = placeE A k := by
  unfold rowX
  rw [row_of h hb hk, List.map_map]
  conv => rhs; rw [← List.map_id (placeE A k)]
  refine List.map_congr_left fun x hx => ?_
  unfold placeE at hx
  rw [List.mem_filter, decide_eq_true_eq] at hx
  simp only [Function.comp, id]
  rw [← hx.2]
theorem pairs_of (h : Rises lessE A) (hb : ∀ x ∈ A, 0 ≤ x.1 ∧ x.1 < n) : pairs (offL n A) (toL A) = A := by
  have : ∀ k, k ≤ n → pairsK (offL n A) (toL A) k = placesK A k := by
    intro k
    induction k with
    | zero => intro _; rfl
    | succ k ih => intro hk; rw [pairsK_step, placesK_step, ih (by omega), rowX_of h hb (by omega)]
  unfold pairs
  rw [offL_len, Nat.add_sub_cancel, this n (Nat.le_refl _), places_all h hb]
theorem half_of (h : Rises lessE A) (hb : ∀ x ∈ A, 0 ≤ x.1 ∧ x.1 < n ∧ 0 ≤ x.2 ∧ x.2 < n) (h1 : 1 ≤ n) (h2 : n ≤ 200) (h3 : A.length ≤ 2000) : halfB (offL n A) (toL A) = true := by
  have hb' : ∀ x ∈ A, 0 ≤ x.1 ∧ x.1 < n := fun x hx => ⟨(hb x hx).1, (hb x hx).2.1⟩
  have e0 : nth (offL n A) 0 = 0 := by
    rw [offL_nth A (by omega), List.countP_eq_zero.2 fun x hx => by have := (hb x hx).1; simp; omega]; rfl
  have en : nth (offL n A) n = A.length := by
    rw [offL_nth A (by omega), List.countP_eq_length.2 fun x hx => by have := (hb x hx).2.1; simp; omega]
  have es : sortB (offL n A) = true := by
    unfold sortB
    rw [List.all_eq_true]
    intro v hv
    rw [List.mem_range, offL_len] at hv
    rw [offL_nth A (by omega), offL_nth A (by omega), count_step]
    simp; omega
  unfold halfB offB
  rw [offL_len, e0, Nat.add_sub_cancel, en, es]
  have : (toL A).length = A.length := by simp [toL]
  rw [this]
  rw [decide_eq_true (by omega : 2 ≤ n + 1), decide_eq_true (by omega : n + 1 ≤ 201), decide_eq_true h3]
  simp only [decide_true, Bool.true_and, List.all_eq_true]
  intro v hv
  rw [List.mem_range] at hv
  rw [okRow_iff, row_of h hb' hv]
  refine ⟨fun x hx => ?_, ?_⟩
  · obtain ⟨y, hy, rfl⟩ := List.mem_map.1 hx
    unfold placeE at hy
    exact (hb y (List.mem_filter.1 hy).1).2.2
  · rw [Rises, List.pairwise_map]
    refine (h.sublist (List.filter_sublist (p := fun x : Int × Int => decide (x.1 = (v:Int))))).imp_of_mem fun {a b} ha hb hab => ?_
    have ha := List.mem_filter.1 ha
    have hb := List.mem_filter.1 hb
    rw [decide_eq_true_eq] at ha hb
    rw [lessE_iff] at hab
    simp only [ltI, decide_eq_true_eq]
    omega
end
theorem mem_row_of {n : Nat} {A : List (Int × Int)} (h : Rises lessE A) (hb : ∀ x ∈ A, 0 ≤ x.1 ∧ x.1 < n) {k : Nat} (hk : k < n) {y : Int} : y ∈ rowL (offL n A) (toL A) k ↔ ((k:Int), y) ∈ A := by
  rw [row_of h hb hk, List.mem_map]
  unfold placeE
  constructor
  · rintro ⟨x, hx, rfl⟩
    rw [List.mem_filter, decide_eq_true_eq] at hx
    rw [← hx.2]; exact hx.1
  · intro hx; exact ⟨_, List.mem_filter.2 ⟨hx, by simp⟩, rfl⟩
theorem turnE_mem {E : List (Int × Int)} {x : Int × Int} : x ∈ turnE E ↔ swapE x ∈ E := by
  unfold turnE
  rw [putAll_mem stoE, List.mem_map]
  constructor
  · rintro ⟨y, hy, rfl⟩; exact hy
  · intro h; exact ⟨_, h, rfl⟩
theorem turnE_rises (E : List (Int × Int)) : Rises lessE (turnE E) := putAll_rises stoE _
/-- what is made is right -/
theorem check_of {n : Nat} {A : List (Int × Int)} (h : Rises lessE A) (hb : ∀ x ∈ A, 0 ≤ x.1 ∧ x.1 < n ∧ 0 ≤ x.2 ∧ x.2 < n) (h1 : 1 ≤ n) (h2 : n ≤ 200) (h3 : A.length ≤ 2000) :
    checkR (offL n A) (toL A) (offL n (turnE A)) (toL (turnE A)) = true := by
  have hb' : ∀ x ∈ A, 0 ≤ x.1 ∧ x.1 < n := fun x hx => ⟨(hb x hx).1, (hb x hx).2.1⟩
  have hbt : ∀ x ∈ turnE A, 0 ≤ x.1 ∧ x.1 < n ∧ 0 ≤ x.2 ∧ x.2 < n := fun x hx => by
    have := hb _ (turnE_mem.1 hx)
    unfold swapE at this
    simp only at this
    omega
  have hbt' : ∀ x ∈ turnE A, 0 ≤ x.1 ∧ x.1 < n := fun x hx => ⟨(hbt x hx).1, (hbt x hx).2.1⟩
  have hnd : A.Nodup := h.imp fun {a b} hab e => by subst e; rw [lessE_iff] at hab; omega
  have hlen : (turnE A).length = A.length := by
    refine Nat.le_antisymm ?_ ?_
    · have := putAll_len lessE (A.map swapE); rw [List.length_map] at this; exact this
    · have hnt : (turnE A).Nodup := (turnE_rises A).imp fun {a b} hab e => by subst e; rw [lessE_iff] at hab; omega
      have : A.Nodup := hnd
      have h4 := nodup_le (m := (turnE A).map swapE) hnd fun x hx => List.mem_map.2 ⟨swapE x, turnE_mem.2 (by rw [swapE_swapE]; exact hx), swapE_swapE x⟩
      rwa [List.length_map] at h4
  unfold checkR
  rw [half_of h hb h1 h2 h3, half_of (turnE_rises A) hbt h1 h2 (by omega), pairs_of h hb', offL_len, offL_len]
  have e1 : (toL A).length = (toL (turnE A)).length := by simp [toL, hlen]
  rw [decide_eq_true e1]
  simp only [decide_true, Bool.true_and, List.all_eq_true]
  intro x hx
  rw [inB_iff]
  have hx2 := hb x hx
  obtain ⟨u, hu⟩ : ∃ u : Nat, x.2 = (u:Int) := ⟨x.2.toNat, by omega⟩
  rw [hu, Int.toNat_natCast, mem_row_of (turnE_rises A) hbt' (by omega), turnE_mem]
  have : swapE ((u:Int), x.1) = x := by unfold swapE; simp only; rw [← hu]
  rw [this]; exact hx
/-! ### rows that are right tell the same, either way -/
theorem pairs_rises {O T : List Int} (h : halfB O T = true) : ∀ k, k ≤ O.length - 1 → Rises lessE (pairsK O T k)
  | 0, _ => List.Pairwise.nil
  | k + 1, hk => by
    rw [pairsK_step]
    refine List.pairwise_append.2 ⟨pairs_rises h k (by omega), ?_, fun a ha b hb => ?_⟩
    · unfold rowX
      rw [List.pairwise_map]
      refine (row_rises h (by omega)).imp fun {a b} hab => ?_
      rw [lessE_iff]
      simp [ltI] at hab
      right; exact ⟨rfl, hab⟩
    · unfold pairsK rowX at ha
      unfold rowX at hb
      simp only [List.mem_flatMap, List.mem_range, List.mem_map] at ha hb
      obtain ⟨v, h1, y, _, rfl⟩ := ha
      obtain ⟨z, _, rfl⟩ := hb
      rw [lessE_iff]; left; simp only; omega
theorem pairs_count {O T : List Int} (h : halfB O T = true) : (pairs O T).length = T.length := by
  obtain ⟨r1, r2, r3, r4, r5, r6⟩ := offB_parts (halfB_off h)
  have hok := offOk_of (halfB_off h)
  have : ∀ k, k < O.length → (pairsK O T k).length = (nth O k).toNat := by
    intro k
    induction k with
    | zero => intro _; rw [r4]; rfl
    | succ k ih =>
      intro hk
      rw [pairsK_step, List.length_append, ih (by omega)]
      unfold rowX
      rw [List.length_map, rowL_len hok hk]
      have := hok.le k hk
      have := hok.lo k (by omega)
      omega
  unfold pairs
  rw [this _ (by omega), r5]; omega
theorem mem_all {α : Type} [DecidableEq α] {l m : List α} (h : l.Nodup) (hs : ∀ x ∈ l, x ∈ m) (hl : m.length ≤ l.length) {x : α} (hx : x ∈ m) : x ∈ l := by
  by_cases hn : x ∈ l
  · exact hn
  · have h1 := nodup_le (m := m.erase x) h fun y hy => (List.mem_erase_of_ne (fun (e : y = x) => hn (by rw [← e]; exact hy))).2 (hs y hy)
    rw [List.length_erase_of_mem hx] at h1
    have := List.length_pos_of_mem hx
    omega
/-- each pair of the other rows stands in these, turned -/
theorem check_turn {O T R V : List Int} (h : checkR O T R V = true) {x : Int × Int} : x ∈ pairs O T ↔ swapE x ∈ pairs R V := by
  obtain ⟨h1, h2, h3, h4⟩ := checkR_half h
  have hall : ∀ y ∈ pairs O T, swapE y ∈ pairs R V := fun y hy => by
    unfold checkR at h
    simp only [Bool.and_eq_true, List.all_eq_true] at h
    have h5 := h.2 y hy
    rw [inB_iff] at h5
    have hb := pair_bd h3 hy
    exact mem_pairs.2 ⟨y.2.toNat, by omega, by unfold swapE; simp only; omega, h5⟩
  refine ⟨hall x, fun hx => ?_⟩
  have hnd : (pairs O T).Nodup := (pairs_rises h3 _ (Nat.le_refl _)).imp fun {a b} hab e => by subst e; rw [lessE_iff] at hab; omega
  have hnd2 : ((pairs O T).map swapE).Nodup := by
    rw [List.Nodup, List.pairwise_map]
    exact hnd.imp fun {a b} hab e => hab (by have := congrArg swapE e; rwa [swapE_swapE, swapE_swapE] at this)
  have h6 := mem_all hnd2 (fun y hy => by obtain ⟨z, hz, rfl⟩ := List.mem_map.1 hy; exact hall z hz) (by rw [List.length_map, pairs_count h3, pairs_count h4, h2]; exact Nat.le_refl _) hx
  obtain ⟨z, hz, e⟩ := List.mem_map.1 h6
  have : z = x := by have := congrArg swapE e; rwa [swapE_swapE, swapE_swapE] at this
  exact this ▸ hz
theorem row_turn {O T R V : List Int} (h : checkR O T R V = true) {v u : Nat} (hv : v < O.length - 1) (hu : u < O.length - 1) : inB (rowL O T u) v = inB (rowL R V v) u := by
  have h1 := (checkR_half h).1
  rw [Bool.eq_iff_iff, inB_iff, inB_iff]
  have e1 : (v:Int) ∈ rowL O T u ↔ ((u:Int), (v:Int)) ∈ pairs O T := by
    rw [mem_pairs]
    constructor
    · intro h; exact ⟨u, hu, rfl, h⟩
    · rintro ⟨k, _, h2, h3⟩; simp only at h2; have : u = k := by omega
      subst this; exact h3
  have e2 : (u:Int) ∈ rowL R V v ↔ ((v:Int), (u:Int)) ∈ pairs R V := by
    rw [mem_pairs]
    constructor
    · intro h; exact ⟨v, by omega, rfl, h⟩
    · rintro ⟨k, _, h2, h3⟩; simp only at h2; have : v = k := by omega
      subst this; exact h3
  rw [e1, e2, check_turn h]; rfl
end Go.Proofs.YtgnjffnkmdodeaaGreat
/- Rows that are right: where places lead to, forth and back. -/
namespace Go.Proofs.YtgnjffnkmdodeaaGreat
open Go Go.RowKit
/-- where a place leads to -/
def nxR (back : Bool) (O T R V : List Int) : Nat → List Int := if back = true then rowL R V else rowL O T
theorem row_in {O T : List Int} (h : halfB O T = true) : InN (rowL O T) (O.length - 1) := by
  intro u hu x hx
  unfold halfB at h
  rw [Bool.and_eq_true] at h
  have := List.all_eq_true.1 h.2 u (List.mem_range.2 hu)
  exact (okRow_iff.1 this).1 x hx
theorem nxR_in {O T R V : List Int} (h : checkR O T R V = true) (back : Bool) : InN (nxR back O T R V) (O.length - 1) := by
  obtain ⟨h1, h2, h3, h4⟩ := checkR_half h
  cases back with
  | false => exact row_in h3
  | true => have := row_in h4; rw [← h1] at this; exact this
theorem nxR_rev {O T R V : List Int} (h : checkR O T R V = true) (back : Bool) : Rev (nxR back O T R V) (nxR (!back) O T R V) (O.length - 1) := by
  have key : ∀ u v : Nat, u < O.length - 1 → v < O.length - 1 → ((v : Int) ∈ rowL O T u ↔ (u : Int) ∈ rowL R V v) := fun u v hu hv => by
    have := row_turn h hv hu
    rw [Bool.eq_iff_iff, inB_iff, inB_iff] at this
    exact this
  cases back with
  | false => exact key
  | true => exact fun u v hu hv => (key v u hv hu).symm
/-- all ways, in a direction -/
def edgD (back : Bool) (O T : List Int) : List (Int × Int) := if back = true then (pairs O T).map swapE else pairs O T
theorem edgD_bd {O T : List Int} (h : halfB O T = true) (back : Bool) : ∀ x ∈ edgD back O T, 0 ≤ x.1 ∧ x.1 < ((O.length - 1 : Nat) : Int) ∧ 0 ≤ x.2 ∧ x.2 < ((O.length - 1 : Nat) : Int) := by
  intro x hx
  cases back with
  | false => exact pair_bd h hx
  | true =>
    obtain ⟨y, hy, rfl⟩ := List.mem_map.1 hx
    have := pair_bd h hy
    exact ⟨this.2.2.1, this.2.2.2, this.1, this.2.1⟩
theorem edgD_mem {O T R V : List Int} (h : checkR O T R V = true) (back : Bool) : ∀ u v : Nat, u < O.length - 1 → v < O.length - 1 → (((u : Int), (v : Int)) ∈ edgD back O T ↔ (v : Int) ∈ nxR back O T R V u) := by
  have key : ∀ u v : Nat, u < O.length - 1 → (((u : Int), (v : Int)) ∈ pairs O T ↔ (v : Int) ∈ rowL O T u) := fun u v hu => by
    rw [mem_pairs]
    constructor
    · rintro ⟨k, h1, h2, h3⟩
      have : u = k := by simp only at h2; omega
      subst this; exact h3
    · intro h1; exact ⟨u, hu, rfl, h1⟩
  intro u v hu hv
  cases back with
  | false => exact key u v hu
  | true =>
    have e : ((u : Int), (v : Int)) ∈ edgD true O T ↔ ((v : Int), (u : Int)) ∈ pairs O T := by
      show _ ∈ (pairs O T).map swapE ↔ _
      rw [List.mem_map]
      constructor
      · rintro ⟨y, hy, e⟩
        unfold swapE at e
        injection e with e1 e2
        rw [← e1, ← e2]; exact hy
      · intro h1; exact ⟨_, h1, rfl⟩
    rw [e, key v u hv]
    exact (nxR_rev h true u v hu hv).symm
theorem row_rises8 {O T R V : List Int} (h : checkR O T R V = true) (back : Bool) {u : Nat} (hu : u < O.length - 1) : Rises ltI (nxR back O T R V u) := by
  obtain ⟨h1, h2, h3, h4⟩ := checkR_half h
  cases back with
  | false => exact row_rises h3 hu
  | true => exact row_rises h4 (by omega)
/-- levels, as the chapter says: a row; the error -/
def levC (ck : Bool) (O : List Int) (s : Int) : Int := if ck = true then (if 0 ≤ s ∧ s < (O.length : Int) - 1 then 0 else 1) else 40
def levR (ck back : Bool) (O T R V : List Int) (s : Int) : List Int := if levC ck O s = 0 then (List.range (O.length - 1)).map fun v => lev (nxR back O T R V) (O.length - 1) s.toNat v else []
end Go.Proofs.YtgnjffnkmdodeaaGreat
/- The program's searches (chapter 8): a place's next ones; a side that begins. -/
namespace Go.Proofs.YtgnjffnkmdodeaaGreat
open Go Go.RowKit
set_option maxRecDepth 100000 in
set_option maxHeartbeats 2000000 in
theorem open1G (po : Option Addr) (no co : Nat) (O : List Int) (pt : Option Addr) (nt ct : Nat) (T : List Int) (pr : Option Addr) (nr cr : Nat) (R : List Int) (pv : Option Addr) (nv cv : Nat) (V : List Int) (gr k : Nat) (w : World) (hO : Rd w 1 po no (encI O)) (hT : Rd w 1 pt nt (encI T)) (hok : OffOk O T) (hct : nt ≤ ct) (hk1 : k + 1 < O.length) (hB : Blk w gr 24 #[.slice po no co, .slice pt nt ct, .slice pr nr cr, .slice pv nv cv]) :
    Calls Tryz.prog 61 #[.int .i64 k, .pointer (some ⟨gr, 0, none⟩)] w fun e w' => e = .returned (.slice (cutp pt ct (nth O k).toNat 1) (rowL O T k).length (ct - (nth O k).toNat)) ∧ Ext w w' := by
  have na1 := hO.small
  have l1 := hO.nI
  have l2 := hT.nI
  have pA := hO.ptr
  have q1 := hok.lo k (by omega)
  have q2 := hok.le k hk1
  have q3 := hok.hi (k + 1) hk1
  have hrl := rowL_len hok hk1
  have RL0 := hT.rowOf hok hct hk1
  have g1 := hO.cI (k := k) (by omega)
  have g2 := hO.cI (k := k + 1) (by omega)
  have b0 := hB.cell 0
  have b1 := hB.cell 1
  have b2 := hB.cell 2
  have b3 := hB.cell 3
  have bz := hB.lt
  obtain ⟨a, ha⟩ : ∃ a : Nat, nth O k = (a : Int) := ⟨(nth O k).toNat, by omega⟩
  obtain ⟨c, hc⟩ : ∃ c : Nat, nth O (k + 1) = (c : Int) := ⟨(nth O (k + 1)).toNat, by omega⟩
  rw [ha] at q1 q2 hrl RL0 g1
  rw [hc] at q2 q3 hrl RL0 g2
  simp only [Int.toNat_natCast] at hrl RL0
  have hq3 : (c:Int) ≤ ct := by omega
  have d1 : (0:Int) ≤ k := by omega
  have d2 : (k:Int) < no := by omega
  have d3 : (0:Int) ≤ (k:Int) + 1 := by omega
  have d4 : (k:Int) + 1 < no := by omega
  have RL := Lib.hid RL0
  rw [hrl, ha, Int.toNat_natCast]
  clear hO hT hok ha hc hrl RL0 l1 l2 q3 hk1 hB
  go_enter Tryz.func61, Tryz.ntmps61
  go_wp2
  have y0 := fun x : ExtOf w => x.ext.cell b0
  have y1 := fun x : ExtOf w => x.ext.cell b1
  have y2 := fun x : ExtOf w => x.ext.cell b2
  have y3 := fun x : ExtOf w => x.ext.cell b3
  have x1 := fun x : ExtOf w => x.ext.cell g1
  have x2 := fun x : ExtOf w => x.ext.cell g2
  refine wp_region_ext (by kernel_rfl) (by kernel_rfl) ?_
  repeat (go_big_quiet_step ((fail)))
  refine wpQuiet_nil ?_
  rintro w1 ⟨⟨_, hb1⟩, rfl⟩
  go_wp2
  go_ret
  exact ⟨rfl, hb1⟩
set_option maxRecDepth 100000 in
set_option maxHeartbeats 2000000 in
theorem open2G (po : Option Addr) (no co : Nat) (O : List Int) (pt : Option Addr) (nt ct : Nat) (T : List Int) (pr : Option Addr) (nr cr : Nat) (R : List Int) (pv : Option Addr) (nv cv : Nat) (V : List Int) (gr k : Nat) (w : World) (hO : Rd w 1 pr nr (encI R)) (hT : Rd w 1 pv nv (encI V)) (hok : OffOk R V) (hct : nv ≤ cv) (hk1 : k + 1 < R.length) (hB : Blk w gr 24 #[.slice po no co, .slice pt nt ct, .slice pr nr cr, .slice pv nv cv]) :
    Calls Tryz.prog 62 #[.int .i64 k, .pointer (some ⟨gr, 0, none⟩)] w fun e w' => e = .returned (.slice (cutp pv cv (nth R k).toNat 1) (rowL R V k).length (cv - (nth R k).toNat)) ∧ Ext w w' := by
  have na1 := hO.small
  have l1 := hO.nI
  have l2 := hT.nI
  have pA := hO.ptr
  have q1 := hok.lo k (by omega)
  have q2 := hok.le k hk1
  have q3 := hok.hi (k + 1) hk1
  have hrl := rowL_len hok hk1
  have RL0 := hT.rowOf hok hct hk1
  have g1 := hO.cI (k := k) (by omega)
  have g2 := hO.cI (k := k + 1) (by omega)
  have b0 := hB.cell 0
  have b1 := hB.cell 1
  have b2 := hB.cell 2
  have b3 := hB.cell 3
  have bz := hB.lt
  obtain ⟨a, ha⟩ : ∃ a : Nat, nth R k = (a : Int) := ⟨(nth R k).toNat, by omega⟩
  obtain ⟨c, hc⟩ : ∃ c : Nat, nth R (k + 1) = (c : Int) := ⟨(nth R (k + 1)).toNat, by omega⟩
  rw [ha] at q1 q2 hrl RL0 g1
  rw [hc] at q2 q3 hrl RL0 g2
  simp only [Int.toNat_natCast] at hrl RL0
  have hq3 : (c:Int) ≤ cv := by omega
  have d1 : (0:Int) ≤ k := by omega
  have d2 : (k:Int) < nr := by omega
  have d3 : (0:Int) ≤ (k:Int) + 1 := by omega
  have d4 : (k:Int) + 1 < nr := by omega
  have RL := Lib.hid RL0
  rw [hrl, ha, Int.toNat_natCast]
  clear hO hT hok ha hc hrl RL0 l1 l2 q3 hk1 hB
  go_enter Tryz.func62, Tryz.ntmps62
  go_wp2
  have y0 := fun x : ExtOf w => x.ext.cell b0
  have y1 := fun x : ExtOf w => x.ext.cell b1
  have y2 := fun x : ExtOf w => x.ext.cell b2
  have y3 := fun x : ExtOf w => x.ext.cell b3
  have x1 := fun x : ExtOf w => x.ext.cell g1
  have x2 := fun x : ExtOf w => x.ext.cell g2
  refine wp_region_ext (by kernel_rfl) (by kernel_rfl) ?_
  repeat (go_big_quiet_step ((fail)))
  refine wpQuiet_nil ?_
  rintro w1 ⟨⟨_, hb1⟩, rfl⟩
  go_wp2
  go_ret
  exact ⟨rfl, hb1⟩
theorem open1Gr (po : Option Addr) (no co : Nat) (O : List Int) (pt : Option Addr) (nt ct : Nat) (T : List Int) (pr : Option Addr) (nr cr : Nat) (R : List Int) (pv : Option Addr) (nv cv : Nat) (V : List Int) (gr k : Nat) (w : World) (hO : Rd w 1 po no (encI O)) (hT : Rd w 1 pt nt (encI T)) (hok : OffOk O T) (hct : nt ≤ ct) (hk1 : k + 1 < O.length) (hB : Blk w gr 24 #[.slice po no co, .slice pt nt ct, .slice pr nr cr, .slice pv nv cv]) :
    ∃ q c, Rd w 1 q (rowL O T k).length (encI (rowL O T k)) ∧ ∀ W, Ext w W → Calls Tryz.prog 61 #[.int .i64 k, .pointer (some ⟨gr, 0, none⟩)] W fun e w' => e = .returned (.slice q (rowL O T k).length c) ∧ Ext W w' := by
  refine ⟨_, _, ?_, fun W h => open1G po no co O pt nt ct T pr nr cr R pv nv cv V gr k W (hO.ext h) (hT.ext h) hok hct hk1 (hB.ext h)⟩
  have := hT.rowOf hok hct hk1
  rw [← rowL_len hok hk1] at this
  exact this
theorem open2Gr (po : Option Addr) (no co : Nat) (O : List Int) (pt : Option Addr) (nt ct : Nat) (T : List Int) (pr : Option Addr) (nr cr : Nat) (R : List Int) (pv : Option Addr) (nv cv : Nat) (V : List Int) (gr k : Nat) (w : World) (hO : Rd w 1 pr nr (encI R)) (hT : Rd w 1 pv nv (encI V)) (hok : OffOk R V) (hct : nv ≤ cv) (hk1 : k + 1 < R.length) (hB : Blk w gr 24 #[.slice po no co, .slice pt nt ct, .slice pr nr cr, .slice pv nv cv]) :
    ∃ q c, Rd w 1 q (rowL R V k).length (encI (rowL R V k)) ∧ ∀ W, Ext w W → Calls Tryz.prog 62 #[.int .i64 k, .pointer (some ⟨gr, 0, none⟩)] W fun e w' => e = .returned (.slice q (rowL R V k).length c) ∧ Ext W w' := by
  refine ⟨_, _, ?_, fun W h => open2G po no co O pt nt ct T pr nr cr R pv nv cv V gr k W (hO.ext h) (hT.ext h) hok hct hk1 (hB.ext h)⟩
  have := hT.rowOf hok hct hk1
  rw [← rowL_len hok hk1] at this
  exact this
end Go.Proofs.YtgnjffnkmdodeaaGreat
/- The program's searches (chapter 8): a side that begins. -/
namespace Go.Proofs.YtgnjffnkmdodeaaGreat
open Go Go.RowKit
theorem Sep.alrow {w0 w : World} {Γ : List Pc} (S : Sep w0 w Γ) (cs : Array Value) (e : TypeId) (size n g : Nat) (hg : w.heap.size = g) (hm : n ≤ maxLen) (hs : cs.size = n * size) : Sep w0 (w.alloc (.cells cs e)) (.own e size (some ⟨g, 0, none⟩) n n cs.toList :: Γ) := by
  subst hg
  exact S.fresh (Ext.alloc (Below.refl _ _) _) (World.ownsRow_lit w cs n (Nat.le_refl _) hm hs) (Nat.le_refl _)
set_option maxRecDepth 100000 in
set_option maxHeartbeats 2000000 in
theorem beginG (fid gr n s : Nat) (w : World) (hs : s < n) (hn : n ≤ 200) :
    Calls Tryz.prog 63 #[.int .i64 n, .int .i64 s, .func (.func fid) #[] #[.pointer (some ⟨gr, 0, none⟩)]] w fun e w' => ∃ g ql qf, e = .returned (.pointer (some ⟨g, 0, none⟩)) ∧
      Sep w w' [.blk g 70 #[.func (.func fid) #[] #[.pointer (some ⟨gr, 0, none⟩)], .slice ql n n, .slice qf 1 1], .own 3 1 qf 1 1 (encI [(s : Int)]), .own 3 1 ql n n (encI (bf0 n s))] := by
  obtain ⟨i0, hi0, hz0, hz1, hz2⟩ := info_parts infI
  go_enter Tryz.func63, Tryz.ntmps63
  go_wp2_with (at_make; go_must (refine wpList_make_sep rfl _ _ _ rfl 3 i0 _ 1 Tryz.underlying22 hi0 hz0 hz1 (n:Int) n rfl rfl rfl (by rw [hz2]; omega) (by unfold maxLen; omega) (Sep.start w) ?_; intro w1 S'; rw [made_encI] at S'; have S1 := Lib.hid S'; clear S'))
  generalize hql : (some ⟨w.heap.size, 0, none⟩ : Option Addr) = ql at *
  clear hql
  have S2 := Lib.hid ((S1.out.alrow #[.int .i64 (s:Int)] 3 1 1 w1.heap.size rfl (by decide) rfl).al #[.func (.func fid) #[] #[.pointer (some ⟨gr, 0, none⟩)], .slice ql n n, .slice (some ⟨w1.heap.size, 0, none⟩) 1 1] 70 (w1.heap.size + 1) (by simp))
  clear S1
  go_loopw [8, 21] (fun _ i wr => ∃ k : Nat, k ≤ n ∧ i = .int .i64 k ∧ Sep w wr [.blk (w1.heap.size + 1) 70 #[.func (.func fid) #[] #[.pointer (some ⟨gr, 0, none⟩)], .slice ql n n, .slice (some ⟨w1.heap.size, 0, none⟩) 1 1], .own 3 1 (some ⟨w1.heap.size, 0, none⟩) 1 1 (encI [(s : Int)]), .own 3 1 ql n n (encI (List.replicate k (-1) ++ List.replicate (n - k) 0))]) (fun _ i _ => n - (intOf i).toNat)
  case atStart => exact ⟨0, Nat.zero_le _, rfl, S2.out⟩
  case round =>
    clear S2
    obtain ⟨k, hk, rfl, S⟩ := hrel
    have az := (S.blk 0 rfl).lt; have a0 := (S.blk 0 rfl).cell 0; have a1 := (S.blk 0 rfl).cell 1; have a2 := (S.blk 0 rfl).cell 2
    have po := (S.rd 2 rfl (by omega)).ptr
    have fz := own_frozen (S.own 2 rfl) (by omega) k
    by_cases hlt : k < n
    · have HS := Lib.hid (rep_set hlt)
      have c1 := own_cell (S.own 2 rfl) (k := k) (by omega)
      have d1 : (0:Int) ≤ k := by omega
      have d2 : (k:Int) < n := by omega
      have SH := Lib.hid S; clear S
      go_wp2
      go_roundw
      case rel => exact ⟨k + 1, by omega, by go_num, by rw [← HS.out, ← encI_set]; exact SH.out.setRow 2 rfl k (by omega) (.int .i64 (-1))⟩
      case measure => simp [intOf]; omega
    · obtain rfl : k = n := by omega
      rw [Nat.sub_self, List.replicate_zero, List.append_nil] at S
      have fz2 := own_frozen (S.own 2 rfl) (by omega) s
      have c2 := own_cell (S.own 2 rfl) (k := s) (by omega)
      have d1 : (0:Int) ≤ s := by omega
      have d2 : (s:Int) < k := by omega
      have SH := Lib.hid S; clear S
      clear fz
      go_wp2
      go_ret
      exact ⟨_, ql, _, rfl, by unfold bf0; rw [← encI_set]; exact SH.out.setRow 2 rfl s (by omega) (.int .i64 0)⟩
end Go.Proofs.YtgnjffnkmdodeaaGreat
/- The program's searches (chapter 8): the places of the next level, of either side. -/
namespace Go.Proofs.YtgnjffnkmdodeaaGreat
open Go Go.RowKit Go.Maps
theorem zeroBm (w : World) : (zeroValue 4).run Tryz.prog w = .ok (.bool false) w := by kernel_rfl
noncomputable def EBm : Elm Tryz.prog 4 Bool := elmB Tryz.prog 4 Tryz.underlying4 zeroBm
set_option maxRecDepth 100000 in
set_option maxHeartbeats 8000000 in
theorem ahead1 (gs gr n : Nat) (ql : Option Addr) (cl : Nat) (X : List Int) (qf : Option Addr) (m cf : Nat) (F : List Int) (nx : Nat → List Int) (w : World)
    (hB : Blk w gs 70 #[.func (.func 61) #[] #[.pointer (some ⟨gr, 0, none⟩)], .slice ql n cl, .slice qf m cf]) (hX : Rd w 1 ql n (encI X)) (hF : Rd w 1 qf m (encI F)) (hn : n ≤ 200)
    (hFb : ∀ x ∈ F, 0 ≤ x ∧ x < n) (hin : InN nx n)
    (HN : ∀ k, k < n → ∃ q c, Rd w 1 q (nx k).length (encI (nx k)) ∧ ∀ W, Ext w W → Calls Tryz.prog 61 #[.int .i64 k, .pointer (some ⟨gr, 0, none⟩)] W fun e w' => e = .returned (.slice q (nx k).length c) ∧ Ext W w') :
    Calls Tryz.prog 41 #[.pointer (some ⟨gs, 0, none⟩)] w fun e w' => ∃ q c, e = .returned (.slice q (ahF nx X F []).length c) ∧ Sep w w' [.own 3 1 q (ahF nx X F []).length c (encI (ahF nx X F []))] := by
  obtain ⟨i0, hi0, hz0, hz1, hz2⟩ := info_parts infI
  have p1 := hF.ptr
  have p2 := hX.ptr
  have n1 := hF.small
  have L1 := Lib.hid hF.nI
  have L2 := Lib.hid hX.nI
  have HSM : Hid (∀ (G : List Int) (l : List Int), (∀ x ∈ G, 0 ≤ x ∧ x < n) → l.Nodup → (∀ x ∈ l, 0 ≤ x ∧ x < n) → (ahF nx X G l).length ≤ n) := fun G l hG h1 h2 => nodup_small (ahF_nodup h1) fun x hx => by
    rcases ahF_mem.1 hx with h | ⟨v, h3, h4, _⟩
    · exact h2 x h
    · obtain ⟨h5, h6⟩ := hG v h3
      exact hin v.toNat (by omega) x h4
  have HB := Lib.hid hB; clear hB
  have HX := Lib.hid hX; clear hX
  have HF := Lib.hid hF; clear hF
  have HFB := Lib.hid hFb; clear hFb
  have HIN := Lib.hid hin; clear hin
  have HNX := Lib.hid HN
  clear HN
  have hmm := @run_makeMap Tryz.prog
  have S0 := Lib.hid (((Sep.start w).mkmap EBm (k := 3)).nilrow 3 1)
  have b0 := HB.out.cell 0
  have b1 := HB.out.cell 1
  have b2 := HB.out.cell 2
  have bz := HB.out.lt
  go_enter Tryz.func41, Tryz.ntmps41
  go_wp2
  go_loopw [3, 6, 8, 15] (fun l _ _ i wr => ∃ (k : Nat) (L : List Int) (q : Option Addr) (c mm : Nat) (f : Int → Option Bool), k ≤ m ∧ i = .int .i64 k ∧ l = .slice q L.length c ∧ L = ahF nx X (F.take k) [] ∧ mm ≤ L.length ∧ Sep w wr [.own 3 1 q L.length c (encI L), .map Tryz.prog 3 EBm w.heap.size mm f] ∧ ∀ x, f x = some true ↔ x ∈ L) (fun _ _ _ i _ => m - (intOf i).toNat)
  case atStart => exact ⟨0, [], none, 0, 0, _, Nat.zero_le _, rfl, rfl, rfl, Nat.le_refl _, S0.out, fun x => by simp⟩
  case round =>
    clear S0 b0 b1 b2 bz
    obtain ⟨k, L, q, c, mm, f, hk, rfl, rfl, hL, hmm2, S, hf⟩ := hrel
    have b0 := S.ext.cell (HB.out.cell 0)
    have b1 := S.ext.cell (HB.out.cell 1)
    have b2 := S.ext.cell (HB.out.cell 2)
    have bz := Nat.lt_of_lt_of_le HB.out.lt S.ext.size
    by_cases hlt : k < m
    · have hkF : k < F.length := by rw [← L1.out]; exact hlt
      have g1 := S.ext.cell (HF.out.cI hlt)
      obtain ⟨f1, f2⟩ := HFB.out _ (nth_mem hkF)
      have HT := Lib.hid (ahF_take (nx := nx) (X := X) (l := []) hkF)
      rw [← hL] at HT
      have HLB : Hid (∀ j l', l' = ahR X ((nx (nth F k).toNat).take j) L → l'.length ≤ n) := fun j l' hl' => by
        rw [hl', hL]
        refine nodup_small (ahR_nodup (ahF_nodup List.nodup_nil)) fun x hx => ?_
        rcases ahR_mem.1 hx with h | ⟨h, _⟩
        · rcases ahF_mem.1 h with h | ⟨v, h3, h4, _⟩
          · cases h
          · obtain ⟨h5, h6⟩ := HFB.out v (List.mem_of_mem_take h3)
            exact HIN.out v.toNat (by omega) x h4
        · exact HIN.out _ (by omega) x (List.mem_of_mem_take h)
      clear hL
      obtain ⟨a, ha⟩ : ∃ a : Nat, nth F k = (a : Int) := ⟨(nth F k).toNat, by omega⟩
      rw [ha] at g1 f1 f2 HT HLB
      rw [Int.toNat_natCast] at HT HLB
      obtain ⟨qn, cn, RN, CN⟩ := HNX.out a (by omega)
      have HRow := Lib.hid (HIN.out a (by omega))
      have hln := RN.small
      have pn := RN.ptr
      generalize nx a = row at *
      have HRN := Lib.hid RN; clear RN
      have HCN := Lib.hid CN; clear CN
      have HFN := Lib.hid hf; clear hf
      have SH := Lib.hid S; clear S
      have d1 : (0:Int) ≤ k := by omega
      have d2 : (k:Int) < m := by omega
      clear ha f1 f2
      go_wp2_with (go_at_call 61; go_must (refine (HCN.out _ SH.out.ext).mono ?_; rintro e w1 ⟨rfl, hb⟩; have S1 := Lib.hid (SH.out.call hb); clear hb))
      go_loopw [3, 8, 26] (fun l _ i wr => ∃ (j : Nat) (l' : List Int) (q : Option Addr) (c mm : Nat) (f : Int → Option Bool), j ≤ row.length ∧ i = .int .i64 j ∧ l = .slice q l'.length c ∧ l' = ahR X (row.take j) L ∧ mm ≤ l'.length ∧ Sep w wr [.own 3 1 q l'.length c (encI l'), .map Tryz.prog 3 EBm w.heap.size mm f] ∧ ∀ x, f x = some true ↔ x ∈ l') (fun _ _ i _ => row.length - (intOf i).toNat)
      case atStart => exact ⟨0, L, q, c, mm, f, Nat.zero_le _, rfl, rfl, rfl, hmm2, S1.out, HFN.out⟩
      case round =>
        clear SH S1 HFN HCN b0 b1 b2 bz g1 hmm2
        obtain ⟨j, l', q, c, mm, f, hj, rfl, rfl, hl', hmm2, S, hf⟩ := hrel
        have b0 := S.ext.cell (HB.out.cell 0)
        have b1 := S.ext.cell (HB.out.cell 1)
        have b2 := S.ext.cell (HB.out.cell 2)
        have bz := Nat.lt_of_lt_of_le HB.out.lt S.ext.size
        by_cases hlj : j < row.length
        · have g1 := S.ext.cell (HRN.out.cI hlj)
          obtain ⟨f1, f2⟩ := HRow.out _ (nth_mem hlj)
          have HT2 := Lib.hid (ahR_take (X := X) (l := L) hlj)
          rw [← hl'] at HT2
          have hlen := HLB.out j l' hl'
          clear hl'
          obtain ⟨b, hb⟩ : ∃ b : Nat, nth row j = (b : Int) := ⟨(nth row j).toNat, by omega⟩
          rw [hb] at g1 f1 f2 HT2
          have g2 := S.ext.cell (HX.out.cI (k := b) (by omega))
          have HI : Hid (I64 (b : Int)) := I64.nat (by omega)
          have hlk := (S.map 1 rfl).lookup Tryz.underlying3 Tryz.underlying96 HI.out
          obtain ⟨u, hu⟩ : ∃ u, u = (f (b : Int)).getD EBm.z := ⟨_, rfl⟩
          rw [← hu] at hlk
          have hlk2 : (Instr.lookup 96 (.map (some w.heap.size)) (.int .i64 (b : Int)) false).run Tryz.prog wr = .ok (.bool u) wr := hlk
          have hui : u = true ↔ (b : Int) ∈ l' := by
            rw [← hf, hu]
            cases hfb : f (b : Int) with
            | none => simp; decide
            | some t => simp
          clear hlk hb hu
          have HFN := Lib.hid hf; clear hf
          have SH := Lib.hid S; clear S
          have d3 : (0:Int) ≤ j := by omega
          have d4 : (j:Int) < row.length := by omega
          unfold ah1 at HT2
          rw [Int.toNat_natCast] at HT2
          generalize nth X b = lv at *
          by_cases hlv : lv < 0
          · have d5 : decide (lv < 0) = true := by simpa using hlv
            cases u with
            | true =>
              have hmem := hui.1 rfl
              rw [if_neg (fun h => h.2 hmem)] at HT2
              clear hui hmem
              go_wp2
              go_roundw
              case rel => exact ⟨j + 1, l', q, c, mm, f, by omega, by go_num, rfl, HT2.out.symm, hmm2, SH.out, HFN.out⟩
              case measure => simp [intOf]; omega
            | false =>
              have hmem : (b : Int) ∉ l' := fun h => by have := hui.2 h; cases this
              rw [if_pos ⟨hlv, hmem⟩] at HT2
              clear hui hmem
              go_wp2_with (first
                | (at_mapUpdate; go_must (refine wpList_update_sep rfl _ _ _ _ rfl Tryz.underlying3 Tryz.underlying96 rfl SH.out 1 rfl (by omega) (b : Int) true rfl rfl HI.out ?_; intro w1 S1 hg; have S2 := Lib.hid S1; clear S1 hg))
                | (at_builtin; go_must (refine wpList_append_sep rfl _ _ _ rfl 3 i0 _ 1 8 Tryz.underlying22 hi0 hz0 hz1 hz2 rfl (by omega) (S2.out.junk _) 0 q l'.length c _ rfl rfl _ 1 1 _ rfl (Rd.oneI _ _ _) (one_encI _) (by omega) (by omega) ?_; intro q' c' w3 S' hsz; have S3 := Lib.hid S'; clear S' hsz)))
              go_roundw
              case rel => exact ⟨j + 1, l' ++ [(b : Int)], q', c', mm + 1, _, by omega, by go_num, by rw [List.length_append]; rfl, HT2.out.symm, by rw [List.length_append]; simp; omega, by rw [List.length_append, encI_append]; exact S3.out, fun x => by
                rw [List.mem_append, List.mem_singleton, ← HFN.out x]
                unfold upF
                by_cases e : x = (b : Int) <;> simp [e]⟩
              case measure => simp [intOf]; omega
          · have d5 : decide (lv < 0) = false := by simpa using hlv
            rw [if_neg (fun h => hlv h.1)] at HT2
            clear hui hlk2
            go_wp2
            go_roundw
            case rel => exact ⟨j + 1, l', q, c, mm, f, by omega, by go_num, rfl, HT2.out.symm, hmm2, SH.out, HFN.out⟩
            case measure => simp [intOf]; omega
        · obtain rfl : j = row.length := by omega
          rw [List.take_length, ← HT.out] at hl'
          have HL' := Lib.hid hl'; clear hl'
          have HFN := Lib.hid hf; clear hf
          have SH := Lib.hid S; clear S
          go_wp2
          go_roundw
          case rel => exact ⟨k + 1, l', q, c, mm, f, by omega, by go_num, rfl, HL'.out, hmm2, SH.out, HFN.out⟩
          case measure => simp [intOf]; omega
    · obtain rfl : k = m := by omega
      rw [List.take_of_length_le (by rw [← L1.out]; omega)] at hL
      subst hL
      have SH := Lib.hid S; clear S
      clear hf
      go_wp2
      go_ret
      exact ⟨q, c, rfl, SH.out.pick [0] (by decide) rfl⟩
set_option maxRecDepth 100000 in
set_option maxHeartbeats 8000000 in
theorem ahead2 (gs gr n : Nat) (ql : Option Addr) (cl : Nat) (X : List Int) (qf : Option Addr) (m cf : Nat) (F : List Int) (nx : Nat → List Int) (w : World)
    (hB : Blk w gs 70 #[.func (.func 62) #[] #[.pointer (some ⟨gr, 0, none⟩)], .slice ql n cl, .slice qf m cf]) (hX : Rd w 1 ql n (encI X)) (hF : Rd w 1 qf m (encI F)) (hn : n ≤ 200)
    (hFb : ∀ x ∈ F, 0 ≤ x ∧ x < n) (hin : InN nx n)
    (HN : ∀ k, k < n → ∃ q c, Rd w 1 q (nx k).length (encI (nx k)) ∧ ∀ W, Ext w W → Calls Tryz.prog 62 #[.int .i64 k, .pointer (some ⟨gr, 0, none⟩)] W fun e w' => e = .returned (.slice q (nx k).length c) ∧ Ext W w') :
    Calls Tryz.prog 41 #[.pointer (some ⟨gs, 0, none⟩)] w fun e w' => ∃ q c, e = .returned (.slice q (ahF nx X F []).length c) ∧ Sep w w' [.own 3 1 q (ahF nx X F []).length c (encI (ahF nx X F []))] := by
  obtain ⟨i0, hi0, hz0, hz1, hz2⟩ := info_parts infI
  have p1 := hF.ptr
  have p2 := hX.ptr
  have n1 := hF.small
  have L1 := Lib.hid hF.nI
  have L2 := Lib.hid hX.nI
  have HSM : Hid (∀ (G : List Int) (l : List Int), (∀ x ∈ G, 0 ≤ x ∧ x < n) → l.Nodup → (∀ x ∈ l, 0 ≤ x ∧ x < n) → (ahF nx X G l).length ≤ n) := fun G l hG h1 h2 => nodup_small (ahF_nodup h1) fun x hx => by
    rcases ahF_mem.1 hx with h | ⟨v, h3, h4, _⟩
    · exact h2 x h
    · obtain ⟨h5, h6⟩ := hG v h3
      exact hin v.toNat (by omega) x h4
  have HB := Lib.hid hB; clear hB
  have HX := Lib.hid hX; clear hX
  have HF := Lib.hid hF; clear hF
  have HFB := Lib.hid hFb; clear hFb
  have HIN := Lib.hid hin; clear hin
  have HNX := Lib.hid HN
  clear HN
  have hmm := @run_makeMap Tryz.prog
  have S0 := Lib.hid (((Sep.start w).mkmap EBm (k := 3)).nilrow 3 1)
  have b0 := HB.out.cell 0
  have b1 := HB.out.cell 1
  have b2 := HB.out.cell 2
  have bz := HB.out.lt
  go_enter Tryz.func41, Tryz.ntmps41
  go_wp2
  go_loopw [3, 6, 8, 15] (fun l _ _ i wr => ∃ (k : Nat) (L : List Int) (q : Option Addr) (c mm : Nat) (f : Int → Option Bool), k ≤ m ∧ i = .int .i64 k ∧ l = .slice q L.length c ∧ L = ahF nx X (F.take k) [] ∧ mm ≤ L.length ∧ Sep w wr [.own 3 1 q L.length c (encI L), .map Tryz.prog 3 EBm w.heap.size mm f] ∧ ∀ x, f x = some true ↔ x ∈ L) (fun _ _ _ i _ => m - (intOf i).toNat)
  case atStart => exact ⟨0, [], none, 0, 0, _, Nat.zero_le _, rfl, rfl, rfl, Nat.le_refl _, S0.out, fun x => by simp⟩
  case round =>
    clear S0 b0 b1 b2 bz
    obtain ⟨k, L, q, c, mm, f, hk, rfl, rfl, hL, hmm2, S, hf⟩ := hrel
    have b0 := S.ext.cell (HB.out.cell 0)
    have b1 := S.ext.cell (HB.out.cell 1)
    have b2 := S.ext.cell (HB.out.cell 2)
    have bz := Nat.lt_of_lt_of_le HB.out.lt S.ext.size
    by_cases hlt : k < m
    · have hkF : k < F.length := by rw [← L1.out]; exact hlt
      have g1 := S.ext.cell (HF.out.cI hlt)
      obtain ⟨f1, f2⟩ := HFB.out _ (nth_mem hkF)
      have HT := Lib.hid (ahF_take (nx := nx) (X := X) (l := []) hkF)
      rw [← hL] at HT
      have HLB : Hid (∀ j l', l' = ahR X ((nx (nth F k).toNat).take j) L → l'.length ≤ n) := fun j l' hl' => by
        rw [hl', hL]
        refine nodup_small (ahR_nodup (ahF_nodup List.nodup_nil)) fun x hx => ?_
        rcases ahR_mem.1 hx with h | ⟨h, _⟩
        · rcases ahF_mem.1 h with h | ⟨v, h3, h4, _⟩
          · cases h
          · obtain ⟨h5, h6⟩ := HFB.out v (List.mem_of_mem_take h3)
            exact HIN.out v.toNat (by omega) x h4
        · exact HIN.out _ (by omega) x (List.mem_of_mem_take h)
      clear hL
      obtain ⟨a, ha⟩ : ∃ a : Nat, nth F k = (a : Int) := ⟨(nth F k).toNat, by omega⟩
      rw [ha] at g1 f1 f2 HT HLB
      rw [Int.toNat_natCast] at HT HLB
      obtain ⟨qn, cn, RN, CN⟩ := HNX.out a (by omega)
      have HRow := Lib.hid (HIN.out a (by omega))
      have hln := RN.small
      have pn := RN.ptr
      generalize nx a = row at *
      have HRN := Lib.hid RN; clear RN
      have HCN := Lib.hid CN; clear CN
      have HFN := Lib.hid hf; clear hf
      have SH := Lib.hid S; clear S
      have d1 : (0:Int) ≤ k := by omega
      have d2 : (k:Int) < m := by omega
      clear ha f1 f2
      go_wp2_with (go_at_call 62; go_must (refine (HCN.out _ SH.out.ext).mono ?_; rintro e w1 ⟨rfl, hb⟩; have S1 := Lib.hid (SH.out.call hb); clear hb))
      go_loopw [3, 8, 26] (fun l _ i wr => ∃ (j : Nat) (l' : List Int) (q : Option Addr) (c mm : Nat) (f : Int → Option Bool), j ≤ row.length ∧ i = .int .i64 j ∧ l = .slice q l'.length c ∧ l' = ahR X (row.take j) L ∧ mm ≤ l'.length ∧ Sep w wr [.own 3 1 q l'.length c (encI l'), .map Tryz.prog 3 EBm w.heap.size mm f] ∧ ∀ x, f x = some true ↔ x ∈ l') (fun _ _ i _ => row.length - (intOf i).toNat)
      case atStart => exact ⟨0, L, q, c, mm, f, Nat.zero_le _, rfl, rfl, rfl, hmm2, S1.out, HFN.out⟩
      case round =>
        clear SH S1 HFN HCN b0 b1 b2 bz g1 hmm2
        obtain ⟨j, l', q, c, mm, f, hj, rfl, rfl, hl', hmm2, S, hf⟩ := hrel
        have b0 := S.ext.cell (HB.out.cell 0)
        have b1 := S.ext.cell (HB.out.cell 1)
        have b2 := S.ext.cell (HB.out.cell 2)
        have bz := Nat.lt_of_lt_of_le HB.out.lt S.ext.size
        by_cases hlj : j < row.length
        · have g1 := S.ext.cell (HRN.out.cI hlj)
          obtain ⟨f1, f2⟩ := HRow.out _ (nth_mem hlj)
          have HT2 := Lib.hid (ahR_take (X := X) (l := L) hlj)
          rw [← hl'] at HT2
          have hlen := HLB.out j l' hl'
          clear hl'
          obtain ⟨b, hb⟩ : ∃ b : Nat, nth row j = (b : Int) := ⟨(nth row j).toNat, by omega⟩
          rw [hb] at g1 f1 f2 HT2
          have g2 := S.ext.cell (HX.out.cI (k := b) (by omega))
          have HI : Hid (I64 (b : Int)) := I64.nat (by omega)
          have hlk := (S.map 1 rfl).lookup Tryz.underlying3 Tryz.underlying96 HI.out
          obtain ⟨u, hu⟩ : ∃ u, u = (f (b : Int)).getD EBm.z := ⟨_, rfl⟩
          rw [← hu] at hlk
          have hlk2 : (Instr.lookup 96 (.map (some w.heap.size)) (.int .i64 (b : Int)) false).run Tryz.prog wr = .ok (.bool u) wr := hlk
          have hui : u = true ↔ (b : Int) ∈ l' := by
            rw [← hf, hu]
            cases hfb : f (b : Int) with
            | none => simp; decide
            | some t => simp
          clear hlk hb hu
          have HFN := Lib.hid hf; clear hf
          have SH := Lib.hid S; clear S
          have d3 : (0:Int) ≤ j := by omega
          have d4 : (j:Int) < row.length := by omega
          unfold ah1 at HT2
          rw [Int.toNat_natCast] at HT2
          generalize nth X b = lv at *
          by_cases hlv : lv < 0
          · have d5 : decide (lv < 0) = true := by simpa using hlv
            cases u with
            | true =>
              have hmem := hui.1 rfl
              rw [if_neg (fun h => h.2 hmem)] at HT2
              clear hui hmem
              go_wp2
              go_roundw
              case rel => exact ⟨j + 1, l', q, c, mm, f, by omega, by go_num, rfl, HT2.out.symm, hmm2, SH.out, HFN.out⟩
              case measure => simp [intOf]; omega
            | false =>
              have hmem : (b : Int) ∉ l' := fun h => by have := hui.2 h; cases this
              rw [if_pos ⟨hlv, hmem⟩] at HT2
              clear hui hmem
              go_wp2_with (first
                | (at_mapUpdate; go_must (refine wpList_update_sep rfl _ _ _ _ rfl Tryz.underlying3 Tryz.underlying96 rfl SH.out 1 rfl (by omega) (b : Int) true rfl rfl HI.out ?_; intro w1 S1 hg; have S2 := Lib.hid S1; clear S1 hg))
                | (at_builtin; go_must (refine wpList_append_sep rfl _ _ _ rfl 3 i0 _ 1 8 Tryz.underlying22 hi0 hz0 hz1 hz2 rfl (by omega) (S2.out.junk _) 0 q l'.length c _ rfl rfl _ 1 1 _ rfl (Rd.oneI _ _ _) (one_encI _) (by omega) (by omega) ?_; intro q' c' w3 S' hsz; have S3 := Lib.hid S'; clear S' hsz)))
              go_roundw
              case rel => exact ⟨j + 1, l' ++ [(b : Int)], q', c', mm + 1, _, by omega, by go_num, by rw [List.length_append]; rfl, HT2.out.symm, by rw [List.length_append]; simp; omega, by rw [List.length_append, encI_append]; exact S3.out, fun x => by
                rw [List.mem_append, List.mem_singleton, ← HFN.out x]
                unfold upF
                by_cases e : x = (b : Int) <;> simp [e]⟩
              case measure => simp [intOf]; omega
          · have d5 : decide (lv < 0) = false := by simpa using hlv
            rw [if_neg (fun h => hlv h.1)] at HT2
            clear hui hlk2
            go_wp2
            go_roundw
            case rel => exact ⟨j + 1, l', q, c, mm, f, by omega, by go_num, rfl, HT2.out.symm, hmm2, SH.out, HFN.out⟩
            case measure => simp [intOf]; omega
        · obtain rfl : j = row.length := by omega
          rw [List.take_length, ← HT.out] at hl'
          have HL' := Lib.hid hl'; clear hl'
          have HFN := Lib.hid hf; clear hf
          have SH := Lib.hid S; clear S
          go_wp2
          go_roundw
          case rel => exact ⟨k + 1, l', q, c, mm, f, by omega, by go_num, rfl, HL'.out, hmm2, SH.out, HFN.out⟩
          case measure => simp [intOf]; omega
    · obtain rfl : k = m := by omega
      rw [List.take_of_length_le (by rw [← L1.out]; omega)] at hL
      subst hL
      have SH := Lib.hid S; clear S
      clear hf
      go_wp2
      go_ret
      exact ⟨q, c, rfl, SH.out.pick [0] (by decide) rfl⟩
end Go.Proofs.YtgnjffnkmdodeaaGreat
/- The program's searches (chapter 8): a side takes the next level's places. -/
namespace Go.Proofs.YtgnjffnkmdodeaaGreat
open Go Go.RowKit
theorem set_ne {α : Type} {Γ : List α} {i j : Nat} {p q : α} (h : Γ[i]? = some p) (hne : i ≠ j) : (Γ.set j q)[i]? = some p := by
  rw [List.getElem?_set_ne (fun e => hne e.symm)]; exact h
theorem set_eq {α : Type} {Γ : List α} {j : Nat} {p q : α} (h : Γ[j]? = some p) : (Γ.set j q)[j]? = some q := List.getElem?_set_self (List.getElem?_eq_some_iff.1 h).1
set_option maxRecDepth 100000 in
set_option maxHeartbeats 4000000 in
theorem takeG {w0 w : World} {Γ : List Pc} (i j : Nat) (gs fid gr n : Nat) (ql : Option Addr) (cl : Nat) (X : List Int) (qf : Option Addr) (mf cf : Nat) (F : List Int) (qm : Option Addr) (m cm : Nat) (L : List Int) (S : Sep w0 w Γ)
    (hij : i ≠ j) (hi : Γ[i]? = some (.blk gs 70 #[.func (.func fid) #[] #[.pointer (some ⟨gr, 0, none⟩)], .slice ql n cl, .slice qf mf cf])) (hj : Γ[j]? = some (.own 3 1 ql n cl (encI X))) (hf : ∀ W Y, Sep w0 W (Γ.set j (.own 3 1 ql n cl Y)) → Rd W 1 qf mf (encI F)) (hp : ∀ W Y, Sep w0 W (Γ.set j (.own 3 1 ql n cl Y)) → Rd W 1 qm m (encI L))
    (hn : n ≤ 200) (hmf : 0 < mf) (hmf2 : mf ≤ 200) (hm : m ≤ 200) (hF : 0 ≤ nth F 0 ∧ nth F 0 < n) (hL : ∀ x ∈ L, 0 ≤ x ∧ x < n) (hne : nth F 0 ∉ L) (c : Int) (hc : nth X (nth F 0).toNat = c) (hc0 : 0 ≤ c ∧ c ≤ 1000) :
    Calls Tryz.prog 42 #[.pointer (some ⟨gs, 0, none⟩), .slice qm m cm] w fun e w' => (∃ v, e = .returned v) ∧ Sep w0 w' ((Γ.set j (.own 3 1 ql n cl (encI (tkR (c + 1) L X)))).set i (.blk gs 70 #[.func (.func fid) #[] #[.pointer (some ⟨gr, 0, none⟩)], .slice ql n cl, .slice qm m cm])) := by
  have LX : X.length = n := by have := (S.rd j hj (by omega)).nI; omega
  have e0 : Γ.set j (.own 3 1 ql n cl (encI X)) = Γ := by
    apply List.ext_getElem?
    intro t
    by_cases e : j = t
    · subst e; rw [set_eq hj, hj]
    · rw [List.getElem?_set_ne e]
  have LL : L.length = m := by have := (hp w (encI X) (by rw [e0]; exact S)).nI; omega
  have LX' := Lib.hid LX
  have LL' := Lib.hid LL
  have HL := Lib.hid hL
  obtain ⟨a, ha⟩ : ∃ a : Nat, nth F 0 = (a : Int) := ⟨(nth F 0).toNat, by omega⟩
  have HA : Hid (∀ k, nth (tkR (c + 1) (L.take k) X) a = c) := fun k => by
    rw [tkR_nth (fun x hx => by have := hL x (List.mem_of_mem_take hx); rw [LX]; omega), if_neg (fun h => hne (by rw [ha]; exact List.mem_of_mem_take h))]
    rw [ha, Int.toNat_natCast] at hc; exact hc
  have HAF := Lib.hid ha
  rw [ha] at hF
  clear hL hne hc LX LL ha
  go_enter Tryz.func42, Tryz.ntmps42
  go_wp2
  go_loopw [5, 8] (fun _ i wr => ∃ k : Nat, k ≤ m ∧ i = .int .i64 k ∧ Sep w0 wr (Γ.set j (.own 3 1 ql n cl (encI (tkR (c + 1) (L.take k) X))))) (fun _ i _ => m - (intOf i).toNat)
  case atStart => exact ⟨0, Nat.zero_le _, rfl, by show Sep w0 w (Γ.set j (.own 3 1 ql n cl (encI X))); rw [e0]; exact S⟩
  case round =>
    obtain ⟨k, hk, rfl, S1⟩ := hrel
    have az := (S1.blk i (set_ne hi hij)).lt; have a0 := (S1.blk i (set_ne hi hij)).cell 0; have a1 := (S1.blk i (set_ne hi hij)).cell 1; have a2 := (S1.blk i (set_ne hi hij)).cell 2
    have po := (S1.rd j (set_eq hj) (by omega)).ptr
    have pl := (hp _ _ S1).ptr
    have pf := (hf _ _ S1).ptr
    by_cases hlt : k < m
    · have hkL : k < L.length := by rw [LL'.out]; exact hlt
      have g1 := (hp _ _ S1).cI hlt
      have g2 := (hf _ _ S1).cI hmf
      have g3 := (S1.rd j (set_eq hj) (by omega)).cI (k := a) (by omega)
      rw [HA.out] at g3
      rw [HAF.out] at g2
      obtain ⟨f1, f2⟩ := HL.out _ (nth_mem hkL)
      obtain ⟨b, hb⟩ : ∃ b : Nat, nth L k = (b : Int) := ⟨(nth L k).toNat, by omega⟩
      have HT := Lib.hid (tkR_take (c := c + 1) (X := X) hkL)
      rw [hb] at g1 f1 f2 HT
      rw [Int.toNat_natCast] at HT
      clear hb
      have d1 : (0:Int) ≤ k := by omega
      have d2 : (k:Int) < m := by omega
      have d3 : (0:Int) < mf := by omega
      have d4 : (a:Int) < n := by omega
      have d5 : (0:Int) ≤ a := by omega
      have SH := Lib.hid S1; clear S1
      go_wp2
      have x1 := fun x : ExtOf wr => x.ext.cell a1
      have x2 := fun x : ExtOf wr => x.ext.cell a2
      have x4 := fun x : ExtOf wr => x.ext.cell g2
      have x5 := fun x : ExtOf wr => x.ext.cell g3
      refine wp_region_mix [true, true, true, true, true, true, true, true, true, true, true, true, true, true, true, true, true, true, true] (fun _ _ _ => True) (by kernel_rfl) (by kernel_rfl) (by kernel_rfl) (fun _ _ _ _ _ h => h) ?_
      simp only [nfM]
      repeat (go_big_quiet_step ((fail)))
      refine wpQuiet_nil ⟨trivial, fun vs W1 hE _ => ?_⟩
      have S2 := SH.out.call hE
      have po2 := (S2.rd j (set_eq hj) (by omega)).ptr
      have fz2 := own_frozen (S2.own j (set_eq hj)) (by omega) b
      have k1 := own_cell (S2.own j (set_eq hj)) (k := b) (by omega)
      have S3 := Lib.hid (S2.setRow j (set_eq hj) b (by omega) (.int .i64 (c + 1)))
      clear S2 x1 x2 x4 x5 g1 g2 g3 a0 a1 a2 az
      simp only [putM, List.length_cons, List.length_nil, Nat.zero_add, Nat.reduceAdd, List.drop_succ_cons, List.drop_zero]
      go_wp2
      go_roundw
      case rel => exact ⟨k + 1, by omega, by go_num, by rw [HT.out, ← encI_set]; have := S3.out; rw [List.set_set] at this; exact this⟩
      case measure => simp [intOf]; omega
    · obtain rfl : k = m := by omega
      rw [List.take_of_length_le (by rw [LL'.out]; exact Nat.le_refl _)] at S1
      have fz0 := (S1.blk i (set_ne hi hij)).frozen 2
      have SH := Lib.hid S1; clear S1
      go_wp2
      go_end0
      exact ⟨⟨_, rfl⟩, SH.out.set i (set_ne hi hij) 2 (.slice qm k cm)⟩
end Go.Proofs.YtgnjffnkmdodeaaGreat
/- The program's searches (chapter 8): the shortest walk over places that both sides have. -/
namespace Go.Proofs.YtgnjffnkmdodeaaGreat
open Go Go.RowKit
set_option maxRecDepth 100000 in
set_option maxHeartbeats 4000000 in
theorem bestG (fa fb gr ga gb n : Nat) (qa : Option Addr) (ca : Nat) (X : List Int) (pa : Option Addr) (ma da : Nat) (qb : Option Addr) (cb : Nat) (Y : List Int) (pb : Option Addr) (mb db : Nat) (w : World)
    (hA : Blk w ga 70 #[.func (.func fa) #[] #[.pointer (some ⟨gr, 0, none⟩)], .slice qa n ca, .slice pa ma da]) (hB : Blk w gb 70 #[.func (.func fb) #[] #[.pointer (some ⟨gr, 0, none⟩)], .slice qb n cb, .slice pb mb db]) (hX : Rd w 1 qa n (encI X)) (hY : Rd w 1 qb n (encI Y)) (hn : n ≤ 200)
    (bX : ∀ v, v < n → nth X v ≤ 1000) (bY : ∀ v, v < n → nth Y v ≤ 1000) :
    Calls Tryz.prog 64 #[.agg #[.pointer (some ⟨ga, 0, none⟩), .pointer (some ⟨gb, 0, none⟩)]] w fun e w' => e = .returned (.tuple #[.int .i64 (bestR X Y n).1, .bool (bestR X Y n).2]) ∧ Ext w w' := by
  have p1 := hX.ptr
  have p2 := hY.ptr
  have S0 := Lib.hid ((Sep.start w).al #[.pointer (some ⟨ga, 0, none⟩), .pointer (some ⟨gb, 0, none⟩)] 57 w.heap.size rfl)
  have HA := Lib.hid hA; clear hA
  have HB := Lib.hid hB; clear hB
  have HX := Lib.hid hX; clear hX
  have HY := Lib.hid hY; clear hY
  have BX := Lib.hid bX; clear bX
  have BY := Lib.hid bY; clear bY
  have az := (HA.out.ext S0.out.ext).lt; have a0 := (HA.out.ext S0.out.ext).cell 0; have a1 := (HA.out.ext S0.out.ext).cell 1; have a2 := (HA.out.ext S0.out.ext).cell 2
  have c0 := (S0.out.blk 0 rfl).cell 0
  have c1 := (S0.out.blk 0 rfl).cell 1
  have cz := (S0.out.blk 0 rfl).lt
  go_enter Tryz.func64, Tryz.ntmps64
  go_wp2
  go_loopw [4, 5, 6, 7, 8, 15] (fun m o _ _ _ i wr => ∃ k : Nat, k ≤ n ∧ i = .int .i64 k ∧ m = .int .i64 (bestR X Y k).1 ∧ o = .bool (bestR X Y k).2 ∧ Sep w wr [.blk w.heap.size 57 #[.pointer (some ⟨ga, 0, none⟩), .pointer (some ⟨gb, 0, none⟩)]]) (fun _ _ _ _ _ i _ => n - (intOf i).toNat)
  case atStart => exact ⟨0, Nat.zero_le _, rfl, rfl, rfl, S0.out⟩
  case round =>
    clear S0 a0 a1 a2 az c0 c1 cz
    obtain ⟨k, hk, rfl, rfl, rfl, S⟩ := hrel
    by_cases hlt : k < n
    · have az := (HA.out.ext S.ext).lt; have a0 := (HA.out.ext S.ext).cell 0; have a1 := (HA.out.ext S.ext).cell 1; have a2 := (HA.out.ext S.ext).cell 2
      have bz := (HB.out.ext S.ext).lt; have b0 := (HB.out.ext S.ext).cell 0; have b1 := (HB.out.ext S.ext).cell 1; have b2 := (HB.out.ext S.ext).cell 2
      have c0 := (S.blk 0 rfl).cell 0
      have c1 := (S.blk 0 rfl).cell 1
      have cz := (S.blk 0 rfl).lt
      have g1 := S.ext.cell (HX.out.cI hlt)
      have g2 := S.ext.cell (HY.out.cI hlt)
      have HS := Lib.hid (bestR_succ X Y k)
      have b1 := BX.out k hlt
      have b2 := BY.out k hlt
      unfold best1 at HS
      generalize bestR X Y k = s at *
      obtain ⟨m, o⟩ := s
      simp only at HS ⊢
      generalize nth X k = x at *
      generalize nth Y k = y at *
      have d1 : (0:Int) ≤ k := by omega
      have d2 : (k:Int) < n := by omega
      have SH := Lib.hid S; clear S
      by_cases hx : 0 ≤ x
      · have e1 : decide (0 ≤ x) = true := by simpa using hx
        by_cases hy : 0 ≤ y
        · have e2 : decide (0 ≤ y) = true := by simpa using hy
          cases o with
          | false =>
            rw [if_pos ⟨hx, hy, .inl rfl⟩] at HS
            go_wp2
            go_roundw
            case rel => exact ⟨k + 1, by omega, by go_num, by rw [HS.out], by rw [HS.out], SH.out⟩
            case measure => simp [intOf]; omega
          | true =>
            by_cases hm : x + y < m
            · have e3 : decide (x + y < m) = true := by simpa using hm
              rw [if_pos ⟨hx, hy, .inr hm⟩] at HS
              go_wp2
              go_roundw
              case rel => exact ⟨k + 1, by omega, by go_num, by rw [HS.out], by rw [HS.out], SH.out⟩
              case measure => simp [intOf]; omega
            · have e3 : decide (x + y < m) = false := by simpa using hm
              rw [if_neg (by rintro ⟨_, _, h | h⟩; cases h; exact hm h)] at HS
              go_wp2
              go_roundw
              case rel => exact ⟨k + 1, by omega, by go_num, by rw [HS.out], by rw [HS.out], SH.out⟩
              case measure => simp [intOf]; omega
        · have e2 : decide (0 ≤ y) = false := by simpa using hy
          rw [if_neg (fun h => hy h.2.1)] at HS
          go_wp2
          go_roundw
          case rel => exact ⟨k + 1, by omega, by go_num, by rw [HS.out], by rw [HS.out], SH.out⟩
          case measure => simp [intOf]; omega
      · have e1 : decide (0 ≤ x) = false := by simpa using hx
        rw [if_neg (fun h => hx h.1)] at HS
        go_wp2
        go_roundw
        case rel => exact ⟨k + 1, by omega, by go_num, by rw [HS.out], by rw [HS.out], SH.out⟩
        case measure => simp [intOf]; omega
    · obtain rfl : k = n := by omega
      have SH := Lib.hid S; clear S
      go_wp2
      go_ret2
      exact ⟨rfl, SH.out.ext⟩
end Go.Proofs.YtgnjffnkmdodeaaGreat
/- The program's searches (chapter 8): both sides go on till they meet, or one can't. -/
namespace Go.Proofs.YtgnjffnkmdodeaaGreat
open Go Go.RowKit
theorem Sep.freshMany {w0 w w' : World} {Γ : List Pc} {e : TypeId} {size : Nat} {rows : List (Hd × List Value)} (S : Sep w0 w Γ) (h : Ext w w') (ho : ∀ r ∈ rows, w'.ownsRow w.heap.size e size (.slice r.1.p r.1.n r.1.c) r.1.n r.2) : Sep w0 w' (.many e size rows :: Γ) :=
  S.comp (Δ := [.many e size rows]) ⟨h, fun p hp => by rw [List.mem_singleton] at hp; subst hp; exact fun r hr => own_base (ho r hr) (Nat.zero_le _), fun p hp k hk => by
    rw [List.mem_singleton] at hp; subst hp
    obtain ⟨r, hr, hk⟩ := hk
    exact (own_lt (ho r hr) hk).1, List.pairwise_singleton _ _⟩
theorem Sep.rdMany {w0 w : World} {Γ : List Pc} (S : Sep w0 w Γ) (j : Nat) {e : TypeId} {size : Nat} {rows : List (Hd × List Value)} (hj : Γ[j]? = some (.many e size rows)) {r : Hd × List Value} (hr : r ∈ rows) (hs : r.1.n ≤ 9223372036854775807) : Rd w size r.1.p r.1.n r.2 := Rd.of_own (S.manyAt j hj r hr) hs
section
variable {nx nb : Nat → List Int} {n s t : Nat} (h : Rev nx nb n) (hs : s < n) (ht : t < n)
include h hs ht in
theorem go_has {k : Nat} (h0 : 0 ≤ lev nx n s t) (hm : meetB n (lev nx n s) (lev nb n t) k = false) : hasL n (lev nx n s) ((k:Int) + 1) = true ∧ hasL n (lev nb n t) ((k:Int) + 1) = true ∧ 2 * (k:Int) < lev nx n s t := by
  have h2 : 2 * (k:Int) < lev nx n s t := by
    have := mt (meet_lev h hs ht (k := k)).2 (by rw [hm]; simp); omega
  refine ⟨?_, ?_, h2⟩
  · obtain ⟨v, hv, g1, _⟩ := lev_mid h hs ht (j := k + 1) h0 (by omega)
    exact hasL_iff.2 ⟨v, hv, by omega⟩
  · obtain ⟨v, hv, _, g1⟩ := lev_mid h hs ht (j := (lev nx n s t).toNat - (k + 1)) h0 (by omega)
    exact hasL_iff.2 ⟨v, hv, by omega⟩
end
def RunQ (b : Nat) (x y : List Int) (i : Nat) (v : Value) (W : World) : Prop :=
  match i with
  | 2 => ∃ q c, v = .slice q x.length c ∧ W.ownsRow b 3 1 (.slice q x.length c) x.length (encI x)
  | 5 => ∃ q c, v = .slice q y.length c ∧ W.ownsRow b 3 1 (.slice q y.length c) y.length (encI y)
  | _ => True
theorem RunQ_mono {b : Nat} {x y : List Int} : ∀ i v W W', Ext W W' → RunQ b x y i v W → RunQ b x y i v W' := by
  intro i v W W' he h
  unfold RunQ at *
  split at h <;> first | trivial | (obtain ⟨q, c, h1, h2⟩ := h; exact ⟨q, c, h1, he.own h2⟩)
set_option maxRecDepth 100000 in
set_option maxHeartbeats 8000000 in
theorem runG (po : Option Addr) (no co : Nat) (O : List Int) (pt : Option Addr) (nt ct : Nat) (T : List Int) (pr : Option Addr) (nr cr : Nat) (R : List Int) (pv : Option Addr) (nv cv : Nat) (V : List Int) (gr ga gb n s t : Nat) (qa qb qfa0 qfb0 : Option Addr) (w0 w : World) (hO : Rd w0 1 po no (encI O)) (hT : Rd w0 1 pt nt (encI T)) (hR : Rd w0 1 pr nr (encI R)) (hV : Rd w0 1 pv nv (encI V)) (hct : nt ≤ ct) (hcv : nv ≤ cv) (hck : checkR O T R V = true) (hno : O.length = n + 1) (hs : s < n) (ht : t < n)
    (S : Sep w0 w [.blk gb 70 #[.func (.func 62) #[] #[.pointer (some ⟨gr, 0, none⟩)], .slice qb n n, .slice qfb0 1 1], .own 3 1 qfb0 1 1 (encI [(t : Int)]), .own 3 1 qb n n (encI (bf0 n t)), .blk ga 70 #[.func (.func 61) #[] #[.pointer (some ⟨gr, 0, none⟩)], .slice qa n n, .slice qfa0 1 1], .own 3 1 qfa0 1 1 (encI [(s : Int)]), .own 3 1 qa n n (encI (bf0 n s)), .blk gr 24 #[.slice po no co, .slice pt nt ct, .slice pr nr cr, .slice pv nv cv]]) :
    Calls Tryz.prog 37 #[.agg #[.pointer (some ⟨ga, 0, none⟩), .pointer (some ⟨gb, 0, none⟩)]] w fun e w' => e = .returned (.tuple #[.int .i64 (stepsN n (lev (rowL O T) n s) (lev (rowL R V) n t)), .int .i64 (distN (lev (rowL O T) n s t)), .bool (distB (lev (rowL O T) n s t))]) ∧ Ext w0 w' := by
  obtain ⟨e1, e2, e3, e4⟩ := checkR_half hck
  have r3 := offB_parts (halfB_off e3)
  have hn : n ≤ 200 := by omega
  have HREV : Hid (Rev (rowL O T) (rowL R V) n) := by have := nxR_rev hck false; rw [hno] at this; exact this
  have HIA : Hid (InN (rowL O T) n) := by have := row_in e3; rw [hno] at this; exact this
  have HIB : Hid (InN (rowL R V) n) := by have := row_in e4; rw [← e1, hno] at this; exact this
  have HNA := Lib.hid (fun W (h : Ext w0 W) (hB : Blk W gr 24 #[.slice po no co, .slice pt nt ct, .slice pr nr cr, .slice pv nv cv]) k (hk : k < n) => open1Gr po no co O pt nt ct T pr nr cr R pv nv cv V gr k W (hO.ext h) (hT.ext h) (offOk_of (halfB_off e3)) hct (by omega) hB)
  have HNB := Lib.hid (fun W (h : Ext w0 W) (hB : Blk W gr 24 #[.slice po no co, .slice pt nt ct, .slice pr nr cr, .slice pv nv cv]) k (hk : k < n) => open2Gr po no co O pt nt ct T pr nr cr R pv nv cv V gr k W (hR.ext h) (hV.ext h) (offOk_of (halfB_off e4)) hcv (by omega) hB)
  have S0 := Lib.hid ((((((S.many0 3 1).pick [5, 0, 1, 2, 3, 4, 6, 7] (by decide) rfl).gather).pick [2, 0, 1, 3, 4, 5, 6] (by decide) rfl).gather.al #[.pointer (some ⟨ga, 0, none⟩), .pointer (some ⟨gb, 0, none⟩)] 57 w.heap.size rfl).pick [1, 2, 3, 4, 5, 6, 0] (by decide) rfl)
  clear S hO hT hR hV hct hcv hck e1 e2 e3 e4 r3 hno
  have HSA := cut_0 (nx := rowL O T) hs
  have HSB := cut_0 (nx := rowL R V) ht
  generalize rowL O T = na at *
  generalize rowL R V = nb at *
  go_enter Tryz.func37, Tryz.ntmps37
  go_wp2
  go_step3
  go_wp2
  go_step3
  go_wp2
  go_loopw [2, 3, 4, 5, 6] (fun i _ _ _ _ wr => ∃ (k : Nat) (Fa Fb : List Int) (qfa qfb : Option Addr) (cfa cfb : Nat), k < n ∧ i = .int .i64 k ∧ IsFront (lev na n s) n k Fa ∧ IsFront (lev nb n t) n k Fb ∧ 0 < Fa.length ∧ 0 < Fb.length ∧ (0 ≤ lev na n s t → 2 * (k:Int) ≤ lev na n s t + 1) ∧ stepsK n (lev na n s) (lev nb n t) (n + 1 - k) k = stepsN n (lev na n s) (lev nb n t) ∧ Sep w0 wr [.many 3 1 [(⟨qfa, Fa.length, cfa⟩, encI Fa), (⟨qfb, Fb.length, cfb⟩, encI Fb)], .blk gb 70 #[.func (.func 62) #[] #[.pointer (some ⟨gr, 0, none⟩)], .slice qb n n, .slice qfb Fb.length cfb], .own 3 1 qb n n (encI (cutL (lev nb n t) n k)), .blk ga 70 #[.func (.func 61) #[] #[.pointer (some ⟨gr, 0, none⟩)], .slice qa n n, .slice qfa Fa.length cfa], .own 3 1 qa n n (encI (cutL (lev na n s) n k)), .blk gr 24 #[.slice po no co, .slice pt nt ct, .slice pr nr cr, .slice pv nv cv], .blk w.heap.size 57 #[.pointer (some ⟨ga, 0, none⟩), .pointer (some ⟨gb, 0, none⟩)]]) (fun i _ _ _ _ _ => n - (intOf i).toNat)
  case atStart => exact ⟨0, [(s:Int)], [(t:Int)], qfa0, qfb0, 1, 1, by omega, rfl, front_0 hs, front_0 ht, by simp, by simp, fun h => by omega, rfl, by rw [show ((0 : Nat) : Int) = 0 from rfl, HSA, HSB]; exact S0.out⟩
  case round =>
    clear S0
    obtain ⟨k, Fa, Fb, qfa, qfb, cfa, cfb, hkn, rfl, hFa, hFb, la, lb, hD, hst, S⟩ := hrel
    have RFA := S.rdMany 0 rfl (r := (⟨qfa, Fa.length, cfa⟩, encI Fa)) (by simp) (by have := nodup_small (n := n) hFa.1 (fun x hx => by have := (hFa.2 x).1 hx; omega); simp only; omega)
    have RFB := S.rdMany 0 rfl (r := (⟨qfb, Fb.length, cfb⟩, encI Fb)) (by simp) (by have := nodup_small (n := n) hFb.1 (fun x hx => by have := (hFb.2 x).1 hx; omega); simp only; omega)
    have lfa := nodup_small (n := n) hFa.1 (fun x hx => by have := (hFa.2 x).1 hx; omega)
    have lfb := nodup_small (n := n) hFb.1 (fun x hx => by have := (hFb.2 x).1 hx; omega)
    have HBest := Lib.hid (bestG 61 62 gr ga gb n qa n (cutL (lev na n s) n k) qfa Fa.length cfa qb n (cutL (lev nb n t) n k) qfb Fb.length cfb wr (S.blk 3 rfl) (S.blk 1 rfl) (S.rd 4 rfl (by omega)) (S.rd 2 rfl (by omega)) hn
      (fun v hv => by rw [cutL_nth hv]; unfold cut; split <;> omega) (fun v hv => by rw [cutL_nth hv]; unfold cut; split <;> omega))
    obtain ⟨BY, BN⟩ := best_lev HREV.out hs ht hD
    have pz := (S.blk 6 rfl).lt
    have p0 := (S.blk 6 rfl).cell 0
    have p1 := (S.blk 6 rfl).cell 1
    cases hm : meetB n (lev na n s) (lev nb n t) k with
    | true =>
      rw [BY hm] at HBest
      have hd := (meet_lev HREV.out hs ht).1 hm
      have hdn : Hid (distN (lev na n s t) = lev na n s t ∧ distB (lev na n s t) = true) := by
        unfold Hid distN distB; rw [if_pos hd.1]; exact ⟨rfl, by simpa using hd.1⟩
      have hst2 : Hid (stepsN n (lev na n s) (lev nb n t) = k) := by
        unfold Hid
        rw [← hst, show n + 1 - k = (n - k) + 1 by omega]; exact stepsK_meet hm
      obtain ⟨D, hDe⟩ : ∃ D, D = lev na n s t := ⟨_, rfl⟩
      rw [← hDe] at HBest
      have hDe' := Lib.hid hDe
      have SH := Lib.hid S; clear S
      clear BY BN hD hst hm hd hFa hFb la lb RFA RFB lfa lfb HNA HNB HREV HIA HIB HSA HSB hDe
      go_wp2_with (go_at_call 64; go_must (refine HBest.out.mono ?_; rintro e w1 ⟨rfl, hb⟩; have S1 := Lib.hid (SH.out.call hb); clear hb))
      rw [Exit.noGoto_ret]
      go_ret3
      exact ⟨by rw [hst2.out, hdn.out.1, hdn.out.2, ← hDe'.out]; rfl, S1.out.ext⟩
    | false =>
      rw [BN hm] at HBest
      have HX := Lib.hid (front_next hs HIA.out hFa (X := cutL (lev na n s) n k) (fun v hv => by rw [cutL_nth hv]; exact cut_lt))
      have HY := Lib.hid (front_next ht HIB.out hFb (X := cutL (lev nb n t) n k) (fun v hv => by rw [cutL_nth hv]; exact cut_lt))
      have hm' := Lib.hid hm
      have hst' := Lib.hid hst
      have hD' := Lib.hid hD
      have BA := Lib.hid (fun x hx => ⟨((hFa.2 x).1 hx).1, ((hFa.2 x).1 hx).2.1⟩ : ∀ x ∈ Fa, 0 ≤ x ∧ x < n)
      have BB := Lib.hid (fun x hx => ⟨((hFb.2 x).1 hx).1, ((hFb.2 x).1 hx).2.1⟩ : ∀ x ∈ Fb, 0 ≤ x ∧ x < n)
      have FAH := Lib.hid hFa
      have FBH := Lib.hid hFb
      have SH := Lib.hid S; clear S
      clear BY BN hD hst hm hFa hFb RFA RFB HSA HSB
      go_wp2_with (go_at_call 64; go_must (refine HBest.out.mono ?_; rintro e w1 ⟨rfl, hb⟩; have S1 := Lib.hid (SH.out.call hb); clear hb))
      have HA1 := Lib.hid (fun W (h : Ext w1 W) => ahead1 ga gr n qa n (cutL (lev na n s) n k) qfa Fa.length cfa Fa na W ((S1.out.blk 3 rfl).ext h) ((S1.out.rd 4 rfl (by omega)).ext h) ((S1.out.rdMany 0 rfl (r := (⟨qfa, Fa.length, cfa⟩, encI Fa)) (by simp) (by simp only; omega)).ext h) hn BA.out HIA.out (HNA.out W (Ext.trans S1.out.ext h) ((S1.out.blk 5 rfl).ext h)))
      have HA2 := Lib.hid (fun W (h : Ext w1 W) => ahead2 gb gr n qb n (cutL (lev nb n t) n k) qfb Fb.length cfb Fb nb W ((S1.out.blk 1 rfl).ext h) ((S1.out.rd 2 rfl (by omega)).ext h) ((S1.out.rdMany 0 rfl (r := (⟨qfb, Fb.length, cfb⟩, encI Fb)) (by simp) (by simp only; omega)).ext h) hn BB.out HIB.out (HNB.out W (Ext.trans S1.out.ext h) ((S1.out.blk 5 rfl).ext h)))
      generalize ahF na (cutL (lev na n s) n k) Fa [] = x at *
      generalize ahF nb (cutL (lev nb n t) n k) Fb [] = y at *
      have lx := nodup_small (n := n) HX.out.1 (fun v hv => by have := (HX.out.2 v).1 hv; omega)
      have ly := nodup_small (n := n) HY.out.1 (fun v hv => by have := (HY.out.2 v).1 hv; omega)
      have q0 := (S1.out.blk 6 rfl).cell 0
      have q1 := (S1.out.blk 6 rfl).cell 1
      clear HBest SH
      have y0 := fun x : ExtOf w1 => x.ext.cell q0
      have y1 := fun x : ExtOf w1 => x.ext.cell q1
      refine wp_region_mix [true, true, false, true, true, false] (RunQ w1.heap.size x y) (by kernel_rfl) (by kernel_rfl) (by kernel_rfl) RunQ_mono ?_
      simp only [nfM]
      repeat (go_big_quiet_step ((fail)))
      refine wpQuiet_nil ⟨⟨fun vs W1 hE hd => ?_, fun vs W1 hE hd => ?_, trivial⟩, fun vs W1 hE hkn => ?_⟩
      · simp [putM, execOp, go_sem]
        exact (HA1.out _ hE).mono fun e w' ⟨q, c, h1, S⟩ => ⟨_, h1, ⟨q, c, rfl, own_base (S.own 0 rfl) hE.size⟩, S.ext⟩
      · simp [putM, execOp, go_sem]
        exact (HA2.out _ hE).mono fun e w' ⟨q, c, h1, S⟩ => ⟨_, h1, ⟨q, c, rfl, own_base (S.own 0 rfl) hE.size⟩, S.ext⟩
      obtain ⟨⟨qx, cx, k1, ox⟩, ⟨qy, cy, k2, oy⟩, _⟩ := hkn
      have S2 := Lib.hid (S1.out.freshMany hE (rows := [(⟨qx, x.length, cx⟩, encI x), (⟨qy, y.length, cy⟩, encI y)]) (fun r hr => by
        simp only [List.mem_cons, List.not_mem_nil, or_false] at hr
        rcases hr with rfl | rfl
        · exact ox
        · exact oy))
      simp only [putM, k1, k2, List.length_cons, List.length_nil, Nat.zero_add, Nat.reduceAdd, List.drop_succ_cons, List.drop_zero]
      clear y0 y1 k1 k2 ox oy hE q0 q1 HA1 HA2 S1
      have r0 := (S2.out.blk 7 rfl).cell 0
      have r1 := (S2.out.blk 7 rfl).cell 1
      have rz := (S2.out.blk 7 rfl).lt
      have HEND : Hid (x.length = 0 ∨ y.length = 0 → stepsN n (lev na n s) (lev nb n t) = k ∧ distN (lev na n s t) = 0 ∧ distB (lev na n s t) = false) := fun h0 => by
        have hno : ¬ (hasL n (lev na n s) ((k:Int) + 1) = true ∧ hasL n (lev nb n t) ((k:Int) + 1) = true) := by
          rintro ⟨g1, g2⟩
          have g1 := (front_has HX.out).1 g1
          have g2 := (front_has HY.out).1 g2
          omega
        have hneg : lev na n s t < 0 := by
          apply Classical.byContradiction
          intro hge
          have := go_has HREV.out hs ht (by omega) hm'.out
          exact hno ⟨this.1, this.2.1⟩
        refine ⟨?_, ?_, ?_⟩
        · have h1 := hst'.out
          rw [show n + 1 - k = (n - k) + 1 by omega, stepsK_end hm'.out hno] at h1
          exact h1.symm
        · unfold distN; rw [if_neg (by omega)]
        · unfold distB; simp; omega
      by_cases hx0 : x.length = 0
      · have c1 : ((x.length : Int) == 0) = true := by simp [hx0]
        have HE := Lib.hid (HEND.out (.inl hx0))
        go_wp2
        rw [Exit.noGoto_ret]
        go_ret3
        exact ⟨by rw [HE.out.1, HE.out.2.1, HE.out.2.2]; rfl, S2.out.ext⟩
      · have c1 : ((x.length : Int) == 0) = false := by rw [beq_eq_false_iff_ne]; omega
        by_cases hy0 : y.length = 0
        · have c2 : ((y.length : Int) == 0) = true := by simp [hy0]
          have HE := Lib.hid (HEND.out (.inr hy0))
          go_wp2
          rw [Exit.noGoto_ret]
          go_ret3
          exact ⟨by rw [HE.out.1, HE.out.2.1, HE.out.2.2]; rfl, S2.out.ext⟩
        · have c2 : ((y.length : Int) == 0) = false := by rw [beq_eq_false_iff_ne]; omega
          clear HEND
          have hfa0 := (FAH.out.2 _).1 (nth_mem (l := Fa) (k := 0) la)
          have hfb0 := (FBH.out.2 _).1 (nth_mem (l := Fb) (k := 0) lb)
          have HTA := Lib.hid (take_cut HX.out)
          have HTB := Lib.hid (take_cut HY.out)
          have T1 := Lib.hid (takeG 4 5 ga 61 gr n qa n (cutL (lev na n s) n k) qfa Fa.length cfa Fa qx x.length cx x S2.out (by decide) rfl rfl
            (fun W Y S => S.rdMany 1 rfl (r := (⟨qfa, Fa.length, cfa⟩, encI Fa)) (by simp) (by simp only; omega))
            (fun W Y S => S.rdMany 0 rfl (r := (⟨qx, x.length, cx⟩, encI x)) (by simp) (by simp only; omega))
            hn la (by omega) (by omega) ⟨hfa0.1, hfa0.2.1⟩ (fun v hv => ⟨((HX.out.2 v).1 hv).1, ((HX.out.2 v).1 hv).2.1⟩) (fun h => by have := ((HX.out.2 _).1 h).2.2; omega)
            (k:Int) (by rw [cutL_nth (by omega)]; unfold cut; rw [if_pos (by omega)]; exact hfa0.2.2) (by omega))
          rw [HTA.out] at T1
          have T2 := Lib.hid (fun (w2 : World) (S : Sep w0 w2 [.many 3 1 [(⟨qx, x.length, cx⟩, encI x), (⟨qy, y.length, cy⟩, encI y)], .many 3 1 [(⟨qfa, Fa.length, cfa⟩, encI Fa), (⟨qfb, Fb.length, cfb⟩, encI Fb)], .blk gb 70 #[.func (.func 62) #[] #[.pointer (some ⟨gr, 0, none⟩)], .slice qb n n, .slice qfb Fb.length cfb], .own 3 1 qb n n (encI (cutL (lev nb n t) n k)), .blk ga 70 #[.func (.func 61) #[] #[.pointer (some ⟨gr, 0, none⟩)], .slice qa n n, .slice qx x.length cx], .own 3 1 qa n n (encI (cutL (lev na n s) n (k + 1 : Nat))), .blk gr 24 #[.slice po no co, .slice pt nt ct, .slice pr nr cr, .slice pv nv cv], .blk w.heap.size 57 #[.pointer (some ⟨ga, 0, none⟩), .pointer (some ⟨gb, 0, none⟩)]]) =>
            takeG 2 3 gb 62 gr n qb n (cutL (lev nb n t) n k) qfb Fb.length cfb Fb qy y.length cy y S (by decide) rfl rfl
            (fun W Y S => S.rdMany 1 rfl (r := (⟨qfb, Fb.length, cfb⟩, encI Fb)) (by simp) (by simp only; omega))
            (fun W Y S => S.rdMany 0 rfl (r := (⟨qy, y.length, cy⟩, encI y)) (by simp) (by simp only; omega))
            hn lb (by omega) (by omega) ⟨hfb0.1, hfb0.2.1⟩ (fun v hv => ⟨((HY.out.2 v).1 hv).1, ((HY.out.2 v).1 hv).2.1⟩) (fun h => by have := ((HY.out.2 _).1 h).2.2; omega)
            (k:Int) (by rw [cutL_nth (by omega)]; unfold cut; rw [if_pos (by omega)]; exact hfb0.2.2) (by omega))
          rw [HTB.out] at T2
          clear HTA HTB hfa0 hfb0
          have hk1 : k + 1 < n := has_lt hs ((front_has HX.out).2 (by omega))
          have HDD : Hid (0 ≤ lev na n s t → 2 * ((k + 1 : Nat) : Int) ≤ lev na n s t + 1) := fun h0 => by
            have := (go_has HREV.out hs ht h0 hm'.out).2.2; omega
          have HSS : Hid (stepsK n (lev na n s) (lev nb n t) (n + 1 - (k + 1)) (k + 1) = stepsN n (lev na n s) (lev nb n t)) := by
            unfold Hid
            rw [← hst'.out, show n + 1 - k = (n - k) + 1 by omega, show n + 1 - (k + 1) = n - k by omega]
            exact (stepsK_go hm'.out ⟨(front_has HX.out).2 (by omega), (front_has HY.out).2 (by omega)⟩).symm
          go_wp2_with (first
            | (go_at_call 42; have _t := S3; go_must (refine (T2.out _ S3.out).mono ?_; rintro e w3 ⟨⟨v2, rfl⟩, Z⟩; have S4 := Lib.hid ((Z.pick [0, 2, 3, 4, 5, 6, 7] (by decide) rfl) : Sep w0 w3 [.many 3 1 [(⟨qx, x.length, cx⟩, encI x), (⟨qy, y.length, cy⟩, encI y)], .blk gb 70 #[.func (.func 62) #[] #[.pointer (some ⟨gr, 0, none⟩)], .slice qb n n, .slice qy y.length cy], .own 3 1 qb n n (encI (cutL (lev nb n t) n (k + 1 : Nat))), .blk ga 70 #[.func (.func 61) #[] #[.pointer (some ⟨gr, 0, none⟩)], .slice qa n n, .slice qx x.length cx], .own 3 1 qa n n (encI (cutL (lev na n s) n (k + 1 : Nat))), .blk gr 24 #[.slice po no co, .slice pt nt ct, .slice pr nr cr, .slice pv nv cv], .blk w.heap.size 57 #[.pointer (some ⟨ga, 0, none⟩), .pointer (some ⟨gb, 0, none⟩)]]); clear Z))
            | (go_at_call 42; go_must (refine T1.out.mono ?_; rintro e w2 ⟨⟨v1, rfl⟩, Z⟩; have S3 := Lib.hid (Z : Sep w0 w2 [.many 3 1 [(⟨qx, x.length, cx⟩, encI x), (⟨qy, y.length, cy⟩, encI y)], .many 3 1 [(⟨qfa, Fa.length, cfa⟩, encI Fa), (⟨qfb, Fb.length, cfb⟩, encI Fb)], .blk gb 70 #[.func (.func 62) #[] #[.pointer (some ⟨gr, 0, none⟩)], .slice qb n n, .slice qfb Fb.length cfb], .own 3 1 qb n n (encI (cutL (lev nb n t) n k)), .blk ga 70 #[.func (.func 61) #[] #[.pointer (some ⟨gr, 0, none⟩)], .slice qa n n, .slice qx x.length cx], .own 3 1 qa n n (encI (cutL (lev na n s) n (k + 1 : Nat))), .blk gr 24 #[.slice po no co, .slice pt nt ct, .slice pr nr cr, .slice pv nv cv], .blk w.heap.size 57 #[.pointer (some ⟨ga, 0, none⟩), .pointer (some ⟨gb, 0, none⟩)]]); have q0 := (S3.out.blk 7 rfl).cell 0; have q1 := (S3.out.blk 7 rfl).cell 1; have qz := (S3.out.blk 7 rfl).lt; clear Z)))
          go_roundw
          case rel => exact ⟨k + 1, x, y, qx, qy, cx, cy, hk1, by go_num, HX.out, HY.out, by omega, by omega, HDD.out, HSS.out, S4.out⟩
          case measure => simp [intOf]; omega
end Go.Proofs.YtgnjffnkmdodeaaGreat
/- The program's searches (chapter 8): open, Dist, Steps. -/
namespace Go.Proofs.YtgnjffnkmdodeaaGreat
open Go Go.RowKit
/-- the error of two places -/
def pairC (ck : Bool) (O : List Int) (s t : Int) : Int := if ck = true then (if (0 ≤ s ∧ s < (O.length : Int) - 1) ∧ 0 ≤ t ∧ t < (O.length : Int) - 1 then 0 else 1) else 40
set_option maxRecDepth 100000 in
set_option maxHeartbeats 4000000 in
theorem openG_no (po : Option Addr) (no co : Nat) (O : List Int) (pt : Option Addr) (nt ct : Nat) (T : List Int) (pr : Option Addr) (nr cr : Nat) (R : List Int) (pv : Option Addr) (nv cv : Nat) (V : List Int) (s t : Int) (w : World) (hO : Rd w 1 po no (encI O)) (hT : Rd w 1 pt nt (encI T)) (hR : Rd w 1 pr nr (encI R)) (hV : Rd w 1 pv nv (encI V)) (hct : nt ≤ ct) (hcv : nv ≤ cv) (hc : pairC (checkR O T R V) O s t ≠ 0) :
    Calls Tryz.prog 36 #[.agg #[.slice po no co, .slice pt nt ct, .slice pr nr cr, .slice pv nv cv], .int .i64 s, .int .i64 t] w fun e w' => e = .returned (.tuple #[.agg #[.pointer none, .pointer none], .int .i64 (pairC (checkR O T R V) O s t)]) ∧ Ext w w' := by
  have S0 := Lib.hid (((Sep.start w).al #[.slice po no co, .slice pt nt ct, .slice pr nr cr, .slice pv nv cv] 24 w.heap.size rfl).al #[.pointer none, .pointer none] 57 (w.heap.size + 1) (by simp))
  have HC := Lib.hid (fun W1 (h : Ext w W1) => CheckR po no co O pt nt ct T pr nr cr R pv nv cv V W1 (hO.ext h) (hT.ext h) (hR.ext h) (hV.ext h) hct hcv)
  have l1 := hO.nI
  have n1 := hO.small
  clear hO hT hR hV
  unfold pairC at *
  cases hck : checkR O T R V with
  | false =>
    rw [hck] at HC
    clear hck hc l1
    rw [if_neg (by simp)]
    go_enter Tryz.func36, Tryz.ntmps36
    go_wp2_with (go_at_call 24; go_must (refine (HC.out _ S0.out.ext).mono ?_; rintro e w1 ⟨rfl, hb⟩; have S1 := Lib.hid (S0.out.call hb); have pz := (S1.out.blk 0 rfl).lt; have p0 := (S1.out.blk 0 rfl).cell 0; have p1 := (S1.out.blk 0 rfl).cell 1; have pf := (S1.out.blk 0 rfl).frozen 0; have pg := (S1.out.blk 0 rfl).frozen 1; clear hb))
    have S7 := ((S1.out.set 0 rfl 0 (.pointer none)).set 0 rfl 1 (.pointer none))
    have b0 := (S7.blk 0 rfl).cell 0
    have b1 := (S7.blk 0 rfl).cell 1
    refine bodyPost_ret (v := .tuple #[.agg #[.pointer none, .pointer none], .int .i64 40]) (by simp [results, Tryz.results36, go_sem, b0, b1, Tryz.sizeOf57, Tryz.isAgg57]) rfl ⟨rfl, S7.ext⟩
  | true =>
    rw [hck, if_pos rfl] at hc
    rw [hck] at HC
    rw [if_pos rfl]
    have hno : ¬ ((0 ≤ s ∧ s < (O.length : Int) - 1) ∧ 0 ≤ t ∧ t < (O.length : Int) - 1) := fun h => by rw [if_pos h] at hc; exact hc rfl
    rw [if_neg hno]
    clear hck hc
    by_cases h1 : s < 0
    · have d1 : decide (s < 0) = true := by simpa using h1
      clear hno l1
      go_enter Tryz.func36, Tryz.ntmps36
      go_wp2_with (go_at_call 24; go_must (refine (HC.out _ S0.out.ext).mono ?_; rintro e w1 ⟨rfl, hb⟩; have S1 := Lib.hid (S0.out.call hb); have pz := (S1.out.blk 0 rfl).lt; have p0 := (S1.out.blk 0 rfl).cell 0; have p1 := (S1.out.blk 0 rfl).cell 1; have pf := (S1.out.blk 0 rfl).frozen 0; have pg := (S1.out.blk 0 rfl).frozen 1; clear hb))
      have S7 := ((S1.out.set 0 rfl 0 (.pointer none)).set 0 rfl 1 (.pointer none))
      have b0 := (S7.blk 0 rfl).cell 0
      have b1 := (S7.blk 0 rfl).cell 1
      refine bodyPost_ret (v := .tuple #[.agg #[.pointer none, .pointer none], .int .i64 1]) (by simp [results, Tryz.results36, go_sem, b0, b1, Tryz.sizeOf57, Tryz.isAgg57]) rfl ⟨rfl, S7.ext⟩
    · have d1 : decide (s < 0) = false := by simpa using h1
      by_cases h2 : (no:Int) - 1 ≤ s
      · have d2 : decide ((no:Int) - 1 ≤ s) = true := by simpa using h2
        clear hno l1
        go_enter Tryz.func36, Tryz.ntmps36
        go_wp2_with (go_at_call 24; go_must (refine (HC.out _ S0.out.ext).mono ?_; rintro e w1 ⟨rfl, hb⟩; have S1 := Lib.hid (S0.out.call hb); have pz := (S1.out.blk 0 rfl).lt; have p0 := (S1.out.blk 0 rfl).cell 0; have p1 := (S1.out.blk 0 rfl).cell 1; have pf := (S1.out.blk 0 rfl).frozen 0; have pg := (S1.out.blk 0 rfl).frozen 1; clear hb))
        have S7 := ((S1.out.set 0 rfl 0 (.pointer none)).set 0 rfl 1 (.pointer none))
        have b0 := (S7.blk 0 rfl).cell 0
        have b1 := (S7.blk 0 rfl).cell 1
        refine bodyPost_ret (v := .tuple #[.agg #[.pointer none, .pointer none], .int .i64 1]) (by simp [results, Tryz.results36, go_sem, b0, b1, Tryz.sizeOf57, Tryz.isAgg57]) rfl ⟨rfl, S7.ext⟩
      · have d2 : decide ((no:Int) - 1 ≤ s) = false := by simpa using h2
        by_cases h3 : t < 0
        · have d3 : decide (t < 0) = true := by simpa using h3
          clear hno l1
          go_enter Tryz.func36, Tryz.ntmps36
          go_wp2_with (go_at_call 24; go_must (refine (HC.out _ S0.out.ext).mono ?_; rintro e w1 ⟨rfl, hb⟩; have S1 := Lib.hid (S0.out.call hb); have pz := (S1.out.blk 0 rfl).lt; have p0 := (S1.out.blk 0 rfl).cell 0; have p1 := (S1.out.blk 0 rfl).cell 1; have pf := (S1.out.blk 0 rfl).frozen 0; have pg := (S1.out.blk 0 rfl).frozen 1; clear hb))
          have S7 := ((S1.out.set 0 rfl 0 (.pointer none)).set 0 rfl 1 (.pointer none))
          have b0 := (S7.blk 0 rfl).cell 0
          have b1 := (S7.blk 0 rfl).cell 1
          refine bodyPost_ret (v := .tuple #[.agg #[.pointer none, .pointer none], .int .i64 1]) (by simp [results, Tryz.results36, go_sem, b0, b1, Tryz.sizeOf57, Tryz.isAgg57]) rfl ⟨rfl, S7.ext⟩
        · have d3 : decide (t < 0) = false := by simpa using h3
          have h4 : (no:Int) - 1 ≤ t := by
            apply Classical.byContradiction
            intro h4
            exact hno (by omega)
          have d4 : decide ((no:Int) - 1 ≤ t) = true := by simpa using h4
          clear hno l1
          go_enter Tryz.func36, Tryz.ntmps36
          go_wp2_with (go_at_call 24; go_must (refine (HC.out _ S0.out.ext).mono ?_; rintro e w1 ⟨rfl, hb⟩; have S1 := Lib.hid (S0.out.call hb); have pz := (S1.out.blk 0 rfl).lt; have p0 := (S1.out.blk 0 rfl).cell 0; have p1 := (S1.out.blk 0 rfl).cell 1; have pf := (S1.out.blk 0 rfl).frozen 0; have pg := (S1.out.blk 0 rfl).frozen 1; clear hb))
          have S7 := ((S1.out.set 0 rfl 0 (.pointer none)).set 0 rfl 1 (.pointer none))
          have b0 := (S7.blk 0 rfl).cell 0
          have b1 := (S7.blk 0 rfl).cell 1
          refine bodyPost_ret (v := .tuple #[.agg #[.pointer none, .pointer none], .int .i64 1]) (by simp [results, Tryz.results36, go_sem, b0, b1, Tryz.sizeOf57, Tryz.isAgg57]) rfl ⟨rfl, S7.ext⟩
set_option maxRecDepth 100000 in
set_option maxHeartbeats 4000000 in
theorem openG_yes (po : Option Addr) (no co : Nat) (O : List Int) (pt : Option Addr) (nt ct : Nat) (T : List Int) (pr : Option Addr) (nr cr : Nat) (R : List Int) (pv : Option Addr) (nv cv : Nat) (V : List Int) (n s t : Nat) (w : World) (hO : Rd w 1 po no (encI O)) (hT : Rd w 1 pt nt (encI T)) (hR : Rd w 1 pr nr (encI R)) (hV : Rd w 1 pv nv (encI V)) (hct : nt ≤ ct) (hcv : nv ≤ cv) (hck : checkR O T R V = true) (hno : O.length = n + 1) (hs : s < n) (ht : t < n) :
    Calls Tryz.prog 36 #[.agg #[.slice po no co, .slice pt nt ct, .slice pr nr cr, .slice pv nv cv], .int .i64 s, .int .i64 t] w fun e w' => ∃ gr ga gb qa qb qfa0 qfb0, e = .returned (.tuple #[.agg #[.pointer (some ⟨ga, 0, none⟩), .pointer (some ⟨gb, 0, none⟩)], .int .i64 0]) ∧
      Sep w w' [.blk gb 70 #[.func (.func 62) #[] #[.pointer (some ⟨gr, 0, none⟩)], .slice qb n n, .slice qfb0 1 1], .own 3 1 qfb0 1 1 (encI [(t : Int)]), .own 3 1 qb n n (encI (bf0 n t)), .blk ga 70 #[.func (.func 61) #[] #[.pointer (some ⟨gr, 0, none⟩)], .slice qa n n, .slice qfa0 1 1], .own 3 1 qfa0 1 1 (encI [(s : Int)]), .own 3 1 qa n n (encI (bf0 n s)), .blk gr 24 #[.slice po no co, .slice pt nt ct, .slice pr nr cr, .slice pv nv cv]] := by
  have S0 := Lib.hid (((Sep.start w).al #[.slice po no co, .slice pt nt ct, .slice pr nr cr, .slice pv nv cv] 24 w.heap.size rfl).al #[.pointer none, .pointer none] 57 (w.heap.size + 1) (by simp))
  have HC := Lib.hid (fun W1 (h : Ext w W1) => CheckR po no co O pt nt ct T pr nr cr R pv nv cv V W1 (hO.ext h) (hT.ext h) (hR.ext h) (hV.ext h) hct hcv)
  have l1 := hO.nI
  have r := offB_parts (halfB_off (checkR_half hck).2.2.1)
  have hn : n ≤ 200 := by omega
  rw [hck] at HC
  have hno2 : (no:Int) = (n:Int) + 1 := by omega
  obtain rfl : no = n + 1 := by omega
  have d1 : decide ((s:Int) < 0) = false := by simp
  have d2 : decide ((n:Int) ≤ s) = false := by simp; omega
  have d3 : decide ((t:Int) < 0) = false := by simp
  have d4 : decide ((n:Int) ≤ t) = false := by simp; omega
  have d5 : decide (n ≤ s) = false := by simp; omega
  have d6 : decide (n ≤ t) = false := by simp; omega
  have HB1 := Lib.hid (fun W => beginG 61 w.heap.size n s W hs hn)
  have HB2 := Lib.hid (fun W => beginG 62 w.heap.size n t W ht hn)
  clear hO hT hR hV hck l1 r hno hno2
  go_enter Tryz.func36, Tryz.ntmps36
  go_wp2_with (first
    | (go_at_call 63; have _t := S2; go_must (refine (HB2.out _).mono ?_; rintro e w3 ⟨gb, qb, qfb0, rfl, Z⟩; have S3 := Lib.hid (S2.out.comp Z); have qz := (S3.out.blk 6 rfl).lt; have q0 := (S3.out.blk 6 rfl).cell 0; have q1 := (S3.out.blk 6 rfl).cell 1; have qf := (S3.out.blk 6 rfl).frozen 0; have qg := (S3.out.blk 6 rfl).frozen 1; clear Z))
    | (go_at_call 63; have _t := S1; go_must (refine (HB1.out _).mono ?_; rintro e w2 ⟨ga, qa, qfa0, rfl, Z⟩; have S2 := Lib.hid (S1.out.comp Z); clear Z))
    | (go_at_call 24; go_must (refine (HC.out _ S0.out.ext).mono ?_; rintro e w1 ⟨rfl, hb⟩; have S1 := Lib.hid (S0.out.call hb); clear hb)))
  have S7 := ((S3.out.set 6 rfl 0 (.pointer (some ⟨ga, 0, none⟩))).set 6 rfl 1 (.pointer (some ⟨gb, 0, none⟩)))
  have b0 := (S7.blk 6 rfl).cell 0
  have b1 := (S7.blk 6 rfl).cell 1
  refine bodyPost_ret (v := .tuple #[.agg #[.pointer (some ⟨ga, 0, none⟩), .pointer (some ⟨gb, 0, none⟩)], .int .i64 0]) (by simp [results, Tryz.results36, go_sem, b0, b1, Tryz.sizeOf57, Tryz.isAgg57]) rfl ⟨w.heap.size, ga, gb, qa, qb, qfa0, qfb0, rfl, ?_⟩
  exact S7.pick [0, 1, 2, 3, 4, 5, 7] (by decide) rfl
end Go.Proofs.YtgnjffnkmdodeaaGreat
/- The program's searches (chapter 8): Dist, Steps. -/
namespace Go.Proofs.YtgnjffnkmdodeaaGreat
open Go Go.RowKit
set_option maxRecDepth 100000 in
set_option maxHeartbeats 4000000 in
theorem DistG_no (po : Option Addr) (no co : Nat) (O : List Int) (pt : Option Addr) (nt ct : Nat) (T : List Int) (pr : Option Addr) (nr cr : Nat) (R : List Int) (pv : Option Addr) (nv cv : Nat) (V : List Int) (s t : Int) (w : World) (hO : Rd w 1 po no (encI O)) (hT : Rd w 1 pt nt (encI T)) (hR : Rd w 1 pr nr (encI R)) (hV : Rd w 1 pv nv (encI V)) (hct : nt ≤ ct) (hcv : nv ≤ cv) (hc : pairC (checkR O T R V) O s t ≠ 0) :
    Calls Tryz.prog 12 #[.agg #[.slice po no co, .slice pt nt ct, .slice pr nr cr, .slice pv nv cv], .int .i64 s, .int .i64 t] w fun e w' => e = .returned (.tuple #[.int .i64 0, .bool false, .int .i64 (pairC (checkR O T R V) O s t)]) ∧ Ext w w' := by
  have HO := Lib.hid (fun W1 (h : Ext w W1) => openG_no po no co O pt nt ct T pr nr cr R pv nv cv V s t W1 (hO.ext h) (hT.ext h) (hR.ext h) (hV.ext h) hct hcv hc)
  have S0 := Lib.hid ((Sep.start w).al #[.slice po no co, .slice pt nt ct, .slice pr nr cr, .slice pv nv cv] 24 w.heap.size rfl)
  generalize pairC (checkR O T R V) O s t = c at *
  have hc0 : (c != 0) = true := by simpa using hc
  clear hO hT hR hV hc
  go_enter Tryz.func12, Tryz.ntmps12
  go_wp2_with (go_at_call 36; go_must (refine (HO.out _ S0.out.ext).mono ?_; rintro e w1 ⟨rfl, hb⟩; have S1 := Lib.hid (S0.out.call hb); clear hb))
  go_ret3
  exact ⟨rfl, (S1.out.al #[.pointer none, .pointer none] 57 w1.heap.size rfl).ext⟩
set_option maxRecDepth 100000 in
set_option maxHeartbeats 4000000 in
theorem DistG_yes (po : Option Addr) (no co : Nat) (O : List Int) (pt : Option Addr) (nt ct : Nat) (T : List Int) (pr : Option Addr) (nr cr : Nat) (R : List Int) (pv : Option Addr) (nv cv : Nat) (V : List Int) (n s t : Nat) (w : World) (hO : Rd w 1 po no (encI O)) (hT : Rd w 1 pt nt (encI T)) (hR : Rd w 1 pr nr (encI R)) (hV : Rd w 1 pv nv (encI V)) (hct : nt ≤ ct) (hcv : nv ≤ cv) (hck : checkR O T R V = true) (hno : O.length = n + 1) (hs : s < n) (ht : t < n) :
    Calls Tryz.prog 12 #[.agg #[.slice po no co, .slice pt nt ct, .slice pr nr cr, .slice pv nv cv], .int .i64 s, .int .i64 t] w fun e w' => e = .returned (.tuple #[.int .i64 (distN (lev (rowL O T) n s t)), .bool (distB (lev (rowL O T) n s t)), .int .i64 0]) ∧ Ext w w' := by
  have HO := Lib.hid (fun W1 (h : Ext w W1) => openG_yes po no co O pt nt ct T pr nr cr R pv nv cv V n s t W1 (hO.ext h) (hT.ext h) (hR.ext h) (hV.ext h) hct hcv hck hno hs ht)
  have S0 := Lib.hid ((Sep.start w).al #[.slice po no co, .slice pt nt ct, .slice pr nr cr, .slice pv nv cv] 24 w.heap.size rfl)
  have HRUN := Lib.hid (fun gr ga gb qa qb qfa0 qfb0 W1 S => runG po no co O pt nt ct T pr nr cr R pv nv cv V gr ga gb n s t qa qb qfa0 qfb0 w W1 hO hT hR hV hct hcv hck hno hs ht S)
  clear hO hT hR hV hck hno
  go_enter Tryz.func12, Tryz.ntmps12
  go_wp2_with (first
    | (go_at_call 37; go_must (refine (HRUN.out gr ga gb qa qb qfa0 qfb0 _ ((S1.out.al #[.pointer (some ⟨ga, 0, none⟩), .pointer (some ⟨gb, 0, none⟩)] 57 w1.heap.size rfl).pick [1, 2, 3, 4, 5, 6, 7] (by decide) rfl)).mono ?_; rintro e w2 ⟨rfl, hb⟩; have HB := Lib.hid hb; clear hb))
    | (go_at_call 36; go_must (refine (HO.out _ S0.out.ext).mono ?_; rintro e w1 ⟨gr, ga, gb, qa, qb, qfa0, qfb0, rfl, Z⟩; have S1 := Lib.hid (S0.out.comp Z); clear Z)))
  go_ret3
  exact ⟨rfl, HB.out⟩
set_option maxRecDepth 100000 in
set_option maxHeartbeats 4000000 in
theorem StepsG_no (po : Option Addr) (no co : Nat) (O : List Int) (pt : Option Addr) (nt ct : Nat) (T : List Int) (pr : Option Addr) (nr cr : Nat) (R : List Int) (pv : Option Addr) (nv cv : Nat) (V : List Int) (s t : Int) (w : World) (hO : Rd w 1 po no (encI O)) (hT : Rd w 1 pt nt (encI T)) (hR : Rd w 1 pr nr (encI R)) (hV : Rd w 1 pv nv (encI V)) (hct : nt ≤ ct) (hcv : nv ≤ cv) (hc : pairC (checkR O T R V) O s t ≠ 0) :
    Calls Tryz.prog 14 #[.agg #[.slice po no co, .slice pt nt ct, .slice pr nr cr, .slice pv nv cv], .int .i64 s, .int .i64 t] w fun e w' => e = .returned (.tuple #[.int .i64 0, .int .i64 (pairC (checkR O T R V) O s t)]) ∧ Ext w w' := by
  have HO := Lib.hid (fun W1 (h : Ext w W1) => openG_no po no co O pt nt ct T pr nr cr R pv nv cv V s t W1 (hO.ext h) (hT.ext h) (hR.ext h) (hV.ext h) hct hcv hc)
  have S0 := Lib.hid ((Sep.start w).al #[.slice po no co, .slice pt nt ct, .slice pr nr cr, .slice pv nv cv] 24 w.heap.size rfl)
  generalize pairC (checkR O T R V) O s t = c at *
  have hc0 : (c != 0) = true := by simpa using hc
  clear hO hT hR hV hc
  go_enter Tryz.func14, Tryz.ntmps14
  go_wp2_with (go_at_call 36; go_must (refine (HO.out _ S0.out.ext).mono ?_; rintro e w1 ⟨rfl, hb⟩; have S1 := Lib.hid (S0.out.call hb); clear hb))
  go_ret2
  exact ⟨rfl, (S1.out.al #[.pointer none, .pointer none] 57 w1.heap.size rfl).ext⟩
set_option maxRecDepth 100000 in
set_option maxHeartbeats 4000000 in
theorem StepsG_yes (po : Option Addr) (no co : Nat) (O : List Int) (pt : Option Addr) (nt ct : Nat) (T : List Int) (pr : Option Addr) (nr cr : Nat) (R : List Int) (pv : Option Addr) (nv cv : Nat) (V : List Int) (n s t : Nat) (w : World) (hO : Rd w 1 po no (encI O)) (hT : Rd w 1 pt nt (encI T)) (hR : Rd w 1 pr nr (encI R)) (hV : Rd w 1 pv nv (encI V)) (hct : nt ≤ ct) (hcv : nv ≤ cv) (hck : checkR O T R V = true) (hno : O.length = n + 1) (hs : s < n) (ht : t < n) :
    Calls Tryz.prog 14 #[.agg #[.slice po no co, .slice pt nt ct, .slice pr nr cr, .slice pv nv cv], .int .i64 s, .int .i64 t] w fun e w' => e = .returned (.tuple #[.int .i64 (stepsN n (lev (rowL O T) n s) (lev (rowL R V) n t)), .int .i64 0]) ∧ Ext w w' := by
  have HO := Lib.hid (fun W1 (h : Ext w W1) => openG_yes po no co O pt nt ct T pr nr cr R pv nv cv V n s t W1 (hO.ext h) (hT.ext h) (hR.ext h) (hV.ext h) hct hcv hck hno hs ht)
  have S0 := Lib.hid ((Sep.start w).al #[.slice po no co, .slice pt nt ct, .slice pr nr cr, .slice pv nv cv] 24 w.heap.size rfl)
  have HRUN := Lib.hid (fun gr ga gb qa qb qfa0 qfb0 W1 S => runG po no co O pt nt ct T pr nr cr R pv nv cv V gr ga gb n s t qa qb qfa0 qfb0 w W1 hO hT hR hV hct hcv hck hno hs ht S)
  clear hO hT hR hV hck hno
  go_enter Tryz.func14, Tryz.ntmps14
  go_wp2_with (first
    | (go_at_call 37; go_must (refine (HRUN.out gr ga gb qa qb qfa0 qfb0 _ ((S1.out.al #[.pointer (some ⟨ga, 0, none⟩), .pointer (some ⟨gb, 0, none⟩)] 57 w1.heap.size rfl).pick [1, 2, 3, 4, 5, 6, 7] (by decide) rfl)).mono ?_; rintro e w2 ⟨rfl, hb⟩; have HB := Lib.hid hb; clear hb))
    | (go_at_call 36; go_must (refine (HO.out _ S0.out.ext).mono ?_; rintro e w1 ⟨gr, ga, gb, qa, qb, qfa0, qfb0, rfl, Z⟩; have S1 := Lib.hid (S0.out.comp Z); clear Z)))
  go_ret2
  exact ⟨rfl, HB.out⟩
end Go.Proofs.YtgnjffnkmdodeaaGreat
/- Equal rows, equal edges, rows too big, a row that rises and has a number. -/
namespace Go.Proofs.YtgnjffnkmdodeaaGreat
open Go Go.RowKit Go.Shelf Go.Lib
attribute [local go_sem ↓] eqEdge neqEdge guardEdge
theorem IntsY (p q : Option Addr) (n m c d : Nat) (A : List Int) (w : World) (h1 : Rd w 1 p n (encI A)) (h2 : Rd w 1 q m (encI A)) : Calls Tryz.prog 19 #[.slice p n c, .slice q m d] w fun e w' => e = .returned (.bool true) ∧ Ext w w' :=
  (Ints01 p q n m c d A A w h1 h2).mono fun e w' ⟨h3, h4⟩ => ⟨by rw [h3]; simp, h4⟩
set_option maxRecDepth 100000 in
set_option maxHeartbeats 2000000 in
theorem Same04T (po : Option Addr) (no co : Nat) (O : List Int) (pt : Option Addr) (nt ct : Nat) (T : List Int) (pr : Option Addr) (nr cr : Nat) (R : List Int) (pv : Option Addr) (nv cv : Nat) (V : List Int) (po' : Option Addr) (no' co' : Nat) (pt' : Option Addr) (nt' ct' : Nat) (pr' : Option Addr) (nr' cr' : Nat) (pv' : Option Addr) (nv' cv' : Nat) (w : World) (hO : Rd w 1 po no (encI O)) (hT : Rd w 1 pt nt (encI T)) (hR : Rd w 1 pr nr (encI R)) (hV : Rd w 1 pv nv (encI V))
    (hO' : Rd w 1 po' no' (encI O)) (hT' : Rd w 1 pt' nt' (encI T)) (hR' : Rd w 1 pr' nr' (encI R)) (hV' : Rd w 1 pv' nv' (encI V)) :
    Calls Tryz.prog 22 #[.agg #[.slice po no co, .slice pt nt ct, .slice pr nr cr, .slice pv nv cv], .agg #[.slice po' no' co', .slice pt' nt' ct', .slice pr' nr' cr', .slice pv' nv' cv']] w fun e w' => e = .returned (.bool true) ∧ Ext w w' := by
  have H1 := Lib.hid (fun W1 (h : Ext w W1) => IntsY po po' no no' co co' O W1 (hO.ext h) (hO'.ext h))
  have H2 := Lib.hid (fun W1 (h : Ext w W1) => IntsY pt pt' nt nt' ct ct' T W1 (hT.ext h) (hT'.ext h))
  have H3 := Lib.hid (fun W1 (h : Ext w W1) => IntsY pr pr' nr nr' cr cr' R W1 (hR.ext h) (hR'.ext h))
  have H4 := Lib.hid (fun W1 (h : Ext w W1) => IntsY pv pv' nv nv' cv cv' V W1 (hV.ext h) (hV'.ext h))
  have S0 := Lib.hid (((Sep.start w).al #[.slice po no co, .slice pt nt ct, .slice pr nr cr, .slice pv nv cv] 24 w.heap.size rfl).al #[.slice po' no' co', .slice pt' nt' ct', .slice pr' nr' cr', .slice pv' nv' cv'] 24 (w.heap.size + 1) (by simp))
  clear hO hT hR hV hO' hT' hR' hV'
  go_enter Tryz.func22, Tryz.ntmps22
  go_wp2_with (first | (go_at_call 19; have _t := S3; go_must (refine (H4.out _ S3.out.ext).mono ?_; rintro e w4 ⟨rfl, hb⟩; have S4 := Lib.hid (S3.out.call hb); have w4a0 := (S4.out.blk 1 rfl).cell 0; have w4a1 := (S4.out.blk 1 rfl).cell 1; have w4a2 := (S4.out.blk 1 rfl).cell 2; have w4a3 := (S4.out.blk 1 rfl).cell 3; have w4az := (S4.out.blk 1 rfl).lt; have w4b0 := (S4.out.blk 0 rfl).cell 0; have w4b1 := (S4.out.blk 0 rfl).cell 1; have w4b2 := (S4.out.blk 0 rfl).cell 2; have w4b3 := (S4.out.blk 0 rfl).cell 3; have w4bz := (S4.out.blk 0 rfl).lt; clear hb)) | (go_at_call 19; have _t := S2; go_must (refine (H3.out _ S2.out.ext).mono ?_; rintro e w3 ⟨rfl, hb⟩; have S3 := Lib.hid (S2.out.call hb); have w3a0 := (S3.out.blk 1 rfl).cell 0; have w3a1 := (S3.out.blk 1 rfl).cell 1; have w3a2 := (S3.out.blk 1 rfl).cell 2; have w3a3 := (S3.out.blk 1 rfl).cell 3; have w3az := (S3.out.blk 1 rfl).lt; have w3b0 := (S3.out.blk 0 rfl).cell 0; have w3b1 := (S3.out.blk 0 rfl).cell 1; have w3b2 := (S3.out.blk 0 rfl).cell 2; have w3b3 := (S3.out.blk 0 rfl).cell 3; have w3bz := (S3.out.blk 0 rfl).lt; clear hb)) | (go_at_call 19; have _t := S1; go_must (refine (H2.out _ S1.out.ext).mono ?_; rintro e w2 ⟨rfl, hb⟩; have S2 := Lib.hid (S1.out.call hb); have w2a0 := (S2.out.blk 1 rfl).cell 0; have w2a1 := (S2.out.blk 1 rfl).cell 1; have w2a2 := (S2.out.blk 1 rfl).cell 2; have w2a3 := (S2.out.blk 1 rfl).cell 3; have w2az := (S2.out.blk 1 rfl).lt; have w2b0 := (S2.out.blk 0 rfl).cell 0; have w2b1 := (S2.out.blk 0 rfl).cell 1; have w2b2 := (S2.out.blk 0 rfl).cell 2; have w2b3 := (S2.out.blk 0 rfl).cell 3; have w2bz := (S2.out.blk 0 rfl).lt; clear hb)) | (go_at_call 19; have _t := S0; go_must (refine (H1.out _ S0.out.ext).mono ?_; rintro e w1 ⟨rfl, hb⟩; have S1 := Lib.hid (S0.out.call hb); have w1a0 := (S1.out.blk 1 rfl).cell 0; have w1a1 := (S1.out.blk 1 rfl).cell 1; have w1a2 := (S1.out.blk 1 rfl).cell 2; have w1a3 := (S1.out.blk 1 rfl).cell 3; have w1az := (S1.out.blk 1 rfl).lt; have w1b0 := (S1.out.blk 0 rfl).cell 0; have w1b1 := (S1.out.blk 0 rfl).cell 1; have w1b2 := (S1.out.blk 0 rfl).cell 2; have w1b3 := (S1.out.blk 0 rfl).cell 3; have w1bz := (S1.out.blk 0 rfl).lt; clear hb)))
  go_ret
  exact ⟨rfl, S4.out.ext⟩
/-- rows more than are looked at -/
def bigR (O T R V : List Int) : Bool := decide (30 < O.length) && decide (O.length ≤ 201) || decide (250 < O.length) || decide (250 < R.length) || decide (150 < T.length) && decide (T.length ≤ 2000) || decide (2100 < T.length) || decide (2100 < V.length)
set_option maxHeartbeats 2000000 in
theorem Big04 (po : Option Addr) (no co : Nat) (O : List Int) (pt : Option Addr) (nt ct : Nat) (T : List Int) (pr : Option Addr) (nr cr : Nat) (R : List Int) (pv : Option Addr) (nv cv : Nat) (V : List Int) (w : World) (hO : Rd w 1 po no (encI O)) (hT : Rd w 1 pt nt (encI T)) (hR : Rd w 1 pr nr (encI R)) (hV : Rd w 1 pv nv (encI V)) : Calls Tryz.prog 10 #[.agg #[.slice po no co, .slice pt nt ct, .slice pr nr cr, .slice pv nv cv]] w fun e w' => e = .returned (.bool (bigR O T R V)) ∧ Ext w w' := by
  have hd : bigR O T R V = (decide (30 < no) && decide (no ≤ 201) || decide (250 < no) || decide (250 < nr) || decide (150 < nt) && decide (nt ≤ 2000) || decide (2100 < nt) || decide (2100 < nv)) := by
    unfold bigR; rw [hO.nI, hT.nI, hR.nI, hV.nI]
  rw [hd]
  clear hd hO hT hR hV
  go_enter Tryz.func10, Tryz.ntmps10
  go_wp2
  all_goals (go_ret; refine ⟨ret_bool ?_, Ext.alloc (Below.refl _ _) _⟩; rw [Bool.eq_iff_iff]; simp only [Bool.or_eq_true, Bool.and_eq_true, decide_eq_true_eq, true_iff]; omega)
end Go.Proofs.YtgnjffnkmdodeaaGreat
/- A row that rises: has it a number? -/
namespace Go.Proofs.YtgnjffnkmdodeaaGreat
open Go Go.RowKit
theorem inB_take_succ (l : List Int) (x : Int) (k : Nat) (h : k < l.length) : inB (l.take (k + 1)) x = (inB (l.take k) x || (nth l k == x)) := by
  unfold inB
  rw [take_succ_nth l k h, List.any_append]; simp
end Go.Proofs.YtgnjffnkmdodeaaGreat
/- What chapter 8's laws say, in plain words. -/
namespace Go.Proofs.YtgnjffnkmdodeaaGreat
open Go Go.RowKit
section
variable {nx nb : Nat → List Int} {n s t : Nat} (h : Rev nx nb n) (hs : s < n) (ht : t < n)
include h hs ht in
theorem half_law : stepsN n (lev nx n s) (lev nb n t) ≤ n ∧ (0 ≤ lev nx n s t → lev nx n s t = 2 * (stepsN n (lev nx n s) (lev nb n t) : Int) ∨ lev nx n s t = 2 * (stepsN n (lev nx n s) (lev nb n t) : Int) - 1) := by
  have hl := lev_lt (nx := nx) hs ht
  by_cases h0 : 0 ≤ lev nx n s t
  · have h1 := steps_yes h hs ht h0 (n + 1) 0 (by omega) (by omega)
    unfold stepsN
    rw [h1]
    refine ⟨by omega, fun _ => by omega⟩
  · have h1 := steps_no h hs ht (by omega) (n + 1) 0 (by omega) (.inl rfl)
    unfold stepsN
    exact ⟨by omega, fun h => absurd h h0⟩
end
/-- the path, as numbers -/
def pathI (nx : Nat → List Int) (g : Nat → Int) (k u : Nat) : List Int := (pathL nx g k u).map fun x : Nat => (x : Int)
theorem pathI_len (nx : Nat → List Int) (g : Nat → Int) (k u : Nat) : (pathI nx g k u).length = k + 1 := by unfold pathI; rw [List.length_map, pathL_len]
theorem nth_map_nat (l : List Nat) (i : Nat) (h : i < l.length) : nth (l.map fun x : Nat => (x : Int)) i = ((nth l i : Nat) : Int) := by
  rw [nth_eq (by rw [List.length_map]; exact h), nth_eq h, List.getElem_map]
theorem pathI_nth (nx : Nat → List Int) (g : Nat → Int) (k u : Nat) {i : Nat} (h : i ≤ k) : nth (pathI nx g k u) i = ((nth (pathL nx g k u) i : Nat) : Int) := nth_map_nat _ i (by rw [pathL_len]; omega)
/-- what Path tells -/
def pathR (nx nb : Nat → List Int) (n s t : Nat) : List Int := if 0 ≤ lev nx n s t then pathI nx (lev nb n t) (lev nx n s t).toNat s else []
theorem rising_nodup {l : List Int} (h : l.Nodup) : (putAll ltI l).length = l.length := by
  have h1 := putAll_rises stoI l
  have h2 : (putAll ltI l).Nodup := List.Pairwise.imp (fun {a b} hab e => by subst e; have := stoI.irrefl a; rw [hab] at this; cases this) h1
  exact ((List.perm_ext_iff_of_nodup h2 h).2 fun x => putAll_mem stoI l x).length_eq
section
variable {nx nb : Nat → List Int} {n s t : Nat} (h : Rev nx nb n) (hin : InN nx n) (hs : s < n) (ht : t < n) (h0 : 0 ≤ lev nx n s t)
include h hs ht h0 in
theorem lev_nb : lev nb n t s = ((lev nx n s t).toNat : Nat) := by rw [← lev_rev h hs ht]; omega
include h hin hs ht h0
theorem path_law : pathR nx nb n s t = pathI nx (lev nb n t) (lev nx n s t).toNat s ∧ ((pathR nx nb n s t).length : Int) = lev nx n s t + 1 ∧ nth (pathR nx nb n s t) 0 = s ∧ nth (pathR nx nb n s t) (lev nx n s t).toNat = t ∧ (pathR nx nb n s t).Nodup := by
  have e : pathR nx nb n s t = pathI nx (lev nb n t) (lev nx n s t).toNat s := by unfold pathR; rw [if_pos h0]
  rw [e]
  refine ⟨rfl, by rw [pathI_len]; omega, ?_, ?_, ?_⟩
  · rw [pathI_nth _ _ _ _ (Nat.zero_le _), pathL_first]
  · rw [pathI_nth _ _ _ _ (Nat.le_refl _), pathL_last h ht hin hs (lev_nb h hs ht h0)]
  · unfold pathI
    exact List.Pairwise.map _ (fun a b hab e => hab (by exact_mod_cast e)) (pathL_nodup h ht hin hs (lev_nb h hs ht h0))
theorem path_at {i : Nat} (hi : i < (pathR nx nb n s t).length) : ∃ v : Nat, nth (pathR nx nb n s t) i = v ∧ v < n ∧ 0 ≤ lev nx n v t ∧ pathR nx nb n v t = (pathR nx nb n s t).drop i := by
  obtain ⟨e, hl, _, _, _⟩ := path_law h hin hs ht h0
  have hk : i ≤ (lev nx n s t).toNat := by omega
  rw [e]
  obtain ⟨g1, g2, g3⟩ := pathL_at h ht hin _ s hs (lev_nb h hs ht h0) i hk
  generalize hv : nth (pathL nx (lev nb n t) (lev nx n s t).toNat s) i = v at *
  refine ⟨v, by rw [pathI_nth _ _ _ _ hk, hv], g1, ?_, ?_⟩
  · rw [lev_rev h g1 ht, g2]; omega
  · have h1 : lev nx n v t = (((lev nx n s t).toNat - i : Nat) : Int) := by rw [lev_rev h g1 ht, g2]
    unfold pathR
    rw [if_pos (by rw [h1]; omega), h1]
    unfold pathI
    rw [Int.toNat_natCast, ← List.map_drop, g3]
theorem path_next {i : Nat} (hi : i + 1 < (pathR nx nb n s t).length) : nth (pathR nx nb n s t) (i + 1) ∈ nx (nth (pathR nx nb n s t) i).toNat ∧ 0 ≤ nth (pathR nx nb n s t) i ∧ nth (pathR nx nb n s t) i < n := by
  obtain ⟨e, hl, _, _, _⟩ := path_law h hin hs ht h0
  have hk : i < (lev nx n s t).toNat := by omega
  rw [e, pathI_nth _ _ _ _ (by omega), pathI_nth _ _ _ _ (by omega), Int.toNat_natCast]
  refine ⟨(pathL_next h ht hin hs (lev_nb h hs ht h0) hk).1, by omega, ?_⟩
  have := (pathL_at h ht hin _ s hs (lev_nb h hs ht h0) i (by omega)).1
  omega
/-- no lesser next place is as near -/
theorem less_law (hr : Rises ltI (nx s)) (h2 : 1 < (pathR nx nb n s t).length) {y : Int} (hy : y ∈ nx s) (hlt : y < nth (pathR nx nb n s t) 1) : 0 ≤ y ∧ y < n ∧ (0 ≤ lev nx n y.toNat t → ((pathR nx nb n s t).length : Int) - 1 ≤ lev nx n y.toNat t) := by
  obtain ⟨e, hl, _, _, _⟩ := path_law h hin hs ht h0
  obtain ⟨b1, b2⟩ := hin s hs y hy
  refine ⟨b1, b2, fun hy0 => ?_⟩
  obtain ⟨k, hk⟩ : ∃ k, (lev nx n s t).toNat = k + 1 := ⟨(lev nx n s t).toNat - 1, by omega⟩
  have hb := lev_nb h hs ht h0
  rw [hk] at hb
  obtain ⟨x, g1, g2, g3, g4, g5, g6⟩ := stepL_is h ht hin hs hb
  have hx : nth (pathR nx nb n s t) 1 = x := by
    rw [e, pathI_nth _ _ _ _ (by omega), hk, (pathL_next h ht hin hs hb (i := 0) (by omega)).2, pathL_first, g5]
    omega
  rw [hx] at hlt
  have h3 := find_less hr g1 hy hlt
  have h4 : lev nb n t y.toNat ≠ lev nb n t s - 1 := by simpa using h3
  have h5 := lev_rev h (s := y.toNat) (by omega) ht
  have h6 : 0 ≤ lev nx n s t ∧ lev nx n s t ≤ 1 + lev nx n y.toNat t := by
    have hw := lev_wk (s := y.toNat) (by omega) ht hy0
    have h7 : wk nx n s (1 + (lev nx n y.toNat t).toNat) t = true := by
      refine wk_trans (v := y.toNat) ?_ _ t ht hw
      exact wk_succ.2 ⟨s, hs, wk_zero.2 rfl, by rw [Int.toNat_of_nonneg b1]; exact hy⟩
    have := lev_le hs ht h7
    omega
  omega
end
/-- a row of places is a walk -/
def walkB (ck : Bool) (O T l : List Int) : Bool := decide (0 < l.length) && outB ck O (nth l 0) && (List.range (l.length - 1)).all fun i => hasB ck O T (nth l i) (nth l (i + 1))
theorem walk_path {O T R V : List Int} (hck : checkR O T R V = true) {s t : Nat} (hs : s < O.length - 1) (ht : t < O.length - 1) (h0 : 0 ≤ lev (rowL O T) (O.length - 1) s t) : walkB true O T (pathR (rowL O T) (rowL R V) (O.length - 1) s t) = true := by
  have hR : Rev (rowL O T) (rowL R V) (O.length - 1) := nxR_rev hck false
  have hin : InN (rowL O T) (O.length - 1) := nxR_in hck false
  obtain ⟨_, hl, h1, _, _⟩ := path_law hR hin hs ht h0
  have hN := fun i hi => path_next hR hin hs ht h0 (i := i) hi
  generalize pathR (rowL O T) (rowL R V) (O.length - 1) s t = P at *
  unfold walkB
  rw [Bool.and_eq_true, Bool.and_eq_true, List.all_eq_true]
  refine ⟨⟨by simp; omega, by unfold outB; rw [h1]; simp; omega⟩, fun i hi => ?_⟩
  rw [List.mem_range] at hi
  obtain ⟨g1, g2, g3⟩ := hN i (by omega)
  have hb : outB true O (nth P i) = true := by unfold outB; simp; omega
  unfold hasB
  rw [hb, outL_yes hb, Bool.true_and]
  exact (inB_iff _ _).2 g1
end Go.Proofs.YtgnjffnkmdodeaaGreat
/- What Path's two loops keep, in plain words. -/
namespace Go.Proofs.YtgnjffnkmdodeaaGreat
open Go Go.RowKit
section
variable {nx nb : Nat → List Int} {n s t : Nat} (h : Rev nx nb n) (hs : s < n) (ht : t < n)
include hs in
theorem cut_all {k : Nat} (hF : IsFront (lev nx n s) n ((k + 1 : Nat) : Int) []) : cutL (lev nx n s) n k = (List.range n).map fun v => lev nx n s v := by
  have hno : hasL n (lev nx n s) ((k + 1 : Nat) : Int) = false := by
    cases e : hasL n (lev nx n s) ((k + 1 : Nat) : Int) with
    | false => rfl
    | true => exact absurd ((front_has hF).1 e) (by simp)
  unfold cutL
  apply List.map_congr_left
  intro v hv
  rw [List.mem_range] at hv
  unfold cut
  rcases lev_cases (nx := nx) hs hv with ⟨h1, _⟩ | ⟨j, hj, h1, _⟩
  · rw [if_neg (by omega), h1]
  · by_cases hjk : j ≤ k
    · rw [if_pos (by omega)]
    · have := has_below hs (k := j) (j := k + 1) (by omega) (hasL_iff.2 ⟨v, hv, h1⟩)
      rw [hno] at this
      cases this
end
theorem levL_nth {f : Nat → Int} {n v : Nat} (hv : v < n) : nth ((List.range n).map fun v => f v) v = f v := by
  rw [nth_eq (by simpa using hv)]; simp
theorem find_at {p : Int → Bool} {l : List Int} {j : Nat} (hj : j < l.length) (h : (l.take j).find? p = none) (hp : p (nth l j) = true) : l.find? p = some (nth l j) := by
  have e : l = l.take j ++ (nth l j :: l.drop (j + 1)) := by
    rw [nth_eq hj, ← List.drop_eq_getElem_cons hj, List.take_append_drop]
  generalize nth l j = x at *
  rw [e, List.find?_append, h, List.find?_cons_of_pos hp]; rfl
theorem find_step {p : Int → Bool} {l : List Int} {j : Nat} (hj : j < l.length) (h : (l.take j).find? p = none) (hp : p (nth l j) = false) : (l.take (j + 1)).find? p = none := by
  rw [take_succ_nth l j hj, List.find?_append, h, List.find?_cons_of_neg (by simp [hp])]; rfl
section
variable {nx nb : Nat → List Int} {n s t : Nat} (h : Rev nx nb n) (hin : InN nx n) (hs : s < n) (ht : t < n)
include h hin hs ht
/-- a step of the walk -/
theorem walk_step {k : Nat} (hk : lev nb n t s = k) {i : Nat} (hi : i < k) : ∃ a : Nat, nth (pathI nx (lev nb n t) k s) i = a ∧ a < n ∧ lev nb n t a = ((k - i : Nat) : Int) ∧
    (∃ x, (nx a).find? (fun x => lev nb n t x.toNat == ((k - i : Nat) : Int) - 1) = some x) ∧
    ∀ x, (nx a).find? (fun x => lev nb n t x.toNat == ((k - i : Nat) : Int) - 1) = some x → nth (pathI nx (lev nb n t) k s) (i + 1) = x ∧ (pathI nx (lev nb n t) k s).take (i + 2) = (pathI nx (lev nb n t) k s).take (i + 1) ++ [x] := by
  obtain ⟨g1, g2, g3⟩ := pathL_at h ht hin k s hs hk i (by omega)
  have g4 := (pathL_next h ht hin hs hk hi).2
  have e1 := pathI_nth nx (lev nb n t) k s (i := i) (by omega)
  have e2 := pathI_nth nx (lev nb n t) k s (i := i + 1) (by omega)
  have e3 := take_succ_nth (pathI nx (lev nb n t) k s) (i + 1) (by rw [pathI_len]; omega)
  generalize nth (pathL nx (lev nb n t) k s) i = a at *
  obtain ⟨j, hj⟩ : ∃ j, k - i = j + 1 := ⟨k - i - 1, by omega⟩
  obtain ⟨y, q1, q2, q3, q4, q5, q6⟩ := stepL_is h ht hin g1 (by rw [g2, hj])
  rw [g2] at q1
  refine ⟨a, e1, g1, g2, ⟨y, q1⟩, fun x hx => ?_⟩
  rw [q1] at hx
  obtain rfl : y = x := by injection hx
  have e4 : nth (pathI nx (lev nb n t) k s) (i + 1) = y := by rw [e2, g4, q5]; omega
  exact ⟨e4, by rw [show i + 2 = i + 1 + 1 by omega, e3, e4]⟩
end
end Go.Proofs.YtgnjffnkmdodeaaGreat
/- The program's searches (chapter 8): Path. -/
namespace Go.Proofs.YtgnjffnkmdodeaaGreat
open Go Go.RowKit
theorem ahead_front {nx : Nat → List Int} {n s : Nat} (hs : s < n) (hin : InN nx n) {k : Nat} {F : List Int} (hF : IsFront (lev nx n s) n k F) : IsFront (lev nx n s) n ((k + 1 : Nat) : Int) (ahF nx (cutL (lev nx n s) n k) F []) :=
  front_next hs hin hF fun v hv => by rw [cutL_nth hv]; exact cut_lt
theorem front_bd {f : Nat → Int} {n : Nat} {k : Int} {F : List Int} (hF : IsFront f n k F) : (∀ x ∈ F, 0 ≤ x ∧ x < n) ∧ F.length ≤ n :=
  ⟨fun x hx => ⟨((hF.2 x).1 hx).1, ((hF.2 x).1 hx).2.1⟩, nodup_small hF.1 fun x hx => ⟨((hF.2 x).1 hx).1, ((hF.2 x).1 hx).2.1⟩⟩
set_option maxRecDepth 100000 in
set_option maxHeartbeats 4000000 in
theorem PathG_no (po : Option Addr) (no co : Nat) (O : List Int) (pt : Option Addr) (nt ct : Nat) (T : List Int) (pr : Option Addr) (nr cr : Nat) (R : List Int) (pv : Option Addr) (nv cv : Nat) (V : List Int) (s t : Int) (w : World) (hO : Rd w 1 po no (encI O)) (hT : Rd w 1 pt nt (encI T)) (hR : Rd w 1 pr nr (encI R)) (hV : Rd w 1 pv nv (encI V)) (hct : nt ≤ ct) (hcv : nv ≤ cv) (hc : pairC (checkR O T R V) O s t ≠ 0) :
    Calls Tryz.prog 16 #[.agg #[.slice po no co, .slice pt nt ct, .slice pr nr cr, .slice pv nv cv], .int .i64 s, .int .i64 t] w fun e w' => e = .returned (.tuple #[.slice none 0 0, .bool false, .int .i64 (pairC (checkR O T R V) O s t)]) ∧ Ext w w' := by
  have HO := Lib.hid (fun W1 (h : Ext w W1) => openG_no po no co O pt nt ct T pr nr cr R pv nv cv V s t W1 (hO.ext h) (hT.ext h) (hR.ext h) (hV.ext h) hct hcv hc)
  have S0 := Lib.hid ((Sep.start w).al #[.slice po no co, .slice pt nt ct, .slice pr nr cr, .slice pv nv cv] 24 w.heap.size rfl)
  generalize pairC (checkR O T R V) O s t = c at *
  have hc0 : (c != 0) = true := by simpa using hc
  clear hO hT hR hV hc
  go_enter Tryz.func16, Tryz.ntmps16
  go_wp2
  go_step3
  go_wp2_with (go_at_call 36; go_must (refine (HO.out _ S0.out.ext).mono ?_; rintro e w1 ⟨rfl, hb⟩; have S1 := Lib.hid (S0.out.call hb); clear hb))
  try rw [Exit.noGoto_ret]
  go_ret3
  exact ⟨rfl, (S1.out.al #[.pointer none, .pointer none] 57 w1.heap.size rfl).ext⟩
set_option maxRecDepth 100000 in
set_option maxHeartbeats 16000000 in
theorem PathG_yes (po : Option Addr) (no co : Nat) (O : List Int) (pt : Option Addr) (nt ct : Nat) (T : List Int) (pr : Option Addr) (nr cr : Nat) (R : List Int) (pv : Option Addr) (nv cv : Nat) (V : List Int) (n s t : Nat) (w : World) (hO : Rd w 1 po no (encI O)) (hT : Rd w 1 pt nt (encI T)) (hR : Rd w 1 pr nr (encI R)) (hV : Rd w 1 pv nv (encI V)) (hct : nt ≤ ct) (hcv : nv ≤ cv) (hck : checkR O T R V = true) (hno : O.length = n + 1) (hs : s < n) (ht : t < n) :
    Calls Tryz.prog 16 #[.agg #[.slice po no co, .slice pt nt ct, .slice pr nr cr, .slice pv nv cv], .int .i64 s, .int .i64 t] w fun e w' => ∃ q c, e = .returned (.tuple #[.slice q (pathR (rowL O T) (rowL R V) n s t).length c, .bool (distB (lev (rowL O T) n s t)), .int .i64 0]) ∧ Sep w w' [.own 3 1 q (pathR (rowL O T) (rowL R V) n s t).length c (encI (pathR (rowL O T) (rowL R V) n s t))] := by
  obtain ⟨i0, hi0, hz0, hz1, hz2⟩ := info_parts infI
  obtain ⟨e1, e2, e3, e4⟩ := checkR_half hck
  have r3 := offB_parts (halfB_off e3)
  have hn : n ≤ 200 := by omega
  have HREV : Hid (Rev (rowL O T) (rowL R V) n) := by have := nxR_rev hck false; rw [hno] at this; exact this
  have HIA : Hid (InN (rowL O T) n) := by have := row_in e3; rw [hno] at this; exact this
  have HIB : Hid (InN (rowL R V) n) := by have := row_in e4; rw [← e1, hno] at this; exact this
  have HNA := Lib.hid (fun gr W (h : Ext w W) (hB : Blk W gr 24 #[.slice po no co, .slice pt nt ct, .slice pr nr cr, .slice pv nv cv]) k (hk : k < n) => open1Gr po no co O pt nt ct T pr nr cr R pv nv cv V gr k W (hO.ext h) (hT.ext h) (offOk_of (halfB_off e3)) hct (by omega) hB)
  have HNB := Lib.hid (fun gr W (h : Ext w W) (hB : Blk W gr 24 #[.slice po no co, .slice pt nt ct, .slice pr nr cr, .slice pv nv cv]) k (hk : k < n) => open2Gr po no co O pt nt ct T pr nr cr R pv nv cv V gr k W (hR.ext h) (hV.ext h) (offOk_of (halfB_off e4)) hcv (by omega) hB)
  have HO := Lib.hid (fun W1 (h : Ext w W1) => openG_yes po no co O pt nt ct T pr nr cr R pv nv cv V n s t W1 (hO.ext h) (hT.ext h) (hR.ext h) (hV.ext h) hct hcv hck hno hs ht)
  have S0 := Lib.hid ((Sep.start w).al #[.slice po no co, .slice pt nt ct, .slice pr nr cr, .slice pv nv cv] 24 w.heap.size rfl)
  clear hO hT hR hV hct hcv hck e1 e2 e3 e4 r3 hno
  have HSB : Hid (bf0 n t = cutL (lev (rowL R V) n t) n (0 : Nat)) := (cut_0 (nx := rowL R V) ht).symm
  generalize rowL O T = na at *
  generalize rowL R V = nb at *
  have HAH := Lib.hid (fun (pz gr ga gb : Nat) (qa qb qfa0 : Option Addr) (k : Nat) (F : List Int) (qf : Option Addr) (cf : Nat) W (S : Sep w W [.blk pz 57 #[.pointer (some ⟨ga, 0, none⟩), .pointer (some ⟨gb, 0, none⟩)], .blk gb 70 #[.func (.func 62) #[] #[.pointer (some ⟨gr, 0, none⟩)], .slice qb n n, .slice qf F.length cf], .own 3 1 qf F.length cf (encI F), .own 3 1 qb n n (encI (cutL (lev nb n t) n k)), .blk ga 70 #[.func (.func 61) #[] #[.pointer (some ⟨gr, 0, none⟩)], .slice qa n n, .slice qfa0 1 1], .blk gr 24 #[.slice po no co, .slice pt nt ct, .slice pr nr cr, .slice pv nv cv]]) (hF : IsFront (lev nb n t) n k F) =>
    ahead2 gb gr n qb n (cutL (lev nb n t) n k) qf F.length cf F nb W (S.blk 1 rfl) (S.rd 3 rfl (by omega)) (S.rd 2 rfl (by have := (front_bd hF).2; omega)) hn (front_bd hF).1 HIB.out (HNB.out gr W S.ext (S.blk 5 rfl)))
  have HF0 := Lib.hid (front_0 (nx := nb) ht : IsFront (lev nb n t) n ((0 : Nat) : Int) [(t : Int)])
  go_enter Tryz.func16, Tryz.ntmps16
  go_wp2
  go_step3
  go_wp2_with (first
    | (go_at_call 41; go_must (refine (HAH.out w1.heap.size gr ga gb qa qb qfa0 0 [(t:Int)] qfb0 1 _ P1.out HF0.out).mono ?_; rintro e w2 ⟨q, c, rfl, Z⟩; have S2 := Lib.hid (P1.out.comp Z); clear Z))
    | (go_at_call 36; go_must (refine (HO.out _ S0.out.ext).mono ?_; rintro e w1 ⟨gr, ga, gb, qa, qb, qfa0, qfb0, rfl, Z⟩; rw [HSB.out] at Z; have P1 := Lib.hid (((S0.out.comp Z).al #[.pointer (some ⟨ga, 0, none⟩), .pointer (some ⟨gb, 0, none⟩)] 57 w1.heap.size rfl).pick [0, 1, 2, 3, 4, 7] (by decide) rfl); clear Z)))
  have HF1 := Lib.hid (ahead_front ht HIB.out HF0.out)
  generalize ahF nb (cutL (lev nb n t) n (0 : Nat)) [(t:Int)] [] = L0 at *
  generalize w1.heap.size = pz at *
  go_loopg [11] n (fun g l wr => ∃ (k : Nat) (F L : List Int) (qf q : Option Addr) (cf c : Nat), k + g = n ∧ l = .slice q L.length c ∧ IsFront (lev nb n t) n k F ∧ 0 < F.length ∧ IsFront (lev nb n t) n ((k + 1 : Nat) : Int) L ∧ Sep w wr [.own 3 1 q L.length c (encI L), .blk pz 57 #[.pointer (some ⟨ga, 0, none⟩), .pointer (some ⟨gb, 0, none⟩)], .blk gb 70 #[.func (.func 62) #[] #[.pointer (some ⟨gr, 0, none⟩)], .slice qb n n, .slice qf F.length cf], .own 3 1 qf F.length cf (encI F), .own 3 1 qb n n (encI (cutL (lev nb n t) n k)), .blk ga 70 #[.func (.func 61) #[] #[.pointer (some ⟨gr, 0, none⟩)], .slice qa n n, .slice qfa0 1 1], .blk gr 24 #[.slice po no co, .slice pt nt ct, .slice pr nr cr, .slice pv nv cv]])
  case atStart => exact ⟨0, [(t:Int)], L0, qfb0, q, 1, c, by omega, rfl, HF0.out, by simp, HF1.out, S2.out⟩
  case round =>
    clear S0 S2 P1 HF1 HO
    obtain ⟨k, F, L, qf, q, cf, c, hkg, rfl, hF, lf, hL, S⟩ := hrel
    have bF := front_bd hF
    have bL := front_bd hL
    have uz := (S.blk 1 rfl).lt; have u0 := (S.blk 1 rfl).cell 0; have u1 := (S.blk 1 rfl).cell 1
    have bz := (S.blk 2 rfl).lt; have b0 := (S.blk 2 rfl).cell 0; have b1 := (S.blk 2 rfl).cell 1; have b2 := (S.blk 2 rfl).cell 2
    by_cases hl0 : L.length = 0
    · obtain rfl : L = [] := List.eq_nil_of_length_eq_zero hl0
      rw [cut_all ht hL] at S
      have hlv := lev_rev HREV.out hs ht
      have sb := (S.rd 4 rfl (by omega)).cI (k := s) (by omega)
      have pb := (S.rd 4 rfl (by omega)).ptr
      rw [levL_nth hs] at sb
      have d1 : (0:Int) ≤ s := by omega
      have d2 : (s:Int) < n := by omega
      obtain ⟨LB, hLB⟩ : ∃ LB, LB = (List.range n).map fun v => lev nb n t v := ⟨_, rfl⟩
      rw [← hLB] at S
      have HLB : Hid (∀ v, v < n → nth LB v = lev nb n t v) := fun v hv => by rw [hLB]; exact levL_nth hv
      by_cases h0 : 0 ≤ lev na n s t
      · have HPL := Lib.hid (path_law HREV.out HIA.out hs ht h0)
        obtain ⟨D, hD⟩ : ∃ D : Nat, lev nb n t s = D := ⟨(lev nb n t s).toNat, by omega⟩
        have HWK := Lib.hid (fun i (hi : i < D) => walk_step HREV.out HIA.out hs ht hD hi)
        have hDs : (lev na n s t).toNat = D := by omega
        have HPR : Hid (pathR na nb n s t = pathI na (lev nb n t) D s ∧ distB (lev na n s t) = true) := by
          refine ⟨by rw [HPL.out.1, hDs], by unfold distB; simpa using h0⟩
        have HP0 : Hid ((pathI na (lev nb n t) D s).length = D + 1 ∧ nth (pathI na (lev nb n t) D s) 0 = s) := ⟨pathI_len _ _ _ _, by rw [pathI_nth _ _ _ _ (Nat.zero_le _), pathL_first]⟩
        generalize pathI na (lev nb n t) D s = P at *
        rw [hD] at sb
        have HD := Lib.hid (show D < n by have := lev_lt (nx := nb) ht hs; omega)
        clear hF hL hl0 lf hLB hlv HPL h0 hD hDs bF bL
        have q0 := (S.rd 4 rfl (by omega)).ptr
        have d3 : decide ((D:Int) < 0) = false := by simp
        have SH := Lib.hid S; clear S
        go_wp2
        have S5 := Lib.hid ((SH.out.alrow #[.int .i64 (s:Int)] 3 1 1 wr.heap.size rfl (by decide) rfl).pick [0, 2, 3, 5, 6, 7] (by decide) rfl)
        go_step3
        go_wp2
        go_loopg [12, 13, 14, 16] D (fun g v12 v13 v14 _ wr => ∃ (i : Nat) (q : Option Addr) (c : Nat), i + g = D ∧ v12 = .int .i64 (g : Int) ∧ v13 = .slice q (i + 1) c ∧ v14 = .int .i64 (nth P i) ∧ Sep w wr [.own 3 1 q (i + 1) c (encI (P.take (i + 1))), .blk pz 57 #[.pointer (some ⟨ga, 0, none⟩), .pointer (some ⟨gb, 0, none⟩)], .blk gb 70 #[.func (.func 62) #[] #[.pointer (some ⟨gr, 0, none⟩)], .slice qb n n, .slice qf F.length cf], .own 3 1 qb n n (encI LB), .blk ga 70 #[.func (.func 61) #[] #[.pointer (some ⟨gr, 0, none⟩)], .slice qa n n, .slice qfa0 1 1], .blk gr 24 #[.slice po no co, .slice pt nt ct, .slice pr nr cr, .slice pv nv cv]])
        case atStart => exact ⟨0, some ⟨wr.heap.size, 0, none⟩, 1, by omega, rfl, rfl, by rw [HP0.out.2], by
          have e : P.take (0 + 1) = [(s:Int)] := by
            rw [take_succ_nth P 0 (by rw [HP0.out.1]; omega), HP0.out.2]; rfl
          rw [e]; exact S5.out⟩
        case round =>
          clear S5 SH sb
          obtain ⟨i, q, c, hig, rfl, rfl, rfl, S⟩ := hrel
          have uz := (S.blk 1 rfl).lt; have u0 := (S.blk 1 rfl).cell 0; have u1 := (S.blk 1 rfl).cell 1
          have az := (S.blk 4 rfl).lt; have a0 := (S.blk 4 rfl).cell 0; have a1 := (S.blk 4 rfl).cell 1; have a2 := (S.blk 4 rfl).cell 2
          have bz := (S.blk 2 rfl).lt; have b0 := (S.blk 2 rfl).cell 0; have b1 := (S.blk 2 rfl).cell 1; have b2 := (S.blk 2 rfl).cell 2
          cases gk with
          | zero =>
            obtain rfl : i = D := by omega
            rw [List.take_of_length_le (by rw [HP0.out.1]; omega)] at S
            have hl := HP0.out.1
            have HL := Lib.hid hl
            have SH := Lib.hid S; clear S
            clear hl
            go_wp2
            rw [Exit.noGoto_ret]
            go_ret3
            exact ⟨q, c, by rw [HPR.out.1, HPR.out.2, HL.out]; rfl, by rw [HPR.out.1, HL.out]; exact SH.out.pick [0] (by decide) rfl⟩
          | succ g =>
            obtain ⟨a, h1, ha, h3, ⟨x0, hx0⟩, h5⟩ := HWK.out i (by omega)
            rw [show ((D - i : Nat) : Int) - 1 = (g : Int) by omega] at hx0 h5
            have HX0 := Lib.hid hx0
            have H5 := Lib.hid h5
            have HRB := Lib.hid (HIA.out a ha)
            obtain ⟨qrow, crow, hRR, hCR⟩ := HNA.out gr _ S.ext (S.blk 5 rfl) a ha
            have HRR := Lib.hid hRR
            have HCR := Lib.hid hCR
            have prr := hRR.ptr
            have nr2 := hRR.small
            generalize na a = RW at *
            rw [h1]
            clear hx0 h5 hRR hCR h1 h3
            have hiD : i < D := by omega
            have HIG := Lib.hid hig
            have hgs : g ≤ 200 := by have := HD.out; omega
            clear hig
            have SH := Lib.hid S; clear S
            go_wp2_with (go_at_call 61; go_must (refine (HCR.out _ (Below.refl _ _)).mono ?_; rintro e w5 ⟨rfl, hb⟩; have SI := Lib.hid (SH.out.call hb); have HR5 := Lib.hid (HRR.out.ext hb); clear hb))
            go_loopg [13, 14, 16, 65] RW.length (fun g2 v13 v14 _ v65 wx => ∃ j : Nat, j + g2 = RW.length ∧ v65 = .int .i64 j ∧ v13 = .slice q (i + 1) c ∧ v14 = .int .i64 a ∧ Hid ((RW.take j).find? (fun x => lev nb n t x.toNat == (g:Int)) = none) ∧ Ext w5 wx ∧ Sep w wx [.own 3 1 q (i + 1) c (encI (P.take (i + 1))), .blk pz 57 #[.pointer (some ⟨ga, 0, none⟩), .pointer (some ⟨gb, 0, none⟩)], .blk gb 70 #[.func (.func 62) #[] #[.pointer (some ⟨gr, 0, none⟩)], .slice qb n n, .slice qf F.length cf], .own 3 1 qb n n (encI LB), .blk ga 70 #[.func (.func 61) #[] #[.pointer (some ⟨gr, 0, none⟩)], .slice qa n n, .slice qfa0 1 1], .blk gr 24 #[.slice po no co, .slice pt nt ct, .slice pr nr cr, .slice pv nv cv]])
            case atStart => exact ⟨0, by omega, rfl, rfl, rfl, rfl, Below.refl _ _, SI.out⟩
            case round =>
              clear SH SI u0 u1 uz a0 a1 a2 az b0 b1 b2 bz
              obtain ⟨j, hjg, rfl, rfl, rfl, HJ, hE5, S⟩ := hrel
              have uz := (S.blk 1 rfl).lt; have u0 := (S.blk 1 rfl).cell 0; have u1 := (S.blk 1 rfl).cell 1
              have bz := (S.blk 2 rfl).lt; have b0 := (S.blk 2 rfl).cell 0; have b1 := (S.blk 2 rfl).cell 1; have b2 := (S.blk 2 rfl).cell 2
              by_cases hlj : j < RW.length
              · obtain ⟨r1, r2⟩ := HRB.out _ (nth_mem hlj)
                have g1 := (HR5.out.ext hE5).cI hlj
                obtain ⟨b, hb⟩ : ∃ b : Nat, nth RW j = (b : Int) := ⟨(nth RW j).toNat, by omega⟩
                have sb := (S.rd 3 rfl (by omega)).cI (k := b) (by omega)
                rw [HLB.out b (by omega)] at sb
                have d4 : (0:Int) ≤ j := by omega
                have d5 : (j:Int) < RW.length := by omega
                have d6 : (0:Int) ≤ b := by omega
                have d7 : (b:Int) < n := by omega
                rw [hb] at g1
                have HB' := Lib.hid hb
                cases hq : (lev nb n t b == (g : Int)) with
                | true =>
                  have hf := find_at (p := fun x => lev nb n t x.toNat == (g:Int)) hlj HJ.out (by rw [hb, Int.toNat_natCast]; exact hq)
                  obtain ⟨n1, n2⟩ := H5.out _ hf
                  rw [hb] at n1 n2
                  have N1 := Lib.hid n1
                  have N2 := Lib.hid n2
                  clear hf n1 n2 hb r1 r2
                  generalize lev nb n t b = y at *
                  have SH := Lib.hid S; clear S
                  go_wp2_with (at_builtin; go_must (refine wpList_append_sep rfl _ _ _ rfl 3 i0 _ 1 8 Tryz.underlying22 hi0 hz0 hz1 hz2 rfl (by omega) (SH.out.junk _) 0 q (i + 1) c _ rfl rfl _ 1 1 _ rfl (Rd.oneI _ _ _) (one_encI _) (by have := HD.out; omega) (by have := HD.out; omega) ?_; intro q' c' w7 S' hsz; have S6 := Lib.hid S'; clear S' hsz))
                  go_roundg g
                  case measure => omega
                  case rel => exact ⟨i + 1, q', c', by have := HIG.out; omega, by go_num, rfl, by rw [N1.out], by rw [N2.out, encI_append]; exact S6.out⟩
                | false =>
                  have hf := find_step (p := fun x => lev nb n t x.toNat == (g:Int)) hlj HJ.out (by rw [hb, Int.toNat_natCast]; exact hq)
                  have HF := Lib.hid hf
                  clear hf hb r1 r2
                  generalize lev nb n t b = y at *
                  have SH := Lib.hid S; clear S
                  go_wp2
                  go_roundg (RW.length - (j + 1))
                  case measure => omega
                  case rel => exact ⟨j + 1, by omega, by go_num, rfl, rfl, HF.out, hE5, SH.out⟩
              · exfalso
                have := HJ.out
                rw [List.take_of_length_le (by omega), HX0.out] at this
                cases this
      · have HNEG : Hid (pathR na nb n s t = [] ∧ distB (lev na n s t) = false) := ⟨by unfold pathR; rw [if_neg h0], by unfold distB; simp; omega⟩
        have hneg : lev nb n t s < 0 := by omega
        generalize lev nb n t s = y at *
        have d3 : decide (y < 0) = true := by simpa using hneg
        have SH := Lib.hid S; clear S
        clear hF hL hl0 lf hLB hlv h0 hneg bF bL
        go_wp2
        rw [Exit.noGoto_ret]
        go_ret3
        exact ⟨none, 0, by rw [HNEG.out.1, HNEG.out.2]; rfl, by rw [HNEG.out.1]; exact ((Sep.start w).call SH.out.ext).nilrow _ _⟩
    · have la : 0 < L.length := by omega
      have hk1 : k + 1 < n := has_lt ht ((front_has hL).2 la)
      have hfb0 := (hF.2 _).1 (nth_mem (l := F) (k := 0) lf)
      have HT := Lib.hid (take_cut hL)
      have T1 := Lib.hid (takeG 2 4 gb 62 gr n qb n (cutL (lev nb n t) n k) qf F.length cf F q L.length c L S (by decide) rfl rfl
        (fun W Y S => S.rd 3 rfl (by omega)) (fun W Y S => S.rd 0 rfl (by omega)) hn lf (by omega) (by omega) ⟨hfb0.1, hfb0.2.1⟩ bL.1 (fun h => by have := ((hL.2 _).1 h).2.2; omega)
        (k:Int) (by rw [cutL_nth (by omega)]; unfold cut; rw [if_pos (by omega)]; exact hfb0.2.2) (by omega))
      rw [HT.out] at T1
      have HL := Lib.hid hL
      have c1 : decide ((0:Int) < L.length) = true := by simpa using la
      have HAH2 := Lib.hid (fun W S => HAH.out pz gr ga gb qa qb qfa0 (k + 1) L q c W S hL)
      have HF2 := Lib.hid (ahead_front ht HIB.out hL)
      have SH := Lib.hid S; clear S
      clear hF hL hl0 hfb0 bF bL HT
      go_wp2_with (first
        | (go_at_call 41; have _t := P2; go_must (refine (HAH2.out _ P2.out).mono ?_; rintro e w4 ⟨q4, c4, rfl, Z⟩; have S4 := Lib.hid (P2.out.comp Z); clear Z))
        | (go_at_call 42; go_must (refine T1.out.mono ?_; rintro e w3 ⟨⟨v3, rfl⟩, Z⟩; have P2 := Lib.hid ((Z.pick [1, 2, 0, 4, 5, 6] (by decide) rfl) : Sep w w3 [.blk pz 57 #[.pointer (some ⟨ga, 0, none⟩), .pointer (some ⟨gb, 0, none⟩)], .blk gb 70 #[.func (.func 62) #[] #[.pointer (some ⟨gr, 0, none⟩)], .slice qb n n, .slice q L.length c], .own 3 1 q L.length c (encI L), .own 3 1 qb n n (encI (cutL (lev nb n t) n (k + 1 : Nat))), .blk ga 70 #[.func (.func 61) #[] #[.pointer (some ⟨gr, 0, none⟩)], .slice qa n n, .slice qfa0 1 1], .blk gr 24 #[.slice po no co, .slice pt nt ct, .slice pr nr cr, .slice pv nv cv]]); have z0 := (P2.out.blk 0 rfl).cell 0; have z1 := (P2.out.blk 0 rfl).cell 1; have zz := (P2.out.blk 0 rfl).lt; clear Z)))
      go_roundg (n - (k + 1))
      case measure => omega
      case rel => exact ⟨k + 1, L, _, q, q4, c, c4, by omega, rfl, HL.out, la, HF2.out, S4.out⟩
end Go.Proofs.YtgnjffnkmdodeaaGreat
/- The program's searches (chapter 8): Walk. -/
namespace Go.Proofs.YtgnjffnkmdodeaaGreat
open Go Go.RowKit
structure WalkQ (b : Bool) (i : Nat) (v : Value) (_ : World) : Prop where
  a : i = 4 → ∃ q n c, v = .tuple #[.slice q n c, .bool b]
  b' : i = 5 → ∃ q n c, v = .tuple #[.slice q n c, .bool b]
  c' : i = 7 → v = .bool b
  d' : i = 9 → v = .bool b
structure HasQ (b : Bool) (i : Nat) (v : Value) (_ : World) : Prop where
  a : i = 10 → v = .bool b
  b' : i = 11 → v = .bool (!b)
theorem WalkQ.of4 {b : Bool} {q : Option Addr} {n c : Nat} {w : World} : WalkQ b 4 (.tuple #[.slice q n c, .bool b]) w := ⟨fun _ => ⟨q, n, c, rfl⟩, fun h => absurd h (by decide), fun h => absurd h (by decide), fun h => absurd h (by decide)⟩
theorem WalkQ.of5 {b : Bool} {q : Option Addr} {n c : Nat} {w : World} : WalkQ b 5 (.tuple #[.slice q n c, .bool b]) w := ⟨fun h => absurd h (by decide), fun _ => ⟨q, n, c, rfl⟩, fun h => absurd h (by decide), fun h => absurd h (by decide)⟩
theorem WalkQ.of6 {b : Bool} {v : Value} {w : World} : WalkQ b 6 v w := ⟨fun h => absurd h (by decide), fun h => absurd h (by decide), fun h => absurd h (by decide), fun h => absurd h (by decide)⟩
theorem WalkQ.of7 {b : Bool} {w : World} : WalkQ b 7 (.bool b) w := ⟨fun h => absurd h (by decide), fun h => absurd h (by decide), fun _ => rfl, fun h => absurd h (by decide)⟩
theorem WalkQ.of8 {b : Bool} {v : Value} {w : World} : WalkQ b 8 v w := ⟨fun h => absurd h (by decide), fun h => absurd h (by decide), fun h => absurd h (by decide), fun h => absurd h (by decide)⟩
theorem WalkQ.of9 {b : Bool} {w : World} : WalkQ b 9 (.bool b) w := ⟨fun h => absurd h (by decide), fun h => absurd h (by decide), fun h => absurd h (by decide), fun _ => rfl⟩
theorem HasQ.of10 {b : Bool} {w : World} : HasQ b 10 (.bool b) w := ⟨fun _ => rfl, fun h => absurd h (by decide)⟩
theorem HasQ.of11 {b : Bool} {w : World} : HasQ b 11 (.bool (!b)) w := ⟨fun h => absurd h (by decide), fun _ => rfl⟩
set_option maxRecDepth 100000 in
set_option maxHeartbeats 8000000 in
theorem WalkG (po : Option Addr) (no co : Nat) (O : List Int) (pt : Option Addr) (nt ct : Nat) (T : List Int) (pr : Option Addr) (nr cr : Nat) (R : List Int) (pv : Option Addr) (nv cv : Nat) (V : List Int) (p : Option Addr) (m c : Nat) (l : List Int) (w : World) (hO : Rd w 1 po no (encI O)) (hT : Rd w 1 pt nt (encI T)) (hR : Rd w 1 pr nr (encI R)) (hV : Rd w 1 pv nv (encI V)) (hct : nt ≤ ct) (hcv : nv ≤ cv) (hl : Rd w 1 p m (encI l)) :
    Calls Tryz.prog 20 #[.agg #[.slice po no co, .slice pt nt ct, .slice pr nr cr, .slice pv nv cv], .slice p m c] w fun e w' => e = .returned (.bool (walkB (checkR O T R V) O T l)) ∧ Ext w w' := by
  have HOut := Lib.hid (fun W1 (h : Ext w W1) (v : Int) => OutG po no co O pt nt ct T pr nr cr R pv nv cv V W1 v (hO.ext h) (hT.ext h) (hR.ext h) (hV.ext h) hct hcv)
  have HHas := Lib.hid (fun W1 (h : Ext w W1) (v u : Int) => HasG po no co O pt nt ct T pr nr cr R pv nv cv V W1 v u (hO.ext h) (hT.ext h) (hR.ext h) (hV.ext h) hct hcv)
  have S0 := Lib.hid ((Sep.start w).al #[.slice po no co, .slice pt nt ct, .slice pr nr cr, .slice pv nv cv] 24 w.heap.size rfl)
  have p1 := hl.ptr
  have n1 := hl.small
  have L1 := Lib.hid hl.nI
  generalize hck : checkR O T R V = ck at *
  clear hO hT hR hV hct hcv hck
  have HL := Lib.hid hl; clear hl
  by_cases h0 : m = 0
  · have HW : Hid (walkB ck O T l = false) := by
      unfold Hid walkB
      rw [show decide (0 < l.length) = false by rw [decide_eq_false_iff_not]; have := L1.out; omega]; rfl
    have c1 : ((m:Int) == 0) = true := by simp [h0]
    clear h0
    go_enter Tryz.func20, Tryz.ntmps20
    go_wp2
    go_ret
    exact ⟨ret_bool HW.out.symm, S0.out.ext⟩
  · have c1 : ((m:Int) == 0) = false := by rw [beq_eq_false_iff_ne]; omega
    have m0 : 0 < m := by omega
    have m0' : (0:Int) < m := by omega
    cases hb : outB ck O (nth l 0) with
    | false =>
      have HW : Hid (walkB ck O T l = false) := by unfold Hid walkB; rw [hb]; simp
      have HO1 := Lib.hid (fun W1 (h : Ext w W1) => HOut.out W1 h (nth l 0))
      rw [hb] at HO1
      clear h0 hb
      go_enter Tryz.func20, Tryz.ntmps20
      go_wp2
      obtain ⟨X, hX⟩ : ∃ X, X = w.alloc (.cells #[.slice po no co, .slice pt nt ct, .slice pr nr cr, .slice pv nv cv] 24) := ⟨_, rfl⟩
      have SX := Lib.hid (hX ▸ S0.out : Sep w X [.blk w.heap.size 24 #[.slice po no co, .slice pt nt ct, .slice pr nr cr, .slice pv nv cv]])
      rw [← hX]
      clear hX S0
      have yz := (SX.out.blk 0 rfl).lt; have y0 := (SX.out.blk 0 rfl).cell 0; have y1 := (SX.out.blk 0 rfl).cell 1; have y2 := (SX.out.blk 0 rfl).cell 2; have y3 := (SX.out.blk 0 rfl).cell 3
      have g1 := SX.out.ext.cell (HL.out.cI m0)
      have u0 := fun x : ExtOf X => x.ext.cell y0
      have u1 := fun x : ExtOf X => x.ext.cell y1
      have u2 := fun x : ExtOf X => x.ext.cell y2
      have u3 := fun x : ExtOf X => x.ext.cell y3
      have u4 := fun x : ExtOf X => x.ext.cell g1
      refine wp_region_mix [true, true, true, true, false, false, false, false, false, false] (WalkQ false) (by kernel_rfl) (by kernel_rfl) (by kernel_rfl) (fun _ _ _ _ _ h => ⟨h.a, h.b', h.c', h.d'⟩) ?_
      simp only [nfM]
      repeat (go_big_quiet_step ((fail)))
      refine wpQuiet_nil ⟨⟨fun vs W1 hE hd => ?_, fun vs W1 hE hd => ?_, fun vs W1 hE hd => ?_, fun vs W1 hE hd => ?_, fun vs W1 hE hd => ?_, fun vs W1 hE hd => ?_, trivial⟩, fun vs W1 hE hkn => ?_⟩
      · simp [putM, execOp, go_sem]
        exact (HO1.out _ (Ext.trans SX.out.ext hE)).mono fun e w' ⟨q, c, h1, S⟩ => ⟨_, h1, WalkQ.of4, S.ext⟩
      · have k0 := WalkQ.a (hd 4 (by decide +kernel) rfl) rfl
        simp only [putM, List.length_cons, List.length_nil]
        simp [execOp, go_sem]
        obtain ⟨q, nq, cq, k1⟩ := k0
        rw [k1]
        exact ⟨WalkQ.of5, Below.refl _ _⟩
      · have k0 := WalkQ.b' (hd 5 (by decide +kernel) rfl) rfl
        simp [putM, execOp, go_sem]
        obtain ⟨q, nq, cq, k1⟩ := k0
        simp [k1, go_sem]
        exact ⟨WalkQ.of6, Below.refl _ _⟩
      · have k0 := WalkQ.b' (hd 5 (by decide +kernel) rfl) rfl
        simp [putM, execOp, go_sem]
        obtain ⟨q, nq, cq, k1⟩ := k0
        simp [k1, go_sem]
        exact ⟨WalkQ.of7, Below.refl _ _⟩
      · simp [putM, execOp, go_sem]
        exact ⟨WalkQ.of8, Below.refl _ _⟩
      · have k1 := WalkQ.c' (hd 7 (by decide +kernel) rfl) rfl
        simp [putM, execOp, go_sem, k1]
        exact ⟨WalkQ.of9, Below.refl _ _⟩
      simp only [knowM] at hkn
      have k1 := WalkQ.d' hkn.2.2.2.2.2.1 rfl
      have S1 := Lib.hid (SX.out.call hE)
      simp only [putM, k1, List.length_cons, List.length_nil, Nat.zero_add, Nat.reduceAdd, List.drop_succ_cons, List.drop_zero]
      clear u0 u1 u2 u3 u4 k1 hE y0 y1 y2 y3 yz g1 SX
      go_wp2
      go_ret
      exact ⟨ret_bool HW.out.symm, S1.out.ext⟩
    | true =>
      have HO1 := Lib.hid (fun W1 (h : Ext w W1) => HOut.out W1 h (nth l 0))
      rw [hb] at HO1
      have HB := Lib.hid hb
      clear h0 hb
      go_enter Tryz.func20, Tryz.ntmps20
      go_wp2
      obtain ⟨X, hX⟩ : ∃ X, X = w.alloc (.cells #[.slice po no co, .slice pt nt ct, .slice pr nr cr, .slice pv nv cv] 24) := ⟨_, rfl⟩
      have SX := Lib.hid (hX ▸ S0.out : Sep w X [.blk w.heap.size 24 #[.slice po no co, .slice pt nt ct, .slice pr nr cr, .slice pv nv cv]])
      rw [← hX]
      clear hX S0
      have yz := (SX.out.blk 0 rfl).lt; have y0 := (SX.out.blk 0 rfl).cell 0; have y1 := (SX.out.blk 0 rfl).cell 1; have y2 := (SX.out.blk 0 rfl).cell 2; have y3 := (SX.out.blk 0 rfl).cell 3
      have g1 := SX.out.ext.cell (HL.out.cI m0)
      have u0 := fun x : ExtOf X => x.ext.cell y0
      have u1 := fun x : ExtOf X => x.ext.cell y1
      have u2 := fun x : ExtOf X => x.ext.cell y2
      have u3 := fun x : ExtOf X => x.ext.cell y3
      have u4 := fun x : ExtOf X => x.ext.cell g1
      refine wp_region_mix [true, true, true, true, false, false, false, false, false, false] (WalkQ true) (by kernel_rfl) (by kernel_rfl) (by kernel_rfl) (fun _ _ _ _ _ h => ⟨h.a, h.b', h.c', h.d'⟩) ?_
      simp only [nfM]
      repeat (go_big_quiet_step ((fail)))
      refine wpQuiet_nil ⟨⟨fun vs W1 hE hd => ?_, fun vs W1 hE hd => ?_, fun vs W1 hE hd => ?_, fun vs W1 hE hd => ?_, fun vs W1 hE hd => ?_, fun vs W1 hE hd => ?_, trivial⟩, fun vs W1 hE hkn => ?_⟩
      · simp [putM, execOp, go_sem]
        exact (HO1.out _ (Ext.trans SX.out.ext hE)).mono fun e w' ⟨q, c, h1, S⟩ => ⟨_, h1, WalkQ.of4, S.ext⟩
      · have k0 := WalkQ.a (hd 4 (by decide +kernel) rfl) rfl
        simp only [putM, List.length_cons, List.length_nil]
        simp [execOp, go_sem]
        obtain ⟨q, nq, cq, k1⟩ := k0
        rw [k1]
        exact ⟨WalkQ.of5, Below.refl _ _⟩
      · have k0 := WalkQ.b' (hd 5 (by decide +kernel) rfl) rfl
        simp [putM, execOp, go_sem]
        obtain ⟨q, nq, cq, k1⟩ := k0
        simp [k1, go_sem]
        exact ⟨WalkQ.of6, Below.refl _ _⟩
      · have k0 := WalkQ.b' (hd 5 (by decide +kernel) rfl) rfl
        simp [putM, execOp, go_sem]
        obtain ⟨q, nq, cq, k1⟩ := k0
        simp [k1, go_sem]
        exact ⟨WalkQ.of7, Below.refl _ _⟩
      · simp [putM, execOp, go_sem]
        exact ⟨WalkQ.of8, Below.refl _ _⟩
      · have k1 := WalkQ.c' (hd 7 (by decide +kernel) rfl) rfl
        simp [putM, execOp, go_sem, k1]
        exact ⟨WalkQ.of9, Below.refl _ _⟩
      simp only [knowM] at hkn
      have k1 := WalkQ.d' hkn.2.2.2.2.2.1 rfl
      have S1 := Lib.hid (SX.out.call hE)
      simp only [putM, k1, List.length_cons, List.length_nil, Nat.zero_add, Nat.reduceAdd, List.drop_succ_cons, List.drop_zero]
      clear u0 u1 u2 u3 u4 k1 hE y0 y1 y2 y3 yz g1 SX
      go_wp2
      go_loopw [7] (fun i wr => ∃ k : Nat, k + 1 ≤ m ∧ i = .int .i64 ((k:Int) + 1) ∧ Hid (((List.range k).all fun i => hasB ck O T (nth l i) (nth l (i + 1))) = true) ∧ Sep w wr [.blk w.heap.size 24 #[.slice po no co, .slice pt nt ct, .slice pr nr cr, .slice pv nv cv]]) (fun i _ => m - (intOf i).toNat)
      case atStart => exact ⟨0, by omega, rfl, rfl, S1.out⟩
      case round =>
        clear S1
        obtain ⟨k, hk, rfl, ha, S⟩ := hrel
        have yz := (S.blk 0 rfl).lt; have y0 := (S.blk 0 rfl).cell 0; have y1 := (S.blk 0 rfl).cell 1; have y2 := (S.blk 0 rfl).cell 2; have y3 := (S.blk 0 rfl).cell 3
        by_cases hlt : k + 1 < m
        · have g1 := S.ext.cell (HL.out.cI (k := k) (by omega))
          have g2 := S.ext.cell (HL.out.cI hlt)
          have HH1 := Lib.hid (fun W1 (h : Ext w W1) => HHas.out W1 h (nth l k) (nth l (k + 1)))
          have d0 : (0:Int) ≤ k := by omega
          have d1 : (k:Int) < m := by omega
          have d2 : (0:Int) ≤ (k:Int) + 1 := by omega
          have d3 : (k:Int) + 1 < m := by omega
          cases hq : hasB ck O T (nth l k) (nth l (k + 1)) with
          | false =>
            rw [hq] at HH1
            have HW : Hid (walkB ck O T l = false) := by
              unfold Hid walkB
              have : ((List.range (l.length - 1)).all fun i => hasB ck O T (nth l i) (nth l (i + 1))) = false :=
                List.all_eq_false.2 ⟨k, List.mem_range.2 (by have := L1.out; omega), by rw [hq]; simp⟩
              rw [this, Bool.and_false]
            clear ha hq
            have SH := Lib.hid S; clear S
            generalize nth l k = x at *
            generalize nth l (k + 1) = y at *
            go_wp2
            have u0 := fun x : ExtOf wr => x.ext.cell y0
            have u1 := fun x : ExtOf wr => x.ext.cell y1
            have u2 := fun x : ExtOf wr => x.ext.cell y2
            have u3 := fun x : ExtOf wr => x.ext.cell y3
            have u4 := fun x : ExtOf wr => x.ext.cell g1
            have u5 := fun x : ExtOf wr => x.ext.cell g2
            refine wp_region_mix [true, true, true, true, true, true, true, true, true, true, false, false] (HasQ false) (by kernel_rfl) (by kernel_rfl) (by kernel_rfl) (fun _ _ _ _ _ h => ⟨h.a, h.b'⟩) ?_
            simp only [nfM]
            repeat (go_big_quiet_step ((fail)))
            refine wpQuiet_nil ⟨⟨fun vs W1 hE hd => ?_, fun vs W1 hE hd => ?_, trivial⟩, fun vs W1 hE hkn => ?_⟩
            · simp [putM, execOp, go_sem]
              exact (HH1.out _ (Ext.trans SH.out.ext hE)).mono fun e w' ⟨h1, h2⟩ => ⟨_, h1, HasQ.of10, h2⟩
            · have k1 := HasQ.a (hd 10 (by decide +kernel) rfl) rfl
              simp [putM, execOp, go_sem, k1]
              exact ⟨HasQ.of11, Below.refl _ _⟩
            simp only [knowM] at hkn
            have k1 := HasQ.b' hkn.2.1 rfl
            have S1 := Lib.hid (SH.out.call hE)
            simp only [putM, k1, List.length_cons, List.length_nil, Nat.zero_add, Nat.reduceAdd, List.drop_succ_cons, List.drop_zero]
            clear u0 u1 u2 u3 u4 u5 k1 hE y0 y1 y2 y3 yz g1 g2 SH
            go_wp2
            go_ret
            exact ⟨ret_bool HW.out.symm, S1.out.ext⟩
          | true =>
            rw [hq] at HH1
            have HA : Hid (((List.range (k + 1)).all fun i => hasB ck O T (nth l i) (nth l (i + 1))) = true) := by
              unfold Hid; rw [List.range_succ, List.all_append, ha.out]; simp [hq]
            clear ha hq
            have SH := Lib.hid S; clear S
            generalize nth l k = x at *
            generalize nth l (k + 1) = y at *
            go_wp2
            have u0 := fun x : ExtOf wr => x.ext.cell y0
            have u1 := fun x : ExtOf wr => x.ext.cell y1
            have u2 := fun x : ExtOf wr => x.ext.cell y2
            have u3 := fun x : ExtOf wr => x.ext.cell y3
            have u4 := fun x : ExtOf wr => x.ext.cell g1
            have u5 := fun x : ExtOf wr => x.ext.cell g2
            refine wp_region_mix [true, true, true, true, true, true, true, true, true, true, false, false] (HasQ true) (by kernel_rfl) (by kernel_rfl) (by kernel_rfl) (fun _ _ _ _ _ h => ⟨h.a, h.b'⟩) ?_
            simp only [nfM]
            repeat (go_big_quiet_step ((fail)))
            refine wpQuiet_nil ⟨⟨fun vs W1 hE hd => ?_, fun vs W1 hE hd => ?_, trivial⟩, fun vs W1 hE hkn => ?_⟩
            · simp [putM, execOp, go_sem]
              exact (HH1.out _ (Ext.trans SH.out.ext hE)).mono fun e w' ⟨h1, h2⟩ => ⟨_, h1, HasQ.of10, h2⟩
            · have k1 := HasQ.a (hd 10 (by decide +kernel) rfl) rfl
              simp [putM, execOp, go_sem, k1]
              exact ⟨HasQ.of11, Below.refl _ _⟩
            simp only [knowM] at hkn
            have k1 := HasQ.b' hkn.2.1 rfl
            have S1 := Lib.hid (SH.out.call hE)
            simp only [putM, k1, List.length_cons, List.length_nil, Nat.zero_add, Nat.reduceAdd, List.drop_succ_cons, List.drop_zero]
            clear u0 u1 u2 u3 u4 u5 k1 hE y0 y1 y2 y3 yz g1 g2 SH
            go_wp2
            go_roundw
            case rel => exact ⟨k + 1, by omega, by go_num, HA.out, S1.out⟩
            case measure => simp [intOf]; omega
        · obtain rfl : m = k + 1 := by omega
          have HW : Hid (walkB ck O T l = true) := by
            unfold Hid walkB
            have e1 := L1.out
            rw [HB.out, show l.length - 1 = k by omega, ha.out]
            simp; omega
          have SH := Lib.hid S; clear S
          clear ha
          go_wp2
          go_ret
          exact ⟨ret_bool HW.out.symm, SH.out.ext⟩
end Go.Proofs.YtgnjffnkmdodeaaGreat
/- The document's example rows. -/
namespace Go.Proofs.YtgnjffnkmdodeaaGreat
open Go Go.RowKit
def exE3 : List (Int × Int) := [(0, 1), (0, 2), (2, 1)]
def exO : List Int := [0, 2, 2, 3]
def exT : List Int := [1, 2, 1]
def exR : List Int := [0, 0, 2, 3]
def exV : List Int := [0, 2, 0]
theorem exI3 : isB 3 exE3 [[], [], []] = true := by decide
theorem exO_eq : offL 3 exE3 = exO := by decide
theorem exT_eq : toL exE3 = exT := by decide
theorem exR_eq : offL 3 (turnE exE3) = exR := by decide
theorem exV_eq : toL (turnE exE3) = exV := by decide
theorem exCk : checkR exO exT exR exV = true := by decide
theorem exIn : outL true exR exV 1 = [0, 2] ∧ outB true exR 1 = true := by decide
theorem exH1 : hasB true exO exT 0 2 = true := by decide
theorem exH2 : hasB true exO exT 1 0 = false := by decide
theorem exI0 : isB 0 [] [] = false := by decide
/-- four slices are read -/
structure R4 (w : World) (po : Option Addr) (no : Nat) (pt : Option Addr) (nt : Nat) (pr : Option Addr) (nr : Nat) (pv : Option Addr) (nv : Nat) (O T R V : List Int) : Prop where
  o : Rd w 1 po no (encI O)
  t : Rd w 1 pt nt (encI T)
  r : Rd w 1 pr nr (encI R)
  v : Rd w 1 pv nv (encI V)
theorem R4.ext {w w' : World} {po : Option Addr} {no : Nat} {pt : Option Addr} {nt : Nat} {pr : Option Addr} {nr : Nat} {pv : Option Addr} {nv : Nat} {O T R V : List Int} (h : R4 w po no pt nt pr nr pv nv O T R V) (he : Ext w w') : R4 w' po no pt nt pr nr pv nv O T R V := ⟨h.o.ext he, h.t.ext he, h.r.ext he, h.v.ext he⟩
theorem exMk3 (w : World) : Calls Tryz.prog 44 #[.agg #[.int .i64 3, .slice (some ⟨w.heap.size, 0, none⟩) 3 3, .slice (some ⟨w.heap.size + 1, 0, none⟩) 3 3]] ((w.alloc (.cells #[.int .i64 0, .int .i64 1, .int .i64 0, .int .i64 2, .int .i64 2, .int .i64 1] 53)).alloc (.cells #[.slice none 0 0, .slice none 0 0, .slice none 0 0] 114)) fun e w' =>
    ∃ po no co pt nt ct pr nr cr pv nv cv, e = .returned (.tuple #[.agg #[.slice po no co, .slice pt nt ct, .slice pr nr cr, .slice pv nv cv], .int .i64 0]) ∧ R4 w' po no pt nt pr nr pv nv exO exT exR exV ∧ nt ≤ ct ∧ nv ≤ cv ∧ Ext w w' := by
  obtain ⟨a1, a2, a3⟩ := alloc2B w #[.int .i64 0, .int .i64 1, .int .i64 0, .int .i64 2, .int .i64 2, .int .i64 1] #[.slice none 0 0, .slice none 0 0, .slice none 0 0] 53 114
  generalize ((w.alloc (.cells #[.int .i64 0, .int .i64 1, .int .i64 0, .int .i64 2, .int .i64 2, .int .i64 1] 53)).alloc (.cells #[.slice none 0 0, .slice none 0 0, .slice none 0 0] 114)) = W at *
  have h1 : Rd W 2 (some ⟨w.heap.size, 0, none⟩) 3 (encE exE3) := a1.rd rfl rfl (by decide)
  have h2 : RdW W (some ⟨w.heap.size + 1, 0, none⟩) 3 [⟨none, 0, 0⟩, ⟨none, 0, 0⟩, ⟨none, 0, 0⟩] [[], [], []] := ⟨rfl, a2.rd rfl rfl (by decide), fun j hj => by
    have : j = 0 ∨ j = 1 ∨ j = 2 := by omega
    rcases this with rfl | rfl | rfl <;> exact Rd.nil _ _ _⟩
  have hz : SzW [[], [], []] := fun l hl s hs => by simp at hl; subst hl; cases hs
  refine (RMakeG_yes 3 _ 3 3 _ 3 3 exE3 _ _ W h1 h2 hz exI3).mono ?_
  rintro e w' ⟨v, rfl, ⟨po, no, co, pt, nt, ct, pr, nr, cr, pv, nv, cv, rfl, k1, k2, k3, k4, k5, k6, k7, k8⟩, hb⟩
  rw [exO_eq] at k1
  rw [exT_eq] at k2
  rw [exR_eq] at k3
  rw [exV_eq] at k4
  exact ⟨po, no, co, pt, nt, ct, pr, nr, cr, pv, nv, cv, rfl, ⟨k1, k2, k3, k4⟩, k6, k8, Ext.trans a3 hb⟩
theorem exMk0 (w : World) : Calls Tryz.prog 44 #[.agg #[.int .i64 0, .slice none 0 0, .slice none 0 0]] w fun e w' => e = .returned (.tuple #[.agg #[.slice none 0 0, .slice none 0 0, .slice none 0 0, .slice none 0 0], .int .i64 20]) ∧ Ext w w' :=
  RMakeG_no 0 none 0 0 none 0 0 [] [] [] w (Rd.nil _ _ _) ⟨rfl, Rd.nil _ _ _, fun j hj => by omega⟩ (fun l hl => nomatch hl) exI0
section
variable (po : Option Addr) (no co : Nat) (pt : Option Addr) (nt ct : Nat) (pr : Option Addr) (nr cr : Nat) (pv : Option Addr) (nv cv : Nat) (w : World) (h : R4 w po no pt nt pr nr pv nv exO exT exR exV) (hct : nt ≤ ct) (hcv : nv ≤ cv)
include h hct hcv
theorem exCkG : Calls Tryz.prog 24 #[.agg #[.slice po no co, .slice pt nt ct, .slice pr nr cr, .slice pv nv cv]] w fun e w' => e = .returned (.bool true) ∧ Ext w w' := by
  have := CheckR po no co exO pt nt ct exT pr nr cr exR pv nv cv exV w h.o h.t h.r h.v hct hcv
  rwa [exCk] at this
theorem exHasG1 : Calls Tryz.prog 46 #[.agg #[.slice po no co, .slice pt nt ct, .slice pr nr cr, .slice pv nv cv], .int .i64 0, .int .i64 2] w fun e w' => e = .returned (.bool true) ∧ Ext w w' := by
  have := HasG po no co exO pt nt ct exT pr nr cr exR pv nv cv exV w 0 2 h.o h.t h.r h.v hct hcv
  rwa [exCk, exH1] at this
theorem exHasG2 : Calls Tryz.prog 46 #[.agg #[.slice po no co, .slice pt nt ct, .slice pr nr cr, .slice pv nv cv], .int .i64 1, .int .i64 0] w fun e w' => e = .returned (.bool false) ∧ Ext w w' := by
  have := HasG po no co exO pt nt ct exT pr nr cr exR pv nv cv exV w 1 0 h.o h.t h.r h.v hct hcv
  rwa [exCk, exH2] at this
end
/-- the example's rows where they lie -/
theorem exWant4 (w : World) (cs : Array Value) : ∃ X, X = (((((w.alloc (.cells cs 24)).alloc (.cells #[.int .i64 0, .int .i64 2, .int .i64 2, .int .i64 3] 3)).alloc (.cells #[.int .i64 1, .int .i64 2, .int .i64 1] 3)).alloc (.cells #[.int .i64 0, .int .i64 0, .int .i64 2, .int .i64 3] 3)).alloc (.cells #[.int .i64 0, .int .i64 2, .int .i64 0] 3)) ∧
    Sep w X [.blk w.heap.size 24 cs] ∧ X.heap.size = w.heap.size + 1 + 1 + 1 + 1 + 1 ∧
    R4 X (some ⟨w.heap.size + 1, 0, none⟩) 4 (some ⟨w.heap.size + 1 + 1, 0, none⟩) 3 (some ⟨w.heap.size + 1 + 1 + 1, 0, none⟩) 4 (some ⟨w.heap.size + 1 + 1 + 1 + 1, 0, none⟩) 3 exO exT exR exV := by
  have S := (((((Sep.start w).al cs 24 w.heap.size rfl).al #[.int .i64 0, .int .i64 2, .int .i64 2, .int .i64 3] 3 (w.heap.size + 1) (by simp)).al #[.int .i64 1, .int .i64 2, .int .i64 1] 3 (w.heap.size + 1 + 1) (by simp)).al #[.int .i64 0, .int .i64 0, .int .i64 2, .int .i64 3] 3 (w.heap.size + 1 + 1 + 1) (by simp)).al #[.int .i64 0, .int .i64 2, .int .i64 0] 3 (w.heap.size + 1 + 1 + 1 + 1) (by simp)
  exact ⟨_, rfl, S.pick [4] (by decide) rfl, by simp, (S.blk 3 rfl).rd rfl rfl (by decide), (S.blk 2 rfl).rd rfl rfl (by decide), (S.blk 1 rfl).rd rfl rfl (by decide), (S.blk 0 rfl).rd rfl rfl (by decide)⟩
end Go.Proofs.YtgnjffnkmdodeaaGreat
/- The document's example of chapter 8: its rows, and what is told of them. -/
namespace Go.Proofs.YtgnjffnkmdodeaaGreat
open Go Go.RowKit
def ex8E : List (Int × Int) := [(0, 1), (0, 2), (1, 3), (2, 3), (3, 4)]
def ex8O : List Int := [0, 2, 3, 4, 5, 5]
def ex8T : List Int := [1, 2, 3, 3, 4]
def ex8R : List Int := [0, 0, 1, 2, 4, 5]
def ex8V : List Int := [0, 0, 1, 2, 3]
theorem ex8I : isB 5 ex8E [[], [], [], [], []] = true := by decide +kernel
theorem ex8O_eq : offL 5 ex8E = ex8O := by decide +kernel
theorem ex8T_eq : toL ex8E = ex8T := by decide +kernel
theorem ex8R_eq : offL 5 (turnE ex8E) = ex8R := by decide +kernel
theorem ex8V_eq : toL (turnE ex8E) = ex8V := by decide +kernel
theorem ex8Ck : checkR ex8O ex8T ex8R ex8V = true := by decide +kernel
theorem ex8L1 : lev (rowL ex8O ex8T) 5 0 4 = 3 := by decide +kernel
theorem ex8L2 : lev (rowL ex8O ex8T) 5 4 0 = -1 := by decide +kernel
theorem ex8S : stepsN 5 (lev (rowL ex8O ex8T) 5 0) (lev (rowL ex8R ex8V) 5 4) = 2 := by decide +kernel
theorem ex8P : pathR (rowL ex8O ex8T) (rowL ex8R ex8V) 5 0 4 = [0, 1, 3, 4] := by decide +kernel
theorem ex8C : pairC true ex8O 5 0 = 1 := by decide +kernel
theorem ex8W1 : walkB true ex8O ex8T [0, 1, 3, 4] = true := by decide +kernel
theorem ex8W2 : walkB true ex8O ex8T [1, 0] = false := by decide +kernel
theorem ex8Cells : (#[.int .i64 0, .int .i64 1, .int .i64 0, .int .i64 2, .int .i64 1, .int .i64 3, .int .i64 2, .int .i64 3, .int .i64 3, .int .i64 4] : Array Value).toList = encE ex8E := by simp [encE, ex8E]
theorem made5 : (madeCells (Value.slice none 0 0).cells (5 * 1)).toList = [.slice none 0 0, .slice none 0 0, .slice none 0 0, .slice none 0 0, .slice none 0 0] := by kernel_rfl
theorem ex8Mk (p q : Option Addr) (W : World) (h1 : Rd W 2 p 5 (encE ex8E)) (h0 : Rd W 1 q 5 [.slice none 0 0, .slice none 0 0, .slice none 0 0, .slice none 0 0, .slice none 0 0]) : Calls Tryz.prog 44 #[.agg #[.int .i64 5, .slice p 5 5, .slice q 5 5]] W fun e w' =>
    ∃ po no co pt nt ct pr nr cr pv nv cv, e = .returned (.tuple #[.agg #[.slice po no co, .slice pt nt ct, .slice pr nr cr, .slice pv nv cv], .int .i64 0]) ∧ R4 w' po no pt nt pr nr pv nv ex8O ex8T ex8R ex8V ∧ nt ≤ ct ∧ nv ≤ cv ∧ Ext W w' := by
  have h2 : RdW W q 5 [⟨none, 0, 0⟩, ⟨none, 0, 0⟩, ⟨none, 0, 0⟩, ⟨none, 0, 0⟩, ⟨none, 0, 0⟩] [[], [], [], [], []] := ⟨rfl, h0, fun j hj => by
    have : j = 0 ∨ j = 1 ∨ j = 2 ∨ j = 3 ∨ j = 4 := by omega
    rcases this with rfl | rfl | rfl | rfl | rfl <;> exact Rd.nil _ _ _⟩
  have hz : SzW [[], [], [], [], []] := fun l hl s hs => by simp at hl; subst hl; cases hs
  refine (RMakeG_yes 5 _ 5 5 _ 5 5 ex8E _ _ W h1 h2 hz ex8I).mono ?_
  rintro e w' ⟨v, rfl, ⟨po, no, co, pt, nt, ct, pr, nr, cr, pv, nv, cv, rfl, k1, k2, k3, k4, k5, k6, k7, k8⟩, hb⟩
  rw [ex8O_eq] at k1
  rw [ex8T_eq] at k2
  rw [ex8R_eq] at k3
  rw [ex8V_eq] at k4
  exact ⟨po, no, co, pt, nt, ct, pr, nr, cr, pv, nv, cv, rfl, ⟨k1, k2, k3, k4⟩, k6, k8, hb⟩
section
variable (po : Option Addr) (no co : Nat) (pt : Option Addr) (nt ct : Nat) (pr : Option Addr) (nr cr : Nat) (pv : Option Addr) (nv cv : Nat) (w : World) (h : R4 w po no pt nt pr nr pv nv ex8O ex8T ex8R ex8V) (hct : nt ≤ ct) (hcv : nv ≤ cv)
include h hct hcv
theorem ex8D1 : Calls Tryz.prog 12 #[.agg #[.slice po no co, .slice pt nt ct, .slice pr nr cr, .slice pv nv cv], .int .i64 0, .int .i64 4] w fun e w' => e = .returned (.tuple #[.int .i64 3, .bool true, .int .i64 0]) ∧ Ext w w' := by
  have := DistG_yes po no co ex8O pt nt ct ex8T pr nr cr ex8R pv nv cv ex8V 5 0 4 w h.o h.t h.r h.v hct hcv ex8Ck rfl (by decide) (by decide)
  rw [ex8L1] at this
  exact this
theorem ex8D2 : Calls Tryz.prog 12 #[.agg #[.slice po no co, .slice pt nt ct, .slice pr nr cr, .slice pv nv cv], .int .i64 4, .int .i64 0] w fun e w' => e = .returned (.tuple #[.int .i64 0, .bool false, .int .i64 0]) ∧ Ext w w' := by
  have := DistG_yes po no co ex8O pt nt ct ex8T pr nr cr ex8R pv nv cv ex8V 5 4 0 w h.o h.t h.r h.v hct hcv ex8Ck rfl (by decide) (by decide)
  rw [ex8L2] at this
  exact this
theorem ex8D3 : Calls Tryz.prog 12 #[.agg #[.slice po no co, .slice pt nt ct, .slice pr nr cr, .slice pv nv cv], .int .i64 5, .int .i64 0] w fun e w' => e = .returned (.tuple #[.int .i64 0, .bool false, .int .i64 1]) ∧ Ext w w' := by
  have := DistG_no po no co ex8O pt nt ct ex8T pr nr cr ex8R pv nv cv ex8V 5 0 w h.o h.t h.r h.v hct hcv (by rw [ex8Ck, ex8C]; decide)
  rw [ex8Ck, ex8C] at this
  exact this
theorem ex8S1 : Calls Tryz.prog 14 #[.agg #[.slice po no co, .slice pt nt ct, .slice pr nr cr, .slice pv nv cv], .int .i64 0, .int .i64 4] w fun e w' => e = .returned (.tuple #[.int .i64 2, .int .i64 0]) ∧ Ext w w' := by
  have := StepsG_yes po no co ex8O pt nt ct ex8T pr nr cr ex8R pv nv cv ex8V 5 0 4 w h.o h.t h.r h.v hct hcv ex8Ck rfl (by decide) (by decide)
  rw [ex8S] at this
  exact this
theorem ex8P1 : Calls Tryz.prog 16 #[.agg #[.slice po no co, .slice pt nt ct, .slice pr nr cr, .slice pv nv cv], .int .i64 0, .int .i64 4] w fun e w' => ∃ q c, e = .returned (.tuple #[.slice q 4 c, .bool true, .int .i64 0]) ∧ Rd w' 1 q 4 (encI [0, 1, 3, 4]) ∧ Ext w w' := by
  have := PathG_yes po no co ex8O pt nt ct ex8T pr nr cr ex8R pv nv cv ex8V 5 0 4 w h.o h.t h.r h.v hct hcv ex8Ck rfl (by decide) (by decide)
  rw [ex8P, ex8L1] at this
  exact this.mono fun e w' ⟨q, c, h1, S⟩ => ⟨q, c, h1, S.rd 0 rfl (by decide), S.ext⟩
theorem ex8Wa (q : Option Addr) (c : Nat) (hl : Rd w 1 q 4 (encI [0, 1, 3, 4])) : Calls Tryz.prog 20 #[.agg #[.slice po no co, .slice pt nt ct, .slice pr nr cr, .slice pv nv cv], .slice q 4 c] w fun e w' => e = .returned (.bool true) ∧ Ext w w' := by
  have := WalkG po no co ex8O pt nt ct ex8T pr nr cr ex8R pv nv cv ex8V q 4 c [0, 1, 3, 4] w h.o h.t h.r h.v hct hcv hl
  rw [ex8Ck, ex8W1] at this
  exact this
theorem ex8Wb (q : Option Addr) (c : Nat) (hl : Rd w 1 q 2 (encI [1, 0])) : Calls Tryz.prog 20 #[.agg #[.slice po no co, .slice pt nt ct, .slice pr nr cr, .slice pv nv cv], .slice q 2 c] w fun e w' => e = .returned (.bool false) ∧ Ext w w' := by
  have := WalkG po no co ex8O pt nt ct ex8T pr nr cr ex8R pv nv cv ex8V q 2 c [1, 0] w h.o h.t h.r h.v hct hcv hl
  rw [ex8Ck, ex8W2] at this
  exact this
end
set_option maxRecDepth 100000 in
set_option maxHeartbeats 4000000 in
theorem Dists (w : World) : Calls Tryz.prog 18 #[] w fun e w' => e = .returned (.bool true) ∧ Ext w w' := by
  obtain ⟨i0, hi0, hz0, hz1, hz2⟩ := info_parts inf35
  have SE : Hid (Sep w (w.alloc (.cells #[.int .i64 0, .int .i64 1, .int .i64 0, .int .i64 2, .int .i64 1, .int .i64 3, .int .i64 2, .int .i64 3, .int .i64 3, .int .i64 4] 53)) [.own 53 2 (some ⟨w.heap.size, 0, none⟩) 5 5 (encE ex8E)]) := by
    have h := (Sep.start w).alrow #[.int .i64 0, .int .i64 1, .int .i64 0, .int .i64 2, .int .i64 1, .int .i64 3, .int .i64 2, .int .i64 3, .int .i64 3, .int .i64 4] 53 2 5 w.heap.size rfl (by decide) rfl
    rw [ex8Cells] at h
    exact h
  have HQ : Hid ((w.alloc (.cells #[.int .i64 0, .int .i64 1, .int .i64 0, .int .i64 2, .int .i64 1, .int .i64 3, .int .i64 2, .int .i64 3, .int .i64 3, .int .i64 4] 53)).heap.size = w.heap.size + 1) := by unfold Hid; simp
  go_enter Tryz.func18, Tryz.ntmps18
  go_wp2_with (first
    | (at_make; go_must (refine wpList_make_sep rfl _ _ _ rfl 114 i0 _ 1 Tryz.underlying75 hi0 hz0 hz1 (5:Int) 5 rfl rfl rfl (by rw [hz2]; omega) (by unfold maxLen; omega) SE.out ?_; intro w0 S'; rw [made5, HQ.out] at S'; have S0 := Lib.hid S'; clear S'))
    | (go_at_call 20; have _t := S8; go_must (refine (ex8Wb po no co pt nt ct pr nr cr pv nv cv _ (HR.out.ext (Ext.trans S8.out.ext (Ext.alloc (Below.refl _ _) _))) hct hcv _ _ (Rd.new w8 3 [.int .i64 1, .int .i64 0] 2 1 rfl (by decide))).mono ?_; rintro e w9 ⟨rfl, hb0⟩; have S9 := Lib.hid (S8.out.call (Ext.trans (Ext.alloc (Below.refl w8.heap.size w8) (.cells #[.int .i64 1, .int .i64 0] 3)) hb0)); clear hb0))
    | (go_at_call 20; go_must (refine (ex8Wa po no co pt nt ct pr nr cr pv nv cv _ (HR.out.ext S7.out.ext) hct hcv q4 c4 (HP.out.ext (Ext.trans S7b.out hb7.out))).mono ?_; rintro e w8 ⟨rfl, hb⟩; have S8 := Lib.hid (S7.out.call hb); have a8z := (S8.out.blk 0 rfl).lt; have a80 := (S8.out.blk 0 rfl).cell 0; have a81 := (S8.out.blk 0 rfl).cell 1; have a82 := (S8.out.blk 0 rfl).cell 2; have a83 := (S8.out.blk 0 rfl).cell 3; clear hb))
    | (go_at_call 19; go_must (refine (IntsY q4 _ _ _ c4 _ [0, 1, 3, 4] _ ((HP.out.ext S7b.out).ext (Ext.alloc (Below.refl _ _) _)) (Rd.new w6 3 [.int .i64 0, .int .i64 1, .int .i64 3, .int .i64 4] 4 1 rfl (by decide))).mono ?_; rintro e w7 ⟨rfl, hb0⟩; have hb := Ext.trans (Ext.alloc (Below.refl w6.heap.size w6) (.cells #[.int .i64 0, .int .i64 1, .int .i64 3, .int .i64 4] 3)) hb0; have hb7 := Lib.hid hb; clear hb0; have S7 := Lib.hid (S6.out.call hb); have a7z := (S7.out.blk 0 rfl).lt; have a70 := (S7.out.blk 0 rfl).cell 0; have a71 := (S7.out.blk 0 rfl).cell 1; have a72 := (S7.out.blk 0 rfl).cell 2; have a73 := (S7.out.blk 0 rfl).cell 3; clear hb))
    | (go_at_call 12; have _t := S5; go_must (refine (ex8D3 po no co pt nt ct pr nr cr pv nv cv _ (HR.out.ext S5.out.ext) hct hcv).mono ?_; rintro e w6 ⟨rfl, hb⟩; have S7b := Lib.hid (Ext.trans S6b.out hb); have S6 := Lib.hid (S5.out.call hb); have a6z := (S6.out.blk 0 rfl).lt; have a60 := (S6.out.blk 0 rfl).cell 0; have a61 := (S6.out.blk 0 rfl).cell 1; have a62 := (S6.out.blk 0 rfl).cell 2; have a63 := (S6.out.blk 0 rfl).cell 3; clear hb))
    | (go_at_call 12; have _t := S4; go_must (refine (ex8D2 po no co pt nt ct pr nr cr pv nv cv _ (HR.out.ext S4.out.ext) hct hcv).mono ?_; rintro e w5 ⟨rfl, hb⟩; have S6b := Lib.hid hb; have S5 := Lib.hid (S4.out.call hb); have a5z := (S5.out.blk 0 rfl).lt; have a50 := (S5.out.blk 0 rfl).cell 0; have a51 := (S5.out.blk 0 rfl).cell 1; have a52 := (S5.out.blk 0 rfl).cell 2; have a53 := (S5.out.blk 0 rfl).cell 3; clear hb))
    | (go_at_call 16; go_must (refine (ex8P1 po no co pt nt ct pr nr cr pv nv cv _ (HR.out.ext S3.out.ext) hct hcv).mono ?_; rintro e w4 ⟨q4, c4, rfl, hp, hb⟩; have HP := Lib.hid hp; clear hp; have S4 := Lib.hid (S3.out.call hb); have a4z := (S4.out.blk 0 rfl).lt; have a40 := (S4.out.blk 0 rfl).cell 0; have a41 := (S4.out.blk 0 rfl).cell 1; have a42 := (S4.out.blk 0 rfl).cell 2; have a43 := (S4.out.blk 0 rfl).cell 3; clear hb))
    | (go_at_call 14; go_must (refine (ex8S1 po no co pt nt ct pr nr cr pv nv cv _ (HR.out.ext S2.out.ext) hct hcv).mono ?_; rintro e w3 ⟨rfl, hb⟩; have S3 := Lib.hid (S2.out.call hb); have a3z := (S3.out.blk 0 rfl).lt; have a30 := (S3.out.blk 0 rfl).cell 0; have a31 := (S3.out.blk 0 rfl).cell 1; have a32 := (S3.out.blk 0 rfl).cell 2; have a33 := (S3.out.blk 0 rfl).cell 3; clear hb))
    | (go_at_call 12; go_must (refine (ex8D1 po no co pt nt ct pr nr cr pv nv cv _ (HR.out.ext S1.out.ext) hct hcv).mono ?_; rintro e w2 ⟨rfl, hb⟩; have S2 := Lib.hid (S1.out.call hb); have a2z := (S2.out.blk 0 rfl).lt; have a20 := (S2.out.blk 0 rfl).cell 0; have a21 := (S2.out.blk 0 rfl).cell 1; have a22 := (S2.out.blk 0 rfl).cell 2; have a23 := (S2.out.blk 0 rfl).cell 3; clear hb))
    | (go_at_call 44; go_must (refine (ex8Mk _ _ _ (S0.out.rd 1 rfl (by decide)) (S0.out.rd 0 rfl (by decide))).mono ?_; rintro e w1 ⟨po, no, co, pt, nt, ct, pr, nr, cr, pv, nv, cv, rfl, hr, hct, hcv, hb⟩; have E1 := Lib.hid (Ext.trans S0.out.ext hb); have HR := Lib.hid hr; have S1 := Lib.hid ((Sep.start w1).al #[.slice po no co, .slice pt nt ct, .slice pr nr cr, .slice pv nv cv] 24 w1.heap.size rfl); clear hb hr)))
  go_ret
  exact ⟨rfl, Ext.trans E1.out S9.out.ext⟩
end Go.Proofs.YtgnjffnkmdodeaaGreat
/- The document's example rows, told. -/
namespace Go.Proofs.YtgnjffnkmdodeaaGreat
open Go Go.RowKit
end Go.Proofs.YtgnjffnkmdodeaaGreat
/- The reference's rows: in, row. -/
namespace Go.Proofs.YtgnjffnkmdodeaaGreat
open Go Go.RowKit
theorem In04x (p : Option Addr) (n c : Nat) (l : List Int) (x : Int) (w : World) (hl : Rd w 1 p n (encI l)) :
    Calls Tryz.prog 72 #[.slice p n c, .int .i64 x] w fun e w' => e = .returned (.bool (inB l x)) ∧ Ext w w' := by
  have p1 := hl.ptr
  have n1 := hl.small
  have L1 := Lib.hid hl.nI
  have HL := Lib.hid hl; clear hl
  go_enter Tryz.func72, Tryz.ntmps72
  go_wp2
  go_loop [5] (fun i => ∃ k : Nat, k ≤ n ∧ i = .int .i64 k ∧ (l.take k).any (fun y => y == x) = false) (fun i => n - (intOf i).toNat)
  case atStart => exact ⟨0, Nat.zero_le _, rfl, rfl⟩
  case round =>
    obtain ⟨k, hk, rfl, ha⟩ := hrel
    have HA := Lib.hid ha; clear ha
    by_cases hlt : k < n
    · have g1 := HL.out.cI hlt
      have d1 : (0:Int) ≤ k := by omega
      have d2 : (k:Int) < n := by omega
      have hkL : k < l.length := by rw [← L1.out]; exact hlt
      cases hq : (nth l k == x) with
      | true =>
        have HF : Hid (inB l x = true) := any_true_at (fun y : Int => y == x) l k hkL hq
        go_wp2
        go_ret
        exact ⟨ret_bool HF.out.symm, Below.refl _ _⟩
      | false =>
        have HF := Lib.hid (any_step (fun y : Int => y == x) l k hkL HA.out hq)
        go_wp2
        go_round
        case rel => exact ⟨k + 1, by omega, by go_num, HF.out⟩
        case measure => simp [intOf]; omega
    · have HF : Hid (inB l x = false) := any_end (fun y : Int => y == x) l k (by rw [← L1.out]; exact hlt) HA.out
      go_wp2
      go_ret
      exact ⟨ret_bool HF.out.symm, Below.refl _ _⟩
set_option maxRecDepth 100000 in
set_option maxHeartbeats 2000000 in
theorem row04 (po : Option Addr) (no co : Nat) (O : List Int) (pt : Option Addr) (nt ct : Nat) (T : List Int) (k : Nat) (w : World) (hO : Rd w 1 po no (encI O)) (hT : Rd w 1 pt nt (encI T)) (hct : nt ≤ ct) (hok : OffOk O T) (hk1 : k + 1 < O.length) (hlen : T.length ≤ 100000) :
    Calls Tryz.prog 65 #[.slice po no co, .slice pt nt ct, .int .i64 k] w fun e w' => ∃ q c, e = .returned (.slice q (rowL O T k).length c) ∧ Sep w w' [.own 3 1 q (rowL O T k).length c (encI (rowL O T k))] := by
  have na1 := hO.small
  have l1 := hO.nI
  have l2 := hT.nI
  have pA := hO.ptr
  have q1 := hok.lo k (by omega)
  have q2 := hok.le k hk1
  have q3 := hok.hi (k + 1) hk1
  have hrl := rowL_len hok hk1
  have RL0 := hT.rowOf hok hct hk1
  have g1 := hO.cI (k := k) (by omega)
  have g2 := hO.cI (k := k + 1) (by omega)
  obtain ⟨a, ha⟩ : ∃ a : Nat, nth O k = (a : Int) := ⟨(nth O k).toNat, by omega⟩
  obtain ⟨c, hc⟩ : ∃ c : Nat, nth O (k + 1) = (c : Int) := ⟨(nth O (k + 1)).toNat, by omega⟩
  rw [ha] at q1 q2 hrl RL0 g1
  rw [hc] at q2 q3 hrl RL0 g2
  simp only [Int.toNat_natCast] at hrl RL0
  have hq3 : (c:Int) ≤ ct := by omega
  have HLEN : Hid (c - a ≤ 1000000) := by unfold Hid; omega
  have d1 : (0:Int) ≤ k := by omega
  have d2 : (k:Int) < no := by omega
  have d3 : (0:Int) ≤ (k:Int) + 1 := by omega
  have d4 : (k:Int) + 1 < no := by omega
  have HRL := Lib.hid hrl
  have RL := Lib.hid RL0
  clear hO hT hok ha hc hrl RL0 hlen l1 l2 q3 hk1
  rw [HRL.out]
  go_enter Tryz.func65, Tryz.ntmps65
  go_wp2
  have x1 := fun x : ExtOf w => x.ext.cell g1
  have x2 := fun x : ExtOf w => x.ext.cell g2
  refine wp_region_mix [true, true, true, true, true, true, true, true, true, true, true, false] (fun _ u W => ∃ q d, u = .slice q (c - a) d ∧ W.ownsRow w.heap.size 3 1 (.slice q (c - a) d) (c - a) (encI (rowL O T k))) (by kernel_rfl) (by kernel_rfl) (by kernel_rfl) (fun _ _ _ _ hE ⟨p, d, h1, h2⟩ => ⟨p, d, h1, hE.own h2⟩) ?_
  simp only [nfM]
  repeat (go_big_quiet_step ((fail)))
  refine wpQuiet_nil ⟨⟨fun vs W hE hd => ?_, trivial⟩, fun vs W hE hkn => ?_⟩
  · simp [putM, execOp, go_sem]
    exact (OwnI01 _ (c - a) _ (rowL O T k) W (RL.out.ext hE) HLEN.out).mono fun e w' ⟨q, d, h1, S⟩ => ⟨_, h1, ⟨q, d, rfl, own_base (S.own 0 rfl) hE.size⟩, S.ext⟩
  · obtain ⟨⟨q, d, hv, hown⟩, _⟩ := hkn
    have S5 := Lib.hid ((Sep.start w).fresh hE hown (Nat.le_refl _))
    simp only [putM, hv, List.length_cons, List.length_nil, Nat.zero_add, Nat.reduceAdd, List.drop_succ_cons, List.drop_zero]
    clear x1 x2 g1 g2 hv hown hE
    go_wp2
    go_ret
    exact ⟨q, d, rfl, S5.out⟩
end Go.Proofs.YtgnjffnkmdodeaaGreat
/- The reference's half: offsets and numbers that are right by themselves. -/
namespace Go.Proofs.YtgnjffnkmdodeaaGreat
open Go Go.RowKit
theorem halfB_no1 {O T : List Int} (h : ¬ (2 ≤ O.length ∧ O.length ≤ 201 ∧ T.length ≤ 2000 ∧ nth O 0 = 0 ∧ nth O (O.length - 1) = T.length ∧ sortB O = true)) : halfB O T = false := by
  cases h1 : halfB O T with
  | false => rfl
  | true => exact absurd (offB_parts (by unfold halfB at h1; rw [Bool.and_eq_true] at h1; exact h1.1)) h
theorem halfB_no2 {O T : List Int} {v : Nat} (hv : v < O.length - 1) (h : okRow ((O.length - 1 : Nat) : Int) (rowL O T v) = false) : halfB O T = false := by
  unfold halfB
  rw [range_all_no _ _ v hv h, Bool.and_false]
set_option maxRecDepth 100000 in
set_option maxHeartbeats 8000000 in
theorem half04 (po : Option Addr) (no co : Nat) (O : List Int) (pt : Option Addr) (nt ct : Nat) (T : List Int) (w : World) (hO : Rd w 1 po no (encI O)) (hT : Rd w 1 pt nt (encI T)) : Calls Tryz.prog 71 #[.slice po no co, .slice pt nt ct] w fun e w' => e = .returned (.bool (halfB O T)) ∧ Ext w w' := by
  have pO := hO.ptr
  have pT := hT.ptr
  have n1 := hO.small
  have n2 := hT.small
  have l1 := Lib.hid hO.nI
  have l2 := Lib.hid hT.nI
  have HNO := Lib.hid (fun h => halfB_no1 (O := O) (T := T) h)
  by_cases h1 : no < 2
  · have d1 : decide ((no:Int) < 2) = true := by simp; omega
    have HF : Hid (halfB O T = false) := HNO.out (by rw [← l1.out]; omega)
    clear hO hT
    go_enter Tryz.func71, Tryz.ntmps71
    go_wp2
    go_ret
    exact ⟨ret_bool HF.out.symm, Below.refl _ _⟩
  · have d1 : decide ((no:Int) < 2) = false := by simp; omega
    by_cases h2 : 201 < no
    · have d2 : decide ((201:Int) < no) = true := by simp; omega
      have HF : Hid (halfB O T = false) := HNO.out (by rw [← l1.out]; omega)
      clear hO hT
      go_enter Tryz.func71, Tryz.ntmps71
      go_wp2
      go_ret
      exact ⟨ret_bool HF.out.symm, Below.refl _ _⟩
    · have d2 : decide ((201:Int) < no) = false := by simp; omega
      have g0 := hO.cI (k := 0) (by omega)
      have q1 : (0:Int) < no := by omega
      have g5 := hO.cI (k := no - 1) (by omega)
      have q2 : (0:Int) ≤ (no:Int) - 1 := by omega
      have q2b : (1:Int) ≤ (no:Int) := by omega
      have q3 : (no:Int) - 1 < no := by omega
      by_cases h4 : nth O 0 = 0
      · have d4 : (nth O 0 != 0) = false := by simpa using h4
        by_cases h5 : nth O (no - 1) = nt
        · have d5 : (nth O (no - 1) != (nt:Int)) = false := by simpa using h5
          by_cases h3 : 2000 < nt
          · have d3 : decide ((2000:Int) < nt) = true := by simp; omega
            have HF : Hid (halfB O T = false) := HNO.out (by rw [← l2.out]; omega)
            clear hO hT
            go_enter Tryz.func71, Tryz.ntmps71
            go_wp2
            go_ret
            exact ⟨ret_bool HF.out.symm, Below.refl _ _⟩
          · have d3 : decide ((2000:Int) < nt) = false := by simp; omega
            have HOFF : Hid (sortB O = true → offB O T = true) := fun h6 => by
              unfold offB
              rw [h6, h4]
              rw [← l1.out, ← l2.out, h5]
              simp; omega
            have HO := Lib.hid hO; clear hO
            have HT := Lib.hid hT; clear hT
            have h4' := Lib.hid h4
            have h5' := Lib.hid h5
            clear h4 h5
            go_enter Tryz.func71, Tryz.ntmps71
            go_wp2
            go_loopw [5] (fun i wr => ∃ v : Nat, 1 ≤ v ∧ v ≤ no ∧ i = .int .i64 v ∧ (∀ u, u + 1 < v → nth O u ≤ nth O (u + 1)) ∧ Ext w wr) (fun i _ => no - (intOf i).toNat)
            case atStart => exact ⟨1, Nat.le_refl _, by omega, rfl, fun u hu => by omega, Below.refl _ _⟩
            case round =>
              obtain ⟨v, hv1, hv, rfl, ha, hE⟩ := hrel
              have HA := Lib.hid ha; clear ha
              by_cases hlt : v < no
              · have c1 := hE.cell (HO.out.cI hlt)
                have c0 := hE.cell (HO.out.cI (k := v - 1) (by omega))
                have e1 : (0:Int) ≤ v := by omega
                have e2 : (v:Int) < no := by omega
                have e3 : (1:Int) ≤ (v:Int) := by omega
                have e4 : (v:Int) - 1 < no := by omega
                have e5 : (0:Int) ≤ (v:Int) - 1 := by omega
                have HE := Lib.hid hE; clear hE
                by_cases hs : nth O v < nth O (v - 1)
                · have b1 : decide (nth O v < nth O (v - 1)) = true := by simpa using hs
                  have HF : Hid (halfB O T = false) := HNO.out (fun h => by
                    have := sortB_at h.2.2.2.2.2 (v := v - 1) (by rw [← l1.out]; omega)
                    rw [show v - 1 + 1 = v by omega] at this; omega)
                  go_wp2
                  have x1 := fun x : ExtOf wr => x.ext.cell c1
                  have x0 := fun x : ExtOf wr => x.ext.cell c0
                  refine wp_region_ext (by kernel_rfl) (by kernel_rfl) ?_
                  repeat (go_big_quiet_step ((fail)))
                  refine wpQuiet_nil ?_
                  rintro w1 ⟨⟨_, hb1⟩, rfl⟩
                  go_wp2
                  go_ret
                  exact ⟨ret_bool HF.out.symm, Ext.trans HE.out hb1⟩
                · have b1 : decide (nth O v < nth O (v - 1)) = false := by simpa using hs
                  go_wp2
                  have x1 := fun x : ExtOf wr => x.ext.cell c1
                  have x0 := fun x : ExtOf wr => x.ext.cell c0
                  refine wp_region_ext (by kernel_rfl) (by kernel_rfl) ?_
                  repeat (go_big_quiet_step ((fail)))
                  refine wpQuiet_nil ?_
                  rintro w1 ⟨⟨_, hb1⟩, rfl⟩
                  go_wp2
                  go_roundw
                  case rel => exact ⟨v + 1, by omega, by omega, by go_num, fun u hu => by
                    by_cases h : u + 1 = v
                    · have : v - 1 = u := by omega
                      rw [this] at hs; rw [h]; omega
                    · exact HA.out u (by omega), Ext.trans HE.out hb1⟩
                  case measure => simp [intOf]; omega
              · have hso : sortB O = true := by
                  unfold sortB
                  rw [List.all_eq_true]
                  intro u hu
                  rw [List.mem_range] at hu
                  exact decide_eq_true (HA.out u (by have := l1.out; omega))
                have HOF := Lib.hid (HOFF.out hso)
                have HOK := Lib.hid (offOk_of HOF.out)
                clear hso HA
                have HE := Lib.hid hE; clear hE
                go_wp2
                go_loopw [6, 7] (fun i _ wr => ∃ v : Nat, 1 ≤ v ∧ v ≤ no ∧ i = .int .i64 v ∧ (∀ u, u + 1 < v → okRow ((O.length - 1 : Nat) : Int) (rowL O T u) = true) ∧ Ext w wr) (fun i _ _ => no - (intOf i).toNat)
                case atStart => exact ⟨1, Nat.le_refl _, by omega, rfl, fun u hu => by omega, HE.out⟩
                case round =>
                  clear HE hlt hv1 hv
                  obtain ⟨v, hv1, hv, rfl, ha, hE⟩ := hrel
                  have HA := Lib.hid ha; clear ha
                  by_cases hlt : v < no
                  · have hvL : v - 1 + 1 < O.length := by have := l1.out; omega
                    have q1' := HOK.out.lo (v - 1) (by omega)
                    have q2' := HOK.out.le (v - 1) hvL
                    have q3' := HOK.out.hi (v - 1 + 1) hvL
                    rw [show v - 1 + 1 = v by omega] at q2' q3'
                    have hrl := rowL_len HOK.out hvL
                    rw [show v - 1 + 1 = v by omega] at hrl
                    have c1 := hE.cell (HO.out.cI hlt)
                    have c0 := hE.cell (HO.out.cI (k := v - 1) (by omega))
                    have hnth := Lib.hid (fun j (hj : j < (rowL O T (v - 1)).length) => rowL_nth (O := O) (T := T) (v := v - 1) hj)
                    obtain ⟨a, hA⟩ : ∃ a : Nat, nth O (v - 1) = (a : Int) := ⟨(nth O (v - 1)).toNat, by omega⟩
                    obtain ⟨b, hB⟩ : ∃ b : Nat, nth O v = (b : Int) := ⟨(nth O v).toNat, by omega⟩
                    rw [hA] at c0 q1' q2' hrl hnth
                    rw [hB] at c1 q2' q3' hrl
                    simp only [Int.toNat_natCast] at hrl hnth
                    have hbn : b ≤ nt := by have := l2.out; omega
                    have hab : a ≤ b := by omega
                    have e1 : (0:Int) ≤ v := by omega
                    have e2 : (v:Int) < no := by omega
                    have e3 : (1:Int) ≤ (v:Int) := by omega
                    have e4 : (v:Int) - 1 < no := by omega
                    have e5 : (0:Int) ≤ (v:Int) - 1 := by omega
                    have hn' : ((O.length - 1 : Nat) : Int) = (no:Int) - 1 := by have := l1.out; omega
                    have HNO2 := Lib.hid (fun h => halfB_no2 (O := O) (T := T) (v := v - 1) (by omega) h)
                    have HPRE := Lib.hid (fun (h : okRow ((O.length - 1 : Nat) : Int) (rowL O T (v - 1)) = true) => (fun u (hu : u + 1 < v + 1) => by
                      by_cases h2 : u = v - 1
                      · rw [h2]; exact h
                      · exact HA.out u (by omega) : ∀ u, u + 1 < v + 1 → okRow ((O.length - 1 : Nat) : Int) (rowL O T u) = true))
                    rw [hn'] at HNO2 HPRE ⊢
                    have c1w := Lib.hid (HO.out.cI hlt)
                    have c0w := Lib.hid (HO.out.cI (k := v - 1) (by omega))
                    rw [hB] at c1w
                    rw [hA] at c0w
                    generalize rowL O T (v - 1) = l at *
                    have HRL := Lib.hid hrl
                    have HE := Lib.hid hE; clear hE
                    clear hA hB hrl q1' q2' q3' hn' hvL
                    go_wp2
                    go_loopw [7] (fun i wr => ∃ m j : Nat, m = a + j ∧ j ≤ b - a ∧ i = .int .i64 m ∧ (List.range j).all (okAt ((no:Int) - 1) l) = true ∧ Ext w wr) (fun i _ => b - (intOf i).toNat)
                    case atStart => exact ⟨a, 0, rfl, Nat.zero_le _, rfl, rfl, HE.out⟩
                    case round =>
                      clear HE c1 c0
                      obtain ⟨m, j, hm, hj, rfl, ha, hE⟩ := hrel
                      have c1 := hE.cell c1w.out
                      have c0 := hE.cell c0w.out
                      have HA' := Lib.hid ha; clear ha
                      have hm1 : a + j ≤ m := by omega
                      have hm2 : m ≤ a + j := by omega
                      by_cases hlj : j < b - a
                      · have hjl : j < l.length := by rw [HRL.out]; exact hlj
                        have t1 := hE.cell (HT.out.cI (k := m) (by omega))
                        have hx := hnth.out j hjl
                        rw [← hm] at hx
                        rw [← hx] at t1
                        clear hm
                        have f1 : (0:Int) ≤ m := by omega
                        have f2 : (m:Int) < b := by omega
                        have f3 : (m:Int) < nt := by omega
                        by_cases g1 : nth l j < 0
                        · have b1 : decide (nth l j < 0) = true := by simpa using g1
                          have HF : Hid (halfB O T = false) := HNO2.out (range_all_no _ _ j hjl (by unfold okAt; simp; omega))
                          clear hx
                          have HE := Lib.hid hE; clear hE
                          go_wp2
                          have x0 := fun x : ExtOf wr => x.ext.cell c0
                          have x1 := fun x : ExtOf wr => x.ext.cell t1
                          refine wp_region_ext (by kernel_rfl) (by kernel_rfl) ?_
                          repeat (go_big_quiet_step ((fail)))
                          refine wpQuiet_nil ?_
                          rintro w1 ⟨⟨_, hb1⟩, rfl⟩
                          go_wp2
                          go_ret
                          exact ⟨ret_bool HF.out.symm, Ext.trans HE.out hb1⟩
                        · have b1 : decide (nth l j < 0) = false := by simpa using g1
                          by_cases g2 : (no:Int) - 1 ≤ nth l j
                          · have b2 : decide ((no:Int) - 1 ≤ nth l j) = true := by simpa using g2
                            have HF : Hid (halfB O T = false) := HNO2.out (range_all_no _ _ j hjl (by unfold okAt; simp; omega))
                            clear hx
                            have HE := Lib.hid hE; clear hE
                            go_wp2
                            have x0 := fun x : ExtOf wr => x.ext.cell c0
                            have x1 := fun x : ExtOf wr => x.ext.cell t1
                            refine wp_region_ext (by kernel_rfl) (by kernel_rfl) ?_
                            repeat (go_big_quiet_step ((fail)))
                            refine wpQuiet_nil ?_
                            rintro w1 ⟨⟨_, hb1⟩, rfl⟩
                            go_wp2
                            go_ret
                            exact ⟨ret_bool HF.out.symm, Ext.trans HE.out hb1⟩
                          · have b2 : decide ((no:Int) - 1 ≤ nth l j) = false := by simpa using g2
                            by_cases hj0 : j = 0
                            · have b3 : decide ((a:Int) < (m:Int)) = false := by simp; omega
                              have b3n : decide (a < m) = false := by simp; omega
                              have HK : Hid (okAt ((no:Int) - 1) l j = true) := by unfold Hid okAt; simp; omega
                              clear hx hj0
                              have HE := Lib.hid hE; clear hE
                              go_wp2
                              have x0 := fun x : ExtOf wr => x.ext.cell c0
                              have x1 := fun x : ExtOf wr => x.ext.cell t1
                              refine wp_region_ext (by kernel_rfl) (by kernel_rfl) ?_
                              repeat (go_big_quiet_step ((fail)))
                              refine wpQuiet_nil ?_
                              rintro w1 ⟨⟨_, hb1⟩, rfl⟩
                              go_wp2
                              go_roundw
                              case rel => exact ⟨m + 1, j + 1, by omega, by omega, by go_num, range_all_succ _ _ HA'.out HK.out, Ext.trans HE.out hb1⟩
                              case measure => simp [intOf]; omega
                            · have b3 : decide ((a:Int) < (m:Int)) = true := by simp; omega
                              have b3n : decide (a < m) = true := by simp; omega
                              have t0 := hE.cell (HT.out.cI (k := m - 1) (by omega))
                              have hy := hnth.out (j - 1) (by omega)
                              rw [show a + (j - 1) = m - 1 by omega] at hy
                              rw [← hy] at t0
                              have f4 : (1:Int) ≤ (m:Int) := by omega
                              have f5 : (m:Int) - 1 < nt := by omega
                              have f6 : (0:Int) ≤ (m:Int) - 1 := by omega
                              by_cases g3 : nth l j ≤ nth l (j - 1)
                              · have b4 : decide (nth l j ≤ nth l (j - 1)) = true := by simpa using g3
                                have HF : Hid (halfB O T = false) := HNO2.out (range_all_no _ _ j hjl (by unfold okAt; simp; omega))
                                clear hx hy
                                have HE := Lib.hid hE; clear hE
                                go_wp2
                                have x0 := fun x : ExtOf wr => x.ext.cell c0
                                have x1 := fun x : ExtOf wr => x.ext.cell t1
                                have x2 := fun x : ExtOf wr => x.ext.cell t0
                                refine wp_region_ext (by kernel_rfl) (by kernel_rfl) ?_
                                repeat (go_big_quiet_step ((fail)))
                                refine wpQuiet_nil ?_
                                rintro w1 ⟨⟨_, hb1⟩, rfl⟩
                                go_wp2
                                go_ret
                                exact ⟨ret_bool HF.out.symm, Ext.trans HE.out hb1⟩
                              · have b4 : decide (nth l j ≤ nth l (j - 1)) = false := by simpa using g3
                                have HK : Hid (okAt ((no:Int) - 1) l j = true) := by unfold Hid okAt; simp; omega
                                clear hx hy
                                have HE := Lib.hid hE; clear hE
                                go_wp2
                                have x0 := fun x : ExtOf wr => x.ext.cell c0
                                have x1 := fun x : ExtOf wr => x.ext.cell t1
                                have x2 := fun x : ExtOf wr => x.ext.cell t0
                                refine wp_region_ext (by kernel_rfl) (by kernel_rfl) ?_
                                repeat (go_big_quiet_step ((fail)))
                                refine wpQuiet_nil ?_
                                rintro w1 ⟨⟨_, hb1⟩, rfl⟩
                                go_wp2
                                go_roundw
                                case rel => exact ⟨m + 1, j + 1, by omega, by omega, by go_num, range_all_succ _ _ HA'.out HK.out, Ext.trans HE.out hb1⟩
                                case measure => simp [intOf]; omega
                      · clear hm
                        have HOKR : Hid (okRow ((no:Int) - 1) l = true) := by unfold Hid okRow; rw [HRL.out, show b - a = j by omega]; exact HA'.out
                        have f2 : decide ((m:Int) < b) = false := by simp; omega
                        have f2n : decide (m < b) = false := by simp; omega
                        have HE := Lib.hid hE; clear hE
                        go_wp2
                        go_roundw
                        case rel => exact ⟨v + 1, by omega, by omega, by go_num, HPRE.out HOKR.out, HE.out⟩
                        case measure => simp [intOf]; omega
                  · have HF : Hid (halfB O T = true) := by
                      unfold Hid halfB
                      rw [HOF.out, Bool.true_and, List.all_eq_true]
                      intro u hu
                      rw [List.mem_range] at hu
                      exact HA.out u (by have := l1.out; omega)
                    have HE := Lib.hid hE; clear hE
                    go_wp2
                    go_ret
                    exact ⟨ret_bool HF.out.symm, HE.out⟩
        · have d5 : (nth O (no - 1) != (nt:Int)) = true := by simpa using h5
          have HF : Hid (halfB O T = false) := HNO.out (by rw [← l1.out, ← l2.out]; exact fun h => h5 h.2.2.2.2.1)
          clear h4 h5
          clear hO hT
          go_enter Tryz.func71, Tryz.ntmps71
          go_wp2
          go_ret
          exact ⟨ret_bool HF.out.symm, Below.refl _ _⟩
      · have d4 : (nth O 0 != 0) = true := by simpa using h4
        have HF : Hid (halfB O T = false) := HNO.out (fun h => h4 h.2.2.2.1)
        clear h4
        clear hO hT
        go_enter Tryz.func71, Tryz.ntmps71
        go_wp2
        go_ret
        exact ⟨ret_bool HF.out.symm, Below.refl _ _⟩
end Go.Proofs.YtgnjffnkmdodeaaGreat
/- The reference's Check of rows. -/
namespace Go.Proofs.YtgnjffnkmdodeaaGreat
open Go Go.RowKit
set_option maxRecDepth 100000 in
set_option maxHeartbeats 4000000 in
theorem Check04_no (po : Option Addr) (no co : Nat) (O : List Int) (pt : Option Addr) (nt ct : Nat) (T : List Int) (pr : Option Addr) (nr cr : Nat) (R : List Int) (pv : Option Addr) (nv cv : Nat) (V : List Int) (w : World) (hO : Rd w 1 po no (encI O)) (hT : Rd w 1 pt nt (encI T)) (hR : Rd w 1 pr nr (encI R)) (hV : Rd w 1 pv nv (encI V)) (hct : nt ≤ ct) (hcv : nv ≤ cv) (h : no ≠ nr ∨ nt ≠ nv ∨ halfB O T = false ∨ halfB R V = false) :
    Calls Tryz.prog 47 #[.agg #[.slice po no co, .slice pt nt ct, .slice pr nr cr, .slice pv nv cv]] w fun e w' => e = .returned (.bool false) ∧ Ext w w' := by
  have S0 := Lib.hid ((Sep.start w).al #[.slice po no co, .slice pt nt ct, .slice pr nr cr, .slice pv nv cv] 24 w.heap.size rfl)
  have HH1 := Lib.hid (fun W1 (h : Ext w W1) => half04 po no co O pt nt ct T W1 (hO.ext h) (hT.ext h))
  have HH2 := Lib.hid (fun W1 (h : Ext w W1) => half04 pr nr cr R pv nv cv V W1 (hR.ext h) (hV.ext h))
  clear hO hT hR hV
  by_cases h1 : no = nr
  · have d1 : ((no:Int) != (nr:Int)) = false := by simp; omega
    cases h3 : halfB O T with
    | false =>
      rw [h3] at HH1
      clear h h1 h3
      go_enter Tryz.func47, Tryz.ntmps47
      go_wp2_with (go_at_call 71; go_must (refine (HH1.out _ S0.out.ext).mono ?_; rintro e w1 ⟨rfl, hb⟩; have S1 := Lib.hid (S0.out.call hb); have az := (S1.out.blk 0 rfl).lt; have a0 := (S1.out.blk 0 rfl).cell 0; have a1 := (S1.out.blk 0 rfl).cell 1; have a2 := (S1.out.blk 0 rfl).cell 2; have a3 := (S1.out.blk 0 rfl).cell 3; clear hb))
      go_ret
      exact ⟨rfl, S1.out.ext⟩
    | true =>
      rw [h3] at HH1
      cases h4 : halfB R V with
      | false =>
        rw [h4] at HH2
        clear h h1 h3 h4
        go_enter Tryz.func47, Tryz.ntmps47
        go_wp2_with (first | (go_at_call 71; have _t := S1; go_must (refine (HH2.out _ S1.out.ext).mono ?_; rintro e w2 ⟨rfl, hb⟩; have S2 := Lib.hid (S1.out.call hb); have bz := (S2.out.blk 0 rfl).lt; have b0 := (S2.out.blk 0 rfl).cell 0; have b1 := (S2.out.blk 0 rfl).cell 1; have b2 := (S2.out.blk 0 rfl).cell 2; have b3 := (S2.out.blk 0 rfl).cell 3; clear hb)) | (go_at_call 71; go_must (refine (HH1.out _ S0.out.ext).mono ?_; rintro e w1 ⟨rfl, hb⟩; have S1 := Lib.hid (S0.out.call hb); have az := (S1.out.blk 0 rfl).lt; have a0 := (S1.out.blk 0 rfl).cell 0; have a1 := (S1.out.blk 0 rfl).cell 1; have a2 := (S1.out.blk 0 rfl).cell 2; have a3 := (S1.out.blk 0 rfl).cell 3; clear hb)))
        go_ret
        exact ⟨rfl, S2.out.ext⟩
      | true =>
        rw [h4] at HH2
        have d2 : ((nt:Int) != (nv:Int)) = true := by
          rcases h with h | h | h | h
          · exact absurd h1 h
          · simp; omega
          · rw [h3] at h; cases h
          · rw [h4] at h; cases h
        clear h h1 h3 h4
        go_enter Tryz.func47, Tryz.ntmps47
        go_wp2_with (first | (go_at_call 71; have _t := S1; go_must (refine (HH2.out _ S1.out.ext).mono ?_; rintro e w2 ⟨rfl, hb⟩; have S2 := Lib.hid (S1.out.call hb); have bz := (S2.out.blk 0 rfl).lt; have b0 := (S2.out.blk 0 rfl).cell 0; have b1 := (S2.out.blk 0 rfl).cell 1; have b2 := (S2.out.blk 0 rfl).cell 2; have b3 := (S2.out.blk 0 rfl).cell 3; clear hb)) | (go_at_call 71; go_must (refine (HH1.out _ S0.out.ext).mono ?_; rintro e w1 ⟨rfl, hb⟩; have S1 := Lib.hid (S0.out.call hb); have az := (S1.out.blk 0 rfl).lt; have a0 := (S1.out.blk 0 rfl).cell 0; have a1 := (S1.out.blk 0 rfl).cell 1; have a2 := (S1.out.blk 0 rfl).cell 2; have a3 := (S1.out.blk 0 rfl).cell 3; clear hb)))
        go_ret
        exact ⟨rfl, S2.out.ext⟩
  · have d1 : ((no:Int) != (nr:Int)) = true := by simp; omega
    clear h h1
    go_enter Tryz.func47, Tryz.ntmps47
    go_wp2
    go_ret
    exact ⟨rfl, S0.out.ext⟩
def ChkQ (m : List Int) (k : Int) (i : Nat) (v : Value) (W : World) : Prop :=
  match i with
  | 8 => ∃ q c, v = .slice q m.length c ∧ Rd W 1 q m.length (encI m)
  | 10 => v = .bool (inB m k)
  | _ => True
theorem ChkQ_mono {m : List Int} {k : Int} : ∀ i v W W', Ext W W' → ChkQ m k i v W → ChkQ m k i v W' := by
  intro i v W W' he h
  unfold ChkQ at *
  split at h
  · obtain ⟨q, c, h1, h2⟩ := h; exact ⟨q, c, h1, h2.ext he⟩
  · exact h
  · trivial
theorem rowX_take_all {O T R V : List Int} {k j : Nat} (hj : j < (rowL O T k).length) : ((rowX O T k).take (j + 1)).all (backB R V) = (((rowX O T k).take j).all (backB R V) && inB (rowL R V (nth (rowL O T k) j).toNat) k) := by
  rw [rowX_take hj, List.all_append]; simp [backB]
set_option maxRecDepth 100000 in
set_option maxHeartbeats 8000000 in
theorem Check04_yes (po : Option Addr) (no co : Nat) (O : List Int) (pt : Option Addr) (nt ct : Nat) (T : List Int) (pr : Option Addr) (nr cr : Nat) (R : List Int) (pv : Option Addr) (nv cv : Nat) (V : List Int) (w : World) (hO : Rd w 1 po no (encI O)) (hT : Rd w 1 pt nt (encI T)) (hR : Rd w 1 pr nr (encI R)) (hV : Rd w 1 pv nv (encI V)) (hct : nt ≤ ct) (hcv : nv ≤ cv) (e1 : no = nr) (e2 : nt = nv) (h1 : halfB O T = true) (h2 : halfB R V = true) :
    Calls Tryz.prog 47 #[.agg #[.slice po no co, .slice pt nt ct, .slice pr nr cr, .slice pv nv cv]] w fun e w' => e = .returned (.bool ((pairs O T).all (backB R V))) ∧ Ext w w' := by
  have l1 := hO.nI
  have l2 := hT.nI
  have l3 := hR.nI
  have l4 := hV.nI
  have n1 := hO.small
  have S0 := Lib.hid ((Sep.start w).al #[.slice po no co, .slice pt nt ct, .slice pr nr cr, .slice pv nv cv] 24 w.heap.size rfl)
  have HH1 := Lib.hid (fun W1 (h : Ext w W1) => half04 po no co O pt nt ct T W1 (hO.ext h) (hT.ext h))
  have HH2 := Lib.hid (fun W1 (h : Ext w W1) => half04 pr nr cr R pv nv cv V W1 (hR.ext h) (hV.ext h))
  rw [h1] at HH1
  rw [h2] at HH2
  have d1 : ((no:Int) != (nr:Int)) = false := by simp; omega
  have d2 : ((nt:Int) != (nv:Int)) = false := by simp; omega
  have r := offB_parts (halfB_off h1)
  have r' := offB_parts (halfB_off h2)
  have HR1 := Lib.hid (fun W1 (h : Ext w W1) k (hk : k + 1 < O.length) => row04 po no co O pt nt ct T k W1 (hO.ext h) (hT.ext h) hct (offOk_of (halfB_off h1)) hk (by omega))
  have HR2 := Lib.hid (fun W1 (h : Ext w W1) k (hk : k + 1 < R.length) => row04 pr nr cr R pv nv cv V k W1 (hR.ext h) (hV.ext h) hcv (offOk_of (halfB_off h2)) hk (by omega))
  have HPB := Lib.hid (fun x (hx : x ∈ pairs O T) => pair_bd h1 hx)
  have L1 := Lib.hid l1
  have L3 := Lib.hid l3
  have E1 := Lib.hid e1
  have rl2000 : ∀ k, (rowL O T k).length ≤ 2000 := fun k => by unfold rowL; rw [List.length_take, List.length_drop]; omega
  have ru2000 : ∀ k, (rowL R V k).length ≤ 2000 := fun k => by unfold rowL; rw [List.length_take, List.length_drop]; omega
  have RL := Lib.hid rl2000
  have RU := Lib.hid ru2000
  have no200 : no ≤ 201 := by omega
  clear hO hT hR hV h1 h2 l1 l2 l3 l4 e1 e2 r r' rl2000 ru2000
  go_enter Tryz.func47, Tryz.ntmps47
  go_wp2_with (first | (go_at_call 71; have _t := S1; go_must (refine (HH2.out _ S1.out.ext).mono ?_; rintro e w2 ⟨rfl, hb⟩; have S2 := Lib.hid (S1.out.call hb); have bz := (S2.out.blk 0 rfl).lt; have b0 := (S2.out.blk 0 rfl).cell 0; have b1 := (S2.out.blk 0 rfl).cell 1; have b2 := (S2.out.blk 0 rfl).cell 2; have b3 := (S2.out.blk 0 rfl).cell 3; clear hb)) | (go_at_call 71; go_must (refine (HH1.out _ S0.out.ext).mono ?_; rintro e w1 ⟨rfl, hb⟩; have S1 := Lib.hid (S0.out.call hb); have az := (S1.out.blk 0 rfl).lt; have a0 := (S1.out.blk 0 rfl).cell 0; have a1 := (S1.out.blk 0 rfl).cell 1; have a2 := (S1.out.blk 0 rfl).cell 2; have a3 := (S1.out.blk 0 rfl).cell 3; clear hb)))
  go_loopw [3, 4, 5] (fun v _ _ wr => ∃ k : Nat, k ≤ no - 1 ∧ v = .int .i64 k ∧ (pairsK O T k).all (backB R V) = true ∧ Sep w wr [.blk w.heap.size 24 #[.slice po no co, .slice pt nt ct, .slice pr nr cr, .slice pv nv cv]]) (fun v _ _ _ => no - 1 - (intOf v).toNat)
  case atStart => exact ⟨0, Nat.zero_le _, rfl, rfl, S2.out⟩
  case round =>
    clear S0 S1 S2
    obtain ⟨k, hk, rfl, ha, S⟩ := hrel
    have HA := Lib.hid ha; clear ha
    have az := (S.blk 0 rfl).lt; have a0 := (S.blk 0 rfl).cell 0; have a1 := (S.blk 0 rfl).cell 1; have a2 := (S.blk 0 rfl).cell 2; have a3 := (S.blk 0 rfl).cell 3
    by_cases hlt : k < no - 1
    · have hkO : k + 1 < O.length := by have := L1.out; omega
      have t1 : (k:Int) + 1 < no := by omega
      have t0 : (0:Int) ≤ k := by omega
      have HRk := Lib.hid (fun W1 (h : Ext w W1) => HR1.out W1 h k hkO)
      have rlk := RL.out k
      have hpair := Lib.hid (fun j (hj : j < (rowL O T k).length) => pairs_at (O := O) (T := T) (k := k) (by omega) hj)
      have hstep := Lib.hid (fun j (hj : j < (rowL O T k).length) => rowX_take_all (R := R) (V := V) hj)
      have hpre := Lib.hid (fun j => pairs_prefix (O := O) (T := T) (k := k) (j := j) (by omega))
      have hend : Hid ((rowX O T k).take (rowL O T k).length = rowX O T k) := by unfold Hid rowX; rw [List.take_of_length_le (by simp)]
      have hps := Lib.hid (pairsK_step O T k)
      generalize rowL O T k = l at *
      generalize rowX O T k = xs at *
      have SH := Lib.hid S; clear S
      go_wp2_with (go_at_call 65; go_must (refine (HRk.out _ SH.out.ext).mono ?_; rintro e w3 ⟨q, c, rfl, Z⟩; have P1 := Lib.hid (SH.out.comp Z); clear Z))
      go_loopw [5] (fun i wr => ∃ j : Nat, j ≤ l.length ∧ i = .int .i64 j ∧ (xs.take j).all (backB R V) = true ∧ Sep w wr [.own 3 1 q l.length c (encI l), .blk w.heap.size 24 #[.slice po no co, .slice pt nt ct, .slice pr nr cr, .slice pv nv cv]]) (fun i _ => l.length - (intOf i).toNat)
      case atStart => exact ⟨0, Nat.zero_le _, rfl, by simp, P1.out⟩
      case round =>
        clear SH P1 a0 a1 a2 a3 az
        obtain ⟨j, hj, rfl, hb, S⟩ := hrel
        have HB := Lib.hid hb; clear hb
        have az := (S.blk 1 rfl).lt; have a0 := (S.blk 1 rfl).cell 0; have a1 := (S.blk 1 rfl).cell 1; have a2 := (S.blk 1 rfl).cell 2; have a3 := (S.blk 1 rfl).cell 3
        have pq := (S.rd 0 rfl (by omega)).ptr
        by_cases hlj : j < l.length
        · have g1 := (S.rd 0 rfl (by omega)).cI hlj
          have hpb := HPB.out _ (hpair.out j hlj)
          simp only at hpb
          obtain ⟨u, hu⟩ : ∃ u : Nat, nth l j = (u : Int) := ⟨(nth l j).toNat, by omega⟩
          have huR : u + 1 < R.length := by have := L1.out; have := L3.out; have := E1.out; omega
          have HRu := Lib.hid (fun W1 (h : Ext w W1) => HR2.out W1 h u huR)
          have hst := hstep.out j hlj
          rw [HB.out, Bool.true_and, hu, Int.toNat_natCast] at hst
          have HST := Lib.hid hst
          have ruk := RU.out u
          rw [hu] at g1
          generalize rowL R V u = m at *
          have t2 : (0:Int) ≤ j := by omega
          have t3 : (j:Int) < l.length := by omega
          clear hst hpb hu
          have SH := Lib.hid S; clear S
          cases hin : inB m (k:Int) with
          | true =>
            rw [hin] at HST
            go_wp2
            have x2 := fun x : ExtOf wr => x.ext.cell a2
            have x3 := fun x : ExtOf wr => x.ext.cell a3
            have x1 := fun x : ExtOf wr => x.ext.cell g1
            refine wp_region_mix [true, true, true, true, true, true, true, true, false, true, false] (ChkQ m k) (by kernel_rfl) (by kernel_rfl) (by kernel_rfl) ChkQ_mono ?_
            simp only [nfM]
            repeat (go_big_quiet_step ((fail)))
            refine wpQuiet_nil ⟨⟨fun vs W1 hE hd => ?_, fun vs W1 hE hd => ?_, trivial⟩, fun vs W1 hE hkn => ?_⟩
            · simp [putM, execOp, go_sem]
              exact (HRu.out _ (Ext.trans SH.out.ext hE)).mono fun e w' ⟨q, c, h1, S⟩ => ⟨_, h1, ⟨q, c, rfl, S.rd 0 rfl (by omega)⟩, S.ext⟩
            · obtain ⟨q, c, e1, e2⟩ := hd 8 (by decide) rfl
              simp [putM, execOp, go_sem, e1]
              exact (In04x q _ c m k W1 e2).mono fun e w' ⟨h1, h2⟩ => ⟨_, h1, rfl, h2⟩
            obtain ⟨⟨q', c', k1, _⟩, k2, _⟩ := hkn
            have k2 : vs 10 = .bool (inB m k) := k2
            rw [hin] at k2
            have SY := Lib.hid (SH.out.call hE)
            simp only [putM, k1, k2, List.length_cons, List.length_nil, Nat.zero_add, Nat.reduceAdd, List.drop_succ_cons, List.drop_zero]
            clear x1 x2 x3 k1 k2 hE
            go_wp2
            go_roundw
            case rel => exact ⟨j + 1, by omega, by go_num, HST.out, SY.out⟩
            case measure => simp [intOf]; omega
          | false =>
            rw [hin] at HST
            have HF : Hid ((pairs O T).all (backB R V) = false) := by
              obtain ⟨t, ht⟩ := hpre.out (j + 1)
              unfold Hid
              rw [← ht, List.all_append, List.all_append, HST.out]; simp
            go_wp2
            have x2 := fun x : ExtOf wr => x.ext.cell a2
            have x3 := fun x : ExtOf wr => x.ext.cell a3
            have x1 := fun x : ExtOf wr => x.ext.cell g1
            refine wp_region_mix [true, true, true, true, true, true, true, true, false, true, false] (ChkQ m k) (by kernel_rfl) (by kernel_rfl) (by kernel_rfl) ChkQ_mono ?_
            simp only [nfM]
            repeat (go_big_quiet_step ((fail)))
            refine wpQuiet_nil ⟨⟨fun vs W1 hE hd => ?_, fun vs W1 hE hd => ?_, trivial⟩, fun vs W1 hE hkn => ?_⟩
            · simp [putM, execOp, go_sem]
              exact (HRu.out _ (Ext.trans SH.out.ext hE)).mono fun e w' ⟨q, c, h1, S⟩ => ⟨_, h1, ⟨q, c, rfl, S.rd 0 rfl (by omega)⟩, S.ext⟩
            · obtain ⟨q, c, e1, e2⟩ := hd 8 (by decide) rfl
              simp [putM, execOp, go_sem, e1]
              exact (In04x q _ c m k W1 e2).mono fun e w' ⟨h1, h2⟩ => ⟨_, h1, rfl, h2⟩
            obtain ⟨⟨q', c', k1, _⟩, k2, _⟩ := hkn
            have k2 : vs 10 = .bool (inB m k) := k2
            rw [hin] at k2
            have SY := Lib.hid (SH.out.call hE)
            simp only [putM, k1, k2, List.length_cons, List.length_nil, Nat.zero_add, Nat.reduceAdd, List.drop_succ_cons, List.drop_zero]
            clear x1 x2 x3 k1 k2 hE
            go_wp2
            go_ret
            exact ⟨ret_bool HF.out.symm, SY.out.ext⟩
        · obtain rfl : j = l.length := by omega
          have hb := HB.out
          rw [hend.out] at hb
          have HK : Hid ((pairsK O T (k + 1)).all (backB R V) = true) := by unfold Hid; rw [hps.out, List.all_append, HA.out, hb]; rfl
          clear hb
          have SH := Lib.hid S; clear S
          go_wp2
          go_roundw
          case rel => exact ⟨k + 1, by omega, by go_num, HK.out, SH.out.pick [1] (by decide) rfl⟩
          case measure => simp [intOf]; omega
    · have HF : Hid ((pairs O T).all (backB R V) = true) := by
        unfold Hid pairs
        rw [show O.length - 1 = k by have := L1.out; omega]; exact HA.out
      have t1 : decide ((k:Int) + 1 < no) = false := by simp; omega
      have SH := Lib.hid S; clear S
      go_wp2
      go_ret
      exact ⟨ret_bool HF.out.symm, SH.out.ext⟩
theorem Check04 (po : Option Addr) (no co : Nat) (O : List Int) (pt : Option Addr) (nt ct : Nat) (T : List Int) (pr : Option Addr) (nr cr : Nat) (R : List Int) (pv : Option Addr) (nv cv : Nat) (V : List Int) (w : World) (hO : Rd w 1 po no (encI O)) (hT : Rd w 1 pt nt (encI T)) (hR : Rd w 1 pr nr (encI R)) (hV : Rd w 1 pv nv (encI V)) (hct : nt ≤ ct) (hcv : nv ≤ cv) : Calls Tryz.prog 47 #[.agg #[.slice po no co, .slice pt nt ct, .slice pr nr cr, .slice pv nv cv]] w fun e w' => e = .returned (.bool (checkR O T R V)) ∧ Ext w w' := by
  have l1 := hO.nI
  have l2 := hT.nI
  have l3 := hR.nI
  have l4 := hV.nI
  by_cases h : no ≠ nr ∨ nt ≠ nv ∨ halfB O T = false ∨ halfB R V = false
  · rw [checkR_no (by rw [← l1, ← l2, ← l3, ← l4]; exact h)]
    exact Check04_no po no co O pt nt ct T pr nr cr R pv nv cv V w hO hT hR hV hct hcv h
  · have h1 : no = nr := by
      by_cases h1 : no = nr
      · exact h1
      · exact absurd (.inl h1) h
    have h2 : nt = nv := by
      by_cases h2 : nt = nv
      · exact h2
      · exact absurd (.inr (.inl h2)) h
    have h3 : halfB O T = true := by
      cases h3 : halfB O T with
      | true => rfl
      | false => exact absurd (.inr (.inr (.inl h3))) h
    have h4 : halfB R V = true := by
      cases h4 : halfB R V with
      | true => rfl
      | false => exact absurd (.inr (.inr (.inr h4))) h
    have : checkR O T R V = (pairs O T).all (backB R V) := by
      unfold checkR
      rw [h3, h4, ← l1, ← l2, ← l3, ← l4, h1, h2]
      simp only [decide_true, Bool.true_and]
      rfl
    rw [this]
    exact Check04_yes po no co O pt nt ct T pr nr cr R pv nv cv V w hO hT hR hV hct hcv h1 h2 h3 h4
end Go.Proofs.YtgnjffnkmdodeaaGreat
/- The reference's Out, In, Has, Own of rows. -/
namespace Go.Proofs.YtgnjffnkmdodeaaGreat
open Go Go.RowKit
set_option maxRecDepth 100000 in
set_option maxHeartbeats 4000000 in
theorem Out04 (po : Option Addr) (no co : Nat) (O : List Int) (pt : Option Addr) (nt ct : Nat) (T : List Int) (pr : Option Addr) (nr cr : Nat) (R : List Int) (pv : Option Addr) (nv cv : Nat) (V : List Int) (w : World) (v : Int) (hO : Rd w 1 po no (encI O)) (hT : Rd w 1 pt nt (encI T)) (hR : Rd w 1 pr nr (encI R)) (hV : Rd w 1 pv nv (encI V)) (hct : nt ≤ ct) (hcv : nv ≤ cv) : Calls Tryz.prog 43 #[.agg #[.slice po no co, .slice pt nt ct, .slice pr nr cr, .slice pv nv cv], .int .i64 v] w fun e w' => ∃ q c, e = .returned (.tuple #[.slice q (outL (checkR O T R V) O T v).length c, .bool (outB (checkR O T R V) O v)]) ∧ Sep w w' [.own 3 1 q (outL (checkR O T R V) O T v).length c (encI (outL (checkR O T R V) O T v))] := by
  have S0 := Lib.hid ((Sep.start w).al #[.slice po no co, .slice pt nt ct, .slice pr nr cr, .slice pv nv cv] 24 w.heap.size rfl)
  have HC := Lib.hid (fun W1 (h : Ext w W1) => Check04 po no co O pt nt ct T pr nr cr R pv nv cv V W1 (hO.ext h) (hT.ext h) (hR.ext h) (hV.ext h) hct hcv)
  have n1 := hO.small
  cases hck : checkR O T R V with
  | false =>
    rw [hck] at HC
    have hno : outB false O v = false := rfl
    rw [outL_no hno, hno]
    clear hO hT hR hV hck hno
    go_enter Tryz.func43, Tryz.ntmps43
    go_wp2_with (go_at_call 47; go_must (refine (HC.out _ S0.out.ext).mono ?_; rintro e w1 ⟨rfl, hb⟩; have S1 := Lib.hid (S0.out.call hb); have az := (S1.out.blk 0 rfl).lt; have a0 := (S1.out.blk 0 rfl).cell 0; have a1 := (S1.out.blk 0 rfl).cell 1; have a2 := (S1.out.blk 0 rfl).cell 2; have a3 := (S1.out.blk 0 rfl).cell 3; clear hb))
    go_ret2
    exact ⟨none, 0, rfl, ((Sep.start w).call S1.out.ext).nilrow _ _⟩
  | true =>
    rw [hck] at HC
    obtain ⟨e1, e2, e3, e4⟩ := checkR_half hck
    have r := offB_parts (halfB_off e3)
    have hof := offOk_of (halfB_off e3)
    have l1 := hO.nI
    have l2 := hT.nI
    by_cases h1 : v < 0
    · have b1 : decide (v < 0) = true := by simpa using h1
      have hno : outB true O v = false := by unfold outB; simp; omega
      rw [outL_no hno, hno]
      clear hO hT hR hV hck hno e1 e2 e3 e4 r hof l1 l2
      go_enter Tryz.func43, Tryz.ntmps43
      go_wp2_with (go_at_call 47; go_must (refine (HC.out _ S0.out.ext).mono ?_; rintro e w1 ⟨rfl, hb⟩; have S1 := Lib.hid (S0.out.call hb); have az := (S1.out.blk 0 rfl).lt; have a0 := (S1.out.blk 0 rfl).cell 0; have a1 := (S1.out.blk 0 rfl).cell 1; have a2 := (S1.out.blk 0 rfl).cell 2; have a3 := (S1.out.blk 0 rfl).cell 3; clear hb))
      go_ret2
      exact ⟨none, 0, rfl, ((Sep.start w).call S1.out.ext).nilrow _ _⟩
    · have b1 : decide (v < 0) = false := by simpa using h1
      by_cases h2 : (no:Int) - 1 ≤ v
      · have b2 : decide ((no:Int) - 1 ≤ v) = true := by simpa using h2
        have hno : outB true O v = false := by unfold outB; simp; omega
        rw [outL_no hno, hno]
        clear hO hT hR hV hck hno e1 e2 e3 e4 r hof l1 l2
        go_enter Tryz.func43, Tryz.ntmps43
        go_wp2_with (go_at_call 47; go_must (refine (HC.out _ S0.out.ext).mono ?_; rintro e w1 ⟨rfl, hb⟩; have S1 := Lib.hid (S0.out.call hb); have az := (S1.out.blk 0 rfl).lt; have a0 := (S1.out.blk 0 rfl).cell 0; have a1 := (S1.out.blk 0 rfl).cell 1; have a2 := (S1.out.blk 0 rfl).cell 2; have a3 := (S1.out.blk 0 rfl).cell 3; clear hb))
        go_ret2
        exact ⟨none, 0, rfl, ((Sep.start w).call S1.out.ext).nilrow _ _⟩
      · have b2 : decide ((no:Int) - 1 ≤ v) = false := by simpa using h2
        have hyes : outB true O v = true := by unfold outB; simp; omega
        rw [outL_yes hyes, hyes]
        obtain ⟨k, rfl⟩ : ∃ k : Nat, v = (k : Int) := ⟨v.toNat, by omega⟩
        rw [Int.toNat_natCast]
        have HR := Lib.hid (fun W1 (h : Ext w W1) => row04 po no co O pt nt ct T k W1 (hO.ext h) (hT.ext h) hct hof (by omega) (by omega))
        clear hO hT hR hV hck hyes e1 e2 e3 e4 r hof l1 l2
        go_enter Tryz.func43, Tryz.ntmps43
        go_wp2_with (first | (go_at_call 65; go_must (refine (HR.out _ S1.out.ext).mono ?_; rintro e w2 ⟨q, c, rfl, Z⟩; have S2 := Lib.hid (S1.out.comp Z); clear Z)) | (go_at_call 47; go_must (refine (HC.out _ S0.out.ext).mono ?_; rintro e w1 ⟨rfl, hb⟩; have S1 := Lib.hid (S0.out.call hb); have az := (S1.out.blk 0 rfl).lt; have a0 := (S1.out.blk 0 rfl).cell 0; have a1 := (S1.out.blk 0 rfl).cell 1; have a2 := (S1.out.blk 0 rfl).cell 2; have a3 := (S1.out.blk 0 rfl).cell 3; clear hb)))
        go_ret2
        exact ⟨q, c, rfl, S2.out.pick [0] (by decide) rfl⟩
theorem Has04 (po : Option Addr) (no co : Nat) (O : List Int) (pt : Option Addr) (nt ct : Nat) (T : List Int) (pr : Option Addr) (nr cr : Nat) (R : List Int) (pv : Option Addr) (nv cv : Nat) (V : List Int) (w : World) (v u : Int) (hO : Rd w 1 po no (encI O)) (hT : Rd w 1 pt nt (encI T)) (hR : Rd w 1 pr nr (encI R)) (hV : Rd w 1 pv nv (encI V)) (hct : nt ≤ ct) (hcv : nv ≤ cv) : Calls Tryz.prog 48 #[.agg #[.slice po no co, .slice pt nt ct, .slice pr nr cr, .slice pv nv cv], .int .i64 v, .int .i64 u] w fun e w' => e = .returned (.bool (hasB (checkR O T R V) O T v u)) ∧ Ext w w' := by
  have S0 := Lib.hid ((Sep.start w).al #[.slice po no co, .slice pt nt ct, .slice pr nr cr, .slice pv nv cv] 24 w.heap.size rfl)
  have HR := Lib.hid (fun W1 (h : Ext w W1) => Out04 po no co O pt nt ct T pr nr cr R pv nv cv V W1 v (hO.ext h) (hT.ext h) (hR.ext h) (hV.ext h) hct hcv)
  have HL := Lib.hid (outL_len (O := O) (T := T) (R := R) (V := V) (A := O) (v := v) (B := T) (by rw [← hT.nI]; exact hT.small))
  have HB : Hid (hasB (checkR O T R V) O T v u = (outB (checkR O T R V) O v && inB (outL (checkR O T R V) O T v) u)) := rfl
  clear hO hT hR hV
  generalize outL (checkR O T R V) O T v = L at *
  cases ho : outB (checkR O T R V) O v with
  | true =>
    rw [ho] at HR HB
    clear ho
    rw [HB.out]
    go_enter Tryz.func48, Tryz.ntmps48
    go_wp2_with (first
      | (go_at_call 72; go_must (refine (In04x _ _ _ L u _ (S1.out.rd 0 rfl HL.out)).mono ?_; rintro e w2 ⟨rfl, hb⟩; have S2 := Lib.hid (S1.out.call hb); clear hb))
      | (go_at_call 43; go_must (refine (HR.out _ S0.out.ext).mono ?_; rintro e w1 ⟨q, c, rfl, T⟩; have S1 := Lib.hid (S0.out.comp T); clear T)))
    go_ret
    exact ⟨rfl, S2.out.ext⟩
  | false =>
    rw [ho] at HR HB
    clear ho
    rw [HB.out]
    go_enter Tryz.func48, Tryz.ntmps48
    go_wp2_with (go_at_call 43; go_must (refine (HR.out _ S0.out.ext).mono ?_; rintro e w1 ⟨q, c, rfl, T⟩; have S1 := Lib.hid (S0.out.comp T); clear T))
    go_ret
    exact ⟨rfl, S1.out.ext⟩
end Go.Proofs.YtgnjffnkmdodeaaGreat
/- The program's Edges of rows. -/
namespace Go.Proofs.YtgnjffnkmdodeaaGreat
open Go Go.RowKit Go.Shelf Go.Lib
attribute [local go_sem] Oper.semAt_some
def edgL (b : Bool) (O T : List Int) : List (Int × Int) := if b = true then pairs O T else []
def edgC (b : Bool) : Int := if b = true then 0 else 40
def edgPc (a b : Nat) (po : Option Addr) (no co : Nat) (pt : Option Addr) (nt ct : Nat) (cs : Array Value) (q : Option Addr) (c : Nat) (l : List (Int × Int)) : List Pc :=
  [.blk (b + 1 + 1) 22 #[.slice pt nt ct], .blk (b + 1) 22 #[.slice po no co], .blk b 48 #[.slice q l.length c], .blk a 24 cs, .own 53 2 q l.length c (encE l)]
theorem edgPc_cells (a b : Nat) (po : Option Addr) (no co : Nat) (pt : Option Addr) (nt ct : Nat) (cs : Array Value) (q : Option Addr) (c : Nat) (l : List (Int × Int)) : ∀ x ∈ edgPc a b po no co pt nt ct cs q c l, x.cells :=
  cells_all fun x hx => by simp [edgPc] at hx; rcases hx with h | h | h | h | h <;> first | exact .inl ⟨_, _, _, h⟩ | exact .inr ⟨_, _, _, _, _, _, h⟩
theorem pairs_len {O T : List Int} (h : OffOk O T) (h0 : nth O 0 = 0) : ∀ k, k < O.length → (pairsK O T k).length = (nth O k).toNat
  | 0, _ => by rw [h0]; rfl
  | k + 1, hk => by
    rw [pairsK_step, List.length_append, pairs_len h h0 k (by omega)]
    unfold rowX
    rw [List.length_map, rowL_len h hk]
    have := h.le k hk
    have := h.lo k (by omega)
    omega
set_option maxRecDepth 100000 in
set_option maxHeartbeats 4000000 in
theorem REdgesG_yes (po : Option Addr) (no co : Nat) (O : List Int) (pt : Option Addr) (nt ct : Nat) (T : List Int) (pr : Option Addr) (nr cr : Nat) (R : List Int) (pv : Option Addr) (nv cv : Nat) (V : List Int) (w : World) (hO : Rd w 1 po no (encI O)) (hT : Rd w 1 pt nt (encI T)) (hR : Rd w 1 pr nr (encI R)) (hV : Rd w 1 pv nv (encI V)) (hct : nt ≤ ct) (hcv : nv ≤ cv) (hck : checkR O T R V = true) :
    Calls Tryz.prog 34 #[.agg #[.slice po no co, .slice pt nt ct, .slice pr nr cr, .slice pv nv cv]] w fun e w' => ∃ q c, e = .returned (.tuple #[.slice q (pairs O T).length c, .int .i64 0]) ∧ Sep w w' [.own 53 2 q (pairs O T).length c (encE (pairs O T))] := by
  obtain ⟨i0, hi0, hz0, hz1, hz2⟩ := info_parts inf34
  have S0 := Lib.hid ((Sep.start w).al #[.slice po no co, .slice pt nt ct, .slice pr nr cr, .slice pv nv cv] 24 w.heap.size rfl)
  have HC := Lib.hid (fun W1 (h : Ext w W1) => CheckR po no co O pt nt ct T pr nr cr R pv nv cv V W1 (hO.ext h) (hT.ext h) (hR.ext h) (hV.ext h) hct hcv)
  rw [hck] at HC
  have hh := (checkR_half hck).2.2.1
  have HOK := Lib.hid (offOk_of (halfB_off hh))
  have hpl : (pairs O T).length ≤ 2000 := by
    obtain ⟨r1, r2, r3, r4, r5, r6⟩ := offB_parts (halfB_off hh)
    unfold pairs
    rw [pairs_len HOK.out r4 _ (by omega), r5]; omega
  have hO0 : 0 < no → (adr po 0).block < w.heap.size := fun h => hO.lt (by omega)
  have hT0 : 0 < nt → (adr pt 0).block < w.heap.size := fun h => hT.lt (by omega)
  have HO := Lib.hid hO; clear hO
  have HT := Lib.hid hT; clear hT
  clear hR hV hh hck
  refine (callsIn_wide (n := 9)).1 ?_
  refine callsIn_of_wp_marks Tryz.func34 rfl trivial ?_ rfl
  simp only [Tryz.ntmps34, List.size_toArray, List.length_cons, List.length_nil, Nat.reduceAdd, Nat.reduceSub, Array.replicate_succ, Array.replicate_zero, List.push_toArray, List.append_toArray, List.nil_append, List.cons_append]
  refine wpIn_wide.2 ?_
  go_wp2_with (first
    | (go_at_call 54; go_must (refine (allG po no co pt nt ct _).mono ?_; rintro e w3 ⟨rfl, hw3⟩; have S3 := (((S1.out.nilrow 53 2).al #[.slice none 0 0] 48 w1.heap.size rfl).al #[.slice po no co] 22 (w1.heap.size + 1) (by simp)).al #[.slice pt nt ct] 22 (w1.heap.size + 1 + 1) (by simp); rw [← hw3] at S3; have S4 := Lib.hid ((S3.pick [0, 1, 2, 4, 3] (by decide) rfl : Sep w w3 (edgPc w.heap.size w1.heap.size po no co pt nt ct #[.slice po no co, .slice pt nt ct, .slice pr nr cr, .slice pv nv cv] none 0 []))); clear S3 hw3))
    | (go_at_call 24; go_must (refine (HC.out _ S0.out.ext).mono ?_; rintro e w1 ⟨rfl, hb⟩; have S1 := Lib.hid (S0.out.call hb); have c0 := (S1.out.blk 0 rfl).cell 0; have c1 := (S1.out.blk 0 rfl).cell 1; have z0 := (S1.out.blk 0 rfl).lt; clear hb)))
  clear S0 S1 HC c0 c1
  generalize w1.heap.size = b at *
  refine wpIn_wide.1 (wpIn_rangeFunc_ownG (F := Fence.wide) (n := 9) rfl (by omega) (gf := 77) (lb := #[.pointer (some ⟨b + 1, 0, none⟩), .pointer (some ⟨b + 1 + 1, 0, none⟩)]) rfl trivial (enters_of Tryz.func77 (by kernel_rfl) rfl)
    (all_stops 8 (by omega) (b + 1) (b + 1 + 1) w.heap.size po no co pt nt ct O T w3 S4.out.ext.size (S4.out.blk 1 rfl) (S4.out.blk 0 rfl) (HO.out.ext S4.out.ext) (HT.out.ext S4.out.ext) hO0 hT0 HOK.out hct)
    (fun h k => KpA.trans h k) (kpA_b S4.out.ext.size (S4.out.blk 1 rfl).lt (S4.out.blk 0 rfl).lt) (Below.refl _ _) (fun _ => rfl)
    (fun pre W => ∃ q c, Sep w W (edgPc w.heap.size b po no co pt nt ct #[.slice po no co, .slice pt nt ct, .slice pr nr cr, .slice pv nv cv] q c (pre.map (·.1))))
    (fun _ _ _ => False)
    ?hI (fun _ _ _ _ _ hs _ _ => hs) ⟨none, 0, S4.out⟩ ?a1 ?assign ?body ?done (fun D c pre W _ _ h _ => h.elim))
  case hI => exact fun s A B row hs hg hr => hs.elim fun q h => h.elim fun c S => ⟨q, c, S.turn (edgPc_cells _ _ _ _ _ _ _ _ _ _ _ _) S4.out.ext.size hg hr⟩
  case assign =>
    intro l x W K hK
    gi_wp2
    exact hK
  case body =>
    rintro l pre ⟨⟨v, u⟩, hx⟩ W ⟨q, c, S⟩ hlen
    have hm : (pre ++ [(⟨(v, u), hx⟩ : PairOf O T)]).map (·.1) = pre.map (·.1) ++ [(v, u)] := by simp
    have HM := Lib.hid hm
    have hlm : (pre.map (·.1)).length ≤ 2000 := by rw [List.length_map]; omega
    have c4 := (S.blk 2 rfl).cell 0
    have f4 := (S.blk 2 rfl).frozen 0
    have z4 := (S.blk 2 rfl).lt
    have kE := Lib.hid (keeps_ext (Ext.alloc (Below.refl _ W) (.cells #[.int .i64 v, .int .i64 u] 53)))
    generalize pre.map (·.1) = ps at *
    have SH := Lib.hid S; clear S
    clear hm S4 HO HT hO0 hT0
    refine wpIn_block ?_
    refine wpIn_region_list (by rintro ⟨_, _, h⟩; exact h) (by kernel_rfl) ?_
    go_wp2_with (at_builtin; go_must (refine wpList_append_sepK rfl _ _ _ rfl 53 i0 _ 2 16 Tryz.underlying48 hi0 hz0 hz1 hz2 rfl (by omega) (SH.out.junk _) 4 q ps.length c _ rfl rfl _ 1 1 _ rfl (Rd.one2 _ _ _ _) (one_encE _) (by omega) (by omega) ?_; intro q' c' w' S' hsz hK1; have k4 := (S'.blk 2 rfl).cell 0; have kf := (S'.blk 2 rfl).frozen 0; have kz := (S'.blk 2 rfl).lt; have S5 := Lib.hid S'; have K5 := Lib.hid hK1; clear S' hsz hK1))
    have S6 := S5.out.set 2 rfl 0 (.slice q' (ps.length + 1) c')
    refine ⟨((kE.out.trans K5.out).trans (KeepsOthers.setCell _ _ _)).from _, kpA_of SH.out.ext S6.ext (Nat.le_trans kE.out.size (Nat.le_trans K5.out.size (KeepsOthers.setCell _ _ _).size)) (SH.out.blk 1 rfl) (SH.out.blk 0 rfl) (S6.blk 1 rfl) (S6.blk 0 rfl), q', c', ?_⟩
    rw [HM.out]
    unfold edgPc
    rw [List.length_append, encE_append]
    exact S6
  case done =>
    rintro D ys W hD hys ⟨q, c, S⟩ hK
    rw [hys] at S
    have c4 := (S.blk 2 rfl).cell 0
    have S' := S.putObj (edgPc_cells w.heap.size b po no co pt nt ct _ q c _) (.deferred none) (Nat.le_trans S4.out.ext.size hD) hK rfl
    have SH := Lib.hid S; clear S
    have SH' := Lib.hid S'; clear S'
    go_wp2
    refine ⟨by simp, .inl ⟨_, _, rfl, run_takeDeferred hK, ?_⟩⟩
    exact ⟨.tuple #[.slice q (pairs O T).length c, .int .i64 0], by simp [results, Tryz.results34, go_sem], q, c, rfl, SH'.out.pick [4] (by decide) rfl⟩
set_option maxHeartbeats 1000000 in
theorem REdgesG (po : Option Addr) (no co : Nat) (O : List Int) (pt : Option Addr) (nt ct : Nat) (T : List Int) (pr : Option Addr) (nr cr : Nat) (R : List Int) (pv : Option Addr) (nv cv : Nat) (V : List Int) (w : World) (hO : Rd w 1 po no (encI O)) (hT : Rd w 1 pt nt (encI T)) (hR : Rd w 1 pr nr (encI R)) (hV : Rd w 1 pv nv (encI V)) (hct : nt ≤ ct) (hcv : nv ≤ cv) : Calls Tryz.prog 34 #[.agg #[.slice po no co, .slice pt nt ct, .slice pr nr cr, .slice pv nv cv]] w fun e w' => ∃ q c, e = .returned (.tuple #[.slice q (edgL (checkR O T R V) O T).length c, .int .i64 (edgC (checkR O T R V))]) ∧ Sep w w' [.own 53 2 q (edgL (checkR O T R V) O T).length c (encE (edgL (checkR O T R V) O T))] := by
  cases hck : checkR O T R V with
  | true => exact REdgesG_yes po no co O pt nt ct T pr nr cr R pv nv cv V w hO hT hR hV hct hcv hck
  | false =>
    have S0 := Lib.hid ((Sep.start w).al #[.slice po no co, .slice pt nt ct, .slice pr nr cr, .slice pv nv cv] 24 w.heap.size rfl)
    have HC := Lib.hid (fun W1 (h : Ext w W1) => CheckR po no co O pt nt ct T pr nr cr R pv nv cv V W1 (hO.ext h) (hT.ext h) (hR.ext h) (hV.ext h) hct hcv)
    rw [hck] at HC
    clear hO hT hR hV hck
    show Calls _ _ _ _ fun e w' => ∃ q c, e = .returned (.tuple #[.slice q 0 c, .int .i64 40]) ∧ Sep w w' [.own 53 2 q 0 c []]
    go_enter Tryz.func34, Tryz.ntmps34
    go_wp2_with (go_at_call 24; go_must (refine (HC.out _ S0.out.ext).mono ?_; rintro e w1 ⟨rfl, hb⟩; have S1 := Lib.hid (S0.out.call hb); have c0 := (S1.out.blk 0 rfl).cell 0; have c1 := (S1.out.blk 0 rfl).cell 1; have z0 := (S1.out.blk 0 rfl).lt; clear hb))
    go_ret2
    exact ⟨none, 0, rfl, ((Sep.start w).call S1.out.ext).nilrow _ _⟩
end Go.Proofs.YtgnjffnkmdodeaaGreat
