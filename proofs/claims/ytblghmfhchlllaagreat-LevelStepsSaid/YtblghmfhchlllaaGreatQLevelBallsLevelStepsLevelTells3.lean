/- Texts of this claim, one behind the other: PlainB, PlainP8, PlainR2, PlainN, Dst8a, Lv7a, RngA, Eq4, Has4, PlainQ, PlainP9, Dst8b, Lv7b, OwnSm, Lv7c, Rep7, Lv7d, RngM, RngM2, Lv7m, Row4r. -/
import Derived.RangeFuncNested
import Derived.Shelf.Bits.Mul64
import Derived.Laws.CopyOwn
import Derived.StillTailTactics
import Derived.Deep.RegionWith
import Derived.Deep.LoopGhost
import Derived.Test.YtblghmfhchlllaaGreatQLevelBallsLevelStepsLevelTells2
/- The shortest walk over places that both searches have; how both searches go on. -/
namespace Go.Proofs.YtblghmfhchlllaaGreat
open Go Go.RowKit
def best1 (X Y : List Int) (s : Int × Bool) (v : Nat) : Int × Bool := if 0 ≤ nth X v ∧ 0 ≤ nth Y v ∧ (s.2 = false ∨ nth X v + nth Y v < s.1) then (nth X v + nth Y v, true) else s
def bestR (X Y : List Int) (k : Nat) : Int × Bool := (List.range k).foldl (best1 X Y) (0, false)
theorem bestR_succ (X Y : List Int) (k : Nat) : bestR X Y (k + 1) = best1 X Y (bestR X Y k) k := by
  unfold bestR; rw [List.range_succ, List.foldl_append]; rfl
theorem bestR_is (X Y : List Int) : ∀ k, ((bestR X Y k).2 = false → (bestR X Y k).1 = 0 ∧ ∀ v, v < k → ¬ (0 ≤ nth X v ∧ 0 ≤ nth Y v)) ∧
    ((bestR X Y k).2 = true → (∃ v, v < k ∧ 0 ≤ nth X v ∧ 0 ≤ nth Y v ∧ (bestR X Y k).1 = nth X v + nth Y v) ∧ ∀ v, v < k → 0 ≤ nth X v → 0 ≤ nth Y v → (bestR X Y k).1 ≤ nth X v + nth Y v)
  | 0 => ⟨fun _ => ⟨rfl, fun v hv => by omega⟩, fun h => by cases h⟩
  | k + 1 => by
    obtain ⟨h1, h2⟩ := bestR_is X Y k
    rw [bestR_succ]
    generalize bestR X Y k = s at *
    obtain ⟨m, b⟩ := s
    unfold best1
    by_cases hc : 0 ≤ nth X k ∧ 0 ≤ nth Y k ∧ (b = false ∨ nth X k + nth Y k < m)
    · rw [if_pos hc]
      refine ⟨fun h => by (simp at h), fun _ => ⟨⟨k, by omega, hc.1, hc.2.1, rfl⟩, fun v hv g1 g2 => ?_⟩⟩
      by_cases hv' : v = k
      · subst hv'; exact Int.le_refl _
      · cases b with
        | false => exact absurd ⟨g1, g2⟩ ((h1 rfl).2 v (by omega))
        | true =>
          have := (h2 rfl).2 v (by omega) g1 g2
          rcases hc.2.2 with h | h
          · cases h
          · simp only at this ⊢; omega
    · rw [if_neg hc]
      cases b with
      | false =>
        refine ⟨fun _ => ⟨(h1 rfl).1, fun v hv g => ?_⟩, fun h => by cases h⟩
        by_cases hv' : v = k
        · subst hv'; exact hc ⟨g.1, g.2, .inl rfl⟩
        · exact (h1 rfl).2 v (by omega) g
      | true =>
        refine ⟨fun h => (by cases h), fun _ => ⟨?_, fun v hv g1 g2 => ?_⟩⟩
        · obtain ⟨v, hv, g⟩ := (h2 rfl).1
          exact ⟨v, by omega, g⟩
        · by_cases hv' : v = k
          · subst hv'
            apply Classical.byContradiction
            intro hlt
            exact hc ⟨g1, g2, .inr (by simp only at hlt ⊢; omega)⟩
          · exact (h2 rfl).2 v (by omega) g1 g2
section
variable {nx nb : Nat → List Int} {n s t : Nat} (h : Rev nx nb n) (hs : s < n) (ht : t < n)
include h hs ht in
/-- what both searches have when they have taken k steps -/
theorem best_lev {k : Nat} (_ : 0 ≤ lev nx n s t → 2 * (k:Int) ≤ lev nx n s t + 1) :
    (meetB n (lev nx n s) (lev nb n t) k = true → bestR (cutL (lev nx n s) n k) (cutL (lev nb n t) n k) n = (lev nx n s t, true)) ∧
    (meetB n (lev nx n s) (lev nb n t) k = false → bestR (cutL (lev nx n s) n k) (cutL (lev nb n t) n k) n = (0, false)) := by
  obtain ⟨h1, h2⟩ := bestR_is (cutL (lev nx n s) n k) (cutL (lev nb n t) n k) n
  generalize hb : bestR (cutL (lev nx n s) n k) (cutL (lev nb n t) n k) n = b at *
  obtain ⟨m, o⟩ := b
  constructor
  · intro hm
    obtain ⟨g1, g2⟩ := (meet_lev h hs ht).1 hm
    have hex : ∃ v, v < n ∧ lev nx n s v ≤ k ∧ 0 ≤ lev nx n s v ∧ lev nb n t v ≤ k ∧ 0 ≤ lev nb n t v ∧ lev nx n s v + lev nb n t v = lev nx n s t := by
      by_cases h3 : lev nx n s t ≤ k
      · obtain ⟨v, hv, e1, e2⟩ := lev_mid h hs ht (j := (lev nx n s t).toNat) g1 (by omega)
        exact ⟨v, hv, by omega, by omega, by omega, by omega, by omega⟩
      · obtain ⟨v, hv, e1, e2⟩ := lev_mid h hs ht (j := k) g1 (by omega)
        exact ⟨v, hv, by omega, by omega, by omega, by omega, by omega⟩
    obtain ⟨v, hv, e1, e2, e3, e4, e5⟩ := hex
    have c1 : nth (cutL (lev nx n s) n k) v = lev nx n s v := by rw [cutL_nth hv]; unfold cut; rw [if_pos ⟨e2, e1⟩]
    have c2 : nth (cutL (lev nb n t) n k) v = lev nb n t v := by rw [cutL_nth hv]; unfold cut; rw [if_pos ⟨e4, e3⟩]
    cases o with
    | false => exact absurd ⟨by rw [c1]; exact e2, by rw [c2]; exact e4⟩ ((h1 rfl).2 v hv)
    | true =>
      obtain ⟨⟨u, hu, f1, f2, f3⟩, f4⟩ := h2 rfl
      have f5 := f4 v hv (by rw [c1]; exact e2) (by rw [c2]; exact e4)
      rw [c1, c2] at f5
      rw [cutL_nth hu] at f1 f3
      rw [cutL_nth hu] at f2 f3
      have f6 := cut_eq f1
      have f7 := cut_eq f2
      have f8 := lev_over h hs ht hu (by rw [← f6]; exact f1) (by rw [← f7]; exact f2)
      simp only at f3 f5
      have : m = lev nx n s t := by omega
      rw [this]
  · intro hm
    cases o with
    | false => rw [show m = 0 from (h1 rfl).1]
    | true =>
      obtain ⟨⟨u, hu, f1, f2, _⟩, _⟩ := h2 rfl
      rw [cutL_nth hu] at f1
      rw [cutL_nth hu] at f2
      have f3 := cut_ge.1 f1
      have f4 := cut_ge.1 f2
      rw [meetB_iff.2 ⟨u, hu, f3.1, f3.2, f4.1, f4.2⟩] at hm
      cases hm
theorem front_has {f : Nat → Int} {k : Int} {F : List Int} (hF : IsFront f n k F) : (hasL n f k = true ↔ 0 < F.length) := by
  rw [hasL_iff]
  constructor
  · rintro ⟨v, hv, e⟩
    exact List.length_pos_of_mem ((hF.2 (v : Int)).2 ⟨by omega, by omega, by rw [Int.toNat_natCast]; exact e⟩)
  · intro h
    obtain ⟨x, hx⟩ := List.exists_mem_of_length_pos h
    obtain ⟨h1, h2, h3⟩ := (hF.2 x).1 hx
    exact ⟨x.toNat, by omega, h3⟩
end
/-- how far, and whether -/
def distN (d : Int) : Int := if 0 ≤ d then d else 0
def distB (d : Int) : Bool := decide (0 ≤ d)
theorem stepsK_meet {n m k : Nat} {f g : Nat → Int} (h : meetB n f g k = true) : stepsK n f g (m + 1) k = k := by unfold stepsK; rw [if_pos h]
theorem stepsK_end {n m k : Nat} {f g : Nat → Int} (h : meetB n f g k = false) (h2 : ¬ (hasL n f (k + 1) = true ∧ hasL n g (k + 1) = true)) : stepsK n f g (m + 1) k = k := by
  unfold stepsK; rw [if_neg (by rw [h]; simp), if_neg h2]
theorem stepsK_go {n m k : Nat} {f g : Nat → Int} (h : meetB n f g k = false) (h2 : hasL n f (k + 1) = true ∧ hasL n g (k + 1) = true) : stepsK n f g (m + 1) k = stepsK n f g m (k + 1) := by
  conv => lhs; unfold stepsK
  rw [if_neg (by rw [h]; simp), if_pos h2]
end Go.Proofs.YtblghmfhchlllaaGreat
/- The path from place to place, in plain words. -/
namespace Go.Proofs.YtblghmfhchlllaaGreat
open Go Go.RowKit
section
variable {nx nb : Nat → List Int} {n t : Nat} (h : Rev nx nb n) (ht : t < n) (hin : InN nx n)
include h ht hin in
/-- a place that is a step nearer is there -/
theorem stepL_is {u k : Nat} (hu : u < n) (hk : lev nb n t u = (k + 1 : Nat)) : ∃ x, (nx u).find? (fun x => lev nb n t x.toNat == lev nb n t u - 1) = some x ∧ x ∈ nx u ∧ 0 ≤ x ∧ x < n ∧ stepL nx (lev nb n t) u = x.toNat ∧ lev nb n t x.toNat = k := by
  obtain ⟨y, hy, h1, h2⟩ := (lev_ok nb n t ht).pred u hu (by omega)
  have h3 := (h u y hu hy).2 h2
  cases hf : (nx u).find? (fun x => lev nb n t x.toNat == lev nb n t u - 1) with
  | none =>
    have := List.find?_eq_none.1 hf (y : Int) h3
    rw [Int.toNat_natCast] at this
    exact absurd (by simpa using h1) this
  | some x =>
    have hx := List.mem_of_find?_eq_some hf
    have hp := List.find?_some hf
    have hb := hin u hu x hx
    refine ⟨x, rfl, hx, hb.1, hb.2, ?_, ?_⟩
    · unfold stepL; rw [hf]; rfl
    · have : lev nb n t x.toNat = lev nb n t u - 1 := by simpa using hp
      omega
include h ht hin in
theorem pathL_at : ∀ (k u : Nat), u < n → lev nb n t u = k → ∀ i, i ≤ k → nth (pathL nx (lev nb n t) k u) i < n ∧ lev nb n t (nth (pathL nx (lev nb n t) k u) i) = ((k - i : Nat) : Int) ∧
    (pathL nx (lev nb n t) k u).drop i = pathL nx (lev nb n t) (k - i) (nth (pathL nx (lev nb n t) k u) i)
  | 0, u, hu, hk, i, hi => by
    obtain rfl : i = 0 := by omega
    exact ⟨hu, hk, rfl⟩
  | k + 1, u, hu, hk, 0, _ => ⟨hu, hk, rfl⟩
  | k + 1, u, hu, hk, i + 1, hi => by
    obtain ⟨x, _, _, h2, h3, h4, h5⟩ := stepL_is h ht hin hu hk
    have := pathL_at k x.toNat (by omega) h5 i (by omega)
    rw [pathL, h4]
    rw [show k + 1 - (i + 1) = k - i by omega]
    exact this
include h ht hin in
theorem pathL_next {k u : Nat} (hu : u < n) (hk : lev nb n t u = k) {i : Nat} (hi : i < k) : ((nth (pathL nx (lev nb n t) k u) (i + 1) : Nat) : Int) ∈ nx (nth (pathL nx (lev nb n t) k u) i) ∧
    nth (pathL nx (lev nb n t) k u) (i + 1) = stepL nx (lev nb n t) (nth (pathL nx (lev nb n t) k u) i) := by
  obtain ⟨h1, h2, h3⟩ := pathL_at h ht hin k u hu hk i (by omega)
  obtain ⟨j, hj⟩ : ∃ j, k - i = j + 1 := ⟨k - i - 1, by omega⟩
  rw [hj] at h2 h3
  obtain ⟨x, _, g1, g2, g3, g4, g5⟩ := stepL_is h ht hin h1 h2
  have e : nth (pathL nx (lev nb n t) k u) (i + 1) = stepL nx (lev nb n t) (nth (pathL nx (lev nb n t) k u) i) := by
    have e1 : nth ((pathL nx (lev nb n t) k u).drop i) 1 = nth (pathL nx (lev nb n t) k u) (i + 1) := by
      unfold nth; rw [List.getD_eq_getElem?_getD, List.getD_eq_getElem?_getD, List.getElem?_drop]
    rw [← e1, h3]
    cases j with
    | zero => rfl
    | succ j => rfl
  refine ⟨?_, e⟩
  rw [e, g4, Int.toNat_of_nonneg g2]
  exact g1
include h ht hin in
theorem pathL_last {k u : Nat} (hu : u < n) (hk : lev nb n t u = k) : nth (pathL nx (lev nb n t) k u) k = t := by
  obtain ⟨h1, h2, _⟩ := pathL_at h ht hin k u hu hk k (Nat.le_refl _)
  exact ((lev_ok nb n t ht).zero _ h1).1 (by rw [h2]; simp)
theorem pathL_first (nx : Nat → List Int) (g : Nat → Int) (k u : Nat) : nth (pathL nx g k u) 0 = u := by cases k <;> rfl
include h ht hin in
theorem pathL_nodup {k u : Nat} (hu : u < n) (hk : lev nb n t u = k) : (pathL nx (lev nb n t) k u).Nodup := by
  rw [List.nodup_iff_pairwise_ne, List.pairwise_iff_getElem]
  intro i j hi hj hij e
  rw [pathL_len] at hi hj
  have h1 := (pathL_at h ht hin k u hu hk i (by omega)).2.1
  have h2 := (pathL_at h ht hin k u hu hk j (by omega)).2.1
  rw [nth_eq (by rw [pathL_len]; omega)] at h1
  rw [nth_eq (by rw [pathL_len]; omega)] at h2
  rw [e] at h1
  omega
end
/-- what stands ahead of the first one that is found is less, and is not it -/
theorem find_less {l : List Int} (hl : Rises ltI l) {p : Int → Bool} {x y : Int} (hf : l.find? p = some x) (hy : y ∈ l) (hlt : y < x) : p y = false := by
  obtain ⟨hx, a, b, rfl, ha⟩ := List.find?_eq_some_iff_append.1 hf
  rcases List.mem_append.1 hy with h | h
  · have := ha y h; simpa using this
  · rcases List.mem_cons.1 h with rfl | h
    · omega
    · have h1 := (List.pairwise_append.1 hl).2.1
      have h2 := (List.pairwise_cons.1 h1).1 y h
      simp [ltI] at h2; omega
end Go.Proofs.YtblghmfhchlllaaGreat
/- Rows made of a graph are right, and tell the graph's edges; rows that are right tell the same, either way. No program in sight. -/
namespace Go.Proofs.YtblghmfhchlllaaGreat
open Go Go.RowKit
theorem nodup_le {α : Type} [DecidableEq α] : ∀ {l m : List α}, l.Nodup → (∀ x ∈ l, x ∈ m) → l.length ≤ m.length
  | [], _, _, _ => by simp
  | a :: l, m, h, hm => by
    obtain ⟨h1, h2⟩ := List.nodup_cons.1 h
    have ha := hm a (by simp)
    have ih := nodup_le (m := m.erase a) h2 fun x hx => (List.mem_erase_of_ne (fun e => h1 (by rw [← e]; exact hx))).2 (hm x (by simp [hx]))
    rw [List.length_erase_of_mem ha] at ih
    have := List.length_pos_of_mem ha
    rw [List.length_cons]; omega
theorem rises_pick {α : Type} {lt : α → α → Bool} {l m : List α} (h : Rises lt l) (hs : m.Sublist l) : Rises lt m := List.Pairwise.sublist hs h
section
variable {n : Nat} {A : List (Int × Int)}
/-- the k-th offset is the length of what comes ahead -/
theorem off_at (hb : ∀ x ∈ A, 0 ≤ x.1 ∧ x.1 < n) {k : Nat} (hk : k < n + 1) : (nth (offL n A) k).toNat = (placesK A k).length := by
  rw [offL_nth A hk, placesK_len A (fun x hx => (hb x hx).1) k]; omega
theorem to_split (h : Rises lessE A) (hb : ∀ x ∈ A, 0 ≤ x.1 ∧ x.1 < n) {k : Nat} (hk : k < n) : ∃ t, toL A = (placesK A k).map (·.2) ++ ((placeE A k).map (·.2) ++ t) := by
  have h1 : placesK A n = A := places_all h hb
  have h2 : ∀ d j, ∃ t, placesK A (j + d) = placesK A j ++ t := by
    intro d
    induction d with
    | zero => intro j; exact ⟨[], by simp⟩
    | succ d ih =>
      intro j
      obtain ⟨t, ht⟩ := ih j
      exact ⟨t ++ placeE A (j + d), by rw [← Nat.add_assoc, placesK_step, ht, List.append_assoc]⟩
  obtain ⟨t, ht⟩ := h2 (n - (k + 1)) (k + 1)
  rw [show k + 1 + (n - (k + 1)) = n by omega, h1] at ht
  refine ⟨t.map (·.2), ?_⟩
  unfold toL
  conv => lhs; rw [ht, placesK_step]
  simp
theorem row_of (h : Rises lessE A) (hb : ∀ x ∈ A, 0 ≤ x.1 ∧ x.1 < n) {k : Nat} (hk : k < n) : rowL (offL n A) (toL A) k = (placeE A k).map (·.2) := by
  obtain ⟨t, ht⟩ := to_split h hb hk
  unfold rowL
  rw [off_at hb (by omega), off_at hb (by omega), placesK_step, List.length_append, ht]
  rw [List.drop_left' (by simp), Nat.add_sub_cancel_left, List.take_left' (by simp)]
theorem rowX_of (h : Rises lessE A) (hb : ∀ x ∈ A, 0 ≤ x.1 ∧ x.1 < n) {k : Nat} (hk : k < n) : rowX (offL n A) (toL A) k = placeE A k := by
  unfold rowX
  rw [row_of h hb hk, List.map_map]
  conv => rhs; rw [← List.map_id (placeE A k)]
  refine List.map_congr_left fun x hx => ?_
  unfold placeE at hx
  rw [List.mem_filter, decide_eq_true_eq] at hx
  simp only [Function.comp, id]
  rw [← hx.2]
theorem pairs_of (h : Rises lessE A) (hb : ∀ x ∈ A, 0 ≤ x.1 ∧ x.1 < n) : pairs (offL n A) (toL A) = A := by
  have : ∀ k, k ≤ n → pairsK (offL n A) (toL A) k = placesK A k := by
    intro k
    induction k with
    | zero => intro _; rfl
    | succ k ih => intro hk; rw [pairsK_step, placesK_step, ih (by omega), rowX_of h hb (by omega)]
  unfold pairs
  rw [offL_len, Nat.add_sub_cancel, this n (Nat.le_refl _), places_all h hb]
theorem half_of (h : Rises lessE A) (hb : ∀ x ∈ A, 0 ≤ x.1 ∧ x.1 < n ∧ 0 ≤ x.2 ∧ x.2 < n) (h1 : 1 ≤ n) (h2 : n ≤ 200) (h3 : A.length ≤ 2000) : halfB (offL n A) (toL A) = true := by
  have hb' : ∀ x ∈ A, 0 ≤ x.1 ∧ x.1 < n := fun x hx => ⟨(hb x hx).1, (hb x hx).2.1⟩
  have e0 : nth (offL n A) 0 = 0 := by
    rw [offL_nth A (by omega), List.countP_eq_zero.2 fun x hx => by have := (hb x hx).1; simp; omega]; rfl
  have en : nth (offL n A) n = A.length := by
    rw [offL_nth A (by omega), List.countP_eq_length.2 fun x hx => by have := (hb x hx).2.1; simp; omega]
  have es : sortB (offL n A) = true := by
    unfold sortB
    rw [List.all_eq_true]
    intro v hv
    rw [List.mem_range, offL_len] at hv
    rw [offL_nth A (by omega), offL_nth A (by omega), count_step]
    simp; omega
  unfold halfB offB
  rw [offL_len, e0, Nat.add_sub_cancel, en, es]
  have : (toL A).length = A.length := by simp [toL]
  rw [this]
  rw [decide_eq_true (by omega : 2 ≤ n + 1), decide_eq_true (by omega : n + 1 ≤ 201), decide_eq_true h3]
  simp only [decide_true, Bool.true_and, List.all_eq_true]
  intro v hv
  rw [List.mem_range] at hv
  rw [okRow_iff, row_of h hb' hv]
  refine ⟨fun x hx => ?_, ?_⟩
  · obtain ⟨y, hy, rfl⟩ := List.mem_map.1 hx
    unfold placeE at hy
    exact (hb y (List.mem_filter.1 hy).1).2.2
  · rw [Rises, List.pairwise_map]
    refine (h.sublist (List.filter_sublist (p := fun x : Int × Int => decide (x.1 = (v:Int))))).imp_of_mem fun {a b} ha hb hab => ?_
    have ha := List.mem_filter.1 ha
    have hb := List.mem_filter.1 hb
    rw [decide_eq_true_eq] at ha hb
    rw [lessE_iff] at hab
    simp only [ltI, decide_eq_true_eq]
    omega
end
theorem mem_row_of {n : Nat} {A : List (Int × Int)} (h : Rises lessE A) (hb : ∀ x ∈ A, 0 ≤ x.1 ∧ x.1 < n) {k : Nat} (hk : k < n) {y : Int} : y ∈ rowL (offL n A) (toL A) k ↔ ((k:Int), y) ∈ A := by
  rw [row_of h hb hk, List.mem_map]
  unfold placeE
  constructor
  · rintro ⟨x, hx, rfl⟩
    rw [List.mem_filter, decide_eq_true_eq] at hx
    rw [← hx.2]; exact hx.1
  · intro hx; exact ⟨_, List.mem_filter.2 ⟨hx, by simp⟩, rfl⟩
theorem turnE_mem {E : List (Int × Int)} {x : Int × Int} : x ∈ turnE E ↔ swapE x ∈ E := by
  unfold turnE
  rw [putAll_mem stoE, List.mem_map]
  constructor
  · rintro ⟨y, hy, rfl⟩; exact hy
  · intro h; exact ⟨_, h, rfl⟩
theorem turnE_rises (E : List (Int × Int)) : Rises lessE (turnE E) := putAll_rises stoE _
/-- what is made is right -/
theorem check_of {n : Nat} {A : List (Int × Int)} (h : Rises lessE A) (hb : ∀ x ∈ A, 0 ≤ x.1 ∧ x.1 < n ∧ 0 ≤ x.2 ∧ x.2 < n) (h1 : 1 ≤ n) (h2 : n ≤ 200) (h3 : A.length ≤ 2000) :
    checkR (offL n A) (toL A) (offL n (turnE A)) (toL (turnE A)) = true := by
  have hb' : ∀ x ∈ A, 0 ≤ x.1 ∧ x.1 < n := fun x hx => ⟨(hb x hx).1, (hb x hx).2.1⟩
  have hbt : ∀ x ∈ turnE A, 0 ≤ x.1 ∧ x.1 < n ∧ 0 ≤ x.2 ∧ x.2 < n := fun x hx => by
    have := hb _ (turnE_mem.1 hx)
    unfold swapE at this
    simp only at this
    omega
  have hbt' : ∀ x ∈ turnE A, 0 ≤ x.1 ∧ x.1 < n := fun x hx => ⟨(hbt x hx).1, (hbt x hx).2.1⟩
  have hnd : A.Nodup := h.imp fun {a b} hab e => by subst e; rw [lessE_iff] at hab; omega
  have hlen : (turnE A).length = A.length := by
    refine Nat.le_antisymm ?_ ?_
    · have := putAll_len lessE (A.map swapE); rw [List.length_map] at this; exact this
    · have hnt : (turnE A).Nodup := (turnE_rises A).imp fun {a b} hab e => by subst e; rw [lessE_iff] at hab; omega
      have : A.Nodup := hnd
      have h4 := nodup_le (m := (turnE A).map swapE) hnd fun x hx => List.mem_map.2 ⟨swapE x, turnE_mem.2 (by rw [swapE_swapE]; exact hx), swapE_swapE x⟩
      rwa [List.length_map] at h4
  unfold checkR
  rw [half_of h hb h1 h2 h3, half_of (turnE_rises A) hbt h1 h2 (by omega), pairs_of h hb', offL_len, offL_len]
  have e1 : (toL A).length = (toL (turnE A)).length := by simp [toL, hlen]
  rw [decide_eq_true e1]
  simp only [decide_true, Bool.true_and, List.all_eq_true]
  intro x hx
  rw [inB_iff]
  have hx2 := hb x hx
  obtain ⟨u, hu⟩ : ∃ u : Nat, x.2 = (u:Int) := ⟨x.2.toNat, by omega⟩
  rw [hu, Int.toNat_natCast, mem_row_of (turnE_rises A) hbt' (by omega), turnE_mem]
  have : swapE ((u:Int), x.1) = x := by unfold swapE; simp only; rw [← hu]
  rw [this]; exact hx
/-! ### rows that are right tell the same, either way -/
theorem pairs_rises {O T : List Int} (h : halfB O T = true) : ∀ k, k ≤ O.length - 1 → Rises lessE (pairsK O T k)
  | 0, _ => List.Pairwise.nil
  | k + 1, hk => by
    rw [pairsK_step]
    refine List.pairwise_append.2 ⟨pairs_rises h k (by omega), ?_, fun a ha b hb => ?_⟩
    · unfold rowX
      rw [List.pairwise_map]
      refine (row_rises h (by omega)).imp fun {a b} hab => ?_
      rw [lessE_iff]
      simp [ltI] at hab
      right; exact ⟨rfl, hab⟩
    · unfold pairsK rowX at ha
      unfold rowX at hb
      simp only [List.mem_flatMap, List.mem_range, List.mem_map] at ha hb
      obtain ⟨v, h1, y, _, rfl⟩ := ha
      obtain ⟨z, _, rfl⟩ := hb
      rw [lessE_iff]; left; simp only; omega
theorem pairs_count {O T : List Int} (h : halfB O T = true) : (pairs O T).length = T.length := by
  obtain ⟨r1, r2, r3, r4, r5, r6⟩ := offB_parts (halfB_off h)
  have hok := offOk_of (halfB_off h)
  have : ∀ k, k < O.length → (pairsK O T k).length = (nth O k).toNat := by
    intro k
    induction k with
    | zero => intro _; rw [r4]; rfl
    | succ k ih =>
      intro hk
      rw [pairsK_step, List.length_append, ih (by omega)]
      unfold rowX
      rw [List.length_map, rowL_len hok hk]
      have := hok.le k hk
      have := hok.lo k (by omega)
      omega
  unfold pairs
  rw [this _ (by omega), r5]; omega
theorem mem_all {α : Type} [DecidableEq α] {l m : List α} (h : l.Nodup) (hs : ∀ x ∈ l, x ∈ m) (hl : m.length ≤ l.length) {x : α} (hx : x ∈ m) : x ∈ l := by
  by_cases hn : x ∈ l
  · exact hn
  · have h1 := nodup_le (m := m.erase x) h fun y hy => (List.mem_erase_of_ne (fun (e : y = x) => hn (by rw [← e]; exact hy))).2 (hs y hy)
    rw [List.length_erase_of_mem hx] at h1
    have := List.length_pos_of_mem hx
    omega
/-- each pair of the other rows stands in these, turned -/
theorem check_turn {O T R V : List Int} (h : checkR O T R V = true) {x : Int × Int} : x ∈ pairs O T ↔ swapE x ∈ pairs R V := by
  obtain ⟨h1, h2, h3, h4⟩ := checkR_half h
  have hall : ∀ y ∈ pairs O T, swapE y ∈ pairs R V := fun y hy => by
    unfold checkR at h
    simp only [Bool.and_eq_true, List.all_eq_true] at h
    have h5 := h.2 y hy
    rw [inB_iff] at h5
    have hb := pair_bd h3 hy
    exact mem_pairs.2 ⟨y.2.toNat, by omega, by unfold swapE; simp only; omega, h5⟩
  refine ⟨hall x, fun hx => ?_⟩
  have hnd : (pairs O T).Nodup := (pairs_rises h3 _ (Nat.le_refl _)).imp fun {a b} hab e => by subst e; rw [lessE_iff] at hab; omega
  have hnd2 : ((pairs O T).map swapE).Nodup := by
    rw [List.Nodup, List.pairwise_map]
    exact hnd.imp fun {a b} hab e => hab (by have := congrArg swapE e; rwa [swapE_swapE, swapE_swapE] at this)
  have h6 := mem_all hnd2 (fun y hy => by obtain ⟨z, hz, rfl⟩ := List.mem_map.1 hy; exact hall z hz) (by rw [List.length_map, pairs_count h3, pairs_count h4, h2]; exact Nat.le_refl _) hx
  obtain ⟨z, hz, e⟩ := List.mem_map.1 h6
  have : z = x := by have := congrArg swapE e; rwa [swapE_swapE, swapE_swapE] at this
  exact this ▸ hz
theorem row_turn {O T R V : List Int} (h : checkR O T R V = true) {v u : Nat} (hv : v < O.length - 1) (hu : u < O.length - 1) : inB (rowL O T u) v = inB (rowL R V v) u := by
  have h1 := (checkR_half h).1
  rw [Bool.eq_iff_iff, inB_iff, inB_iff]
  have e1 : (v:Int) ∈ rowL O T u ↔ ((u:Int), (v:Int)) ∈ pairs O T := by
    rw [mem_pairs]
    constructor
    · intro h; exact ⟨u, hu, rfl, h⟩
    · rintro ⟨k, _, h2, h3⟩; simp only at h2; have : u = k := by omega
      subst this; exact h3
  have e2 : (u:Int) ∈ rowL R V v ↔ ((v:Int), (u:Int)) ∈ pairs R V := by
    rw [mem_pairs]
    constructor
    · intro h; exact ⟨v, by omega, rfl, h⟩
    · rintro ⟨k, _, h2, h3⟩; simp only at h2; have : v = k := by omega
      subst this; exact h3
  rw [e1, e2, check_turn h]; rfl
end Go.Proofs.YtblghmfhchlllaaGreat
/- Rows that are right: where places lead to, forth and back. -/
namespace Go.Proofs.YtblghmfhchlllaaGreat
open Go Go.RowKit
/-- where a place leads to -/
def nxR (back : Bool) (O T R V : List Int) : Nat → List Int := if back = true then rowL R V else rowL O T
theorem row_in {O T : List Int} (h : halfB O T = true) : InN (rowL O T) (O.length - 1) := by
  intro u hu x hx
  unfold halfB at h
  rw [Bool.and_eq_true] at h
  have := List.all_eq_true.1 h.2 u (List.mem_range.2 hu)
  exact (okRow_iff.1 this).1 x hx
theorem nxR_in {O T R V : List Int} (h : checkR O T R V = true) (back : Bool) : InN (nxR back O T R V) (O.length - 1) := by
  obtain ⟨h1, h2, h3, h4⟩ := checkR_half h
  cases back with
  | false => exact row_in h3
  | true => have := row_in h4; rw [← h1] at this; exact this
theorem nxR_rev {O T R V : List Int} (h : checkR O T R V = true) (back : Bool) : Rev (nxR back O T R V) (nxR (!back) O T R V) (O.length - 1) := by
  have key : ∀ u v : Nat, u < O.length - 1 → v < O.length - 1 → ((v : Int) ∈ rowL O T u ↔ (u : Int) ∈ rowL R V v) := fun u v hu hv => by
    have := row_turn h hv hu
    rw [Bool.eq_iff_iff, inB_iff, inB_iff] at this
    exact this
  cases back with
  | false => exact key
  | true => exact fun u v hu hv => (key v u hv hu).symm
/-- all ways, in a direction -/
def edgD (back : Bool) (O T : List Int) : List (Int × Int) := if back = true then (pairs O T).map swapE else pairs O T
theorem edgD_bd {O T : List Int} (h : halfB O T = true) (back : Bool) : ∀ x ∈ edgD back O T, 0 ≤ x.1 ∧ x.1 < ((O.length - 1 : Nat) : Int) ∧ 0 ≤ x.2 ∧ x.2 < ((O.length - 1 : Nat) : Int) := by
  intro x hx
  cases back with
  | false => exact pair_bd h hx
  | true =>
    obtain ⟨y, hy, rfl⟩ := List.mem_map.1 hx
    have := pair_bd h hy
    exact ⟨this.2.2.1, this.2.2.2, this.1, this.2.1⟩
theorem edgD_mem {O T R V : List Int} (h : checkR O T R V = true) (back : Bool) : ∀ u v : Nat, u < O.length - 1 → v < O.length - 1 → (((u : Int), (v : Int)) ∈ edgD back O T ↔ (v : Int) ∈ nxR back O T R V u) := by
  have key : ∀ u v : Nat, u < O.length - 1 → (((u : Int), (v : Int)) ∈ pairs O T ↔ (v : Int) ∈ rowL O T u) := fun u v hu => by
    rw [mem_pairs]
    constructor
    · rintro ⟨k, h1, h2, h3⟩
      have : u = k := by simp only at h2; omega
      subst this; exact h3
    · intro h1; exact ⟨u, hu, rfl, h1⟩
  intro u v hu hv
  cases back with
  | false => exact key u v hu
  | true =>
    have e : ((u : Int), (v : Int)) ∈ edgD true O T ↔ ((v : Int), (u : Int)) ∈ pairs O T := by
      show _ ∈ (pairs O T).map swapE ↔ _
      rw [List.mem_map]
      constructor
      · rintro ⟨y, hy, e⟩
        unfold swapE at e
        injection e with e1 e2
        rw [← e1, ← e2]; exact hy
      · intro h1; exact ⟨_, h1, rfl⟩
    rw [e, key v u hv]
    exact (nxR_rev h true u v hu hv).symm
theorem row_rises8 {O T R V : List Int} (h : checkR O T R V = true) (back : Bool) {u : Nat} (hu : u < O.length - 1) : Rises ltI (nxR back O T R V u) := by
  obtain ⟨h1, h2, h3, h4⟩ := checkR_half h
  cases back with
  | false => exact row_rises h3 hu
  | true => exact row_rises h4 (by omega)
/-- levels, as the chapter says: a row; the error -/
def levC (ck : Bool) (O : List Int) (s : Int) : Int := if ck = true then (if 0 ≤ s ∧ s < (O.length : Int) - 1 then 0 else 1) else 40
def levR (ck back : Bool) (O T R V : List Int) (s : Int) : List Int := if levC ck O s = 0 then (List.range (O.length - 1)).map fun v => lev (nxR back O T R V) (O.length - 1) s.toNat v else []
end Go.Proofs.YtblghmfhchlllaaGreat
/- The program's searches (chapter 8): a place's next ones; a side that begins. -/
namespace Go.Proofs.YtblghmfhchlllaaGreat
open Go Go.RowKit
end Go.Proofs.YtblghmfhchlllaaGreat
/- The program's levels (chapter 7): ways, in a direction; open. -/
namespace Go.Proofs.YtblghmfhchlllaaGreat
open Go Go.RowKit
set_option maxRecDepth 100000 in
set_option maxHeartbeats 2000000 in
theorem waysOut (po : Option Addr) (no co : Nat) (O : List Int) (pt : Option Addr) (nt ct : Nat) (T : List Int) (pr : Option Addr) (nr cr : Nat) (R : List Int) (pv : Option Addr) (nv cv : Nat) (V : List Int) (k : Nat) (w : World) (hO : Rd w 1 po no (encI O)) (hT : Rd w 1 pt nt (encI T)) (hok : OffOk O T) (hct : nt ≤ ct) (hk1 : k + 1 < O.length) :
    Calls Tryz.prog 50 #[.agg #[.slice po no co, .slice pt nt ct, .slice pr nr cr, .slice pv nv cv], .int .i64 k] w fun e w' => e = .returned (.slice (cutp pt ct (nth O k).toNat 1) (rowL O T k).length (ct - (nth O k).toNat)) ∧ Ext w w' := by
  have _u := (R, V)
  have S0 := Lib.hid ((Sep.start w).al #[.slice po no co, .slice pt nt ct, .slice pr nr cr, .slice pv nv cv] 57 w.heap.size rfl)
  have na1 := hO.small
  have l1 := hO.nI
  have l2 := hT.nI
  have pA := hO.ptr
  have q1 := hok.lo k (by omega)
  have q2 := hok.le k hk1
  have q3 := hok.hi (k + 1) hk1
  have hrl := rowL_len hok hk1
  have RL0 := hT.rowOf hok hct hk1
  have g1 := hO.cI (k := k) (by omega)
  have g2 := hO.cI (k := k + 1) (by omega)
  obtain ⟨a, ha⟩ : ∃ a : Nat, nth O k = (a : Int) := ⟨(nth O k).toNat, by omega⟩
  obtain ⟨c, hc⟩ : ∃ c : Nat, nth O (k + 1) = (c : Int) := ⟨(nth O (k + 1)).toNat, by omega⟩
  rw [ha] at q1 q2 hrl RL0 g1
  rw [hc] at q2 q3 hrl RL0 g2
  simp only [Int.toNat_natCast] at hrl RL0
  have hq3 : (c:Int) ≤ ct := by omega
  have d1 : (0:Int) ≤ k := by omega
  have d2 : (k:Int) < no := by omega
  have d3 : (0:Int) ≤ (k:Int) + 1 := by omega
  have d4 : (k:Int) + 1 < no := by omega
  have RL := Lib.hid RL0
  rw [hrl, ha, Int.toNat_natCast]
  clear hO hT hok ha hc hrl RL0 l1 l2 q3 hk1
  go_enter Tryz.func50, Tryz.ntmps50
  go_wp2
  obtain ⟨X, hX⟩ : ∃ X, X = w.alloc (.cells #[.slice po no co, .slice pt nt ct, .slice pr nr cr, .slice pv nv cv] 57) := ⟨_, rfl⟩
  have SX := Lib.hid (hX ▸ S0.out : Sep w X [.blk w.heap.size 57 #[.slice po no co, .slice pt nt ct, .slice pr nr cr, .slice pv nv cv]])
  rw [← hX]
  clear hX S0
  have bz := (SX.out.blk 0 rfl).lt; have b0 := (SX.out.blk 0 rfl).cell 0; have b1 := (SX.out.blk 0 rfl).cell 1; have b2 := (SX.out.blk 0 rfl).cell 2; have b3 := (SX.out.blk 0 rfl).cell 3
  replace g1 := SX.out.ext.cell g1
  replace g2 := SX.out.ext.cell g2
  have y0 := fun x : ExtOf X => x.ext.cell b0
  have y1 := fun x : ExtOf X => x.ext.cell b1
  have y2 := fun x : ExtOf X => x.ext.cell b2
  have y3 := fun x : ExtOf X => x.ext.cell b3
  have x1 := fun x : ExtOf X => x.ext.cell g1
  have x2 := fun x : ExtOf X => x.ext.cell g2
  refine wp_region_ext (by kernel_rfl) (by kernel_rfl) ?_
  repeat (go_big_quiet_step ((fail)))
  refine wpQuiet_nil ?_
  rintro w1 ⟨⟨_, hb1⟩, rfl⟩
  go_wp2
  go_ret
  exact ⟨rfl, Ext.trans SX.out.ext hb1⟩
theorem waysOutR (po : Option Addr) (no co : Nat) (O : List Int) (pt : Option Addr) (nt ct : Nat) (T : List Int) (pr : Option Addr) (nr cr : Nat) (R : List Int) (pv : Option Addr) (nv cv : Nat) (V : List Int) (k : Nat) (w : World) (hO : Rd w 1 po no (encI O)) (hT : Rd w 1 pt nt (encI T)) (hok : OffOk O T) (hct : nt ≤ ct) (hk1 : k + 1 < O.length) :
    ∃ q c, Rd w 1 q (rowL O T k).length (encI (rowL O T k)) ∧ ∀ W, Ext w W → Calls Tryz.prog 50 #[.agg #[.slice po no co, .slice pt nt ct, .slice pr nr cr, .slice pv nv cv], .int .i64 k] W fun e w' => e = .returned (.slice q (rowL O T k).length c) ∧ Ext W w' := by
  refine ⟨_, _, ?_, fun W h => waysOut po no co O pt nt ct T pr nr cr R pv nv cv V k W (hO.ext h) (hT.ext h) hok hct hk1⟩
  have := hT.rowOf hok hct hk1
  rw [← rowL_len hok hk1] at this
  exact this
set_option maxRecDepth 100000 in
set_option maxHeartbeats 2000000 in
theorem waysIn (po : Option Addr) (no co : Nat) (O : List Int) (pt : Option Addr) (nt ct : Nat) (T : List Int) (pr : Option Addr) (nr cr : Nat) (R : List Int) (pv : Option Addr) (nv cv : Nat) (V : List Int) (k : Nat) (w : World) (hO : Rd w 1 pr nr (encI R)) (hT : Rd w 1 pv nv (encI V)) (hok : OffOk R V) (hct : nv ≤ cv) (hk1 : k + 1 < R.length) :
    Calls Tryz.prog 49 #[.agg #[.slice po no co, .slice pt nt ct, .slice pr nr cr, .slice pv nv cv], .int .i64 k] w fun e w' => e = .returned (.slice (cutp pv cv (nth R k).toNat 1) (rowL R V k).length (cv - (nth R k).toNat)) ∧ Ext w w' := by
  have _u := (O, T)
  have S0 := Lib.hid ((Sep.start w).al #[.slice po no co, .slice pt nt ct, .slice pr nr cr, .slice pv nv cv] 57 w.heap.size rfl)
  have na1 := hO.small
  have l1 := hO.nI
  have l2 := hT.nI
  have pA := hO.ptr
  have q1 := hok.lo k (by omega)
  have q2 := hok.le k hk1
  have q3 := hok.hi (k + 1) hk1
  have hrl := rowL_len hok hk1
  have RL0 := hT.rowOf hok hct hk1
  have g1 := hO.cI (k := k) (by omega)
  have g2 := hO.cI (k := k + 1) (by omega)
  obtain ⟨a, ha⟩ : ∃ a : Nat, nth R k = (a : Int) := ⟨(nth R k).toNat, by omega⟩
  obtain ⟨c, hc⟩ : ∃ c : Nat, nth R (k + 1) = (c : Int) := ⟨(nth R (k + 1)).toNat, by omega⟩
  rw [ha] at q1 q2 hrl RL0 g1
  rw [hc] at q2 q3 hrl RL0 g2
  simp only [Int.toNat_natCast] at hrl RL0
  have hq3 : (c:Int) ≤ cv := by omega
  have d1 : (0:Int) ≤ k := by omega
  have d2 : (k:Int) < nr := by omega
  have d3 : (0:Int) ≤ (k:Int) + 1 := by omega
  have d4 : (k:Int) + 1 < nr := by omega
  have RL := Lib.hid RL0
  rw [hrl, ha, Int.toNat_natCast]
  clear hO hT hok ha hc hrl RL0 l1 l2 q3 hk1
  go_enter Tryz.func49, Tryz.ntmps49
  go_wp2
  obtain ⟨X, hX⟩ : ∃ X, X = w.alloc (.cells #[.slice po no co, .slice pt nt ct, .slice pr nr cr, .slice pv nv cv] 57) := ⟨_, rfl⟩
  have SX := Lib.hid (hX ▸ S0.out : Sep w X [.blk w.heap.size 57 #[.slice po no co, .slice pt nt ct, .slice pr nr cr, .slice pv nv cv]])
  rw [← hX]
  clear hX S0
  have bz := (SX.out.blk 0 rfl).lt; have b0 := (SX.out.blk 0 rfl).cell 0; have b1 := (SX.out.blk 0 rfl).cell 1; have b2 := (SX.out.blk 0 rfl).cell 2; have b3 := (SX.out.blk 0 rfl).cell 3
  replace g1 := SX.out.ext.cell g1
  replace g2 := SX.out.ext.cell g2
  have y0 := fun x : ExtOf X => x.ext.cell b0
  have y1 := fun x : ExtOf X => x.ext.cell b1
  have y2 := fun x : ExtOf X => x.ext.cell b2
  have y3 := fun x : ExtOf X => x.ext.cell b3
  have x1 := fun x : ExtOf X => x.ext.cell g1
  have x2 := fun x : ExtOf X => x.ext.cell g2
  refine wp_region_ext (by kernel_rfl) (by kernel_rfl) ?_
  repeat (go_big_quiet_step ((fail)))
  refine wpQuiet_nil ?_
  rintro w1 ⟨⟨_, hb1⟩, rfl⟩
  go_wp2
  go_ret
  exact ⟨rfl, Ext.trans SX.out.ext hb1⟩
theorem waysInR (po : Option Addr) (no co : Nat) (O : List Int) (pt : Option Addr) (nt ct : Nat) (T : List Int) (pr : Option Addr) (nr cr : Nat) (R : List Int) (pv : Option Addr) (nv cv : Nat) (V : List Int) (k : Nat) (w : World) (hO : Rd w 1 pr nr (encI R)) (hT : Rd w 1 pv nv (encI V)) (hok : OffOk R V) (hct : nv ≤ cv) (hk1 : k + 1 < R.length) :
    ∃ q c, Rd w 1 q (rowL R V k).length (encI (rowL R V k)) ∧ ∀ W, Ext w W → Calls Tryz.prog 49 #[.agg #[.slice po no co, .slice pt nt ct, .slice pr nr cr, .slice pv nv cv], .int .i64 k] W fun e w' => e = .returned (.slice q (rowL R V k).length c) ∧ Ext W w' := by
  refine ⟨_, _, ?_, fun W h => waysIn po no co O pt nt ct T pr nr cr R pv nv cv V k W (hO.ext h) (hT.ext h) hok hct hk1⟩
  have := hT.rowOf hok hct hk1
  rw [← rowL_len hok hk1] at this
  exact this
theorem waysSize (po : Option Addr) (no co : Nat) (pt : Option Addr) (nt ct : Nat) (pr : Option Addr) (nr cr : Nat) (pv : Option Addr) (nv cv : Nat) (w : World) (h : 1 ≤ no) (hn : no ≤ 9223372036854775807) :
    Calls Tryz.prog 30 #[.agg #[.slice po no co, .slice pt nt ct, .slice pr nr cr, .slice pv nv cv]] w fun e w' => e = .returned (.int .i64 ((no:Int) - 1)) ∧ Ext w w' := by
  have S0 := Lib.hid ((Sep.start w).al #[.slice po no co, .slice pt nt ct, .slice pr nr cr, .slice pv nv cv] 57 w.heap.size rfl)
  go_enter Tryz.func30, Tryz.ntmps30
  go_wp2
  go_ret
  exact ⟨rfl, S0.out.ext⟩
/-- where a direction leads -/
def nextV (back : Bool) (rv : Value) : Value := if back = true then .func (.func 49) #[rv] #[] else .func (.func 50) #[rv] #[]
theorem waysNext (po : Option Addr) (no co : Nat) (pt : Option Addr) (nt ct : Nat) (pr : Option Addr) (nr cr : Nat) (pv : Option Addr) (nv cv : Nat) (back : Bool) (w : World) :
    Calls Tryz.prog 34 #[.agg #[.slice po no co, .slice pt nt ct, .slice pr nr cr, .slice pv nv cv], .bool back] w fun e w' => e = .returned (nextV back (.agg #[.slice po no co, .slice pt nt ct, .slice pr nr cr, .slice pv nv cv])) ∧ Ext w w' := by
  have S0 := Lib.hid ((Sep.start w).al #[.slice po no co, .slice pt nt ct, .slice pr nr cr, .slice pv nv cv] 57 w.heap.size rfl)
  cases back <;>
  (go_enter Tryz.func34, Tryz.ntmps34
   go_wp2
   go_ret
   exact ⟨rfl, S0.out.ext⟩)
/-- the error of rows and of places -/
def openC (ck : Bool) (O : List Int) (l : List Int) : Int := if ck = true then (if l.all (fun x => decide (0 ≤ x) && decide (x < (O.length : Int) - 1)) = true then 0 else 1) else 40
set_option maxRecDepth 100000 in
set_option maxHeartbeats 4000000 in
theorem openL (po : Option Addr) (no co : Nat) (O : List Int) (pt : Option Addr) (nt ct : Nat) (T : List Int) (pr : Option Addr) (nr cr : Nat) (R : List Int) (pv : Option Addr) (nv cv : Nat) (V : List Int) (p : Option Addr) (m c : Nat) (l : List Int) (w : World) (hO : Rd w 1 po no (encI O)) (hT : Rd w 1 pt nt (encI T)) (hR : Rd w 1 pr nr (encI R)) (hV : Rd w 1 pv nv (encI V)) (hct : nt ≤ ct) (hcv : nv ≤ cv) (hl : Rd w 1 p m (encI l)) :
    Calls Tryz.prog 28 #[.agg #[.slice po no co, .slice pt nt ct, .slice pr nr cr, .slice pv nv cv], .slice p m c] w fun e w' => e = .returned (.tuple #[.agg #[.slice po no co, .slice pt nt ct, .slice pr nr cr, .slice pv nv cv], .int .i64 (openC (checkR O T R V) O l)]) ∧ Ext w w' := by
  have S0 := Lib.hid ((((Sep.start w).al #[.slice po no co, .slice pt nt ct, .slice pr nr cr, .slice pv nv cv] 24 w.heap.size rfl).al #[.slice none 0 0, .slice none 0 0, .slice none 0 0, .slice none 0 0] 57 (w.heap.size + 1) (by simp)).al #[.slice po no co, .slice pt nt ct, .slice pr nr cr, .slice pv nv cv] 57 (w.heap.size + 1 + 1) (by simp))
  have HC := Lib.hid (fun W1 (h : Ext w W1) => CheckR po no co O pt nt ct T pr nr cr R pv nv cv V W1 (hO.ext h) (hT.ext h) (hR.ext h) (hV.ext h) hct hcv)
  have l1 := hO.nI
  have n1 := hO.small
  have p1 := hl.ptr
  have n2 := hl.small
  have L1 := Lib.hid hl.nI
  have HL := Lib.hid hl; clear hl
  cases hck : checkR O T R V with
  | false =>
    rw [hck] at HC
    have HF : Hid (openC false O l = 40) := rfl
    clear hO hT hR hV hck l1
    go_enter Tryz.func28, Tryz.ntmps28
    go_wp2_with (go_at_call 9; go_must (refine (HC.out _ S0.out.ext).mono ?_; rintro e w1 ⟨rfl, hb⟩; have S1 := Lib.hid (S0.out.call hb); have vz := (S1.out.blk 0 rfl).lt; have v0 := (S1.out.blk 0 rfl).cell 0; have v1 := (S1.out.blk 0 rfl).cell 1; have v2 := (S1.out.blk 0 rfl).cell 2; have v3 := (S1.out.blk 0 rfl).cell 3; have zz := (S1.out.blk 1 rfl).lt; have z0 := (S1.out.blk 1 rfl).cell 0; have z1 := (S1.out.blk 1 rfl).cell 1; have z2 := (S1.out.blk 1 rfl).cell 2; have z3 := (S1.out.blk 1 rfl).cell 3; have zf0 := (S1.out.blk 1 rfl).frozen 0; have zf1 := (S1.out.blk 1 rfl).frozen 1; have zf2 := (S1.out.blk 1 rfl).frozen 2; have zf3 := (S1.out.blk 1 rfl).frozen 3; clear hb))
    have S7 := (((S1.out.set 1 rfl 0 (.slice po no co)).set 1 rfl 1 (.slice pt nt ct)).set 1 rfl 2 (.slice pr nr cr)).set 1 rfl 3 (.slice pv nv cv)
    have b0 := (S7.blk 1 rfl).cell 0
    have b1 := (S7.blk 1 rfl).cell 1
    have b2 := (S7.blk 1 rfl).cell 2
    have b3 := (S7.blk 1 rfl).cell 3
    refine bodyPost_ret (v := .tuple #[.agg #[.slice po no co, .slice pt nt ct, .slice pr nr cr, .slice pv nv cv], .int .i64 40]) (by simp [results, Tryz.results28, go_sem, b0, b1, b2, b3, Tryz.sizeOf57, Tryz.isAgg57]) rfl ⟨(by rw [HF.out]), S7.ext⟩
  | true =>
    rw [hck] at HC
    have r := offB_parts (halfB_off (checkR_half hck).2.2.1)
    have hno1 : 1 ≤ no := by omega
    have LO := Lib.hid l1
    have HSZ := Lib.hid (fun W => waysSize po no co pt nt ct pr nr cr pv nv cv W hno1 n1)
    clear hO hT hR hV hck l1 r
    go_enter Tryz.func28, Tryz.ntmps28
    go_wp2_with (go_at_call 9; go_must (refine (HC.out _ S0.out.ext).mono ?_; rintro e w1 ⟨rfl, hb⟩; have S1 := Lib.hid (S0.out.call hb); have vz := (S1.out.blk 0 rfl).lt; have v0 := (S1.out.blk 0 rfl).cell 0; have v1 := (S1.out.blk 0 rfl).cell 1; have v2 := (S1.out.blk 0 rfl).cell 2; have v3 := (S1.out.blk 0 rfl).cell 3; have zz := (S1.out.blk 1 rfl).lt; have z0 := (S1.out.blk 1 rfl).cell 0; have z1 := (S1.out.blk 1 rfl).cell 1; have z2 := (S1.out.blk 1 rfl).cell 2; have z3 := (S1.out.blk 1 rfl).cell 3; have zf0 := (S1.out.blk 1 rfl).frozen 0; have zf1 := (S1.out.blk 1 rfl).frozen 1; have zf2 := (S1.out.blk 1 rfl).frozen 2; have zf3 := (S1.out.blk 1 rfl).frozen 3; clear hb))
    go_loopw [8, 17] (fun _ i wr => ∃ k : Nat, k ≤ m ∧ i = .int .i64 k ∧ Hid ((l.take k).all (fun x => decide (0 ≤ x) && decide (x < (O.length : Int) - 1)) = true) ∧ Sep w wr [.blk (w.heap.size + 1 + 1) 57 #[.slice po no co, .slice pt nt ct, .slice pr nr cr, .slice pv nv cv], .blk (w.heap.size + 1) 57 #[.slice none 0 0, .slice none 0 0, .slice none 0 0, .slice none 0 0], .blk w.heap.size 24 #[.slice po no co, .slice pt nt ct, .slice pr nr cr, .slice pv nv cv]]) (fun _ i _ => m - (intOf i).toNat)
    case atStart => exact ⟨0, Nat.zero_le _, rfl, rfl, S1.out⟩
    case round =>
      clear S0 S1 v0 v1 v2 v3 vz z0 z1 z2 z3 zz zf0 zf1 zf2 zf3
      obtain ⟨k, hk, rfl, ha, S⟩ := hrel
      have vz := (S.blk 0 rfl).lt; have v0 := (S.blk 0 rfl).cell 0; have v1 := (S.blk 0 rfl).cell 1; have v2 := (S.blk 0 rfl).cell 2; have v3 := (S.blk 0 rfl).cell 3
      have zz := (S.blk 1 rfl).lt; have z0 := (S.blk 1 rfl).cell 0; have z1 := (S.blk 1 rfl).cell 1; have z2 := (S.blk 1 rfl).cell 2; have z3 := (S.blk 1 rfl).cell 3
      have zf0 := (S.blk 1 rfl).frozen 0
      have zf1 := (S.blk 1 rfl).frozen 1
      have zf2 := (S.blk 1 rfl).frozen 2
      have zf3 := (S.blk 1 rfl).frozen 3
      by_cases hlt : k < m
      · have g1 := S.ext.cell (HL.out.cI hlt)
        have d1 : (0:Int) ≤ k := by omega
        have d2 : (k:Int) < m := by omega
        have hkL : k < l.length := by rw [← L1.out]; exact hlt
        obtain ⟨x, hx⟩ : ∃ x, x = nth l k := ⟨_, rfl⟩
        rw [← hx] at g1
        have HX := Lib.hid hx
        clear hx
        by_cases h1 : x < 0
        · have e1 : decide (x < 0) = true := by simpa using h1
          have HF : Hid (openC true O l = 1) := by
            unfold Hid openC
            rw [if_pos rfl, if_neg]
            rw [all_false_at _ l k hkL (by rw [← HX.out]; simp; omega)]; simp
          clear h1
          have SH := Lib.hid S; clear S
          go_wp2
          have S7 := (((SH.out.set 1 rfl 0 (.slice po no co)).set 1 rfl 1 (.slice pt nt ct)).set 1 rfl 2 (.slice pr nr cr)).set 1 rfl 3 (.slice pv nv cv)
          have b0 := (S7.blk 1 rfl).cell 0
          have b1 := (S7.blk 1 rfl).cell 1
          have b2 := (S7.blk 1 rfl).cell 2
          have b3 := (S7.blk 1 rfl).cell 3
          refine bodyPost_ret (v := .tuple #[.agg #[.slice po no co, .slice pt nt ct, .slice pr nr cr, .slice pv nv cv], .int .i64 1]) (by simp [results, Tryz.results28, go_sem, b0, b1, b2, b3, Tryz.sizeOf57, Tryz.isAgg57]) rfl ⟨(by rw [HF.out]), S7.ext⟩
        · have e1 : decide (x < 0) = false := by simpa using h1
          by_cases h2 : (no:Int) - 1 ≤ x
          · have e2 : decide ((no:Int) - 1 ≤ x) = true := by simpa using h2
            have HF : Hid (openC true O l = 1) := by
              unfold Hid openC
              rw [if_pos rfl, if_neg]
              have := LO.out
              rw [all_false_at _ l k hkL (by rw [← HX.out]; simp; omega)]; simp
            clear h1 h2
            have SH := Lib.hid S; clear S
            go_wp2_with (go_at_call 30; go_must (refine (HSZ.out _).mono ?_; rintro e w2 ⟨rfl, hb⟩; have S2 := Lib.hid (SH.out.call hb); have tz := (S2.out.blk 0 rfl).lt; have t0 := (S2.out.blk 0 rfl).cell 0; have t1 := (S2.out.blk 0 rfl).cell 1; have t2 := (S2.out.blk 0 rfl).cell 2; have t3 := (S2.out.blk 0 rfl).cell 3; have yz := (S2.out.blk 1 rfl).lt; have y0 := (S2.out.blk 1 rfl).cell 0; have y1 := (S2.out.blk 1 rfl).cell 1; have y2 := (S2.out.blk 1 rfl).cell 2; have y3 := (S2.out.blk 1 rfl).cell 3; have yf0 := (S2.out.blk 1 rfl).frozen 0; have yf1 := (S2.out.blk 1 rfl).frozen 1; have yf2 := (S2.out.blk 1 rfl).frozen 2; have yf3 := (S2.out.blk 1 rfl).frozen 3; clear hb))
            have S7 := (((S2.out.set 1 rfl 0 (.slice po no co)).set 1 rfl 1 (.slice pt nt ct)).set 1 rfl 2 (.slice pr nr cr)).set 1 rfl 3 (.slice pv nv cv)
            have b0 := (S7.blk 1 rfl).cell 0
            have b1 := (S7.blk 1 rfl).cell 1
            have b2 := (S7.blk 1 rfl).cell 2
            have b3 := (S7.blk 1 rfl).cell 3
            refine bodyPost_ret (v := .tuple #[.agg #[.slice po no co, .slice pt nt ct, .slice pr nr cr, .slice pv nv cv], .int .i64 1]) (by simp [results, Tryz.results28, go_sem, b0, b1, b2, b3, Tryz.sizeOf57, Tryz.isAgg57]) rfl ⟨(by rw [HF.out]), S7.ext⟩
          · have e2 : decide ((no:Int) - 1 ≤ x) = false := by simpa using h2
            have HS : Hid ((l.take (k + 1)).all (fun x => decide (0 ≤ x) && decide (x < (O.length : Int) - 1)) = true) := by
              have := LO.out
              exact all_step _ l k hkL ha.out (by rw [← HX.out]; simp; omega)
            clear h1 h2 ha
            have SH := Lib.hid S; clear S
            go_wp2_with (go_at_call 30; go_must (refine (HSZ.out _).mono ?_; rintro e w2 ⟨rfl, hb⟩; have S2 := Lib.hid (SH.out.call hb); clear hb))
            go_roundw
            case rel => exact ⟨k + 1, by omega, by go_num, HS.out, S2.out⟩
            case measure => simp [intOf]; omega
      · have HF : Hid (openC true O l = 0) := by
          unfold Hid openC
          rw [if_pos rfl, if_pos (all_end _ l k (by rw [← L1.out]; exact hlt) ha.out)]
        clear ha
        have SH := Lib.hid S; clear S
        go_wp2
        have S7 := (((SH.out.set 1 rfl 0 (.slice po no co)).set 1 rfl 1 (.slice pt nt ct)).set 1 rfl 2 (.slice pr nr cr)).set 1 rfl 3 (.slice pv nv cv)
        have b0 := (S7.blk 1 rfl).cell 0
        have b1 := (S7.blk 1 rfl).cell 1
        have b2 := (S7.blk 1 rfl).cell 2
        have b3 := (S7.blk 1 rfl).cell 3
        refine bodyPost_ret (v := .tuple #[.agg #[.slice po no co, .slice pt nt ct, .slice pr nr cr, .slice pv nv cv], .int .i64 0]) (by simp [results, Tryz.results28, go_sem, b0, b1, b2, b3, Tryz.sizeOf57, Tryz.isAgg57]) rfl ⟨(by rw [HF.out]), S7.ext⟩
end Go.Proofs.YtblghmfhchlllaaGreat
/- A range over a function whose yields point to memory: what is yielded is told with a relation of the value and the world. -/
namespace Go.Proofs.YtblghmfhchlllaaGreat
open Go Go.RowKit
/-- what speaks of no more than what lies below B -/
def FarFrom {β : Type} (B : Nat) (I : β → World → Prop) : Prop :=
  ∀ s Z W W', B ≤ Z.heap.size → Below B Z W → Below B Z W' → I s W → I s W'
theorem FarFrom.below {β : Type} {B : Nat} {I : β → World → Prop} (h : FarFrom B I) {s : β} {W W' : World} (hB : B ≤ W.heap.size) (hb : Below B W W') (hs : I s W) : I s W' := h s W W W' hB (Below.refl _ _) hb hs
theorem FarFrom.putObj {β : Type} {B : Nat} {I : β → World → Prop} (h : FarFrom B I) {s : β} {W : World} {l : Nat} {o : Obj} (o' : Obj) (hs : I s W) (hB : B ≤ l) (hl : W.heap[l]? = some o) : I s (W.putObj l o') :=
  h.below (by have := (Array.getElem?_eq_some_iff.1 hl).1; omega) ((Below.refl B W).grown (grownBy_putObj' W l o') (by have := (Array.getElem?_eq_some_iff.1 hl).1; omega) (fun k e => by cases e; exact hB)) hs
/-- an iterator's contract: each yield comes with A of the value and the world; the iterator may write what it has made -/
def SeqA {α : Type} (F : Fence) (n : Nat) (P : Program) (g : Nat) (lb : Array Value) (encs : α → Array Value) (A : α → World → Prop) (Kp : World → World → Prop) (S Sp : List α → Prop) (N : Nat) (w : World) : Prop :=
  ∀ (l : Nat) (J Jx : List α → World → Prop) (W : World), Below w.heap.size w W → FarFrom W.heap.size J → FarFrom W.heap.size Jx →
    (∀ pre x V, J pre V → A x V → pre.length < N → YieldAt F (n - 1) P l (encs x) V fun e V' =>
      (e = .returned (.bool true) ∧ J (pre ++ [x]) V' ∧ Kp V V') ∨ (e = .returned (.bool false) ∧ Jx (pre ++ [x]) V')) →
    J [] W → CallsIn F n P g (#[.func (.yield l) #[] #[]] ++ lb) W fun e V => (∃ v, e = .returned v) ∧ ((∃ xs, S xs ∧ J xs V) ∨ (∃ pre, Sp pre ∧ Jx pre V))
section
variable {F : Fence} {n : Nat} {P : Program} {w : World}
theorem wpIn_rangeFunc_told {α : Type} {g : Operand} {ps : Array Tmp} {assign body : Code} {Q : Exit → Act → World → Prop} {a : Act}
    (hro : F.round = none) (h1 : 1 ≤ n) {gf : Nat} {lb : Array Value} (hg : a.eval g = .func (.func gf) #[] lb) (hF : F.fn gf) (eg : ∀ args w, (callFunc gf args).run P w = .ok (.enter gf args) w)
    {encs : α → Array Value} {A : α → World → Prop} {Kp : World → World → Prop} {S Sp : List α → Prop} {N : Nat} {w0 : World} (hseq : SeqA F (n - 1) P gf lb encs A Kp S Sp N w0)
    (hKt : ∀ {X Y Z : World}, Kp X Y → Kp Y Z → Kp X Z) (hKb : ∀ (W : World) (l : Nat) (o o' : Obj), w.heap.size ≤ l → W.heap[l]? = some o → o.isCells = false → o.isWalk = false → Kp W (W.putObj l o')) (hb0 : Below w0.heap.size w0 w) (hps : ∀ x, (encs x).size = ps.size)
    (I : List α → World → Prop) (Ix : Code → List α → World → Prop) (hI : FarFrom w.heap.size I) (hIx : ∀ c, FarFrom w.heap.size (Ix c)) (hA : OwnFrom w.heap.size A) (h0 : I [] w) (a₁ : α → Act)
    (hassign : ∀ (l : Nat) (x : α) (W : World) (K : Act → World → Prop), K (a₁ x) W →
      assign.wpIn (F.inRound l) (n - 1 - 1) P (Exit.then K (fun _ _ _ => False)) { tmps := (ps.zip (encs x)).foldl (fun t (p, v) => t.setIfInBounds p v) a.tmps, defers := [] } W)
    (hbody : ∀ (l : Nat) (pre : List α) (x : α) (W : World), I pre W → A x W → pre.length < N → body.wpIn (F.inRound l) (n - 1 - 1) P (ownPostG w.heap.size Kp I Ix (pre ++ [x]) W) (a₁ x) W)
    (hdone : ∀ (D : Nat) (xs : List α) (W : World), w.heap.size ≤ D → S xs → I xs W → W.heap[D]? = some (.deferred (some [])) → Q .normal { a with defers := { target := .collected D, args := #[] } :: a.defers } W)
    (hstop : ∀ (D : Nat) (c : Code) (pre : List α) (W : World), w.heap.size ≤ D → Sp pre → Ix c pre W → W.heap[D]? = some (.deferred (some [])) → c.wpIn F n P Q { a with defers := { target := .collected D, args := #[] } :: a.defers } W) :
    (Code.rangeFunc g ps assign body).wpIn F n P Q a w := by
  refine wpIn_rangeFunc fun fn hfn => ?_
  rw [hro]
  have hB : w.heap.size ≤ w.heap.size + 1 := Nat.le_succ _
  obtain ⟨mk, hmk⟩ : ∃ mk : LoopState → Option Code → Loop, mk = fun st pe => { state := st, pending := pe, fn, tmps := a.tmps, params := ps, assign, body, defers := w.heap.size } := ⟨_, rfl⟩
  obtain ⟨V, hV⟩ : ∃ V, (w.alloc (.deferred (some []))).alloc (.loop (mk .ready none)) = V := ⟨_, rfl⟩
  have hVl : V.heap[w.heap.size + 1]? = some (.loop (mk .ready none)) := by
    have h := World.alloc_heap_new (w.alloc (.deferred (some []))) (.loop (mk .ready none))
    rw [World.size_alloc] at h
    rw [← hV]; exact h
  have hVd : V.heap[w.heap.size]? = some (.deferred (some [])) := by
    rw [← hV]; exact (Below.heap_alloc _ _ _ (by simp)).trans (World.alloc_heap_new w _)
  have hVb : Below w0.heap.size w0 V := by
    rw [← hV]; exact hb0.trans ((((Below.refl _ w).alloc (Nat.le_refl _) _).alloc (by simp) _).mono hb0.size)
  have hVs : w.heap.size ≤ V.heap.size := by have := (Array.getElem?_eq_some_iff.1 hVd).1; omega
  have hV0 : I [] V := by rw [← hV]; exact hI.below (Nat.le_refl _) (((Below.refl _ w).alloc (Nat.le_refl _) _).alloc (by simp) _) h0
  have lV : w.heap.size + 1 < V.heap.size := (Array.getElem?_eq_some_iff.1 hVl).1
  -- the two blocks of book-keeping lie below what the iterator makes
  have keep : ∀ {Z X Y : World} {k : Nat} {o : Obj}, Below V.heap.size Z X → Below V.heap.size Z Y → k < V.heap.size → X.heap[k]? = some o → Y.heap[k]? = some o := fun {Z X Y k o} h1 h2 hk hX => (h2.block k hk).trans ((h1.block k hk).symm.trans hX)
  refine ⟨w.heap.size + 1, [{ target := .collected w.heap.size, args := #[] }], V, { target := .fn (.func gf) lb, args := #[.func (.yield (w.heap.size + 1)) #[] #[]] }, V, gf, #[.func (.yield (w.heap.size + 1)) #[] #[]] ++ lb, V, ?_, ?_, ?_, ?_, fun _ => h1, ?_⟩
  · rw [← hV, hmk]; exact run_enterLoop_outer _ _ _ _ _
  · simp only [resolve, hg]; simp [go_sem]
  · intro f' hf'; simp [Target.leads] at hf'; subst hf'; exact hF
  · simp [invoke, go_sem, eg]
  refine (hseq (w.heap.size + 1)
    (fun pre W => I pre W ∧ W.heap[w.heap.size + 1]? = some (.loop (mk .ready none)) ∧ W.heap[w.heap.size]? = some (.deferred (some [])))
    (fun pre W => ∃ c, Ix c pre W ∧ W.heap[w.heap.size + 1]? = some (.loop (mk .done (some c))) ∧ W.heap[w.heap.size]? = some (.deferred (some []))) V hVb
    (fun s Z X Y hZ hx hy h => ⟨hI s Z X Y (Nat.le_trans hVs hZ) (hx.mono hVs) (hy.mono hVs) h.1, keep hx hy lV h.2.1, keep hx hy (by omega) h.2.2⟩)
    (fun s Z X Y hZ hx hy h => h.elim fun c h => ⟨c, hIx c s Z X Y (Nat.le_trans hVs hZ) (hx.mono hVs) (hy.mono hVs) h.1, keep hx hy lV h.2.1, keep hx hy (by omega) h.2.2⟩)
    ?_ ⟨hV0, hVl, hVd⟩).mono ?_
  · rintro pre x W ⟨hi, hl, hk⟩ hax hlen
    have hlt : w.heap.size + 1 < W.heap.size := (Array.getElem?_eq_some_iff.1 hl).1
    have hy := run_yield (P := P) (args := encs x) hl (by rw [hmk]; exact hps x)
    rw [hmk] at hy
    refine ⟨fn, _, assign, body, hy, roundIn_of_wpIn hfn (hassign _ x W _ ⟨_, run_beginRound hl (by rw [hmk]), ?_⟩)⟩
    have l2 : (W.putObj (w.heap.size + 1) (.loop { mk .ready none with state := .busy })).heap[w.heap.size + 1]? = some (.loop { mk .ready none with state := .busy }) := World.putObj_heap_same hlt
    have k2 : (W.putObj (w.heap.size + 1) (.loop { mk .ready none with state := .busy })).heap[w.heap.size]? = some (.deferred (some [])) := (World.putObj_heap_other (by omega)).trans hk
    have p2 : Kp W (W.putObj (w.heap.size + 1) (.loop { mk .ready none with state := .busy })) := hKb _ _ _ _ hB hl rfl rfl
    refine wpIn_mono (hbody _ pre x _ (hI.putObj _ hi hB hl) (hA.putObj _ hax hB hl rfl) hlen) ?_
    have fin : ∀ (jump : Option Code) (X : World), KeepsFrom w.heap.size (W.putObj (w.heap.size + 1) (.loop { mk .ready none with state := .busy })) X →
        (Instr.endRound (w.heap.size + 1) jump).run P X = .ok (.bool jump.isNone) (X.putObj (w.heap.size + 1) (.loop (mk (if jump.isNone then .ready else .done) jump))) ∧
        X.heap[w.heap.size + 1]? = some (.loop { mk .ready none with state := .busy }) ∧
        (X.putObj (w.heap.size + 1) (.loop (mk (if jump.isNone then .ready else .done) jump))).heap[w.heap.size + 1]? = some (.loop (mk (if jump.isNone then .ready else .done) jump)) ∧
        (X.putObj (w.heap.size + 1) (.loop (mk (if jump.isNone then .ready else .done) jump))).heap[w.heap.size]? = some (.deferred (some [])) := fun jump X hX => by
      have l3 := hX.same _ _ hB l2 rfl
      have hr := run_endRound (P := P) jump l3
      rw [hmk] at hr l3 ⊢
      exact ⟨hr, l3, World.putObj_heap_same (Array.getElem?_eq_some_iff.1 l3).1, (World.putObj_heap_other (by omega)).trans (hX.same _ _ (Nat.le_refl _) k2 rfl)⟩
    rintro e a3 X hp
    cases e with
    | normal =>
      obtain ⟨hX, hkp, hi3⟩ := hp
      obtain ⟨r1, r2, r3, r4⟩ := fin none X hX
      exact ⟨_, _, r1, .inl ⟨rfl, ⟨hI.putObj _ hi3 hB r2, r3, r4⟩, hKt (hKt p2 hkp) (hKb _ _ _ _ hB r2 rfl rfl)⟩⟩
    | ret =>
      obtain ⟨r1, r2, r3, r4⟩ := fin (some .ret) X hp.1
      exact ⟨_, _, r1, .inr ⟨rfl, .ret, (hIx _).putObj _ hp.2 hB r2, r3, r4⟩⟩
    | exit id =>
      obtain ⟨r1, r2, r3, r4⟩ := fin (some (.exit id)) X hp.1
      exact ⟨_, _, r1, .inr ⟨rfl, .exit id, (hIx _).putObj _ hp.2 hB r2, r3, r4⟩⟩
    | goto t =>
      obtain ⟨r1, r2, r3, r4⟩ := fin (some (.goto t)) X hp.1
      exact ⟨_, _, r1, .inr ⟨rfl, .goto t, (hIx _).putObj _ hp.2 hB r2, r3, r4⟩⟩
    | panic ch => exact hp.elim
    | outgrown => exact hp.elim
  · rintro e X ⟨⟨v, rfl⟩, (⟨xs, hS, hi, hl, hk⟩ | ⟨pre, hSp, c, hi, hl, hk⟩)⟩
    · have hr := run_endLoop (P := P) hl (by rw [hmk]; simp)
      rw [hmk] at hr
      exact ⟨none, _, hr, hdone _ xs _ (Nat.le_refl _) hS (hI.putObj _ hi hB hl) ((World.putObj_heap_other (by omega)).trans hk)⟩
    · have hr := run_endLoop (P := P) hl (by rw [hmk]; simp)
      rw [hmk] at hr
      exact ⟨some c, _, hr, hstop _ c pre _ (Nat.le_refl _) hSp ((hIx c).putObj _ hi hB hl) ((World.putObj_heap_other (by omega)).trans hk)⟩
end
/-- a world up to a block -/
def cutW (B : Nat) (w : World) : World := { w with heap := w.heap.extract 0 B }
theorem cutW_size {B : Nat} {w : World} (h : B ≤ w.heap.size) : (cutW B w).heap.size = B := by simp [cutW]; omega
theorem cutW_below {B : Nat} {w : World} (h : B ≤ w.heap.size) : Below B (cutW B w) w :=
  ⟨rfl, rfl, rfl, by rw [cutW_size h]; exact h, fun k hk => by
    show w.heap[k]? = (w.heap.extract 0 B)[k]?
    rw [Array.getElem?_extract]
    simp
    intro h2; omega⟩
/-- pieces that lie at B and behind, seen from the world up to B -/
theorem Sep.rebase {w0 w w' : World} {Γ : List Pc} {B : Nat} (S : Sep w0 w Γ) (h0 : w0.heap.size = B) (hB : B ≤ w'.heap.size) (hsame : ∀ p ∈ Γ, ∀ k, p.foot k → w'.heap[k]? = w.heap[k]?) : Sep (cutW B w') w' Γ :=
  ⟨by rw [Ext, cutW_size hB]; exact cutW_below hB, fun p hp => p.loc w w' (S.all p hp) (hsame p hp), fun p hp k hk => by rw [cutW_size hB, ← h0]; exact S.new p hp k hk, S.apart⟩
/-- pieces that lie below B speak of no more -/
theorem Sep.far {w0 w w' Z : World} {Γ : List Pc} {B : Nat} (S : Sep w0 w Γ) (h0 : w0.heap.size ≤ B) (hZ : B ≤ Z.heap.size) (h1 : Below B Z w) (h2 : Below B Z w') (hf : ∀ p ∈ Γ, ∀ k, p.foot k → k < B) : Sep w0 w' Γ :=
  ⟨⟨h2.os.trans (h1.os.symm.trans S.ext.os), h2.tape.trans (h1.tape.symm.trans S.ext.tape), h2.output.trans (h1.output.symm.trans S.ext.output), by have := h2.size; omega, fun k hk => (h2.block k (by omega)).trans ((h1.block k (by omega)).symm.trans (S.ext.block k hk))⟩,
    fun p hp => p.loc w w' (S.all p hp) fun k hk => (h2.block k (hf p hp k hk)).trans (h1.block k (hf p hp k hk)).symm, S.new, S.apart⟩
end Go.Proofs.YtblghmfhchlllaaGreat
/- Equal rows, equal edges, rows too big, a row that rises and has a number. -/
namespace Go.Proofs.YtblghmfhchlllaaGreat
open Go Go.RowKit Go.Shelf Go.Lib
attribute [local go_sem ↓] eqEdge neqEdge guardEdge
theorem IntsY (p q : Option Addr) (n m c d : Nat) (A : List Int) (w : World) (h1 : Rd w 1 p n (encI A)) (h2 : Rd w 1 q m (encI A)) : Calls Tryz.prog 20 #[.slice p n c, .slice q m d] w fun e w' => e = .returned (.bool true) ∧ Ext w w' :=
  (Ints01 p q n m c d A A w h1 h2).mono fun e w' ⟨h3, h4⟩ => ⟨by rw [h3]; simp, h4⟩
set_option maxRecDepth 100000 in
set_option maxHeartbeats 2000000 in
theorem Same04T (po : Option Addr) (no co : Nat) (O : List Int) (pt : Option Addr) (nt ct : Nat) (T : List Int) (pr : Option Addr) (nr cr : Nat) (R : List Int) (pv : Option Addr) (nv cv : Nat) (V : List Int) (po' : Option Addr) (no' co' : Nat) (pt' : Option Addr) (nt' ct' : Nat) (pr' : Option Addr) (nr' cr' : Nat) (pv' : Option Addr) (nv' cv' : Nat) (w : World) (hO : Rd w 1 po no (encI O)) (hT : Rd w 1 pt nt (encI T)) (hR : Rd w 1 pr nr (encI R)) (hV : Rd w 1 pv nv (encI V))
    (hO' : Rd w 1 po' no' (encI O)) (hT' : Rd w 1 pt' nt' (encI T)) (hR' : Rd w 1 pr' nr' (encI R)) (hV' : Rd w 1 pv' nv' (encI V)) :
    Calls Tryz.prog 21 #[.agg #[.slice po no co, .slice pt nt ct, .slice pr nr cr, .slice pv nv cv], .agg #[.slice po' no' co', .slice pt' nt' ct', .slice pr' nr' cr', .slice pv' nv' cv']] w fun e w' => e = .returned (.bool true) ∧ Ext w w' := by
  have H1 := Lib.hid (fun W1 (h : Ext w W1) => IntsY po po' no no' co co' O W1 (hO.ext h) (hO'.ext h))
  have H2 := Lib.hid (fun W1 (h : Ext w W1) => IntsY pt pt' nt nt' ct ct' T W1 (hT.ext h) (hT'.ext h))
  have H3 := Lib.hid (fun W1 (h : Ext w W1) => IntsY pr pr' nr nr' cr cr' R W1 (hR.ext h) (hR'.ext h))
  have H4 := Lib.hid (fun W1 (h : Ext w W1) => IntsY pv pv' nv nv' cv cv' V W1 (hV.ext h) (hV'.ext h))
  have S0 := Lib.hid (((Sep.start w).al #[.slice po no co, .slice pt nt ct, .slice pr nr cr, .slice pv nv cv] 24 w.heap.size rfl).al #[.slice po' no' co', .slice pt' nt' ct', .slice pr' nr' cr', .slice pv' nv' cv'] 24 (w.heap.size + 1) (by simp))
  clear hO hT hR hV hO' hT' hR' hV'
  go_enter Tryz.func21, Tryz.ntmps21
  go_wp2_with (first | (go_at_call 20; have _t := S3; go_must (refine (H4.out _ S3.out.ext).mono ?_; rintro e w4 ⟨rfl, hb⟩; have S4 := Lib.hid (S3.out.call hb); have w4a0 := (S4.out.blk 1 rfl).cell 0; have w4a1 := (S4.out.blk 1 rfl).cell 1; have w4a2 := (S4.out.blk 1 rfl).cell 2; have w4a3 := (S4.out.blk 1 rfl).cell 3; have w4az := (S4.out.blk 1 rfl).lt; have w4b0 := (S4.out.blk 0 rfl).cell 0; have w4b1 := (S4.out.blk 0 rfl).cell 1; have w4b2 := (S4.out.blk 0 rfl).cell 2; have w4b3 := (S4.out.blk 0 rfl).cell 3; have w4bz := (S4.out.blk 0 rfl).lt; clear hb)) | (go_at_call 20; have _t := S2; go_must (refine (H3.out _ S2.out.ext).mono ?_; rintro e w3 ⟨rfl, hb⟩; have S3 := Lib.hid (S2.out.call hb); have w3a0 := (S3.out.blk 1 rfl).cell 0; have w3a1 := (S3.out.blk 1 rfl).cell 1; have w3a2 := (S3.out.blk 1 rfl).cell 2; have w3a3 := (S3.out.blk 1 rfl).cell 3; have w3az := (S3.out.blk 1 rfl).lt; have w3b0 := (S3.out.blk 0 rfl).cell 0; have w3b1 := (S3.out.blk 0 rfl).cell 1; have w3b2 := (S3.out.blk 0 rfl).cell 2; have w3b3 := (S3.out.blk 0 rfl).cell 3; have w3bz := (S3.out.blk 0 rfl).lt; clear hb)) | (go_at_call 20; have _t := S1; go_must (refine (H2.out _ S1.out.ext).mono ?_; rintro e w2 ⟨rfl, hb⟩; have S2 := Lib.hid (S1.out.call hb); have w2a0 := (S2.out.blk 1 rfl).cell 0; have w2a1 := (S2.out.blk 1 rfl).cell 1; have w2a2 := (S2.out.blk 1 rfl).cell 2; have w2a3 := (S2.out.blk 1 rfl).cell 3; have w2az := (S2.out.blk 1 rfl).lt; have w2b0 := (S2.out.blk 0 rfl).cell 0; have w2b1 := (S2.out.blk 0 rfl).cell 1; have w2b2 := (S2.out.blk 0 rfl).cell 2; have w2b3 := (S2.out.blk 0 rfl).cell 3; have w2bz := (S2.out.blk 0 rfl).lt; clear hb)) | (go_at_call 20; have _t := S0; go_must (refine (H1.out _ S0.out.ext).mono ?_; rintro e w1 ⟨rfl, hb⟩; have S1 := Lib.hid (S0.out.call hb); have w1a0 := (S1.out.blk 1 rfl).cell 0; have w1a1 := (S1.out.blk 1 rfl).cell 1; have w1a2 := (S1.out.blk 1 rfl).cell 2; have w1a3 := (S1.out.blk 1 rfl).cell 3; have w1az := (S1.out.blk 1 rfl).lt; have w1b0 := (S1.out.blk 0 rfl).cell 0; have w1b1 := (S1.out.blk 0 rfl).cell 1; have w1b2 := (S1.out.blk 0 rfl).cell 2; have w1b3 := (S1.out.blk 0 rfl).cell 3; have w1bz := (S1.out.blk 0 rfl).lt; clear hb)))
  go_ret
  exact ⟨rfl, S4.out.ext⟩
/-- rows more than are looked at -/
def bigR (O T R V : List Int) : Bool := decide (30 < O.length) && decide (O.length ≤ 201) || decide (250 < O.length) || decide (250 < R.length) || decide (150 < T.length) && decide (T.length ≤ 2000) || decide (2100 < T.length) || decide (2100 < V.length)
set_option maxHeartbeats 2000000 in
theorem Big04 (po : Option Addr) (no co : Nat) (O : List Int) (pt : Option Addr) (nt ct : Nat) (T : List Int) (pr : Option Addr) (nr cr : Nat) (R : List Int) (pv : Option Addr) (nv cv : Nat) (V : List Int) (w : World) (hO : Rd w 1 po no (encI O)) (hT : Rd w 1 pt nt (encI T)) (hR : Rd w 1 pr nr (encI R)) (hV : Rd w 1 pv nv (encI V)) : Calls Tryz.prog 8 #[.agg #[.slice po no co, .slice pt nt ct, .slice pr nr cr, .slice pv nv cv]] w fun e w' => e = .returned (.bool (bigR O T R V)) ∧ Ext w w' := by
  have hd : bigR O T R V = (decide (30 < no) && decide (no ≤ 201) || decide (250 < no) || decide (250 < nr) || decide (150 < nt) && decide (nt ≤ 2000) || decide (2100 < nt) || decide (2100 < nv)) := by
    unfold bigR; rw [hO.nI, hT.nI, hR.nI, hV.nI]
  rw [hd]
  clear hd hO hT hR hV
  go_enter Tryz.func8, Tryz.ntmps8
  go_wp2
  all_goals (go_ret; refine ⟨ret_bool ?_, Ext.alloc (Below.refl _ _) _⟩; rw [Bool.eq_iff_iff]; simp only [Bool.or_eq_true, Bool.and_eq_true, decide_eq_true_eq, true_iff]; omega)
end Go.Proofs.YtblghmfhchlllaaGreat
/- A row that rises: has it a number? -/
namespace Go.Proofs.YtblghmfhchlllaaGreat
open Go Go.RowKit
theorem inB_take_succ (l : List Int) (x : Int) (k : Nat) (h : k < l.length) : inB (l.take (k + 1)) x = (inB (l.take k) x || (nth l k == x)) := by
  unfold inB
  rw [take_succ_nth l k h, List.any_append]; simp
end Go.Proofs.YtblghmfhchlllaaGreat
/- What chapter 8's laws say, in plain words. -/
namespace Go.Proofs.YtblghmfhchlllaaGreat
open Go Go.RowKit
section
variable {nx nb : Nat → List Int} {n s t : Nat} (h : Rev nx nb n) (hs : s < n) (ht : t < n)
include h hs ht in
theorem half_law : stepsN n (lev nx n s) (lev nb n t) ≤ n ∧ (0 ≤ lev nx n s t → lev nx n s t = 2 * (stepsN n (lev nx n s) (lev nb n t) : Int) ∨ lev nx n s t = 2 * (stepsN n (lev nx n s) (lev nb n t) : Int) - 1) := by
  have hl := lev_lt (nx := nx) hs ht
  by_cases h0 : 0 ≤ lev nx n s t
  · have h1 := steps_yes h hs ht h0 (n + 1) 0 (by omega) (by omega)
    unfold stepsN
    rw [h1]
    refine ⟨by omega, fun _ => by omega⟩
  · have h1 := steps_no h hs ht (by omega) (n + 1) 0 (by omega) (.inl rfl)
    unfold stepsN
    exact ⟨by omega, fun h => absurd h h0⟩
end
/-- the path, as numbers -/
def pathI (nx : Nat → List Int) (g : Nat → Int) (k u : Nat) : List Int := (pathL nx g k u).map fun x : Nat => (x : Int)
theorem pathI_len (nx : Nat → List Int) (g : Nat → Int) (k u : Nat) : (pathI nx g k u).length = k + 1 := by unfold pathI; rw [List.length_map, pathL_len]
theorem nth_map_nat (l : List Nat) (i : Nat) (h : i < l.length) : nth (l.map fun x : Nat => (x : Int)) i = ((nth l i : Nat) : Int) := by
  rw [nth_eq (by rw [List.length_map]; exact h), nth_eq h, List.getElem_map]
theorem pathI_nth (nx : Nat → List Int) (g : Nat → Int) (k u : Nat) {i : Nat} (h : i ≤ k) : nth (pathI nx g k u) i = ((nth (pathL nx g k u) i : Nat) : Int) := nth_map_nat _ i (by rw [pathL_len]; omega)
/-- what Path tells -/
def pathR (nx nb : Nat → List Int) (n s t : Nat) : List Int := if 0 ≤ lev nx n s t then pathI nx (lev nb n t) (lev nx n s t).toNat s else []
theorem rising_nodup {l : List Int} (h : l.Nodup) : (putAll ltI l).length = l.length := by
  have h1 := putAll_rises stoI l
  have h2 : (putAll ltI l).Nodup := List.Pairwise.imp (fun {a b} hab e => by subst e; have := stoI.irrefl a; rw [hab] at this; cases this) h1
  exact ((List.perm_ext_iff_of_nodup h2 h).2 fun x => putAll_mem stoI l x).length_eq
section
variable {nx nb : Nat → List Int} {n s t : Nat} (h : Rev nx nb n) (hin : InN nx n) (hs : s < n) (ht : t < n) (h0 : 0 ≤ lev nx n s t)
include h hs ht h0 in
theorem lev_nb : lev nb n t s = ((lev nx n s t).toNat : Nat) := by rw [← lev_rev h hs ht]; omega
include h hin hs ht h0
theorem path_law : pathR nx nb n s t = pathI nx (lev nb n t) (lev nx n s t).toNat s ∧ ((pathR nx nb n s t).length : Int) = lev nx n s t + 1 ∧ nth (pathR nx nb n s t) 0 = s ∧ nth (pathR nx nb n s t) (lev nx n s t).toNat = t ∧ (pathR nx nb n s t).Nodup := by
  have e : pathR nx nb n s t = pathI nx (lev nb n t) (lev nx n s t).toNat s := by unfold pathR; rw [if_pos h0]
  rw [e]
  refine ⟨rfl, by rw [pathI_len]; omega, ?_, ?_, ?_⟩
  · rw [pathI_nth _ _ _ _ (Nat.zero_le _), pathL_first]
  · rw [pathI_nth _ _ _ _ (Nat.le_refl _), pathL_last h ht hin hs (lev_nb h hs ht h0)]
  · unfold pathI
    exact List.Pairwise.map _ (fun a b hab e => hab (by exact_mod_cast e)) (pathL_nodup h ht hin hs (lev_nb h hs ht h0))
theorem path_at {i : Nat} (hi : i < (pathR nx nb n s t).length) : ∃ v : Nat, nth (pathR nx nb n s t) i = v ∧ v < n ∧ 0 ≤ lev nx n v t ∧ pathR nx nb n v t = (pathR nx nb n s t).drop i := by
  obtain ⟨e, hl, _, _, _⟩ := path_law h hin hs ht h0
  have hk : i ≤ (lev nx n s t).toNat := by omega
  rw [e]
  obtain ⟨g1, g2, g3⟩ := pathL_at h ht hin _ s hs (lev_nb h hs ht h0) i hk
  generalize hv : nth (pathL nx (lev nb n t) (lev nx n s t).toNat s) i = v at *
  refine ⟨v, by rw [pathI_nth _ _ _ _ hk, hv], g1, ?_, ?_⟩
  · rw [lev_rev h g1 ht, g2]; omega
  · have h1 : lev nx n v t = (((lev nx n s t).toNat - i : Nat) : Int) := by rw [lev_rev h g1 ht, g2]
    unfold pathR
    rw [if_pos (by rw [h1]; omega), h1]
    unfold pathI
    rw [Int.toNat_natCast, ← List.map_drop, g3]
theorem path_next {i : Nat} (hi : i + 1 < (pathR nx nb n s t).length) : nth (pathR nx nb n s t) (i + 1) ∈ nx (nth (pathR nx nb n s t) i).toNat ∧ 0 ≤ nth (pathR nx nb n s t) i ∧ nth (pathR nx nb n s t) i < n := by
  obtain ⟨e, hl, _, _, _⟩ := path_law h hin hs ht h0
  have hk : i < (lev nx n s t).toNat := by omega
  rw [e, pathI_nth _ _ _ _ (by omega), pathI_nth _ _ _ _ (by omega), Int.toNat_natCast]
  refine ⟨(pathL_next h ht hin hs (lev_nb h hs ht h0) hk).1, by omega, ?_⟩
  have := (pathL_at h ht hin _ s hs (lev_nb h hs ht h0) i (by omega)).1
  omega
/-- no lesser next place is as near -/
theorem less_law (hr : Rises ltI (nx s)) (h2 : 1 < (pathR nx nb n s t).length) {y : Int} (hy : y ∈ nx s) (hlt : y < nth (pathR nx nb n s t) 1) : 0 ≤ y ∧ y < n ∧ (0 ≤ lev nx n y.toNat t → ((pathR nx nb n s t).length : Int) - 1 ≤ lev nx n y.toNat t) := by
  obtain ⟨e, hl, _, _, _⟩ := path_law h hin hs ht h0
  obtain ⟨b1, b2⟩ := hin s hs y hy
  refine ⟨b1, b2, fun hy0 => ?_⟩
  obtain ⟨k, hk⟩ : ∃ k, (lev nx n s t).toNat = k + 1 := ⟨(lev nx n s t).toNat - 1, by omega⟩
  have hb := lev_nb h hs ht h0
  rw [hk] at hb
  obtain ⟨x, g1, g2, g3, g4, g5, g6⟩ := stepL_is h ht hin hs hb
  have hx : nth (pathR nx nb n s t) 1 = x := by
    rw [e, pathI_nth _ _ _ _ (by omega), hk, (pathL_next h ht hin hs hb (i := 0) (by omega)).2, pathL_first, g5]
    omega
  rw [hx] at hlt
  have h3 := find_less hr g1 hy hlt
  have h4 : lev nb n t y.toNat ≠ lev nb n t s - 1 := by simpa using h3
  have h5 := lev_rev h (s := y.toNat) (by omega) ht
  have h6 : 0 ≤ lev nx n s t ∧ lev nx n s t ≤ 1 + lev nx n y.toNat t := by
    have hw := lev_wk (s := y.toNat) (by omega) ht hy0
    have h7 : wk nx n s (1 + (lev nx n y.toNat t).toNat) t = true := by
      refine wk_trans (v := y.toNat) ?_ _ t ht hw
      exact wk_succ.2 ⟨s, hs, wk_zero.2 rfl, by rw [Int.toNat_of_nonneg b1]; exact hy⟩
    have := lev_le hs ht h7
    omega
  omega
end
/-- a row of places is a walk -/
def walkB (ck : Bool) (O T l : List Int) : Bool := decide (0 < l.length) && outB ck O (nth l 0) && (List.range (l.length - 1)).all fun i => hasB ck O T (nth l i) (nth l (i + 1))
theorem walk_path {O T R V : List Int} (hck : checkR O T R V = true) {s t : Nat} (hs : s < O.length - 1) (ht : t < O.length - 1) (h0 : 0 ≤ lev (rowL O T) (O.length - 1) s t) : walkB true O T (pathR (rowL O T) (rowL R V) (O.length - 1) s t) = true := by
  have hR : Rev (rowL O T) (rowL R V) (O.length - 1) := nxR_rev hck false
  have hin : InN (rowL O T) (O.length - 1) := nxR_in hck false
  obtain ⟨_, hl, h1, _, _⟩ := path_law hR hin hs ht h0
  have hN := fun i hi => path_next hR hin hs ht h0 (i := i) hi
  generalize pathR (rowL O T) (rowL R V) (O.length - 1) s t = P at *
  unfold walkB
  rw [Bool.and_eq_true, Bool.and_eq_true, List.all_eq_true]
  refine ⟨⟨by simp; omega, by unfold outB; rw [h1]; simp; omega⟩, fun i hi => ?_⟩
  rw [List.mem_range] at hi
  obtain ⟨g1, g2, g3⟩ := hN i (by omega)
  have hb : outB true O (nth P i) = true := by unfold outB; simp; omega
  unfold hasB
  rw [hb, outL_yes hb, Bool.true_and]
  exact (inB_iff _ _).2 g1
end Go.Proofs.YtblghmfhchlllaaGreat
/- What Path's two loops keep, in plain words. -/
namespace Go.Proofs.YtblghmfhchlllaaGreat
open Go Go.RowKit
section
variable {nx nb : Nat → List Int} {n s t : Nat} (h : Rev nx nb n) (hs : s < n) (ht : t < n)
include hs in
theorem cut_all {k : Nat} (hF : IsFront (lev nx n s) n ((k + 1 : Nat) : Int) []) : cutL (lev nx n s) n k = (List.range n).map fun v => lev nx n s v := by
  have hno : hasL n (lev nx n s) ((k + 1 : Nat) : Int) = false := by
    cases e : hasL n (lev nx n s) ((k + 1 : Nat) : Int) with
    | false => rfl
    | true => exact absurd ((front_has hF).1 e) (by simp)
  unfold cutL
  apply List.map_congr_left
  intro v hv
  rw [List.mem_range] at hv
  unfold cut
  rcases lev_cases (nx := nx) hs hv with ⟨h1, _⟩ | ⟨j, hj, h1, _⟩
  · rw [if_neg (by omega), h1]
  · by_cases hjk : j ≤ k
    · rw [if_pos (by omega)]
    · have := has_below hs (k := j) (j := k + 1) (by omega) (hasL_iff.2 ⟨v, hv, h1⟩)
      rw [hno] at this
      cases this
end
theorem levL_nth {f : Nat → Int} {n v : Nat} (hv : v < n) : nth ((List.range n).map fun v => f v) v = f v := by
  rw [nth_eq (by simpa using hv)]; simp
theorem find_at {p : Int → Bool} {l : List Int} {j : Nat} (hj : j < l.length) (h : (l.take j).find? p = none) (hp : p (nth l j) = true) : l.find? p = some (nth l j) := by
  have e : l = l.take j ++ (nth l j :: l.drop (j + 1)) := by
    rw [nth_eq hj, ← List.drop_eq_getElem_cons hj, List.take_append_drop]
  generalize nth l j = x at *
  rw [e, List.find?_append, h, List.find?_cons_of_pos hp]; rfl
theorem find_step {p : Int → Bool} {l : List Int} {j : Nat} (hj : j < l.length) (h : (l.take j).find? p = none) (hp : p (nth l j) = false) : (l.take (j + 1)).find? p = none := by
  rw [take_succ_nth l j hj, List.find?_append, h, List.find?_cons_of_neg (by simp [hp])]; rfl
section
variable {nx nb : Nat → List Int} {n s t : Nat} (h : Rev nx nb n) (hin : InN nx n) (hs : s < n) (ht : t < n)
include h hin hs ht
/-- a step of the walk -/
theorem walk_step {k : Nat} (hk : lev nb n t s = k) {i : Nat} (hi : i < k) : ∃ a : Nat, nth (pathI nx (lev nb n t) k s) i = a ∧ a < n ∧ lev nb n t a = ((k - i : Nat) : Int) ∧
    (∃ x, (nx a).find? (fun x => lev nb n t x.toNat == ((k - i : Nat) : Int) - 1) = some x) ∧
    ∀ x, (nx a).find? (fun x => lev nb n t x.toNat == ((k - i : Nat) : Int) - 1) = some x → nth (pathI nx (lev nb n t) k s) (i + 1) = x ∧ (pathI nx (lev nb n t) k s).take (i + 2) = (pathI nx (lev nb n t) k s).take (i + 1) ++ [x] := by
  obtain ⟨g1, g2, g3⟩ := pathL_at h ht hin k s hs hk i (by omega)
  have g4 := (pathL_next h ht hin hs hk hi).2
  have e1 := pathI_nth nx (lev nb n t) k s (i := i) (by omega)
  have e2 := pathI_nth nx (lev nb n t) k s (i := i + 1) (by omega)
  have e3 := take_succ_nth (pathI nx (lev nb n t) k s) (i + 1) (by rw [pathI_len]; omega)
  generalize nth (pathL nx (lev nb n t) k s) i = a at *
  obtain ⟨j, hj⟩ : ∃ j, k - i = j + 1 := ⟨k - i - 1, by omega⟩
  obtain ⟨y, q1, q2, q3, q4, q5, q6⟩ := stepL_is h ht hin g1 (by rw [g2, hj])
  rw [g2] at q1
  refine ⟨a, e1, g1, g2, ⟨y, q1⟩, fun x hx => ?_⟩
  rw [q1] at hx
  obtain rfl : y = x := by injection hx
  have e4 : nth (pathI nx (lev nb n t) k s) (i + 1) = y := by rw [e2, g4, q5]; omega
  exact ⟨e4, by rw [show i + 2 = i + 1 + 1 by omega, e3, e4]⟩
end
end Go.Proofs.YtblghmfhchlllaaGreat
/- The program's searches (chapter 8): a side that begins. -/
namespace Go.Proofs.YtblghmfhchlllaaGreat
open Go Go.RowKit
theorem Sep.alrow {w0 w : World} {Γ : List Pc} (S : Sep w0 w Γ) (cs : Array Value) (e : TypeId) (size n g : Nat) (hg : w.heap.size = g) (hm : n ≤ maxLen) (hs : cs.size = n * size) : Sep w0 (w.alloc (.cells cs e)) (.own e size (some ⟨g, 0, none⟩) n n cs.toList :: Γ) := by
  subst hg
  exact S.fresh (Ext.alloc (Below.refl _ _) _) (World.ownsRow_lit w cs n (Nat.le_refl _) hm hs) (Nat.le_refl _)
end Go.Proofs.YtblghmfhchlllaaGreat
/- The program's levels (chapter 7): fronts, the iterator's making; what it keeps. -/
namespace Go.Proofs.YtblghmfhchlllaaGreat
open Go Go.RowKit
set_option maxRecDepth 100000 in
set_option maxHeartbeats 2000000 in
theorem frontsG (po : Option Addr) (no co : Nat) (pt : Option Addr) (nt ct : Nat) (pr : Option Addr) (nr cr : Nat) (pv : Option Addr) (nv cv : Nat) (s : Int) (back : Bool) (w : World) :
    Calls Tryz.prog 31 #[.agg #[.slice po no co, .slice pt nt ct, .slice pr nr cr, .slice pv nv cv], .int .i64 s, .bool back] w fun e w' => ∃ b1 b2 b3, e = .returned (.func (.func 47) #[] #[.pointer (some ⟨b1, 0, none⟩), .pointer (some ⟨b2, 0, none⟩), .pointer (some ⟨b3, 0, none⟩)]) ∧
      Sep w w' [.blk b3 66 #[nextV back (.agg #[.slice po no co, .slice pt nt ct, .slice pr nr cr, .slice pv nv cv])], .blk b2 3 #[.int .i64 s], .blk b1 57 #[.slice po no co, .slice pt nt ct, .slice pr nr cr, .slice pv nv cv]] := by
  have S0 := Lib.hid (((Sep.start w).al #[.slice po no co, .slice pt nt ct, .slice pr nr cr, .slice pv nv cv] 57 w.heap.size rfl).al #[.int .i64 s] 3 (w.heap.size + 1) (by simp))
  cases back with
  | false =>
    have HN : Hid (∀ W, Calls Tryz.prog 34 #[.agg #[.slice po no co, .slice pt nt ct, .slice pr nr cr, .slice pv nv cv], .bool false] W fun e w' => e = .returned (.func (.func 50) #[.agg #[.slice po no co, .slice pt nt ct, .slice pr nr cr, .slice pv nv cv]] #[]) ∧ Ext W w') := fun W => waysNext po no co pt nt ct pr nr cr pv nv cv false W
    go_enter Tryz.func31, Tryz.ntmps31
    go_wp2_with (go_at_call 34; go_must (refine (HN.out _).mono ?_; rintro e w1 ⟨rfl, hb⟩; have S1 := Lib.hid (S0.out.call hb); clear hb))
    go_ret
    exact ⟨_, _, _, rfl, S1.out.al #[.func (.func 50) #[.agg #[.slice po no co, .slice pt nt ct, .slice pr nr cr, .slice pv nv cv]] #[]] 66 w1.heap.size rfl⟩
  | true =>
    have HN : Hid (∀ W, Calls Tryz.prog 34 #[.agg #[.slice po no co, .slice pt nt ct, .slice pr nr cr, .slice pv nv cv], .bool true] W fun e w' => e = .returned (.func (.func 49) #[.agg #[.slice po no co, .slice pt nt ct, .slice pr nr cr, .slice pv nv cv]] #[]) ∧ Ext W w') := fun W => waysNext po no co pt nt ct pr nr cr pv nv cv true W
    go_enter Tryz.func31, Tryz.ntmps31
    go_wp2_with (go_at_call 34; go_must (refine (HN.out _).mono ?_; rintro e w1 ⟨rfl, hb⟩; have S1 := Lib.hid (S0.out.call hb); clear hb))
    go_ret
    exact ⟨_, _, _, rfl, S1.out.al #[.func (.func 49) #[.agg #[.slice po no co, .slice pt nt ct, .slice pr nr cr, .slice pv nv cv]] #[]] 66 w1.heap.size rfl⟩
/-- what a round keeps: what lay below n₀, the iterator's boxes, and each row of cells from B on -/
structure KpF (n₀ B b1 b2 b3 : Nat) (W W' : World) : Prop where
  low : Below n₀ W W'
  x1 : W'.heap[b1]? = W.heap[b1]?
  x2 : W'.heap[b2]? = W.heap[b2]?
  x3 : W'.heap[b3]? = W.heap[b3]?
  up : ∀ (k : Nat) (o : Obj), B ≤ k → W.heap[k]? = some o → o.isCells = true → W'.heap[k]? = some o
theorem KpF.trans {n₀ B b1 b2 b3 : Nat} {X Y Z : World} (h : KpF n₀ B b1 b2 b3 X Y) (k : KpF n₀ B b1 b2 b3 Y Z) : KpF n₀ B b1 b2 b3 X Z :=
  ⟨h.low.trans k.low, k.x1.trans h.x1, k.x2.trans h.x2, k.x3.trans h.x3, fun i o hB h1 h2 => k.up i o hB (h.up i o hB h1 h2) h2⟩
/-- what is yielded -/
structure Yl where
  k : Nat
  F : List Int
  q : Option Addr
  c : Nat
abbrev YlOf (nx : Nat → List Int) (n s : Nat) := { x : Yl // IsFront (lev nx n s) n x.k x.F ∧ 0 < x.F.length }
def ylA {nx : Nat → List Int} {n s : Nat} (B : Nat) (x : YlOf nx n s) (W : World) : Prop := Rd W 1 x.1.q x.1.F.length (encI x.1.F) ∧ B ≤ (adr x.1.q 0).block
def ylE {nx : Nat → List Int} {n s : Nat} (x : YlOf nx n s) : Array Value := #[.int .i64 x.1.k, .slice x.1.q x.1.F.length x.1.c]
def ylS {nx : Nat → List Int} {n s : Nat} (xs : List (YlOf nx n s)) : Prop := xs.map (·.1.k) = List.range xs.length ∧ hasL n (lev nx n s) xs.length = false
/-- which places are seen -/
def seenL (X l : List Int) (n : Nat) : List Value := (List.range n).map fun v => .bool (decide (0 ≤ nth X v) || decide ((v : Int) ∈ l))
theorem seenL_len (X l : List Int) (n : Nat) : (seenL X l n).length = n := by simp [seenL]
theorem seenL_at {X l : List Int} {n v : Nat} (h : v < n) : (seenL X l n)[v]? = some (.bool (decide (0 ≤ nth X v) || decide ((v : Int) ∈ l))) := by
  simp [seenL, h]
theorem seenL_set {X l : List Int} {n v : Nat} (_ : v < n) : (seenL X l n).set v (.bool true) = seenL X (l ++ [(v : Int)]) n := by
  apply List.ext_getElem
  · simp [seenL]
  · intro j h1 h2
    have hj : j < n := by simpa [seenL] using h2
    simp only [seenL, List.getElem_set, List.getElem_map, List.getElem_range]
    by_cases e : v = j
    · subst e; simp
    · rw [if_neg e]
      have : ((j : Int) ∈ l ++ [(v : Int)]) ↔ (j : Int) ∈ l := by
        rw [List.mem_append, List.mem_singleton]
        constructor
        · rintro (h | h)
          · exact h
          · omega
        · exact .inl
      simp only [this]
theorem seenL_next {nx : Nat → List Int} {n s k : Nat} {L : List Int} (hL : IsFront (lev nx n s) n ((k + 1 : Nat) : Int) L) : seenL (cutL (lev nx n s) n k) L n = seenL (cutL (lev nx n s) n (k + 1 : Nat)) [] n := by
  unfold seenL
  apply List.map_congr_left
  intro v hv
  rw [List.mem_range] at hv
  rw [cutL_nth hv, cutL_nth hv]
  congr 1
  rw [Bool.eq_iff_iff]
  simp only [Bool.or_eq_true, decide_eq_true_eq, cut_ge, List.not_mem_nil, or_false]
  rw [hL.2]
  simp
  omega
theorem seenL_0 {nx : Nat → List Int} {n s : Nat} (hs : s < n) : (List.replicate n (Value.bool false)).set s (.bool true) = seenL (cutL (lev nx n s) n (0 : Nat)) [] n := by
  apply List.ext_getElem
  · simp [seenL]
  · intro j h1 h2
    have hj : j < n := by simpa [seenL] using h2
    simp only [seenL, List.getElem_set, List.getElem_map, List.getElem_range, List.getElem_replicate]
    rw [cutL_nth hj]
    have h0 := (lev_ok nx n s hs).zero j hj
    by_cases e : s = j
    · rw [if_pos e]
      have : 0 ≤ cut (lev nx n s) ((0 : Nat) : Int) j := cut_ge.2 (by have := h0.2 e.symm; omega)
      simpa using this
    · rw [if_neg e]
      have : ¬ 0 ≤ cut (lev nx n s) ((0 : Nat) : Int) j := fun h => by
        have h1 := cut_ge.1 h
        exact e (h0.1 (by omega)).symm
      simpa using this
end Go.Proofs.YtblghmfhchlllaaGreat
/- An own row is small. -/
namespace Go.Proofs.YtblghmfhchlllaaGreat
open Go Go.RowKit
theorem own_sm {w : World} {base : Nat} {e : TypeId} {size : Nat} {q : Option Addr} {n c : Nat} {xs : List Value} (h : w.ownsRow base e size (.slice q n c) n xs) : n ≤ 9223372036854775807 := by
  rcases h.2 with ⟨_, h2⟩ | ⟨g, cap, cur, h1, _, _, h3, h4, _⟩
  · omega
  · unfold maxLen at h4; omega
theorem Sep.rdx {w0 w : World} {Γ : List Pc} (S : Sep w0 w Γ) (i : Nat) {e : TypeId} {size : Nat} {q : Option Addr} {n c : Nat} {xs : List Value} (h : Γ[i]? = some (.own e size q n c xs)) : Rd w size q n xs := Rd.of_own (S.own i h) (own_sm (S.own i h))
end Go.Proofs.YtblghmfhchlllaaGreat
/- The program's levels (chapter 7): the iterator over fronts, its contract. -/
namespace Go.Proofs.YtblghmfhchlllaaGreat
open Go Go.RowKit
attribute [local go_sem] Oper.semAt_some
/-- what lay low stays, and the iterator's boxes -/
structure LowF (n₀ b1 b2 b3 : Nat) (w W : World) : Prop where
  low : Below n₀ w W
  x1 : W.heap[b1]? = w.heap[b1]?
  x2 : W.heap[b2]? = w.heap[b2]?
  x3 : W.heap[b3]? = w.heap[b3]?
theorem LowF.far {n₀ b1 b2 b3 B : Nat} {w Z W W' : World} (h : LowF n₀ b1 b2 b3 w W) (h0 : n₀ ≤ B) (h1 : b1 < B) (h2 : b2 < B) (h3 : b3 < B) (hB : w.heap.size ≤ Z.heap.size) (k1 : Below B Z W) (k2 : Below B Z W') : LowF n₀ b1 b2 b3 w W' :=
  have e : ∀ k, k < B → W'.heap[k]? = W.heap[k]? := fun k hk => (k2.block k hk).trans (k1.block k hk).symm
  ⟨⟨k2.os.trans (k1.os.symm.trans h.low.os), k2.tape.trans (k1.tape.symm.trans h.low.tape), k2.output.trans (k1.output.symm.trans h.low.output), Nat.le_trans hB k2.size, fun k hk => (e k (by omega)).trans (h.low.block k hk)⟩,
    (e b1 h1).trans h.x1, (e b2 h2).trans h.x2, (e b3 h3).trans h.x3⟩
theorem front_bd8 {f : Nat → Int} {n : Nat} {k : Int} {F : List Int} (hF : IsFront f n k F) : (∀ x ∈ F, 0 ≤ x ∧ x < n) ∧ F.length ≤ n :=
  ⟨fun x hx => ⟨((hF.2 x).1 hx).1, ((hF.2 x).1 hx).2.1⟩, nodup_small hF.1 fun x hx => ⟨((hF.2 x).1 hx).1, ((hF.2 x).1 hx).2.1⟩⟩
def StQ (b s : Nat) (i : Nat) (v : Value) (W : World) : Prop := (i = 1 ∨ i = 3) → ∃ q, v = .slice q 1 1 ∧ W.ownsRow b 3 1 (.slice q 1 1) 1 (encI [(s : Int)])
theorem StQ_mono {b s : Nat} : ∀ i v W W', Ext W W' → StQ b s i v W → StQ b s i v W' := fun _ _ _ _ he h hi => let ⟨q, h1, h2⟩ := h hi; ⟨q, h1, he.own h2⟩
theorem made_bool (n : Nat) : (madeCells (Value.bool false).cells (n * 1)).toList = List.replicate n (.bool false) := by
  apply List.ext_getElem
  · simp [madeCells]
  · intro i h1 h2
    simp [madeCells, Value.cells, Nat.mod_one]
theorem infB : (Tryz.prog.info? 4).map (fun i => (i.zero, i.size, i.bytes)) = some (some (.bool false), 1, 1) := by kernel_rfl
set_option maxRecDepth 100000 in
set_option maxHeartbeats 16000000 in
theorem fronts_out (n1 : Nat) (hn1 : 1 ≤ n1) (po : Option Addr) (no co : Nat) (pt : Option Addr) (nt ct : Nat) (pr : Option Addr) (nr cr : Nat) (pv : Option Addr) (nv cv : Nat) (b1 b2 b3 n₀ n s : Nat) (nx : Nat → List Int) (w : World) (hw : n₀ ≤ w.heap.size)
    (hb1 : Blk w b1 57 #[.slice po no co, .slice pt nt ct, .slice pr nr cr, .slice pv nv cv]) (hb2 : Blk w b2 3 #[.int .i64 s]) (hb3 : Blk w b3 66 #[.func (.func 50) #[.agg #[.slice po no co, .slice pt nt ct, .slice pr nr cr, .slice pv nv cv]] #[]])
    (hs : s < n) (hn : n ≤ 200) (hno : no = n + 1) (hin : InN nx n)
    (HN : ∀ k, k < n → ∃ q c, ∀ W, Below n₀ w W → Rd W 1 q (nx k).length (encI (nx k)) ∧ Calls Tryz.prog 50 #[.agg #[.slice po no co, .slice pt nt ct, .slice pr nr cr, .slice pv nv cv], .int .i64 k] W fun e w' => e = .returned (.slice q (nx k).length c) ∧ Ext W w') :
    SeqA Fence.wide n1 Tryz.prog 47 #[.pointer (some ⟨b1, 0, none⟩), .pointer (some ⟨b2, 0, none⟩), .pointer (some ⟨b3, 0, none⟩)] (ylE : YlOf nx n s → Array Value) (ylA w.heap.size) (KpF n₀ w.heap.size b1 b2 b3) ylS (fun pre => pre.map (·.1.k) = List.range pre.length) n w := by
  intro l J Jx W hW hJ hJx hY h0
  obtain ⟨i0, hi0, hz0, hz1, hz2⟩ := info_parts infI
  obtain ⟨j0, hj0, hy0, hy1, hy2⟩ := info_parts infB
  have hBk := hW.size
  have q1 := hb1.lt
  have q2 := hb2.lt
  have q3 := hb3.lt
  have LW := Lib.hid (⟨hW.mono hw, hW.block b1 q1, hW.block b2 q2, hW.block b3 q3⟩ : LowF n₀ b1 b2 b3 w W)
  have HSZ := Lib.hid (fun W' => waysSize po no co pt nt ct pr nr cr pv nv cv W' (by omega) (by omega))
  have B1 : Blk W b1 57 #[.slice po no co, .slice pt nt ct, .slice pr nr cr, .slice pv nv cv] := LW.out.x1.trans hb1
  have B2 : Blk W b2 3 #[.int .i64 s] := LW.out.x2.trans hb2
  have B3 : Blk W b3 66 #[.func (.func 50) #[.agg #[.slice po no co, .slice pt nt ct, .slice pr nr cr, .slice pv nv cv]] #[]] := LW.out.x3.trans hb3
  have HB1 := Lib.hid hb1
  have HB2 := Lib.hid hb2
  have HB3 := Lib.hid hb3
  have HNX := Lib.hid HN
  have HIN := Lib.hid hin
  subst hno
  have HJ := Lib.hid hJ; clear hJ
  have HY := Lib.hid hY; clear hY
  clear hJx hW HN hin hb1 hb2 hb3
  have c10 := B1.cell 0
  have c11 := B1.cell 1
  have c12 := B1.cell 2
  have c13 := B1.cell 3
  have c20 := B2.cell 0
  have z1 := B1.lt
  have z2 := B2.lt
  clear B1 B2 B3
  refine callsIn_of_wp Tryz.func47 rfl trivial ?_ rfl
  simp only [Tryz.ntmps47, List.size_toArray, List.length_cons, List.length_nil, Nat.reduceAdd, Nat.reduceSub, Array.replicate_succ, Array.replicate_zero, List.push_toArray, List.append_toArray, List.nil_append, List.cons_append]
  refine wpIn_seq_k fun K hK => wpIn_wide.2 ?_
  go_wp2_with (first
    | (at_make; go_must (refine wpList_make_sep rfl _ _ _ rfl 4 j0 _ 1 Tryz.underlying42 hj0 hy0 hy1 (n:Int) n rfl rfl rfl (by rw [hy2]; omega) (by unfold maxLen; omega) S1.out ?_; intro w2 S'; rw [made_bool] at S'; have S2 := Lib.hid S'; clear S'))
    | (go_at_call 30; go_must (refine (HSZ.out _).mono ?_; rintro e w1 ⟨rfl, hb⟩; have S1 := Lib.hid ((Sep.start W).call hb); clear hb)))
  generalize hqs : (some ⟨w1.heap.size, 0, none⟩ : Option Addr) = qs at *
  clear hqs S1
  have pqs := (S2.out.rd 0 rfl (by omega)).ptr
  have c20a := S2.out.ext.cell c20
  have z2a := Nat.lt_of_lt_of_le z2 S2.out.ext.size
  have fz := own_frozen (S2.out.own 0 rfl) (by omega) s
  have cz := own_cell (S2.out.own 0 rfl) (k := s) (by omega)
  have d1 : (0:Int) ≤ s := by omega
  have d2 : (s:Int) < n := by omega
  refine wpIn_seq_k fun K2 hK2 => wpIn_wide.2 ?_
  go_wp2
  refine wpIn_seq_k fun K3 hK3 => wpIn_wide.2 ?_
  obtain ⟨X, hX⟩ : ∃ X, X = w2.setCell (adr qs s) (.bool true) := ⟨_, rfl⟩
  have SX := Lib.hid (hX ▸ (S2.out.setRow 0 rfl s (by omega) (.bool true)) : Sep W X _)
  rw [seenL_0 (nx := nx) hs] at SX
  rw [← hX]
  clear hX fz cz c20a z2a S2
  have g2 := SX.out.ext.cell c20
  have x2 := fun x : ExtOf X => x.ext.cell g2
  refine wp_region_mix [true, false, true, false] (StQ X.heap.size s) (by kernel_rfl) (by kernel_rfl) (by kernel_rfl) StQ_mono ?_
  simp only [nfM]
  repeat (go_big_quiet_step ((fail)))
  refine wpQuiet_nil ⟨⟨fun vs W1 hE hd => ?_, fun vs W1 hE hd => ?_, trivial⟩, fun vs W1 hE hkn => ?_⟩
  · simp [putM, execOp, go_sem]
    exact ⟨fun _ => ⟨_, rfl, World.ownsRow_lit (base := X.heap.size) W1 #[.int .i64 (s:Int)] 1 hE.size (by decide) rfl⟩, Ext.alloc (Below.refl _ _) _⟩
  · have k0 := hd 1 (by decide +kernel) rfl
    simp [putM, execOp, go_sem]
    exact ⟨fun _ => k0 (.inl rfl), Below.refl _ _⟩
  simp only [knowM] at hkn
  have k3 := hkn.2.1 (.inr rfl)
  simp only [putM, List.length_cons, List.length_nil, Nat.zero_add, Nat.reduceAdd, List.drop_succ_cons, List.drop_zero]
  obtain ⟨qf0, k1, ho⟩ := k3
  rw [k1]
  generalize vs 1 = v20
  have S4 := Lib.hid (SX.out.fresh hE ho (Nat.le_refl _))
  have J4 := Lib.hid (HJ.out [] W W W1 (Nat.le_refl _) (Below.refl _ _) S4.out.ext h0)
  have LW4 := Lib.hid (LW.out.far (Nat.le_trans hw hBk) (by omega) (by omega) (by omega) hBk (Below.refl _ _) S4.out.ext)
  clear x2 g2 hE hkn k1 ho SX h0
  simp [Act.put]
  go_wp2
  gi_wp2
  gi_loopw [6, 7, 8, 10, 12] (fun v6 v7 _ _ _ wr => ∃ (k : Nat) (pre : List (YlOf nx n s)) (F : List Int) (q : Option Addr) (c : Nat) (Z : World), k ≤ n ∧ Z.heap.size = W.heap.size ∧ v6 = .int .i64 k ∧ v7 = .slice q F.length c ∧ IsFront (lev nx n s) n k F ∧ pre.map (·.1.k) = List.range k ∧ J pre wr ∧ Sep Z wr [.own 3 1 q F.length c (encI F), .own 4 1 qs n n (seenL (cutL (lev nx n s) n k) [] n)] ∧ LowF n₀ b1 b2 b3 w wr) (fun v6 _ _ _ _ _ => n - (intOf v6).toNat)
  case atStart => exact ⟨0, [], [(s:Int)], qf0, 1, W, Nat.zero_le _, rfl, rfl, rfl, front_0 hs, rfl, J4.out, S4.out, LW4.out⟩
  case round =>
    clear S4 J4 LW4 c10 c11 c12 c13 c20 z1 z2
    obtain ⟨k, pre, F, q, c, Z, hk, hZ, rfl, rfl, hF, hpre, hJs, S, hL⟩ := hrel
    have bF := Lib.hid (front_bd8 hF)
    by_cases hl0 : F.length = 0
    · obtain rfl : F = [] := List.eq_nil_of_length_eq_zero hl0
      have HEND : Hid (ylS pre) := ⟨by rw [hpre]; congr 1; have := congrArg List.length hpre; simp at this; omega, by
        have := congrArg List.length hpre
        simp at this
        rw [this]
        cases e : hasL n (lev nx n s) k with
        | false => rfl
        | true => exact absurd ((front_has hF).1 e) (by simp)⟩
      have HJs := Lib.hid hJs
      clear hF hpre hJs hL bF hl0 S
      gi_wp2
      refine ⟨fun f hf => (by cases hf), ?_⟩
      gi_wp2
      go_end0
      exact ⟨⟨_, rfl⟩, .inl ⟨pre, HEND.out, HJs.out⟩⟩
    · have lf : 0 < F.length := by omega
      have hkn : k < n := has_lt hs ((front_has hF).2 lf)
      have hB := S.blt 0 rfl lf
      have hplen : pre.length = k := by have := congrArg List.length hpre; simpa using this
      obtain ⟨x, hx⟩ : ∃ x : YlOf nx n s, x.1 = ⟨k, F, q, c⟩ := ⟨⟨⟨k, F, q, c⟩, hF, lf⟩, rfl⟩
      obtain ⟨fn, tmps, assign, body, hy, hR⟩ := HY.out pre x wr hJs (by unfold ylA; rw [hx]; exact ⟨S.rdx 0 rfl, by have := hB.1; show w.heap.size ≤ (adr q 0).block; omega⟩) (by omega)
      have hp2 : Hid ((pre ++ [x]).map (·.1.k) = List.range (k + 1)) := by
        unfold Hid; rw [List.map_append, hpre, List.range_succ]; simp [hx]
      have hxe : ylE x = #[.int .i64 k, .slice q F.length c] := by unfold ylE; rw [hx]
      rw [hxe] at hy
      clear hxe hx
      have c1 : decide ((0:Int) < F.length) = true := by simpa using lf
      have HF := Lib.hid hF
      have HLW := Lib.hid hL
      have SH := Lib.hid S; clear S
      clear hF hL hpre hplen hl0 hJs hB
      gi_wp2
      refine hR.mono ?_
      rintro e W3 (⟨rfl, hJ3, hk3⟩ | ⟨rfl, hJx3⟩)
      · have hs3 : W.heap.size ≤ W3.heap.size := by have := SH.out.ext.size; have := hk3.low.size; omega
        have S3 := Lib.hid (SH.out.rebase hZ hs3 (fun p hp kk hkk => by
          have hpc : p.cells := cells_all (Γ := [.own 3 1 q F.length c (encI F), .own 4 1 qs n n (seenL (cutL (lev nx n s) n k) [] n)]) (fun p hp => by
            simp only [List.mem_cons, List.not_mem_nil, or_false] at hp
            rcases hp with rfl | rfl <;> exact .inr ⟨_, _, _, _, _, _, rfl⟩) p hp
          obtain ⟨o, h1, h2⟩ := hpc wr (SH.out.all p hp) kk hkk
          have h3 := SH.out.new p hp kk hkk
          rw [h1]; exact hk3.up kk o (by omega) h1 h2))
        have L3 := Lib.hid (⟨HLW.out.low.trans hk3.low, hk3.x1.trans HLW.out.x1, hk3.x2.trans HLW.out.x2, hk3.x3.trans HLW.out.x3⟩ : LowF n₀ b1 b2 b3 w W3)
        have HJ3 := Lib.hid hJ3
        have hZ3 : (cutW W.heap.size W3).heap.size = W.heap.size := cutW_size hs3
        have HZb := Lib.hid (cutW_below hs3)
        generalize cutW W.heap.size W3 = Z3 at *
        have HLOW : Hid (∀ wx Γ, Sep Z3 wx Γ → LowF n₀ b1 b2 b3 w wx) := fun wx Γ S => L3.out.far (Nat.le_trans hw hBk) (by omega) (by omega) (by omega) (by omega) HZb.out (by have := S.ext; rwa [Ext, hZ3] at this)
        have HSML : Hid (∀ (G m : List Int), (∀ x : Int, x ∈ G → 0 ≤ x ∧ x < n) → (∀ x : Int, x ∈ m → 0 ≤ x ∧ x < n) → (ahR (cutL (lev nx n s) n k) m (ahF nx (cutL (lev nx n s) n k) G [])).length ≤ n) := fun G m hG hm =>
          nodup_small (ahR_nodup (ahF_nodup List.nodup_nil)) fun x hx => by
            rcases ahR_mem.1 hx with h | ⟨h, _⟩
            · rcases ahF_mem.1 h with h | ⟨v, h3, h4, _⟩
              · cases h
              · obtain ⟨h5, h6⟩ := hG v h3
                exact HIN.out v.toNat (by omega) x h4
            · exact hm x h
        clear SH hJ3 hk3 hR hy HLW
        gi_wp2
        refine wpIn_wide.2 ?_
        go_loopw [8, 10, 12, 34] (fun v8 _ _ v34 wx => ∃ (i : Nat) (l' : List Int) (q2 : Option Addr) (c2 : Nat), i ≤ F.length ∧ v34 = .int .i64 i ∧ v8 = .slice q2 l'.length c2 ∧ Hid (l' = ahF nx (cutL (lev nx n s) n k) (F.take i) []) ∧ Sep Z3 wx [.own 3 1 q2 l'.length c2 (encI l'), .own 3 1 q F.length c (encI F), .own 4 1 qs n n (seenL (cutL (lev nx n s) n k) l' n)]) (fun _ _ _ v34 _ => F.length - (intOf v34).toNat)
        case atStart => exact ⟨0, [], none, 0, Nat.zero_le _, rfl, rfl, rfl, S3.out.nilrow 3 1⟩
        case round =>
          clear S3
          obtain ⟨i, l', q2, c2, hi, rfl, rfl, hl, S⟩ := hrel
          have pF := (S.rdx 1 rfl).ptr
          have hF200 : F.length ≤ 200 := by have := bF.out.2; omega
          by_cases hif : i < F.length
          · have g1 := (S.rdx 1 rfl).cI hif
            obtain ⟨f1, f2⟩ := bF.out.1 _ (nth_mem hif)
            have hT := ahF_take (nx := nx) (X := cutL (lev nx n s) n k) (l := []) hif
            rw [← hl.out] at hT
            have hsm : ∀ j (m : List Int), m = (nx (nth F i).toNat).take j → (ahR (cutL (lev nx n s) n k) m l').length ≤ n := fun j m hm => by
              rw [hl.out]
              refine HSML.out _ m (fun x hx => bF.out.1 x (List.mem_of_mem_take hx)) fun x hx => ?_
              rw [hm] at hx
              exact HIN.out _ (by omega) x (List.mem_of_mem_take hx)
            obtain ⟨a, ha⟩ : ∃ a : Nat, nth F i = (a : Int) := ⟨(nth F i).toNat, by omega⟩
            rw [ha] at g1 f1 f2 hT hsm
            rw [Int.toNat_natCast] at hT hsm
            have HT := Lib.hid hT
            have HS := Lib.hid hsm
            have HRB := Lib.hid (HIN.out a (by omega))
            obtain ⟨qr, crr, hW⟩ := HNX.out a (by omega)
            have HWW := Lib.hid hW
            have hb3' : Blk wr b3 66 #[.func (.func 50) #[.agg #[.slice po (n + 1) co, .slice pt nt ct, .slice pr nr cr, .slice pv nv cv]] #[]] := (HLOW.out _ _ S).x3.trans HB3.out
            have b3c := hb3'.cell 0
            have b3z := hb3'.lt
            clear hb3'
            have HC := Lib.hid (hW wr (HLOW.out _ _ S).low).2
            have e1 : (0:Int) ≤ i := by omega
            have e2 : (i:Int) < F.length := by omega
            generalize nx a = RW at *
            have SH := Lib.hid S; clear S
            clear ha hT hsm hW hl
            go_wp2_with (go_at_call 50; go_must (refine HC.out.mono ?_; rintro e w5 ⟨rfl, hb⟩; have S5 := Lib.hid (SH.out.call hb); clear hb))
            have nrw := (HWW.out _ (HLOW.out _ _ S5.out).low).1.small
            have prw := (HWW.out _ (HLOW.out _ _ S5.out).low).1.ptr
            go_loopw [8, 12, 42] (fun v8 _ v42 wx => ∃ (j : Nat) (l2 : List Int) (q3 : Option Addr) (c3 : Nat), j ≤ RW.length ∧ v42 = .int .i64 j ∧ v8 = .slice q3 l2.length c3 ∧ Hid (l2 = ahR (cutL (lev nx n s) n k) (RW.take j) l') ∧ Sep Z3 wx [.own 3 1 q3 l2.length c3 (encI l2), .own 3 1 q F.length c (encI F), .own 4 1 qs n n (seenL (cutL (lev nx n s) n k) l2 n)]) (fun _ _ v42 _ => RW.length - (intOf v42).toNat)
            case atStart => exact ⟨0, l', q2, c2, Nat.zero_le _, rfl, rfl, rfl, S5.out⟩
            case round =>
              clear SH S5 HC b3c b3z g1
              obtain ⟨j, l2, q3, c3, hj, rfl, rfl, hl2, S⟩ := hrel
              by_cases hlj : j < RW.length
              · have g1 := (HWW.out _ (HLOW.out _ _ S).low).1.cI hlj
                obtain ⟨r1, r2⟩ := HRB.out _ (nth_mem hlj)
                have hst := ahR_take (X := cutL (lev nx n s) n k) (l := l') hlj
                rw [← hl2.out] at hst
                have hlen := HS.out j _ rfl
                rw [← hl2.out] at hlen
                obtain ⟨b, hb⟩ : ∃ b : Nat, nth RW j = (b : Int) := ⟨(nth RW j).toNat, by omega⟩
                rw [hb] at g1 r1 r2 hst
                have e3 : (0:Int) ≤ j := by omega
                have e4 : (j:Int) < RW.length := by omega
                have ps := (S.rdx 2 rfl).ptr
                have pq3 := (S.rdx 0 rfl).ptr
                have fz := own_frozen (S.own 2 rfl) (by omega) b
                have cz := own_cell (S.own 2 rfl) (k := b) (by omega)
                have hat := seenL_at (X := cutL (lev nx n s) n k) (l := l2) (n := n) (v := b) (by omega)
                have hnn : 0 ≤ b ∧ (b:Int) < n := ⟨by omega, r2⟩
                clear hl2 hb
                cases hsn : (decide (0 ≤ nth (cutL (lev nx n s) n k) b) || decide ((b : Int) ∈ l2)) with
                | true =>
                  have HST : Hid (ahR (cutL (lev nx n s) n k) (RW.take (j + 1)) l' = l2) := by
                    unfold Hid; rw [hst]; unfold ah1; rw [if_neg]
                    rw [Int.toNat_natCast]
                    rw [Bool.or_eq_true, decide_eq_true_eq, decide_eq_true_eq] at hsn
                    rintro ⟨h1, h2⟩
                    rcases hsn with h | h
                    · omega
                    · exact h2 h
                  rw [hsn] at hat
                  rw [List.getD_eq_getElem?_getD, hat, Option.getD_some] at cz
                  have SH := Lib.hid S; clear S
                  clear hst hat hsn fz
                  go_wp2
                  go_roundw
                  case rel => exact ⟨j + 1, l2, q3, c3, by omega, by go_num, rfl, HST.out.symm, SH.out⟩
                  case measure => simp [intOf]; omega
                | false =>
                  have HST : Hid (ahR (cutL (lev nx n s) n k) (RW.take (j + 1)) l' = l2 ++ [(b:Int)]) := by
                    unfold Hid; rw [hst]; unfold ah1; rw [if_pos]
                    rw [Int.toNat_natCast]
                    rw [Bool.or_eq_false_iff, decide_eq_false_iff_not, decide_eq_false_iff_not] at hsn
                    exact ⟨by omega, hsn.2⟩
                  rw [hsn] at hat
                  rw [List.getD_eq_getElem?_getD, hat, Option.getD_some] at cz
                  have hnb : b < n := by omega
                  have SH := Lib.hid S; clear S
                  clear hst hat hsn
                  have HR1 : Hid (Rd ((wr.setCell (adr qs b) (.bool true)).alloc (.cells #[.int .i64 (b:Int)] 3)) 1 (some ⟨wr.heap.size, 0, none⟩) 1 (encI [(b:Int)])) := by
                    have h := Rd.oneI (wr.setCell (adr qs b) (.bool true)) 3 (b:Int)
                    have e : (wr.setCell (adr qs b) (.bool true)).heap.size = wr.heap.size := by simp
                    rw [e] at h; exact h
                  go_wp2_with (at_builtin; go_must (refine wpList_append_sep rfl _ _ _ rfl 3 i0 _ 1 8 Tryz.underlying22 hi0 hz0 hz1 hz2 rfl (by omega) ((SH.out.setRow 2 rfl b (by omega) (.bool true)).junk _) 0 q3 l2.length c3 _ rfl rfl _ 1 1 _ rfl HR1.out (one_encI _) (by omega) (by omega) ?_; intro q' c' w7 S' hsz; have S6 := Lib.hid S'; clear S' hsz))
                  go_roundw
                  case rel => exact ⟨j + 1, l2 ++ [(b:Int)], q', c', by omega, by go_num, by rw [List.length_append]; rfl, HST.out.symm, by rw [List.length_append, encI_append, ← seenL_set hnb]; exact S6.out⟩
                  case measure => simp [intOf]; omega
              · obtain rfl : j = RW.length := by omega
                have HL2 : Hid (l2 = ahF nx (cutL (lev nx n s) n k) (F.take (i + 1)) []) := by
                  unfold Hid; rw [HT.out, hl2.out, List.take_length]
                have SH := Lib.hid S; clear S
                clear hl2
                go_wp2
                go_roundw
                case rel => exact ⟨i + 1, l2, q3, c3, by omega, by go_num, rfl, HL2.out, SH.out⟩
                case measure => simp [intOf]; omega
          · obtain rfl : i = F.length := by omega
            have hl' := hl.out
            rw [List.take_length] at hl'
            have hF2 : IsFront (lev nx n s) n ((k + 1 : Nat) : Int) l' := by
              rw [hl']
              exact front_next hs HIN.out HF.out fun v hv => by rw [cutL_nth hv]; exact cut_lt
            rw [seenL_next hF2] at S
            have HF2 := Lib.hid hF2
            have HLX := Lib.hid (HLOW.out _ _ S)
            have HJX := Lib.hid (HJ.out _ Z3 W3 wr (by omega) HZb.out (by have := S.ext; rwa [Ext, hZ3] at this) HJ3.out)
            have SH := Lib.hid S; clear S
            clear hl hl' hF2
            go_wp2
            gi_wp2
            go_roundw
            case rel => exact ⟨k + 1, _, l', q2, c2, Z3, by omega, hZ3, by go_num, rfl, HF2.out, hp2.out, HJX.out, SH.out.pick [0, 2] (by decide) rfl, HLX.out⟩
            case measure => simp [intOf]; omega
      · have HX3 := Lib.hid hJx3
        clear hJx3
        gi_wp2
        go_end0
        exact ⟨⟨_, rfl⟩, .inr ⟨_, by
          have h := hp2.out
          have h2 := congrArg List.length h
          rw [List.length_map, List.length_range] at h2
          rw [h, h2], HX3.out⟩⟩
set_option maxRecDepth 100000 in
set_option maxHeartbeats 16000000 in
theorem fronts_in (n1 : Nat) (hn1 : 1 ≤ n1) (po : Option Addr) (no co : Nat) (pt : Option Addr) (nt ct : Nat) (pr : Option Addr) (nr cr : Nat) (pv : Option Addr) (nv cv : Nat) (b1 b2 b3 n₀ n s : Nat) (nx : Nat → List Int) (w : World) (hw : n₀ ≤ w.heap.size)
    (hb1 : Blk w b1 57 #[.slice po no co, .slice pt nt ct, .slice pr nr cr, .slice pv nv cv]) (hb2 : Blk w b2 3 #[.int .i64 s]) (hb3 : Blk w b3 66 #[.func (.func 49) #[.agg #[.slice po no co, .slice pt nt ct, .slice pr nr cr, .slice pv nv cv]] #[]])
    (hs : s < n) (hn : n ≤ 200) (hno : no = n + 1) (hin : InN nx n)
    (HN : ∀ k, k < n → ∃ q c, ∀ W, Below n₀ w W → Rd W 1 q (nx k).length (encI (nx k)) ∧ Calls Tryz.prog 49 #[.agg #[.slice po no co, .slice pt nt ct, .slice pr nr cr, .slice pv nv cv], .int .i64 k] W fun e w' => e = .returned (.slice q (nx k).length c) ∧ Ext W w') :
    SeqA Fence.wide n1 Tryz.prog 47 #[.pointer (some ⟨b1, 0, none⟩), .pointer (some ⟨b2, 0, none⟩), .pointer (some ⟨b3, 0, none⟩)] (ylE : YlOf nx n s → Array Value) (ylA w.heap.size) (KpF n₀ w.heap.size b1 b2 b3) ylS (fun pre => pre.map (·.1.k) = List.range pre.length) n w := by
  intro l J Jx W hW hJ hJx hY h0
  obtain ⟨i0, hi0, hz0, hz1, hz2⟩ := info_parts infI
  obtain ⟨j0, hj0, hy0, hy1, hy2⟩ := info_parts infB
  have hBk := hW.size
  have q1 := hb1.lt
  have q2 := hb2.lt
  have q3 := hb3.lt
  have LW := Lib.hid (⟨hW.mono hw, hW.block b1 q1, hW.block b2 q2, hW.block b3 q3⟩ : LowF n₀ b1 b2 b3 w W)
  have HSZ := Lib.hid (fun W' => waysSize po no co pt nt ct pr nr cr pv nv cv W' (by omega) (by omega))
  have B1 : Blk W b1 57 #[.slice po no co, .slice pt nt ct, .slice pr nr cr, .slice pv nv cv] := LW.out.x1.trans hb1
  have B2 : Blk W b2 3 #[.int .i64 s] := LW.out.x2.trans hb2
  have B3 : Blk W b3 66 #[.func (.func 49) #[.agg #[.slice po no co, .slice pt nt ct, .slice pr nr cr, .slice pv nv cv]] #[]] := LW.out.x3.trans hb3
  have HB1 := Lib.hid hb1
  have HB2 := Lib.hid hb2
  have HB3 := Lib.hid hb3
  have HNX := Lib.hid HN
  have HIN := Lib.hid hin
  subst hno
  have HJ := Lib.hid hJ; clear hJ
  have HY := Lib.hid hY; clear hY
  clear hJx hW HN hin hb1 hb2 hb3
  have c10 := B1.cell 0
  have c11 := B1.cell 1
  have c12 := B1.cell 2
  have c13 := B1.cell 3
  have c20 := B2.cell 0
  have z1 := B1.lt
  have z2 := B2.lt
  clear B1 B2 B3
  refine callsIn_of_wp Tryz.func47 rfl trivial ?_ rfl
  simp only [Tryz.ntmps47, List.size_toArray, List.length_cons, List.length_nil, Nat.reduceAdd, Nat.reduceSub, Array.replicate_succ, Array.replicate_zero, List.push_toArray, List.append_toArray, List.nil_append, List.cons_append]
  refine wpIn_seq_k fun K hK => wpIn_wide.2 ?_
  go_wp2_with (first
    | (at_make; go_must (refine wpList_make_sep rfl _ _ _ rfl 4 j0 _ 1 Tryz.underlying42 hj0 hy0 hy1 (n:Int) n rfl rfl rfl (by rw [hy2]; omega) (by unfold maxLen; omega) S1.out ?_; intro w2 S'; rw [made_bool] at S'; have S2 := Lib.hid S'; clear S'))
    | (go_at_call 30; go_must (refine (HSZ.out _).mono ?_; rintro e w1 ⟨rfl, hb⟩; have S1 := Lib.hid ((Sep.start W).call hb); clear hb)))
  generalize hqs : (some ⟨w1.heap.size, 0, none⟩ : Option Addr) = qs at *
  clear hqs S1
  have pqs := (S2.out.rd 0 rfl (by omega)).ptr
  have c20a := S2.out.ext.cell c20
  have z2a := Nat.lt_of_lt_of_le z2 S2.out.ext.size
  have fz := own_frozen (S2.out.own 0 rfl) (by omega) s
  have cz := own_cell (S2.out.own 0 rfl) (k := s) (by omega)
  have d1 : (0:Int) ≤ s := by omega
  have d2 : (s:Int) < n := by omega
  refine wpIn_seq_k fun K2 hK2 => wpIn_wide.2 ?_
  go_wp2
  refine wpIn_seq_k fun K3 hK3 => wpIn_wide.2 ?_
  obtain ⟨X, hX⟩ : ∃ X, X = w2.setCell (adr qs s) (.bool true) := ⟨_, rfl⟩
  have SX := Lib.hid (hX ▸ (S2.out.setRow 0 rfl s (by omega) (.bool true)) : Sep W X _)
  rw [seenL_0 (nx := nx) hs] at SX
  rw [← hX]
  clear hX fz cz c20a z2a S2
  have g2 := SX.out.ext.cell c20
  have x2 := fun x : ExtOf X => x.ext.cell g2
  refine wp_region_mix [true, false, true, false] (StQ X.heap.size s) (by kernel_rfl) (by kernel_rfl) (by kernel_rfl) StQ_mono ?_
  simp only [nfM]
  repeat (go_big_quiet_step ((fail)))
  refine wpQuiet_nil ⟨⟨fun vs W1 hE hd => ?_, fun vs W1 hE hd => ?_, trivial⟩, fun vs W1 hE hkn => ?_⟩
  · simp [putM, execOp, go_sem]
    exact ⟨fun _ => ⟨_, rfl, World.ownsRow_lit (base := X.heap.size) W1 #[.int .i64 (s:Int)] 1 hE.size (by decide) rfl⟩, Ext.alloc (Below.refl _ _) _⟩
  · have k0 := hd 1 (by decide +kernel) rfl
    simp [putM, execOp, go_sem]
    exact ⟨fun _ => k0 (.inl rfl), Below.refl _ _⟩
  simp only [knowM] at hkn
  have k3 := hkn.2.1 (.inr rfl)
  simp only [putM, List.length_cons, List.length_nil, Nat.zero_add, Nat.reduceAdd, List.drop_succ_cons, List.drop_zero]
  obtain ⟨qf0, k1, ho⟩ := k3
  rw [k1]
  generalize vs 1 = v20
  have S4 := Lib.hid (SX.out.fresh hE ho (Nat.le_refl _))
  have J4 := Lib.hid (HJ.out [] W W W1 (Nat.le_refl _) (Below.refl _ _) S4.out.ext h0)
  have LW4 := Lib.hid (LW.out.far (Nat.le_trans hw hBk) (by omega) (by omega) (by omega) hBk (Below.refl _ _) S4.out.ext)
  clear x2 g2 hE hkn k1 ho SX h0
  simp [Act.put]
  go_wp2
  gi_wp2
  gi_loopw [6, 7, 8, 10, 12] (fun v6 v7 _ _ _ wr => ∃ (k : Nat) (pre : List (YlOf nx n s)) (F : List Int) (q : Option Addr) (c : Nat) (Z : World), k ≤ n ∧ Z.heap.size = W.heap.size ∧ v6 = .int .i64 k ∧ v7 = .slice q F.length c ∧ IsFront (lev nx n s) n k F ∧ pre.map (·.1.k) = List.range k ∧ J pre wr ∧ Sep Z wr [.own 3 1 q F.length c (encI F), .own 4 1 qs n n (seenL (cutL (lev nx n s) n k) [] n)] ∧ LowF n₀ b1 b2 b3 w wr) (fun v6 _ _ _ _ _ => n - (intOf v6).toNat)
  case atStart => exact ⟨0, [], [(s:Int)], qf0, 1, W, Nat.zero_le _, rfl, rfl, rfl, front_0 hs, rfl, J4.out, S4.out, LW4.out⟩
  case round =>
    clear S4 J4 LW4 c10 c11 c12 c13 c20 z1 z2
    obtain ⟨k, pre, F, q, c, Z, hk, hZ, rfl, rfl, hF, hpre, hJs, S, hL⟩ := hrel
    have bF := Lib.hid (front_bd8 hF)
    by_cases hl0 : F.length = 0
    · obtain rfl : F = [] := List.eq_nil_of_length_eq_zero hl0
      have HEND : Hid (ylS pre) := ⟨by rw [hpre]; congr 1; have := congrArg List.length hpre; simp at this; omega, by
        have := congrArg List.length hpre
        simp at this
        rw [this]
        cases e : hasL n (lev nx n s) k with
        | false => rfl
        | true => exact absurd ((front_has hF).1 e) (by simp)⟩
      have HJs := Lib.hid hJs
      clear hF hpre hJs hL bF hl0 S
      gi_wp2
      refine ⟨fun f hf => (by cases hf), ?_⟩
      gi_wp2
      go_end0
      exact ⟨⟨_, rfl⟩, .inl ⟨pre, HEND.out, HJs.out⟩⟩
    · have lf : 0 < F.length := by omega
      have hkn : k < n := has_lt hs ((front_has hF).2 lf)
      have hB := S.blt 0 rfl lf
      have hplen : pre.length = k := by have := congrArg List.length hpre; simpa using this
      obtain ⟨x, hx⟩ : ∃ x : YlOf nx n s, x.1 = ⟨k, F, q, c⟩ := ⟨⟨⟨k, F, q, c⟩, hF, lf⟩, rfl⟩
      obtain ⟨fn, tmps, assign, body, hy, hR⟩ := HY.out pre x wr hJs (by unfold ylA; rw [hx]; exact ⟨S.rdx 0 rfl, by have := hB.1; show w.heap.size ≤ (adr q 0).block; omega⟩) (by omega)
      have hp2 : Hid ((pre ++ [x]).map (·.1.k) = List.range (k + 1)) := by
        unfold Hid; rw [List.map_append, hpre, List.range_succ]; simp [hx]
      have hxe : ylE x = #[.int .i64 k, .slice q F.length c] := by unfold ylE; rw [hx]
      rw [hxe] at hy
      clear hxe hx
      have c1 : decide ((0:Int) < F.length) = true := by simpa using lf
      have HF := Lib.hid hF
      have HLW := Lib.hid hL
      have SH := Lib.hid S; clear S
      clear hF hL hpre hplen hl0 hJs hB
      gi_wp2
      refine hR.mono ?_
      rintro e W3 (⟨rfl, hJ3, hk3⟩ | ⟨rfl, hJx3⟩)
      · have hs3 : W.heap.size ≤ W3.heap.size := by have := SH.out.ext.size; have := hk3.low.size; omega
        have S3 := Lib.hid (SH.out.rebase hZ hs3 (fun p hp kk hkk => by
          have hpc : p.cells := cells_all (Γ := [.own 3 1 q F.length c (encI F), .own 4 1 qs n n (seenL (cutL (lev nx n s) n k) [] n)]) (fun p hp => by
            simp only [List.mem_cons, List.not_mem_nil, or_false] at hp
            rcases hp with rfl | rfl <;> exact .inr ⟨_, _, _, _, _, _, rfl⟩) p hp
          obtain ⟨o, h1, h2⟩ := hpc wr (SH.out.all p hp) kk hkk
          have h3 := SH.out.new p hp kk hkk
          rw [h1]; exact hk3.up kk o (by omega) h1 h2))
        have L3 := Lib.hid (⟨HLW.out.low.trans hk3.low, hk3.x1.trans HLW.out.x1, hk3.x2.trans HLW.out.x2, hk3.x3.trans HLW.out.x3⟩ : LowF n₀ b1 b2 b3 w W3)
        have HJ3 := Lib.hid hJ3
        have hZ3 : (cutW W.heap.size W3).heap.size = W.heap.size := cutW_size hs3
        have HZb := Lib.hid (cutW_below hs3)
        generalize cutW W.heap.size W3 = Z3 at *
        have HLOW : Hid (∀ wx Γ, Sep Z3 wx Γ → LowF n₀ b1 b2 b3 w wx) := fun wx Γ S => L3.out.far (Nat.le_trans hw hBk) (by omega) (by omega) (by omega) (by omega) HZb.out (by have := S.ext; rwa [Ext, hZ3] at this)
        have HSML : Hid (∀ (G m : List Int), (∀ x : Int, x ∈ G → 0 ≤ x ∧ x < n) → (∀ x : Int, x ∈ m → 0 ≤ x ∧ x < n) → (ahR (cutL (lev nx n s) n k) m (ahF nx (cutL (lev nx n s) n k) G [])).length ≤ n) := fun G m hG hm =>
          nodup_small (ahR_nodup (ahF_nodup List.nodup_nil)) fun x hx => by
            rcases ahR_mem.1 hx with h | ⟨h, _⟩
            · rcases ahF_mem.1 h with h | ⟨v, h3, h4, _⟩
              · cases h
              · obtain ⟨h5, h6⟩ := hG v h3
                exact HIN.out v.toNat (by omega) x h4
            · exact hm x h
        clear SH hJ3 hk3 hR hy HLW
        gi_wp2
        refine wpIn_wide.2 ?_
        go_loopw [8, 10, 12, 34] (fun v8 _ _ v34 wx => ∃ (i : Nat) (l' : List Int) (q2 : Option Addr) (c2 : Nat), i ≤ F.length ∧ v34 = .int .i64 i ∧ v8 = .slice q2 l'.length c2 ∧ Hid (l' = ahF nx (cutL (lev nx n s) n k) (F.take i) []) ∧ Sep Z3 wx [.own 3 1 q2 l'.length c2 (encI l'), .own 3 1 q F.length c (encI F), .own 4 1 qs n n (seenL (cutL (lev nx n s) n k) l' n)]) (fun _ _ _ v34 _ => F.length - (intOf v34).toNat)
        case atStart => exact ⟨0, [], none, 0, Nat.zero_le _, rfl, rfl, rfl, S3.out.nilrow 3 1⟩
        case round =>
          clear S3
          obtain ⟨i, l', q2, c2, hi, rfl, rfl, hl, S⟩ := hrel
          have pF := (S.rdx 1 rfl).ptr
          have hF200 : F.length ≤ 200 := by have := bF.out.2; omega
          by_cases hif : i < F.length
          · have g1 := (S.rdx 1 rfl).cI hif
            obtain ⟨f1, f2⟩ := bF.out.1 _ (nth_mem hif)
            have hT := ahF_take (nx := nx) (X := cutL (lev nx n s) n k) (l := []) hif
            rw [← hl.out] at hT
            have hsm : ∀ j (m : List Int), m = (nx (nth F i).toNat).take j → (ahR (cutL (lev nx n s) n k) m l').length ≤ n := fun j m hm => by
              rw [hl.out]
              refine HSML.out _ m (fun x hx => bF.out.1 x (List.mem_of_mem_take hx)) fun x hx => ?_
              rw [hm] at hx
              exact HIN.out _ (by omega) x (List.mem_of_mem_take hx)
            obtain ⟨a, ha⟩ : ∃ a : Nat, nth F i = (a : Int) := ⟨(nth F i).toNat, by omega⟩
            rw [ha] at g1 f1 f2 hT hsm
            rw [Int.toNat_natCast] at hT hsm
            have HT := Lib.hid hT
            have HS := Lib.hid hsm
            have HRB := Lib.hid (HIN.out a (by omega))
            obtain ⟨qr, crr, hW⟩ := HNX.out a (by omega)
            have HWW := Lib.hid hW
            have hb3' : Blk wr b3 66 #[.func (.func 49) #[.agg #[.slice po (n + 1) co, .slice pt nt ct, .slice pr nr cr, .slice pv nv cv]] #[]] := (HLOW.out _ _ S).x3.trans HB3.out
            have b3c := hb3'.cell 0
            have b3z := hb3'.lt
            clear hb3'
            have HC := Lib.hid (hW wr (HLOW.out _ _ S).low).2
            have e1 : (0:Int) ≤ i := by omega
            have e2 : (i:Int) < F.length := by omega
            generalize nx a = RW at *
            have SH := Lib.hid S; clear S
            clear ha hT hsm hW hl
            go_wp2_with (go_at_call 49; go_must (refine HC.out.mono ?_; rintro e w5 ⟨rfl, hb⟩; have S5 := Lib.hid (SH.out.call hb); clear hb))
            have nrw := (HWW.out _ (HLOW.out _ _ S5.out).low).1.small
            have prw := (HWW.out _ (HLOW.out _ _ S5.out).low).1.ptr
            go_loopw [8, 12, 42] (fun v8 _ v42 wx => ∃ (j : Nat) (l2 : List Int) (q3 : Option Addr) (c3 : Nat), j ≤ RW.length ∧ v42 = .int .i64 j ∧ v8 = .slice q3 l2.length c3 ∧ Hid (l2 = ahR (cutL (lev nx n s) n k) (RW.take j) l') ∧ Sep Z3 wx [.own 3 1 q3 l2.length c3 (encI l2), .own 3 1 q F.length c (encI F), .own 4 1 qs n n (seenL (cutL (lev nx n s) n k) l2 n)]) (fun _ _ v42 _ => RW.length - (intOf v42).toNat)
            case atStart => exact ⟨0, l', q2, c2, Nat.zero_le _, rfl, rfl, rfl, S5.out⟩
            case round =>
              clear SH S5 HC b3c b3z g1
              obtain ⟨j, l2, q3, c3, hj, rfl, rfl, hl2, S⟩ := hrel
              by_cases hlj : j < RW.length
              · have g1 := (HWW.out _ (HLOW.out _ _ S).low).1.cI hlj
                obtain ⟨r1, r2⟩ := HRB.out _ (nth_mem hlj)
                have hst := ahR_take (X := cutL (lev nx n s) n k) (l := l') hlj
                rw [← hl2.out] at hst
                have hlen := HS.out j _ rfl
                rw [← hl2.out] at hlen
                obtain ⟨b, hb⟩ : ∃ b : Nat, nth RW j = (b : Int) := ⟨(nth RW j).toNat, by omega⟩
                rw [hb] at g1 r1 r2 hst
                have e3 : (0:Int) ≤ j := by omega
                have e4 : (j:Int) < RW.length := by omega
                have ps := (S.rdx 2 rfl).ptr
                have pq3 := (S.rdx 0 rfl).ptr
                have fz := own_frozen (S.own 2 rfl) (by omega) b
                have cz := own_cell (S.own 2 rfl) (k := b) (by omega)
                have hat := seenL_at (X := cutL (lev nx n s) n k) (l := l2) (n := n) (v := b) (by omega)
                have hnn : 0 ≤ b ∧ (b:Int) < n := ⟨by omega, r2⟩
                clear hl2 hb
                cases hsn : (decide (0 ≤ nth (cutL (lev nx n s) n k) b) || decide ((b : Int) ∈ l2)) with
                | true =>
                  have HST : Hid (ahR (cutL (lev nx n s) n k) (RW.take (j + 1)) l' = l2) := by
                    unfold Hid; rw [hst]; unfold ah1; rw [if_neg]
                    rw [Int.toNat_natCast]
                    rw [Bool.or_eq_true, decide_eq_true_eq, decide_eq_true_eq] at hsn
                    rintro ⟨h1, h2⟩
                    rcases hsn with h | h
                    · omega
                    · exact h2 h
                  rw [hsn] at hat
                  rw [List.getD_eq_getElem?_getD, hat, Option.getD_some] at cz
                  have SH := Lib.hid S; clear S
                  clear hst hat hsn fz
                  go_wp2
                  go_roundw
                  case rel => exact ⟨j + 1, l2, q3, c3, by omega, by go_num, rfl, HST.out.symm, SH.out⟩
                  case measure => simp [intOf]; omega
                | false =>
                  have HST : Hid (ahR (cutL (lev nx n s) n k) (RW.take (j + 1)) l' = l2 ++ [(b:Int)]) := by
                    unfold Hid; rw [hst]; unfold ah1; rw [if_pos]
                    rw [Int.toNat_natCast]
                    rw [Bool.or_eq_false_iff, decide_eq_false_iff_not, decide_eq_false_iff_not] at hsn
                    exact ⟨by omega, hsn.2⟩
                  rw [hsn] at hat
                  rw [List.getD_eq_getElem?_getD, hat, Option.getD_some] at cz
                  have hnb : b < n := by omega
                  have SH := Lib.hid S; clear S
                  clear hst hat hsn
                  have HR1 : Hid (Rd ((wr.setCell (adr qs b) (.bool true)).alloc (.cells #[.int .i64 (b:Int)] 3)) 1 (some ⟨wr.heap.size, 0, none⟩) 1 (encI [(b:Int)])) := by
                    have h := Rd.oneI (wr.setCell (adr qs b) (.bool true)) 3 (b:Int)
                    have e : (wr.setCell (adr qs b) (.bool true)).heap.size = wr.heap.size := by simp
                    rw [e] at h; exact h
                  go_wp2_with (at_builtin; go_must (refine wpList_append_sep rfl _ _ _ rfl 3 i0 _ 1 8 Tryz.underlying22 hi0 hz0 hz1 hz2 rfl (by omega) ((SH.out.setRow 2 rfl b (by omega) (.bool true)).junk _) 0 q3 l2.length c3 _ rfl rfl _ 1 1 _ rfl HR1.out (one_encI _) (by omega) (by omega) ?_; intro q' c' w7 S' hsz; have S6 := Lib.hid S'; clear S' hsz))
                  go_roundw
                  case rel => exact ⟨j + 1, l2 ++ [(b:Int)], q', c', by omega, by go_num, by rw [List.length_append]; rfl, HST.out.symm, by rw [List.length_append, encI_append, ← seenL_set hnb]; exact S6.out⟩
                  case measure => simp [intOf]; omega
              · obtain rfl : j = RW.length := by omega
                have HL2 : Hid (l2 = ahF nx (cutL (lev nx n s) n k) (F.take (i + 1)) []) := by
                  unfold Hid; rw [HT.out, hl2.out, List.take_length]
                have SH := Lib.hid S; clear S
                clear hl2
                go_wp2
                go_roundw
                case rel => exact ⟨i + 1, l2, q3, c3, by omega, by go_num, rfl, HL2.out, SH.out⟩
                case measure => simp [intOf]; omega
          · obtain rfl : i = F.length := by omega
            have hl' := hl.out
            rw [List.take_length] at hl'
            have hF2 : IsFront (lev nx n s) n ((k + 1 : Nat) : Int) l' := by
              rw [hl']
              exact front_next hs HIN.out HF.out fun v hv => by rw [cutL_nth hv]; exact cut_lt
            rw [seenL_next hF2] at S
            have HF2 := Lib.hid hF2
            have HLX := Lib.hid (HLOW.out _ _ S)
            have HJX := Lib.hid (HJ.out _ Z3 W3 wr (by omega) HZb.out (by have := S.ext; rwa [Ext, hZ3] at this) HJ3.out)
            have SH := Lib.hid S; clear S
            clear hl hl' hF2
            go_wp2
            gi_wp2
            go_roundw
            case rel => exact ⟨k + 1, _, l', q2, c2, Z3, by omega, hZ3, by go_num, rfl, HF2.out, hp2.out, HJX.out, SH.out.pick [0, 2] (by decide) rfl, HLX.out⟩
            case measure => simp [intOf]; omega
      · have HX3 := Lib.hid hJx3
        clear hJx3
        gi_wp2
        go_end0
        exact ⟨⟨_, rfl⟩, .inr ⟨_, by
          have h := hp2.out
          have h2 := congrArg List.length h
          rw [List.length_map, List.length_range] at h2
          rw [h, h2], HX3.out⟩⟩
end Go.Proofs.YtblghmfhchlllaaGreat
/- slices.Repeat of one number. -/
namespace Go.Proofs.YtblghmfhchlllaaGreat
open Go Go.RowKit Go.Shelf
set_option maxRecDepth 100000 in
set_option maxHeartbeats 2000000 in
theorem mul64One (n : Nat) (hn : n ≤ 1000) (w : World) : Calls Tryz.prog 64 #[.int .u64 1, .int .u64 n] w fun e w' => e = .returned (.tuple #[.int .u64 0, .int .u64 n]) ∧ Ext w w' := by
  have h1 : bits .and .u64 (n:Int) 4294967295 = (n:Int) := by rw [Mul64.maskN n (by omega)]; omega
  have h2 : (n:Int) / 4294967296 = 0 := by omega
  have h3 : bits .and .u64 (1:Int) 4294967295 = (1:Int) := by decide +kernel
  have h4 : bits .and .u64 (0:Int) 4294967295 = (0:Int) := by decide +kernel
  go_enter Tryz.func64, Tryz.ntmps64
  go_wp2
  go_ret2
  exact ⟨rfl, Below.refl _ _⟩
set_option maxRecDepth 100000 in
set_option maxHeartbeats 2000000 in
theorem mulOne (n : Nat) (hn : n ≤ 1000) (w : World) : Calls Tryz.prog 46 #[.int .u64 1, .int .u64 n] w fun e w' => e = .returned (.tuple #[.int .u64 0, .int .u64 n]) ∧ Ext w w' := by
  have H := Lib.hid (fun W => mul64One n hn W)
  go_enter Tryz.func46, Tryz.ntmps46
  go_wp2_with (go_at_call 64; go_must (refine (H.out _).mono ?_; rintro e w1 ⟨rfl, hb⟩; have HB := Lib.hid hb; clear hb))
  go_ret2
  exact ⟨rfl, HB.out⟩
/-- so many are laid, the rest is 0 -/
def rowR (n k : Nat) : List Value := encI (List.replicate k (-1) ++ List.replicate (n - k) 0)
theorem rowR_len {n k : Nat} (h : k ≤ n) : (rowR n k).length = n := by simp [rowR, encI]; omega
theorem rowR_at {n k j : Nat} (h : j < k) : (rowR n k)[j]? = some (.int .i64 (-1)) := by
  have e : rowR n k = List.replicate k (.int .i64 (-1)) ++ List.replicate (n - k) (.int .i64 0) := by simp [rowR, encI]
  rw [e, List.getElem?_append_left (by simpa using h)]
  simp [h]
theorem rowR_splice {n k m : Nat} (h : k + m ≤ n) : splice (rowR n k) k (encI (List.replicate m (-1))) = rowR n (k + m) := by
  have e : List.replicate (n - k) (0 : Int) = List.replicate m 0 ++ List.replicate (n - (k + m)) 0 := by
    rw [List.replicate_append_replicate]; congr 1; omega
  have e2 : List.replicate (k + m) (Value.int .i64 (-1)) = List.replicate k (.int .i64 (-1)) ++ List.replicate m (.int .i64 (-1)) := List.replicate_append_replicate.symm
  unfold splice rowR
  rw [e]
  simp [encI, List.drop_append]
  rw [e2, List.append_assoc]
theorem own_blk {w : World} {base : Nat} {e : TypeId} {q : Option Addr} {n : Nat} {xs : List Value} (h : w.ownsRow base e 1 (.slice q n n) n xs) (hn : 0 < n) : ∃ g, q = some ⟨g, 0, none⟩ ∧ base ≤ g ∧ Blk w g e xs.toArray := by
  rcases h.2 with ⟨h1, h2⟩ | ⟨g, cap, cur, h1, h2, h3, h4, h5, h6, h7⟩
  · omega
  · injection h1 with h1 _ h8
    subst h8
    refine ⟨g, h1, h2, ?_⟩
    have h9 : cur.toList = xs := by rw [← h7, List.take_of_length_le (by rw [Array.length_toList, h6]; exact Nat.le_refl _)]
    unfold Blk
    rw [h3, ← h9]
theorem blk_own {w : World} {base g : Nat} {e : TypeId} {n : Nat} {xs : List Value} (h : Blk w g e xs.toArray) (hb : base ≤ g) (hm : n ≤ maxLen) (hl : xs.length = n) : w.ownsRow base e 1 (.slice (some ⟨g, 0, none⟩) n n) n xs :=
  ⟨by simpa using hl, .inr ⟨g, n, xs.toArray, rfl, hb, h, Nat.le_refl _, hm, by simpa using hl, by rw [List.take_of_length_le (by simp [hl])]⟩⟩
theorem sizeI1 : (Tryz.prog.info? 3).map (·.size) = some 1 := by kernel_rfl
/-- a copy of so many of them -/
theorem wp_copyR {w0 w : World} {ops : Array Oper} {rest : List Oper} {o : Oper} {a : Act} {Q : Exit → Act → World → Prop} (hgd : o.guard = none) (d s : Operand)
    (ho : o.op = .call { callee := .builtin .copy, args := #[d, s], argTypes := #[22, 22] }) {n k m g dc sl sc : Nat} {dp sp : Option Addr} (hd : a.eval d = .slice dp (n - k) dc) (hs : a.eval s = .slice sp sl sc)
    (hm : m = Nat.min sl (n - k)) (hk : k ≤ n) (hdp : 0 < m → dp = some ⟨g, k, none⟩) (hsp : 0 < m → ∃ ad, sp = some ad ∧ ∀ j, j < m → w.cell? (ad.add j) = some (.int .i64 (-1)))
    (HB : Blk w g 3 (rowR n k).toArray) (HE : Ext w0 w) (hg : w0.heap.size ≤ g)
    (h : ∀ w', Blk w' g 3 (rowR n (k + m)).toArray → Ext w0 w' → wpList Tryz.prog ops Q rest (a.put o.dst (.int .i64 m)) w') : wpList Tryz.prog ops Q (o :: rest) a w := by
  have hmn : k + m ≤ n := by
    have h0 : m ≤ n - k := hm ▸ Nat.min_le_right _ _
    omega
  have hl : (encI (List.replicate m (-1))).length = m := by simp [encI]
  refine wpList_copy_splice hgd d s 22 22 ho 3 Tryz.underlying22 sizeI1 dp sp (n - k) dc sl sc hd hs g k (rowR n k) 3 HB (encI (List.replicate m (-1))) (by rw [hl]; exact hm) ?_ (by rw [rowR_len hk, hl]; exact hmn) ?_ w0.heap.size w0 HE hg ?_
  · rw [hl]
    intro hm0
    obtain ⟨ad, h1, h2⟩ := hsp hm0
    refine ⟨hdp hm0, ad, h1, fun j v hj => ?_⟩
    have hj' : j < m := by have := (List.getElem?_eq_some_iff.1 hj).1; rw [hl] at this; exact this
    rw [h2 j hj']
    simp [encI, hj'] at hj
    rw [← hj]
  · intro v hv
    simp [encI] at hv
    rw [hv.2]; rfl
  · intro w' h1 h2
    rw [rowR_splice hmn] at h1
    have := h w' h1.out h2
    rw [hl]; exact this
theorem one_src {w : World} {p : Option Addr} (h : Rd w 1 p 1 (encI [-1])) : ∃ ad, p = some ad ∧ ∀ j, j < 1 → w.cell? (ad.add j) = some (.int .i64 (-1)) := by
  rcases h.ptr with h0 | ⟨b, o, rfl⟩
  · omega
  · refine ⟨_, rfl, fun j hj => ?_⟩
    obtain rfl : j = 0 := by omega
    exact h.cI (k := 0) (by omega)
theorem row_src {w : World} {g n k m : Nat} (h : Blk w g 3 (rowR n k).toArray) (hm : m ≤ k) : ∃ ad, (some ⟨g, 0, none⟩ : Option Addr) = some ad ∧ ∀ j, j < m → w.cell? (ad.add j) = some (.int .i64 (-1)) := by
  refine ⟨_, rfl, fun j hj => ?_⟩
  have := h.cell j
  rw [List.getElem?_toArray, rowR_at (by omega)] at this
  simpa [Addr.add_lit] using this
theorem copy_run {W : World} {g n k m : Nat} (hB : Blk W g 3 (rowR n k).toArray) (hk1 : 1 ≤ k) (hkn : k < n) (hm : m = Nat.min k (n - k)) :
    (Builtin.copy_ #[22, 22] 3 #[.slice (cutp (some ⟨g, 0, none⟩) n k 1) (n - k) (n - k), .slice (cutp (some ⟨g, 0, none⟩) n 0 1) k n]).run Tryz.prog W = .ok (.int .i64 m) (W.setRow g (rowR n (k + m)).toArray) := by
  have hmn : m ≤ n - k := hm ▸ Nat.min_le_right _ _
  have hmk : m ≤ k := hm ▸ Nat.min_le_left _ _
  have e1 : cutp (some ⟨g, 0, none⟩) n k 1 = some ⟨g, k, none⟩ := by unfold cutp; rw [if_neg (by omega)]; simp [Addr.add_lit]
  have e2 : cutp (some ⟨g, 0, none⟩) n 0 1 = some ⟨g, 0, none⟩ := by unfold cutp; rw [if_neg (by omega)]; simp [Addr.add_lit]
  have hl : (encI (List.replicate m (-1))).length = m := by simp [encI]
  rw [e1, e2]
  have h := run_copy_row (P := Tryz.prog) W 22 22 3 3 g k (n - k) (n - k) ⟨g, 0, none⟩ k n (rowR n k).toArray 3 (encI (List.replicate m (-1))) Tryz.underlying22 sizeI1 hB (by rw [hl]; exact hm) (fun j v hj => by
    have hj' : j < m := by have := (List.getElem?_eq_some_iff.1 hj).1; rw [hl] at this; exact this
    have h1 := hB.cell j
    rw [List.getElem?_toArray, rowR_at (by omega)] at h1
    simp [encI, hj'] at hj
    rw [← hj]
    simpa [Addr.add_lit] using h1) (by rw [hl]; simp [rowR_len (Nat.le_of_lt hkn)]; omega) (by intro v hv; simp [encI] at hv; rw [hv.2]; rfl)
  rw [h, hl]
  have e3 : (rowR n k).toArray.toList.take k ++ (encI (List.replicate m (-1)) ++ (rowR n k).toArray.toList.drop (k + m)) = rowR n (k + m) := by
    have := rowR_splice (n := n) (k := k) (m := m) (by omega)
    unfold splice at this
    rw [hl] at this
    exact this
  rw [List.append_assoc, e3]; rfl
set_option maxRecDepth 100000 in
set_option maxHeartbeats 4000000 in
theorem repeatG (n : Nat) (h1 : 1 ≤ n) (hn : n ≤ 200) (p : Option Addr) (c : Nat) (w : World) (hx : Rd w 1 p 1 (encI [-1])) :
    Calls Tryz.prog 29 #[.slice p 1 c, .int .i64 n] w fun e w' => ∃ q, e = .returned (.slice q n n) ∧ Sep w w' [.own 3 1 q n n (encI (List.replicate n (-1)))] := by
  obtain ⟨i0, hi0, hz0, hz1, hz2⟩ := info_parts infI
  have HM := Lib.hid (fun W => mulOne n (by omega) W)
  have d1 : decide ((n:Int) < 0) = false := by simp
  have d2 : decide ((9223372036854775807:Int) < n) = false := by simp; omega
  go_enter Tryz.func29, Tryz.ntmps29
  go_wp2_with (first
    | (at_make; go_must (refine wpList_make_sep rfl _ _ _ rfl 3 i0 _ 1 Tryz.underlying22 hi0 hz0 hz1 (n:Int) n rfl rfl rfl (by rw [hz2]; omega) (by unfold maxLen; omega) S1.out ?_; intro w2 S'; rw [made_encI] at S'; have S2 := Lib.hid S'; clear S'; obtain ⟨g, hq, hg, hB⟩ := own_blk (S2.out.own 0 rfl) (by omega); rw [hq]; have HB : Hid (Blk w2 g 3 (rowR n 0).toArray) := hB; have HE := Lib.hid S2.out.ext; have HX := Lib.hid (hx.ext S2.out.ext); clear hq hB S2 S1))
    | (have _t := HB; with_reducible show wpList _ _ _ (⟨some 33, _, _, _, _, _⟩ :: _) _ _; go_must (refine wp_copyR rfl (.tmp 31) (.tmp 32) rfl (n := n) (k := 0) (m := 1) (g := g) (dp := some ⟨g, 0, none⟩) (sp := p) (sl := 1) (sc := c) (dc := n) rfl rfl (by show 1 = min 1 (n - 0); omega) (Nat.zero_le _) (fun _ => rfl) (fun _ => one_src HX.out) HB.out HE.out hg ?_; intro w3 h3 h4; rw [Nat.zero_add] at h3; have HB3 := Lib.hid h3; have HE3 := Lib.hid h4; clear h3 h4))
    | (go_at_call 46; go_must (refine (HM.out _).mono ?_; rintro e w1 ⟨rfl, hb⟩; have S1 := Lib.hid ((Sep.start w).call hb); clear hb)))
  go_loopg [8] n (fun gg v wr => ∃ k : Nat, 1 ≤ k ∧ k ≤ n ∧ n ≤ k + gg ∧ v = .int .i64 k ∧ Hid (Blk wr g 3 (rowR n k).toArray) ∧ Ext w wr)
  case atStart => exact ⟨1, Nat.le_refl _, h1, by omega, rfl, HB3.out, HE3.out⟩
  case round =>
    clear HB3 HE3
    obtain ⟨k, hk1, hk, hgg, rfl, HBk, hE⟩ := hrel
    have HE := Lib.hid hE
    clear hE
    by_cases hlt : k < n
    · have d3 : (k:Int) < n := by omega
      have d4 : (0:Int) ≤ k := by omega
      have d5 : (k:Int) ≤ n := by omega
      obtain ⟨m, hm⟩ : ∃ m, m = Nat.min k (n - k) := ⟨_, rfl⟩
      have hm1 : 1 ≤ m := by rw [hm]; show 1 ≤ min k (n - k); omega
      have hm2 : k + m ≤ n := by
        have h0 : m ≤ n - k := hm ▸ Nat.min_le_right _ _
        omega
      have hrun := copy_run (W := wr.drew) HBk.out hk1 hlt hm
      have HB5 : Hid (Blk (wr.drew.setRow g (rowR n (k + m)).toArray) g 3 (rowR n (k + m)).toArray) := setRow_heap wr.drew g _ _ 3 _ HBk.out
      have HE5 : Hid (Ext w (wr.drew.setRow g (rowR n (k + m)).toArray)) := below_setRow (Below.drew HE.out) hg _
      have hwr : IntKind.i64.wrap ((k:Int) + (m:Int)) = ((k + m : Nat) : Int) := by
        rw [Int.natCast_add]
        rw [IntKind.wrap_i64]; omega
      clear hm
      go_wp2
      go_region_with fail
      go_wp2
      go_roundg (gk - m)
      case measure => omega
      case rel => exact ⟨k + m, by omega, by omega, by omega, by first | rfl | (rw [hwr]) | go_num, HB5.out, HE5.out⟩
    · obtain rfl : n = k := by omega
      have e : rowR n n = encI (List.replicate n (-1)) := by unfold rowR; rw [Nat.sub_self, List.replicate_zero, List.append_nil]
      have HBn := HBk.out
      rw [e] at HBn
      have HBn' := Lib.hid HBn
      clear HBn e
      go_wp2
      go_ret
      exact ⟨_, rfl, Sep.of_own HE.out (blk_own (n := n) HBn'.out hg (by unfold maxLen; omega) (by simp [encI]))⟩
end Go.Proofs.YtblghmfhchlllaaGreat
/- The program's levels (chapter 7): Levels. -/
namespace Go.Proofs.YtblghmfhchlllaaGreat
open Go Go.RowKit Go.Shelf Go.Lib
attribute [local go_sem] Oper.semAt_some
theorem levC_open {ck : Bool} {O : List Int} {s : Int} : openC ck O [s] = levC ck O s := by
  unfold openC levC
  cases ck with
  | false => rfl
  | true =>
    rw [if_pos rfl, if_pos rfl]
    by_cases h : 0 ≤ s ∧ s < (O.length : Int) - 1
    · rw [if_pos h, if_pos (by simp [h.1, h.2])]
    · rw [if_neg h, if_neg (by simp; omega)]
/-- what is known of levels when these have been gone through -/
def levRow (f : Nat → Int) (n : Nat) (ks : List Nat) : List Int := (List.range n).map fun v => if 0 ≤ f v ∧ (f v).toNat ∈ ks then f v else -1
theorem levRow_len (f : Nat → Int) (n : Nat) (ks : List Nat) : (levRow f n ks).length = n := by simp [levRow]
theorem levRow_nth {f : Nat → Int} {n : Nat} {ks : List Nat} {v : Nat} (hv : v < n) : nth (levRow f n ks) v = if 0 ≤ f v ∧ (f v).toNat ∈ ks then f v else -1 := by
  rw [nth_eq (by rw [levRow_len]; exact hv)]; simp [levRow]
theorem levRow_nil (f : Nat → Int) (n : Nat) : levRow f n [] = List.replicate n (-1) := by
  apply List.ext_getElem
  · simp [levRow]
  · intro j h1 h2; simp [levRow]
theorem levRow_step {f : Nat → Int} {n : Nat} {ks : List Nat} {k : Nat} {F : List Int} (hF : IsFront f n k F) : tkR (k : Int) F (levRow f n ks) = levRow f n (ks ++ [k]) := by
  apply List.ext_getElem
  · rw [tkR_len, levRow_len, levRow_len]
  · intro v h1 h2
    have hv : v < n := by rw [levRow_len] at h2; exact h2
    rw [← nth_eq h1, ← nth_eq h2, tkR_nth (fun x hx => by have := (hF.2 x).1 hx; rw [levRow_len]; omega), levRow_nth hv, levRow_nth hv]
    by_cases hm : (v : Int) ∈ F
    · have := (hF.2 _).1 hm
      rw [Int.toNat_natCast] at this
      rw [if_pos hm, if_pos ⟨by omega, by rw [List.mem_append]; right; simp; omega⟩]; omega
    · rw [if_neg hm]
      have hne : f v ≠ k := fun e => hm ((hF.2 _).2 ⟨by omega, by omega, by rw [Int.toNat_natCast]; exact e⟩)
      by_cases h0 : 0 ≤ f v
      · have e : ((f v).toNat ∈ ks ++ [k]) ↔ (f v).toNat ∈ ks := by
          rw [List.mem_append, List.mem_singleton]
          constructor
          · rintro (h | h)
            · exact h
            · omega
          · exact .inl
        simp only [e]
      · rw [if_neg (fun h => h0 h.1), if_neg (fun h => h0 h.1)]
theorem levRow_all {nx : Nat → List Int} {n s m : Nat} (hs : s < n) (hno : hasL n (lev nx n s) m = false) : levRow (lev nx n s) n (List.range m) = (List.range n).map fun v => lev nx n s v := by
  unfold levRow
  apply List.map_congr_left
  intro v hv
  rw [List.mem_range] at hv
  rcases lev_cases (nx := nx) hs hv with ⟨h1, _⟩ | ⟨j, hj, h1, _⟩
  · rw [if_neg (by omega), h1]
  · by_cases hjm : j < m
    · rw [if_pos ⟨by omega, by rw [List.mem_range]; omega⟩]
    · have := has_below hs (k := j) (j := m) (by omega) (hasL_iff.2 ⟨v, hv, h1⟩)
      rw [hno] at this; cases this
theorem cell_turn {W W' : World} {row : Option Nat} {p : Addr} {v : Value} (h : W.cell? p = some v) (hg : W.grownBy W' row) (hr : ∀ r, row = some r → ∃ o : Obj, W.heap[r]? = some o ∧ o.isCells = false) : W'.cell? p = some v := by
  have hlt := World.block_lt_of_cell? W _ h
  have e : W'.heap[p.block]? = W.heap[p.block]? := hg.block p.block hlt fun e => by
    obtain ⟨o, h1, h2⟩ := hr p.block e.symm
    unfold World.cell? at h
    rw [h1] at h
    cases o <;> simp_all [Obj.isCells]
  unfold World.cell? at *
  rw [e]; exact h
theorem ylA_own {nx : Nat → List Int} {n s B C : Nat} : OwnFrom C (ylA B : YlOf nx n s → World → Prop) := fun _ _ W' _ h hg hr =>
  ⟨⟨h.1.len, h.1.ptr, h.1.small, fun j hj => cell_turn (h.1.cells j hj) hg fun r e => (hr r e).2⟩, h.2⟩
theorem kpF_b {w4 : World} {n₀ b1 b2 b3 : Nat} (hn : n₀ ≤ w4.heap.size) (h1 : b1 < w4.heap.size) (h2 : b2 < w4.heap.size) (h3 : b3 < w4.heap.size) (W : World) (l : Nat) (o o' : Obj) (hl : w4.heap.size ≤ l) (h : W.heap[l]? = some o) (hc : o.isCells = false) (hw : o.isWalk = false) : KpF n₀ w4.heap.size b1 b2 b3 W (W.putObj l o') :=
  ⟨belowK_b hn W l o o' hl h hc hw, World.putObj_heap_other (by omega), World.putObj_heap_other (by omega), World.putObj_heap_other (by omega), fun k o2 hk h2 h3 => by
    by_cases e : k = l
    · subst e; rw [h] at h2; cases h2; rw [hc] at h3; cases h3
    · rw [World.putObj_heap_other (by omega)]; exact h2⟩
set_option maxRecDepth 100000 in
set_option maxHeartbeats 4000000 in
theorem LevelsG_no (po : Option Addr) (no co : Nat) (O : List Int) (pt : Option Addr) (nt ct : Nat) (T : List Int) (pr : Option Addr) (nr cr : Nat) (R : List Int) (pv : Option Addr) (nv cv : Nat) (V : List Int) (s : Int) (back : Bool) (w : World) (hO : Rd w 1 po no (encI O)) (hT : Rd w 1 pt nt (encI T)) (hR : Rd w 1 pr nr (encI R)) (hV : Rd w 1 pv nv (encI V)) (hct : nt ≤ ct) (hcv : nv ≤ cv) (hc : levC (checkR O T R V) O s ≠ 0) :
    Calls Tryz.prog 11 #[.agg #[.slice po no co, .slice pt nt ct, .slice pr nr cr, .slice pv nv cv], .int .i64 s, .bool back] w fun e w' => e = .returned (.tuple #[.slice none 0 0, .int .i64 (levC (checkR O T R V) O s)]) ∧ Ext w w' := by
  have S0 := Lib.hid (((Sep.start w).al #[.slice po no co, .slice pt nt ct, .slice pr nr cr, .slice pv nv cv] 24 w.heap.size rfl).al #[.int .i64 s] 3 (w.heap.size + 1) (by simp))
  have HOp := Lib.hid (fun W1 p c (h : Ext w W1) (hl : Rd W1 1 p 1 (encI [s])) => openL po no co O pt nt ct T pr nr cr R pv nv cv V p 1 c [s] W1 (hO.ext h) (hT.ext h) (hR.ext h) (hV.ext h) hct hcv hl)
  rw [levC_open] at HOp
  generalize levC (checkR O T R V) O s = cc at *
  have hc0 : (cc != 0) = true := by simpa using hc
  clear hO hT hR hV hct hcv hc
  go_enter Tryz.func11, Tryz.ntmps11
  go_wp2_with (go_at_call 28; go_must (refine (HOp.out _ _ _ S0.out.ext ((S0.out.blk 0 rfl).rd rfl rfl (by decide))).mono ?_; rintro e w1 ⟨rfl, hb⟩; have S1 := Lib.hid (S0.out.call hb); clear hb))
  go_ret2
  exact ⟨rfl, (S1.out.al #[.slice po no co, .slice pt nt ct, .slice pr nr cr, .slice pv nv cv] 57 w1.heap.size rfl).ext⟩
theorem cell_eq {W W' : World} {p : Addr} (h : W'.heap[p.block]? = W.heap[p.block]?) : W'.cell? p = W.cell? p := by unfold World.cell?; rw [h]
set_option maxRecDepth 100000 in
set_option maxHeartbeats 16000000 in
theorem LevelsG_out (po : Option Addr) (no co : Nat) (O : List Int) (pt : Option Addr) (nt ct : Nat) (T : List Int) (pr : Option Addr) (nr cr : Nat) (R : List Int) (pv : Option Addr) (nv cv : Nat) (V : List Int) (n s : Nat) (w : World) (hO : Rd w 1 po no (encI O)) (hT : Rd w 1 pt nt (encI T)) (hR : Rd w 1 pr nr (encI R)) (hV : Rd w 1 pv nv (encI V)) (hct : nt ≤ ct) (hcv : nv ≤ cv) (hck : checkR O T R V = true) (hno : O.length = n + 1) (hs : s < n) :
    Calls Tryz.prog 11 #[.agg #[.slice po no co, .slice pt nt ct, .slice pr nr cr, .slice pv nv cv], .int .i64 s, .bool false] w fun e w' => ∃ q c, e = .returned (.tuple #[.slice q n c, .int .i64 0]) ∧ Sep w w' [.own 3 1 q n c (encI ((List.range n).map fun v => lev (rowL O T) n s v))] := by
  have S0 := Lib.hid (((Sep.start w).al #[.slice po no co, .slice pt nt ct, .slice pr nr cr, .slice pv nv cv] 24 w.heap.size rfl).al #[.int .i64 s] 3 (w.heap.size + 1) (by simp))
  have HOp := Lib.hid (fun W1 p c (h : Ext w W1) (hl : Rd W1 1 p 1 (encI [(s:Int)])) => openL po no co O pt nt ct T pr nr cr R pv nv cv V p 1 c [(s:Int)] W1 (hO.ext h) (hT.ext h) (hR.ext h) (hV.ext h) hct hcv hl)
  have hl0 : levC (checkR O T R V) O s = 0 := by unfold levC; rw [if_pos hck, if_pos (by omega)]
  rw [levC_open, hl0] at HOp
  obtain ⟨e1, e2, e3, e4⟩ := checkR_half hck
  have r := offB_parts (halfB_off e3)
  have hn : n ≤ 200 := by omega
  have hin : InN (rowL O T) n := by have := nxR_in hck false; rw [hno] at this; exact this
  have l1 := hO.nI
  have hnn : no = n + 1 := by omega
  have hA0 : 0 < no → (adr po 0).block < w.heap.size := fun h => hO.lt (by omega)
  have hB0 : 0 < nt → (adr pt 0).block < w.heap.size := fun h => hT.lt (by omega)
  have HNX : Hid (∀ w4, Ext w w4 → ∀ k, k < n → ∃ q c, ∀ W, Below w.heap.size w4 W → Rd W 1 q ((rowL O T) k).length (encI ((rowL O T) k)) ∧ Calls Tryz.prog 50 #[.agg #[.slice po no co, .slice pt nt ct, .slice pr nr cr, .slice pv nv cv], .int .i64 k] W fun e w' => e = .returned (.slice q ((rowL O T) k).length c) ∧ Ext W w') := fun w4 h4 k hk => by
    have hok := offOk_of (halfB_off e3)
    have hkl : k + 1 < O.length := by omega
    refine ⟨cutp pt ct (nth O k).toNat 1, ct - (nth O k).toNat, fun W hW => ?_⟩
    have hx := (hO.ext h4).below hW (by simpa using hA0)
    have hy := (hT.ext h4).below hW (by simpa using hB0)
    refine ⟨?_, waysOut po no co O pt nt ct T pr nr cr R pv nv cv V k W hx hy hok hct hkl⟩
    have := hy.rowOf hok hct hkl
    rw [← rowL_len hok hkl] at this
    exact this
  have HIN := Lib.hid hin
  have HSZ := Lib.hid (fun W => waysSize po (n + 1) co pt nt ct pr nr cr pv nv cv W (by omega) (by omega))
  have HFR := Lib.hid (fun W => frontsG po (n + 1) co pt nt ct pr nr cr pv nv cv s false W)
  clear hO hT hR hV hct hcv hck hno hl0 e1 e2 e3 e4 r l1 hA0 hB0 hin
  subst hnn
  generalize rowL O T = nx at *
  refine (callsIn_wide (n := 9)).1 ?_
  refine callsIn_of_wp_marks Tryz.func11 rfl trivial ?_ rfl
  simp only [Tryz.ntmps11, List.size_toArray, List.length_cons, List.length_nil, Nat.reduceAdd, Nat.reduceSub, Array.replicate_succ, Array.replicate_zero, List.push_toArray, List.append_toArray, List.nil_append, List.cons_append]
  refine wpIn_wide.2 ?_
  go_wp2_with (first
    | (go_at_call 31; go_must (refine (HFR.out _).mono ?_; rintro e w4 ⟨b1, b2, b3, rfl, Z⟩; have S4 := Lib.hid (S3.out.comp Z); clear Z))
    | (go_at_call 29; go_must (refine (repeatG n (by omega) hn _ _ _ ((S2.out.blk 0 rfl).rd rfl rfl (by decide))).mono ?_; rintro e w3 ⟨q, rfl, Z⟩; have S3 := Lib.hid ((S2.out.comp Z).al #[.slice q n n] 22 w3.heap.size rfl); have yz := (S3.out.blk 3 rfl).lt; have y0 := (S3.out.blk 3 rfl).cell 0; have y1 := (S3.out.blk 3 rfl).cell 1; have y2 := (S3.out.blk 3 rfl).cell 2; have y3 := (S3.out.blk 3 rfl).cell 3; clear Z))
    | (go_at_call 30; go_must (refine (HSZ.out _).mono ?_; rintro e w2 ⟨rfl, hb⟩; have S2 := Lib.hid (((S1.out.al #[.slice po (n + 1) co, .slice pt nt ct, .slice pr nr cr, .slice pv nv cv] 57 w1.heap.size rfl).al #[.int .i64 (-1)] 3 (w1.heap.size + 1) (by simp)).call hb); clear hb))
    | (go_at_call 28; go_must (refine (HOp.out _ _ _ S0.out.ext ((S0.out.blk 0 rfl).rd rfl rfl (by decide))).mono ?_; rintro e w1 ⟨rfl, hb⟩; have S1 := Lib.hid (S0.out.call hb); clear hb)))
  clear S0 S1 S2 S3 y0 y1 y2 y3 yz
  generalize w3.heap.size = g at *
  have S5 := Lib.hid (S4.out.pick [0, 1, 2, 3, 4] (by decide) rfl : Sep w w4 [.blk b3 66 #[.func (.func 50) #[.agg #[.slice po (n + 1) co, .slice pt nt ct, .slice pr nr cr, .slice pv nv cv]] #[]], .blk b2 3 #[.int .i64 s], .blk b1 57 #[.slice po (n + 1) co, .slice pt nt ct, .slice pr nr cr, .slice pv nv cv], .blk g 22 #[.slice q n n], .own 3 1 q n n (encI (List.replicate n (-1)))])
  rw [← levRow_nil (lev nx n s) n] at S5
  clear S4 HOp HSZ HFR
  refine wpIn_wide.1 (wpIn_rangeFunc_told (F := Fence.wide) (n := 9) rfl (by omega) (gf := 47) (lb := #[.pointer (some ⟨b1, 0, none⟩), .pointer (some ⟨b2, 0, none⟩), .pointer (some ⟨b3, 0, none⟩)]) rfl trivial (enters_of Tryz.func47 (by kernel_rfl) rfl)
    (fronts_out 8 (by omega) po (n + 1) co pt nt ct pr nr cr pv nv cv b1 b2 b3 w.heap.size n s nx w4 S5.out.ext.size (S5.out.blk 2 rfl) (S5.out.blk 1 rfl) (S5.out.blk 0 rfl) hs hn rfl HIN.out (HNX.out w4 S5.out.ext))
    (fun h k => KpF.trans h k) (kpF_b S5.out.ext.size (S5.out.blk 2 rfl).lt (S5.out.blk 1 rfl).lt (S5.out.blk 0 rfl).lt) (Below.refl _ _) (fun _ => rfl)
    (fun pre W => Sep w W [.blk b3 66 #[.func (.func 50) #[.agg #[.slice po (n + 1) co, .slice pt nt ct, .slice pr nr cr, .slice pv nv cv]] #[]], .blk b2 3 #[.int .i64 s], .blk b1 57 #[.slice po (n + 1) co, .slice pt nt ct, .slice pr nr cr, .slice pv nv cv], .blk g 22 #[.slice q n n], .own 3 1 q n n (encI (levRow (lev nx n s) n (pre.map (·.1.k))))])
    (fun _ _ _ => False)
    ?hI (fun _ _ _ _ _ _ _ _ h => h) ylA_own S5.out ?a1 ?assign ?body ?done (fun D c pre W _ _ h _ => h.elim))
  case hI =>
    intro pre Z W W' hZ h1 h2 S
    refine S.far S5.out.ext.size hZ h1 h2 fun p hp k hk => ?_
    simp only [List.mem_cons, List.not_mem_nil, or_false] at hp
    rcases hp with rfl | rfl | rfl | rfl | rfl
    · exact S5.out.lt (List.mem_of_getElem? (i := 0) rfl) hk
    · exact S5.out.lt (List.mem_of_getElem? (i := 1) rfl) hk
    · exact S5.out.lt (List.mem_of_getElem? (i := 2) rfl) hk
    · exact S5.out.lt (List.mem_of_getElem? (i := 3) rfl) hk
    · exact S5.out.lt (List.mem_of_getElem? (i := 4) rfl) hk
  case assign =>
    intro l x W K hK
    simp only [ylE]
    gi_wp2
    exact hK
  case body =>
    rintro l pre ⟨⟨k, F, q', c'⟩, hF, lf⟩ W S ⟨hR, hBk⟩ hlen
    have hRd : Rd W 1 q' F.length (encI F) := hR
    have hblk : w4.heap.size ≤ (adr q' 0).block := hBk
    have HF := Lib.hid (show IsFront (lev nx n s) n k F from hF)
    have bF := Lib.hid (front_bd8 HF.out)
    have hF200 : F.length ≤ 200 := by have := bF.out.2; omega
    have pF := hRd.ptr
    have HR := Lib.hid hRd
    have hqb := S5.out.blt 4 rfl (by omega)
    have HS := Lib.hid S
    obtain ⟨X, hX⟩ : ∃ X, X = levRow (lev nx n s) n (pre.map (·.1.k)) := ⟨_, rfl⟩
    have hXl : X.length = n := by rw [hX, levRow_len]
    have HX : Hid (tkR (k:Int) F X = levRow (lev nx n s) n ((pre ++ [(⟨⟨k, F, q', c'⟩, hF, lf⟩ : YlOf nx n s)]).map (·.1.k))) := by
      unfold Hid; rw [List.map_append, hX]; exact levRow_step HF.out
    rw [← hX] at HS
    generalize (pre ++ [(⟨⟨k, F, q', c'⟩, hF, lf⟩ : YlOf nx n s)]) = pre2 at *
    clear hX S hR hBk hRd hlen
    gi_wp2
    gi_loopw [14, 37] (fun _ v37 wx => ∃ j : Nat, j ≤ F.length ∧ v37 = .int .i64 j ∧ Sep w wx [.blk b3 66 #[.func (.func 50) #[.agg #[.slice po (n + 1) co, .slice pt nt ct, .slice pr nr cr, .slice pv nv cv]] #[]], .blk b2 3 #[.int .i64 s], .blk b1 57 #[.slice po (n + 1) co, .slice pt nt ct, .slice pr nr cr, .slice pv nv cv], .blk g 22 #[.slice q n n], .own 3 1 q n n (encI (tkR (k:Int) (F.take j) X))] ∧ W.heap.size ≤ wx.heap.size ∧ Hid (∀ kk, w4.heap.size ≤ kk → wx.heap[kk]? = W.heap[kk]?)) (fun _ v37 _ => F.length - (intOf v37).toNat)
    case atStart => exact ⟨0, Nat.zero_le _, rfl, HS.out, Nat.le_refl _, fun _ _ => rfl⟩
    case round =>
      obtain ⟨j, hj, rfl, S, hsz, hup⟩ := hrel
      have g0 := (S.blk 3 rfl).cell 0
      have gz := (S.blk 3 rfl).lt
      have pq := (S.rdx 4 rfl).ptr
      by_cases hlj : j < F.length
      · have g1 := HR.out.cI hlj
        rw [← cell_eq (W' := wr) (by rw [adr_block]; exact hup.out _ hblk)] at g1
        obtain ⟨f1, f2⟩ := bF.out.1 _ (nth_mem hlj)
        have hT := tkR_take (c := (k:Int)) (X := X) hlj
        obtain ⟨a, ha⟩ : ∃ a : Nat, nth F j = (a : Int) := ⟨(nth F j).toNat, by omega⟩
        rw [ha] at g1 f1 f2 hT
        rw [Int.toNat_natCast] at hT
        have HT := Lib.hid hT
        have d1 : (0:Int) ≤ j := by omega
        have d2 : (j:Int) < F.length := by omega
        have fz := own_frozen (S.own 4 rfl) (by omega) a
        have cz := own_cell (S.own 4 rfl) (k := a) (by omega)
        have HU : Hid (∀ kk, w4.heap.size ≤ kk → (wr.setCell (adr q a) (.int .i64 k)).heap[kk]? = W.heap[kk]?) := fun kk hk => by
          rw [Below.heap_setCell wr (adr q a) _ kk (by rw [adr_block]; omega)]; exact hup.out kk hk
        have SH := Lib.hid S; clear S
        clear hT ha
        gi_wp2
        go_roundw
        case rel => exact ⟨j + 1, by omega, by go_num, by rw [HT.out, ← encI_set]; exact SH.out.setRow 4 rfl a (by omega) (.int .i64 k), by simpa using hsz, HU.out⟩
        case measure => simp [intOf]; omega
      · obtain rfl : j = F.length := by omega
        rw [List.take_length, HX.out] at S
        have SH := Lib.hid S; clear S
        gi_wp2
        exact ⟨⟨hsz, fun kk o hB ho _ => (hup.out kk hB).trans ho⟩, ⟨⟨SH.out.ext.os.trans HS.out.ext.os.symm, SH.out.ext.tape.trans HS.out.ext.tape.symm, SH.out.ext.output.trans HS.out.ext.output.symm, hsz, fun kk hk => (SH.out.ext.block kk hk).trans (HS.out.ext.block kk hk).symm⟩, (SH.out.blk 2 rfl).trans (HS.out.blk 2 rfl).symm, (SH.out.blk 1 rfl).trans (HS.out.blk 1 rfl).symm, (SH.out.blk 0 rfl).trans (HS.out.blk 0 rfl).symm, fun kk o hB ho _ => (hup.out kk hB).trans ho⟩, SH.out⟩
  case done =>
    rintro D ys W hD hys S hK
    rw [hys.1, levRow_all hs hys.2] at S
    have c4 := (S.blk 3 rfl).cell 0
    have S' := S.putObj (cells_all fun p hp => by
      simp only [List.mem_cons, List.not_mem_nil, or_false] at hp
      rcases hp with rfl | rfl | rfl | rfl | rfl
      · exact .inl ⟨_, _, _, rfl⟩
      · exact .inl ⟨_, _, _, rfl⟩
      · exact .inl ⟨_, _, _, rfl⟩
      · exact .inl ⟨_, _, _, rfl⟩
      · exact .inr ⟨_, _, _, _, _, _, rfl⟩) (.deferred none) (Nat.le_trans S5.out.ext.size hD) hK rfl
    have SH := Lib.hid S; clear S
    have SH' := Lib.hid S'; clear S'
    go_wp2
    refine ⟨by simp, .inl ⟨_, _, rfl, run_takeDeferred hK, ?_⟩⟩
    exact ⟨.tuple #[.slice q n n, .int .i64 0], by simp [results, Tryz.results11, go_sem], q, n, rfl, SH'.out.pick [4] (by decide) rfl⟩
set_option maxRecDepth 100000 in
set_option maxHeartbeats 16000000 in
theorem LevelsG_in (po : Option Addr) (no co : Nat) (O : List Int) (pt : Option Addr) (nt ct : Nat) (T : List Int) (pr : Option Addr) (nr cr : Nat) (R : List Int) (pv : Option Addr) (nv cv : Nat) (V : List Int) (n s : Nat) (w : World) (hO : Rd w 1 po no (encI O)) (hT : Rd w 1 pt nt (encI T)) (hR : Rd w 1 pr nr (encI R)) (hV : Rd w 1 pv nv (encI V)) (hct : nt ≤ ct) (hcv : nv ≤ cv) (hck : checkR O T R V = true) (hno : O.length = n + 1) (hs : s < n) :
    Calls Tryz.prog 11 #[.agg #[.slice po no co, .slice pt nt ct, .slice pr nr cr, .slice pv nv cv], .int .i64 s, .bool true] w fun e w' => ∃ q c, e = .returned (.tuple #[.slice q n c, .int .i64 0]) ∧ Sep w w' [.own 3 1 q n c (encI ((List.range n).map fun v => lev (rowL R V) n s v))] := by
  have S0 := Lib.hid (((Sep.start w).al #[.slice po no co, .slice pt nt ct, .slice pr nr cr, .slice pv nv cv] 24 w.heap.size rfl).al #[.int .i64 s] 3 (w.heap.size + 1) (by simp))
  have HOp := Lib.hid (fun W1 p c (h : Ext w W1) (hl : Rd W1 1 p 1 (encI [(s:Int)])) => openL po no co O pt nt ct T pr nr cr R pv nv cv V p 1 c [(s:Int)] W1 (hO.ext h) (hT.ext h) (hR.ext h) (hV.ext h) hct hcv hl)
  have hl0 : levC (checkR O T R V) O s = 0 := by unfold levC; rw [if_pos hck, if_pos (by omega)]
  rw [levC_open, hl0] at HOp
  obtain ⟨e1, e2, e3, e4⟩ := checkR_half hck
  have r := offB_parts (halfB_off e3)
  have hn : n ≤ 200 := by omega
  have hin : InN (rowL R V) n := by have := nxR_in hck true; rw [hno] at this; exact this
  have l1 := hO.nI
  have hnn : no = n + 1 := by omega
  have hA0 : 0 < nr → (adr pr 0).block < w.heap.size := fun h => hR.lt (by omega)
  have hB0 : 0 < nv → (adr pv 0).block < w.heap.size := fun h => hV.lt (by omega)
  have HNX : Hid (∀ w4, Ext w w4 → ∀ k, k < n → ∃ q c, ∀ W, Below w.heap.size w4 W → Rd W 1 q ((rowL R V) k).length (encI ((rowL R V) k)) ∧ Calls Tryz.prog 49 #[.agg #[.slice po no co, .slice pt nt ct, .slice pr nr cr, .slice pv nv cv], .int .i64 k] W fun e w' => e = .returned (.slice q ((rowL R V) k).length c) ∧ Ext W w') := fun w4 h4 k hk => by
    have hok := offOk_of (halfB_off e4)
    have hkl : k + 1 < R.length := by omega
    refine ⟨cutp pv cv (nth R k).toNat 1, cv - (nth R k).toNat, fun W hW => ?_⟩
    have hx := (hR.ext h4).below hW (by simpa using hA0)
    have hy := (hV.ext h4).below hW (by simpa using hB0)
    refine ⟨?_, waysIn po no co O pt nt ct T pr nr cr R pv nv cv V k W hx hy hok hcv hkl⟩
    have := hy.rowOf hok hcv hkl
    rw [← rowL_len hok hkl] at this
    exact this
  have HIN := Lib.hid hin
  have HSZ := Lib.hid (fun W => waysSize po (n + 1) co pt nt ct pr nr cr pv nv cv W (by omega) (by omega))
  have HFR := Lib.hid (fun W => frontsG po (n + 1) co pt nt ct pr nr cr pv nv cv s true W)
  clear hO hT hR hV hct hcv hck hno hl0 e1 e2 e3 e4 r l1 hA0 hB0 hin
  subst hnn
  generalize rowL R V = nx at *
  refine (callsIn_wide (n := 9)).1 ?_
  refine callsIn_of_wp_marks Tryz.func11 rfl trivial ?_ rfl
  simp only [Tryz.ntmps11, List.size_toArray, List.length_cons, List.length_nil, Nat.reduceAdd, Nat.reduceSub, Array.replicate_succ, Array.replicate_zero, List.push_toArray, List.append_toArray, List.nil_append, List.cons_append]
  refine wpIn_wide.2 ?_
  go_wp2_with (first
    | (go_at_call 31; go_must (refine (HFR.out _).mono ?_; rintro e w4 ⟨b1, b2, b3, rfl, Z⟩; have S4 := Lib.hid (S3.out.comp Z); clear Z))
    | (go_at_call 29; go_must (refine (repeatG n (by omega) hn _ _ _ ((S2.out.blk 0 rfl).rd rfl rfl (by decide))).mono ?_; rintro e w3 ⟨q, rfl, Z⟩; have S3 := Lib.hid ((S2.out.comp Z).al #[.slice q n n] 22 w3.heap.size rfl); have yz := (S3.out.blk 3 rfl).lt; have y0 := (S3.out.blk 3 rfl).cell 0; have y1 := (S3.out.blk 3 rfl).cell 1; have y2 := (S3.out.blk 3 rfl).cell 2; have y3 := (S3.out.blk 3 rfl).cell 3; clear Z))
    | (go_at_call 30; go_must (refine (HSZ.out _).mono ?_; rintro e w2 ⟨rfl, hb⟩; have S2 := Lib.hid (((S1.out.al #[.slice po (n + 1) co, .slice pt nt ct, .slice pr nr cr, .slice pv nv cv] 57 w1.heap.size rfl).al #[.int .i64 (-1)] 3 (w1.heap.size + 1) (by simp)).call hb); clear hb))
    | (go_at_call 28; go_must (refine (HOp.out _ _ _ S0.out.ext ((S0.out.blk 0 rfl).rd rfl rfl (by decide))).mono ?_; rintro e w1 ⟨rfl, hb⟩; have S1 := Lib.hid (S0.out.call hb); clear hb)))
  clear S0 S1 S2 S3 y0 y1 y2 y3 yz
  generalize w3.heap.size = g at *
  have S5 := Lib.hid (S4.out.pick [0, 1, 2, 3, 4] (by decide) rfl : Sep w w4 [.blk b3 66 #[.func (.func 49) #[.agg #[.slice po (n + 1) co, .slice pt nt ct, .slice pr nr cr, .slice pv nv cv]] #[]], .blk b2 3 #[.int .i64 s], .blk b1 57 #[.slice po (n + 1) co, .slice pt nt ct, .slice pr nr cr, .slice pv nv cv], .blk g 22 #[.slice q n n], .own 3 1 q n n (encI (List.replicate n (-1)))])
  rw [← levRow_nil (lev nx n s) n] at S5
  clear S4 HOp HSZ HFR
  refine wpIn_wide.1 (wpIn_rangeFunc_told (F := Fence.wide) (n := 9) rfl (by omega) (gf := 47) (lb := #[.pointer (some ⟨b1, 0, none⟩), .pointer (some ⟨b2, 0, none⟩), .pointer (some ⟨b3, 0, none⟩)]) rfl trivial (enters_of Tryz.func47 (by kernel_rfl) rfl)
    (fronts_in 8 (by omega) po (n + 1) co pt nt ct pr nr cr pv nv cv b1 b2 b3 w.heap.size n s nx w4 S5.out.ext.size (S5.out.blk 2 rfl) (S5.out.blk 1 rfl) (S5.out.blk 0 rfl) hs hn rfl HIN.out (HNX.out w4 S5.out.ext))
    (fun h k => KpF.trans h k) (kpF_b S5.out.ext.size (S5.out.blk 2 rfl).lt (S5.out.blk 1 rfl).lt (S5.out.blk 0 rfl).lt) (Below.refl _ _) (fun _ => rfl)
    (fun pre W => Sep w W [.blk b3 66 #[.func (.func 49) #[.agg #[.slice po (n + 1) co, .slice pt nt ct, .slice pr nr cr, .slice pv nv cv]] #[]], .blk b2 3 #[.int .i64 s], .blk b1 57 #[.slice po (n + 1) co, .slice pt nt ct, .slice pr nr cr, .slice pv nv cv], .blk g 22 #[.slice q n n], .own 3 1 q n n (encI (levRow (lev nx n s) n (pre.map (·.1.k))))])
    (fun _ _ _ => False)
    ?hI (fun _ _ _ _ _ _ _ _ h => h) ylA_own S5.out ?a1 ?assign ?body ?done (fun D c pre W _ _ h _ => h.elim))
  case hI =>
    intro pre Z W W' hZ h1 h2 S
    refine S.far S5.out.ext.size hZ h1 h2 fun p hp k hk => ?_
    simp only [List.mem_cons, List.not_mem_nil, or_false] at hp
    rcases hp with rfl | rfl | rfl | rfl | rfl
    · exact S5.out.lt (List.mem_of_getElem? (i := 0) rfl) hk
    · exact S5.out.lt (List.mem_of_getElem? (i := 1) rfl) hk
    · exact S5.out.lt (List.mem_of_getElem? (i := 2) rfl) hk
    · exact S5.out.lt (List.mem_of_getElem? (i := 3) rfl) hk
    · exact S5.out.lt (List.mem_of_getElem? (i := 4) rfl) hk
  case assign =>
    intro l x W K hK
    simp only [ylE]
    gi_wp2
    exact hK
  case body =>
    rintro l pre ⟨⟨k, F, q', c'⟩, hF, lf⟩ W S ⟨hR, hBk⟩ hlen
    have hRd : Rd W 1 q' F.length (encI F) := hR
    have hblk : w4.heap.size ≤ (adr q' 0).block := hBk
    have HF := Lib.hid (show IsFront (lev nx n s) n k F from hF)
    have bF := Lib.hid (front_bd8 HF.out)
    have hF200 : F.length ≤ 200 := by have := bF.out.2; omega
    have pF := hRd.ptr
    have HR := Lib.hid hRd
    have hqb := S5.out.blt 4 rfl (by omega)
    have HS := Lib.hid S
    obtain ⟨X, hX⟩ : ∃ X, X = levRow (lev nx n s) n (pre.map (·.1.k)) := ⟨_, rfl⟩
    have hXl : X.length = n := by rw [hX, levRow_len]
    have HX : Hid (tkR (k:Int) F X = levRow (lev nx n s) n ((pre ++ [(⟨⟨k, F, q', c'⟩, hF, lf⟩ : YlOf nx n s)]).map (·.1.k))) := by
      unfold Hid; rw [List.map_append, hX]; exact levRow_step HF.out
    rw [← hX] at HS
    generalize (pre ++ [(⟨⟨k, F, q', c'⟩, hF, lf⟩ : YlOf nx n s)]) = pre2 at *
    clear hX S hR hBk hRd hlen
    gi_wp2
    gi_loopw [14, 37] (fun _ v37 wx => ∃ j : Nat, j ≤ F.length ∧ v37 = .int .i64 j ∧ Sep w wx [.blk b3 66 #[.func (.func 49) #[.agg #[.slice po (n + 1) co, .slice pt nt ct, .slice pr nr cr, .slice pv nv cv]] #[]], .blk b2 3 #[.int .i64 s], .blk b1 57 #[.slice po (n + 1) co, .slice pt nt ct, .slice pr nr cr, .slice pv nv cv], .blk g 22 #[.slice q n n], .own 3 1 q n n (encI (tkR (k:Int) (F.take j) X))] ∧ W.heap.size ≤ wx.heap.size ∧ Hid (∀ kk, w4.heap.size ≤ kk → wx.heap[kk]? = W.heap[kk]?)) (fun _ v37 _ => F.length - (intOf v37).toNat)
    case atStart => exact ⟨0, Nat.zero_le _, rfl, HS.out, Nat.le_refl _, fun _ _ => rfl⟩
    case round =>
      obtain ⟨j, hj, rfl, S, hsz, hup⟩ := hrel
      have g0 := (S.blk 3 rfl).cell 0
      have gz := (S.blk 3 rfl).lt
      have pq := (S.rdx 4 rfl).ptr
      by_cases hlj : j < F.length
      · have g1 := HR.out.cI hlj
        rw [← cell_eq (W' := wr) (by rw [adr_block]; exact hup.out _ hblk)] at g1
        obtain ⟨f1, f2⟩ := bF.out.1 _ (nth_mem hlj)
        have hT := tkR_take (c := (k:Int)) (X := X) hlj
        obtain ⟨a, ha⟩ : ∃ a : Nat, nth F j = (a : Int) := ⟨(nth F j).toNat, by omega⟩
        rw [ha] at g1 f1 f2 hT
        rw [Int.toNat_natCast] at hT
        have HT := Lib.hid hT
        have d1 : (0:Int) ≤ j := by omega
        have d2 : (j:Int) < F.length := by omega
        have fz := own_frozen (S.own 4 rfl) (by omega) a
        have cz := own_cell (S.own 4 rfl) (k := a) (by omega)
        have HU : Hid (∀ kk, w4.heap.size ≤ kk → (wr.setCell (adr q a) (.int .i64 k)).heap[kk]? = W.heap[kk]?) := fun kk hk => by
          rw [Below.heap_setCell wr (adr q a) _ kk (by rw [adr_block]; omega)]; exact hup.out kk hk
        have SH := Lib.hid S; clear S
        clear hT ha
        gi_wp2
        go_roundw
        case rel => exact ⟨j + 1, by omega, by go_num, by rw [HT.out, ← encI_set]; exact SH.out.setRow 4 rfl a (by omega) (.int .i64 k), by simpa using hsz, HU.out⟩
        case measure => simp [intOf]; omega
      · obtain rfl : j = F.length := by omega
        rw [List.take_length, HX.out] at S
        have SH := Lib.hid S; clear S
        gi_wp2
        exact ⟨⟨hsz, fun kk o hB ho _ => (hup.out kk hB).trans ho⟩, ⟨⟨SH.out.ext.os.trans HS.out.ext.os.symm, SH.out.ext.tape.trans HS.out.ext.tape.symm, SH.out.ext.output.trans HS.out.ext.output.symm, hsz, fun kk hk => (SH.out.ext.block kk hk).trans (HS.out.ext.block kk hk).symm⟩, (SH.out.blk 2 rfl).trans (HS.out.blk 2 rfl).symm, (SH.out.blk 1 rfl).trans (HS.out.blk 1 rfl).symm, (SH.out.blk 0 rfl).trans (HS.out.blk 0 rfl).symm, fun kk o hB ho _ => (hup.out kk hB).trans ho⟩, SH.out⟩
  case done =>
    rintro D ys W hD hys S hK
    rw [hys.1, levRow_all hs hys.2] at S
    have c4 := (S.blk 3 rfl).cell 0
    have S' := S.putObj (cells_all fun p hp => by
      simp only [List.mem_cons, List.not_mem_nil, or_false] at hp
      rcases hp with rfl | rfl | rfl | rfl | rfl
      · exact .inl ⟨_, _, _, rfl⟩
      · exact .inl ⟨_, _, _, rfl⟩
      · exact .inl ⟨_, _, _, rfl⟩
      · exact .inl ⟨_, _, _, rfl⟩
      · exact .inr ⟨_, _, _, _, _, _, rfl⟩) (.deferred none) (Nat.le_trans S5.out.ext.size hD) hK rfl
    have SH := Lib.hid S; clear S
    have SH' := Lib.hid S'; clear S'
    go_wp2
    refine ⟨by simp, .inl ⟨_, _, rfl, run_takeDeferred hK, ?_⟩⟩
    exact ⟨.tuple #[.slice q n n, .int .i64 0], by simp [results, Tryz.results11, go_sem], q, n, rfl, SH'.out.pick [4] (by decide) rfl⟩
/-- whatever is asked -/
theorem LevelsG (po : Option Addr) (no co : Nat) (O : List Int) (pt : Option Addr) (nt ct : Nat) (T : List Int) (pr : Option Addr) (nr cr : Nat) (R : List Int) (pv : Option Addr) (nv cv : Nat) (V : List Int) (s : Int) (back : Bool) (w : World) (hO : Rd w 1 po no (encI O)) (hT : Rd w 1 pt nt (encI T)) (hR : Rd w 1 pr nr (encI R)) (hV : Rd w 1 pv nv (encI V)) (hct : nt ≤ ct) (hcv : nv ≤ cv) :
    Calls Tryz.prog 11 #[.agg #[.slice po no co, .slice pt nt ct, .slice pr nr cr, .slice pv nv cv], .int .i64 s, .bool back] w fun e w' => ∃ q c, e = .returned (.tuple #[.slice q (levR (checkR O T R V) back O T R V s).length c, .int .i64 (levC (checkR O T R V) O s)]) ∧ Sep w w' [.own 3 1 q (levR (checkR O T R V) back O T R V s).length c (encI (levR (checkR O T R V) back O T R V s))] := by
  by_cases hc : levC (checkR O T R V) O s = 0
  · have hck : checkR O T R V = true := by
      apply Classical.byContradiction; intro h
      unfold levC at hc; rw [if_neg h] at hc; omega
    have hs : 0 ≤ s ∧ s < (O.length : Int) - 1 := by
      apply Classical.byContradiction; intro h
      unfold levC at hc; rw [if_pos hck, if_neg h] at hc; omega
    obtain ⟨n, hn⟩ : ∃ n, O.length = n + 1 := ⟨O.length - 1, by omega⟩
    obtain ⟨a, rfl⟩ : ∃ a : Nat, s = (a : Int) := ⟨s.toNat, by omega⟩
    have e : levR (checkR O T R V) back O T R V a = (List.range n).map fun v => lev (nxR back O T R V) n a v := by
      unfold levR; rw [if_pos hc, hn]; rfl
    have hl : ((List.range n).map fun v => lev (nxR back O T R V) n a v).length = n := by simp
    rw [hc, e]
    cases back with
    | false =>
      refine (LevelsG_out po no co O pt nt ct T pr nr cr R pv nv cv V n a w hO hT hR hV hct hcv hck hn (by omega)).mono ?_
      rintro e w' ⟨q, c, rfl, S⟩
      exact ⟨q, c, by rw [hl], by rw [hl]; exact S⟩
    | true =>
      refine (LevelsG_in po no co O pt nt ct T pr nr cr R pv nv cv V n a w hO hT hR hV hct hcv hck hn (by omega)).mono ?_
      rintro e w' ⟨q, c, rfl, S⟩
      exact ⟨q, c, by rw [hl], by rw [hl]; exact S⟩
  · have e : levR (checkR O T R V) back O T R V s = [] := by unfold levR; rw [if_neg hc]
    rw [e]
    refine (LevelsG_no po no co O pt nt ct T pr nr cr R pv nv cv V s back w hO hT hR hV hct hcv hc).mono ?_
    rintro e w' ⟨rfl, h⟩
    exact ⟨none, 0, rfl, ((Sep.start w).call h).nilrow _ _⟩
end Go.Proofs.YtblghmfhchlllaaGreat
/- A range over a function whose yields point to memory, where caller and iterator both make memory between the yields: a set of blocks is the iterator's. -/
namespace Go.Proofs.YtblghmfhchlllaaGreat
open Go Go.RowKit
/-- what lies in no block of M stays -/
structure Chg (M : Nat → Prop) (W W' : World) : Prop where
  os : W'.os = W.os
  tape : W'.tape = W.tape
  output : W'.output = W.output
  size : W.heap.size ≤ W'.heap.size
  block : ∀ k, k < W.heap.size → ¬ M k → W'.heap[k]? = W.heap[k]?
/-- stable under what the iterator does: it changes its own blocks and makes new ones -/
def Stab {β : Type} (I : β → (Nat → Prop) → World → Prop) : Prop :=
  ∀ s M M' W W', I s M W → Chg M W W' → (∀ k, M' k → M k ∨ W.heap.size ≤ k) → I s M' W'
theorem Chg.refl (M : Nat → Prop) (W : World) : Chg M W W := ⟨rfl, rfl, rfl, Nat.le_refl _, fun _ _ _ => rfl⟩
/-- an iterator's contract: the set M holds its blocks -/
def SeqM {α : Type} (F : Fence) (n : Nat) (P : Program) (g : Nat) (lb : Array Value) (encs : α → Array Value) (A : α → (Nat → Prop) → World → Prop) (Kp : (Nat → Prop) → World → World → Prop) (S Sp : List α → Prop) (N : Nat) (w : World) : Prop :=
  ∀ (l : Nat) (J Jx : List α → (Nat → Prop) → World → Prop) (W : World), Below w.heap.size w W → Stab J → Stab Jx →
    (∀ pre x M V, J pre M V → A x M V → (∀ k, M k → W.heap.size ≤ k) → pre.length < N → YieldAt F (n - 1) P l (encs x) V fun e V' =>
      (e = .returned (.bool true) ∧ J (pre ++ [x]) M V' ∧ Kp M V V') ∨ (e = .returned (.bool false) ∧ Jx (pre ++ [x]) M V')) →
    J [] (fun _ => False) W → CallsIn F n P g (#[.func (.yield l) #[] #[]] ++ lb) W fun e V => (∃ v, e = .returned v) ∧ ((∃ xs M, S xs ∧ J xs M V) ∨ (∃ pre M, Sp pre ∧ Jx pre M V))
section
variable {F : Fence} {n : Nat} {P : Program} {w : World}
theorem wpIn_rangeFunc_owned {α : Type} {g : Operand} {ps : Array Tmp} {assign body : Code} {Q : Exit → Act → World → Prop} {a : Act}
    (hro : F.round = none) (h1 : 1 ≤ n) {gf : Nat} {lb : Array Value} (hg : a.eval g = .func (.func gf) #[] lb) (hF : F.fn gf) (eg : ∀ args w, (callFunc gf args).run P w = .ok (.enter gf args) w)
    {encs : α → Array Value} {A : α → (Nat → Prop) → World → Prop} {Kp : (Nat → Prop) → World → World → Prop} {S Sp : List α → Prop} {N : Nat} {w0 : World} (hseq : SeqM F (n - 1) P gf lb encs A Kp S Sp N w0)
    (hKt : ∀ {M : Nat → Prop} {X Y Z : World}, Kp M X Y → Kp M Y Z → Kp M X Z) (hKb : ∀ (M : Nat → Prop) (W : World) (l : Nat) (o o' : Obj), w.heap.size ≤ l → W.heap[l]? = some o → o.isCells = false → o.isWalk = false → Kp M W (W.putObj l o')) (hb0 : Below w0.heap.size w0 w) (hps : ∀ x, (encs x).size = ps.size)
    (I : List α → (Nat → Prop) → World → Prop) (Ix : Code → List α → (Nat → Prop) → World → Prop) (hI : Stab I) (hIx : ∀ c, Stab (Ix c)) (hIo : ∀ M, OwnFrom w.heap.size (fun s => I s M)) (hIxo : ∀ c M, OwnFrom w.heap.size (fun s => Ix c s M)) (hA : ∀ M, OwnFrom w.heap.size (fun s => A s M)) (h0 : I [] (fun _ => False) w) (a₁ : α → Act)
    (hassign : ∀ (l : Nat) (x : α) (W : World) (K : Act → World → Prop), K (a₁ x) W →
      assign.wpIn (F.inRound l) (n - 1 - 1) P (Exit.then K (fun _ _ _ => False)) { tmps := (ps.zip (encs x)).foldl (fun t (p, v) => t.setIfInBounds p v) a.tmps, defers := [] } W)
    (hbody : ∀ (l : Nat) (pre : List α) (x : α) (M : Nat → Prop) (W : World), I pre M W → A x M W → (∀ k, M k → w.heap.size ≤ k) → pre.length < N → body.wpIn (F.inRound l) (n - 1 - 1) P (ownPostG w.heap.size (Kp M) (fun s => I s M) (fun c s => Ix c s M) (pre ++ [x]) W) (a₁ x) W)
    (hdone : ∀ (D : Nat) (xs : List α) (W : World), w.heap.size ≤ D → S xs → (∃ M, I xs M W) → W.heap[D]? = some (.deferred (some [])) → Q .normal { a with defers := { target := .collected D, args := #[] } :: a.defers } W)
    (hstop : ∀ (D : Nat) (c : Code) (pre : List α) (W : World), w.heap.size ≤ D → Sp pre → (∃ M, Ix c pre M W) → W.heap[D]? = some (.deferred (some [])) → c.wpIn F n P Q { a with defers := { target := .collected D, args := #[] } :: a.defers } W) :
    (Code.rangeFunc g ps assign body).wpIn F n P Q a w := by
  refine wpIn_rangeFunc fun fn hfn => ?_
  rw [hro]
  have hB : w.heap.size ≤ w.heap.size + 1 := Nat.le_succ _
  obtain ⟨mk, hmk⟩ : ∃ mk : LoopState → Option Code → Loop, mk = fun st pe => { state := st, pending := pe, fn, tmps := a.tmps, params := ps, assign, body, defers := w.heap.size } := ⟨_, rfl⟩
  obtain ⟨V, hV⟩ : ∃ V, (w.alloc (.deferred (some []))).alloc (.loop (mk .ready none)) = V := ⟨_, rfl⟩
  have hVl : V.heap[w.heap.size + 1]? = some (.loop (mk .ready none)) := by
    have h := World.alloc_heap_new (w.alloc (.deferred (some []))) (.loop (mk .ready none))
    rw [World.size_alloc] at h
    rw [← hV]; exact h
  have hVd : V.heap[w.heap.size]? = some (.deferred (some [])) := by
    rw [← hV]; exact (Below.heap_alloc _ _ _ (by simp)).trans (World.alloc_heap_new w _)
  have hVb : Below w0.heap.size w0 V := by
    rw [← hV]; exact hb0.trans ((((Below.refl _ w).alloc (Nat.le_refl _) _).alloc (by simp) _).mono hb0.size)
  have hVs : w.heap.size ≤ V.heap.size := by have := (Array.getElem?_eq_some_iff.1 hVd).1; omega
  have hV0 : I [] (fun _ => False) V := by
    rw [← hV]
    have hb : Below w.heap.size w ((w.alloc (.deferred (some []))).alloc (.loop (mk .ready none))) := ((Below.refl _ w).alloc (Nat.le_refl _) _).alloc (by simp) _
    exact hI _ _ _ _ _ h0 ⟨hb.os, hb.tape, hb.output, hb.size, fun k hk _ => hb.block k hk⟩ (fun _ h => h.elim)
  have lV : w.heap.size + 1 < V.heap.size := (Array.getElem?_eq_some_iff.1 hVl).1
  -- the two blocks of book-keeping are none of the iterator's
  have keep : ∀ {M : Nat → Prop} {X Y : World} {k : Nat} {o : Obj}, Chg M X Y → ¬ M k → X.heap[k]? = some o → Y.heap[k]? = some o := fun {M X Y k o} h1 hk hX => (h1.block k (Array.getElem?_eq_some_iff.1 hX).1 hk).trans hX
  refine ⟨w.heap.size + 1, [{ target := .collected w.heap.size, args := #[] }], V, { target := .fn (.func gf) lb, args := #[.func (.yield (w.heap.size + 1)) #[] #[]] }, V, gf, #[.func (.yield (w.heap.size + 1)) #[] #[]] ++ lb, V, ?_, ?_, ?_, ?_, fun _ => h1, ?_⟩
  · rw [← hV, hmk]; exact run_enterLoop_outer _ _ _ _ _
  · simp only [resolve, hg]; simp [go_sem]
  · intro f' hf'; simp [Target.leads] at hf'; subst hf'; exact hF
  · simp [invoke, go_sem, eg]
  refine (hseq (w.heap.size + 1)
    (fun pre M W => I pre M W ∧ W.heap[w.heap.size + 1]? = some (.loop (mk .ready none)) ∧ W.heap[w.heap.size]? = some (.deferred (some [])) ∧ (∀ k, M k → V.heap.size ≤ k) ∧ V.heap.size ≤ W.heap.size)
    (fun pre M W => ∃ c, Ix c pre M W ∧ W.heap[w.heap.size + 1]? = some (.loop (mk .done (some c))) ∧ W.heap[w.heap.size]? = some (.deferred (some [])) ∧ (∀ k, M k → V.heap.size ≤ k) ∧ V.heap.size ≤ W.heap.size) V hVb
    (fun s M M' X Y h hc hm => ⟨hI s M M' X Y h.1 hc hm, keep hc (fun e => by have := h.2.2.2.1 _ e; omega) h.2.1, keep hc (fun e => by have := h.2.2.2.1 _ e; omega) h.2.2.1, fun k hk => (hm k hk).elim (h.2.2.2.1 k) fun h2 => Nat.le_trans h.2.2.2.2 h2, Nat.le_trans h.2.2.2.2 hc.size⟩)
    (fun s M M' X Y h hc hm => h.elim fun c h => ⟨c, hIx c s M M' X Y h.1 hc hm, keep hc (fun e => by have := h.2.2.2.1 _ e; omega) h.2.1, keep hc (fun e => by have := h.2.2.2.1 _ e; omega) h.2.2.1, fun k hk => (hm k hk).elim (h.2.2.2.1 k) fun h2 => Nat.le_trans h.2.2.2.2 h2, Nat.le_trans h.2.2.2.2 hc.size⟩)
    ?_ ⟨hV0, hVl, hVd, fun _ h => h.elim, Nat.le_refl _⟩).mono ?_
  · rintro pre x M W ⟨hi, hl, hk, hMV, hVW⟩ hax hM hlen
    have hlt : w.heap.size + 1 < W.heap.size := (Array.getElem?_eq_some_iff.1 hl).1
    have hy := run_yield (P := P) (args := encs x) hl (by rw [hmk]; exact hps x)
    rw [hmk] at hy
    refine ⟨fn, _, assign, body, hy, roundIn_of_wpIn hfn (hassign _ x W _ ⟨_, run_beginRound hl (by rw [hmk]), ?_⟩)⟩
    have l2 : (W.putObj (w.heap.size + 1) (.loop { mk .ready none with state := .busy })).heap[w.heap.size + 1]? = some (.loop { mk .ready none with state := .busy }) := World.putObj_heap_same hlt
    have k2 : (W.putObj (w.heap.size + 1) (.loop { mk .ready none with state := .busy })).heap[w.heap.size]? = some (.deferred (some [])) := (World.putObj_heap_other (by omega)).trans hk
    have p2 : Kp M W (W.putObj (w.heap.size + 1) (.loop { mk .ready none with state := .busy })) := hKb _ _ _ _ _ hB hl rfl rfl
    refine wpIn_mono (hbody _ pre x M _ ((hIo M).putObj _ hi hB hl rfl) ((hA M).putObj _ hax hB hl rfl) (fun k hk => Nat.le_trans hVs (hMV k hk)) hlen) ?_
    have fin : ∀ (jump : Option Code) (X : World), KeepsFrom w.heap.size (W.putObj (w.heap.size + 1) (.loop { mk .ready none with state := .busy })) X →
        (Instr.endRound (w.heap.size + 1) jump).run P X = .ok (.bool jump.isNone) (X.putObj (w.heap.size + 1) (.loop (mk (if jump.isNone then .ready else .done) jump))) ∧
        X.heap[w.heap.size + 1]? = some (.loop { mk .ready none with state := .busy }) ∧
        (X.putObj (w.heap.size + 1) (.loop (mk (if jump.isNone then .ready else .done) jump))).heap[w.heap.size + 1]? = some (.loop (mk (if jump.isNone then .ready else .done) jump)) ∧
        (X.putObj (w.heap.size + 1) (.loop (mk (if jump.isNone then .ready else .done) jump))).heap[w.heap.size]? = some (.deferred (some [])) := fun jump X hX => by
      have l3 := hX.same _ _ hB l2 rfl
      have hr := run_endRound (P := P) jump l3
      rw [hmk] at hr l3 ⊢
      exact ⟨hr, l3, World.putObj_heap_same (Array.getElem?_eq_some_iff.1 l3).1, (World.putObj_heap_other (by omega)).trans (hX.same _ _ (Nat.le_refl _) k2 rfl)⟩
    have hszX : ∀ X, KeepsFrom w.heap.size (W.putObj (w.heap.size + 1) (.loop { mk .ready none with state := .busy })) X → ∀ o, V.heap.size ≤ (X.putObj (w.heap.size + 1) o).heap.size := fun X h o => by
      have e1 := h.size
      rw [World.putObj_size] at e1 ⊢
      omega
    rintro e a3 X hp
    cases e with
    | normal =>
      obtain ⟨hX, hkp, hi3⟩ := hp
      obtain ⟨r1, r2, r3, r4⟩ := fin none X hX
      have hsz : V.heap.size ≤ (X.putObj (w.heap.size + 1) (.loop (mk .ready none))).heap.size := by
        have e1 := hX.size
        rw [World.putObj_size] at e1 ⊢
        omega
      exact ⟨_, _, r1, .inl ⟨rfl, ⟨(hIo M).putObj _ hi3 hB r2 rfl, r3, r4, hMV, hsz⟩, hKt (hKt p2 hkp) (hKb _ _ _ _ _ hB r2 rfl rfl)⟩⟩
    | ret =>
      obtain ⟨r1, r2, r3, r4⟩ := fin (some .ret) X hp.1
      exact ⟨_, _, r1, .inr ⟨rfl, .ret, (hIxo _ M).putObj _ hp.2 hB r2 rfl, r3, r4, hMV, hszX X hp.1 _⟩⟩
    | exit id =>
      obtain ⟨r1, r2, r3, r4⟩ := fin (some (.exit id)) X hp.1
      exact ⟨_, _, r1, .inr ⟨rfl, .exit id, (hIxo _ M).putObj _ hp.2 hB r2 rfl, r3, r4, hMV, hszX X hp.1 _⟩⟩
    | goto t =>
      obtain ⟨r1, r2, r3, r4⟩ := fin (some (.goto t)) X hp.1
      exact ⟨_, _, r1, .inr ⟨rfl, .goto t, (hIxo _ M).putObj _ hp.2 hB r2 rfl, r3, r4, hMV, hszX X hp.1 _⟩⟩
    | panic ch => exact hp.elim
    | outgrown => exact hp.elim
  · rintro e X ⟨⟨v, rfl⟩, (⟨xs, M, hS, hi, hl, hk, _, _⟩ | ⟨pre, M, hSp, c, hi, hl, hk, _, _⟩)⟩
    · have hr := run_endLoop (P := P) hl (by rw [hmk]; simp)
      rw [hmk] at hr
      exact ⟨none, _, hr, hdone _ xs _ (Nat.le_refl _) hS ⟨M, (hIo M).putObj _ hi hB hl rfl⟩ ((World.putObj_heap_other (by omega)).trans hk)⟩
    · have hr := run_endLoop (P := P) hl (by rw [hmk]; simp)
      rw [hmk] at hr
      exact ⟨some c, _, hr, hstop _ c pre _ (Nat.le_refl _) hSp ⟨M, (hIxo c M).putObj _ hi hB hl rfl⟩ ((World.putObj_heap_other (by omega)).trans hk)⟩
end
end Go.Proofs.YtblghmfhchlllaaGreat
/- A row that an iterator writes, and what it makes, beside what its caller has made. -/
namespace Go.Proofs.YtblghmfhchlllaaGreat
open Go Go.RowKit
/-- Z is W with the block gs as it is now -/
structure Cur (gs : Nat) (t : TypeId) (W Z : World) (xs : List Value) : Prop where
  size : Z.heap.size = W.heap.size
  chg : Chg (fun k => k = gs) W Z
  blk : Blk Z gs t xs.toArray
  lt : gs < W.heap.size
theorem Cur.start {gs : Nat} {t : TypeId} {W : World} {xs : List Value} (h : Blk W gs t xs.toArray) : Cur gs t W W xs := ⟨rfl, Chg.refl _ _, h, h.lt⟩
theorem Cur.set {gs a : Nat} {t : TypeId} {W Z : World} {xs : List Value} (h : Cur gs t W Z xs) (u : Value) : Cur gs t W (Z.setCell ⟨gs, a, none⟩ u) (xs.set a u) :=
  ⟨by simpa using h.size, ⟨h.chg.os, h.chg.tape, h.chg.output, by simpa using h.chg.size, fun k hk hne => by
    rw [Below.heap_setCell Z ⟨gs, a, none⟩ u k hne]; exact h.chg.block k hk hne⟩, by
    have := h.blk.set_ a u
    simpa using this, h.lt⟩
theorem Sep.both {Z wx : World} {Γ : List Pc} (S : Sep Z wx Γ) {p : Addr} (hp : p.block < Z.heap.size) (u : Value) : Sep (Z.setCell p u) (wx.setCell p u) Γ :=
  ⟨⟨S.ext.os, S.ext.tape, S.ext.output, by simpa using S.ext.size, fun k hk => by
    have hk' : k < Z.heap.size := by simpa using hk
    have e := S.ext.block k hk'
    by_cases hkp : k = p.block
    · subst hkp
      unfold World.setCell
      simp only [e, Array.getElem?_modify]
    · rw [Below.heap_setCell wx p u k hkp, Below.heap_setCell Z p u k hkp]; exact e⟩,
    fun q hq => q.loc wx _ (S.all q hq) fun k hk => Below.heap_setCell wx p u k (fun e => by have := S.new q hq k hk; omega),
    fun q hq k hk => by have := S.new q hq k hk; simpa using this, S.apart⟩
theorem Cur.out {gs : Nat} {t : TypeId} {W Z wx : World} {xs : List Value} (h : Cur gs t W Z xs) (he : Ext Z wx) : Chg (fun k => k = gs) W wx :=
  ⟨he.os.trans h.chg.os, he.tape.trans h.chg.tape, he.output.trans h.chg.output, Nat.le_trans h.chg.size he.size, fun k hk hne => (he.block k (by rw [h.size]; exact hk)).trans (h.chg.block k hk hne)⟩
end Go.Proofs.YtblghmfhchlllaaGreat
/- The program's levels (chapter 7): the iterator over fronts, its contract beside a caller that makes rows too. -/
namespace Go.Proofs.YtblghmfhchlllaaGreat
open Go Go.RowKit
attribute [local go_sem] Oper.semAt_some
/-- what a round keeps: what lay below n₀, the iterator's boxes, its rows -/
structure KpM (n₀ b1 b2 b3 : Nat) (M : Nat → Prop) (W W' : World) : Prop where
  low : Below n₀ W W'
  x1 : W'.heap[b1]? = W.heap[b1]?
  x2 : W'.heap[b2]? = W.heap[b2]?
  x3 : W'.heap[b3]? = W.heap[b3]?
  up : ∀ (k : Nat) (o : Obj), M k → W.heap[k]? = some o → o.isCells = true → W'.heap[k]? = some o
theorem KpM.trans {n₀ b1 b2 b3 : Nat} {M : Nat → Prop} {X Y Z : World} (h : KpM n₀ b1 b2 b3 M X Y) (k : KpM n₀ b1 b2 b3 M Y Z) : KpM n₀ b1 b2 b3 M X Z :=
  ⟨h.low.trans k.low, k.x1.trans h.x1, k.x2.trans h.x2, k.x3.trans h.x3, fun i o hM h1 h2 => k.up i o hM (h.up i o hM h1 h2) h2⟩
def ylM {nx : Nat → List Int} {n s : Nat} (x : YlOf nx n s) (M : Nat → Prop) (W : World) : Prop := Rd W 1 x.1.q x.1.F.length (encI x.1.F) ∧ M (adr x.1.q 0).block ∧ ∀ k, M k → k < W.heap.size
theorem LowF.chg {n₀ b1 b2 b3 gs : Nat} {w W W' : World} (h : LowF n₀ b1 b2 b3 w W) (hc : Chg (fun k => k = gs) W W') (hw : w.heap.size ≤ W.heap.size) (h0 : n₀ ≤ w.heap.size) (h1 : b1 < w.heap.size) (h2 : b2 < w.heap.size) (h3 : b3 < w.heap.size) (hg : w.heap.size ≤ gs) : LowF n₀ b1 b2 b3 w W' :=
  have e : ∀ k, k < w.heap.size → W'.heap[k]? = W.heap[k]? := fun k hk => hc.block k (by omega) (by omega)
  ⟨⟨hc.os.trans h.low.os, hc.tape.trans h.low.tape, hc.output.trans h.low.output, Nat.le_trans h.low.size hc.size, fun k hk => (e k (by omega)).trans (h.low.block k hk)⟩, (e b1 h1).trans h.x1, (e b2 h2).trans h.x2, (e b3 h3).trans h.x3⟩
theorem Rd.same {W W' : World} {size : Nat} {p : Option Addr} {n : Nat} {xs : List Value} (h : Rd W size p n xs) (he : 0 < n → W'.heap[(adr p 0).block]? = W.heap[(adr p 0).block]?) : Rd W' size p n xs :=
  ⟨h.len, h.ptr, h.small, fun j hj => by
    have hn : 0 < n := by
      rcases Nat.eq_zero_or_pos n with e | e
      · subst e; simp at hj
      · exact e
    have e : W'.heap[(adr p j).block]? = W.heap[(adr p j).block]? := by rw [adr_block]; exact he hn
    rw [cell_eq e]; exact h.cells j hj⟩
theorem cells_of_cell {W : World} {p : Addr} {v : Value} (h : W.cell? p = some v) : ∃ o : Obj, W.heap[p.block]? = some o ∧ o.isCells = true := by
  unfold World.cell? at h
  cases e : W.heap[p.block]? with
  | none => rw [e] at h; cases h
  | some o => cases o <;> simp_all [Obj.isCells]
set_option maxRecDepth 100000 in
set_option maxHeartbeats 16000000 in
theorem frontm_out (n1 : Nat) (hn1 : 1 ≤ n1) (po : Option Addr) (no co : Nat) (pt : Option Addr) (nt ct : Nat) (pr : Option Addr) (nr cr : Nat) (pv : Option Addr) (nv cv : Nat) (b1 b2 b3 n₀ n s : Nat) (nx : Nat → List Int) (w : World) (hw : n₀ ≤ w.heap.size)
    (hb1 : Blk w b1 57 #[.slice po no co, .slice pt nt ct, .slice pr nr cr, .slice pv nv cv]) (hb2 : Blk w b2 3 #[.int .i64 s]) (hb3 : Blk w b3 66 #[.func (.func 50) #[.agg #[.slice po no co, .slice pt nt ct, .slice pr nr cr, .slice pv nv cv]] #[]])
    (hs : s < n) (hn : n ≤ 200) (hno : no = n + 1) (hin : InN nx n)
    (HN : ∀ k, k < n → ∃ q c, ∀ W, Below n₀ w W → Rd W 1 q (nx k).length (encI (nx k)) ∧ Calls Tryz.prog 50 #[.agg #[.slice po no co, .slice pt nt ct, .slice pr nr cr, .slice pv nv cv], .int .i64 k] W fun e w' => e = .returned (.slice q (nx k).length c) ∧ Ext W w') :
    SeqM Fence.wide n1 Tryz.prog 47 #[.pointer (some ⟨b1, 0, none⟩), .pointer (some ⟨b2, 0, none⟩), .pointer (some ⟨b3, 0, none⟩)] (ylE : YlOf nx n s → Array Value) ylM (KpM n₀ b1 b2 b3) ylS (fun pre => pre.map (·.1.k) = List.range pre.length) n w := by
  intro l J Jx W hW hJ hJx hY h0
  obtain ⟨i0, hi0, hz0, hz1, hz2⟩ := info_parts infI
  obtain ⟨j0, hj0, hy0, hy1, hy2⟩ := info_parts infB
  have hBk := hW.size
  have q1 := hb1.lt
  have q2 := hb2.lt
  have q3 := hb3.lt
  have LW := Lib.hid (⟨hW.mono hw, hW.block b1 q1, hW.block b2 q2, hW.block b3 q3⟩ : LowF n₀ b1 b2 b3 w W)
  have HSZ := Lib.hid (fun W' => waysSize po no co pt nt ct pr nr cr pv nv cv W' (by omega) (by omega))
  have B1 : Blk W b1 57 #[.slice po no co, .slice pt nt ct, .slice pr nr cr, .slice pv nv cv] := LW.out.x1.trans hb1
  have B2 : Blk W b2 3 #[.int .i64 s] := LW.out.x2.trans hb2
  have B3 : Blk W b3 66 #[.func (.func 50) #[.agg #[.slice po no co, .slice pt nt ct, .slice pr nr cr, .slice pv nv cv]] #[]] := LW.out.x3.trans hb3
  have HB1 := Lib.hid hb1
  have HB2 := Lib.hid hb2
  have HB3 := Lib.hid hb3
  have HNX := Lib.hid HN
  have HIN := Lib.hid hin
  subst hno
  have HJ := Lib.hid hJ; clear hJ
  have HY := Lib.hid hY; clear hY
  clear hJx hW HN hin hb1 hb2 hb3
  have c10 := B1.cell 0
  have c11 := B1.cell 1
  have c12 := B1.cell 2
  have c13 := B1.cell 3
  have c20 := B2.cell 0
  have z1 := B1.lt
  have z2 := B2.lt
  clear B1 B2 B3
  refine callsIn_of_wp Tryz.func47 rfl trivial ?_ rfl
  simp only [Tryz.ntmps47, List.size_toArray, List.length_cons, List.length_nil, Nat.reduceAdd, Nat.reduceSub, Array.replicate_succ, Array.replicate_zero, List.push_toArray, List.append_toArray, List.nil_append, List.cons_append]
  refine wpIn_seq_k fun K hK => wpIn_wide.2 ?_
  go_wp2_with (first
    | (at_make; go_must (refine wpList_make_sep rfl _ _ _ rfl 4 j0 _ 1 Tryz.underlying42 hj0 hy0 hy1 (n:Int) n rfl rfl rfl (by rw [hy2]; omega) (by unfold maxLen; omega) S1.out ?_; intro w2 S'; rw [made_bool] at S'; have S2 := Lib.hid S'; clear S'))
    | (go_at_call 30; go_must (refine (HSZ.out _).mono ?_; rintro e w1 ⟨rfl, hb⟩; have S1 := Lib.hid ((Sep.start W).call hb); clear hb)))
  obtain ⟨gs, hq, hgs, hB⟩ := own_blk (S2.out.own 0 rfl) (by omega)
  rw [hq]
  have E2 := Lib.hid S2.out.ext
  have Bs := Lib.hid (hB : Blk w2 gs 4 (List.replicate n (.bool false)).toArray)
  clear hq hB S2 S1
  have c20a := E2.out.cell c20
  have z2a := Nat.lt_of_lt_of_le z2 E2.out.size
  have bz := Bs.out.lt
  have fz := Bs.out.frozen s
  have cz : w2.cell? ⟨gs, s, none⟩ = some (.bool false) := by rw [Bs.out.cell s, List.getElem?_toArray]; simp [hs]
  have d1 : (0:Int) ≤ s := by omega
  have d2 : (s:Int) < n := by omega
  refine wpIn_seq_k fun K2 hK2 => wpIn_wide.2 ?_
  go_wp2
  refine wpIn_seq_k fun K3 hK3 => wpIn_wide.2 ?_
  obtain ⟨X, hX⟩ : ∃ X, X = w2.setCell ⟨gs, s, none⟩ (.bool true) := ⟨_, rfl⟩
  have BX : Hid (Blk X gs 4 (seenL (cutL (lev nx n s) n (0 : Nat)) [] n).toArray) := by
    rw [hX, ← seenL_0 (nx := nx) hs]
    have h := Bs.out.set_ s (.bool true)
    rw [List.setIfInBounds_toArray] at h
    exact h
  have EX : Hid (Ext W X) := by rw [hX]; exact E2.out.setCell (p := ⟨gs, s, none⟩) hgs (.bool true)
  rw [← hX]
  clear hX fz cz c20a z2a bz Bs E2
  have g2 := EX.out.cell c20
  have x2 := fun x : ExtOf X => x.ext.cell g2
  refine wp_region_mix [true, false, true, false] (StQ X.heap.size s) (by kernel_rfl) (by kernel_rfl) (by kernel_rfl) StQ_mono ?_
  simp only [nfM]
  repeat (go_big_quiet_step ((fail)))
  refine wpQuiet_nil ⟨⟨fun vs W1 hE hd => ?_, fun vs W1 hE hd => ?_, trivial⟩, fun vs W1 hE hkn => ?_⟩
  · simp [putM, execOp, go_sem]
    exact ⟨fun _ => ⟨_, rfl, World.ownsRow_lit (base := X.heap.size) W1 #[.int .i64 (s:Int)] 1 hE.size (by decide) rfl⟩, Ext.alloc (Below.refl _ _) _⟩
  · have k0 := hd 1 (by decide +kernel) rfl
    simp [putM, execOp, go_sem]
    exact ⟨fun _ => k0 (.inl rfl), Below.refl _ _⟩
  simp only [knowM] at hkn
  have k3 := hkn.2.1 (.inr rfl)
  simp only [putM, List.length_cons, List.length_nil, Nat.zero_add, Nat.reduceAdd, List.drop_succ_cons, List.drop_zero]
  obtain ⟨qf0, k1, ho⟩ := k3
  rw [k1]
  generalize vs 1 = v20
  have E4 := Lib.hid (Ext.trans EX.out hE)
  have B4 := Lib.hid (BX.out.ext hE)
  have R4 := Lib.hid (Rd.of_own ho (by omega))
  have hqf : W.heap.size ≤ (adr qf0 0).block := by
    have h1 := (own_lt ho (k := (adr qf0 0).block) (by
      rcases (Rd.of_own ho (by omega)).ptr with h | ⟨b, o, rfl⟩
      · omega
      · rfl)).1
    have := EX.out.size
    omega
  have J4 := Lib.hid (HJ.out [] (fun _ => False) (fun k => k = gs ∨ (0 < [(s:Int)].length ∧ k = (adr qf0 0).block)) W W1 h0 ⟨E4.out.os, E4.out.tape, E4.out.output, E4.out.size, fun k hk _ => E4.out.block k hk⟩ (fun k hk => .inr (by rcases hk with rfl | ⟨_, rfl⟩ <;> omega)))
  have LW4 := Lib.hid (LW.out.far (Nat.le_trans hw hBk) (by omega) (by omega) (by omega) hBk (Below.refl _ _) E4.out)
  clear x2 g2 hE hkn k1 ho h0 EX BX
  simp [Act.put]
  go_wp2
  gi_wp2
  gi_loopw [6, 7, 8, 10, 12] (fun v6 v7 _ _ _ wr => ∃ (k : Nat) (pre : List (YlOf nx n s)) (F : List Int) (q : Option Addr) (c : Nat), k ≤ n ∧ v6 = .int .i64 k ∧ v7 = .slice q F.length c ∧ IsFront (lev nx n s) n k F ∧ pre.map (·.1.k) = List.range k ∧ J pre (fun k => k = gs ∨ (0 < F.length ∧ k = (adr q 0).block)) wr ∧ Rd wr 1 q F.length (encI F) ∧ (0 < F.length → W.heap.size ≤ (adr q 0).block) ∧ Blk wr gs 4 (seenL (cutL (lev nx n s) n k) [] n).toArray ∧ W.heap.size ≤ wr.heap.size ∧ LowF n₀ b1 b2 b3 w wr) (fun v6 _ _ _ _ _ => n - (intOf v6).toNat)
  case atStart => exact ⟨0, [], [(s:Int)], qf0, 1, Nat.zero_le _, rfl, rfl, front_0 hs, rfl, J4.out, R4.out, fun _ => hqf, B4.out, E4.out.size, LW4.out⟩
  case round =>
    clear J4 LW4 R4 B4 E4 c10 c11 c12 c13 c20 z1 z2 hqf
    obtain ⟨k, pre, F, q, c, hk, rfl, rfl, hF, hpre, hJs, hRF, hqB, hBl, hWs, hL⟩ := hrel
    have bF := Lib.hid (front_bd8 hF)
    by_cases hl0 : F.length = 0
    · obtain rfl : F = [] := List.eq_nil_of_length_eq_zero hl0
      have HEND : Hid (ylS pre) := ⟨by rw [hpre]; congr 1; have := congrArg List.length hpre; simp at this; omega, by
        have := congrArg List.length hpre
        simp at this
        rw [this]
        cases e : hasL n (lev nx n s) k with
        | false => rfl
        | true => exact absurd ((front_has hF).1 e) (by simp)⟩
      have HJs := Lib.hid hJs
      clear hF hpre hJs hL bF hl0 hRF hqB hBl
      gi_wp2
      refine ⟨fun f hf => (by cases hf), ?_⟩
      gi_wp2
      go_end0
      exact ⟨⟨_, rfl⟩, .inl ⟨pre, _, HEND.out, HJs.out⟩⟩
    · have lf : 0 < F.length := by omega
      have hkn : k < n := has_lt hs ((front_has hF).2 lf)
      have hplen : pre.length = k := by have := congrArg List.length hpre; simpa using this
      obtain ⟨x, hx⟩ : ∃ x : YlOf nx n s, x.1 = ⟨k, F, q, c⟩ := ⟨⟨⟨k, F, q, c⟩, hF, lf⟩, rfl⟩
      obtain ⟨fn, tmps, assign, body, hy, hR⟩ := HY.out pre x _ wr hJs (by unfold ylM; rw [hx]; exact ⟨hRF, .inr ⟨lf, rfl⟩, fun k hk => by rcases hk with rfl | ⟨h, rfl⟩ <;> first | exact hBl.lt | exact hRF.lt (by omega)⟩) (fun k hk => by rcases hk with rfl | ⟨_, rfl⟩ <;> first | exact hgs | exact hqB lf) (by omega)
      have hp2 : Hid ((pre ++ [x]).map (·.1.k) = List.range (k + 1)) := by
        unfold Hid; rw [List.map_append, hpre, List.range_succ]; simp [hx]
      have hxe : ylE x = #[.int .i64 k, .slice q F.length c] := by unfold ylE; rw [hx]
      rw [hxe] at hy
      clear hxe hx
      have c1 : decide ((0:Int) < F.length) = true := by simpa using lf
      have HF := Lib.hid hF
      have HLW := Lib.hid hL
      have HRF := Lib.hid hRF
      have HBl := Lib.hid hBl
      have HqB := Lib.hid (hqB lf)
      clear hF hL hpre hplen hl0 hJs hRF hBl hqB
      gi_wp2
      refine hR.mono ?_
      rintro e W3 (⟨rfl, hJ3, hk3⟩ | ⟨rfl, hJx3⟩)
      · have hs3 : W.heap.size ≤ W3.heap.size := by have := hk3.low.size; omega
        have HB3s := Lib.hid (hk3.up gs _ (.inl rfl) HBl.out rfl : Blk W3 gs 4 (seenL (cutL (lev nx n s) n k) [] n).toArray)
        have hcell := HRF.out.cI lf
        have hne : (adr q 0).block ≠ gs := fun e => by
          rcases HRF.out.ptr with h | ⟨b', o', rfl⟩
          · omega
          · rw [adr_some] at hcell e
            simp only at e
            subst e
            rw [HBl.out.cell, List.getElem?_toArray] at hcell
            have hlt := (List.getElem?_eq_some_iff.1 hcell).1
            rw [seenL_len] at hlt
            rw [seenL_at hlt] at hcell
            cases hcell
        obtain ⟨oF, hoF, hoC⟩ := cells_of_cell hcell
        have HR3 := Lib.hid (HRF.out.same (W' := W3) fun _ => by rw [hoF]; exact hk3.up _ oF (.inr ⟨lf, rfl⟩) hoF hoC)
        have hF3 : (adr q 0).block < W3.heap.size := HR3.out.lt (by omega)
        have L3 := Lib.hid (⟨HLW.out.low.trans hk3.low, hk3.x1.trans HLW.out.x1, hk3.x2.trans HLW.out.x2, hk3.x3.trans HLW.out.x3⟩ : LowF n₀ b1 b2 b3 w W3)
        have HJ3 := Lib.hid hJ3
        have HLOW : Hid (∀ wx, Chg (fun k => k = gs) W3 wx → LowF n₀ b1 b2 b3 w wx) := fun wx hc => L3.out.chg hc (by omega) hw (by omega) (by omega) (by omega) (by omega)
        have HRX : Hid (∀ wx, Chg (fun k => k = gs) W3 wx → Rd wx 1 q F.length (encI F)) := fun wx hc => HR3.out.same fun _ => hc.block _ hF3 hne
        clear hcell hoF hoC
        have HSML : Hid (∀ (G m : List Int), (∀ x : Int, x ∈ G → 0 ≤ x ∧ x < n) → (∀ x : Int, x ∈ m → 0 ≤ x ∧ x < n) → (ahR (cutL (lev nx n s) n k) m (ahF nx (cutL (lev nx n s) n k) G [])).length ≤ n) := fun G m hG hm =>
          nodup_small (ahR_nodup (ahF_nodup List.nodup_nil)) fun x hx => by
            rcases ahR_mem.1 hx with h | ⟨h, _⟩
            · rcases ahF_mem.1 h with h | ⟨v, h3, h4, _⟩
              · cases h
              · obtain ⟨h5, h6⟩ := hG v h3
                exact HIN.out v.toNat (by omega) x h4
            · exact hm x h
        clear hJ3 hk3 hR hy HLW HRF HBl
        gi_wp2
        refine wpIn_wide.2 ?_
        go_loopw [8, 10, 12, 34] (fun v8 _ _ v34 wx => ∃ (i : Nat) (l' : List Int) (q2 : Option Addr) (c2 : Nat) (Zc : World), i ≤ F.length ∧ v34 = .int .i64 i ∧ v8 = .slice q2 l'.length c2 ∧ Hid (l' = ahF nx (cutL (lev nx n s) n k) (F.take i) []) ∧ Cur gs 4 W3 Zc (seenL (cutL (lev nx n s) n k) l' n) ∧ Sep Zc wx [.own 3 1 q2 l'.length c2 (encI l')]) (fun _ _ _ v34 _ => F.length - (intOf v34).toNat)
        case atStart => exact ⟨0, [], none, 0, W3, Nat.zero_le _, rfl, rfl, rfl, Cur.start HB3s.out, (Sep.start W3).nilrow 3 1⟩
        case round =>
          clear HB3s
          obtain ⟨i, l', q2, c2, Zc, hi, rfl, rfl, hl, hC, S⟩ := hrel
          have HC0 := Lib.hid hC
          clear hC
          have pF := HR3.out.ptr
          have hF200 : F.length ≤ 200 := by have := bF.out.2; omega
          by_cases hif : i < F.length
          · have g1 := (HRX.out _ (HC0.out.out S.ext)).cI hif
            obtain ⟨f1, f2⟩ := bF.out.1 _ (nth_mem hif)
            have hT := ahF_take (nx := nx) (X := cutL (lev nx n s) n k) (l := []) hif
            rw [← hl.out] at hT
            have hsm : ∀ j (m : List Int), m = (nx (nth F i).toNat).take j → (ahR (cutL (lev nx n s) n k) m l').length ≤ n := fun j m hm => by
              rw [hl.out]
              refine HSML.out _ m (fun x hx => bF.out.1 x (List.mem_of_mem_take hx)) fun x hx => ?_
              rw [hm] at hx
              exact HIN.out _ (by omega) x (List.mem_of_mem_take hx)
            obtain ⟨a, ha⟩ : ∃ a : Nat, nth F i = (a : Int) := ⟨(nth F i).toNat, by omega⟩
            rw [ha] at g1 f1 f2 hT hsm
            rw [Int.toNat_natCast] at hT hsm
            have HT := Lib.hid hT
            have HS := Lib.hid hsm
            have HRB := Lib.hid (HIN.out a (by omega))
            obtain ⟨qr, crr, hW⟩ := HNX.out a (by omega)
            have HWW := Lib.hid hW
            have hb3' : Blk wr b3 66 #[.func (.func 50) #[.agg #[.slice po (n + 1) co, .slice pt nt ct, .slice pr nr cr, .slice pv nv cv]] #[]] := (HLOW.out _ (HC0.out.out S.ext)).x3.trans HB3.out
            have b3c := hb3'.cell 0
            have b3z := hb3'.lt
            clear hb3'
            have HC := Lib.hid (hW wr (HLOW.out _ (HC0.out.out S.ext)).low).2
            have e1 : (0:Int) ≤ i := by omega
            have e2 : (i:Int) < F.length := by omega
            generalize nx a = RW at *
            have SH := Lib.hid S; clear S
            clear ha hT hsm hW hl
            go_wp2_with (go_at_call 50; go_must (refine HC.out.mono ?_; rintro e w5 ⟨rfl, hb⟩; have S5 := Lib.hid (SH.out.call hb); clear hb))
            have nrw := (HWW.out _ (HLOW.out _ (HC0.out.out S5.out.ext)).low).1.small
            have prw := (HWW.out _ (HLOW.out _ (HC0.out.out S5.out.ext)).low).1.ptr
            go_loopw [8, 12, 42] (fun v8 _ v42 wx => ∃ (j : Nat) (l2 : List Int) (q3 : Option Addr) (c3 : Nat) (Zd : World), j ≤ RW.length ∧ v42 = .int .i64 j ∧ v8 = .slice q3 l2.length c3 ∧ Hid (l2 = ahR (cutL (lev nx n s) n k) (RW.take j) l') ∧ Cur gs 4 W3 Zd (seenL (cutL (lev nx n s) n k) l2 n) ∧ Sep Zd wx [.own 3 1 q3 l2.length c3 (encI l2)]) (fun _ _ v42 _ => RW.length - (intOf v42).toNat)
            case atStart => exact ⟨0, l', q2, c2, Zc, Nat.zero_le _, rfl, rfl, rfl, HC0.out, S5.out⟩
            case round =>
              clear SH S5 HC b3c b3z g1 HC0
              obtain ⟨j, l2, q3, c3, Zd, hj, rfl, rfl, hl2, hC, S⟩ := hrel
              have HC1 := Lib.hid hC
              clear hC
              by_cases hlj : j < RW.length
              · have g1 := (HWW.out _ (HLOW.out _ (HC1.out.out S.ext)).low).1.cI hlj
                obtain ⟨r1, r2⟩ := HRB.out _ (nth_mem hlj)
                have hst := ahR_take (X := cutL (lev nx n s) n k) (l := l') hlj
                rw [← hl2.out] at hst
                have hlen := HS.out j _ rfl
                rw [← hl2.out] at hlen
                obtain ⟨b, hb⟩ : ∃ b : Nat, nth RW j = (b : Int) := ⟨(nth RW j).toNat, by omega⟩
                rw [hb] at g1 r1 r2 hst
                have e3 : (0:Int) ≤ j := by omega
                have e4 : (j:Int) < RW.length := by omega
                have pq3 := (S.rdx 0 rfl).ptr
                have hBw : Blk wr gs 4 (seenL (cutL (lev nx n s) n k) l2 n).toArray := HC1.out.blk.ext S.ext
                have fz := hBw.frozen b
                have cz := hBw.cell b
                have gz := hBw.lt
                rw [List.getElem?_toArray] at cz
                clear hBw
                have hat := seenL_at (X := cutL (lev nx n s) n k) (l := l2) (n := n) (v := b) (by omega)
                have hnn : 0 ≤ b ∧ (b:Int) < n := ⟨by omega, r2⟩
                clear hl2 hb
                cases hsn : (decide (0 ≤ nth (cutL (lev nx n s) n k) b) || decide ((b : Int) ∈ l2)) with
                | true =>
                  have HST : Hid (ahR (cutL (lev nx n s) n k) (RW.take (j + 1)) l' = l2) := by
                    unfold Hid; rw [hst]; unfold ah1; rw [if_neg]
                    rw [Int.toNat_natCast]
                    rw [Bool.or_eq_true, decide_eq_true_eq, decide_eq_true_eq] at hsn
                    rintro ⟨h1, h2⟩
                    rcases hsn with h | h
                    · omega
                    · exact h2 h
                  rw [hsn] at hat
                  rw [hat] at cz
                  have SH := Lib.hid S; clear S
                  clear hst hat hsn fz
                  go_wp2
                  go_roundw
                  case rel => exact ⟨j + 1, l2, q3, c3, Zd, by omega, by go_num, rfl, HST.out.symm, HC1.out, SH.out⟩
                  case measure => simp [intOf]; omega
                | false =>
                  have HST : Hid (ahR (cutL (lev nx n s) n k) (RW.take (j + 1)) l' = l2 ++ [(b:Int)]) := by
                    unfold Hid; rw [hst]; unfold ah1; rw [if_pos]
                    rw [Int.toNat_natCast]
                    rw [Bool.or_eq_false_iff, decide_eq_false_iff_not, decide_eq_false_iff_not] at hsn
                    exact ⟨by omega, hsn.2⟩
                  rw [hsn] at hat
                  rw [hat] at cz
                  have hnb : b < n := by omega
                  have SH := Lib.hid S; clear S
                  clear hst hat hsn
                  have HR1 : Hid (Rd ((wr.setCell ⟨gs, b, none⟩ (.bool true)).alloc (.cells #[.int .i64 (b:Int)] 3)) 1 (some ⟨wr.heap.size, 0, none⟩) 1 (encI [(b:Int)])) := by
                    have h := Rd.oneI (wr.setCell ⟨gs, b, none⟩ (.bool true)) 3 (b:Int)
                    have e : (wr.setCell ⟨gs, b, none⟩ (.bool true)).heap.size = wr.heap.size := by simp
                    rw [e] at h; exact h
                  go_wp2_with (at_builtin; go_must (refine wpList_append_sep rfl _ _ _ rfl 3 i0 _ 1 8 Tryz.underlying22 hi0 hz0 hz1 hz2 rfl (by omega) ((SH.out.both (p := ⟨gs, b, none⟩) (by show gs < Zd.heap.size; rw [HC1.out.size]; exact HC1.out.lt) (.bool true)).junk _) 0 q3 l2.length c3 _ rfl rfl _ 1 1 _ rfl HR1.out (one_encI _) (by omega) (by omega) ?_; intro q' c' w7 S' hsz; have S6 := Lib.hid S'; clear S' hsz))
                  go_roundw
                  case rel => exact ⟨j + 1, l2 ++ [(b:Int)], q', c', _, by omega, by go_num, by rw [List.length_append]; rfl, HST.out.symm, by rw [← seenL_set hnb]; exact HC1.out.set (.bool true), by rw [List.length_append, encI_append]; exact S6.out⟩
                  case measure => simp [intOf]; omega
              · obtain rfl : j = RW.length := by omega
                have HL2 : Hid (l2 = ahF nx (cutL (lev nx n s) n k) (F.take (i + 1)) []) := by
                  unfold Hid; rw [HT.out, hl2.out, List.take_length]
                have SH := Lib.hid S; clear S
                clear hl2
                go_wp2
                go_roundw
                case rel => exact ⟨i + 1, l2, q3, c3, Zd, by omega, by go_num, rfl, HL2.out, HC1.out, SH.out⟩
                case measure => simp [intOf]; omega
          · obtain rfl : i = F.length := by omega
            have hl' := hl.out
            rw [List.take_length] at hl'
            have hF2 : IsFront (lev nx n s) n ((k + 1 : Nat) : Int) l' := by
              rw [hl']
              exact front_next hs HIN.out HF.out fun v hv => by rw [cutL_nth hv]; exact cut_lt
            have HBN : Hid (Blk wr gs 4 (seenL (cutL (lev nx n s) n (k + 1 : Nat)) [] n).toArray) := by
              rw [← seenL_next hF2]; exact HC0.out.blk.ext S.ext
            have HF2 := Lib.hid hF2
            have HLX := Lib.hid (HLOW.out _ (HC0.out.out S.ext))
            have HN := Lib.hid (fun h => (S.blt 0 rfl h : Zc.heap.size ≤ (adr q2 0).block ∧ _))
            have hZs := HC0.out.size
            have HJX := Lib.hid (HJ.out _ _ (fun kk => kk = gs ∨ (0 < l'.length ∧ kk = (adr q2 0).block)) W3 wr HJ3.out ⟨(HC0.out.out S.ext).os, (HC0.out.out S.ext).tape, (HC0.out.out S.ext).output, (HC0.out.out S.ext).size, fun kk hk hm => (HC0.out.out S.ext).block kk hk fun e => hm (.inl e)⟩ (fun kk hk => by
              rcases hk with rfl | ⟨h, rfl⟩
              · exact .inl (.inl rfl)
              · exact .inr (by have := (HN.out h).1; omega)))
            have HR4 := Lib.hid (S.rdx 0 rfl)
            have hsx : W.heap.size ≤ wr.heap.size := by have := (HC0.out.out S.ext).size; omega
            have HQ4 : Hid (0 < l'.length → W.heap.size ≤ (adr q2 0).block) := fun h => by have := (HN.out h).1; omega
            clear hl hl' hF2 S
            go_wp2
            gi_wp2
            go_roundw
            case rel => exact ⟨k + 1, _, l', q2, c2, by omega, by go_num, rfl, HF2.out, hp2.out, HJX.out, HR4.out, HQ4.out, HBN.out, hsx, HLX.out⟩
            case measure => simp [intOf]; omega
      · have HX3 := Lib.hid hJx3
        clear hJx3
        gi_wp2
        go_end0
        exact ⟨⟨_, rfl⟩, .inr ⟨_, _, by
          have h := hp2.out
          have h2 := congrArg List.length h
          rw [List.length_map, List.length_range] at h2
          rw [h, h2], HX3.out⟩⟩
set_option maxRecDepth 100000 in
set_option maxHeartbeats 16000000 in
theorem frontm_in (n1 : Nat) (hn1 : 1 ≤ n1) (po : Option Addr) (no co : Nat) (pt : Option Addr) (nt ct : Nat) (pr : Option Addr) (nr cr : Nat) (pv : Option Addr) (nv cv : Nat) (b1 b2 b3 n₀ n s : Nat) (nx : Nat → List Int) (w : World) (hw : n₀ ≤ w.heap.size)
    (hb1 : Blk w b1 57 #[.slice po no co, .slice pt nt ct, .slice pr nr cr, .slice pv nv cv]) (hb2 : Blk w b2 3 #[.int .i64 s]) (hb3 : Blk w b3 66 #[.func (.func 49) #[.agg #[.slice po no co, .slice pt nt ct, .slice pr nr cr, .slice pv nv cv]] #[]])
    (hs : s < n) (hn : n ≤ 200) (hno : no = n + 1) (hin : InN nx n)
    (HN : ∀ k, k < n → ∃ q c, ∀ W, Below n₀ w W → Rd W 1 q (nx k).length (encI (nx k)) ∧ Calls Tryz.prog 49 #[.agg #[.slice po no co, .slice pt nt ct, .slice pr nr cr, .slice pv nv cv], .int .i64 k] W fun e w' => e = .returned (.slice q (nx k).length c) ∧ Ext W w') :
    SeqM Fence.wide n1 Tryz.prog 47 #[.pointer (some ⟨b1, 0, none⟩), .pointer (some ⟨b2, 0, none⟩), .pointer (some ⟨b3, 0, none⟩)] (ylE : YlOf nx n s → Array Value) ylM (KpM n₀ b1 b2 b3) ylS (fun pre => pre.map (·.1.k) = List.range pre.length) n w := by
  intro l J Jx W hW hJ hJx hY h0
  obtain ⟨i0, hi0, hz0, hz1, hz2⟩ := info_parts infI
  obtain ⟨j0, hj0, hy0, hy1, hy2⟩ := info_parts infB
  have hBk := hW.size
  have q1 := hb1.lt
  have q2 := hb2.lt
  have q3 := hb3.lt
  have LW := Lib.hid (⟨hW.mono hw, hW.block b1 q1, hW.block b2 q2, hW.block b3 q3⟩ : LowF n₀ b1 b2 b3 w W)
  have HSZ := Lib.hid (fun W' => waysSize po no co pt nt ct pr nr cr pv nv cv W' (by omega) (by omega))
  have B1 : Blk W b1 57 #[.slice po no co, .slice pt nt ct, .slice pr nr cr, .slice pv nv cv] := LW.out.x1.trans hb1
  have B2 : Blk W b2 3 #[.int .i64 s] := LW.out.x2.trans hb2
  have B3 : Blk W b3 66 #[.func (.func 49) #[.agg #[.slice po no co, .slice pt nt ct, .slice pr nr cr, .slice pv nv cv]] #[]] := LW.out.x3.trans hb3
  have HB1 := Lib.hid hb1
  have HB2 := Lib.hid hb2
  have HB3 := Lib.hid hb3
  have HNX := Lib.hid HN
  have HIN := Lib.hid hin
  subst hno
  have HJ := Lib.hid hJ; clear hJ
  have HY := Lib.hid hY; clear hY
  clear hJx hW HN hin hb1 hb2 hb3
  have c10 := B1.cell 0
  have c11 := B1.cell 1
  have c12 := B1.cell 2
  have c13 := B1.cell 3
  have c20 := B2.cell 0
  have z1 := B1.lt
  have z2 := B2.lt
  clear B1 B2 B3
  refine callsIn_of_wp Tryz.func47 rfl trivial ?_ rfl
  simp only [Tryz.ntmps47, List.size_toArray, List.length_cons, List.length_nil, Nat.reduceAdd, Nat.reduceSub, Array.replicate_succ, Array.replicate_zero, List.push_toArray, List.append_toArray, List.nil_append, List.cons_append]
  refine wpIn_seq_k fun K hK => wpIn_wide.2 ?_
  go_wp2_with (first
    | (at_make; go_must (refine wpList_make_sep rfl _ _ _ rfl 4 j0 _ 1 Tryz.underlying42 hj0 hy0 hy1 (n:Int) n rfl rfl rfl (by rw [hy2]; omega) (by unfold maxLen; omega) S1.out ?_; intro w2 S'; rw [made_bool] at S'; have S2 := Lib.hid S'; clear S'))
    | (go_at_call 30; go_must (refine (HSZ.out _).mono ?_; rintro e w1 ⟨rfl, hb⟩; have S1 := Lib.hid ((Sep.start W).call hb); clear hb)))
  obtain ⟨gs, hq, hgs, hB⟩ := own_blk (S2.out.own 0 rfl) (by omega)
  rw [hq]
  have E2 := Lib.hid S2.out.ext
  have Bs := Lib.hid (hB : Blk w2 gs 4 (List.replicate n (.bool false)).toArray)
  clear hq hB S2 S1
  have c20a := E2.out.cell c20
  have z2a := Nat.lt_of_lt_of_le z2 E2.out.size
  have bz := Bs.out.lt
  have fz := Bs.out.frozen s
  have cz : w2.cell? ⟨gs, s, none⟩ = some (.bool false) := by rw [Bs.out.cell s, List.getElem?_toArray]; simp [hs]
  have d1 : (0:Int) ≤ s := by omega
  have d2 : (s:Int) < n := by omega
  refine wpIn_seq_k fun K2 hK2 => wpIn_wide.2 ?_
  go_wp2
  refine wpIn_seq_k fun K3 hK3 => wpIn_wide.2 ?_
  obtain ⟨X, hX⟩ : ∃ X, X = w2.setCell ⟨gs, s, none⟩ (.bool true) := ⟨_, rfl⟩
  have BX : Hid (Blk X gs 4 (seenL (cutL (lev nx n s) n (0 : Nat)) [] n).toArray) := by
    rw [hX, ← seenL_0 (nx := nx) hs]
    have h := Bs.out.set_ s (.bool true)
    rw [List.setIfInBounds_toArray] at h
    exact h
  have EX : Hid (Ext W X) := by rw [hX]; exact E2.out.setCell (p := ⟨gs, s, none⟩) hgs (.bool true)
  rw [← hX]
  clear hX fz cz c20a z2a bz Bs E2
  have g2 := EX.out.cell c20
  have x2 := fun x : ExtOf X => x.ext.cell g2
  refine wp_region_mix [true, false, true, false] (StQ X.heap.size s) (by kernel_rfl) (by kernel_rfl) (by kernel_rfl) StQ_mono ?_
  simp only [nfM]
  repeat (go_big_quiet_step ((fail)))
  refine wpQuiet_nil ⟨⟨fun vs W1 hE hd => ?_, fun vs W1 hE hd => ?_, trivial⟩, fun vs W1 hE hkn => ?_⟩
  · simp [putM, execOp, go_sem]
    exact ⟨fun _ => ⟨_, rfl, World.ownsRow_lit (base := X.heap.size) W1 #[.int .i64 (s:Int)] 1 hE.size (by decide) rfl⟩, Ext.alloc (Below.refl _ _) _⟩
  · have k0 := hd 1 (by decide +kernel) rfl
    simp [putM, execOp, go_sem]
    exact ⟨fun _ => k0 (.inl rfl), Below.refl _ _⟩
  simp only [knowM] at hkn
  have k3 := hkn.2.1 (.inr rfl)
  simp only [putM, List.length_cons, List.length_nil, Nat.zero_add, Nat.reduceAdd, List.drop_succ_cons, List.drop_zero]
  obtain ⟨qf0, k1, ho⟩ := k3
  rw [k1]
  generalize vs 1 = v20
  have E4 := Lib.hid (Ext.trans EX.out hE)
  have B4 := Lib.hid (BX.out.ext hE)
  have R4 := Lib.hid (Rd.of_own ho (by omega))
  have hqf : W.heap.size ≤ (adr qf0 0).block := by
    have h1 := (own_lt ho (k := (adr qf0 0).block) (by
      rcases (Rd.of_own ho (by omega)).ptr with h | ⟨b, o, rfl⟩
      · omega
      · rfl)).1
    have := EX.out.size
    omega
  have J4 := Lib.hid (HJ.out [] (fun _ => False) (fun k => k = gs ∨ (0 < [(s:Int)].length ∧ k = (adr qf0 0).block)) W W1 h0 ⟨E4.out.os, E4.out.tape, E4.out.output, E4.out.size, fun k hk _ => E4.out.block k hk⟩ (fun k hk => .inr (by rcases hk with rfl | ⟨_, rfl⟩ <;> omega)))
  have LW4 := Lib.hid (LW.out.far (Nat.le_trans hw hBk) (by omega) (by omega) (by omega) hBk (Below.refl _ _) E4.out)
  clear x2 g2 hE hkn k1 ho h0 EX BX
  simp [Act.put]
  go_wp2
  gi_wp2
  gi_loopw [6, 7, 8, 10, 12] (fun v6 v7 _ _ _ wr => ∃ (k : Nat) (pre : List (YlOf nx n s)) (F : List Int) (q : Option Addr) (c : Nat), k ≤ n ∧ v6 = .int .i64 k ∧ v7 = .slice q F.length c ∧ IsFront (lev nx n s) n k F ∧ pre.map (·.1.k) = List.range k ∧ J pre (fun k => k = gs ∨ (0 < F.length ∧ k = (adr q 0).block)) wr ∧ Rd wr 1 q F.length (encI F) ∧ (0 < F.length → W.heap.size ≤ (adr q 0).block) ∧ Blk wr gs 4 (seenL (cutL (lev nx n s) n k) [] n).toArray ∧ W.heap.size ≤ wr.heap.size ∧ LowF n₀ b1 b2 b3 w wr) (fun v6 _ _ _ _ _ => n - (intOf v6).toNat)
  case atStart => exact ⟨0, [], [(s:Int)], qf0, 1, Nat.zero_le _, rfl, rfl, front_0 hs, rfl, J4.out, R4.out, fun _ => hqf, B4.out, E4.out.size, LW4.out⟩
  case round =>
    clear J4 LW4 R4 B4 E4 c10 c11 c12 c13 c20 z1 z2 hqf
    obtain ⟨k, pre, F, q, c, hk, rfl, rfl, hF, hpre, hJs, hRF, hqB, hBl, hWs, hL⟩ := hrel
    have bF := Lib.hid (front_bd8 hF)
    by_cases hl0 : F.length = 0
    · obtain rfl : F = [] := List.eq_nil_of_length_eq_zero hl0
      have HEND : Hid (ylS pre) := ⟨by rw [hpre]; congr 1; have := congrArg List.length hpre; simp at this; omega, by
        have := congrArg List.length hpre
        simp at this
        rw [this]
        cases e : hasL n (lev nx n s) k with
        | false => rfl
        | true => exact absurd ((front_has hF).1 e) (by simp)⟩
      have HJs := Lib.hid hJs
      clear hF hpre hJs hL bF hl0 hRF hqB hBl
      gi_wp2
      refine ⟨fun f hf => (by cases hf), ?_⟩
      gi_wp2
      go_end0
      exact ⟨⟨_, rfl⟩, .inl ⟨pre, _, HEND.out, HJs.out⟩⟩
    · have lf : 0 < F.length := by omega
      have hkn : k < n := has_lt hs ((front_has hF).2 lf)
      have hplen : pre.length = k := by have := congrArg List.length hpre; simpa using this
      obtain ⟨x, hx⟩ : ∃ x : YlOf nx n s, x.1 = ⟨k, F, q, c⟩ := ⟨⟨⟨k, F, q, c⟩, hF, lf⟩, rfl⟩
      obtain ⟨fn, tmps, assign, body, hy, hR⟩ := HY.out pre x _ wr hJs (by unfold ylM; rw [hx]; exact ⟨hRF, .inr ⟨lf, rfl⟩, fun k hk => by rcases hk with rfl | ⟨h, rfl⟩ <;> first | exact hBl.lt | exact hRF.lt (by omega)⟩) (fun k hk => by rcases hk with rfl | ⟨_, rfl⟩ <;> first | exact hgs | exact hqB lf) (by omega)
      have hp2 : Hid ((pre ++ [x]).map (·.1.k) = List.range (k + 1)) := by
        unfold Hid; rw [List.map_append, hpre, List.range_succ]; simp [hx]
      have hxe : ylE x = #[.int .i64 k, .slice q F.length c] := by unfold ylE; rw [hx]
      rw [hxe] at hy
      clear hxe hx
      have c1 : decide ((0:Int) < F.length) = true := by simpa using lf
      have HF := Lib.hid hF
      have HLW := Lib.hid hL
      have HRF := Lib.hid hRF
      have HBl := Lib.hid hBl
      have HqB := Lib.hid (hqB lf)
      clear hF hL hpre hplen hl0 hJs hRF hBl hqB
      gi_wp2
      refine hR.mono ?_
      rintro e W3 (⟨rfl, hJ3, hk3⟩ | ⟨rfl, hJx3⟩)
      · have hs3 : W.heap.size ≤ W3.heap.size := by have := hk3.low.size; omega
        have HB3s := Lib.hid (hk3.up gs _ (.inl rfl) HBl.out rfl : Blk W3 gs 4 (seenL (cutL (lev nx n s) n k) [] n).toArray)
        have hcell := HRF.out.cI lf
        have hne : (adr q 0).block ≠ gs := fun e => by
          rcases HRF.out.ptr with h | ⟨b', o', rfl⟩
          · omega
          · rw [adr_some] at hcell e
            simp only at e
            subst e
            rw [HBl.out.cell, List.getElem?_toArray] at hcell
            have hlt := (List.getElem?_eq_some_iff.1 hcell).1
            rw [seenL_len] at hlt
            rw [seenL_at hlt] at hcell
            cases hcell
        obtain ⟨oF, hoF, hoC⟩ := cells_of_cell hcell
        have HR3 := Lib.hid (HRF.out.same (W' := W3) fun _ => by rw [hoF]; exact hk3.up _ oF (.inr ⟨lf, rfl⟩) hoF hoC)
        have hF3 : (adr q 0).block < W3.heap.size := HR3.out.lt (by omega)
        have L3 := Lib.hid (⟨HLW.out.low.trans hk3.low, hk3.x1.trans HLW.out.x1, hk3.x2.trans HLW.out.x2, hk3.x3.trans HLW.out.x3⟩ : LowF n₀ b1 b2 b3 w W3)
        have HJ3 := Lib.hid hJ3
        have HLOW : Hid (∀ wx, Chg (fun k => k = gs) W3 wx → LowF n₀ b1 b2 b3 w wx) := fun wx hc => L3.out.chg hc (by omega) hw (by omega) (by omega) (by omega) (by omega)
        have HRX : Hid (∀ wx, Chg (fun k => k = gs) W3 wx → Rd wx 1 q F.length (encI F)) := fun wx hc => HR3.out.same fun _ => hc.block _ hF3 hne
        clear hcell hoF hoC
        have HSML : Hid (∀ (G m : List Int), (∀ x : Int, x ∈ G → 0 ≤ x ∧ x < n) → (∀ x : Int, x ∈ m → 0 ≤ x ∧ x < n) → (ahR (cutL (lev nx n s) n k) m (ahF nx (cutL (lev nx n s) n k) G [])).length ≤ n) := fun G m hG hm =>
          nodup_small (ahR_nodup (ahF_nodup List.nodup_nil)) fun x hx => by
            rcases ahR_mem.1 hx with h | ⟨h, _⟩
            · rcases ahF_mem.1 h with h | ⟨v, h3, h4, _⟩
              · cases h
              · obtain ⟨h5, h6⟩ := hG v h3
                exact HIN.out v.toNat (by omega) x h4
            · exact hm x h
        clear hJ3 hk3 hR hy HLW HRF HBl
        gi_wp2
        refine wpIn_wide.2 ?_
        go_loopw [8, 10, 12, 34] (fun v8 _ _ v34 wx => ∃ (i : Nat) (l' : List Int) (q2 : Option Addr) (c2 : Nat) (Zc : World), i ≤ F.length ∧ v34 = .int .i64 i ∧ v8 = .slice q2 l'.length c2 ∧ Hid (l' = ahF nx (cutL (lev nx n s) n k) (F.take i) []) ∧ Cur gs 4 W3 Zc (seenL (cutL (lev nx n s) n k) l' n) ∧ Sep Zc wx [.own 3 1 q2 l'.length c2 (encI l')]) (fun _ _ _ v34 _ => F.length - (intOf v34).toNat)
        case atStart => exact ⟨0, [], none, 0, W3, Nat.zero_le _, rfl, rfl, rfl, Cur.start HB3s.out, (Sep.start W3).nilrow 3 1⟩
        case round =>
          clear HB3s
          obtain ⟨i, l', q2, c2, Zc, hi, rfl, rfl, hl, hC, S⟩ := hrel
          have HC0 := Lib.hid hC
          clear hC
          have pF := HR3.out.ptr
          have hF200 : F.length ≤ 200 := by have := bF.out.2; omega
          by_cases hif : i < F.length
          · have g1 := (HRX.out _ (HC0.out.out S.ext)).cI hif
            obtain ⟨f1, f2⟩ := bF.out.1 _ (nth_mem hif)
            have hT := ahF_take (nx := nx) (X := cutL (lev nx n s) n k) (l := []) hif
            rw [← hl.out] at hT
            have hsm : ∀ j (m : List Int), m = (nx (nth F i).toNat).take j → (ahR (cutL (lev nx n s) n k) m l').length ≤ n := fun j m hm => by
              rw [hl.out]
              refine HSML.out _ m (fun x hx => bF.out.1 x (List.mem_of_mem_take hx)) fun x hx => ?_
              rw [hm] at hx
              exact HIN.out _ (by omega) x (List.mem_of_mem_take hx)
            obtain ⟨a, ha⟩ : ∃ a : Nat, nth F i = (a : Int) := ⟨(nth F i).toNat, by omega⟩
            rw [ha] at g1 f1 f2 hT hsm
            rw [Int.toNat_natCast] at hT hsm
            have HT := Lib.hid hT
            have HS := Lib.hid hsm
            have HRB := Lib.hid (HIN.out a (by omega))
            obtain ⟨qr, crr, hW⟩ := HNX.out a (by omega)
            have HWW := Lib.hid hW
            have hb3' : Blk wr b3 66 #[.func (.func 49) #[.agg #[.slice po (n + 1) co, .slice pt nt ct, .slice pr nr cr, .slice pv nv cv]] #[]] := (HLOW.out _ (HC0.out.out S.ext)).x3.trans HB3.out
            have b3c := hb3'.cell 0
            have b3z := hb3'.lt
            clear hb3'
            have HC := Lib.hid (hW wr (HLOW.out _ (HC0.out.out S.ext)).low).2
            have e1 : (0:Int) ≤ i := by omega
            have e2 : (i:Int) < F.length := by omega
            generalize nx a = RW at *
            have SH := Lib.hid S; clear S
            clear ha hT hsm hW hl
            go_wp2_with (go_at_call 49; go_must (refine HC.out.mono ?_; rintro e w5 ⟨rfl, hb⟩; have S5 := Lib.hid (SH.out.call hb); clear hb))
            have nrw := (HWW.out _ (HLOW.out _ (HC0.out.out S5.out.ext)).low).1.small
            have prw := (HWW.out _ (HLOW.out _ (HC0.out.out S5.out.ext)).low).1.ptr
            go_loopw [8, 12, 42] (fun v8 _ v42 wx => ∃ (j : Nat) (l2 : List Int) (q3 : Option Addr) (c3 : Nat) (Zd : World), j ≤ RW.length ∧ v42 = .int .i64 j ∧ v8 = .slice q3 l2.length c3 ∧ Hid (l2 = ahR (cutL (lev nx n s) n k) (RW.take j) l') ∧ Cur gs 4 W3 Zd (seenL (cutL (lev nx n s) n k) l2 n) ∧ Sep Zd wx [.own 3 1 q3 l2.length c3 (encI l2)]) (fun _ _ v42 _ => RW.length - (intOf v42).toNat)
            case atStart => exact ⟨0, l', q2, c2, Zc, Nat.zero_le _, rfl, rfl, rfl, HC0.out, S5.out⟩
            case round =>
              clear SH S5 HC b3c b3z g1 HC0
              obtain ⟨j, l2, q3, c3, Zd, hj, rfl, rfl, hl2, hC, S⟩ := hrel
              have HC1 := Lib.hid hC
              clear hC
              by_cases hlj : j < RW.length
              · have g1 := (HWW.out _ (HLOW.out _ (HC1.out.out S.ext)).low).1.cI hlj
                obtain ⟨r1, r2⟩ := HRB.out _ (nth_mem hlj)
                have hst := ahR_take (X := cutL (lev nx n s) n k) (l := l') hlj
                rw [← hl2.out] at hst
                have hlen := HS.out j _ rfl
                rw [← hl2.out] at hlen
                obtain ⟨b, hb⟩ : ∃ b : Nat, nth RW j = (b : Int) := ⟨(nth RW j).toNat, by omega⟩
                rw [hb] at g1 r1 r2 hst
                have e3 : (0:Int) ≤ j := by omega
                have e4 : (j:Int) < RW.length := by omega
                have pq3 := (S.rdx 0 rfl).ptr
                have hBw : Blk wr gs 4 (seenL (cutL (lev nx n s) n k) l2 n).toArray := HC1.out.blk.ext S.ext
                have fz := hBw.frozen b
                have cz := hBw.cell b
                have gz := hBw.lt
                rw [List.getElem?_toArray] at cz
                clear hBw
                have hat := seenL_at (X := cutL (lev nx n s) n k) (l := l2) (n := n) (v := b) (by omega)
                have hnn : 0 ≤ b ∧ (b:Int) < n := ⟨by omega, r2⟩
                clear hl2 hb
                cases hsn : (decide (0 ≤ nth (cutL (lev nx n s) n k) b) || decide ((b : Int) ∈ l2)) with
                | true =>
                  have HST : Hid (ahR (cutL (lev nx n s) n k) (RW.take (j + 1)) l' = l2) := by
                    unfold Hid; rw [hst]; unfold ah1; rw [if_neg]
                    rw [Int.toNat_natCast]
                    rw [Bool.or_eq_true, decide_eq_true_eq, decide_eq_true_eq] at hsn
                    rintro ⟨h1, h2⟩
                    rcases hsn with h | h
                    · omega
                    · exact h2 h
                  rw [hsn] at hat
                  rw [hat] at cz
                  have SH := Lib.hid S; clear S
                  clear hst hat hsn fz
                  go_wp2
                  go_roundw
                  case rel => exact ⟨j + 1, l2, q3, c3, Zd, by omega, by go_num, rfl, HST.out.symm, HC1.out, SH.out⟩
                  case measure => simp [intOf]; omega
                | false =>
                  have HST : Hid (ahR (cutL (lev nx n s) n k) (RW.take (j + 1)) l' = l2 ++ [(b:Int)]) := by
                    unfold Hid; rw [hst]; unfold ah1; rw [if_pos]
                    rw [Int.toNat_natCast]
                    rw [Bool.or_eq_false_iff, decide_eq_false_iff_not, decide_eq_false_iff_not] at hsn
                    exact ⟨by omega, hsn.2⟩
                  rw [hsn] at hat
                  rw [hat] at cz
                  have hnb : b < n := by omega
                  have SH := Lib.hid S; clear S
                  clear hst hat hsn
                  have HR1 : Hid (Rd ((wr.setCell ⟨gs, b, none⟩ (.bool true)).alloc (.cells #[.int .i64 (b:Int)] 3)) 1 (some ⟨wr.heap.size, 0, none⟩) 1 (encI [(b:Int)])) := by
                    have h := Rd.oneI (wr.setCell ⟨gs, b, none⟩ (.bool true)) 3 (b:Int)
                    have e : (wr.setCell ⟨gs, b, none⟩ (.bool true)).heap.size = wr.heap.size := by simp
                    rw [e] at h; exact h
                  go_wp2_with (at_builtin; go_must (refine wpList_append_sep rfl _ _ _ rfl 3 i0 _ 1 8 Tryz.underlying22 hi0 hz0 hz1 hz2 rfl (by omega) ((SH.out.both (p := ⟨gs, b, none⟩) (by show gs < Zd.heap.size; rw [HC1.out.size]; exact HC1.out.lt) (.bool true)).junk _) 0 q3 l2.length c3 _ rfl rfl _ 1 1 _ rfl HR1.out (one_encI _) (by omega) (by omega) ?_; intro q' c' w7 S' hsz; have S6 := Lib.hid S'; clear S' hsz))
                  go_roundw
                  case rel => exact ⟨j + 1, l2 ++ [(b:Int)], q', c', _, by omega, by go_num, by rw [List.length_append]; rfl, HST.out.symm, by rw [← seenL_set hnb]; exact HC1.out.set (.bool true), by rw [List.length_append, encI_append]; exact S6.out⟩
                  case measure => simp [intOf]; omega
              · obtain rfl : j = RW.length := by omega
                have HL2 : Hid (l2 = ahF nx (cutL (lev nx n s) n k) (F.take (i + 1)) []) := by
                  unfold Hid; rw [HT.out, hl2.out, List.take_length]
                have SH := Lib.hid S; clear S
                clear hl2
                go_wp2
                go_roundw
                case rel => exact ⟨i + 1, l2, q3, c3, Zd, by omega, by go_num, rfl, HL2.out, HC1.out, SH.out⟩
                case measure => simp [intOf]; omega
          · obtain rfl : i = F.length := by omega
            have hl' := hl.out
            rw [List.take_length] at hl'
            have hF2 : IsFront (lev nx n s) n ((k + 1 : Nat) : Int) l' := by
              rw [hl']
              exact front_next hs HIN.out HF.out fun v hv => by rw [cutL_nth hv]; exact cut_lt
            have HBN : Hid (Blk wr gs 4 (seenL (cutL (lev nx n s) n (k + 1 : Nat)) [] n).toArray) := by
              rw [← seenL_next hF2]; exact HC0.out.blk.ext S.ext
            have HF2 := Lib.hid hF2
            have HLX := Lib.hid (HLOW.out _ (HC0.out.out S.ext))
            have HN := Lib.hid (fun h => (S.blt 0 rfl h : Zc.heap.size ≤ (adr q2 0).block ∧ _))
            have hZs := HC0.out.size
            have HJX := Lib.hid (HJ.out _ _ (fun kk => kk = gs ∨ (0 < l'.length ∧ kk = (adr q2 0).block)) W3 wr HJ3.out ⟨(HC0.out.out S.ext).os, (HC0.out.out S.ext).tape, (HC0.out.out S.ext).output, (HC0.out.out S.ext).size, fun kk hk hm => (HC0.out.out S.ext).block kk hk fun e => hm (.inl e)⟩ (fun kk hk => by
              rcases hk with rfl | ⟨h, rfl⟩
              · exact .inl (.inl rfl)
              · exact .inr (by have := (HN.out h).1; omega)))
            have HR4 := Lib.hid (S.rdx 0 rfl)
            have hsx : W.heap.size ≤ wr.heap.size := by have := (HC0.out.out S.ext).size; omega
            have HQ4 : Hid (0 < l'.length → W.heap.size ≤ (adr q2 0).block) := fun h => by have := (HN.out h).1; omega
            clear hl hl' hF2 S
            go_wp2
            gi_wp2
            go_roundw
            case rel => exact ⟨k + 1, _, l', q2, c2, by omega, by go_num, rfl, HF2.out, hp2.out, HJX.out, HR4.out, HQ4.out, HBN.out, hsx, HLX.out⟩
            case measure => simp [intOf]; omega
      · have HX3 := Lib.hid hJx3
        clear hJx3
        gi_wp2
        go_end0
        exact ⟨⟨_, rfl⟩, .inr ⟨_, _, by
          have h := hp2.out
          have h2 := congrArg List.length h
          rw [List.length_map, List.length_range] at h2
          rw [h, h2], HX3.out⟩⟩
end Go.Proofs.YtblghmfhchlllaaGreat
/- The reference's rows: in, row. -/
namespace Go.Proofs.YtblghmfhchlllaaGreat
open Go Go.RowKit
theorem In04x (p : Option Addr) (n c : Nat) (l : List Int) (x : Int) (w : World) (hl : Rd w 1 p n (encI l)) :
    Calls Tryz.prog 89 #[.slice p n c, .int .i64 x] w fun e w' => e = .returned (.bool (inB l x)) ∧ Ext w w' := by
  have p1 := hl.ptr
  have n1 := hl.small
  have L1 := Lib.hid hl.nI
  have HL := Lib.hid hl; clear hl
  go_enter Tryz.func89, Tryz.ntmps89
  go_wp2
  go_loop [5] (fun i => ∃ k : Nat, k ≤ n ∧ i = .int .i64 k ∧ (l.take k).any (fun y => y == x) = false) (fun i => n - (intOf i).toNat)
  case atStart => exact ⟨0, Nat.zero_le _, rfl, rfl⟩
  case round =>
    obtain ⟨k, hk, rfl, ha⟩ := hrel
    have HA := Lib.hid ha; clear ha
    by_cases hlt : k < n
    · have g1 := HL.out.cI hlt
      have d1 : (0:Int) ≤ k := by omega
      have d2 : (k:Int) < n := by omega
      have hkL : k < l.length := by rw [← L1.out]; exact hlt
      cases hq : (nth l k == x) with
      | true =>
        have HF : Hid (inB l x = true) := any_true_at (fun y : Int => y == x) l k hkL hq
        go_wp2
        go_ret
        exact ⟨ret_bool HF.out.symm, Below.refl _ _⟩
      | false =>
        have HF := Lib.hid (any_step (fun y : Int => y == x) l k hkL HA.out hq)
        go_wp2
        go_round
        case rel => exact ⟨k + 1, by omega, by go_num, HF.out⟩
        case measure => simp [intOf]; omega
    · have HF : Hid (inB l x = false) := any_end (fun y : Int => y == x) l k (by rw [← L1.out]; exact hlt) HA.out
      go_wp2
      go_ret
      exact ⟨ret_bool HF.out.symm, Below.refl _ _⟩
set_option maxRecDepth 100000 in
set_option maxHeartbeats 2000000 in
theorem row04 (po : Option Addr) (no co : Nat) (O : List Int) (pt : Option Addr) (nt ct : Nat) (T : List Int) (k : Nat) (w : World) (hO : Rd w 1 po no (encI O)) (hT : Rd w 1 pt nt (encI T)) (hct : nt ≤ ct) (hok : OffOk O T) (hk1 : k + 1 < O.length) (hlen : T.length ≤ 100000) :
    Calls Tryz.prog 66 #[.slice po no co, .slice pt nt ct, .int .i64 k] w fun e w' => ∃ q c, e = .returned (.slice q (rowL O T k).length c) ∧ Sep w w' [.own 3 1 q (rowL O T k).length c (encI (rowL O T k))] := by
  have na1 := hO.small
  have l1 := hO.nI
  have l2 := hT.nI
  have pA := hO.ptr
  have q1 := hok.lo k (by omega)
  have q2 := hok.le k hk1
  have q3 := hok.hi (k + 1) hk1
  have hrl := rowL_len hok hk1
  have RL0 := hT.rowOf hok hct hk1
  have g1 := hO.cI (k := k) (by omega)
  have g2 := hO.cI (k := k + 1) (by omega)
  obtain ⟨a, ha⟩ : ∃ a : Nat, nth O k = (a : Int) := ⟨(nth O k).toNat, by omega⟩
  obtain ⟨c, hc⟩ : ∃ c : Nat, nth O (k + 1) = (c : Int) := ⟨(nth O (k + 1)).toNat, by omega⟩
  rw [ha] at q1 q2 hrl RL0 g1
  rw [hc] at q2 q3 hrl RL0 g2
  simp only [Int.toNat_natCast] at hrl RL0
  have hq3 : (c:Int) ≤ ct := by omega
  have HLEN : Hid (c - a ≤ 1000000) := by unfold Hid; omega
  have d1 : (0:Int) ≤ k := by omega
  have d2 : (k:Int) < no := by omega
  have d3 : (0:Int) ≤ (k:Int) + 1 := by omega
  have d4 : (k:Int) + 1 < no := by omega
  have HRL := Lib.hid hrl
  have RL := Lib.hid RL0
  clear hO hT hok ha hc hrl RL0 hlen l1 l2 q3 hk1
  rw [HRL.out]
  go_enter Tryz.func66, Tryz.ntmps66
  go_wp2
  have x1 := fun x : ExtOf w => x.ext.cell g1
  have x2 := fun x : ExtOf w => x.ext.cell g2
  refine wp_region_mix [true, true, true, true, true, true, true, true, true, true, true, false] (fun _ u W => ∃ q d, u = .slice q (c - a) d ∧ W.ownsRow w.heap.size 3 1 (.slice q (c - a) d) (c - a) (encI (rowL O T k))) (by kernel_rfl) (by kernel_rfl) (by kernel_rfl) (fun _ _ _ _ hE ⟨p, d, h1, h2⟩ => ⟨p, d, h1, hE.own h2⟩) ?_
  simp only [nfM]
  repeat (go_big_quiet_step ((fail)))
  refine wpQuiet_nil ⟨⟨fun vs W hE hd => ?_, trivial⟩, fun vs W hE hkn => ?_⟩
  · simp [putM, go_sem]
    exact (OwnI01 _ (c - a) _ (rowL O T k) W (RL.out.ext hE) HLEN.out).mono fun e w' ⟨q, d, h1, S⟩ => ⟨_, h1, ⟨q, d, rfl, own_base (S.own 0 rfl) hE.size⟩, S.ext⟩
  · obtain ⟨⟨q, d, hv, hown⟩, _⟩ := hkn
    have S5 := Lib.hid ((Sep.start w).fresh hE hown (Nat.le_refl _))
    simp only [putM, hv, List.length_cons, List.length_nil, Nat.zero_add, Nat.reduceAdd, List.drop_succ_cons, List.drop_zero]
    clear x1 x2 g1 g2 hv hown hE
    go_wp2
    go_ret
    exact ⟨q, d, rfl, S5.out⟩
end Go.Proofs.YtblghmfhchlllaaGreat
